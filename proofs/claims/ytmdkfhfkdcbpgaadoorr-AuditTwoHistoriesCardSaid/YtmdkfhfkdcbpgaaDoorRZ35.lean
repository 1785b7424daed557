/-
  Texts of the claim, put into one file: Links.
-/
import Derived.Test.YtmdkfhfkdcbpgaaDoorRZ34

namespace Go.Proofs.YtmdkfhfkdcbpgaaDoorR.Links
open Go Go.RowKit Go.Proofs.YtmdkfhfkdcbpgaaDoorR Go.Proofs.YtmdkfhfkdcbpgaaDoorR.Mem Go.Proofs.YtmdkfhfkdcbpgaaDoorR.Sha Go.Proofs.YtmdkfhfkdcbpgaaDoorR.Bytes Go.Proofs.YtmdkfhfkdcbpgaaDoorR.HashMem Go.Proofs.YtmdkfhfkdcbpgaaDoorR.DigestMem Go.Proofs.YtmdkfhfkdcbpgaaDoorR.Digest Go.Proofs.YtmdkfhfkdcbpgaaDoorR.DigestTop Go.Proofs.YtmdkfhfkdcbpgaaDoorR.RefTop Go.Proofs.YtmdkfhfkdcbpgaaDoorR.QuietTail Go.Proofs.YtmdkfhfkdcbpgaaDoorR.Grown Go.Proofs.YtmdkfhfkdcbpgaaDoorR.Chain Go.Proofs.YtmdkfhfkdcbpgaaDoorR.TreeMem Go.Proofs.YtmdkfhfkdcbpgaaDoorR.TreeRoot Go.Proofs.YtmdkfhfkdcbpgaaDoorR.Append Go.Proofs.YtmdkfhfkdcbpgaaDoorR.Held Go.Proofs.YtmdkfhfkdcbpgaaDoorR.Guard Go.Proofs.YtmdkfhfkdcbpgaaDoorR.Node Go.Proofs.YtmdkfhfkdcbpgaaDoorR.Texts Go.Proofs.YtmdkfhfkdcbpgaaDoorR.AheadT Go.Proofs.YtmdkfhfkdcbpgaaDoorR.RowsT Go.Proofs.YtmdkfhfkdcbpgaaDoorR.RowsY Go.Proofs.YtmdkfhfkdcbpgaaDoorR.TwoEvP Go.Proofs.YtmdkfhfkdcbpgaaDoorR.HistP Go.Proofs.YtmdkfhfkdcbpgaaDoorR.TextAt Go.Proofs.YtmdkfhfkdcbpgaaDoorR.Extract Go.Proofs.YtmdkfhfkdcbpgaaDoorR.Own Go.Proofs.YtmdkfhfkdcbpgaaDoorR.Book Go.Proofs.YtmdkfhfkdcbpgaaDoorR.Book2 Go.Proofs.YtmdkfhfkdcbpgaaDoorR.Links0

set_option maxRecDepth 100000 in
set_option maxHeartbeats 2000000 in
theorem links_any (s : Int) (hs63 : s < 9223372036854775808) (b : Text) (hb : b.length = 32) (es : List Text) (n : Nat) (hn : es.length = n) (hn1 : n ≤ 1000) (A : Option Addr) (c : Nat) (w : World) (hp : Pieces w A es) (hsh : ∀ q ∈ es, q.length < 140737488355327) :
    Calls Tryd.prog 53 #[.int .i64 s, .agg (cells8 b).toArray, .slice A n c] w fun e' w' => ∃ v xs, e' = .returned v ∧ w'.ownsRow w.heap.size 27 1 v (linksOf s b es).length xs ∧ Ty w' xs (linksOf s b es) ∧ Below w.heap.size w w' ∧ ((linksOf s b es).length = 0 → v = .slice none 0 0) := by
  obtain ⟨i0, ii, iz0, iz1, iz2⟩ := info_partsN infoT
  have hLf : Hid (∀ w', Below w.heap.size w w' → ∀ (q : Text) (k : Nat) (Ae : Option Addr) (ce : Nat), q.length = k → k < 140737488355327 → k ≤ ce → (Ae = none → k = 0 ∧ ce = 0) → Reads w' 1 Ae k (cells8 q) → Calls Tryd.prog 61 #[.int .i64 s, .slice Ae k ce] w' fun e w'' => e = .returned (.agg (cells8 (leafOf s q)).toArray) ∧ Below w'.heap.size w' w'') := fun w' hb2 q k Ae ce h1 h2 h3 h4 h5 => refleaf_any q k h1 Ae ce s w' hs63 (by omega) h5 h3 h4
  have hLk : Hid (∀ w', Below w.heap.size w w' → ∀ x y : Text, x.length = 32 → y.length = 32 → Calls Tryd.prog 60 #[.int .i64 s, .agg (cells8 x).toArray, .agg (cells8 y).toArray] w' fun e w'' => e = .returned (.agg (cells8 (linkOf s x y)).toArray) ∧ Below w'.heap.size w' w'') := fun w' hb2 x y hx hy => reflink_any x y hx hy s w' hs63
  have hN : Hid ((n : Int) < 9223372036854775807) := by show _ < _; omega
  have hN1 : Hid (n ≤ 1000) := hn1
  have hbl : Hid (b.length = 32) := hb
  have hC0 : Hid (Blk (w.alloc (.cells (cells8 b).toArray 23)) w.heap.size 23 (cells8 b).toArray) := Blk.new w _ _
  have hb2 : Hid (Below w.heap.size w (w.alloc (.cells (cells8 b).toArray 23))) := Below.heap_below w _
  have hO0 : Hid ((w.alloc (.cells (cells8 b).toArray 23)).ownsRow (w.heap.size + 1) 27 1 (.slice none 0 0) 0 []) := ⟨rfl, .inl ⟨rfl, rfl⟩⟩
  have hBS : Hid (w.heap.size + 1 ≤ (w.alloc (.cells (cells8 b).toArray 23)).heap.size) := by show _ ≤ _; simp
  replace hn := Lib.hid hn
  replace hp := Lib.hid hp
  replace hsh := Lib.hid hsh
  clear hb hn1 hs63
  go_enter Tryd.func53, Tryd.ntmps53
  go_wp2_with fail
  go_loopw [7, 8] (fun v u wr => ∃ (i : Nat) (xs : List Value) (v0 : Value), v = v0 ∧ u = .int .i64 (i : Int) ∧ Hid (i ≤ n) ∧ Hid (wr.ownsRow (w.heap.size + 1) 27 1 v0 (2 * i) xs) ∧ Hid (Ty wr xs (linksOf s b (es.take i))) ∧ Hid (Far (w.heap.size + 1) xs) ∧ Hid (2 * i = 0 → v0 = .slice none 0 0) ∧ Hid (Blk wr (w.heap.size) 23 (cells8 (chainOf s b (es.take i))).toArray) ∧ Hid (w.heap.size + 1 ≤ wr.heap.size) ∧ Hid (Below w.heap.size w wr)) (fun _ u _ => n - (intOf u).toNat)
  case atStart => exact ⟨0, [], _, rfl, rfl, (show 0 ≤ n by omega), hO0.out, Ty.nil_ _, (fun x h => by cases h), fun _ => rfl, hC0.out, hBS.out, hb2.out⟩
  case round =>
    clear hO0 hb2 hC0 hBS
    obtain ⟨i, xs, v, hv0, rfl, hi, hO, hT, hFr, hz, hC, hBS, hb⟩ := hrel
    have hv1 := hv0.symm
    subst hv1
    by_cases hlt : i < n
    · have y1 : (i : Int) < (n : Int) := by omega
      have y2 : (0 : Int) ≤ (i : Int) := by omega
      have hil : (i : Int) < 9223372036854775807 := by have := hN.out; omega
      obtain ⟨q, hq⟩ : ∃ q, Hid (es[i]? = some q) := ⟨_, List.getElem?_eq_getElem (by rw [hn.out]; exact hlt)⟩
      obtain ⟨bA, o, rfl, hbA, hcs⟩ := hp.out (by have := hn.out; omega)
      obtain ⟨Ae, ce, hc1, hc2, hc3, hc4⟩ := hcs i q hq.out
      have hcell : wr.cell? ⟨bA, o + i, none⟩ = some (.slice Ae q.length ce) := (hb.out.cell (p := ⟨bA, o + i, none⟩) hbA).trans hc1
      have hbAh := Lib.hid hbA
      obtain ⟨x, hx⟩ : ∃ x, Hid (x = chainOf s b (es.take i)) := ⟨_, rfl⟩
      have hxl : Hid (x.length = 32) := by show _ = _; rw [hx.out]; exact chainOf_len s b hbl.out _
      have hst := Lib.hid (chainOf_step s b es i q hq.out)
      have hls := Lib.hid (linksOf_step s b es i q hq.out)
      rw [← hx.out] at hC hst hls
      obtain ⟨ts, hts⟩ : ∃ ts, Hid (ts = linksOf s b (es.take i)) := ⟨_, rfl⟩
      have hm : Hid (ts.length = 2 * i) := by show _ = _; rw [hts.out, linksOf_len, List.length_take, hn.out]; omega
      rw [← hts.out] at hT hls
      obtain ⟨y, hy⟩ : ∃ y, Hid (y = leafOf s q) := ⟨_, rfl⟩
      obtain ⟨z, hz2⟩ : ∃ z, Hid (z = linkOf s x y) := ⟨_, rfl⟩
      have hyl : Hid (y.length = 32) := by show _ = _; rw [hy.out]; exact leafOf_len _ _
      have hzl : Hid (z.length = 32) := by show _ = _; rw [hz2.out]; exact linkOf_len _ _ _
      rw [← hy.out, ← hz2.out] at hst
      unfold stepTs at hls
      rw [← hy.out] at hls
      obtain ⟨q1, hq1⟩ : ∃ q1 : Text, Hid (kb 0 :: q = q1) := ⟨_, Lib.hid rfl⟩
      obtain ⟨q2, hq2⟩ : ∃ q2 : Text, Hid (kb 2 :: (x ++ y) = q2) := ⟨_, Lib.hid rfl⟩
      have hq1p : Hid (0 < q1.length) := by show _ < _; rw [← hq1.out]; exact Nat.succ_pos _
      have hq2p : Hid (0 < q2.length) := by show _ < _; rw [← hq2.out]; exact Nat.succ_pos _
      rw [hq1.out, hq2.out] at hls
      have hql := hsh.out q (List.mem_of_getElem? hq.out)
      have hrq : Hid (Reads wr 1 Ae q.length (cells8 q)) := hc3.below hb.out
      have hLf1 : Hid (Calls Tryd.prog 61 #[.int .i64 s, .slice Ae q.length ce] wr fun e w'' => e = .returned (.agg (cells8 y).toArray) ∧ Below wr.heap.size wr w'') := by
        have := hLf.out wr hb.out q q.length Ae ce rfl hql hc2 hc4 hrq.out
        rwa [← hy.out] at this
      have hLk1 : Hid (∀ w', Below w.heap.size w w' → Calls Tryd.prog 60 #[.int .i64 s, .agg (cells8 x).toArray, .agg (cells8 y).toArray] w' fun e w'' => e = .returned (.agg (cells8 z).toArray) ∧ Below w'.heap.size w' w'') := fun w' h => by
        have := hLk.out w' h x y hxl.out hyl.out
        rwa [← hz2.out] at this
      have hT1 : Hid (∀ w' g, Below wr.heap.size wr w' → Blk w' g 27 #[.slice Ae q.length ce] → Calls Tryd.prog 93 #[.int .i64 0, .slice (some ⟨g, 0, none⟩) 1 1] w' (TextPost w' q1)) := fun w' g h1 h2 => by
        rw [← hq1.out]
        exact reftext_leaf h2 (hrq.out.below h1) rfl hql hc2 hc4
      have hT2 : Hid (∀ w' g a b, Blk w' g 27 #[.slice (some ⟨a, 0, none⟩) 32 32, .slice (some ⟨b, 0, none⟩) 32 32] → Blk w' a 23 (cells8 x).toArray → Blk w' b 23 (cells8 y).toArray → Calls Tryd.prog 93 #[.int .i64 2, .slice (some ⟨g, 0, none⟩) 2 2] w' (TextPost w' q2)) := fun w' g a b h1 h2 h3 => by
        rw [← hq2.out]
        exact reftext_link h1 h2 h3 hxl.out hyl.out
      obtain ⟨k, hk⟩ : ∃ k, Hid (q.length = k) := ⟨_, Lib.hid rfl⟩
      rw [hk.out] at hcell hLf1 hT1
      clear hcs hc1 hc2 hc3 hc4 hql hrq hbA
      have Fx := Lib.hid (fit (x := x) hxl.out)
      have Fy := Lib.hid (fit (x := y) hyl.out)
      have Fz := Lib.hid (fit (x := z) hzl.out)
      have hmx : Hid (2 * i + 2 ≤ maxLen) := by have := hN1.out; show _ ≤ _; unfold maxLen; omega
      have hmb : Hid ((2 * i + 2) * 24 ≤ 140737488355328) := by have := hN1.out; show _ ≤ _; omega
      go_wp2_with (first
        | (go_at_call 61; refine hLf1.out.mono ?_; rintro e' w1 ⟨rfl, hk1⟩)
        | ((with_reducible change wpList _ _ _ ({ dst := none, op := Op.store 23 _ _, type := _, pos := _, after := _, guard := _ } :: _) _ _); refine wpList_store_row (o := ⟨none, _, _, _, _, _⟩) rfl 23 (.tmp 9) (.tmp 21) rfl w1.heap.size (cells8 y).toArray rfl rfl 23 Z32 (heap_alloc_new w1 _) Fy.out.size Fy.out.zero Fy.out.one ?_; rw [alloc_setRow]))
      have hk5 : Hid (Below wr.heap.size wr (w1.alloc (.cells (cells8 y).toArray 23))) := hk1.alloc hk1.size _
      have hL5 : Hid (Blk (w1.alloc (.cells (cells8 y).toArray 23)) w1.heap.size 23 (cells8 y).toArray) := Blk.new w1 _ _
      have hsz1 : Hid (wr.heap.size ≤ w1.heap.size) := hk1.size
      generalize w1.alloc (.cells (cells8 y).toArray 23) = w5 at *
      clear hk1
      have hnv : Hid (∀ k, v.ownBlock = some k → w.heap.size + 1 ≤ k ∧ k < wr.heap.size) := fun k hk => ⟨own_base hO.out k hk, own_lt hO.out k hk⟩
      have hbA2 : Hid (bA < w.heap.size) := hbAh.out
      have hcq : Hid (∀ w', Below (w.heap.size + 1) w5 w' → w'.cell? ⟨bA, o + i, none⟩ = some (.slice Ae k ce)) := fun w' h => by
        have h1 : w5.cell? ⟨bA, o + i, none⟩ = some (.slice Ae k ce) := (hk5.out.cell (p := ⟨bA, o + i, none⟩) (by have := hbA2.out; have := hBS.out; show bA < _; omega)).trans hcell
        exact (h.cell (p := ⟨bA, o + i, none⟩) (by have := hbA2.out; show bA < _; omega)).trans h1
      have hBw : Hid (w.heap.size + 1 ≤ w5.heap.size) := Nat.le_trans hBS.out hk5.out.size
      have hC5 : Hid (Blk w5 (w.heap.size) 23 (cells8 x).toArray) := (hk5.out.block _ hC.out.lt).trans hC.out
      have hb5 : Hid (Below w.heap.size w w5) := hb.out.trans (hk5.out.mono hb.out.size)
      replace hO := Lib.hid (Go.Proofs.YtmdkfhfkdcbpgaaDoorR.Own.own_below hO.out hk5.out)
      replace hT := Lib.hid (hT.out.below hk5.out)
      replace hT1 : Hid (∀ w' g, Below w5.heap.size w5 w' → Blk w' g 27 #[.slice Ae k ce] → Calls Tryd.prog 93 #[.int .i64 0, .slice (some ⟨g, 0, none⟩) 1 1] w' (TextPost w' q1)) := fun w' g h1 h2 => hT1.out w' g (hk5.out.trans (h1.mono hk5.out.size)) h2
      replace hT2 : Hid (∀ w' g, Below w5.heap.size w5 w' → Blk w' g 27 #[.slice (some ⟨w.heap.size, 0, none⟩) 32 32, .slice (some ⟨w1.heap.size, 0, none⟩) 32 32] → Calls Tryd.prog 93 #[.int .i64 2, .slice (some ⟨g, 0, none⟩) 2 2] w' (TextPost w' q2)) := fun w' g h1 h2 => hT2.out w' g _ _ h2 ((h1.block _ hC5.out.lt).trans hC5.out) ((h1.block _ hL5.out.lt).trans hL5.out)
      clear hcell hLf1 hLf hLk hb hC
      go_simp
      go_cut [7] from 22 to 35 (fun v' wr' => ∃ A' c', v' = .slice A' (2 * i + 2) c' ∧ Hid (Two w5 wr' v (.slice A' (2 * i + 2) c') (w.heap.size + 1) (2 * i) ts q1 q2))
      case first =>
        have s0 : Hid (Below w5.heap.size w5 w5.drew) := (Below.refl _ _).drew
        refine held_start (fun w' => Below (w.heap.size + 1) w5 w') 14 rfl (by kernel_rfl) ?_
        refine held_take (i := 0) (v := v) rfl (by kernel_rfl) (by kernel_rfl) (by kernel_rfl) (fun _ _ _ h => h) (s0.out.mono hBw.out) (by rfl) (fun w' hw' => run_mv (.tmp 7) rfl w') ?_
        (intro K hK; go_simp; refine hK _ ?_; clear hK K)
        refine held_take (i := 1) (v := .slice (some ⟨bA, o, none⟩) n c) rfl (by kernel_rfl) (by kernel_rfl) (by kernel_rfl) (fun _ _ _ h => h) (s0.out.mono hBw.out) (by rfl) (fun w' hw' => run_mv (.tmp 2) rfl w') ?_
        (intro K hK; go_simp; refine hK _ ?_; clear hK K)
        refine held_take (i := 2) (v := .int .i64 (i : Int)) rfl (by kernel_rfl) (by kernel_rfl) (by kernel_rfl) (fun _ _ _ h => h) (s0.out.mono hBw.out) (by rfl) (fun w' hw' => run_mv (.tmp 8) rfl w') ?_
        (intro K hK; go_simp; refine hK _ ?_; clear hK K)
        refine held_take (i := 3) (v := .pointer (some ⟨bA, o + i, none⟩)) rfl (by kernel_rfl) (by kernel_rfl) (by kernel_rfl) (fun _ _ _ h => h) (s0.out.mono hBw.out) (by rfl) (fun w' hw' => by go_simp) ?_
        (intro K hK; go_simp; refine hK _ ?_; clear hK K)
        refine held_take (i := 4) (v := .slice Ae k ce) rfl (by kernel_rfl) (by kernel_rfl) (by kernel_rfl) (fun _ _ _ h => h) (s0.out.mono hBw.out) (by rfl) (fun w' hw' => by have h := hcq.out w' hw'; go_simp) ?_
        (intro K hK; go_simp; refine hK _ ?_; clear hK K)
        refine held_take (i := 7) (v := .slice (some ⟨w.heap.size, 0, none⟩) 32 32) rfl (by kernel_rfl) (by kernel_rfl) (by kernel_rfl) (fun _ _ _ h => h) (s0.out.mono hBw.out) (by rfl) (fun w' hw' => by go_simp) ?_
        (intro K hK; go_simp; refine hK _ ?_; clear hK K)
        refine held_take (i := 8) (v := .slice (some ⟨w1.heap.size, 0, none⟩) 32 32) rfl (by kernel_rfl) (by kernel_rfl) (by kernel_rfl) (fun _ _ _ h => h) (s0.out.mono hBw.out) (by rfl) (fun w' hw' => by go_simp) ?_
        (intro K hK; go_simp; refine hK _ ?_; clear hK K)
        refine held_two (i := 5) (j := 9) rfl rfl (by kernel_rfl) (by rfl) (by rfl) (fun K hK => ?_) (fun K hK => ?_)
        · have h1 : Hid (Below w5.heap.size w5 (w5.drew.alloc (.cells #[.slice Ae k ce] 27))) := s0.out.alloc s0.out.size _
          have B1 : Hid (Blk (w5.drew.alloc (.cells #[.slice Ae k ce] 27)) w5.heap.size 27 #[.slice Ae k ce]) := Blk.new _ _ _
          go_simp
          refine hK _ _ (h1.out.mono hBw.out) ?_
          clear hK K
          refine held_two (i := 6) (j := 9) rfl rfl (by kernel_rfl) (by rfl) (by rfl) (fun K hK => ?_) (fun K hK => ?_)
          · refine wp_fn (R := fun v w'' => ∃ g c, v = .slice (some ⟨g, 0, none⟩) q1.length c ∧ ((w5.drew.alloc (.cells #[.slice Ae k ce] 27))).heap.size ≤ g ∧ q1.length ≤ c ∧ Reads w'' 1 (some ⟨g, 0, none⟩) q1.length (cells8 q1) ∧ Below ((w5.drew.alloc (.cells #[.slice Ae k ce] 27))).heap.size ((w5.drew.alloc (.cells #[.slice Ae k ce] 27))) w'') (args := #[.int .i64 0, .slice (some ⟨w5.heap.size, 0, none⟩) 1 1]) _ _ rfl rfl Tryd.func93 (by kernel_rfl) (by kernel_rfl) ((hT1.out _ _ h1.out B1.out).mono fun e w'' ⟨g, c, he, h0, h1, h2, h3⟩ => ⟨_, he, g, c, rfl, h0, h1, h2, h3⟩) ?_
            rintro qq w2 ⟨g1, d1, rfl, kb1, kc1, r1, kk1⟩
            have kb1 : (w.heap.size + 1) ≤ g1 := Nat.le_trans (Nat.le_trans hBw.out h1.out.size) kb1
            have h2 : Hid (Below w5.heap.size w5 w2) := h1.out.trans (kk1.mono h1.out.size)
            replace r1 := Lib.hid r1
            replace kk1 := Lib.hid kk1
            go_simp
            refine hK _ _ (h2.out.mono hBw.out) ?_
            clear hK K
            refine held_only (i := 9) rfl (by kernel_rfl) (by rfl) (fun K hK => ?_)
            have h3 : Hid (Below w5.heap.size w5 (w2.alloc (.cells #[.slice (some ⟨w.heap.size, 0, none⟩) 32 32, .slice (some ⟨w1.heap.size, 0, none⟩) 32 32] 27))) := h2.out.alloc h2.out.size _
            have B2 : Hid (Blk (w2.alloc (.cells #[.slice (some ⟨w.heap.size, 0, none⟩) 32 32, .slice (some ⟨w1.heap.size, 0, none⟩) 32 32] 27)) w2.heap.size 27 #[.slice (some ⟨w.heap.size, 0, none⟩) 32 32, .slice (some ⟨w1.heap.size, 0, none⟩) 32 32]) := Blk.new _ _ _
            go_simp
            refine hK _ _ (h3.out.mono hBw.out) ?_
            clear hK K
            refine held_only (i := 10) rfl (by kernel_rfl) (by rfl) (fun K hK => ?_)
            refine wp_fn (R := fun v w'' => ∃ g c, v = .slice (some ⟨g, 0, none⟩) q2.length c ∧ ((w2.alloc (.cells #[.slice (some ⟨w.heap.size, 0, none⟩) 32 32, .slice (some ⟨w1.heap.size, 0, none⟩) 32 32] 27))).heap.size ≤ g ∧ q2.length ≤ c ∧ Reads w'' 1 (some ⟨g, 0, none⟩) q2.length (cells8 q2) ∧ Below ((w2.alloc (.cells #[.slice (some ⟨w.heap.size, 0, none⟩) 32 32, .slice (some ⟨w1.heap.size, 0, none⟩) 32 32] 27))).heap.size ((w2.alloc (.cells #[.slice (some ⟨w.heap.size, 0, none⟩) 32 32, .slice (some ⟨w1.heap.size, 0, none⟩) 32 32] 27))) w'') (args := #[.int .i64 2, .slice (some ⟨w2.heap.size, 0, none⟩) 2 2]) _ _ rfl rfl Tryd.func93 (by kernel_rfl) (by kernel_rfl) ((hT2.out _ _ h3.out B2.out).mono fun e w'' ⟨g, c, he, h0, h1, h2, h3⟩ => ⟨_, he, g, c, rfl, h0, h1, h2, h3⟩) ?_
            rintro qq w4 ⟨g2, d2, rfl, kb2, kc2, r2, kk1⟩
            have kb2 : (w.heap.size + 1) ≤ g2 := Nat.le_trans (Nat.le_trans hBw.out h3.out.size) kb2
            have h4 : Hid (Below w5.heap.size w5 w4) := h3.out.trans (kk1.mono h3.out.size)
            replace r2 := Lib.hid r2
            replace kk1 := Lib.hid kk1
            have r1 := (r1.out.alloc (.cells #[.slice (some ⟨w.heap.size, 0, none⟩) 32 32, .slice (some ⟨w1.heap.size, 0, none⟩) 32 32] 27)).below kk1.out
            have r2 := r2.out
            go_simp
            refine hK _ _ (h4.out.mono hBw.out) ?_
            clear hK K
            refine held_only (i := 11) rfl (by kernel_rfl) (by rfl) (fun K hK => ?_)
            have h9 : Hid (Below w5.heap.size w5 (w4.alloc (.cells #[.slice (some ⟨g1, 0, none⟩) q1.length d1, .slice (some ⟨g2, 0, none⟩) q2.length d2] 27))) := h4.out.alloc h4.out.size _
            go_simp
            refine hK _ _ (h9.out.mono hBw.out) ?_
            clear hK K
            refine held_only (i := 12) rfl (by kernel_rfl) (by rfl) (fun K hK => ?_)
            refine Append.wp_append_src _ (.tmp 22) (.tmp 33) 24 rfl (w.heap.size + 1) 27 i0 (.slice none 0 0) 1 24 Tryd.underlying24 ii iz0 iz1 iz2 rfl (by decide) v (2 * i) xs rfl (Go.Proofs.YtmdkfhfkdcbpgaaDoorR.Own.own_below hO.out h9.out) (some ⟨w4.heap.size, 0, none⟩) 2 2 [.slice (some ⟨g1, 0, none⟩) q1.length d1, .slice (some ⟨g2, 0, none⟩) q2.length d2] rfl (reads_two _ _ _) (fun e => by cases e) (fun u hu => by rcases List.mem_cons.1 hu with rfl | hu; rfl; obtain rfl := List.mem_singleton.1 hu; rfl) hmx.out hmb.out (Nat.le_trans hBw.out h9.out.size) (fun v10 w10 hGr => ?_)
            have hTwo := Two.mk_ h4.out hBw.out hO.out hT.out hFr.out kb1 kb2 hz.out hm.out hq1p.out hq2p.out kc1 kc2 r1 r2 hGr
            obtain ⟨Af, cf, rfl⟩ := hTwo.form
            replace hTwo := Lib.hid hTwo
            have h10 : Hid (Below (w.heap.size + 1) w5 w10) := Lib.hid hTwo.out.below
            go_simp
            refine hK _ _ h10.out ?_
            clear hK K
            refine held_take (i := 13) (v := .slice Af (2 * i + 2) cf) rfl (by kernel_rfl) (by kernel_rfl) (by kernel_rfl) (fun _ _ _ h => h) h10.out (by rfl) (fun w' hw' => by first | go_simp | rfl) ?_
            (intro K hK; go_simp; refine hK _ ?_; clear hK K)
            refine held_end (by kernel_rfl) ?_
            go_wp2_with fail
            go_meet
            case rel => exact ⟨_, _, rfl, hTwo⟩
          · have h2 : Hid (Below w5.heap.size w5 ((w5.drew.alloc (.cells #[.slice Ae k ce] 27)).alloc (.cells #[.slice (some ⟨w.heap.size, 0, none⟩) 32 32, .slice (some ⟨w1.heap.size, 0, none⟩) 32 32] 27))) := h1.out.alloc h1.out.size _
            have B2 : Hid (Blk ((w5.drew.alloc (.cells #[.slice Ae k ce] 27)).alloc (.cells #[.slice (some ⟨w.heap.size, 0, none⟩) 32 32, .slice (some ⟨w1.heap.size, 0, none⟩) 32 32] 27)) (w5.heap.size + 1) 27 #[.slice (some ⟨w.heap.size, 0, none⟩) 32 32, .slice (some ⟨w1.heap.size, 0, none⟩) 32 32]) := by have h := Blk.new (w5.drew.alloc (.cells #[.slice Ae k ce] 27)) 27 #[.slice (some ⟨w.heap.size, 0, none⟩) 32 32, .slice (some ⟨w1.heap.size, 0, none⟩) 32 32]; rwa [show (w5.drew.alloc (.cells #[.slice Ae k ce] 27)).heap.size = w5.heap.size + 1 by simp] at h
            go_simp
            refine hK _ _ (h2.out.mono hBw.out) ?_
            clear hK K
            replace B1 := Lib.hid (Blk.alloc B1.out (.cells #[.slice (some ⟨w.heap.size, 0, none⟩) 32 32, .slice (some ⟨w1.heap.size, 0, none⟩) 32 32] 27))
            refine held_only (i := 6) rfl (by kernel_rfl) (by rfl) (fun K hK => ?_)
            refine wp_fn (R := fun v w'' => ∃ g c, v = .slice (some ⟨g, 0, none⟩) q1.length c ∧ (((w5.drew.alloc (.cells #[.slice Ae k ce] 27)).alloc (.cells #[.slice (some ⟨w.heap.size, 0, none⟩) 32 32, .slice (some ⟨w1.heap.size, 0, none⟩) 32 32] 27))).heap.size ≤ g ∧ q1.length ≤ c ∧ Reads w'' 1 (some ⟨g, 0, none⟩) q1.length (cells8 q1) ∧ Below (((w5.drew.alloc (.cells #[.slice Ae k ce] 27)).alloc (.cells #[.slice (some ⟨w.heap.size, 0, none⟩) 32 32, .slice (some ⟨w1.heap.size, 0, none⟩) 32 32] 27))).heap.size (((w5.drew.alloc (.cells #[.slice Ae k ce] 27)).alloc (.cells #[.slice (some ⟨w.heap.size, 0, none⟩) 32 32, .slice (some ⟨w1.heap.size, 0, none⟩) 32 32] 27))) w'') (args := #[.int .i64 0, .slice (some ⟨w5.heap.size, 0, none⟩) 1 1]) _ _ rfl rfl Tryd.func93 (by kernel_rfl) (by kernel_rfl) ((hT1.out _ _ h2.out B1.out).mono fun e w'' ⟨g, c, he, h0, h1, h2, h3⟩ => ⟨_, he, g, c, rfl, h0, h1, h2, h3⟩) ?_
            rintro qq w3 ⟨g1, d1, rfl, kb1, kc1, r1, kk1⟩
            have kb1 : (w.heap.size + 1) ≤ g1 := Nat.le_trans (Nat.le_trans hBw.out h2.out.size) kb1
            have h3 : Hid (Below w5.heap.size w5 w3) := h2.out.trans (kk1.mono h2.out.size)
            replace r1 := Lib.hid r1
            replace kk1 := Lib.hid kk1
            replace B2 := Lib.hid ((kk1.out.block _ (Blk.lt B2.out)).trans B2.out)
            go_simp
            refine hK _ _ (h3.out.mono hBw.out) ?_
            clear hK K
            refine held_only (i := 10) rfl (by kernel_rfl) (by rfl) (fun K hK => ?_)
            refine wp_fn (R := fun v w'' => ∃ g c, v = .slice (some ⟨g, 0, none⟩) q2.length c ∧ (w3).heap.size ≤ g ∧ q2.length ≤ c ∧ Reads w'' 1 (some ⟨g, 0, none⟩) q2.length (cells8 q2) ∧ Below (w3).heap.size (w3) w'') (args := #[.int .i64 2, .slice (some ⟨w5.heap.size + 1, 0, none⟩) 2 2]) _ _ rfl rfl Tryd.func93 (by kernel_rfl) (by kernel_rfl) ((hT2.out _ _ h3.out B2.out).mono fun e w'' ⟨g, c, he, h0, h1, h2, h3⟩ => ⟨_, he, g, c, rfl, h0, h1, h2, h3⟩) ?_
            rintro qq w4 ⟨g2, d2, rfl, kb2, kc2, r2, kk1⟩
            have kb2 : (w.heap.size + 1) ≤ g2 := Nat.le_trans (Nat.le_trans hBw.out h3.out.size) kb2
            have h4 : Hid (Below w5.heap.size w5 w4) := h3.out.trans (kk1.mono h3.out.size)
            replace r2 := Lib.hid r2
            replace kk1 := Lib.hid kk1
            have r1 := r1.out.below kk1.out
            have r2 := r2.out
            go_simp
            refine hK _ _ (h4.out.mono hBw.out) ?_
            clear hK K
            refine held_only (i := 11) rfl (by kernel_rfl) (by rfl) (fun K hK => ?_)
            have h9 : Hid (Below w5.heap.size w5 (w4.alloc (.cells #[.slice (some ⟨g1, 0, none⟩) q1.length d1, .slice (some ⟨g2, 0, none⟩) q2.length d2] 27))) := h4.out.alloc h4.out.size _
            go_simp
            refine hK _ _ (h9.out.mono hBw.out) ?_
            clear hK K
            refine held_only (i := 12) rfl (by kernel_rfl) (by rfl) (fun K hK => ?_)
            refine Append.wp_append_src _ (.tmp 22) (.tmp 33) 24 rfl (w.heap.size + 1) 27 i0 (.slice none 0 0) 1 24 Tryd.underlying24 ii iz0 iz1 iz2 rfl (by decide) v (2 * i) xs rfl (Go.Proofs.YtmdkfhfkdcbpgaaDoorR.Own.own_below hO.out h9.out) (some ⟨w4.heap.size, 0, none⟩) 2 2 [.slice (some ⟨g1, 0, none⟩) q1.length d1, .slice (some ⟨g2, 0, none⟩) q2.length d2] rfl (reads_two _ _ _) (fun e => by cases e) (fun u hu => by rcases List.mem_cons.1 hu with rfl | hu; rfl; obtain rfl := List.mem_singleton.1 hu; rfl) hmx.out hmb.out (Nat.le_trans hBw.out h9.out.size) (fun v10 w10 hGr => ?_)
            have hTwo := Two.mk_ h4.out hBw.out hO.out hT.out hFr.out kb1 kb2 hz.out hm.out hq1p.out hq2p.out kc1 kc2 r1 r2 hGr
            obtain ⟨Af, cf, rfl⟩ := hTwo.form
            replace hTwo := Lib.hid hTwo
            have h10 : Hid (Below (w.heap.size + 1) w5 w10) := Lib.hid hTwo.out.below
            go_simp
            refine hK _ _ h10.out ?_
            clear hK K
            refine held_take (i := 13) (v := .slice Af (2 * i + 2) cf) rfl (by kernel_rfl) (by kernel_rfl) (by kernel_rfl) (fun _ _ _ h => h) h10.out (by rfl) (fun w' hw' => by first | go_simp | rfl) ?_
            (intro K hK; go_simp; refine hK _ ?_; clear hK K)
            refine held_end (by kernel_rfl) ?_
            go_wp2_with fail
            go_meet
            case rel => exact ⟨_, _, rfl, hTwo⟩
        · have h1 : Hid (Below w5.heap.size w5 (w5.drew.alloc (.cells #[.slice (some ⟨w.heap.size, 0, none⟩) 32 32, .slice (some ⟨w1.heap.size, 0, none⟩) 32 32] 27))) := s0.out.alloc s0.out.size _
          have B2 : Hid (Blk (w5.drew.alloc (.cells #[.slice (some ⟨w.heap.size, 0, none⟩) 32 32, .slice (some ⟨w1.heap.size, 0, none⟩) 32 32] 27)) w5.heap.size 27 #[.slice (some ⟨w.heap.size, 0, none⟩) 32 32, .slice (some ⟨w1.heap.size, 0, none⟩) 32 32]) := Blk.new _ _ _
          go_simp
          refine hK _ _ (h1.out.mono hBw.out) ?_
          clear hK K
          refine held_only (i := 5) rfl (by kernel_rfl) (by rfl) (fun K hK => ?_)
          have h2 : Hid (Below w5.heap.size w5 ((w5.drew.alloc (.cells #[.slice (some ⟨w.heap.size, 0, none⟩) 32 32, .slice (some ⟨w1.heap.size, 0, none⟩) 32 32] 27)).alloc (.cells #[.slice Ae k ce] 27))) := h1.out.alloc h1.out.size _
          have B1 : Hid (Blk ((w5.drew.alloc (.cells #[.slice (some ⟨w.heap.size, 0, none⟩) 32 32, .slice (some ⟨w1.heap.size, 0, none⟩) 32 32] 27)).alloc (.cells #[.slice Ae k ce] 27)) (w5.heap.size + 1) 27 #[.slice Ae k ce]) := by have h := Blk.new (w5.drew.alloc (.cells #[.slice (some ⟨w.heap.size, 0, none⟩) 32 32, .slice (some ⟨w1.heap.size, 0, none⟩) 32 32] 27)) 27 #[.slice Ae k ce]; rwa [show (w5.drew.alloc (.cells #[.slice (some ⟨w.heap.size, 0, none⟩) 32 32, .slice (some ⟨w1.heap.size, 0, none⟩) 32 32] 27)).heap.size = w5.heap.size + 1 by simp] at h
          go_simp
          refine hK _ _ (h2.out.mono hBw.out) ?_
          clear hK K
          replace B2 := Lib.hid (Blk.alloc B2.out (.cells #[.slice Ae k ce] 27))
          refine held_only (i := 6) rfl (by kernel_rfl) (by rfl) (fun K hK => ?_)
          refine wp_fn (R := fun v w'' => ∃ g c, v = .slice (some ⟨g, 0, none⟩) q1.length c ∧ (((w5.drew.alloc (.cells #[.slice (some ⟨w.heap.size, 0, none⟩) 32 32, .slice (some ⟨w1.heap.size, 0, none⟩) 32 32] 27)).alloc (.cells #[.slice Ae k ce] 27))).heap.size ≤ g ∧ q1.length ≤ c ∧ Reads w'' 1 (some ⟨g, 0, none⟩) q1.length (cells8 q1) ∧ Below (((w5.drew.alloc (.cells #[.slice (some ⟨w.heap.size, 0, none⟩) 32 32, .slice (some ⟨w1.heap.size, 0, none⟩) 32 32] 27)).alloc (.cells #[.slice Ae k ce] 27))).heap.size (((w5.drew.alloc (.cells #[.slice (some ⟨w.heap.size, 0, none⟩) 32 32, .slice (some ⟨w1.heap.size, 0, none⟩) 32 32] 27)).alloc (.cells #[.slice Ae k ce] 27))) w'') (args := #[.int .i64 0, .slice (some ⟨w5.heap.size + 1, 0, none⟩) 1 1]) _ _ rfl rfl Tryd.func93 (by kernel_rfl) (by kernel_rfl) ((hT1.out _ _ h2.out B1.out).mono fun e w'' ⟨g, c, he, h0, h1, h2, h3⟩ => ⟨_, he, g, c, rfl, h0, h1, h2, h3⟩) ?_
          rintro qq w3 ⟨g1, d1, rfl, kb1, kc1, r1, kk1⟩
          have kb1 : (w.heap.size + 1) ≤ g1 := Nat.le_trans (Nat.le_trans hBw.out h2.out.size) kb1
          have h3 : Hid (Below w5.heap.size w5 w3) := h2.out.trans (kk1.mono h2.out.size)
          replace r1 := Lib.hid r1
          replace kk1 := Lib.hid kk1
          replace B2 := Lib.hid ((kk1.out.block _ (Blk.lt B2.out)).trans B2.out)
          go_simp
          refine hK _ _ (h3.out.mono hBw.out) ?_
          clear hK K
          refine held_only (i := 10) rfl (by kernel_rfl) (by rfl) (fun K hK => ?_)
          refine wp_fn (R := fun v w'' => ∃ g c, v = .slice (some ⟨g, 0, none⟩) q2.length c ∧ (w3).heap.size ≤ g ∧ q2.length ≤ c ∧ Reads w'' 1 (some ⟨g, 0, none⟩) q2.length (cells8 q2) ∧ Below (w3).heap.size (w3) w'') (args := #[.int .i64 2, .slice (some ⟨w5.heap.size, 0, none⟩) 2 2]) _ _ rfl rfl Tryd.func93 (by kernel_rfl) (by kernel_rfl) ((hT2.out _ _ h3.out B2.out).mono fun e w'' ⟨g, c, he, h0, h1, h2, h3⟩ => ⟨_, he, g, c, rfl, h0, h1, h2, h3⟩) ?_
          rintro qq w4 ⟨g2, d2, rfl, kb2, kc2, r2, kk1⟩
          have kb2 : (w.heap.size + 1) ≤ g2 := Nat.le_trans (Nat.le_trans hBw.out h3.out.size) kb2
          have h4 : Hid (Below w5.heap.size w5 w4) := h3.out.trans (kk1.mono h3.out.size)
          replace r2 := Lib.hid r2
          replace kk1 := Lib.hid kk1
          have r1 := r1.out.below kk1.out
          have r2 := r2.out
          go_simp
          refine hK _ _ (h4.out.mono hBw.out) ?_
          clear hK K
          refine held_only (i := 11) rfl (by kernel_rfl) (by rfl) (fun K hK => ?_)
          have h9 : Hid (Below w5.heap.size w5 (w4.alloc (.cells #[.slice (some ⟨g1, 0, none⟩) q1.length d1, .slice (some ⟨g2, 0, none⟩) q2.length d2] 27))) := h4.out.alloc h4.out.size _
          go_simp
          refine hK _ _ (h9.out.mono hBw.out) ?_
          clear hK K
          refine held_only (i := 12) rfl (by kernel_rfl) (by rfl) (fun K hK => ?_)
          refine Append.wp_append_src _ (.tmp 22) (.tmp 33) 24 rfl (w.heap.size + 1) 27 i0 (.slice none 0 0) 1 24 Tryd.underlying24 ii iz0 iz1 iz2 rfl (by decide) v (2 * i) xs rfl (Go.Proofs.YtmdkfhfkdcbpgaaDoorR.Own.own_below hO.out h9.out) (some ⟨w4.heap.size, 0, none⟩) 2 2 [.slice (some ⟨g1, 0, none⟩) q1.length d1, .slice (some ⟨g2, 0, none⟩) q2.length d2] rfl (reads_two _ _ _) (fun e => by cases e) (fun u hu => by rcases List.mem_cons.1 hu with rfl | hu; rfl; obtain rfl := List.mem_singleton.1 hu; rfl) hmx.out hmb.out (Nat.le_trans hBw.out h9.out.size) (fun v10 w10 hGr => ?_)
          have hTwo := Two.mk_ h4.out hBw.out hO.out hT.out hFr.out kb1 kb2 hz.out hm.out hq1p.out hq2p.out kc1 kc2 r1 r2 hGr
          obtain ⟨Af, cf, rfl⟩ := hTwo.form
          replace hTwo := Lib.hid hTwo
          have h10 : Hid (Below (w.heap.size + 1) w5 w10) := Lib.hid hTwo.out.below
          go_simp
          refine hK _ _ h10.out ?_
          clear hK K
          refine held_take (i := 13) (v := .slice Af (2 * i + 2) cf) rfl (by kernel_rfl) (by kernel_rfl) (by kernel_rfl) (fun _ _ _ h => h) h10.out (by rfl) (fun w' hw' => by first | go_simp | rfl) ?_
          (intro K hK; go_simp; refine hK _ ?_; clear hK K)
          refine held_end (by kernel_rfl) ?_
          go_wp2_with fail
          go_meet
          case rel => exact ⟨_, _, rfl, hTwo⟩
      case rest =>
        obtain ⟨A', c', rfl, hTwo⟩ := hcut
        obtain ⟨w6, rfl⟩ : ∃ wq, wq = wc := ⟨_, rfl⟩
        obtain ⟨xs6, hO6, hT6, hF6⟩ := hTwo.out.own
        have hC6 : Hid (Blk w6 (w.heap.size) 23 (cells8 x).toArray) := hTwo.out.keep _ _ _ hC5.out (fun e => by have := (hnv.out _ e.symm).1; omega)
        have hL6 : Hid (Blk w6 w1.heap.size 23 (cells8 y).toArray) := hTwo.out.keep _ _ _ hL5.out (fun e => by have := (hnv.out _ e.symm).2; have := hsz1.out; omega)
        have hb6 : Hid (Below w.heap.size w w6) := hb5.out.trans (hTwo.out.below.mono (by omega))
        have hs6 : Hid (w.heap.size + 1 ≤ w6.heap.size) := Nat.le_trans hBw.out hTwo.out.below.size
        replace hO6 := Lib.hid hO6
        replace hT6 := Lib.hid hT6
        replace hF6 := Lib.hid hF6
        have hk9 : Hid (∀ w9 w8, Below w6.heap.size w6 w8 → Kept (· = w.heap.size) w8 w9 → w9.ownsRow (w.heap.size + 1) 27 1 (.slice A' (2 * i + 2) c') (2 * i + 2) xs6 ∧ Ty w9 xs6 (ts ++ [q1, q2]) ∧ w.heap.size + 1 ≤ w9.heap.size ∧ Below w.heap.size w w9) := fun w9 w8 h1 h2 => by
          have hC8 : Blk w8 (w.heap.size) 23 (cells8 x).toArray := (h1.block _ hC6.out.lt).trans hC6.out
          refine ⟨own_keepT (Go.Proofs.YtmdkfhfkdcbpgaaDoorR.Own.own_below hO6.out h1) h2 (fun g hg => ⟨23, (cells8 x).toArray, by rw [hg]; exact hC8, by decide⟩), Ty.keepF (hT6.out.below h1) hF6.out h2 (fun k hk e => by omega), Nat.le_trans hs6.out (Nat.le_trans h1.size h2.size), (hb6.out.trans (h1.mono hb6.out.size)).trans (Kept.below_of h2 (by omega) (hb6.out.trans (h1.mono hb6.out.size)).size)⟩
        clear hTwo hO6 hT6 hC5 hL5 hb5 hT1 hT2 hO hT hcq hk5
        go_wp2_with (first
          | ((with_reducible change wpList _ _ _ ({ dst := some 36, op := _, type := _, pos := _, after := _, guard := _ } :: _) _ _); refine wpList_load_row (o := ⟨some 36, _, _, _, _, _⟩) rfl 23 (.tmp 4) rfl (w.heap.size) rfl 23 ((cells8 x).toArray) (0, 0) _ hC6.out Tryd.underlying23 rfl Fx.out.size ?_)
          | ((with_reducible change wpList _ _ _ ({ dst := some 37, op := _, type := _, pos := _, after := _, guard := _ } :: _) _ _); refine wpList_load_row (o := ⟨some 37, _, _, _, _, _⟩) rfl 23 (.tmp 9) rfl (w1.heap.size) rfl 23 ((cells8 y).toArray) (0, 0) _ hL6.out Tryd.underlying23 rfl Fy.out.size ?_)
          | (go_at_call 60; refine (hLk1.out _ hb6.out).mono ?_; rintro e' w8 ⟨rfl, hk8⟩; have hC8 : Hid (Blk w8 (w.heap.size) 23 (cells8 x).toArray) := (hk8.block _ hC6.out.lt).trans hC6.out; replace hk8 := Lib.hid hk8)
          | ((with_reducible change wpList _ _ _ ({ dst := none, op := Op.store 23 (.tmp 4) _, type := _, pos := _, after := _, guard := _ } :: _) _ _); refine wpList_store_whole (o := ⟨none, _, _, _, _, _⟩) rfl 23 (.tmp 4) (.tmp 38) rfl (w.heap.size) ((cells8 z).toArray) rfl rfl 23 ((cells8 x).toArray) hC8.out Fz.out.size (by rw [List.size_toArray, List.size_toArray, cells8_len, cells8_len, hxl.out, hzl.out]) Fz.out.one ?_; intro w9 hC9 kk9; have h9 := Lib.hid (hk9.out w9 w8 hk8.out kk9); replace hC9 := Lib.hid hC9; clear kk9))
        go_roundw
        case rel => exact ⟨i + 1, xs6, _, rfl, by go_num, (show i + 1 ≤ n by omega), h9.out.1, (by rw [hls.out]; exact h9.out.2.1), hF6.out, (fun h => by omega), (by rw [hst.out]; exact hC9.out), h9.out.2.2.1, h9.out.2.2.2⟩
        case measure => simp [intOf]; omega
    · obtain rfl : i = n := by have := hi.out; omega
      have hTk : Hid (es.take i = es) := List.take_of_length_le (by have := hn.out; omega)
      rw [hTk.out] at hT
      have hz1 : ¬ ((i : Int) < (i : Int)) := by omega
      have hml : Hid ((linksOf s b es).length = 2 * i) := by show _ = _; rw [linksOf_len, hn.out]
      clear hLf hLk hC hBS hsh hp
      go_wp2_with fail
      go_ret
      exact ⟨v, rfl, xs, by rw [hml.out]; exact own_down hO.out (by omega), hT.out, hb.out, fun h => hz.out (by have h2 : (linksOf s b es).length = 0 := (by simpa using h); rw [← hml.out]; exact h2)⟩
end Go.Proofs.YtmdkfhfkdcbpgaaDoorR.Links
