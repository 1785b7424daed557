/-
  docketlaw6.TreeNumbers, walked (printed by wip/gen_treenum.py).
-/
import Derived.Test.YtngieimjlkpkaaaDoorTreeRoots
namespace Go.Proofs.YtngieimjlkpkaaaDoor.TreeNumbers
open Go Go.RowKit Go.Proofs.YtngieimjlkpkaaaDoor Go.Proofs.YtngieimjlkpkaaaDoor.Digest Go.Proofs.YtngieimjlkpkaaaDoor.Mem Go.Proofs.YtngieimjlkpkaaaDoor.Sha Go.Proofs.YtngieimjlkpkaaaDoor.ShaWalk Go.Proofs.YtngieimjlkpkaaaDoor.Bytes Go.Proofs.YtngieimjlkpkaaaDoor.HashMem Go.Proofs.YtngieimjlkpkaaaDoor.DigestMem Go.Proofs.YtngieimjlkpkaaaDoor.DigestTop Go.Proofs.YtngieimjlkpkaaaDoor.RefTop Go.Proofs.YtngieimjlkpkaaaDoor.QuietTail Go.Proofs.YtngieimjlkpkaaaDoor.Grown Go.Proofs.YtngieimjlkpkaaaDoor.Chain Go.Proofs.YtngieimjlkpkaaaDoor.TreeMath Go.Proofs.YtngieimjlkpkaaaDoor.TreeMem Go.Proofs.YtngieimjlkpkaaaDoor.TreeRoot Go.Proofs.YtngieimjlkpkaaaDoor.TreeFold Go.Proofs.YtngieimjlkpkaaaDoor.Book Go.Proofs.YtngieimjlkpkaaaDoor.Book2 Go.Proofs.YtngieimjlkpkaaaDoor.TreeRefRoot Go.Proofs.YtngieimjlkpkaaaDoor.Held Go.Proofs.YtngieimjlkpkaaaDoor.SpotsWalk Go.Proofs.YtngieimjlkpkaaaDoor.SpotsMath

def d1 : Text := leafOf 32 [1]
def d2 : Text := leafOf 32 [2]
def d3 : Text := leafOf 32 [3]
theorem leaf_lit (k : Nat) (x : BitVec 8) (hx : b8 x = (k : Int)) (w : World) : Calls Tryd.prog 35 #[.int .i64 32, .slice (some ⟨w.heap.size, 0, none⟩) 1 1] (w.alloc (.cells #[.int .u8 (k : Int)] 5)) fun e w' => e = .returned (.agg (cells8 (leafOf 32 [x])).toArray) ∧ Below (w.alloc (.cells #[.int .u8 (k : Int)] 5)).heap.size (w.alloc (.cells #[.int .u8 (k : Int)] 5)) w' := by
  rw [← hx]
  exact refleaf_any [x] 1 rfl (some ⟨w.heap.size, 0, none⟩) 1 32 _ (by decide) (by decide) (Blk.reads (Blk.new w 5 #[.int .u8 (b8 x)]) 0 (cells8 [x]) rfl (fun j u hu => by rw [Nat.zero_add]; exact one_at _ j u hu)) (Nat.le_refl _) (fun e => by cases e)
theorem leaf1 (w : World) : Calls Tryd.prog 35 #[.int .i64 32, .slice (some ⟨w.heap.size, 0, none⟩) 1 1] (w.alloc (.cells #[.int .u8 1] 5)) fun e w' => e = .returned (.agg (cells8 d1).toArray) ∧ Below w.heap.size w w' := (leaf_lit 1 1 rfl w).mono fun e w' ⟨h1, h2⟩ => ⟨h1, (Below.heap_below w _).trans (h2.mono (by simp))⟩
theorem leaf2 (w : World) : Calls Tryd.prog 35 #[.int .i64 32, .slice (some ⟨w.heap.size, 0, none⟩) 1 1] (w.alloc (.cells #[.int .u8 2] 5)) fun e w' => e = .returned (.agg (cells8 d2).toArray) ∧ Below w.heap.size w w' := (leaf_lit 2 2 rfl w).mono fun e w' ⟨h1, h2⟩ => ⟨h1, (Below.heap_below w _).trans (h2.mono (by simp))⟩
theorem leaf3 (w : World) : Calls Tryd.prog 35 #[.int .i64 32, .slice (some ⟨w.heap.size, 0, none⟩) 1 1] (w.alloc (.cells #[.int .u8 3] 5)) fun e w' => e = .returned (.agg (cells8 d3).toArray) ∧ Below w.heap.size w w' := (leaf_lit 3 3 rfl w).mono fun e w' ⟨h1, h2⟩ => ⟨h1, (Below.heap_below w _).trans (h2.mono (by simp))⟩
theorem root3 (x y z : Text) : rootOf 32 [x, y, z] = ndOf 32 (ndOf 32 x y) z := by
  have h3 : half 3 = 2 := by decide
  have h2 : half 2 = 1 := by decide
  unfold rootOf
  rw [root_two _ _ [x, y, z] (by simp)]
  simp only [List.length_cons, List.length_nil, Nat.zero_add, Nat.reduceAdd, h3]
  show ndOf 32 (root _ _ [x, y]) (root _ _ [z]) = _
  rw [root_two _ _ [x, y] (by simp)]
  simp only [List.length_cons, List.length_nil, Nat.zero_add, Nat.reduceAdd, h2]
  rfl
theorem spots7 : spots 7 0 7 = [(2, 0), (1, 2), (0, 6)] := by decide +kernel
theorem eqS1 (w : World) : (binOp .eql 26 (.agg #[.int .i64 2, .int .i64 0]) (.agg #[.int .i64 2, .int .i64 0])).run Tryd.prog w = .ok (.bool true) w := by kernel_rfl
theorem eqS2 (w : World) : (binOp .eql 26 (.agg #[.int .i64 0, .int .i64 6]) (.agg #[.int .i64 0, .int .i64 6])).run Tryd.prog w = .ok (.bool true) w := by kernel_rfl

set_option maxRecDepth 100000 in
set_option maxHeartbeats 1000000 in
theorem treeNumbers_any (w : World) (hB : Base w) (hT : TabAt 1 Lib.deBruijn64tab w) (hg : 1 < w.heap.size) :
    Calls Tryd.prog 8 #[] w fun e w' => e = .returned (.bool true) ∧ Below w.heap.size w w' := by
  have F1 := Lib.hid (fit (x := d1) (leafOf_len _ _))
  have F2 := Lib.hid (fit (x := d2) (leafOf_len _ _))
  have F3 := Lib.hid (fit (x := d3) (leafOf_len _ _))
  obtain ⟨y, hy⟩ : ∃ y, Hid (ndOf 32 d1 d2 = y) := ⟨_, Lib.hid rfl⟩
  obtain ⟨z, hz⟩ : ∃ z, Hid (ndOf 32 y d3 = z) := ⟨_, Lib.hid rfl⟩
  have hyl : Hid (y.length = 32) := by show _ = _; rw [← hy.out]; exact ndOf_len _ _ _
  have hzl : Hid (z.length = 32) := by show _ = _; rw [← hz.out]; exact ndOf_len _ _ _
  have F4 := Lib.hid (fit (x := z) hzl.out)
  have hL1 := Lib.hid leaf1
  have hL2 := Lib.hid leaf2
  have hL3 := Lib.hid leaf3
  have hN1 := Lib.hid (fun w' => refnode_any d1 d2 (leafOf_len _ _) (leafOf_len _ _) 32 w' (by decide))
  have hN2 := Lib.hid (fun w' => refnode_any y d3 hyl.out (leafOf_len _ _) 32 w' (by decide))
  have hBs := Lib.hid (fun w' (hb : Below w.heap.size w w') => hB.below hb hB.1)
  have hTs := Lib.hid (fun w' (hb : Below w.heap.size w w') => (And.intro (tab_below hT hg hb) (Nat.lt_of_lt_of_le hg hb.size)))
  have hl1 : Hid (d1.length = 32) := leafOf_len _ _
  have hl2 : Hid (d2.length = 32) := leafOf_len _ _
  have hl3 : Hid (d3.length = 32) := leafOf_len _ _
  have q3 : Hid (∀ v ∈ [cells8 d1, cells8 d2, cells8 d3], v.length = 32) := by
    intro v hv
    simp only [List.mem_cons, List.not_mem_nil, or_false] at hv
    rcases hv with rfl | rfl | rfl <;> rw [cells8_len] <;> exact leafOf_len _ _
  have q4 : Hid (Digs [d1, d2, d3]) := by
    intro v hv
    simp only [List.mem_cons, List.not_mem_nil, or_false] at hv
    rcases hv with rfl | rfl | rfl <;> exact leafOf_len _ _
  obtain ⟨X9, x9⟩ : ∃ X, Hid (([cells8 d1, cells8 d2, cells8 d3].flatten).toArray = X) := ⟨_, Lib.hid rfl⟩
  obtain ⟨e0, e00⟩ : ∃ e, Hid (noneOf 32 = e) := ⟨_, Lib.hid rfl⟩
  have hNo := Lib.hid (fun w' => refnothing_any 32 w' (by decide))
  have hq1 := neq_yes (x := z) hzl.out
  have hq2 := neq_yes (x := e0) (by rw [← e00.out]; exact noneOf_len 32)
  have sS : Hid ((Tryd.prog.info? 26).map (·.size) = some 2) := by show _ = _; kernel_rfl
  clear hB hT hg
  generalize d1 = x1 at *
  generalize d2 = x2 at *
  generalize d3 = x3 at *
  go_enter Tryd.func8, Tryd.ntmps8
  go_wp2_with fail
  refine (hL1.out _).mono ?_
  rintro e u1 ⟨rfl, hb⟩
  replace hb := Lib.hid hb
  go_wp2_with ((with_reducible change wpList _ _ _ ({ dst := none, op := Op.store 31 (.tmp 1) _, type := _, pos := _, after := _, guard := _ } :: _) _ _); refine wpList_store_whole (o := ⟨none, _, _, _, _, _⟩) rfl 31 (.tmp 1) (.tmp 7) rfl (u1.heap.size) ((cells8 x1).toArray) rfl rfl 31 (Z32) (Blk.new u1 _ _) F1.out.size F1.out.zero F1.out.one ?_; intro v1 hB9 hk; replace hb := Lib.hid (below_fresh hb.out hk); have hk9 := kept_fresh hk; have B1 := Lib.hid hB9; clear hk hk9 hB9; generalize u1.heap.size = m1 at *)
  refine (hL2.out _).mono ?_
  rintro e u3 ⟨rfl, hk⟩
  replace hb := Lib.hid (hb.out.trans (hk.mono hb.out.size))
  replace B1 := Lib.hid ((hk.block _ B1.out.lt).trans B1.out)
  clear hk
  go_wp2_with ((with_reducible change wpList _ _ _ ({ dst := none, op := Op.store 31 (.tmp 2) _, type := _, pos := _, after := _, guard := _ } :: _) _ _); refine wpList_store_whole (o := ⟨none, _, _, _, _, _⟩) rfl 31 (.tmp 2) (.tmp 9) rfl (u3.heap.size) ((cells8 x2).toArray) rfl rfl 31 (Z32) (Blk.new u3 _ _) F2.out.size F2.out.zero F2.out.one ?_; intro v2 hB9 hk; replace hb := Lib.hid (below_fresh hb.out hk); have hk9 := kept_fresh hk; replace B1 := Lib.hid ((hk9.block _ (Blk.lt B1.out)).trans B1.out); have B2 := Lib.hid hB9; clear hk hk9 hB9; generalize u3.heap.size = m2 at *)
  refine (hL3.out _).mono ?_
  rintro e u5 ⟨rfl, hk⟩
  replace hb := Lib.hid (hb.out.trans (hk.mono hb.out.size))
  replace B1 := Lib.hid ((hk.block _ (Blk.lt B1.out)).trans B1.out)
  replace B2 := Lib.hid ((hk.block _ B2.out.lt).trans B2.out)
  clear hk
  go_wp2_with ((with_reducible change wpList _ _ _ ({ dst := none, op := Op.store 31 (.tmp 3) _, type := _, pos := _, after := _, guard := _ } :: _) _ _); refine wpList_store_whole (o := ⟨none, _, _, _, _, _⟩) rfl 31 (.tmp 3) (.tmp 11) rfl (u5.heap.size) ((cells8 x3).toArray) rfl rfl 31 (Z32) (Blk.new u5 _ _) F3.out.size F3.out.zero F3.out.one ?_; intro v3 hB9 hk; replace hb := Lib.hid (below_fresh hb.out hk); have hk9 := kept_fresh hk; replace B1 := Lib.hid ((hk9.block _ (Blk.lt B1.out)).trans B1.out); replace B2 := Lib.hid ((hk9.block _ (Blk.lt B2.out)).trans B2.out); have B3 := Lib.hid hB9; clear hk hk9 hB9; generalize u5.heap.size = m3 at *)
  (try simp only [Act.put])
  go_cut [4] from 12 to 16 (fun v wr => ∃ m4 : Nat, v = .pointer (some ⟨m4, 0, none⟩) ∧ Blk wr m4 31 (cells8 z).toArray ∧ Below v3.heap.size v3 wr)
  case first =>
    have s0 : Hid (Below v3.heap.size v3 v3.drew) := (Below.refl _ _).drew
    refine held_start (fun w' => Below v3.heap.size v3 w') 7 rfl (by kernel_rfl) ?_
    refine held_take (i := 0) (v := .agg ((cells8 x1).toArray)) rfl (by kernel_rfl) (by kernel_rfl) (by kernel_rfl) (fun _ _ _ h => h) s0.out (by rfl) (fun w' hw' => exec_row 31 (.tmp 1) rfl (m1) rfl 31 ((cells8 x1).toArray) (0, 0) _ ((hw'.block _ (Blk.lt B1.out)).trans B1.out) Tryd.underlying31 rfl F1.out.size) ?_
    (intro K hK; go_simp; refine hK _ ?_; clear hK K)
    refine held_take (i := 1) (v := .agg ((cells8 x2).toArray)) rfl (by kernel_rfl) (by kernel_rfl) (by kernel_rfl) (fun _ _ _ h => h) s0.out (by rfl) (fun w' hw' => exec_row 31 (.tmp 2) rfl (m2) rfl 31 ((cells8 x2).toArray) (0, 0) _ ((hw'.block _ (Blk.lt B2.out)).trans B2.out) Tryd.underlying31 rfl F2.out.size) ?_
    (intro K hK; go_simp; refine hK _ ?_; clear hK K)
    refine held_take (i := 3) (v := .agg ((cells8 x3).toArray)) rfl (by kernel_rfl) (by kernel_rfl) (by kernel_rfl) (fun _ _ _ h => h) s0.out (by rfl) (fun w' hw' => exec_row 31 (.tmp 3) rfl (m3) rfl 31 ((cells8 x3).toArray) (0, 0) _ ((hw'.block _ (Blk.lt B3.out)).trans B3.out) Tryd.underlying31 rfl F3.out.size) ?_
    (intro K hK; go_simp; refine hK _ ?_; clear hK K)
    refine held_two (i := 2) (j := 5) rfl rfl (by kernel_rfl) (by rfl) (by rfl) (fun K hK => ?_) (fun K hK => ?_)
    · refine wp_fn (R := fun v w'' => v = .agg (cells8 y).toArray ∧ Below v3.heap.size v3 w'' ∧ Below (v3.drew).heap.size (v3.drew) w'') (args := #[.int .i64 32, .agg (cells8 x1).toArray, .agg (cells8 x2).toArray]) _ _ rfl rfl Tryd.func36 (by kernel_rfl) (by kernel_rfl) ((hN1.out _).mono fun e w'' ⟨he, hb⟩ => ⟨_, he, by rw [← hy.out]; rfl, s0.out.trans (hb.mono s0.out.size), hb⟩) ?_
      rintro qq v4 ⟨rfl, h4, kkv4⟩
      replace h4 := Lib.hid h4
      replace kkv4 := Lib.hid kkv4
      go_simp
      refine hK _ _ h4.out ?_
      clear hK K
      refine held_two (i := 4) (j := 5) rfl rfl (by kernel_rfl) (by rfl) (by rfl) (fun K hK => ?_) (fun K hK => ?_)
      · refine wp_fn (R := fun v w'' => v = .agg (cells8 z).toArray ∧ Below v3.heap.size v3 w'' ∧ Below (v4).heap.size (v4) w'') (args := #[.int .i64 32, .agg (cells8 y).toArray, .agg (cells8 x3).toArray]) _ _ rfl rfl Tryd.func36 (by kernel_rfl) (by kernel_rfl) ((hN2.out _).mono fun e w'' ⟨he, hb⟩ => ⟨_, he, by rw [← hz.out]; rfl, h4.out.trans (hb.mono h4.out.size), hb⟩) ?_
        rintro qq v5 ⟨rfl, h5, kkv5⟩
        replace h5 := Lib.hid h5
        replace kkv5 := Lib.hid kkv5
        go_simp
        refine hK _ _ h5.out ?_
        clear hK K
        refine held_only (i := 5) rfl (by kernel_rfl) (by rfl) (fun K hK => ?_)
        have h6 := Lib.hid (h5.out.alloc h5.out.size (.cells Z32 31))
        have bh6 : Hid (Blk (v5.alloc (.cells Z32 31)) v5.heap.size 31 Z32) := Blk.new _ _ _
        go_simp
        refine hK _ _ h6.out ?_
        clear hK K
        refine held_only (i := 6) rfl (by kernel_rfl) (by rfl) (fun K hK => ?_)
        refine wp_store_whole 31 (.tmp 4) (.tmp 16) rfl (v5.heap.size) (cells8 z).toArray rfl rfl 31 Z32 bh6.out F4.out.size F4.out.zero F4.out.one ?_
        intro w9 B9 k9
        have b9 : Hid (Below v3.heap.size v3 w9) := h6.out.trans (Kept.below_of k9 (h5.out.size) h6.out.size)
        go_simp
        refine hK _ _ b9.out ?_
        clear hK K
        refine held_end (by kernel_rfl) ?_
        go_wp2_with fail
        go_meet
        case rel => exact ⟨_, rfl, B9, b9.out⟩
      · have h5 := Lib.hid (h4.out.alloc h4.out.size (.cells Z32 31))
        have bh5 : Hid (Blk (v4.alloc (.cells Z32 31)) v4.heap.size 31 Z32) := Blk.new _ _ _
        go_simp
        refine hK _ _ h5.out ?_
        clear hK K
        refine held_only (i := 4) rfl (by kernel_rfl) (by rfl) (fun K hK => ?_)
        refine wp_fn (R := fun v w'' => v = .agg (cells8 z).toArray ∧ Below v3.heap.size v3 w'' ∧ Below ((v4.alloc (.cells Z32 31))).heap.size ((v4.alloc (.cells Z32 31))) w'') (args := #[.int .i64 32, .agg (cells8 y).toArray, .agg (cells8 x3).toArray]) _ _ rfl rfl Tryd.func36 (by kernel_rfl) (by kernel_rfl) ((hN2.out _).mono fun e w'' ⟨he, hb⟩ => ⟨_, he, by rw [← hz.out]; rfl, h5.out.trans (hb.mono h5.out.size), hb⟩) ?_
        rintro qq v6 ⟨rfl, h6, kkv6⟩
        replace h6 := Lib.hid h6
        replace kkv6 := Lib.hid kkv6
        go_simp
        refine hK _ _ h6.out ?_
        clear hK K
        refine held_only (i := 6) rfl (by kernel_rfl) (by rfl) (fun K hK => ?_)
        refine wp_store_whole 31 (.tmp 4) (.tmp 16) rfl (v4.heap.size) (cells8 z).toArray rfl rfl 31 Z32 ((kkv6.out.block _ (Blk.lt bh5.out)).trans bh5.out) F4.out.size F4.out.zero F4.out.one ?_
        intro w9 B9 k9
        have b9 : Hid (Below v3.heap.size v3 w9) := h6.out.trans (Kept.below_of k9 (h4.out.size) h6.out.size)
        go_simp
        refine hK _ _ b9.out ?_
        clear hK K
        refine held_end (by kernel_rfl) ?_
        go_wp2_with fail
        go_meet
        case rel => exact ⟨_, rfl, B9, b9.out⟩
    · have h4 := Lib.hid (s0.out.alloc s0.out.size (.cells Z32 31))
      have bh4 : Hid (Blk (v3.drew.alloc (.cells Z32 31)) v3.drew.heap.size 31 Z32) := Blk.new _ _ _
      go_simp
      refine hK _ _ h4.out ?_
      clear hK K
      refine held_only (i := 2) rfl (by kernel_rfl) (by rfl) (fun K hK => ?_)
      refine wp_fn (R := fun v w'' => v = .agg (cells8 y).toArray ∧ Below v3.heap.size v3 w'' ∧ Below ((v3.drew.alloc (.cells Z32 31))).heap.size ((v3.drew.alloc (.cells Z32 31))) w'') (args := #[.int .i64 32, .agg (cells8 x1).toArray, .agg (cells8 x2).toArray]) _ _ rfl rfl Tryd.func36 (by kernel_rfl) (by kernel_rfl) ((hN1.out _).mono fun e w'' ⟨he, hb⟩ => ⟨_, he, by rw [← hy.out]; rfl, h4.out.trans (hb.mono h4.out.size), hb⟩) ?_
      rintro qq v5 ⟨rfl, h5, kkv5⟩
      replace h5 := Lib.hid h5
      replace kkv5 := Lib.hid kkv5
      go_simp
      refine hK _ _ h5.out ?_
      clear hK K
      refine held_only (i := 4) rfl (by kernel_rfl) (by rfl) (fun K hK => ?_)
      refine wp_fn (R := fun v w'' => v = .agg (cells8 z).toArray ∧ Below v3.heap.size v3 w'' ∧ Below (v5).heap.size (v5) w'') (args := #[.int .i64 32, .agg (cells8 y).toArray, .agg (cells8 x3).toArray]) _ _ rfl rfl Tryd.func36 (by kernel_rfl) (by kernel_rfl) ((hN2.out _).mono fun e w'' ⟨he, hb⟩ => ⟨_, he, by rw [← hz.out]; rfl, h5.out.trans (hb.mono h5.out.size), hb⟩) ?_
      rintro qq v6 ⟨rfl, h6, kkv6⟩
      replace h6 := Lib.hid h6
      replace kkv6 := Lib.hid kkv6
      go_simp
      refine hK _ _ h6.out ?_
      clear hK K
      refine held_only (i := 6) rfl (by kernel_rfl) (by rfl) (fun K hK => ?_)
      refine wp_store_whole 31 (.tmp 4) (.tmp 16) rfl (v3.drew.heap.size) (cells8 z).toArray rfl rfl 31 Z32 ((kkv6.out.block _ (Blk.lt (show Blk v5 _ _ _ from (kkv5.out.block _ (Blk.lt bh4.out)).trans bh4.out))).trans ((kkv5.out.block _ (Blk.lt bh4.out)).trans bh4.out)) F4.out.size F4.out.zero F4.out.one ?_
      intro w9 B9 k9
      have b9 : Hid (Below v3.heap.size v3 w9) := h6.out.trans (Kept.below_of k9 (Nat.le_refl _) h6.out.size)
      go_simp
      refine hK _ _ b9.out ?_
      clear hK K
      refine held_end (by kernel_rfl) ?_
      go_wp2_with fail
      go_meet
      case rel => exact ⟨_, rfl, B9, b9.out⟩
  case rest =>
    obtain ⟨m4, rfl, B4, hk⟩ := hcut
    replace hb := Lib.hid (hb.out.trans (hk.mono hb.out.size))
    replace B1 := Lib.hid ((hk.block _ (Blk.lt B1.out)).trans B1.out)
    replace B2 := Lib.hid ((hk.block _ (Blk.lt B2.out)).trans B2.out)
    replace B3 := Lib.hid ((hk.block _ (Blk.lt B3.out)).trans B3.out)
    replace B4 := Lib.hid B4
    clear hk
    go_wp2_with fail
    refine (tree_spots_in 0 7 (by decide) _ (hTs.out _ hb.out).1 (hTs.out _ hb.out).2 (by decide)).mono ?_
    rintro e v4 ⟨v, rfl, hO, hk⟩
    rw [spots7] at hO
    obtain ⟨gs, cs, rfl, -, hgs⟩ := hO.form (by decide)
    have hs0 : Hid (∀ j v, ([Value.int .i64 2, .int .i64 0] : List Value)[j]? = some v → v4.cell? ⟨gs, j, none⟩ = some v) := fun j v hv => by
      match j, hv with
      | 0, hv => rw [hO.cellAt 0 (by decide)]; exact hv
      | 1, hv => rw [hO.cellAt 1 (by decide)]; exact hv
      | j + 2, hv => simp at hv
    have hs2 : Hid (∀ j v, ([Value.int .i64 0, .int .i64 6] : List Value)[j]? = some v → v4.cell? ⟨gs, 4 + j, none⟩ = some v) := fun j v hv => by
      match j, hv with
      | 0, hv => rw [hO.cellAt 4 (by decide)]; exact hv
      | 1, hv => rw [hO.cellAt 5 (by decide)]; exact hv
      | j + 2, hv => simp at hv
    replace hb := Lib.hid (hb.out.trans (hk.mono hb.out.size))
    replace B1 := Lib.hid ((hk.block _ (Blk.lt B1.out)).trans B1.out)
    replace B2 := Lib.hid ((hk.block _ (Blk.lt B2.out)).trans B2.out)
    replace B3 := Lib.hid ((hk.block _ (Blk.lt B3.out)).trans B3.out)
    replace B4 := Lib.hid ((hk.block _ (Blk.lt B4.out)).trans B4.out)
    replace hgs := Lib.hid hgs
    clear hk hO
    go_wp2_with fail
    have s0 : Hid (Below v4.heap.size v4 v4.drew) := (Below.refl _ _).drew
    refine held_start (fun w' => Below v4.heap.size v4 w') 32 rfl (by kernel_rfl) ?_
    refine held_take (i := 0) (v := .agg ((cells8 x1).toArray)) rfl (by kernel_rfl) (by kernel_rfl) (by kernel_rfl) (fun _ _ _ h => h) s0.out (by rfl) (fun w' hw' => exec_row 31 (.tmp 1) rfl (m1) rfl 31 ((cells8 x1).toArray) (0, 0) _ ((hw'.block _ (Blk.lt B1.out)).trans B1.out) Tryd.underlying31 rfl F1.out.size) ?_
    (intro K hK; go_simp; refine hK _ ?_; clear hK K)
    refine held_take (i := 1) (v := .agg ((cells8 x2).toArray)) rfl (by kernel_rfl) (by kernel_rfl) (by kernel_rfl) (fun _ _ _ h => h) s0.out (by rfl) (fun w' hw' => exec_row 31 (.tmp 2) rfl (m2) rfl 31 ((cells8 x2).toArray) (0, 0) _ ((hw'.block _ (Blk.lt B2.out)).trans B2.out) Tryd.underlying31 rfl F2.out.size) ?_
    (intro K hK; go_simp; refine hK _ ?_; clear hK K)
    refine held_take (i := 2) (v := .agg ((cells8 x3).toArray)) rfl (by kernel_rfl) (by kernel_rfl) (by kernel_rfl) (fun _ _ _ h => h) s0.out (by rfl) (fun w' hw' => exec_row 31 (.tmp 3) rfl (m3) rfl 31 ((cells8 x3).toArray) (0, 0) _ ((hw'.block _ (Blk.lt B3.out)).trans B3.out) Tryd.underlying31 rfl F3.out.size) ?_
    (intro K hK; go_simp; refine hK _ ?_; clear hK K)
    refine held_take (i := 5) (v := .agg ((cells8 z).toArray)) rfl (by kernel_rfl) (by kernel_rfl) (by kernel_rfl) (fun _ _ _ h => h) s0.out (by rfl) (fun w' hw' => exec_row 31 (.tmp 4) rfl (m4) rfl 31 ((cells8 z).toArray) (0, 0) _ ((hw'.block _ (Blk.lt B4.out)).trans B4.out) Tryd.underlying31 rfl F4.out.size) ?_
    (intro K hK; go_simp; refine hK _ ?_; clear hK K)
    refine held_only (i := 3) rfl (by kernel_rfl) (by rfl) (fun K hK => ?_)
    refine wp_buildAggs 41 31 3 _ rfl 32 (by decide) [cells8 x1, cells8 x2, cells8 x3] Tryd.underlying41 size31 zero31 rfl (by decide) (by decide) q3.out rfl ?_
    rw [x9.out]
    have h5 : Hid (Below v4.heap.size v4 (v4.drew.alloc (.cells X9 31))) := s0.out.alloc s0.out.size _
    have hR : Hid (RdD (v4.drew.alloc (.cells X9 31)) (some ⟨v4.drew.heap.size, 0, none⟩) 3 [x1, x2, x3]) := ⟨rfl, q4.out, Blk.reads (Blk.new v4.drew 31 X9) 0 _ (flatMap_len _ q4.out) (fun j u hu => by rw [Nat.zero_add, ← x9.out, List.getElem?_toArray]; simpa [List.flatMap_def] using hu)⟩
    go_simp
    refine hK _ _ h5.out ?_
    clear hK K
    refine held_only (i := 4) rfl (by kernel_rfl) (by rfl) (fun K hK => ?_)
    refine wp_fn (R := fun v w'' => v = .agg (cells8 z).toArray ∧ Below v4.heap.size v4 w'') (args := #[.int .i64 32, .slice (some ⟨v4.drew.heap.size, 0, none⟩) 3 3]) _ _ rfl rfl Tryd.func26 (by kernel_rfl) (by kernel_rfl) ((root_any 32 3 (by decide) [x1, x2, x3] _ 3 _ (by decide) (hBs.out _ (hb.out.trans (h5.out.mono hb.out.size))) hR.out).mono fun e w'' ⟨he, hb⟩ => ⟨_, he, by rw [root3, hy.out, hz.out], h5.out.trans (hb.mono h5.out.size)⟩) ?_
    rintro qq v6 ⟨rfl, h6⟩
    replace h6 := Lib.hid h6
    go_simp
    refine hK _ _ h6.out ?_
    clear hK K
    refine held_take (i := 6) (v := .bool true) rfl (by kernel_rfl) (by kernel_rfl) (by kernel_rfl) (fun _ _ _ h => h) h6.out (by rfl) (fun w' hw' => by have h := hq1 w'; go_simp) ?_
    (intro K hK; go_simp; refine hK _ ?_; clear hK K)
    refine held_take (i := 7) (v := .bool true) rfl (by kernel_rfl) (by kernel_rfl) (by kernel_rfl) (fun _ _ _ h => h) h6.out (by rfl) (fun w' hw' => run_mv (.tmp 24) rfl w') ?_
    (intro K hK; go_simp; refine hK _ ?_; clear hK K)
    refine held_only (i := 8) rfl (by kernel_rfl) (by rfl) (fun K hK => ?_)
    refine wp_fn (R := fun v w'' => v = .agg (cells8 e0).toArray ∧ Below v4.heap.size v4 w'') (args := #[.int .i64 32, .slice none 0 0]) _ _ rfl rfl Tryd.func26 (by kernel_rfl) (by kernel_rfl) ((root_any 32 0 (by decide) [] none 0 _ (by decide) (hBs.out _ (hb.out.trans (h6.out.mono hb.out.size))) (RdD.nil_ _ _)).mono fun e w'' ⟨he, hb⟩ => ⟨_, he, by rw [← e00.out]; rfl, h6.out.trans (hb.mono h6.out.size)⟩) ?_
    rintro qq v7 ⟨rfl, h7⟩
    replace h7 := Lib.hid h7
    go_simp
    refine hK _ _ h7.out ?_
    clear hK K
    refine held_only (i := 9) rfl (by kernel_rfl) (by rfl) (fun K hK => ?_)
    refine wp_fn (R := fun v w'' => v = .agg (cells8 e0).toArray ∧ Below v4.heap.size v4 w'') (args := #[.int .i64 32]) _ _ rfl rfl Tryd.func37 (by kernel_rfl) (by kernel_rfl) ((hNo.out _).mono fun e w'' ⟨he, hb⟩ => ⟨_, he, by rw [← e00.out]; rfl, h7.out.trans (hb.mono h7.out.size)⟩) ?_
    rintro qq v8 ⟨rfl, h9⟩
    replace h9 := Lib.hid h9
    go_simp
    refine hK _ _ h9.out ?_
    clear hK K
    refine held_take (i := 10) (v := .bool true) rfl (by kernel_rfl) (by kernel_rfl) (by kernel_rfl) (fun _ _ _ h => h) h9.out (by rfl) (fun w' hw' => by have h := hq2 w'; go_simp) ?_
    (intro K hK; go_simp; refine hK _ ?_; clear hK K)
    refine held_take (i := 11) (v := .bool true) rfl (by kernel_rfl) (by kernel_rfl) (by kernel_rfl) (fun _ _ _ h => h) h9.out (by rfl) (fun w' hw' => by go_simp) ?_
    (intro K hK; go_simp; refine hK _ ?_; clear hK K)
    refine held_take (i := 12) (v := .bool true) rfl (by kernel_rfl) (by kernel_rfl) (by kernel_rfl) (fun _ _ _ h => h) h9.out (by rfl) (fun w' hw' => run_mv (.tmp 29) rfl w') ?_
    (intro K hK; go_simp; refine hK _ ?_; clear hK K)
    refine held_take (i := 13) (v := .slice (some ⟨gs, 0, none⟩) 3 cs) rfl (by kernel_rfl) (by kernel_rfl) (by kernel_rfl) (fun _ _ _ h => h) h9.out (by rfl) (fun w' hw' => run_mv (.tmp 5) rfl w') ?_
    (intro K hK; go_simp; refine hK _ ?_; clear hK K)
    refine held_take (i := 14) (v := .int .i64 3) rfl (by kernel_rfl) (by kernel_rfl) (by kernel_rfl) (fun _ _ _ h => h) h9.out (by rfl) (fun w' hw' => by go_simp) ?_
    (intro K hK; go_simp; refine hK _ ?_; clear hK K)
    refine held_take (i := 15) (v := .bool true) rfl (by kernel_rfl) (by kernel_rfl) (by kernel_rfl) (fun _ _ _ h => h) h9.out (by rfl) (fun w' hw' => by go_simp) ?_
    (intro K hK; go_simp; refine hK _ ?_; clear hK K)
    refine held_take (i := 16) (v := .bool true) rfl (by kernel_rfl) (by kernel_rfl) (by kernel_rfl) (fun _ _ _ h => h) h9.out (by rfl) (fun w' hw' => by go_simp) ?_
    (intro K hK; go_simp; refine hK _ ?_; clear hK K)
    refine held_take (i := 17) (v := .bool true) rfl (by kernel_rfl) (by kernel_rfl) (by kernel_rfl) (fun _ _ _ h => h) h9.out (by rfl) (fun w' hw' => run_mv (.tmp 34) rfl w') ?_
    (intro K hK; go_simp; refine hK _ ?_; clear hK K)
    refine held_take (i := 18) (v := .slice (some ⟨gs, 0, none⟩) 3 cs) rfl (by kernel_rfl) (by kernel_rfl) (by kernel_rfl) (fun _ _ _ h => h) h9.out (by rfl) (fun w' hw' => run_mv (.tmp 5) rfl w') ?_
    (intro K hK; go_simp; refine hK _ ?_; clear hK K)
    refine held_take (i := 19) (v := .pointer (some ⟨gs, 0, none⟩)) rfl (by kernel_rfl) (by kernel_rfl) (by kernel_rfl) (fun _ _ _ h => h) h9.out (by rfl) (fun w' hw' => by go_simp) ?_
    (intro K hK; go_simp; refine hK _ ?_; clear hK K)
    refine held_take (i := 20) (v := .agg ([Value.int .i64 2, .int .i64 0] : List Value).toArray) rfl (by kernel_rfl) (by kernel_rfl) (by kernel_rfl) (fun _ _ _ h => h) h9.out (by rfl) (fun w' hw' => exec_part 26 (.tmp 37) rfl gs 0 rfl ([Value.int .i64 2, .int .i64 0]) _ (fun j v hv => ((hw'.cell (p := ⟨gs, 0 + j, none⟩) hgs.out).trans (by rw [Nat.zero_add]; exact hs0.out j v hv))) Tryd.underlying26 rfl sS.out) ?_
    (intro K hK; go_simp; refine hK _ ?_; clear hK K)
    refine held_take (i := 21) (v := .agg #[.int .i64 2, .int .i64 0]) rfl (by kernel_rfl) (by kernel_rfl) (by kernel_rfl) (fun _ _ _ h => h) h9.out (by rfl) (fun w' hw' => by go_simp) ?_
    (intro K hK; go_simp; refine hK _ ?_; clear hK K)
    refine held_take (i := 22) (v := .bool true) rfl (by kernel_rfl) (by kernel_rfl) (by kernel_rfl) (fun _ _ _ h => h) h9.out (by rfl) (fun w' hw' => by have h := eqS1 w'; go_simp) ?_
    (intro K hK; go_simp; refine hK _ ?_; clear hK K)
    refine held_take (i := 23) (v := .bool true) rfl (by kernel_rfl) (by kernel_rfl) (by kernel_rfl) (fun _ _ _ h => h) h9.out (by rfl) (fun w' hw' => by go_simp) ?_
    (intro K hK; go_simp; refine hK _ ?_; clear hK K)
    refine held_take (i := 24) (v := .bool true) rfl (by kernel_rfl) (by kernel_rfl) (by kernel_rfl) (fun _ _ _ h => h) h9.out (by rfl) (fun w' hw' => run_mv (.tmp 41) rfl w') ?_
    (intro K hK; go_simp; refine hK _ ?_; clear hK K)
    refine held_take (i := 25) (v := .slice (some ⟨gs, 0, none⟩) 3 cs) rfl (by kernel_rfl) (by kernel_rfl) (by kernel_rfl) (fun _ _ _ h => h) h9.out (by rfl) (fun w' hw' => run_mv (.tmp 5) rfl w') ?_
    (intro K hK; go_simp; refine hK _ ?_; clear hK K)
    refine held_take (i := 26) (v := .pointer (some ⟨gs, 4, none⟩)) rfl (by kernel_rfl) (by kernel_rfl) (by kernel_rfl) (fun _ _ _ h => h) h9.out (by rfl) (fun w' hw' => by go_simp) ?_
    (intro K hK; go_simp; refine hK _ ?_; clear hK K)
    refine held_take (i := 27) (v := .agg ([Value.int .i64 0, .int .i64 6] : List Value).toArray) rfl (by kernel_rfl) (by kernel_rfl) (by kernel_rfl) (fun _ _ _ h => h) h9.out (by rfl) (fun w' hw' => exec_part 26 (.tmp 44) rfl gs 4 rfl ([Value.int .i64 0, .int .i64 6]) _ (fun j v hv => ((hw'.cell (p := ⟨gs, 4 + j, none⟩) hgs.out).trans (hs2.out j v hv))) Tryd.underlying26 rfl sS.out) ?_
    (intro K hK; go_simp; refine hK _ ?_; clear hK K)
    refine held_take (i := 28) (v := .agg #[.int .i64 0, .int .i64 6]) rfl (by kernel_rfl) (by kernel_rfl) (by kernel_rfl) (fun _ _ _ h => h) h9.out (by rfl) (fun w' hw' => by go_simp) ?_
    (intro K hK; go_simp; refine hK _ ?_; clear hK K)
    refine held_take (i := 29) (v := .bool true) rfl (by kernel_rfl) (by kernel_rfl) (by kernel_rfl) (fun _ _ _ h => h) h9.out (by rfl) (fun w' hw' => by have h := eqS2 w'; go_simp) ?_
    (intro K hK; go_simp; refine hK _ ?_; clear hK K)
    refine held_take (i := 30) (v := .bool true) rfl (by kernel_rfl) (by kernel_rfl) (by kernel_rfl) (fun _ _ _ h => h) h9.out (by rfl) (fun w' hw' => by go_simp) ?_
    (intro K hK; go_simp; refine hK _ ?_; clear hK K)
    refine held_take (i := 31) (v := .bool true) rfl (by kernel_rfl) (by kernel_rfl) (by kernel_rfl) (fun _ _ _ h => h) h9.out (by rfl) (fun w' hw' => by go_simp) ?_
    (intro K hK; go_simp; refine hK _ ?_; clear hK K)
    refine held_end (by kernel_rfl) ?_
    go_wp2_with fail
    go_ret
    exact ⟨rfl, (hb.out.trans (h9.out.mono hb.out.size))⟩
end Go.Proofs.YtngieimjlkpkaaaDoor.TreeNumbers
