/-
  Texts of the claim, put into one file: Chain, ToldV, Chain2.
-/
import Derived.Test.YtmdkfhfkdcbpgaaDoorRZ20
import Derived.Test.YtmdkfhfkdcbpgaaDoorRZ18
import Derived.Test.YtmdkfhfkdcbpgaaDoorRZ5

namespace Go.Proofs.YtmdkfhfkdcbpgaaDoorR.Chain
open Go Go.RowKit Go.Proofs.YtmdkfhfkdcbpgaaDoorR Go.Proofs.YtmdkfhfkdcbpgaaDoorR.Mem Go.Proofs.YtmdkfhfkdcbpgaaDoorR.Sha Go.Proofs.YtmdkfhfkdcbpgaaDoorR.ShaWalk Go.Proofs.YtmdkfhfkdcbpgaaDoorR.Bytes Go.Proofs.YtmdkfhfkdcbpgaaDoorR.HashMem Go.Proofs.YtmdkfhfkdcbpgaaDoorR.Hash Go.Proofs.YtmdkfhfkdcbpgaaDoorR.HashSum Go.Proofs.YtmdkfhfkdcbpgaaDoorR.DigestMem Go.Proofs.YtmdkfhfkdcbpgaaDoorR.Digest Go.Proofs.YtmdkfhfkdcbpgaaDoorR.DigestOf Go.Proofs.YtmdkfhfkdcbpgaaDoorR.RefSum Go.Proofs.YtmdkfhfkdcbpgaaDoorR.RefCut Go.Proofs.YtmdkfhfkdcbpgaaDoorR.RefOf Go.Proofs.YtmdkfhfkdcbpgaaDoorR.DigestTop Go.Proofs.YtmdkfhfkdcbpgaaDoorR.RefTop Go.Proofs.YtmdkfhfkdcbpgaaDoorR.QuietTail Go.Proofs.YtmdkfhfkdcbpgaaDoorR.Grown

def leafOf (s : Int) (q : Text) : Text := cutTo (sum (kb 0 :: q)) (clampN s)
def linkOf (s : Int) (a b : Text) : Text := cutTo (sum (kb 2 :: (a ++ b))) (clampN s)
def chainOf (s : Int) (b : Text) (es : List Text) : Text := es.foldl (fun b e => linkOf s b (leafOf s e)) b
theorem leafOf_len (s : Int) (q : Text) : (leafOf s q).length = 32 := cutTo_len _ _ (sum_len _) (clampN_ok s).2
theorem linkOf_len (s : Int) (a b : Text) : (linkOf s a b).length = 32 := cutTo_len _ _ (sum_len _) (clampN_ok s).2
theorem chainOf_len (s : Int) (b : Text) (hb : b.length = 32) : ∀ es : List Text, (chainOf s b es).length = 32
  | [] => hb
  | e :: es => by
    show (chainOf s (linkOf s b (leafOf s e)) es).length = 32
    exact chainOf_len s _ (linkOf_len _ _ _) es
theorem chainOf_step (s : Int) (b : Text) (es : List Text) (i : Nat) (e : Text) (h : es[i]? = some e) : chainOf s b (es.take (i + 1)) = linkOf s (chainOf s b (es.take i)) (leafOf s e) := by
  unfold chainOf
  rw [List.take_add_one, h, List.foldl_append]
  rfl
/-- Each text is short enough for a call. -/
def Short (ps : List Text) : Prop := ∀ q ∈ ps, q.length < 140737488355328

set_option maxRecDepth 100000 in
set_option maxHeartbeats 1000000 in
theorem refchain_any (s : Int) (hs63 : s < 9223372036854775808) (b : Text) (hb : b.length = 32) (es : List Text) (n : Nat) (hn : es.length = n) (hn63 : n < 140737488355328) (A : Option Addr) (c : Nat) (w : World) (hp : Pieces w A es) (hsh : Short es) :
    Calls Tryd.prog 51 #[.int .i64 s, .agg (cells8 b).toArray, .slice A n c] w fun e w' => e = .returned (.agg (cells8 (chainOf s b es)).toArray) ∧ Below w.heap.size w w' := by
  have H0 : Hid (Blk ((w.alloc (.cells (cells8 b).toArray 23)).alloc (.cells Z32 23)) w.heap.size 23 (cells8 (chainOf s b (es.take 0))).toArray) := (Blk.new w _ _).alloc _
  have H1 : Hid (Blk ((w.alloc (.cells (cells8 b).toArray 23)).alloc (.cells Z32 23)) (w.heap.size + 1) 23 Z32) := heap_alloc2_new w _ _
  have H2 : Hid (Below w.heap.size w ((w.alloc (.cells (cells8 b).toArray 23)).alloc (.cells Z32 23))) := ((Below.refl _ w).alloc (Nat.le_refl _) _).alloc (by simp) _
  have hN : Hid ((n : Int) < 9223372036854775807) := by show _ < _; omega
  replace hs63 := Lib.hid hs63
  replace hb := Lib.hid hb
  replace hn := Lib.hid hn
  replace hp := Lib.hid hp
  replace hsh := Lib.hid hsh
  clear hn63
  go_enter Tryd.func51, Tryd.ntmps51
  go_wp2_with fail
  go_loopw [7] (fun v wr => ∃ i : Nat, v = .int .i64 (i : Int) ∧ Hid (i ≤ n) ∧ Hid (Blk wr w.heap.size 23 (cells8 (chainOf s b (es.take i))).toArray) ∧ Hid (Blk wr (w.heap.size + 1) 23 Z32) ∧ Hid (Below w.heap.size w wr)) (fun v _ => n - (intOf v).toNat)
  case atStart => exact ⟨0, rfl, (show 0 ≤ n by omega), H0.out, H1.out, H2.out⟩
  case round =>
    clear H0 H1 H2
    obtain ⟨i, rfl, hi2, hB, hZ, hW⟩ := hrel
    by_cases hlt : i < n
    · have hz : (i : Int) < (n : Int) := by omega
      have hz0 : (0 : Int) ≤ (i : Int) := by omega
      have hil : (i : Int) < 9223372036854775807 := by have := hN.out; omega
      obtain ⟨q, hqi⟩ : ∃ q, Hid (es[i]? = some q) := ⟨_, List.getElem?_eq_getElem (by rw [hn.out]; exact hlt)⟩
      obtain ⟨bA, o, rfl, hbA, hcs⟩ := hp.out (by have := hn.out; omega)
      obtain ⟨Ai, ci, hc1, hc2, hc3, hc4⟩ := hcs i q hqi.out
      have hcell : wr.cell? ⟨bA, o + i, none⟩ = some (.slice Ai q.length ci) := (hW.out.cell (p := ⟨bA, o + i, none⟩) hbA).trans hc1
      obtain ⟨x, hx⟩ : ∃ x, Hid (x = chainOf s b (es.take i)) := ⟨_, rfl⟩
      have hxl : Hid (x.length = 32) := by show _ = _; rw [hx.out]; exact chainOf_len s b hb.out _
      have hst := Lib.hid (chainOf_step s b es i q hqi.out)
      rw [← hx.out] at hB hst
      obtain ⟨y, hy⟩ : ∃ y, Hid (y = leafOf s q) := ⟨_, rfl⟩
      obtain ⟨z, hz2⟩ : ∃ z, Hid (z = linkOf s x y) := ⟨_, rfl⟩
      have hyl : Hid (y.length = 32) := by show _ = _; rw [hy.out]; exact leafOf_len _ _
      have hzl : Hid (z.length = 32) := by show _ = _; rw [hz2.out]; exact linkOf_len _ _ _
      rw [← hy.out, ← hz2.out] at hst
      have hql := Lib.hid (hsh.out q (List.mem_of_getElem? hqi.out))
      have hrq : Hid (Reads wr 1 Ai q.length (cells8 q)) := hc3.below hW.out
      replace hc2 := Lib.hid hc2
      replace hc4 := Lib.hid hc4
      clear hcs hc1 hc3
      obtain ⟨m, hm⟩ : ∃ m, Hid (q.length = m) := ⟨_, rfl⟩
      rw [hm.out] at hcell hrq hc2 hc4 hql
      go_wp2_with fail
      have hsx : Hid ((Tryd.prog.info? 23).map (·.size) = some (cells8 x).toArray.size) := dig_size x hxl.out
      refine wp_region_class_tail 9 (Class wr) (by kernel_rfl) (by kernel_rfl) (Class.mk_ ((Below.refl _ _).drew)) ?_
      refine wpQuiet_move rfl (.tmp 0) rfl ?_
      (intro K hK; go_simp; refine hK _ ?_; clear hK K)
      refine wpQuiet_load_row rfl 23 (.tmp 4) rfl w.heap.size rfl 23 (cells8 x).toArray (0, 0) _ (fun w' hw' => (hw'.below.block _ hB.out.lt).trans hB.out) Tryd.underlying23 rfl hsx.out ?_
      (intro K hK; go_simp; refine hK _ ?_; clear hK K)
      refine wpQuiet_move rfl (.tmp 0) rfl ?_
      (intro K hK; go_simp; refine hK _ ?_; clear hK K)
      refine wpQuiet_move rfl (.tmp 2) rfl ?_
      (intro K hK; go_simp; refine hK _ ?_; clear hK K)
      refine wpQuiet_move rfl (.tmp 7) rfl ?_
      (intro K hK; go_simp; refine hK _ ?_; clear hK K)
      refine wpQuiet_val (v := .pointer (some ⟨bA, o + i, none⟩)) rfl (fun w' hw' => by go_simp) ?_
      (intro K hK; go_simp; refine hK _ ?_; clear hK K)
      refine wpQuiet_val (v := .slice Ai m ci) rfl (fun w' hw' => by have hc := (hw'.below.cell (p := ⟨bA, o + i, none⟩) (World.block_lt_of_cell? wr _ hcell)).trans hcell; go_simp) ?_
      (intro K hK; go_simp; refine hK _ ?_; clear hK K)
      refine wpQuiet_fn (v := .agg (cells8 y).toArray) (args := #[.int .i64 s, .slice Ai m ci]) rfl _ _ rfl rfl Tryd.func61 (by kernel_rfl) (by kernel_rfl) (fun w' hw' => ?_) ?_
      · refine (refleaf_any q m hm.out Ai ci s w' hs63.out hql.out (hrq.out.below hw'.below) hc2.out hc4.out).mono ?_
        rintro e w1 ⟨rfl, hb1⟩
        exact ⟨by rw [hy.out]; rfl, hw'.next hb1⟩
      (intro K hK; go_simp; refine hK _ ?_; clear hK K)
      refine wpQuiet_fn (v := .agg (cells8 z).toArray) (args := #[.int .i64 s, .agg (cells8 x).toArray, .agg (cells8 y).toArray]) rfl _ _ rfl rfl Tryd.func60 (by kernel_rfl) (by kernel_rfl) (fun w' hw' => ?_) ?_
      · refine (reflink_any x y hxl.out hyl.out s w' hs63.out).mono ?_
        rintro e w1 ⟨rfl, hb1⟩
        exact ⟨by rw [hz2.out]; rfl, hw'.next hb1⟩
      (intro K hK; go_simp; refine hK _ ?_; clear hK K)
      refine wpQuiet_nil ?_
      intro w' hw'
      have hB' := Lib.hid ((hw'.below.block _ hB.out.lt).trans hB.out)
      have hZ' := Lib.hid ((hw'.below.block _ hZ.out.lt).trans hZ.out)
      have hW' := Lib.hid (hW.out.trans (hw'.below.mono hW.out.size))
      have hs2 : Hid ((Tryd.prog.info? 23).map (·.size) = some (cells8 z).toArray.size) := dig_size z hzl.out
      have hs3 : Hid ((cells8 x).toArray.size = (cells8 z).toArray.size) := by show _ = _; simp [cells8_len, hxl.out, hzl.out]
      have hs4 := Lib.hid (dig_one z)
      simp only [List.drop]
      go_wp2_with ((with_reducible change wpList _ _ _ ({ dst := none, op := Op.store 23 _ _, type := _, pos := _, after := _, guard := _ } :: _) _ _); refine wpList_store_row (o := ⟨none, _, _, _, _, _⟩) rfl 23 (.tmp 4) (.tmp 22) rfl w.heap.size (cells8 z).toArray rfl rfl 23 (cells8 x).toArray hB'.out hs2.out hs3.out hs4.out ?_)
      go_roundw
      case rel => exact ⟨i + 1, by go_num, (show i + 1 ≤ n by omega), (show Blk _ _ _ _ by rw [hst.out]; exact setRow_heap _ _ _ _ _ _ hB'.out), (show Blk _ _ _ _ from (setRow_other _ _ _ _ (by omega)).trans hZ'.out), (show Below _ _ _ from below_setRow hW'.out (Nat.le_refl _) _)⟩
      case measure => simp [intOf]; omega
    · obtain rfl : i = n := by have := hi2.out; omega
      have hT : Hid (es.take i = es) := List.take_of_length_le (by have := hn.out; omega)
      have hz : (i : Int) ≤ (i : Int) := by omega
      rw [hT.out] at hB
      obtain ⟨x, hx⟩ : ∃ x, Hid (x = chainOf s b es) := ⟨_, rfl⟩
      have hxl : Hid (x.length = 32) := by show _ = _; rw [hx.out]; exact chainOf_len s b hb.out _
      rw [← hx.out] at hB
      have hs2 : Hid ((Tryd.prog.info? 23).map (·.size) = some (cells8 x).toArray.size) := dig_size x hxl.out
      have hs3 : Hid ((Z32 : Array Value).size = (cells8 x).toArray.size) := by show _ = _; simp [cells8_len, hxl.out, Z32]
      have hs4 := Lib.hid (dig_one x)
      go_wp2_with (first
        | ((with_reducible change wpList _ _ _ ({ dst := some 23, op := _, type := _, pos := _, after := _, guard := _ } :: _) _ _); refine wpList_load_row (o := ⟨some 23, _, _, _, _, _⟩) rfl 23 (.tmp 4) rfl w.heap.size rfl 23 (cells8 x).toArray (0, 0) _ hB.out Tryd.underlying23 rfl hs2.out ?_)
        | ((with_reducible change wpList _ _ _ ({ dst := none, op := Op.store 23 _ _, type := _, pos := _, after := _, guard := _ } :: _) _ _); refine wpList_store_row (o := ⟨none, _, _, _, _, _⟩) rfl 23 (.tmp 6) (.tmp 23) rfl (w.heap.size + 1) (cells8 x).toArray rfl rfl 23 Z32 hZ.out hs2.out hs3.out hs4.out ?_))
      refine bodyPost_ret (results_cell_row rfl _ _ (w.heap.size + 1) 23 (cells8 x).toArray (0, 0) _ rfl (setRow_heap _ _ _ _ _ _ hZ.out) Tryd.underlying23 rfl hs2.out) rfl ?_
      exact ⟨by rw [hx.out], below_setRow hW.out (by omega) _⟩
set_option maxRecDepth 100000 in
set_option maxHeartbeats 1000000 in
theorem chain_any (s : Int) (b : Text) (hb : b.length = 32) (es : List Text) (n : Nat) (hn : es.length = n) (hn63 : n < 140737488355328) (A : Option Addr) (c : Nat) (w : World) (hBs : Base w) (hp : Pieces w A es) (hsh : Short es) :
    Calls Tryd.prog 107 #[.int .i64 s, .agg (cells8 b).toArray, .slice A n c] w fun e w' => e = .returned (.agg (cells8 (chainOf s b es)).toArray) ∧ Below w.heap.size w w' := by
  have H0 : Hid (Blk ((w.alloc (.cells (cells8 b).toArray 23)).alloc (.cells Z32 23)) w.heap.size 23 (cells8 (chainOf s b (es.take 0))).toArray) := (Blk.new w _ _).alloc _
  have H1 : Hid (Blk ((w.alloc (.cells (cells8 b).toArray 23)).alloc (.cells Z32 23)) (w.heap.size + 1) 23 Z32) := heap_alloc2_new w _ _
  have H2 : Hid (Below w.heap.size w ((w.alloc (.cells (cells8 b).toArray 23)).alloc (.cells Z32 23))) := ((Below.refl _ w).alloc (Nat.le_refl _) _).alloc (by simp) _
  have hN : Hid ((n : Int) < 9223372036854775807) := by show _ < _; omega
  replace hBs := Lib.hid hBs
  replace hb := Lib.hid hb
  replace hn := Lib.hid hn
  replace hp := Lib.hid hp
  replace hsh := Lib.hid hsh
  clear hn63
  go_enter Tryd.func107, Tryd.ntmps107
  go_wp2_with fail
  go_loopw [11] (fun v wr => ∃ i : Nat, v = .int .i64 (i : Int) ∧ Hid (i ≤ n) ∧ Hid (Blk wr w.heap.size 23 (cells8 (chainOf s b (es.take i))).toArray) ∧ Hid (Blk wr (w.heap.size + 1) 23 Z32) ∧ Hid (Below w.heap.size w wr)) (fun v _ => n - (intOf v).toNat)
  case atStart => exact ⟨0, rfl, (show 0 ≤ n by omega), H0.out, H1.out, H2.out⟩
  case round =>
    clear H0 H1 H2
    obtain ⟨i, rfl, hi2, hB, hZ, hW⟩ := hrel
    by_cases hlt : i < n
    · have hz : (i : Int) < (n : Int) := by omega
      have hz0 : (0 : Int) ≤ (i : Int) := by omega
      have hil : (i : Int) < 9223372036854775807 := by have := hN.out; omega
      obtain ⟨q, hqi⟩ : ∃ q, Hid (es[i]? = some q) := ⟨_, List.getElem?_eq_getElem (by rw [hn.out]; exact hlt)⟩
      obtain ⟨bA, o, rfl, hbA, hcs⟩ := hp.out (by have := hn.out; omega)
      obtain ⟨Ai, ci, hc1, hc2, hc3, hc4⟩ := hcs i q hqi.out
      have hcell : wr.cell? ⟨bA, o + i, none⟩ = some (.slice Ai q.length ci) := (hW.out.cell (p := ⟨bA, o + i, none⟩) hbA).trans hc1
      obtain ⟨x, hx⟩ : ∃ x, Hid (x = chainOf s b (es.take i)) := ⟨_, rfl⟩
      have hxl : Hid (x.length = 32) := by show _ = _; rw [hx.out]; exact chainOf_len s b hb.out _
      have hst := Lib.hid (chainOf_step s b es i q hqi.out)
      rw [← hx.out] at hB hst
      obtain ⟨y, hy⟩ : ∃ y, Hid (y = leafOf s q) := ⟨_, rfl⟩
      obtain ⟨z, hz2⟩ : ∃ z, Hid (z = linkOf s x y) := ⟨_, rfl⟩
      have hyl : Hid (y.length = 32) := by show _ = _; rw [hy.out]; exact leafOf_len _ _
      have hzl : Hid (z.length = 32) := by show _ = _; rw [hz2.out]; exact linkOf_len _ _ _
      rw [← hy.out, ← hz2.out] at hst
      have hql := Lib.hid (hsh.out q (List.mem_of_getElem? hqi.out))
      have hrq : Hid (Reads wr 1 Ai q.length (cells8 q)) := hc3.below hW.out
      replace hc2 := Lib.hid hc2
      replace hc4 := Lib.hid hc4
      clear hcs hc1 hc3
      obtain ⟨m, hm⟩ : ∃ m, Hid (q.length = m) := ⟨_, rfl⟩
      rw [hm.out] at hcell hrq hc2 hc4 hql
      go_wp2_with fail
      have hsx : Hid ((Tryd.prog.info? 23).map (·.size) = some (cells8 x).toArray.size) := dig_size x hxl.out
      refine wp_region_class_tail 6 (Class wr) (by kernel_rfl) (by kernel_rfl) (Class.mk_ ((Below.refl _ _).drew)) ?_
      refine wpQuiet_move rfl (.tmp 0) rfl ?_
      (intro K hK; go_simp; refine hK _ ?_; clear hK K)
      refine wpQuiet_load_row rfl 23 (.tmp 4) rfl w.heap.size rfl 23 (cells8 x).toArray (0, 0) _ (fun w' hw' => (hw'.below.block _ hB.out.lt).trans hB.out) Tryd.underlying23 rfl hsx.out ?_
      (intro K hK; go_simp; refine hK _ ?_; clear hK K)
      refine wpQuiet_move rfl (.tmp 0) rfl ?_
      (intro K hK; go_simp; refine hK _ ?_; clear hK K)
      refine wpQuiet_move rfl (.tmp 8) rfl ?_
      (intro K hK; go_simp; refine hK _ ?_; clear hK K)
      refine wpQuiet_fn (v := .agg (cells8 y).toArray) (args := #[.int .i64 s, .slice Ai m ci]) rfl _ _ rfl rfl Tryd.func23 (by kernel_rfl) (by kernel_rfl) (fun w' hw' => ?_) ?_
      · refine (leaf_any q m hm.out Ai ci s w' (hBs.out.below (hW.out.trans (hw'.below.mono hW.out.size)) hBs.out.1) hql.out (hrq.out.below hw'.below) hc2.out hc4.out).mono ?_
        rintro e w1 ⟨rfl, hb1⟩
        exact ⟨by rw [hy.out]; rfl, hw'.next hb1⟩
      (intro K hK; go_simp; refine hK _ ?_; clear hK K)
      refine wpQuiet_fn (v := .agg (cells8 z).toArray) (args := #[.int .i64 s, .agg (cells8 x).toArray, .agg (cells8 y).toArray]) rfl _ _ rfl rfl Tryd.func22 (by kernel_rfl) (by kernel_rfl) (fun w' hw' => ?_) ?_
      · refine (link_any x y hxl.out hyl.out s w' (hBs.out.below (hW.out.trans (hw'.below.mono hW.out.size)) hBs.out.1)).mono ?_
        rintro e w1 ⟨rfl, hb1⟩
        exact ⟨by rw [hz2.out]; rfl, hw'.next hb1⟩
      (intro K hK; go_simp; refine hK _ ?_; clear hK K)
      refine wpQuiet_nil ?_
      intro w' hw'
      have hB' := Lib.hid ((hw'.below.block _ hB.out.lt).trans hB.out)
      have hZ' := Lib.hid ((hw'.below.block _ hZ.out.lt).trans hZ.out)
      have hW' := Lib.hid (hW.out.trans (hw'.below.mono hW.out.size))
      have hs2 : Hid ((Tryd.prog.info? 23).map (·.size) = some (cells8 z).toArray.size) := dig_size z hzl.out
      have hs3 : Hid ((cells8 x).toArray.size = (cells8 z).toArray.size) := by show _ = _; simp [cells8_len, hxl.out, hzl.out]
      have hs4 := Lib.hid (dig_one z)
      simp only [List.drop]
      go_wp2_with ((with_reducible change wpList _ _ _ ({ dst := none, op := Op.store 23 _ _, type := _, pos := _, after := _, guard := _ } :: _) _ _); refine wpList_store_row (o := ⟨none, _, _, _, _, _⟩) rfl 23 (.tmp 4) (.tmp 20) rfl w.heap.size (cells8 z).toArray rfl rfl 23 (cells8 x).toArray hB'.out hs2.out hs3.out hs4.out ?_)
      go_roundw
      case rel => exact ⟨i + 1, by go_num, (show i + 1 ≤ n by omega), (show Blk _ _ _ _ by rw [hst.out]; exact setRow_heap _ _ _ _ _ _ hB'.out), (show Blk _ _ _ _ from (setRow_other _ _ _ _ (by omega)).trans hZ'.out), (show Below _ _ _ from below_setRow hW'.out (Nat.le_refl _) _)⟩
      case measure => simp [intOf]; omega
    · obtain rfl : i = n := by have := hi2.out; omega
      have hT : Hid (es.take i = es) := List.take_of_length_le (by have := hn.out; omega)
      have hz : (i : Int) ≤ (i : Int) := by omega
      rw [hT.out] at hB
      obtain ⟨x, hx⟩ : ∃ x, Hid (x = chainOf s b es) := ⟨_, rfl⟩
      have hxl : Hid (x.length = 32) := by show _ = _; rw [hx.out]; exact chainOf_len s b hb.out _
      rw [← hx.out] at hB
      have hs2 : Hid ((Tryd.prog.info? 23).map (·.size) = some (cells8 x).toArray.size) := dig_size x hxl.out
      have hs3 : Hid ((Z32 : Array Value).size = (cells8 x).toArray.size) := by show _ = _; simp [cells8_len, hxl.out, Z32]
      have hs4 := Lib.hid (dig_one x)
      go_wp2_with (first
        | ((with_reducible change wpList _ _ _ ({ dst := some 22, op := _, type := _, pos := _, after := _, guard := _ } :: _) _ _); refine wpList_load_row (o := ⟨some 22, _, _, _, _, _⟩) rfl 23 (.tmp 4) rfl w.heap.size rfl 23 (cells8 x).toArray (0, 0) _ hB.out Tryd.underlying23 rfl hs2.out ?_)
        | ((with_reducible change wpList _ _ _ ({ dst := none, op := Op.store 23 _ _, type := _, pos := _, after := _, guard := _ } :: _) _ _); refine wpList_store_row (o := ⟨none, _, _, _, _, _⟩) rfl 23 (.tmp 6) (.tmp 22) rfl (w.heap.size + 1) (cells8 x).toArray rfl rfl 23 Z32 hZ.out hs2.out hs3.out hs4.out ?_))
      refine bodyPost_ret (results_cell_row rfl _ _ (w.heap.size + 1) 23 (cells8 x).toArray (0, 0) _ rfl (setRow_heap _ _ _ _ _ _ hZ.out) Tryd.underlying23 rfl hs2.out) rfl ?_
      exact ⟨by rw [hx.out], below_setRow hW.out (by omega) _⟩
end Go.Proofs.YtmdkfhfkdcbpgaaDoorR.Chain

namespace Go.Proofs.YtmdkfhfkdcbpgaaDoorR.ToldV
open Go Go.RowKit Go.Proofs.YtmdkfhfkdcbpgaaDoorR Go.Proofs.YtmdkfhfkdcbpgaaDoorR.Mem Go.Proofs.YtmdkfhfkdcbpgaaDoorR.Sha Go.Proofs.YtmdkfhfkdcbpgaaDoorR.Bytes Go.Proofs.YtmdkfhfkdcbpgaaDoorR.HashMem Go.Proofs.YtmdkfhfkdcbpgaaDoorR.DigestMem Go.Proofs.YtmdkfhfkdcbpgaaDoorR.Chain

/-- A history against a chain, as cells. -/
def toldV (s : Int) (b e : Text) (A : Option Addr) (n c : Nat) : List Value := Value.int .i64 s :: (cells8 b ++ (cells8 e ++ [Value.slice A n c]))
section
variable {s : Int} {b e : Text} {A : Option Addr} {n c : Nat}
theorem toldV_0 : (toldV s b e A n c)[0]? = some (.int .i64 s) := rfl
theorem toldV_b (j : Nat) (v : Value) (hv : (cells8 b)[j]? = some v) : (toldV s b e A n c)[1 + j]? = some v := by
  rw [Nat.add_comm, toldV, List.getElem?_cons_succ, List.getElem?_append_left (List.getElem?_eq_some_iff.1 hv).1]
  exact hv
theorem toldV_e (hb : b.length = 32) (j : Nat) (v : Value) (hv : (cells8 e)[j]? = some v) : (toldV s b e A n c)[33 + j]? = some v := by
  have hl : (cells8 b).length = 32 := by rw [cells8_len, hb]
  rw [show 33 + j = (32 + j) + 1 by omega, toldV, List.getElem?_cons_succ, List.getElem?_append_right (by omega), hl, Nat.add_sub_cancel_left, List.getElem?_append_left (List.getElem?_eq_some_iff.1 hv).1]
  exact hv
theorem toldV_65 (hb : b.length = 32) (he : e.length = 32) : (toldV s b e A n c)[65]? = some (.slice A n c) := by
  have hl : (cells8 b).length = 32 := by rw [cells8_len, hb]
  have hl2 : (cells8 e).length = 32 := by rw [cells8_len, he]
  rw [toldV, List.getElem?_cons_succ, List.getElem?_append_right (by omega), List.getElem?_append_right (by omega), hl, hl2]
  rfl
end
end Go.Proofs.YtmdkfhfkdcbpgaaDoorR.ToldV

namespace Go.Proofs.YtmdkfhfkdcbpgaaDoorR.Chain2
open Go Go.RowKit Go.Proofs.YtmdkfhfkdcbpgaaDoorR Go.Proofs.YtmdkfhfkdcbpgaaDoorR.Mem Go.Proofs.YtmdkfhfkdcbpgaaDoorR.Sha Go.Proofs.YtmdkfhfkdcbpgaaDoorR.ShaWalk Go.Proofs.YtmdkfhfkdcbpgaaDoorR.Bytes Go.Proofs.YtmdkfhfkdcbpgaaDoorR.HashMem Go.Proofs.YtmdkfhfkdcbpgaaDoorR.DigestMem Go.Proofs.YtmdkfhfkdcbpgaaDoorR.DigestTop Go.Proofs.YtmdkfhfkdcbpgaaDoorR.QuietTail Go.Proofs.YtmdkfhfkdcbpgaaDoorR.Grown Go.Proofs.YtmdkfhfkdcbpgaaDoorR.Chain

theorem Pieces.take_ {w : World} {A : Option Addr} {ps : List Text} (h : Pieces w A ps) (k : Nat) : Pieces w A (ps.take k) := by
  intro h0
  obtain ⟨b, o, e, hb, hc⟩ := h (by simp at h0; omega)
  refine ⟨b, o, e, hb, fun i q hq => hc i q ?_⟩
  rw [List.getElem?_take] at hq
  by_cases hi : i < k
  · rw [if_pos hi] at hq; exact hq
  · rw [if_neg hi] at hq; cases hq
theorem ret_int {k : IntKind} {a b : Int} (h : a = b) : Ending.returned (.int k a) = .returned (.int k b) := by rw [h]
theorem tmod_fix (x m : Int) (hm : 0 < m) : (x.tmod m < 0 → x.tmod m + m = x % m) ∧ (0 ≤ x.tmod m → x.tmod m = x % m) := by
  have h := Int.tmod_eq_emod (a := x) (b := m)
  have h1 := Int.emod_nonneg x (show m ≠ 0 by omega)
  have h2 := Int.emod_lt_of_pos x hm
  have hn : ((m.natAbs : Nat) : Int) = m := by omega
  by_cases hc : 0 ≤ x ∨ m ∣ x
  · rw [if_pos hc] at h
    refine ⟨fun hh => by omega, fun _ => by omega⟩
  · rw [if_neg hc] at h
    refine ⟨fun _ => by omega, fun hh => by omega⟩

set_option maxRecDepth 100000 in
set_option maxHeartbeats 1000000 in
theorem within_any (x : Int) (n : Nat) (hn : n < 140737488355328) (w : World) :
    Calls Tryd.prog 24 #[.int .i64 x, .int .i64 0, .int .i64 (n : Int)] w fun e w' => e = .returned (.int .i64 (x % ((n : Int) + 1))) ∧ w = w' := by
  have h := tmod_fix x ((n : Int) + 1) (by omega)
  have h1 := Int.emod_nonneg x (show (n : Int) + 1 ≠ 0 by omega)
  have h2 := Int.emod_lt_of_pos x (show (0 : Int) < (n : Int) + 1 by omega)
  have h3 : -((n : Int) + 1) ≤ x.tmod ((n : Int) + 1) := by
    rcases Int.lt_or_le (x.tmod ((n : Int) + 1)) 0 with hh | hh
    · have := h.1 hh; omega
    · omega
  have h4 : x.tmod ((n : Int) + 1) < (n : Int) + 1 := by
    rcases Int.lt_or_le (x.tmod ((n : Int) + 1)) 0 with hh | hh
    · omega
    · have := h.2 hh; omega
  have hy : Hid ((x.tmod ((n : Int) + 1) < 0 → x.tmod ((n : Int) + 1) + ((n : Int) + 1) = x % ((n : Int) + 1)) ∧ (0 ≤ x.tmod ((n : Int) + 1) → x.tmod ((n : Int) + 1) = x % ((n : Int) + 1))) := h
  clear h
  have k0 : (n : Int) + 1 ≠ 0 := by omega
  have k1 : (((n : Int) + 1) == 0) = false := by simp; omega
  have k2 : (((n : Int) + 1) == -1) = false := by simp; omega
  by_cases hneg : x.tmod ((n : Int) + 1) < 0
  · go_enter Tryd.func24, Tryd.ntmps24
    go_wp2_with fail
    go_ret
    have := hy.out.1 hneg
    exact ⟨ret_int (by omega), rfl⟩
  · go_enter Tryd.func24, Tryd.ntmps24
    go_wp2_with fail
    go_ret
    have := hy.out.2 (by omega)
    exact ⟨ret_int (by omega), rfl⟩

end Go.Proofs.YtmdkfhfkdcbpgaaDoorR.Chain2
