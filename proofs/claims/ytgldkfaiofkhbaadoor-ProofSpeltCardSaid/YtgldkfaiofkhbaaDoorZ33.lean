/-
  Texts of the claim, put into one file: Chain, TreeMem, TreeRoot, TreeFold.
-/
import Derived.Test.YtgldkfaiofkhbaaDoorZ30
import Derived.Test.YtgldkfaiofkhbaaDoorZ7
import Derived.Test.YtgldkfaiofkhbaaDoorZ0
import Derived.Test.YtgldkfaiofkhbaaDoorZ5
import Derived.Test.YtgldkfaiofkhbaaDoorZ10

namespace Go.Proofs.YtgldkfaiofkhbaaDoor.Chain
open Go Go.RowKit Go.Proofs.YtgldkfaiofkhbaaDoor Go.Proofs.YtgldkfaiofkhbaaDoor.Mem Go.Proofs.YtgldkfaiofkhbaaDoor.Sha Go.Proofs.YtgldkfaiofkhbaaDoor.ShaWalk Go.Proofs.YtgldkfaiofkhbaaDoor.Bytes Go.Proofs.YtgldkfaiofkhbaaDoor.HashMem Go.Proofs.YtgldkfaiofkhbaaDoor.Hash Go.Proofs.YtgldkfaiofkhbaaDoor.HashSum Go.Proofs.YtgldkfaiofkhbaaDoor.DigestMem Go.Proofs.YtgldkfaiofkhbaaDoor.Digest Go.Proofs.YtgldkfaiofkhbaaDoor.DigestOf Go.Proofs.YtgldkfaiofkhbaaDoor.RefSum Go.Proofs.YtgldkfaiofkhbaaDoor.RefCut Go.Proofs.YtgldkfaiofkhbaaDoor.RefOf Go.Proofs.YtgldkfaiofkhbaaDoor.DigestTop Go.Proofs.YtgldkfaiofkhbaaDoor.RefTop Go.Proofs.YtgldkfaiofkhbaaDoor.QuietTail Go.Proofs.YtgldkfaiofkhbaaDoor.Grown

end Go.Proofs.YtgldkfaiofkhbaaDoor.Chain

namespace Go.Proofs.YtgldkfaiofkhbaaDoor.TreeMem
open Go Go.RowKit Go.Proofs.YtgldkfaiofkhbaaDoor Go.Proofs.YtgldkfaiofkhbaaDoor.Mem Go.Proofs.YtgldkfaiofkhbaaDoor.Sha Go.Proofs.YtgldkfaiofkhbaaDoor.ShaWalk Go.Proofs.YtgldkfaiofkhbaaDoor.Bytes Go.Proofs.YtgldkfaiofkhbaaDoor.HashMem Go.Proofs.YtgldkfaiofkhbaaDoor.DigestMem Go.Proofs.YtgldkfaiofkhbaaDoor.DigestTop Go.Proofs.YtgldkfaiofkhbaaDoor.RefTop Go.Proofs.YtgldkfaiofkhbaaDoor.QuietTail Go.Proofs.YtgldkfaiofkhbaaDoor.Grown Go.Proofs.YtgldkfaiofkhbaaDoor.Chain Go.Proofs.YtgldkfaiofkhbaaDoor.TreeMath Go.Proofs.YtgldkfaiofkhbaaDoor.SpotsWalk Go.Proofs.YtgldkfaiofkhbaaDoor.SpotsMath

theorem LB_log (n : Nat) (h : 2 ≤ n) (h64 : n < 18446744073709551616) : LB ((n : Int) - 1) = (Nat.log2 (n - 1) : Int) + 1 := by
  unfold LB
  rw [show ((n : Int) - 1).toNat = n - 1 by omega]
  obtain ⟨q1, q2, q3⟩ := bitLen_bounds (n := n - 1) (by omega) (by have h64' : (2 : Nat) ^ 64 = 18446744073709551616 := by decide
                                                                   omega)
  have : Nat.log2 (n - 1) = Lib.bitLen (n - 1) - 1 := (Nat.log2_eq_iff (by omega)).2 ⟨q2, by rw [show Lib.bitLen (n - 1) - 1 + 1 = Lib.bitLen (n - 1) by omega]; exact q3⟩
  omega

set_option maxRecDepth 100000 in
set_option maxHeartbeats 1000000 in
theorem left_any (n : Nat) (h2 : 2 ≤ n) (hn : n < 140737488355328) (w : World) :
    Calls Tryd.prog 111 #[.int .i64 (n : Int)] w fun e w' => e = .returned (.int .i64 (half n : Nat)) ∧ w = w' := by
  obtain ⟨m, hm⟩ : ∃ m, Hid (Nat.log2 (n - 1) = m) := ⟨_, Lib.hid rfl⟩
  obtain ⟨p, hp⟩ : ∃ p, Hid (half n = p) := ⟨_, Lib.hid rfl⟩
  have hlt := half_lt h2
  have e1 := LB_log n h2 (by omega)
  rw [hm.out] at e1
  have e2 : wrap64 ((2 : Int) ^ m) = (p : Int) := by
    have : ((2 : Int) ^ m) = (p : Int) := by rw [← hp.out, half, hm.out]; simp
    rw [this]
    rw [hp.out] at hlt
    exact IntWalk.wrap64_in _ (by omega)
  have hm47 : (m : Int) < 47 := by
    have : m < 47 := by
      rw [← hm.out]
      exact (Nat.log2_lt (by omega)).2 (by have h47 : (2 : Nat) ^ 47 = 140737488355328 := by decide
                                           omega)
    omega
  have y0 : (2 : Int) ≤ (n : Int) := by omega
  have y1 : (n : Int) < 140737488355328 := by omega
  have y2 : IntKind.u64.wrap ((n : Int) - 1) = (n : Int) - 1 := u64_in _ (by omega) (by omega)
  rw [hp.out]
  clear hlt h2 hn
  go_enter Tryd.func111, Tryd.ntmps111
  go_wp2_with (go_at_call 96; refine (len_any ((n : Int) - 1) _ (by omega) (by omega)).mono ?_; rw [e1]; rintro e w1 ⟨rfl, rfl⟩)
  go_ret
  refine ⟨?_, rfl⟩
  show Ending.returned (.int .i64 (wrap64 (2 ^ m))) = _
  rw [e2]
end Go.Proofs.YtgldkfaiofkhbaaDoor.TreeMem

namespace Go.Proofs.YtgldkfaiofkhbaaDoor.TreeRoot
open Go Go.RowKit Go.Proofs.YtgldkfaiofkhbaaDoor Go.Proofs.YtgldkfaiofkhbaaDoor.Digest Go.Proofs.YtgldkfaiofkhbaaDoor.Mem Go.Proofs.YtgldkfaiofkhbaaDoor.Sha Go.Proofs.YtgldkfaiofkhbaaDoor.ShaWalk Go.Proofs.YtgldkfaiofkhbaaDoor.Bytes Go.Proofs.YtgldkfaiofkhbaaDoor.HashMem Go.Proofs.YtgldkfaiofkhbaaDoor.DigestMem Go.Proofs.YtgldkfaiofkhbaaDoor.DigestTop Go.Proofs.YtgldkfaiofkhbaaDoor.RefTop Go.Proofs.YtgldkfaiofkhbaaDoor.QuietTail Go.Proofs.YtgldkfaiofkhbaaDoor.Grown Go.Proofs.YtgldkfaiofkhbaaDoor.Chain Go.Proofs.YtgldkfaiofkhbaaDoor.TreeMath Go.Proofs.YtgldkfaiofkhbaaDoor.TreeMem

def ndOf (s : Int) (a b : Text) : Text := cutTo (sum (kb 1 :: (a ++ b))) (clampN s)
def noneOf (s : Int) : Text := cutTo (sum []) (clampN s)
theorem ndOf_len (s : Int) (a b : Text) : (ndOf s a b).length = 32 := cutTo_len _ _ (sum_len _) (clampN_ok s).2
theorem noneOf_len (s : Int) : (noneOf s).length = 32 := cutTo_len _ _ (sum_len _) (clampN_ok s).2
def foldOf (s : Int) (ds : List Text) : Text := fold (ndOf s) (noneOf s) ds
theorem foldOf_len (s : Int) (ds : List Text) (h : Digs ds) : (foldOf s ds).length = 32 := by
  unfold foldOf
  match ds, h with
  | [], _ => exact noneOf_len s
  | [x], h => exact h x (by simp)
  | x :: y :: r, h => exact ndOf_len _ _ _

end Go.Proofs.YtgldkfaiofkhbaaDoor.TreeRoot

namespace Go.Proofs.YtgldkfaiofkhbaaDoor.TreeFold
open Go Go.RowKit Go.Proofs.YtgldkfaiofkhbaaDoor Go.Proofs.YtgldkfaiofkhbaaDoor.Digest Go.Proofs.YtgldkfaiofkhbaaDoor.Mem Go.Proofs.YtgldkfaiofkhbaaDoor.Sha Go.Proofs.YtgldkfaiofkhbaaDoor.ShaWalk Go.Proofs.YtgldkfaiofkhbaaDoor.Bytes Go.Proofs.YtgldkfaiofkhbaaDoor.HashMem Go.Proofs.YtgldkfaiofkhbaaDoor.DigestMem Go.Proofs.YtgldkfaiofkhbaaDoor.DigestTop Go.Proofs.YtgldkfaiofkhbaaDoor.RefTop Go.Proofs.YtgldkfaiofkhbaaDoor.QuietTail Go.Proofs.YtgldkfaiofkhbaaDoor.Grown Go.Proofs.YtgldkfaiofkhbaaDoor.Chain Go.Proofs.YtgldkfaiofkhbaaDoor.TreeMath Go.Proofs.YtgldkfaiofkhbaaDoor.TreeMem Go.Proofs.YtgldkfaiofkhbaaDoor.TreeRoot

set_option maxRecDepth 100000 in
set_option maxHeartbeats 1000000 in
theorem fold_none (s : Int) (A : Option Addr) (c : Nat) (w : World) (hB : Base w) :
    Calls Tryd.prog 110 #[.int .i64 s, .slice A 0 c] w fun e w' => e = .returned (.agg (cells8 (noneOf s)).toArray) ∧ Below w.heap.size w w' := by
  have hb0 : Hid (Below w.heap.size w (w.alloc (.cells Z32 23))) := Below.heap_below w _
  have hB0 : Hid (Blk (w.alloc (.cells Z32 23)) w.heap.size 23 Z32) := Blk.new w _ _
  have hBs : Hid (Base (w.alloc (.cells Z32 23))) := hB.below (Below.heap_below w _) hB.1
  obtain ⟨x, hx⟩ : ∃ x, Hid (noneOf s = x) := ⟨_, Lib.hid rfl⟩
  have F := Lib.hid (fit (x := x) (by rw [← hx.out]; exact noneOf_len s))
  have hT := Lib.hid (fun w' hb => nothing_any s w' hb)
  clear hB
  go_enter Tryd.func110, Tryd.ntmps110
  go_wp2_with (first
    | (go_at_call 50; refine (hT.out _ hBs.out).mono ?_; rw [show cutTo (sum []) (clampN s) = x from hx.out]; rintro e w1 ⟨rfl, hb1⟩; have hB1 : Hid (Blk w1 w.heap.size 23 Z32) := (hb1.block _ hB0.out.lt).trans hB0.out; have bb1 : Hid (Below w.heap.size w w1) := hb0.out.trans (hb1.mono hb0.out.size); clear hb1)
    | ((with_reducible change wpList _ _ _ ({ dst := none, op := Op.store 23 _ _, type := _, pos := _, after := _, guard := _ } :: _) _ _); refine wpList_store_row (o := ⟨none, _, _, _, _, _⟩) rfl 23 (.tmp 4) (.tmp 11) rfl (w.heap.size) ((cells8 x).toArray) rfl rfl 23 (Z32) hB1.out F.out.size F.out.zero F.out.one ?_))
  refine bodyPost_ret (results_cell_row rfl _ _ w.heap.size 23 (cells8 x).toArray (0, 0) _ rfl (setRow_heap _ _ _ _ _ _ hB1.out) Tryd.underlying23 rfl F.out.size) rfl ?_
  exact ⟨by rw [hx.out], below_setRow bb1.out (Nat.le_refl _) _⟩

theorem drop_cons (ds : List Text) (i : Nat) (d : Text) (h : ds[i]? = some d) : ds.drop i = d :: ds.drop (i + 1) := by
  obtain ⟨hi, rfl⟩ := List.getElem?_eq_some_iff.1 h
  exact List.drop_eq_getElem_cons hi
theorem foldOf_step (s : Int) (ds : List Text) (i : Nat) (d : Text) (h : ds[i]? = some d) (hi : i + 1 < ds.length) : foldOf s (ds.drop i) = ndOf s d (foldOf s (ds.drop (i + 1))) := by
  unfold foldOf
  rw [drop_cons ds i d h]
  exact fold_cons _ _ d _ (by rw [List.length_drop]; omega)

set_option maxRecDepth 100000 in
set_option maxHeartbeats 1000000 in
theorem fold_some (s : Int) (ds : List Text) (n : Nat) (h1 : 1 ≤ n) (hn47 : n < 140737488355328) (A : Option Addr) (c : Nat) (w : World) (hB : Base w) (hr : RdD w A n ds) :
    Calls Tryd.prog 110 #[.int .i64 s, .slice A n c] w fun e w' => e = .returned (.agg (cells8 (foldOf s ds)).toArray) ∧ Below w.heap.size w w' := by
  have hb0 : Hid (Below w.heap.size w (w.alloc (.cells Z32 23))) := Below.heap_below w _
  have hB0 : Hid (Blk (w.alloc (.cells Z32 23)) w.heap.size 23 Z32) := Blk.new w _ _
  have hsz0 : Hid ((w.alloc (.cells Z32 23)).heap.size = w.heap.size + 1) := by show _ = _; simp
  have hl := hr.1
  obtain ⟨e, he⟩ : ∃ e, ds[n - 1]? = some e := ⟨_, List.getElem?_eq_getElem (by omega)⟩
  have hel := hr.2.1.at_ he
  have hlast : Hid (foldOf s (ds.drop (n - 1)) = e) := by
    show _ = _
    rw [drop_cons ds (n - 1) e he, List.drop_of_length_le (by omega)]
    rfl
  obtain ⟨b, o, rfl, hb, hc⟩ := (hr.below hb0.out).at_ he
  replace hc := Lib.hid hc
  have hbw : b < w.heap.size := by
    obtain ⟨b', o', e', h', _⟩ := hr.2.2.2 (by omega)
    injection e' with e'
    injection e' with e'
    omega
  have hrH := Lib.hid hr
  have Fe := Lib.hid (fit (x := e) hel)
  have hB1 : Hid (Blk ((w.alloc (.cells Z32 23)).alloc (.cells (cells8 e).toArray 23)) (w.heap.size + 1) 23 (cells8 e).toArray) := by
    have := Blk.new (w.alloc (.cells Z32 23)) 23 (cells8 e).toArray
    rw [hsz0.out] at this
    exact this
  have hB2 : Hid (Blk ((w.alloc (.cells Z32 23)).alloc (.cells (cells8 e).toArray 23)) w.heap.size 23 Z32) := hB0.out.alloc _
  have hb1 : Hid (Below w.heap.size w ((w.alloc (.cells Z32 23)).alloc (.cells (cells8 e).toArray 23))) := hb0.out.alloc hb0.out.size _
  obtain ⟨m, hm⟩ : ∃ m : Nat, Hid (n - 1 = m) := ⟨_, Lib.hid rfl⟩
  rw [hm.out] at he hc hlast
  have hmn : Hid (n = m + 1) := by have := hm.out; show n = m + 1; omega
  have y1 : ((n : Int) == 0) = false := beq_eq_false_iff_ne.2 (by omega)
  have y2 : (n : Int) < 140737488355328 := by omega
  have y3 : (1 : Int) ≤ (n : Int) := by omega
  have zi : (n : Int) - 1 = (m : Int) := by have := hmn.out; omega
  have zb : (m : Int) < (n : Int) := by have := hmn.out; omega
  have z0 : (0 : Int) ≤ (m : Int) := by omega
  have hB9 := Lib.hid hB
  replace hl := Lib.hid hl
  have hB6 : Hid (Blk ((w.alloc (.cells Z32 23)).alloc (.cells Z32 23)) w.heap.size 23 Z32) := hB0.out.alloc _
  have hb6 : Hid (Below w.heap.size w ((w.alloc (.cells Z32 23)).alloc (.cells Z32 23))) := hb0.out.alloc hb0.out.size _
  have hB5 : Hid (Blk ((w.alloc (.cells Z32 23)).alloc (.cells Z32 23)) (w.heap.size + 1) 23 Z32) := by
    have := Blk.new (w.alloc (.cells Z32 23)) 23 Z32
    rw [hsz0.out] at this
    exact this
  clear hr hB he hel hB0 hb0 h1 hn47
  go_enter Tryd.func110, Tryd.ntmps110
  go_wp2_with (first
    | ((with_reducible change wpList _ _ _ ({ dst := some 17, op := _, type := _, pos := _, after := _, guard := _ } :: _) _ _); refine wpList_load_part (o := ⟨some 17, _, _, _, _, _⟩) rfl 23 (.tmp 16) rfl (b) (o + m * 32) rfl (cells8 e) _ hc.out Tryd.underlying23 rfl Fe.out.part ?_)
    | ((with_reducible change wpList _ _ _ ({ dst := none, op := Op.store 23 _ _, type := _, pos := _, after := _, guard := _ } :: _) _ _); refine wpList_store_row (o := ⟨none, _, _, _, _, _⟩) rfl 23 (.tmp 5) (.tmp 17) rfl (w.heap.size + 1) ((cells8 e).toArray) rfl rfl 23 (Z32) hB5.out Fe.out.size Fe.out.zero Fe.out.one ?_))
  clear zi zb z0 hc
  go_loopw [6] (fun v wr => ∃ k : Nat, v = .int .i64 ((k : Int) - 1) ∧ Hid (k ≤ m) ∧ Hid (Blk wr (w.heap.size + 1) 23 (cells8 (foldOf s (ds.drop k))).toArray) ∧ Hid (Blk wr w.heap.size 23 Z32) ∧ Hid (Below w.heap.size w wr)) (fun v _ => (intOf v + 1).toNat)
  case atStart => exact ⟨m, by rw [show (n : Int) - 2 = (m : Int) - 1 by have := hmn.out; omega], Nat.le_refl _, (by show Blk _ _ _ _; rw [hlast.out]; exact setRow_heap _ _ _ _ _ _ hB5.out), (show Blk _ _ _ _ from (setRow_other _ _ _ _ (by omega)).trans hB6.out), (show Below _ _ _ from below_setRow hb6.out (by omega) _)⟩
  case round =>
    clear hB1 hB2 hb1 hB5 hB6 hb6 hlast Fe
    obtain ⟨k, rfl, hk, hD, hZ, hW⟩ := hrel
    cases k with
    | zero =>
      simp only [List.drop_zero] at hD
      obtain ⟨z, hz⟩ : ∃ z, Hid (foldOf s ds = z) := ⟨_, Lib.hid rfl⟩
      have F := Lib.hid (fit (x := z) (by rw [← hz.out]; exact foldOf_len s ds hrH.out.2.1))
      rw [hz.out] at hD
      go_wp2_with (first
        | ((with_reducible change wpList _ _ _ ({ dst := some 32, op := _, type := _, pos := _, after := _, guard := _ } :: _) _ _); refine wpList_load_row (o := ⟨some 32, _, _, _, _, _⟩) rfl 23 (.tmp 5) rfl (w.heap.size + 1) rfl 23 ((cells8 z).toArray) (0, 0) _ hD.out Tryd.underlying23 rfl F.out.size ?_)
        | ((with_reducible change wpList _ _ _ ({ dst := none, op := Op.store 23 _ _, type := _, pos := _, after := _, guard := _ } :: _) _ _); refine wpList_store_row (o := ⟨none, _, _, _, _, _⟩) rfl 23 (.tmp 4) (.tmp 32) rfl (w.heap.size) ((cells8 z).toArray) rfl rfl 23 (Z32) hZ.out F.out.size F.out.zero F.out.one ?_))
      refine bodyPost_ret (results_cell_row rfl _ _ w.heap.size 23 (cells8 z).toArray (0, 0) _ rfl (setRow_heap _ _ _ _ _ _ hZ.out) Tryd.underlying23 rfl F.out.size) rfl ?_
      exact ⟨by rw [hz.out], below_setRow hW.out (Nat.le_refl _) _⟩
    | succ i =>
      rw [show (((i + 1 : Nat) : Int) - 1) = (i : Int) by omega]
      have him : i + 1 ≤ m := hk.out
      obtain ⟨d, hd⟩ : ∃ d, ds[i]? = some d := ⟨_, List.getElem?_eq_getElem (by have := hl.out; have := hmn.out; omega)⟩
      have hst := Lib.hid (foldOf_step s ds i d hd (by have := hl.out; have := hmn.out; omega))
      obtain ⟨b', o', eb, hbl, hc⟩ := hrH.out.at_ hd
      injection eb with eb
      injection eb with eb1 eb2
      subst eb1 eb2
      have hc' : Hid (∀ w', Below wr.heap.size wr w' → ∀ j v, (cells8 d)[j]? = some v → w'.cell? ⟨b, o + i * 32 + j, none⟩ = some v) := fun w' hb j v hv => ((hW.out.trans (hb.mono hW.out.size)).cell (p := ⟨b, o + i * 32 + j, none⟩) hbl).trans (hc j v hv)
      obtain ⟨x, hx⟩ : ∃ x, Hid (foldOf s (ds.drop (i + 1)) = x) := ⟨_, Lib.hid rfl⟩
      obtain ⟨z, hz⟩ : ∃ z, Hid (ndOf s d x = z) := ⟨_, Lib.hid rfl⟩
      have hdl := Lib.hid (hrH.out.2.1.at_ hd)
      have hxl : Hid (x.length = 32) := by show _ = _; rw [← hx.out]; exact foldOf_len s _ (hrH.out.2.1.drop_ _)
      have Fd := Lib.hid (fit (x := d) hdl.out)
      have Fx := Lib.hid (fit (x := x) hxl.out)
      have F := Lib.hid (fit (x := z) (by rw [← hz.out]; exact ndOf_len s _ _))
      have hT : Hid (∀ w', Class wr w' → Calls Tryd.prog 161 #[.int .i64 s, .agg (cells8 d).toArray, .agg (cells8 x).toArray] w' fun e w'' => e = .returned (.agg (cells8 z).toArray) ∧ Below w'.heap.size w' w'') := fun w' hw' => by
        have := node_any d x hdl.out hxl.out s w' (hB9.out.below (hW.out.trans (hw'.below.mono hW.out.size)) hB9.out.1)
        rw [show cutTo (sum (kb 1 :: (d ++ x))) (clampN s) = z from hz.out] at this
        exact this
      rw [hx.out] at hD hst
      rw [hz.out] at hst
      have z1 : (0 : Int) ≤ (i : Int) := by omega
      have z2 : (i : Int) < (n : Int) := by have := hmn.out; omega
      replace him := Lib.hid him
      clear hk hc hd hbl hdl hxl hz
      go_wp2_with fail
      refine wp_region_class_tail 7 (Class wr) (by kernel_rfl) (by kernel_rfl) (Class.mk_ ((Below.refl _ _).drew)) ?_
      refine wpQuiet_move rfl (.tmp 0) rfl ?_
      (intro K hK; go_simp; refine hK _ ?_; clear hK K)
      refine wpQuiet_move rfl (.tmp 1) rfl ?_
      (intro K hK; go_simp; refine hK _ ?_; clear hK K)
      refine wpQuiet_move rfl (.tmp 6) rfl ?_
      (intro K hK; go_simp; refine hK _ ?_; clear hK K)
      refine wpQuiet_val (v := .pointer (some ⟨b, o + i * 32, none⟩)) rfl (fun w' hw' => by go_simp) ?_
      (intro K hK; go_simp; refine hK _ ?_; clear hK K)
      refine wpQuiet_load_part rfl 23 (.tmp 28) rfl b (o + i * 32) rfl (cells8 d) _ (fun w' hw' => hc'.out w' hw'.below) Tryd.underlying23 rfl Fd.out.part ?_
      (intro K hK; go_simp; refine hK _ ?_; clear hK K)
      refine wpQuiet_load_row rfl 23 (.tmp 5) rfl (w.heap.size + 1) rfl 23 ((cells8 x).toArray) (0, 0) _ (fun w' hw' => (hw'.below.block _ hD.out.lt).trans hD.out) Tryd.underlying23 rfl Fx.out.size ?_
      (intro K hK; go_simp; refine hK _ ?_; clear hK K)
      refine wpQuiet_fn (v := .agg (cells8 z).toArray) (args := #[.int .i64 s, .agg (cells8 d).toArray, .agg (cells8 x).toArray]) rfl _ _ rfl rfl Tryd.func161 (by kernel_rfl) (by kernel_rfl) (fun w' hw' => (hT.out w' hw').mono (fun e w'' ⟨he, hb⟩ => ⟨he, hw'.next hb⟩)) ?_
      (intro K hK; go_simp; refine hK _ ?_; clear hK K)
      refine wpQuiet_nil ?_
      intro w' hw'
      have hD' := Lib.hid ((hw'.below.block _ hD.out.lt).trans hD.out)
      have hZ' := Lib.hid ((hw'.below.block _ hZ.out.lt).trans hZ.out)
      have hW' := Lib.hid (hW.out.trans (hw'.below.mono hW.out.size))
      have hq := Lib.hid (F.out.same x (by have := Fx.out.part; rw [← cells8_len]; have h2 := size31; rw [h2] at this; simpa using this.symm))
      simp only [List.drop]
      go_wp2_with ((with_reducible change wpList _ _ _ ({ dst := none, op := Op.store 23 _ _, type := _, pos := _, after := _, guard := _ } :: _) _ _); refine wpList_store_row (o := ⟨none, _, _, _, _, _⟩) rfl 23 (.tmp 5) (.tmp 31) rfl (w.heap.size + 1) ((cells8 z).toArray) rfl rfl 23 ((cells8 x).toArray) hD'.out F.out.size hq.out F.out.one ?_)
      go_roundw
      case rel => exact ⟨i, rfl, (by have := him.out; show i ≤ m; omega), (by show Blk _ _ _ _; rw [hst.out]; exact setRow_heap _ _ _ _ _ _ hD'.out), (show Blk _ _ _ _ from (setRow_other _ _ _ _ (by omega)).trans hZ'.out), (show Below _ _ _ from below_setRow hW'.out (by omega) _)⟩
      case measure => simp [intOf]

/-- The fold of any digests. -/
theorem fold_any (s : Int) (ds : List Text) (n : Nat) (hn47 : n < 140737488355328) (A : Option Addr) (c : Nat) (w : World) (hB : Base w) (hr : RdD w A n ds) :
    Calls Tryd.prog 110 #[.int .i64 s, .slice A n c] w fun e w' => e = .returned (.agg (cells8 (foldOf s ds)).toArray) ∧ Below w.heap.size w w' := by
  by_cases h0 : n = 0
  · subst h0
    obtain rfl := List.eq_nil_of_length_eq_zero hr.1
    exact fold_none s A c w hB
  · exact fold_some s ds n (by omega) hn47 A c w hB hr

end Go.Proofs.YtgldkfaiofkhbaaDoor.TreeFold
