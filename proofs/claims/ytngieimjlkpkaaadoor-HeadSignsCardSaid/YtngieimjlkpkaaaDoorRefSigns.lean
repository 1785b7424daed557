/-
  docketref16.Sign, walked. (Printed by gen_refsigns.py.)
-/
import Derived.Test.YtngieimjlkpkaaaDoorSigns
import Derived.Test.YtngieimjlkpkaaaDoorRefMac
import Derived.Test.YtngieimjlkpkaaaDoorRefHead
namespace Go.Proofs.YtngieimjlkpkaaaDoor.RefSigns
open Go Go.RowKit Go.Proofs.YtngieimjlkpkaaaDoor Go.Proofs.YtngieimjlkpkaaaDoor.Mem Go.Proofs.YtngieimjlkpkaaaDoor.Sha Go.Proofs.YtngieimjlkpkaaaDoor.Bytes Go.Proofs.YtngieimjlkpkaaaDoor.HashMem Go.Proofs.YtngieimjlkpkaaaDoor.Append Go.Proofs.YtngieimjlkpkaaaDoor.DigestMem Go.Proofs.YtngieimjlkpkaaaDoor.Digest Go.Proofs.YtngieimjlkpkaaaDoor.Mac Go.Proofs.YtngieimjlkpkaaaDoor.RefMac Go.Proofs.YtngieimjlkpkaaaDoor.HeadMem Go.Proofs.YtngieimjlkpkaaaDoor.HeadID Go.Proofs.YtngieimjlkpkaaaDoor.Sign Go.Proofs.YtngieimjlkpkaaaDoor.HeadSign Go.Proofs.YtngieimjlkpkaaaDoor.Signs Go.Proofs.YtngieimjlkpkaaaDoor.RefHead

theorem wpList_build {P : Program} {ops : Array Oper} {rest : List Oper} {o : Oper} {a : Act} {w : World} {Q : Exit → Act → World → Prop} (hgd : o.guard = none) (ty : TypeId) (parts : Array (Nat × Operand)) (ho : o.op = .build ty parts)
    (vals : Array (Nat × Value)) (hp : (parts.map fun (i, x) => (i, a.eval x)) = vals) (v : Value) (h : (Instr.build ty vals).run P w = .ok v w)
    (hk : wpList P ops Q rest (a.put o.dst v) w) : wpList P ops Q (o :: rest) a w := by
  refine wpList_plain hgd fun K hK => ?_
  unfold Oper.wp
  rw [exec_build ty parts ho vals hp v h]
  exact hK _ _ hk

set_option maxRecDepth 100000 in
set_option maxHeartbeats 1000000 in
theorem refSign_any (h : HeadD) (ok : h.Ok) (q : Text) (k : Nat) (hk : q.length = k) (A : Option Addr) (c : Nat) (w : World) (hq : Reads w 1 A k (cells8 q)) (hc : k ≤ c) (hnil : A = none → k = 0 ∧ c = 0) :
    Calls Tryd.prog 32 #[.agg (headCells h).toArray, .slice A k c] w fun e w' => e = .returned (.tuple #[.agg (cells8 (signAns h q).1).toArray, .int .i64 (signAns h q).2]) ∧ Below w.heap.size w w' := by
  have hH : Hid (Blk ((w.alloc (.cells (headCells h).toArray 49)).alloc (.cells Z64 51)) w.heap.size 49 (headCells h).toArray) := heap_alloc2_old w _ _
  have hS : Hid (Blk ((w.alloc (.cells (headCells h).toArray 49)).alloc (.cells Z64 51)) (w.heap.size + 1) 51 Z64) := heap_alloc2_new w _ _
  have hb0 : Hid (Below w.heap.size w ((w.alloc (.cells (headCells h).toArray 49)).alloc (.cells Z64 51))) := ((Below.refl _ w).alloc (Nat.le_refl _) _).alloc (by simp) _
  have hsz : Hid ((Tryd.prog.info? 49).map (·.size) = some (headCells h).toArray.size) := by show _ = _; rw [List.size_toArray, headCells_len ok]; exact size98
  have hlen := Lib.hid (headBytes_len ok)
  have n1 := Lib.hid (sign_size _ noSign_len)
  have n2 := Lib.hid (sign_zero _ noSign_len)
  have n3 := Lib.hid (sign_one noSign)
  have m1 := Lib.hid (sign_size _ (signOf_len h q))
  have m2 := Lib.hid (sign_zero _ (signOf_len h q))
  have m3 := Lib.hid (sign_one (signOf h q))
  replace hk := Lib.hid hk
  replace hq := Lib.hid hq
  replace hnil := Lib.hid hnil
  have okh := Lib.hid ok
  clear ok
  by_cases hkey : keyB k = true
  · have hkk := Lib.hid (keyB_yes hkey)
    have h1 : ¬ ((k : Int) < 1) := by have := hkk.out; omega
    have h2 : ¬ ((64 : Int) < (k : Int)) := by have := hkk.out; omega
    by_cases hr : rightB h = true
    · have hans : Hid (signAns h q = (signOf h q, 0)) := by show _ = _; unfold signAns; rw [hk.out, if_pos hkey, if_pos hr]
      rw [hans.out]
      have hrh := Lib.hid hr
      clear hkey hr
      go_enter Tryd.func32, Tryd.ntmps32
      go_wp2_with (first
        | ((with_reducible change wpList _ _ _ ({ dst := some 18, op := _, type := _, pos := _, after := _, guard := _ } :: _) _ _); refine wpList_load_row (o := ⟨some 18, _, _, _, _, _⟩) rfl 49 (.tmp 2) rfl (w.heap.size) rfl 49 ((headCells h).toArray) (0, 0) _ hH.out Tryd.underlying49 rfl hsz.out ?_)
        | (go_at_call 58; refine (refHead_yes h okh.out hrh.out _).mono ?_; rintro e w2 ⟨v2, rfl, hb2, ho2⟩; replace hb2 := Lib.hid hb2; obtain ⟨A1, c1, rfl, _, _, hn1, hR1, _⟩ := Own.reads ho2; replace hn1 := Lib.hid hn1; replace hR1 := Lib.hid hR1; have hS2 : Hid (Blk w2 (w.heap.size + 1) 51 Z64) := (hb2.out.block _ hS.out.lt).trans hS.out; have hbw : Hid (Below w.heap.size w w2) := hb0.out.trans (hb2.out.mono hb0.out.size); clear hb2 ho2)
        | (go_at_call 15; refine (refid_any q k hk.out A c w2 (hq.out.below hbw.out) hc (by have := hkk.out; omega) hnil.out).mono ?_; rintro e w3 ⟨rfl, hb3⟩; have hS3 : Hid (Blk w3 (w.heap.size + 1) 51 Z64) := (hb3.block _ hS2.out.lt).trans hS2.out; have hbw3 : Hid (Below w.heap.size w w3) := hbw.out.trans (hb3.mono hbw.out.size); have hR3 := Lib.hid (hR1.out.below hb3); clear hb3)
        | (go_at_call 59; refine (refmac_any q (headBytes h) k 113 hk.out hlen.out hkk.out.2 A A1 c c1 w3 (by omega) (hq.out.below hbw3.out) hR3.out hn1.out).mono ?_; rintro e w4 ⟨rfl, hb4⟩; have hS4 : Hid (Blk w4 (w.heap.size + 1) 51 Z64) := (hb4.block _ hS3.out.lt).trans hS3.out; have hbw4 : Hid (Below w.heap.size w w4) := hbw3.out.trans (hb4.mono hbw3.out.size); clear hb4)
        | ((with_reducible change wpList _ _ _ ({ dst := some 30, op := _, type := _, pos := _, after := _, guard := _ } :: _) _ _); refine wpList_build (o := ⟨some 30, _, _, _, _, _⟩) rfl 51 #[(0, .tmp 26), (1, .tmp 29)] rfl #[(0, .agg (cells8 (idOf q)).toArray), (1, .agg (cells8 (macOf q (headBytes h))).toArray)] (by simp; exact ⟨rfl, rfl⟩) _ (run_sign h q w4) ?_)
        | ((with_reducible change wpList _ _ _ ({ dst := none, op := Op.store 51 _ _, type := _, pos := _, after := _, guard := _ } :: _) _ _); refine wpList_store_row (o := ⟨none, _, _, _, _, _⟩) rfl 51 (.tmp 4) (.tmp 30) rfl (w.heap.size + 1) ((cells8 (signOf h q)).toArray) rfl rfl 51 (Z64) hS4.out m1.out m2.out m3.out ?_))
      refine bodyPost_ret (results_cell_row2 rfl _ _ (w.heap.size + 1) 51 (cells8 (signOf h q)).toArray (0, 0) _ rfl (setRow_heap _ _ _ _ _ _ hS4.out) Tryd.underlying51 rfl m1.out) rfl ?_
      exact ⟨rfl, below_setRow hbw4.out (by omega) _⟩
    · have hans : Hid (signAns h q = (noSign, 1)) := by show _ = _; unfold signAns; rw [hk.out, if_pos hkey, if_neg hr]
      rw [hans.out]
      have hrh : Hid (rightB h = false) := by show _ = _; simpa using hr
      clear hkey hr
      go_enter Tryd.func32, Tryd.ntmps32
      go_wp2_with (first
        | ((with_reducible change wpList _ _ _ ({ dst := some 18, op := _, type := _, pos := _, after := _, guard := _ } :: _) _ _); refine wpList_load_row (o := ⟨some 18, _, _, _, _, _⟩) rfl 49 (.tmp 2) rfl (w.heap.size) rfl 49 ((headCells h).toArray) (0, 0) _ hH.out Tryd.underlying49 rfl hsz.out ?_)
        | (go_at_call 58; refine (refHead_no h okh.out hrh.out _).mono ?_; rintro e w2 ⟨rfl, hb2⟩; replace hb2 := Lib.hid hb2; have hS2 : Hid (Blk w2 (w.heap.size + 1) 51 Z64) := (hb2.out.block _ hS.out.lt).trans hS.out; have hbw : Hid (Below w.heap.size w w2) := hb0.out.trans (hb2.out.mono hb0.out.size); clear hb2)
        | ((with_reducible change wpList _ _ _ ({ dst := none, op := Op.store 51 _ _, type := _, pos := _, after := _, guard := _ } :: _) _ _); refine wpList_store_row (o := ⟨none, _, _, _, _, _⟩) rfl 51 (.tmp 4) (.tmp 24) rfl (w.heap.size + 1) ((cells8 noSign).toArray) rfl rfl 51 (Z64) hS2.out n1.out n2.out n3.out ?_))
      refine bodyPost_ret (results_cell_row2 rfl _ _ (w.heap.size + 1) 51 (cells8 (noSign)).toArray (0, 0) _ rfl (setRow_heap _ _ _ _ _ _ hS2.out) Tryd.underlying51 rfl n1.out) rfl ?_
      exact ⟨rfl, below_setRow hbw.out (by omega) _⟩
  · have hans : Hid (signAns h q = (noSign, 160)) := by show _ = _; unfold signAns; rw [hk.out, if_neg hkey]
    rw [hans.out]
    by_cases h1 : (k : Int) < 1
    · clear hkey
      go_enter Tryd.func32, Tryd.ntmps32
      go_wp2_with ((with_reducible change wpList _ _ _ ({ dst := none, op := Op.store 51 _ _, type := _, pos := _, after := _, guard := _ } :: _) _ _); refine wpList_store_row (o := ⟨none, _, _, _, _, _⟩) rfl 51 (.tmp 4) (.tmp 16) rfl (w.heap.size + 1) ((cells8 noSign).toArray) rfl rfl 51 (Z64) hS.out n1.out n2.out n3.out ?_)
      refine bodyPost_ret (results_cell_row2 rfl _ _ (w.heap.size + 1) 51 (cells8 (noSign)).toArray (0, 0) _ rfl (setRow_heap _ _ _ _ _ _ hS.out) Tryd.underlying51 rfl n1.out) rfl ?_
      exact ⟨rfl, below_setRow hb0.out (by omega) _⟩
    · have h2 : (64 : Int) < (k : Int) := by
        simp [keyB] at hkey
        omega
      clear hkey
      go_enter Tryd.func32, Tryd.ntmps32
      go_wp2_with ((with_reducible change wpList _ _ _ ({ dst := none, op := Op.store 51 _ _, type := _, pos := _, after := _, guard := _ } :: _) _ _); refine wpList_store_row (o := ⟨none, _, _, _, _, _⟩) rfl 51 (.tmp 4) (.tmp 16) rfl (w.heap.size + 1) ((cells8 noSign).toArray) rfl rfl 51 (Z64) hS.out n1.out n2.out n3.out ?_)
      refine bodyPost_ret (results_cell_row2 rfl _ _ (w.heap.size + 1) 51 (cells8 (noSign)).toArray (0, 0) _ rfl (setRow_heap _ _ _ _ _ _ hS.out) Tryd.underlying51 rfl n1.out) rfl ?_
      exact ⟨rfl, below_setRow hb0.out (by omega) _⟩
end Go.Proofs.YtngieimjlkpkaaaDoor.RefSigns
