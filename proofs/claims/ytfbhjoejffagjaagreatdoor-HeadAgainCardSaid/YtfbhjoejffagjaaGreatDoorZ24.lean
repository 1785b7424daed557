/-
  Texts of the claim, put into one file: HeadSign, Signs, RefSigns.
-/
import Derived.Test.YtfbhjoejffagjaaGreatDoorZ23
import Derived.Test.YtfbhjoejffagjaaGreatDoorZ15
import Derived.Test.YtfbhjoejffagjaaGreatDoorZ10
import Derived.Test.YtfbhjoejffagjaaGreatDoorZ9
import Derived.Test.YtfbhjoejffagjaaGreatDoorZ22

namespace Go.Proofs.YtfbhjoejffagjaaGreatDoor.HeadSign
open Go Go.RowKit Go.Proofs.YtfbhjoejffagjaaGreatDoor Mem Sha Bytes HashMem Go.Proofs.YtfbhjoejffagjaaGreatDoor.Append DigestMem Digest Mac HeadMem HeadID HeadEnc Sign Held

theorem exec_build {P : Program} {w : World} {o : Oper} {ρ : Operand → Value} (ty : TypeId) (parts : Array (Nat × Operand)) (ho : o.op = .build ty parts) (vals : Array (Nat × Value)) (hp : (parts.map fun (i, x) => (i, ρ x)) = vals) (v : Value) (h : (Instr.build ty vals).run P w = .ok v w) : (execOp ρ o).run P w = .ok (.value v) w := by
 unfold execOp
 simp only [ho, hp, Sem.run_bind, Sem.run_pure, Result.andThen_ok, h]

set_option maxRecDepth 100000 in
set_option maxHeartbeats 1000000 in
theorem sign_any (h : HeadD) (ok : h.Ok) (hr : rightB h = true) (q : Text) (k : Nat) (hk : q.length = k) (hk64 : k ≤ 64) (A : Option Addr) (c : Nat) (w : World) (hB : Base w) (hq : Reads w 1 A k (cells8 q)) (hc : k ≤ c) (hnil : A = none → k = 0 ∧ c = 0) :
  Calls Tryz.prog 82 #[.agg (headCells h).toArray, .slice A k c] w fun e w' => e = .returned (.agg (cells8 (signOf h q)).toArray) ∧ Below w.heap.size w w' := by
 obtain ⟨w0, hw0⟩ : ∃ w0, Hid (w0 = (w.alloc (.cells (headCells h).toArray 36)).alloc (.cells Z64 56)) := ⟨_, rfl⟩
 have hH : Hid (Blk w0 w.heap.size 36 (headCells h).toArray) := by show Blk _ _ _ _; rw [hw0.out]; exact heap_alloc2_old w _ _
 have hS : Hid (Blk w0 (w.heap.size + 1) 56 Z64) := by show Blk _ _ _ _; rw [hw0.out]; exact heap_alloc2_new w _ _
 have hbw : Hid (Below w.heap.size w w0) := by show Below _ _ _; rw [hw0.out]; exact ((Below.refl _ w).alloc (Nat.le_refl _) _).alloc (by simp) _
 have hz1 : Hid (w.heap.size + 1 ≤ w0.heap.size) := Nat.le_of_lt hS.out.lt
 have hsz : Hid ((Tryz.prog.info? 36).map (·.size) = some (headCells h).toArray.size) := by show _ = _; rw [List.size_toArray, headCells_len ok]; exact size98
 have hlen := Lib.hid (headBytes_len ok)
 have z9 := Lib.hid (sign_size _ (signOf_len h q))
 replace ok := Lib.hid ok
 replace hr := Lib.hid hr
 replace hk := Lib.hid hk
 replace hB := Lib.hid hB
 replace hq := Lib.hid hq
 replace hnil := Lib.hid hnil
 go_enter Tryz.func82, Tryz.ntmps82
 go_wp2_with fail
 change (Code.region _ _ _).wp _ _ _ ((w.alloc (.cells (headCells h).toArray 36)).alloc (.cells Z64 56))
 rw [← hw0.out]
 clear hw0
 have s0 : Hid (Below w0.heap.size w0 w0.drew) := (Below.refl _ _).drew
 refine held_start (fun w' => Below (w.heap.size + 1) w0 w') 8 rfl (by kernel_rfl) ?_
 refine Held.tk0 (i := 0) (v := .slice A k c) rfl (s0.out.mono hz1.out) (fun w' hw' => by go_simp) ?_
 (intro K k; go_simp; apply k; clear k K)
 refine Held.tk0 (i := 2) (v := .slice A k c) rfl (s0.out.mono hz1.out) (fun w' hw' => by go_simp) ?_
 (intro K k; go_simp; apply k; clear k K)
 refine Held.tk0 (i := 3) (v := .agg ((headCells h).toArray)) rfl (s0.out.mono hz1.out) (fun w' hw' => exec_row 36 (.tmp 2) rfl (w.heap.size) rfl 36 ((headCells h).toArray) (0, 0) _ ((hw'.block _ (by omega)).trans hH.out) Tryz.underlying36 rfl hsz.out) ?_
 (intro K k; go_simp; apply k; clear k K)
 refine held_only (i := 1) rfl (by kernel_rfl) (by rfl) (fun K hK => ?_)
 refine wp_fn (R := fun v w'' => v = .agg (cells8 (idOf q)).toArray ∧ Below w0.heap.size w0 w'') (args := #[.slice A k c]) _ _ rfl rfl Tryz.func22 (by kernel_rfl) (by kernel_rfl) ((id_any q k hk.out A c w0.drew (hB.out.below (hbw.out.trans (s0.out.mono hbw.out.size)) hB.out.1) (hq.out.below (hbw.out.trans (s0.out.mono hbw.out.size))) hc (by omega) hnil.out).mono fun e w'' ⟨he, hb⟩ => ⟨_, he, rfl, s0.out.trans (hb.mono s0.out.size)⟩) ?_
 rintro v1 w1 ⟨rfl, k1⟩
 replace k1 := Lib.hid k1
 go_simp
 refine hK _ _ (k1.out.mono hz1.out) ?_
 clear hK K
 refine held_only (i := 4) rfl (by kernel_rfl) (by rfl) (fun K hK => ?_)
 refine wp_fn (R := fun v w'' => ∃ A1 c1, v = .slice A1 113 c1 ∧ 113 ≤ c1 ∧ Reads w'' 1 A1 113 (cells8 (headBytes h)) ∧ Below w0.heap.size w0 w'') (args := #[.agg (headCells h).toArray]) _ _ rfl rfl Tryz.func64 (by kernel_rfl) (by kernel_rfl) ((laid_any h ok.out hr.out w1).mono fun e w'' ⟨v, he, hb, ho⟩ => by obtain ⟨A1, c1, rfl, g1, _, _, g2, _⟩ := Own.reads ho; exact ⟨_, he, A1, c1, rfl, g1, g2, k1.out.trans (hb.mono k1.out.size)⟩) ?_
 rintro v2 w2 ⟨A1, c1, rfl, g1, g2, k2⟩
 replace k2 := Lib.hid k2
 replace g2 := Lib.hid g2
 go_simp
 refine hK _ _ (k2.out.mono hz1.out) ?_
 clear hK K
 refine held_only (i := 5) rfl (by kernel_rfl) (by rfl) (fun K hK => ?_)
 refine wp_fn (R := fun v w'' => v = .agg (cells8 (macOf q (headBytes h))).toArray ∧ Below w0.heap.size w0 w'') (args := #[.slice A k c, .slice A1 113 c1]) _ _ rfl rfl Tryz.func114 (by kernel_rfl) (by kernel_rfl) ((mac_any q (headBytes h) k 113 hk.out hlen.out hk64 A A1 c c1 w2 (hB.out.below (hbw.out.trans (k2.out.mono hbw.out.size)) hB.out.1) (by omega) (hq.out.below (hbw.out.trans (k2.out.mono hbw.out.size))) g2.out g1).mono fun e w'' ⟨he, hb⟩ => ⟨_, he, rfl, k2.out.trans (hb.mono k2.out.size)⟩) ?_
 rintro v3 w3 ⟨rfl, k3⟩
 replace k3 := Lib.hid k3
 go_simp
 refine hK _ _ (k3.out.mono hz1.out) ?_
 clear hK K
 refine Held.tk0 (i := 6) (v := .agg (cells8 (signOf h q)).toArray) rfl (k3.out.mono hz1.out) (fun w' hw' => exec_build 56 #[(0, .tmp 6), (1, .tmp 10)] rfl #[(0, .agg (cells8 (idOf q)).toArray), (1, .agg (cells8 (macOf q (headBytes h))).toArray)] (by simp; exact ⟨rfl, rfl⟩) _ (run_sign h q w')) ?_
 (intro K k; go_simp; apply k; clear k K)
 refine held_only (i := 7) rfl (by kernel_rfl) (by rfl) (fun K hK => ?_)
 refine wp_store_whole 56 (.tmp 4) (.tmp 11) rfl (w.heap.size + 1) (cells8 (signOf h q)).toArray rfl rfl 56 Z64 ((k3.out.block _ hS.out.lt).trans hS.out) (sign_size _ (signOf_len h q)) (sign_zero _ (signOf_len h q)) (sign_one _) ?_
 intro w9 B9 k9
 have b9 : Hid (Below w.heap.size w w9) := hbw.out.trans ((k3.out.mono hbw.out.size).trans (Kept.below_of k9 (by omega) (by have := hbw.out.size; have := k3.out.size; omega)))
 go_simp
 refine hK _ _ ?_ ?_
 ·exact ((k3.out.mono hz1.out).trans (Kept.below_of k9 (by omega) (by have := k3.out.size; have := hz1.out; omega)))
 refine held_end (by kernel_rfl) ?_
 go_wp2_with fail
 refine bodyPost_ret (results_cell_row rfl _ _ (w.heap.size + 1) 56 (cells8 (signOf h q)).toArray (0, 0) _ rfl B9 Tryz.underlying56 rfl z9.out) rfl ?_
 exact ⟨rfl, b9.out⟩
end Go.Proofs.YtfbhjoejffagjaaGreatDoor.HeadSign

namespace Go.Proofs.YtfbhjoejffagjaaGreatDoor.Signs
open Go Go.RowKit Go.Proofs.YtfbhjoejffagjaaGreatDoor Mem Sha Bytes HashMem Go.Proofs.YtfbhjoejffagjaaGreatDoor.Append DigestMem Digest Mac HeadMem HeadID Sign HeadSign

theorem results_cell_row2 {P : Program} {fn : Func} {p u : Tmp} {ty : TypeId} (h : fn.results = #[.cell p ty, .tmp u]) (tmps : Array Value) (w : World) (g : Nat) (t : TypeId) (cs : Array Value) (fr : Nat × Nat) (d : TypeDesc)
  (hp : tmps.getD p undef = .pointer (some ⟨g, 0, none⟩)) (hg : w.heap[g]? = some (.cells cs t fr))
  (hu : P.underlying ty = some d) (hd : (match d with | .struct _ | .array _ _ => true | _ => false) = true) (hi : (P.info? ty).map (·.size) = some cs.size) :
  (results fn tmps).run P w = .ok (.tuple #[.agg cs, tmps.getD u undef]) w := by
 have hp' : tmps[p]?.getD undef = .pointer (some ⟨g, 0, none⟩) := by simpa using hp
 simp [results, h, hp', asAddr, run_loadVar_row w g t ty cs fr d hg hu hd hi, Result.andThen]
def keyB (k : Nat) : Bool := decide (0 < (k : Int)) && decide ((k : Int) ≤ 64)
theorem keyB_yes {k : Nat} (h : keyB k = true) : 0 < k ∧ k ≤ 64 := by
 unfold keyB at h
 simp at h
 omega
def noSign : Text := List.replicate 64 0
theorem noSign_len : noSign.length = 64 := by simp [noSign]
def signAns (h : HeadD) (q : Text) : Text × Int := if keyB q.length then (if rightB h then (signOf h q, 0) else (noSign, 1)) else (noSign, 160)
theorem signAns_len (h : HeadD) (q : Text) : (signAns h q).1.length = 64 := by
 unfold signAns
 split
 ·split
  ·exact signOf_len h q
  ·exact noSign_len
 ·exact noSign_len

set_option maxRecDepth 100000 in
theorem isKey_any (k : Nat) (A : Option Addr) (c : Nat) (w : World) :
  Calls Tryz.prog 21 #[.slice A k c] w fun e w' => e = .returned (.bool (keyB k)) ∧ w' = w := by
 by_cases h1 : (0 : Int) < (k : Int)
 ·by_cases h2 : (k : Int) ≤ 64
  ·have h3 : Hid (keyB k = true) := by show _ = _; simp only [keyB, h1, h2, decide_true, Bool.and_self]
   go_enter Tryz.func21, Tryz.ntmps21
   go_wp2_with fail
   go_ret
   rw [h3.out]
   exact ⟨rfl, rfl⟩
  ·have h3 : Hid (keyB k = false) := by show _ = _; simp only [keyB, h2, decide_false, Bool.and_false]
   go_enter Tryz.func21, Tryz.ntmps21
   go_wp2_with fail
   go_ret
   rw [h3.out]
   exact ⟨rfl, rfl⟩
 ·have h3 : Hid (keyB k = false) := by show _ = _; simp only [keyB, h1, decide_false, Bool.false_and]
  go_enter Tryz.func21, Tryz.ntmps21
  go_wp2_with fail
  go_ret
  rw [h3.out]
  exact ⟨rfl, rfl⟩

set_option maxRecDepth 100000 in
set_option maxHeartbeats 1000000 in
theorem headSign_any (h : HeadD) (ok : h.Ok) (q : Text) (k : Nat) (hk : q.length = k) (A : Option Addr) (c : Nat) (w : World) (hB : Base w) (hq : Reads w 1 A k (cells8 q)) (hc : k ≤ c) (hnil : A = none → k = 0 ∧ c = 0) :
  Calls Tryz.prog 49 #[.agg (headCells h).toArray, .slice A k c] w fun e w' => e = .returned (.tuple #[.agg (cells8 (signAns h q).1).toArray, .int .i64 (signAns h q).2]) ∧ Below w.heap.size w w' := by
 have hH : Hid (Blk ((w.alloc (.cells (headCells h).toArray 36)).alloc (.cells Z64 56)) w.heap.size 36 (headCells h).toArray) := heap_alloc2_old w _ _
 have hS : Hid (Blk ((w.alloc (.cells (headCells h).toArray 36)).alloc (.cells Z64 56)) (w.heap.size + 1) 56 Z64) := heap_alloc2_new w _ _
 have hb0 : Hid (Below w.heap.size w ((w.alloc (.cells (headCells h).toArray 36)).alloc (.cells Z64 56))) := ((Below.refl _ w).alloc (Nat.le_refl _) _).alloc (by simp) _
 have hsz : Hid ((Tryz.prog.info? 36).map (·.size) = some (headCells h).toArray.size) := by show _ = _; rw [List.size_toArray, headCells_len ok]; exact size98
 have n1 := Lib.hid (sign_size _ noSign_len)
 have n2 := Lib.hid (sign_zero _ noSign_len)
 have n3 := Lib.hid (sign_one noSign)
 have m1 := Lib.hid (sign_size _ (signOf_len h q))
 have m2 := Lib.hid (sign_zero _ (signOf_len h q))
 have m3 := Lib.hid (sign_one (signOf h q))
 obtain ⟨W, hW⟩ : ∃ W, Hid (W = ((w.alloc (.cells (headCells h).toArray 36)).alloc (.cells Z64 56))) := ⟨_, rfl⟩
 replace hk := Lib.hid hk
 replace hB := Lib.hid hB
 replace hq := Lib.hid hq
 replace hnil := Lib.hid hnil
 have okh := Lib.hid ok
 clear ok
 by_cases hkey : keyB k = true
 ·have hkk := keyB_yes hkey
  by_cases hr : rightB h = true
  ·have hans : Hid (signAns h q = (signOf h q, 0)) := by show _ = _; unfold signAns; rw [hk.out, if_pos hkey, if_pos hr]
   rw [hans.out]
   have hkeyh := Lib.hid hkey
   have hrh := Lib.hid hr
   clear hkey hr
   go_enter Tryz.func49, Tryz.ntmps49
   go_wp2_with (first
    | (go_at_call 21; refine (isKey_any k A c _).mono ?_; rw [hkeyh.out]; rintro e w1 ⟨rfl, rfl⟩)
    | ((with_reducible change wpList _ _ _ (⟨some 10, _, _, _, _, _⟩ :: _) _ _); refine wpList_load_row (o := ⟨some 10, _, _, _, _, _⟩) rfl 36 (.tmp 2) rfl (w.heap.size) rfl 36 ((headCells h).toArray) (0, 0) _ hH.out Tryz.underlying36 rfl hsz.out ?_)
    | (go_at_call 63; refine (right_any h okh.out _).mono ?_; rw [hrh.out]; rintro e w2 ⟨rfl, hb2⟩; replace hb2 := Lib.hid hb2; have hH2 : Hid (Blk w2 w.heap.size 36 (headCells h).toArray) := (hb2.out.block _ hH.out.lt).trans hH.out; have hS2 : Hid (Blk w2 (w.heap.size + 1) 56 Z64) := (hb2.out.block _ hS.out.lt).trans hS.out; have hbw : Hid (Below w.heap.size w w2) := hb0.out.trans (hb2.out.mono hb0.out.size); clear hb2)
    | ((with_reducible change wpList _ _ _ (⟨some 14, _, _, _, _, _⟩ :: _) _ _); refine wpList_load_row (o := ⟨some 14, _, _, _, _, _⟩) rfl 36 (.tmp 2) rfl (w.heap.size) rfl 36 ((headCells h).toArray) (0, 0) _ hH2.out Tryz.underlying36 rfl hsz.out ?_)
    | (go_at_call 82; refine (sign_any h okh.out hrh.out q k hk.out hkk.2 A c w2 (hB.out.below hbw.out hB.out.1) (hq.out.below hbw.out) hc hnil.out).mono ?_; rintro e w3 ⟨rfl, hb3⟩; have hS3 : Hid (Blk w3 (w.heap.size + 1) 56 Z64) := (hb3.block _ hS2.out.lt).trans hS2.out; have hbw3 : Hid (Below w.heap.size w w3) := hbw.out.trans (hb3.mono hbw.out.size); clear hb3)
    | ((with_reducible change wpList _ _ _ ({ dst := none, op := Op.store 56 _ _, type := _, pos := _, after := _, guard := _ } :: _) _ _); refine wpList_store_row (o := ⟨none, _, _, _, _, _⟩) rfl 56 (.tmp 4) (.tmp 16) rfl (w.heap.size + 1) ((cells8 (signOf h q)).toArray) rfl rfl 56 (Z64) hS3.out m1.out m2.out m3.out ?_))
   refine bodyPost_ret (results_cell_row2 rfl _ _ (w.heap.size + 1) 56 (cells8 (signOf h q)).toArray (0, 0) _ rfl (setRow_heap _ _ _ _ _ _ hS3.out) Tryz.underlying56 rfl m1.out) rfl ?_
   exact ⟨rfl, below_setRow hbw3.out (by omega) _⟩
  ·have hans : Hid (signAns h q = (noSign, 1)) := by show _ = _; unfold signAns; rw [hk.out, if_pos hkey, if_neg hr]
   rw [hans.out]
   have hkeyh := Lib.hid hkey
   have hrh : Hid (rightB h = false) := by show _ = _; simpa using hr
   clear hkey hr
   go_enter Tryz.func49, Tryz.ntmps49
   go_wp2_with (first
    | (go_at_call 21; refine (isKey_any k A c _).mono ?_; rw [hkeyh.out]; rintro e w1 ⟨rfl, rfl⟩)
    | ((with_reducible change wpList _ _ _ (⟨some 10, _, _, _, _, _⟩ :: _) _ _); refine wpList_load_row (o := ⟨some 10, _, _, _, _, _⟩) rfl 36 (.tmp 2) rfl (w.heap.size) rfl 36 ((headCells h).toArray) (0, 0) _ hH.out Tryz.underlying36 rfl hsz.out ?_)
    | (go_at_call 63; refine (right_any h okh.out _).mono ?_; rw [hrh.out]; rintro e w2 ⟨rfl, hb2⟩; replace hb2 := Lib.hid hb2; have hS2 : Hid (Blk w2 (w.heap.size + 1) 56 Z64) := (hb2.out.block _ hS.out.lt).trans hS.out; have hbw : Hid (Below w.heap.size w w2) := hb0.out.trans (hb2.out.mono hb0.out.size); clear hb2)
    | ((with_reducible change wpList _ _ _ ({ dst := none, op := Op.store 56 _ _, type := _, pos := _, after := _, guard := _ } :: _) _ _); refine wpList_store_row (o := ⟨none, _, _, _, _, _⟩) rfl 56 (.tmp 4) (.tmp 13) rfl (w.heap.size + 1) ((cells8 noSign).toArray) rfl rfl 56 (Z64) hS2.out n1.out n2.out n3.out ?_))
   refine bodyPost_ret (results_cell_row2 rfl _ _ (w.heap.size + 1) 56 (cells8 (noSign)).toArray (0, 0) _ rfl (setRow_heap _ _ _ _ _ _ hS2.out) Tryz.underlying56 rfl n1.out) rfl ?_
   exact ⟨rfl, below_setRow hbw.out (by omega) _⟩
 ·have hans : Hid (signAns h q = (noSign, 160)) := by show _ = _; unfold signAns; rw [hk.out, if_neg hkey]
  rw [hans.out]
  have hkeyh : Hid (keyB k = false) := by show _ = _; simpa using hkey
  clear hkey
  go_enter Tryz.func49, Tryz.ntmps49
  go_wp2_with (first
   | (go_at_call 21; refine (isKey_any k A c _).mono ?_; rw [hkeyh.out]; rintro e w1 ⟨rfl, rfl⟩)
   | ((with_reducible change wpList _ _ _ ({ dst := none, op := Op.store 56 _ _, type := _, pos := _, after := _, guard := _ } :: _) _ _); refine wpList_store_row (o := ⟨none, _, _, _, _, _⟩) rfl 56 (.tmp 4) (.tmp 9) rfl (w.heap.size + 1) ((cells8 noSign).toArray) rfl rfl 56 (Z64) hS.out n1.out n2.out n3.out ?_))
  refine bodyPost_ret (results_cell_row2 rfl _ _ (w.heap.size + 1) 56 (cells8 (noSign)).toArray (0, 0) _ rfl (setRow_heap _ _ _ _ _ _ hS.out) Tryz.underlying56 rfl n1.out) rfl ?_
  exact ⟨rfl, below_setRow hb0.out (by omega) _⟩
end Go.Proofs.YtfbhjoejffagjaaGreatDoor.Signs

namespace Go.Proofs.YtfbhjoejffagjaaGreatDoor.RefSigns
open Go Go.RowKit Go.Proofs.YtfbhjoejffagjaaGreatDoor Mem Sha Bytes HashMem Go.Proofs.YtfbhjoejffagjaaGreatDoor.Append DigestMem Digest Mac RefMac HeadMem HeadID Sign HeadSign Signs RefHead

theorem wpList_build {P : Program} {ops : Array Oper} {rest : List Oper} {o : Oper} {a : Act} {w : World} {Q : Exit → Act → World → Prop} (hgd : o.guard = none) (ty : TypeId) (parts : Array (Nat × Operand)) (ho : o.op = .build ty parts)
  (vals : Array (Nat × Value)) (hp : (parts.map fun (i, x) => (i, a.eval x)) = vals) (v : Value) (h : (Instr.build ty vals).run P w = .ok v w)
  (hk : wpList P ops Q rest (a.put o.dst v) w) : wpList P ops Q (o :: rest) a w := by
 refine wpList_plain hgd fun K hK => ?_
 unfold Oper.wp
 rw [exec_build ty parts ho vals hp v h]
 exact hK _ _ hk

set_option maxRecDepth 100000 in
set_option maxHeartbeats 1000000 in
theorem refSign_any (h : HeadD) (ok : h.Ok) (q : Text) (k : Nat) (hk : q.length = k) (A : Option Addr) (c : Nat) (w : World) (hq : Reads w 1 A k (cells8 q)) (hc : k ≤ c) (hnil : A = none → k = 0 ∧ c = 0) :
  Calls Tryz.prog 50 #[.agg (headCells h).toArray, .slice A k c] w fun e w' => e = .returned (.tuple #[.agg (cells8 (signAns h q).1).toArray, .int .i64 (signAns h q).2]) ∧ Below w.heap.size w w' := by
 have hH : Hid (Blk ((w.alloc (.cells (headCells h).toArray 36)).alloc (.cells Z64 56)) w.heap.size 36 (headCells h).toArray) := heap_alloc2_old w _ _
 have hS : Hid (Blk ((w.alloc (.cells (headCells h).toArray 36)).alloc (.cells Z64 56)) (w.heap.size + 1) 56 Z64) := heap_alloc2_new w _ _
 have hb0 : Hid (Below w.heap.size w ((w.alloc (.cells (headCells h).toArray 36)).alloc (.cells Z64 56))) := ((Below.refl _ w).alloc (Nat.le_refl _) _).alloc (by simp) _
 have hsz : Hid ((Tryz.prog.info? 36).map (·.size) = some (headCells h).toArray.size) := by show _ = _; rw [List.size_toArray, headCells_len ok]; exact size98
 have hlen := Lib.hid (headBytes_len ok)
 have n1 := Lib.hid (sign_size _ noSign_len)
 have n2 := Lib.hid (sign_zero _ noSign_len)
 have n3 := Lib.hid (sign_one noSign)
 have m1 := Lib.hid (sign_size _ (signOf_len h q))
 have m2 := Lib.hid (sign_zero _ (signOf_len h q))
 have m3 := Lib.hid (sign_one (signOf h q))
 replace hk := Lib.hid hk
 replace hq := Lib.hid hq
 replace hnil := Lib.hid hnil
 have okh := Lib.hid ok
 clear ok
 by_cases hkey : keyB k = true
 ·have hkk := Lib.hid (keyB_yes hkey)
  have h1 : ¬ ((k : Int) < 1) := by have := hkk.out; omega
  have h2 : ¬ ((64 : Int) < (k : Int)) := by have := hkk.out; omega
  by_cases hr : rightB h = true
  ·have hans : Hid (signAns h q = (signOf h q, 0)) := by show _ = _; unfold signAns; rw [hk.out, if_pos hkey, if_pos hr]
   rw [hans.out]
   have hrh := Lib.hid hr
   clear hkey hr
   go_enter Tryz.func50, Tryz.ntmps50
   go_wp2_with (first
    | ((with_reducible change wpList _ _ _ (⟨some 18, _, _, _, _, _⟩ :: _) _ _); refine wpList_load_row (o := ⟨some 18, _, _, _, _, _⟩) rfl 36 (.tmp 2) rfl (w.heap.size) rfl 36 ((headCells h).toArray) (0, 0) _ hH.out Tryz.underlying36 rfl hsz.out ?_)
    | (go_at_call 35; refine (refHead_yes h okh.out hrh.out _).mono ?_; rintro e w2 ⟨v2, rfl, hb2, ho2⟩; replace hb2 := Lib.hid hb2; obtain ⟨A1, c1, rfl, _, _, hn1, hR1, _⟩ := Own.reads ho2; replace hn1 := Lib.hid hn1; replace hR1 := Lib.hid hR1; have hS2 : Hid (Blk w2 (w.heap.size + 1) 56 Z64) := (hb2.out.block _ hS.out.lt).trans hS.out; have hbw : Hid (Below w.heap.size w w2) := hb0.out.trans (hb2.out.mono hb0.out.size); clear hb2 ho2)
    | (go_at_call 26; refine (refid_any q k hk.out A c w2 (hq.out.below hbw.out) hc (by have := hkk.out; omega) hnil.out).mono ?_; rintro e w3 ⟨rfl, hb3⟩; have hS3 : Hid (Blk w3 (w.heap.size + 1) 56 Z64) := (hb3.block _ hS2.out.lt).trans hS2.out; have hbw3 : Hid (Below w.heap.size w w3) := hbw.out.trans (hb3.mono hbw.out.size); have hR3 := Lib.hid (hR1.out.below hb3); clear hb3)
    | (go_at_call 83; refine (refmac_any q (headBytes h) k 113 hk.out hlen.out hkk.out.2 A A1 c c1 w3 (by omega) (hq.out.below hbw3.out) hR3.out hn1.out).mono ?_; rintro e w4 ⟨rfl, hb4⟩; have hS4 : Hid (Blk w4 (w.heap.size + 1) 56 Z64) := (hb4.block _ hS3.out.lt).trans hS3.out; have hbw4 : Hid (Below w.heap.size w w4) := hbw3.out.trans (hb4.mono hbw3.out.size); clear hb4)
    | ((with_reducible change wpList _ _ _ (⟨some 30, _, _, _, _, _⟩ :: _) _ _); refine wpList_build (o := ⟨some 30, _, _, _, _, _⟩) rfl 56 #[(0, .tmp 26), (1, .tmp 29)] rfl #[(0, .agg (cells8 (idOf q)).toArray), (1, .agg (cells8 (macOf q (headBytes h))).toArray)] (by simp; exact ⟨rfl, rfl⟩) _ (run_sign h q w4) ?_)
    | ((with_reducible change wpList _ _ _ ({ dst := none, op := Op.store 56 _ _, type := _, pos := _, after := _, guard := _ } :: _) _ _); refine wpList_store_row (o := ⟨none, _, _, _, _, _⟩) rfl 56 (.tmp 4) (.tmp 30) rfl (w.heap.size + 1) ((cells8 (signOf h q)).toArray) rfl rfl 56 (Z64) hS4.out m1.out m2.out m3.out ?_))
   refine bodyPost_ret (results_cell_row2 rfl _ _ (w.heap.size + 1) 56 (cells8 (signOf h q)).toArray (0, 0) _ rfl (setRow_heap _ _ _ _ _ _ hS4.out) Tryz.underlying56 rfl m1.out) rfl ?_
   exact ⟨rfl, below_setRow hbw4.out (by omega) _⟩
  ·have hans : Hid (signAns h q = (noSign, 1)) := by show _ = _; unfold signAns; rw [hk.out, if_pos hkey, if_neg hr]
   rw [hans.out]
   have hrh : Hid (rightB h = false) := by show _ = _; simpa using hr
   clear hkey hr
   go_enter Tryz.func50, Tryz.ntmps50
   go_wp2_with (first
    | ((with_reducible change wpList _ _ _ (⟨some 18, _, _, _, _, _⟩ :: _) _ _); refine wpList_load_row (o := ⟨some 18, _, _, _, _, _⟩) rfl 36 (.tmp 2) rfl (w.heap.size) rfl 36 ((headCells h).toArray) (0, 0) _ hH.out Tryz.underlying36 rfl hsz.out ?_)
    | (go_at_call 35; refine (refHead_no h okh.out hrh.out _).mono ?_; rintro e w2 ⟨rfl, hb2⟩; replace hb2 := Lib.hid hb2; have hS2 : Hid (Blk w2 (w.heap.size + 1) 56 Z64) := (hb2.out.block _ hS.out.lt).trans hS.out; have hbw : Hid (Below w.heap.size w w2) := hb0.out.trans (hb2.out.mono hb0.out.size); clear hb2)
    | ((with_reducible change wpList _ _ _ ({ dst := none, op := Op.store 56 _ _, type := _, pos := _, after := _, guard := _ } :: _) _ _); refine wpList_store_row (o := ⟨none, _, _, _, _, _⟩) rfl 56 (.tmp 4) (.tmp 24) rfl (w.heap.size + 1) ((cells8 noSign).toArray) rfl rfl 56 (Z64) hS2.out n1.out n2.out n3.out ?_))
   refine bodyPost_ret (results_cell_row2 rfl _ _ (w.heap.size + 1) 56 (cells8 (noSign)).toArray (0, 0) _ rfl (setRow_heap _ _ _ _ _ _ hS2.out) Tryz.underlying56 rfl n1.out) rfl ?_
   exact ⟨rfl, below_setRow hbw.out (by omega) _⟩
 ·have hans : Hid (signAns h q = (noSign, 160)) := by show _ = _; unfold signAns; rw [hk.out, if_neg hkey]
  rw [hans.out]
  by_cases h1 : (k : Int) < 1
  ·clear hkey
   go_enter Tryz.func50, Tryz.ntmps50
   go_wp2_with ((with_reducible change wpList _ _ _ ({ dst := none, op := Op.store 56 _ _, type := _, pos := _, after := _, guard := _ } :: _) _ _); refine wpList_store_row (o := ⟨none, _, _, _, _, _⟩) rfl 56 (.tmp 4) (.tmp 16) rfl (w.heap.size + 1) ((cells8 noSign).toArray) rfl rfl 56 (Z64) hS.out n1.out n2.out n3.out ?_)
   refine bodyPost_ret (results_cell_row2 rfl _ _ (w.heap.size + 1) 56 (cells8 (noSign)).toArray (0, 0) _ rfl (setRow_heap _ _ _ _ _ _ hS.out) Tryz.underlying56 rfl n1.out) rfl ?_
   exact ⟨rfl, below_setRow hb0.out (by omega) _⟩
  ·have h2 : (64 : Int) < (k : Int) := by
    simp [keyB] at hkey
    omega
   clear hkey
   go_enter Tryz.func50, Tryz.ntmps50
   go_wp2_with ((with_reducible change wpList _ _ _ ({ dst := none, op := Op.store 56 _ _, type := _, pos := _, after := _, guard := _ } :: _) _ _); refine wpList_store_row (o := ⟨none, _, _, _, _, _⟩) rfl 56 (.tmp 4) (.tmp 16) rfl (w.heap.size + 1) ((cells8 noSign).toArray) rfl rfl 56 (Z64) hS.out n1.out n2.out n3.out ?_)
   refine bodyPost_ret (results_cell_row2 rfl _ _ (w.heap.size + 1) 56 (cells8 (noSign)).toArray (0, 0) _ rfl (setRow_heap _ _ _ _ _ _ hS.out) Tryz.underlying56 rfl n1.out) rfl ?_
   exact ⟨rfl, below_setRow hb0.out (by omega) _⟩
end Go.Proofs.YtfbhjoejffagjaaGreatDoor.RefSigns
