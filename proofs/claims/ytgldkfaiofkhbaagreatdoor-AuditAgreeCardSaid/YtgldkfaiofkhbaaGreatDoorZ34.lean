/-
  Texts of the claim, put into one file: HeadSign, Signs, Check.
-/
import Derived.Test.YtgldkfaiofkhbaaGreatDoorZ31
import Derived.Test.YtgldkfaiofkhbaaGreatDoorZ24
import Derived.Test.YtgldkfaiofkhbaaGreatDoorZ11
import Derived.Test.YtgldkfaiofkhbaaGreatDoorZ6

namespace Go.Proofs.YtgldkfaiofkhbaaGreatDoor.HeadSign
open Go Go.RowKit Go.Proofs.YtgldkfaiofkhbaaGreatDoor Mem Sha Bytes HashMem Go.Proofs.YtgldkfaiofkhbaaGreatDoor.Append DigestMem Digest Mac HeadMem HeadID HeadEnc Sign Held

theorem exec_build {P : Program} {w : World} {o : Oper} {ρ : Operand → Value} (ty : TypeId) (parts : Array (Nat × Operand)) (ho : o.op = .build ty parts) (vals : Array (Nat × Value)) (hp : (parts.map fun (i, x) => (i, ρ x)) = vals) (v : Value) (h : (Instr.build ty vals).run P w = .ok v w) : (execOp ρ o).run P w = .ok (.value v) w := by
 unfold execOp
 simp only [ho, hp, Sem.run_bind, Sem.run_pure, Result.andThen_ok, h]

set_option maxRecDepth 100000 in
set_option maxHeartbeats 1000000 in
theorem sign_any (h : HeadD) (ok : h.Ok) (hr : rightB h = true) (q : Text) (k : Nat) (hk : q.length = k) (hk64 : k ≤ 64) (A : Option Addr) (c : Nat) (w : World) (hB : Base w) (hq : Reads w 1 A k (cells8 q)) (hc : k ≤ c) (hnil : A = none → k = 0 ∧ c = 0) :
  Calls Tryz.prog 216 #[.agg (headCells h).toArray, .slice A k c] w fun e w' => e = .returned (.agg (cells8 (signOf h q)).toArray) ∧ Below w.heap.size w w' := by
 obtain ⟨w0, hw0⟩ : ∃ w0, Hid (w0 = (w.alloc (.cells (headCells h).toArray 36)).alloc (.cells Z64 57)) := ⟨_, rfl⟩
 have hH : Hid (Blk w0 w.heap.size 36 (headCells h).toArray) := by show Blk _ _ _ _; rw [hw0.out]; exact heap_alloc2_old w _ _
 have hS : Hid (Blk w0 (w.heap.size + 1) 57 Z64) := by show Blk _ _ _ _; rw [hw0.out]; exact heap_alloc2_new w _ _
 have hbw : Hid (Below w.heap.size w w0) := by show Below _ _ _; rw [hw0.out]; exact ((Below.refl _ w).alloc (Nat.le_refl _) _).alloc (by simp) _
 have hz1 : Hid (w.heap.size + 1 ≤ w0.heap.size) := Nat.le_of_lt hS.out.lt
 have hsz : Hid ((Tryz.prog.info? 36).map (·.size) = some (headCells h).toArray.size) := by show _ = _; rw [List.size_toArray, headCells_len ok]; exact size98
 have hlen := Lib.hid (headBytes_len ok)
 have z9 := Lib.hid (sign_size _ (signOf_len h q))
 replace ok := Lib.hid ok
 replace hr := Lib.hid hr
 replace hk := Lib.hid hk
 replace hB := Lib.hid hB
 replace hq := Lib.hid hq
 replace hnil := Lib.hid hnil
 go_enter Tryz.func216, Tryz.ntmps216
 go_wp2_with fail
 change (Code.region _ _ _).wp _ _ _ ((w.alloc (.cells (headCells h).toArray 36)).alloc (.cells Z64 57))
 rw [← hw0.out]
 clear hw0
 have s0 : Hid (Below w0.heap.size w0 w0.drew) := (Below.refl _ _).drew
 refine held_start (fun w' => Below (w.heap.size + 1) w0 w') 8 rfl (by kernel_rfl) ?_
 refine Held.tk0 (i := 0) (v := .slice A k c) rfl (s0.out.mono hz1.out) (fun w' hw' => by go_simp) ?_
 (intro K k; go_simp; apply k; clear k K)
 refine Held.tk0 (i := 2) (v := .slice A k c) rfl (s0.out.mono hz1.out) (fun w' hw' => by go_simp) ?_
 (intro K k; go_simp; apply k; clear k K)
 refine Held.tk0 (i := 3) (v := .agg ((headCells h).toArray)) rfl (s0.out.mono hz1.out) (fun w' hw' => exec_row 36 (.tmp 2) rfl (w.heap.size) rfl 36 ((headCells h).toArray) (0, 0) _ ((hw'.block _ (by omega)).trans hH.out) Tryz.underlying36 rfl hsz.out) ?_
 (intro K k; go_simp; apply k; clear k K)
 refine held_only (i := 1) rfl (by kernel_rfl) (by rfl) (fun K hK => ?_)
 refine wp_fn (R := fun v w'' => v = .agg (cells8 (idOf q)).toArray ∧ Below w0.heap.size w0 w'') (args := #[.slice A k c]) _ _ rfl rfl Tryz.func61 (by kernel_rfl) (by kernel_rfl) ((id_any q k hk.out A c w0.drew (hB.out.below (hbw.out.trans (s0.out.mono hbw.out.size)) hB.out.1) (hq.out.below (hbw.out.trans (s0.out.mono hbw.out.size))) hc (by omega) hnil.out).mono fun e w'' ⟨he, hb⟩ => ⟨_, he, rfl, s0.out.trans (hb.mono s0.out.size)⟩) ?_
 rintro v1 w1 ⟨rfl, k1⟩
 replace k1 := Lib.hid k1
 go_simp
 refine hK _ _ (k1.out.mono hz1.out) ?_
 clear hK K
 refine held_only (i := 4) rfl (by kernel_rfl) (by rfl) (fun K hK => ?_)
 refine wp_fn (R := fun v w'' => ∃ A1 c1, v = .slice A1 113 c1 ∧ 113 ≤ c1 ∧ Reads w'' 1 A1 113 (cells8 (headBytes h)) ∧ Below w0.heap.size w0 w'') (args := #[.agg (headCells h).toArray]) _ _ rfl rfl Tryz.func264 (by kernel_rfl) (by kernel_rfl) ((laid_any h ok.out hr.out w1).mono fun e w'' ⟨v, he, hb, ho⟩ => by obtain ⟨A1, c1, rfl, g1, _, _, g2, _⟩ := Own.reads ho; exact ⟨_, he, A1, c1, rfl, g1, g2, k1.out.trans (hb.mono k1.out.size)⟩) ?_
 rintro v2 w2 ⟨A1, c1, rfl, g1, g2, k2⟩
 replace k2 := Lib.hid k2
 replace g2 := Lib.hid g2
 go_simp
 refine hK _ _ (k2.out.mono hz1.out) ?_
 clear hK K
 refine held_only (i := 5) rfl (by kernel_rfl) (by rfl) (fun K hK => ?_)
 refine wp_fn (R := fun v w'' => v = .agg (cells8 (macOf q (headBytes h))).toArray ∧ Below w0.heap.size w0 w'') (args := #[.slice A k c, .slice A1 113 c1]) _ _ rfl rfl Tryz.func263 (by kernel_rfl) (by kernel_rfl) ((mac_any q (headBytes h) k 113 hk.out hlen.out hk64 A A1 c c1 w2 (hB.out.below (hbw.out.trans (k2.out.mono hbw.out.size)) hB.out.1) (by omega) (hq.out.below (hbw.out.trans (k2.out.mono hbw.out.size))) g2.out g1).mono fun e w'' ⟨he, hb⟩ => ⟨_, he, rfl, k2.out.trans (hb.mono k2.out.size)⟩) ?_
 rintro v3 w3 ⟨rfl, k3⟩
 replace k3 := Lib.hid k3
 go_simp
 refine hK _ _ (k3.out.mono hz1.out) ?_
 clear hK K
 refine Held.tk0 (i := 6) (v := .agg (cells8 (signOf h q)).toArray) rfl (k3.out.mono hz1.out) (fun w' hw' => exec_build 57 #[(0, .tmp 6), (1, .tmp 10)] rfl #[(0, .agg (cells8 (idOf q)).toArray), (1, .agg (cells8 (macOf q (headBytes h))).toArray)] (by simp; exact ⟨rfl, rfl⟩) _ (run_sign h q w')) ?_
 (intro K k; go_simp; apply k; clear k K)
 refine held_only (i := 7) rfl (by kernel_rfl) (by rfl) (fun K hK => ?_)
 refine wp_store_whole 57 (.tmp 4) (.tmp 11) rfl (w.heap.size + 1) (cells8 (signOf h q)).toArray rfl rfl 57 Z64 ((k3.out.block _ hS.out.lt).trans hS.out) (sign_size _ (signOf_len h q)) (sign_zero _ (signOf_len h q)) (sign_one _) ?_
 intro w9 B9 k9
 have b9 : Hid (Below w.heap.size w w9) := hbw.out.trans ((k3.out.mono hbw.out.size).trans (Kept.below_of k9 (by omega) (by have := hbw.out.size; have := k3.out.size; omega)))
 go_simp
 refine hK _ _ ?_ ?_
 ·exact ((k3.out.mono hz1.out).trans (Kept.below_of k9 (by omega) (by have := k3.out.size; have := hz1.out; omega)))
 refine held_end (by kernel_rfl) ?_
 go_wp2_with fail
 refine bodyPost_ret (results_cell_row rfl _ _ (w.heap.size + 1) 57 (cells8 (signOf h q)).toArray (0, 0) _ rfl B9 Tryz.underlying57 rfl z9.out) rfl ?_
 exact ⟨rfl, b9.out⟩
end Go.Proofs.YtgldkfaiofkhbaaGreatDoor.HeadSign

namespace Go.Proofs.YtgldkfaiofkhbaaGreatDoor.Signs
open Go Go.RowKit Go.Proofs.YtgldkfaiofkhbaaGreatDoor Mem Sha Bytes HashMem Go.Proofs.YtgldkfaiofkhbaaGreatDoor.Append DigestMem Digest Mac HeadMem HeadID Sign HeadSign

theorem results_cell_row2 {P : Program} {fn : Func} {p u : Tmp} {ty : TypeId} (h : fn.results = #[.cell p ty, .tmp u]) (tmps : Array Value) (w : World) (g : Nat) (t : TypeId) (cs : Array Value) (fr : Nat × Nat) (d : TypeDesc)
  (hp : tmps.getD p undef = .pointer (some ⟨g, 0, none⟩)) (hg : w.heap[g]? = some (.cells cs t fr))
  (hu : P.underlying ty = some d) (hd : (match d with | .struct _ | .array _ _ => true | _ => false) = true) (hi : (P.info? ty).map (·.size) = some cs.size) :
  (results fn tmps).run P w = .ok (.tuple #[.agg cs, tmps.getD u undef]) w := by
 have hp' : tmps[p]?.getD undef = .pointer (some ⟨g, 0, none⟩) := by simpa using hp
 simp [results, h, hp', asAddr, run_loadVar_row w g t ty cs fr d hg hu hd hi, Result.andThen]
def keyB (k : Nat) : Bool := decide (0 < (k : Int)) && decide ((k : Int) ≤ 64)
theorem keyB_yes {k : Nat} (h : keyB k = true) : 0 < k ∧ k ≤ 64 := by
 unfold keyB at h
 simp at h
 omega
set_option maxRecDepth 100000 in
theorem isKey_any (k : Nat) (A : Option Addr) (c : Nat) (w : World) :
  Calls Tryz.prog 60 #[.slice A k c] w fun e w' => e = .returned (.bool (keyB k)) ∧ w' = w := by
 by_cases h1 : (0 : Int) < (k : Int)
 ·by_cases h2 : (k : Int) ≤ 64
  ·have h3 : Hid (keyB k = true) := by show _ = _; simp only [keyB, h1, h2, decide_true, Bool.and_self]
   go_enter Tryz.func60, Tryz.ntmps60
   go_wp2_with fail
   go_ret
   rw [h3.out]
   exact ⟨rfl, rfl⟩
  ·have h3 : Hid (keyB k = false) := by show _ = _; simp only [keyB, h2, decide_false, Bool.and_false]
   go_enter Tryz.func60, Tryz.ntmps60
   go_wp2_with fail
   go_ret
   rw [h3.out]
   exact ⟨rfl, rfl⟩
 ·have h3 : Hid (keyB k = false) := by show _ = _; simp only [keyB, h1, decide_false, Bool.false_and]
  go_enter Tryz.func60, Tryz.ntmps60
  go_wp2_with fail
  go_ret
  rw [h3.out]
  exact ⟨rfl, rfl⟩

end Go.Proofs.YtgldkfaiofkhbaaGreatDoor.Signs

namespace Go.Proofs.YtgldkfaiofkhbaaGreatDoor.Check
open Go Go.RowKit Go.Proofs.YtgldkfaiofkhbaaGreatDoor Mem Sha Bytes HashMem HashSum Go.Proofs.YtgldkfaiofkhbaaGreatDoor.Append DigestMem Digest Mac HeadMem HeadID Sign HeadSign Signs DigEq SignEq QuietTail Grown

def checkAns (h : HeadD) (s q : Text) : Int := if keyB q.length = true ∧ idOf q = s.take 32 then (if rightB h then (if signOf h q = s then 0 else 161) else 1) else 160

set_option maxRecDepth 100000 in
set_option maxHeartbeats 1000000 in
theorem check_any (h : HeadD) (ok : h.Ok) (s : Text) (hs : s.length = 64) (q : Text) (k : Nat) (hk : q.length = k) (A : Option Addr) (c : Nat) (w : World) (hB : Base w) (hq : Reads w 1 A k (cells8 q)) (hc : k ≤ c) (hnil : A = none → k = 0 ∧ c = 0) :
  Calls Tryz.prog 128 #[.agg (headCells h).toArray, .agg (cells8 s).toArray, .slice A k c] w fun e w' => e = .returned (.int .i64 (checkAns h s q)) ∧ Below w.heap.size w w' := by
 obtain ⟨W, hW⟩ : ∃ W, Hid (W = (w.alloc (.cells (headCells h).toArray 36)).alloc (.cells (cells8 s).toArray 57)) := ⟨_, rfl⟩
 have hH : Hid (Blk W w.heap.size 36 (headCells h).toArray) := by show Blk _ _ _ _; rw [hW.out]; exact heap_alloc2_old w _ _
 have hS : Hid (Blk W (w.heap.size + 1) 57 (cells8 s).toArray) := by show Blk _ _ _ _; rw [hW.out]; exact heap_alloc2_new w _ _
 have hb0 : Hid (Below w.heap.size w W) := by show Below _ _ _; rw [hW.out]; exact ((Below.refl _ w).alloc (Nat.le_refl _) _).alloc (by simp) _
 have hcur : Hid (∀ w', Class W w' → Below w.heap.size w w') := fun w' hw' => hb0.out.trans (hw'.below.mono hb0.out.size)
 have hP : Hid (∀ w', Class W w' → ∀ j v, (cells8 (s.take 32))[j]? = some v → w'.cell? ⟨w.heap.size + 1, 0 + j, none⟩ = some v) := fun w' hw' j v hv => by
  have hb : Blk w' (w.heap.size + 1) 57 (cells8 s).toArray := (hw'.below.block _ hS.out.lt).trans hS.out
  rw [hb.cell, List.getElem?_toArray]
  exact half_a s j v hv
 have hsz : Hid ((Tryz.prog.info? 36).map (·.size) = some (headCells h).toArray.size) := by show _ = _; rw [List.size_toArray, headCells_len ok]; exact size98
 have ssz := Lib.hid (sign_size s hs)
 have hs32 : (s.take 32).length = 32 := by simp [hs]
 have z32 : Hid ((Tryz.prog.info? 23).map (·.size) = some (cells8 (s.take 32)).length) := by show _ = _; rw [cells8_len, hs32]; exact size31
 have hn := equal_dig (idOf q) (s.take 32) (idOf_len q) hs32
 have hn1 := sign_fb (signOf h q) s (signOf_len h q) hs
 have hn0 := sign_fa (signOf h q) s (signOf_len h q) hs
 have hst : (signOf h q).take 32 = idOf q := by unfold signOf; rw [List.take_append_of_le_length (by rw [idOf_len]; exact Nat.le_refl _), List.take_of_length_le (by rw [idOf_len]; exact Nat.le_refl _)]
 have hse := half_eq (signOf h q) s
 rw [hst] at hse
 replace hk := Lib.hid hk
 replace hB := Lib.hid hB
 replace hq := Lib.hid hq
 replace hnil := Lib.hid hnil
 have okh := Lib.hid ok
 clear ok hs hs32
 by_cases hkey : keyB k = true
 ·have hkk := keyB_yes hkey
  have hkeyh := Lib.hid hkey
  by_cases hid : idOf q = s.take 32
  ·have hne : Hid (∀ w, (Op.equalIn 10000 23 (.agg (cells8 (idOf q)).toArray) (.agg (cells8 (s.take 32)).toArray)).run Tryz.prog w = .ok true w) := fun w => by rw [hn w, decide_eq_true hid]
   by_cases hr : rightB h = true
   ·have hrh := Lib.hid hr
    by_cases hsg : signOf h q = s
    ·have hans : Hid (checkAns h s q = 0) := by show _ = _; unfold checkAns; rw [hk.out, if_pos ⟨hkey, hid⟩, if_pos hr, if_pos hsg]
     have hna : Hid (∀ w, (Op.equalIn 9999 23 (.agg (List.take 32 (cells8 (signOf h q))).toArray) (.agg (List.take 32 (cells8 s)).toArray)).run Tryz.prog w = .ok true w) := fun w => by rw [hn0 w, hst, decide_eq_true hid]
     have hn2 : Hid (∀ w, (Op.equalIn 9999 23 (.agg (List.take 32 (List.drop 32 (cells8 (signOf h q)))).toArray) (.agg (List.take 32 (List.drop 32 (cells8 s))).toArray)).run Tryz.prog w = .ok true w) := fun w => by rw [hn1 w, decide_eq_true (hse.1 hsg).2]
     rw [hans.out]
     clear hkey hid hr hsg hn hn1 hn0 hse hst
     go_enter Tryz.func128, Tryz.ntmps128
     go_wp2_with fail
     change (Code.region _ _ _).wp _ _ _ ((w.alloc (.cells (headCells h).toArray 36)).alloc (.cells (cells8 s).toArray 57))
     rw [← hW.out]
     refine wp_region_class (Class W) (by kernel_rfl) (by kernel_rfl) (Class.mk_ ((Below.refl _ _).drew)) ?_
     refine wpQuiet_move rfl (.tmp 2) rfl ?_
     (intro K k; go_simp; apply k; clear k K)
     refine wpQuiet_fn (v := .bool true) (args := #[.slice A k c]) rfl _ _ rfl rfl Tryz.func60 (by kernel_rfl) (by kernel_rfl) (fun w' hw' => (isKey_any k A c w').mono (fun e w'' ⟨he, hb⟩ => ⟨by rw [he, hkeyh.out], by rw [hb]; exact hw'⟩)) ?_
     (intro K k; go_simp; apply k; clear k K)
     refine wpQuiet_val (v := .bool false) rfl (fun w' hw' => by go_simp) ?_
     (intro K k; go_simp; apply k; clear k K)
     refine wpQuiet_move rfl (.tmp 9) rfl ?_
     (intro K k; go_simp; apply k; clear k K)
     refine wpQuiet_move rfl (.tmp 2) rfl ?_
     (intro K k; go_simp; apply k; clear k K)
     refine wpQuiet_fn (v := .agg (cells8 (idOf q)).toArray) (args := #[.slice A k c]) rfl _ _ rfl rfl Tryz.func61 (by kernel_rfl) (by kernel_rfl) (fun w' hw' => (id_any q k hk.out A c w' (hB.out.below (hcur.out w' hw') hB.out.1) (hq.out.below (hcur.out w' hw')) hc (by omega) hnil.out).mono (fun e w'' ⟨he, hb⟩ => ⟨he, hw'.next hb⟩)) ?_
     (intro K k; go_simp; apply k; clear k K)
     refine wpQuiet_val (v := .pointer (some ⟨w.heap.size + 1, 0, none⟩)) rfl (fun w' hw' => by go_simp) ?_
     (intro K k; go_simp; apply k; clear k K)
     refine wpQuiet_load_part rfl 23 (.tmp 13) rfl (w.heap.size + 1) (0) rfl (cells8 (s.take 32)) _ (fun w' hw' => hP.out w' hw') Tryz.underlying23 rfl z32.out ?_
     (intro K k; go_simp; apply k; clear k K)
     refine wpQuiet_val (v := .bool false) rfl (fun w' hw' => by have hh := hne.out w'; go_simp) ?_
     (intro K k; go_simp; apply k; clear k K)
     refine wpQuiet_val (v := .bool false) rfl (fun w' hw' => by go_simp) ?_
     (intro K k; go_simp; apply k; clear k K)
     refine wpQuiet_nil ?_
     intro w1 hw1
     have hb1 : Hid (Below w.heap.size w w1) := hcur.out w1 hw1
     have hH1 : Hid (Blk w1 w.heap.size 36 (headCells h).toArray) := (hw1.below.block _ hH.out.lt).trans hH.out
     have hS1 : Hid (Blk w1 (w.heap.size + 1) 57 (cells8 s).toArray) := (hw1.below.block _ hS.out.lt).trans hS.out
     clear hw1
     go_wp2_with (first
      | ((with_reducible change wpList _ _ _ (⟨some 17, _, _, _, _, _⟩ :: _) _ _); refine wpList_load_row (o := ⟨some 17, _, _, _, _, _⟩) rfl 36 (.tmp 3) rfl (w.heap.size) rfl 36 ((headCells h).toArray) (0, 0) _ hH1.out Tryz.underlying36 rfl hsz.out ?_)
      | (go_at_call 209; refine (right_any h okh.out _).mono ?_; rw [hrh.out]; rintro e w2 ⟨rfl, hbr⟩; have hb2 : Hid (Below w.heap.size w w2) := hb1.out.trans (hbr.mono hb1.out.size); have hH2 : Hid (Blk w2 w.heap.size 36 (headCells h).toArray) := (hbr.block _ hH1.out.lt).trans hH1.out; have hS2 : Hid (Blk w2 (w.heap.size + 1) 57 (cells8 s).toArray) := (hbr.block _ hS1.out.lt).trans hS1.out; clear hbr))
     refine wp_region_class (Class w2) (by kernel_rfl) (by kernel_rfl) (Class.mk_ ((Below.refl _ _).drew)) ?_
     refine wpQuiet_load_row rfl 36 (.tmp 3) rfl w.heap.size rfl 36 ((headCells h).toArray) (0, 0) _ (fun w' hw' => (hw'.below.block _ hH2.out.lt).trans hH2.out) Tryz.underlying36 rfl hsz.out ?_
     (intro K k; go_simp; apply k; clear k K)
     refine wpQuiet_move rfl (.tmp 2) rfl ?_
     (intro K k; go_simp; apply k; clear k K)
     refine wpQuiet_fn (v := .agg (cells8 (signOf h q)).toArray) (args := #[.agg (headCells h).toArray, .slice A k c]) rfl _ _ rfl rfl Tryz.func216 (by kernel_rfl) (by kernel_rfl) (fun w' hw' => (sign_any h okh.out hrh.out q k hk.out hkk.2 A c w' (hB.out.below (hb2.out.trans (hw'.below.mono hb2.out.size)) hB.out.1) (hq.out.below (hb2.out.trans (hw'.below.mono hb2.out.size))) hc hnil.out).mono (fun e w'' ⟨he, hb⟩ => ⟨he, hw'.next hb⟩)) ?_
     (intro K k; go_simp; apply k; clear k K)
     refine wpQuiet_load_row rfl 57 (.tmp 4) rfl (w.heap.size + 1) rfl 57 ((cells8 s).toArray) (0, 0) _ (fun w' hw' => (hw'.below.block _ hS2.out.lt).trans hS2.out) Tryz.underlying57 rfl ssz.out ?_
     (intro K k; go_simp; apply k; clear k K)
     refine wpQuiet_val (v := .bool false) rfl (fun w' hw' => by have hh := hna.out w'; have hh2 := hn2.out w'; go_simp) ?_
     (intro K k; go_simp; apply k; clear k K)
     refine wpQuiet_nil ?_
     intro w3 hw3
     have hb3 : Hid (Below w.heap.size w w3) := hb2.out.trans (hw3.below.mono hb2.out.size)
     go_wp2_with fail
     go_ret
     exact ⟨rfl, hb3.out⟩
    ·have hans : Hid (checkAns h s q = 161) := by show _ = _; unfold checkAns; rw [hk.out, if_pos ⟨hkey, hid⟩, if_pos hr, if_neg hsg]
     have hna : Hid (∀ w, (Op.equalIn 9999 23 (.agg (List.take 32 (cells8 (signOf h q))).toArray) (.agg (List.take 32 (cells8 s)).toArray)).run Tryz.prog w = .ok true w) := fun w => by rw [hn0 w, hst, decide_eq_true hid]
     have hn2 : Hid (∀ w, (Op.equalIn 9999 23 (.agg (List.take 32 (List.drop 32 (cells8 (signOf h q)))).toArray) (.agg (List.take 32 (List.drop 32 (cells8 s))).toArray)).run Tryz.prog w = .ok false w) := fun w => by rw [hn1 w, decide_eq_false (fun h2 => hsg (hse.2 ⟨hid, h2⟩))]
     rw [hans.out]
     clear hkey hid hr hsg hn hn1 hn0 hse hst
     go_enter Tryz.func128, Tryz.ntmps128
     go_wp2_with fail
     change (Code.region _ _ _).wp _ _ _ ((w.alloc (.cells (headCells h).toArray 36)).alloc (.cells (cells8 s).toArray 57))
     rw [← hW.out]
     refine wp_region_class (Class W) (by kernel_rfl) (by kernel_rfl) (Class.mk_ ((Below.refl _ _).drew)) ?_
     refine wpQuiet_move rfl (.tmp 2) rfl ?_
     (intro K k; go_simp; apply k; clear k K)
     refine wpQuiet_fn (v := .bool true) (args := #[.slice A k c]) rfl _ _ rfl rfl Tryz.func60 (by kernel_rfl) (by kernel_rfl) (fun w' hw' => (isKey_any k A c w').mono (fun e w'' ⟨he, hb⟩ => ⟨by rw [he, hkeyh.out], by rw [hb]; exact hw'⟩)) ?_
     (intro K k; go_simp; apply k; clear k K)
     refine wpQuiet_val (v := .bool false) rfl (fun w' hw' => by go_simp) ?_
     (intro K k; go_simp; apply k; clear k K)
     refine wpQuiet_move rfl (.tmp 9) rfl ?_
     (intro K k; go_simp; apply k; clear k K)
     refine wpQuiet_move rfl (.tmp 2) rfl ?_
     (intro K k; go_simp; apply k; clear k K)
     refine wpQuiet_fn (v := .agg (cells8 (idOf q)).toArray) (args := #[.slice A k c]) rfl _ _ rfl rfl Tryz.func61 (by kernel_rfl) (by kernel_rfl) (fun w' hw' => (id_any q k hk.out A c w' (hB.out.below (hcur.out w' hw') hB.out.1) (hq.out.below (hcur.out w' hw')) hc (by omega) hnil.out).mono (fun e w'' ⟨he, hb⟩ => ⟨he, hw'.next hb⟩)) ?_
     (intro K k; go_simp; apply k; clear k K)
     refine wpQuiet_val (v := .pointer (some ⟨w.heap.size + 1, 0, none⟩)) rfl (fun w' hw' => by go_simp) ?_
     (intro K k; go_simp; apply k; clear k K)
     refine wpQuiet_load_part rfl 23 (.tmp 13) rfl (w.heap.size + 1) (0) rfl (cells8 (s.take 32)) _ (fun w' hw' => hP.out w' hw') Tryz.underlying23 rfl z32.out ?_
     (intro K k; go_simp; apply k; clear k K)
     refine wpQuiet_val (v := .bool false) rfl (fun w' hw' => by have hh := hne.out w'; go_simp) ?_
     (intro K k; go_simp; apply k; clear k K)
     refine wpQuiet_val (v := .bool false) rfl (fun w' hw' => by go_simp) ?_
     (intro K k; go_simp; apply k; clear k K)
     refine wpQuiet_nil ?_
     intro w1 hw1
     have hb1 : Hid (Below w.heap.size w w1) := hcur.out w1 hw1
     have hH1 : Hid (Blk w1 w.heap.size 36 (headCells h).toArray) := (hw1.below.block _ hH.out.lt).trans hH.out
     have hS1 : Hid (Blk w1 (w.heap.size + 1) 57 (cells8 s).toArray) := (hw1.below.block _ hS.out.lt).trans hS.out
     clear hw1
     go_wp2_with (first
      | ((with_reducible change wpList _ _ _ (⟨some 17, _, _, _, _, _⟩ :: _) _ _); refine wpList_load_row (o := ⟨some 17, _, _, _, _, _⟩) rfl 36 (.tmp 3) rfl (w.heap.size) rfl 36 ((headCells h).toArray) (0, 0) _ hH1.out Tryz.underlying36 rfl hsz.out ?_)
      | (go_at_call 209; refine (right_any h okh.out _).mono ?_; rw [hrh.out]; rintro e w2 ⟨rfl, hbr⟩; have hb2 : Hid (Below w.heap.size w w2) := hb1.out.trans (hbr.mono hb1.out.size); have hH2 : Hid (Blk w2 w.heap.size 36 (headCells h).toArray) := (hbr.block _ hH1.out.lt).trans hH1.out; have hS2 : Hid (Blk w2 (w.heap.size + 1) 57 (cells8 s).toArray) := (hbr.block _ hS1.out.lt).trans hS1.out; clear hbr))
     refine wp_region_class (Class w2) (by kernel_rfl) (by kernel_rfl) (Class.mk_ ((Below.refl _ _).drew)) ?_
     refine wpQuiet_load_row rfl 36 (.tmp 3) rfl w.heap.size rfl 36 ((headCells h).toArray) (0, 0) _ (fun w' hw' => (hw'.below.block _ hH2.out.lt).trans hH2.out) Tryz.underlying36 rfl hsz.out ?_
     (intro K k; go_simp; apply k; clear k K)
     refine wpQuiet_move rfl (.tmp 2) rfl ?_
     (intro K k; go_simp; apply k; clear k K)
     refine wpQuiet_fn (v := .agg (cells8 (signOf h q)).toArray) (args := #[.agg (headCells h).toArray, .slice A k c]) rfl _ _ rfl rfl Tryz.func216 (by kernel_rfl) (by kernel_rfl) (fun w' hw' => (sign_any h okh.out hrh.out q k hk.out hkk.2 A c w' (hB.out.below (hb2.out.trans (hw'.below.mono hb2.out.size)) hB.out.1) (hq.out.below (hb2.out.trans (hw'.below.mono hb2.out.size))) hc hnil.out).mono (fun e w'' ⟨he, hb⟩ => ⟨he, hw'.next hb⟩)) ?_
     (intro K k; go_simp; apply k; clear k K)
     refine wpQuiet_load_row rfl 57 (.tmp 4) rfl (w.heap.size + 1) rfl 57 ((cells8 s).toArray) (0, 0) _ (fun w' hw' => (hw'.below.block _ hS2.out.lt).trans hS2.out) Tryz.underlying57 rfl ssz.out ?_
     (intro K k; go_simp; apply k; clear k K)
     refine wpQuiet_val (v := .bool true) rfl (fun w' hw' => by have hh := hna.out w'; have hh2 := hn2.out w'; go_simp) ?_
     (intro K k; go_simp; apply k; clear k K)
     refine wpQuiet_nil ?_
     intro w3 hw3
     have hb3 : Hid (Below w.heap.size w w3) := hb2.out.trans (hw3.below.mono hb2.out.size)
     go_wp2_with fail
     go_ret
     exact ⟨rfl, hb3.out⟩
   ·have hrh : Hid (rightB h = false) := by show _ = _; simpa using hr
    have hans : Hid (checkAns h s q = 1) := by show _ = _; unfold checkAns; rw [hk.out, if_pos ⟨hkey, hid⟩, if_neg hr]
    rw [hans.out]
    clear hkey hid hr hn hn1 hn0 hse hst
    go_enter Tryz.func128, Tryz.ntmps128
    go_wp2_with fail
    change (Code.region _ _ _).wp _ _ _ ((w.alloc (.cells (headCells h).toArray 36)).alloc (.cells (cells8 s).toArray 57))
    rw [← hW.out]
    refine wp_region_class (Class W) (by kernel_rfl) (by kernel_rfl) (Class.mk_ ((Below.refl _ _).drew)) ?_
    refine wpQuiet_move rfl (.tmp 2) rfl ?_
    (intro K k; go_simp; apply k; clear k K)
    refine wpQuiet_fn (v := .bool true) (args := #[.slice A k c]) rfl _ _ rfl rfl Tryz.func60 (by kernel_rfl) (by kernel_rfl) (fun w' hw' => (isKey_any k A c w').mono (fun e w'' ⟨he, hb⟩ => ⟨by rw [he, hkeyh.out], by rw [hb]; exact hw'⟩)) ?_
    (intro K k; go_simp; apply k; clear k K)
    refine wpQuiet_val (v := .bool false) rfl (fun w' hw' => by go_simp) ?_
    (intro K k; go_simp; apply k; clear k K)
    refine wpQuiet_move rfl (.tmp 9) rfl ?_
    (intro K k; go_simp; apply k; clear k K)
    refine wpQuiet_move rfl (.tmp 2) rfl ?_
    (intro K k; go_simp; apply k; clear k K)
    refine wpQuiet_fn (v := .agg (cells8 (idOf q)).toArray) (args := #[.slice A k c]) rfl _ _ rfl rfl Tryz.func61 (by kernel_rfl) (by kernel_rfl) (fun w' hw' => (id_any q k hk.out A c w' (hB.out.below (hcur.out w' hw') hB.out.1) (hq.out.below (hcur.out w' hw')) hc (by omega) hnil.out).mono (fun e w'' ⟨he, hb⟩ => ⟨he, hw'.next hb⟩)) ?_
    (intro K k; go_simp; apply k; clear k K)
    refine wpQuiet_val (v := .pointer (some ⟨w.heap.size + 1, 0, none⟩)) rfl (fun w' hw' => by go_simp) ?_
    (intro K k; go_simp; apply k; clear k K)
    refine wpQuiet_load_part rfl 23 (.tmp 13) rfl (w.heap.size + 1) (0) rfl (cells8 (s.take 32)) _ (fun w' hw' => hP.out w' hw') Tryz.underlying23 rfl z32.out ?_
    (intro K k; go_simp; apply k; clear k K)
    refine wpQuiet_val (v := .bool false) rfl (fun w' hw' => by have hh := hne.out w'; go_simp) ?_
    (intro K k; go_simp; apply k; clear k K)
    refine wpQuiet_val (v := .bool false) rfl (fun w' hw' => by go_simp) ?_
    (intro K k; go_simp; apply k; clear k K)
    refine wpQuiet_nil ?_
    intro w1 hw1
    have hb1 : Hid (Below w.heap.size w w1) := hcur.out w1 hw1
    have hH1 : Hid (Blk w1 w.heap.size 36 (headCells h).toArray) := (hw1.below.block _ hH.out.lt).trans hH.out
    have hS1 : Hid (Blk w1 (w.heap.size + 1) 57 (cells8 s).toArray) := (hw1.below.block _ hS.out.lt).trans hS.out
    clear hw1
    go_wp2_with (first
     | ((with_reducible change wpList _ _ _ (⟨some 17, _, _, _, _, _⟩ :: _) _ _); refine wpList_load_row (o := ⟨some 17, _, _, _, _, _⟩) rfl 36 (.tmp 3) rfl (w.heap.size) rfl 36 ((headCells h).toArray) (0, 0) _ hH1.out Tryz.underlying36 rfl hsz.out ?_)
     | (go_at_call 209; refine (right_any h okh.out _).mono ?_; rw [hrh.out]; rintro e w2 ⟨rfl, hbr⟩; have hb2 : Hid (Below w.heap.size w w2) := hb1.out.trans (hbr.mono hb1.out.size); have hH2 : Hid (Blk w2 w.heap.size 36 (headCells h).toArray) := (hbr.block _ hH1.out.lt).trans hH1.out; have hS2 : Hid (Blk w2 (w.heap.size + 1) 57 (cells8 s).toArray) := (hbr.block _ hS1.out.lt).trans hS1.out; clear hbr))
    go_ret
    exact ⟨rfl, hb2.out⟩
  ·have hne : Hid (∀ w, (Op.equalIn 10000 23 (.agg (cells8 (idOf q)).toArray) (.agg (cells8 (s.take 32)).toArray)).run Tryz.prog w = .ok false w) := fun w => by rw [hn w, decide_eq_false hid]
   have hans : Hid (checkAns h s q = 160) := by show _ = _; unfold checkAns; rw [if_neg (fun h => hid h.2)]
   rw [hans.out]
   clear hkey hid hn hn1 hn0 hse hst
   go_enter Tryz.func128, Tryz.ntmps128
   go_wp2_with fail
   change (Code.region _ _ _).wp _ _ _ ((w.alloc (.cells (headCells h).toArray 36)).alloc (.cells (cells8 s).toArray 57))
   rw [← hW.out]
   refine wp_region_class (Class W) (by kernel_rfl) (by kernel_rfl) (Class.mk_ ((Below.refl _ _).drew)) ?_
   refine wpQuiet_move rfl (.tmp 2) rfl ?_
   (intro K k; go_simp; apply k; clear k K)
   refine wpQuiet_fn (v := .bool true) (args := #[.slice A k c]) rfl _ _ rfl rfl Tryz.func60 (by kernel_rfl) (by kernel_rfl) (fun w' hw' => (isKey_any k A c w').mono (fun e w'' ⟨he, hb⟩ => ⟨by rw [he, hkeyh.out], by rw [hb]; exact hw'⟩)) ?_
   (intro K k; go_simp; apply k; clear k K)
   refine wpQuiet_val (v := .bool false) rfl (fun w' hw' => by go_simp) ?_
   (intro K k; go_simp; apply k; clear k K)
   refine wpQuiet_move rfl (.tmp 9) rfl ?_
   (intro K k; go_simp; apply k; clear k K)
   refine wpQuiet_move rfl (.tmp 2) rfl ?_
   (intro K k; go_simp; apply k; clear k K)
   refine wpQuiet_fn (v := .agg (cells8 (idOf q)).toArray) (args := #[.slice A k c]) rfl _ _ rfl rfl Tryz.func61 (by kernel_rfl) (by kernel_rfl) (fun w' hw' => (id_any q k hk.out A c w' (hB.out.below (hcur.out w' hw') hB.out.1) (hq.out.below (hcur.out w' hw')) hc (by omega) hnil.out).mono (fun e w'' ⟨he, hb⟩ => ⟨he, hw'.next hb⟩)) ?_
   (intro K k; go_simp; apply k; clear k K)
   refine wpQuiet_val (v := .pointer (some ⟨w.heap.size + 1, 0, none⟩)) rfl (fun w' hw' => by go_simp) ?_
   (intro K k; go_simp; apply k; clear k K)
   refine wpQuiet_load_part rfl 23 (.tmp 13) rfl (w.heap.size + 1) (0) rfl (cells8 (s.take 32)) _ (fun w' hw' => hP.out w' hw') Tryz.underlying23 rfl z32.out ?_
   (intro K k; go_simp; apply k; clear k K)
   refine wpQuiet_val (v := .bool true) rfl (fun w' hw' => by have hh := hne.out w'; go_simp) ?_
   (intro K k; go_simp; apply k; clear k K)
   refine wpQuiet_val (v := .bool true) rfl (fun w' hw' => by go_simp) ?_
   (intro K k; go_simp; apply k; clear k K)
   refine wpQuiet_nil ?_
   intro w1 hw1
   have hb1 : Hid (Below w.heap.size w w1) := hcur.out w1 hw1
   go_wp2_with fail
   go_ret
   exact ⟨rfl, hb1.out⟩
 ·have hans : Hid (checkAns h s q = 160) := by show _ = _; unfold checkAns; rw [hk.out, if_neg (fun h => hkey h.1)]
  rw [hans.out]
  have hkeyh : Hid (keyB k = false) := by show _ = _; simpa using hkey
  clear hkey hn hn1 hn0 hse hst
  go_enter Tryz.func128, Tryz.ntmps128
  go_wp2_with fail
  change (Code.region _ _ _).wp _ _ _ ((w.alloc (.cells (headCells h).toArray 36)).alloc (.cells (cells8 s).toArray 57))
  rw [← hW.out]
  refine wp_region_class (Class W) (by kernel_rfl) (by kernel_rfl) (Class.mk_ ((Below.refl _ _).drew)) ?_
  refine wpQuiet_move rfl (.tmp 2) rfl ?_
  (intro K k; go_simp; apply k; clear k K)
  refine wpQuiet_fn (v := .bool false) (args := #[.slice A k c]) rfl _ _ rfl rfl Tryz.func60 (by kernel_rfl) (by kernel_rfl) (fun w' hw' => (isKey_any k A c w').mono (fun e w'' ⟨he, hb⟩ => ⟨by rw [he, hkeyh.out], by rw [hb]; exact hw'⟩)) ?_
  (intro K k; go_simp; apply k; clear k K)
  refine wpQuiet_val (v := .bool true) rfl (fun w' hw' => by go_simp) ?_
  (intro K k; go_simp; apply k; clear k K)
  refine wpQuiet_move rfl (.tmp 9) rfl ?_
  (intro K k; go_simp; apply k; clear k K)
  refine wpQuiet_skip_ rfl ?_
  (intro K k; go_simp; apply k; clear k K)
  refine wpQuiet_skip_ rfl ?_
  (intro K k; go_simp; apply k; clear k K)
  refine wpQuiet_skip_ rfl ?_
  (intro K k; go_simp; apply k; clear k K)
  refine wpQuiet_skip_ rfl ?_
  (intro K k; go_simp; apply k; clear k K)
  refine wpQuiet_skip_ rfl ?_
  (intro K k; go_simp; apply k; clear k K)
  refine wpQuiet_val (v := .bool true) rfl (fun w' hw' => by go_simp) ?_
  (intro K k; go_simp; apply k; clear k K)
  refine wpQuiet_nil ?_
  intro w1 hw1
  have hb1 : Hid (Below w.heap.size w w1) := hcur.out w1 hw1
  go_wp2_with fail
  go_ret
  exact ⟨rfl, hb1.out⟩
end Go.Proofs.YtgldkfaiofkhbaaGreatDoor.Check
