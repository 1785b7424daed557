/-
  head.sign, walked. (Printed by gen_headsign.py.)
-/
import Derived.Test.YtngieimjlkpkaaaDoorSign
import Derived.Test.YtngieimjlkpkaaaDoorHeadLaid
import Derived.Test.YtngieimjlkpkaaaDoorHeld
import Derived.Test.YtngieimjlkpkaaaDoorAppend
namespace Go.Proofs.YtngieimjlkpkaaaDoor.HeadSign
open Go Go.RowKit Go.Proofs.YtngieimjlkpkaaaDoor Go.Proofs.YtngieimjlkpkaaaDoor.Mem Go.Proofs.YtngieimjlkpkaaaDoor.Sha Go.Proofs.YtngieimjlkpkaaaDoor.Bytes Go.Proofs.YtngieimjlkpkaaaDoor.HashMem Go.Proofs.YtngieimjlkpkaaaDoor.Append Go.Proofs.YtngieimjlkpkaaaDoor.DigestMem Go.Proofs.YtngieimjlkpkaaaDoor.Digest Go.Proofs.YtngieimjlkpkaaaDoor.Mac Go.Proofs.YtngieimjlkpkaaaDoor.HeadMem Go.Proofs.YtngieimjlkpkaaaDoor.HeadID Go.Proofs.YtngieimjlkpkaaaDoor.HeadEnc Go.Proofs.YtngieimjlkpkaaaDoor.Sign Go.Proofs.YtngieimjlkpkaaaDoor.Held

theorem exec_build {P : Program} {w : World} {o : Oper} {ρ : Operand → Value} (ty : TypeId) (parts : Array (Nat × Operand)) (ho : o.op = .build ty parts) (vals : Array (Nat × Value)) (hp : (parts.map fun (i, x) => (i, ρ x)) = vals) (v : Value) (h : (Instr.build ty vals).run P w = .ok v w) : (execOp ρ o).run P w = .ok (.value v) w := by
  unfold execOp
  simp only [ho, hp, Sem.run_bind, Sem.run_pure, Result.andThen_ok, h]

set_option maxRecDepth 100000 in
set_option maxHeartbeats 1000000 in
theorem sign_any (h : HeadD) (ok : h.Ok) (hr : rightB h = true) (q : Text) (k : Nat) (hk : q.length = k) (hk64 : k ≤ 64) (A : Option Addr) (c : Nat) (w : World) (hB : Base w) (hq : Reads w 1 A k (cells8 q)) (hc : k ≤ c) (hnil : A = none → k = 0 ∧ c = 0) :
    Calls Tryd.prog 57 #[.agg (headCells h).toArray, .slice A k c] w fun e w' => e = .returned (.agg (cells8 (signOf h q)).toArray) ∧ Below w.heap.size w w' := by
  obtain ⟨w0, hw0⟩ : ∃ w0, Hid (w0 = (w.alloc (.cells (headCells h).toArray 49)).alloc (.cells Z64 51)) := ⟨_, rfl⟩
  have hH : Hid (Blk w0 w.heap.size 49 (headCells h).toArray) := by show Blk _ _ _ _; rw [hw0.out]; exact heap_alloc2_old w _ _
  have hS : Hid (Blk w0 (w.heap.size + 1) 51 Z64) := by show Blk _ _ _ _; rw [hw0.out]; exact heap_alloc2_new w _ _
  have hbw : Hid (Below w.heap.size w w0) := by show Below _ _ _; rw [hw0.out]; exact ((Below.refl _ w).alloc (Nat.le_refl _) _).alloc (by simp) _
  have hz1 : Hid (w.heap.size + 1 ≤ w0.heap.size) := Nat.le_of_lt hS.out.lt
  have hsz : Hid ((Tryd.prog.info? 49).map (·.size) = some (headCells h).toArray.size) := by show _ = _; rw [List.size_toArray, headCells_len ok]; exact size98
  have hlen := Lib.hid (headBytes_len ok)
  have z9 := Lib.hid (sign_size _ (signOf_len h q))
  replace ok := Lib.hid ok
  replace hr := Lib.hid hr
  replace hk := Lib.hid hk
  replace hB := Lib.hid hB
  replace hq := Lib.hid hq
  replace hnil := Lib.hid hnil
  go_enter Tryd.func57, Tryd.ntmps57
  go_wp2_with fail
  change (Code.region _ _ _).wp _ _ _ ((w.alloc (.cells (headCells h).toArray 49)).alloc (.cells Z64 51))
  rw [← hw0.out]
  clear hw0
  have s0 : Hid (Below w0.heap.size w0 w0.drew) := (Below.refl _ _).drew
  refine held_start (fun w' => Below (w.heap.size + 1) w0 w') 8 rfl (by kernel_rfl) ?_
  refine held_take (i := 0) (v := .slice A k c) rfl (by kernel_rfl) (by kernel_rfl) (by kernel_rfl) (fun _ _ _ h => h) (s0.out.mono hz1.out) (by rfl) (fun w' hw' => by go_simp) ?_
  (intro K hK; go_simp; refine hK _ ?_; clear hK K)
  refine held_take (i := 2) (v := .slice A k c) rfl (by kernel_rfl) (by kernel_rfl) (by kernel_rfl) (fun _ _ _ h => h) (s0.out.mono hz1.out) (by rfl) (fun w' hw' => by go_simp) ?_
  (intro K hK; go_simp; refine hK _ ?_; clear hK K)
  refine held_take (i := 3) (v := .agg ((headCells h).toArray)) rfl (by kernel_rfl) (by kernel_rfl) (by kernel_rfl) (fun _ _ _ h => h) (s0.out.mono hz1.out) (by rfl) (fun w' hw' => exec_row 49 (.tmp 2) rfl (w.heap.size) rfl 49 ((headCells h).toArray) (0, 0) _ ((hw'.block _ (by omega)).trans hH.out) Tryd.underlying49 rfl hsz.out) ?_
  (intro K hK; go_simp; refine hK _ ?_; clear hK K)
  refine held_only (i := 1) rfl (by kernel_rfl) (by rfl) (fun K hK => ?_)
  refine wp_fn (R := fun v w'' => v = .agg (cells8 (idOf q)).toArray ∧ Below w0.heap.size w0 w'') (args := #[.slice A k c]) _ _ rfl rfl Tryd.func14 (by kernel_rfl) (by kernel_rfl) ((id_any q k hk.out A c w0.drew (hB.out.below (hbw.out.trans (s0.out.mono hbw.out.size)) hB.out.1) (hq.out.below (hbw.out.trans (s0.out.mono hbw.out.size))) hc (by omega) hnil.out).mono fun e w'' ⟨he, hb⟩ => ⟨_, he, rfl, s0.out.trans (hb.mono s0.out.size)⟩) ?_
  rintro v1 w1 ⟨rfl, k1⟩
  replace k1 := Lib.hid k1
  go_simp
  refine hK _ _ (k1.out.mono hz1.out) ?_
  clear hK K
  refine held_only (i := 4) rfl (by kernel_rfl) (by rfl) (fun K hK => ?_)
  refine wp_fn (R := fun v w'' => ∃ A1 c1, v = .slice A1 113 c1 ∧ 113 ≤ c1 ∧ Reads w'' 1 A1 113 (cells8 (headBytes h)) ∧ Below w0.heap.size w0 w'') (args := #[.agg (headCells h).toArray]) _ _ rfl rfl Tryd.func77 (by kernel_rfl) (by kernel_rfl) ((laid_any h ok.out hr.out w1).mono fun e w'' ⟨v, he, hb, ho⟩ => by obtain ⟨A1, c1, rfl, g1, _, _, g2, _⟩ := Own.reads ho; exact ⟨_, he, A1, c1, rfl, g1, g2, k1.out.trans (hb.mono k1.out.size)⟩) ?_
  rintro v2 w2 ⟨A1, c1, rfl, g1, g2, k2⟩
  replace k2 := Lib.hid k2
  replace g2 := Lib.hid g2
  go_simp
  refine hK _ _ (k2.out.mono hz1.out) ?_
  clear hK K
  refine held_only (i := 5) rfl (by kernel_rfl) (by rfl) (fun K hK => ?_)
  refine wp_fn (R := fun v w'' => v = .agg (cells8 (macOf q (headBytes h))).toArray ∧ Below w0.heap.size w0 w'') (args := #[.slice A k c, .slice A1 113 c1]) _ _ rfl rfl Tryd.func76 (by kernel_rfl) (by kernel_rfl) ((mac_any q (headBytes h) k 113 hk.out hlen.out hk64 A A1 c c1 w2 (hB.out.below (hbw.out.trans (k2.out.mono hbw.out.size)) hB.out.1) (by omega) (hq.out.below (hbw.out.trans (k2.out.mono hbw.out.size))) g2.out g1).mono fun e w'' ⟨he, hb⟩ => ⟨_, he, rfl, k2.out.trans (hb.mono k2.out.size)⟩) ?_
  rintro v3 w3 ⟨rfl, k3⟩
  replace k3 := Lib.hid k3
  go_simp
  refine hK _ _ (k3.out.mono hz1.out) ?_
  clear hK K
  refine held_take (i := 6) (v := .agg (cells8 (signOf h q)).toArray) rfl (by kernel_rfl) (by kernel_rfl) (by kernel_rfl) (fun _ _ _ h => h) (k3.out.mono hz1.out) (by rfl) (fun w' hw' => exec_build 51 #[(0, .tmp 6), (1, .tmp 10)] rfl #[(0, .agg (cells8 (idOf q)).toArray), (1, .agg (cells8 (macOf q (headBytes h))).toArray)] (by simp; exact ⟨rfl, rfl⟩) _ (run_sign h q w')) ?_
  (intro K hK; go_simp; refine hK _ ?_; clear hK K)
  refine held_only (i := 7) rfl (by kernel_rfl) (by rfl) (fun K hK => ?_)
  refine wp_store_whole 51 (.tmp 4) (.tmp 11) rfl (w.heap.size + 1) (cells8 (signOf h q)).toArray rfl rfl 51 Z64 ((k3.out.block _ hS.out.lt).trans hS.out) (sign_size _ (signOf_len h q)) (sign_zero _ (signOf_len h q)) (sign_one _) ?_
  intro w9 B9 k9
  have b9 : Hid (Below w.heap.size w w9) := hbw.out.trans ((k3.out.mono hbw.out.size).trans (Kept.below_of k9 (by omega) (by have := hbw.out.size; have := k3.out.size; omega)))
  go_simp
  refine hK _ _ ?_ ?_
  · exact ((k3.out.mono hz1.out).trans (Kept.below_of k9 (by omega) (by have := k3.out.size; have := hz1.out; omega)))
  refine held_end (by kernel_rfl) ?_
  go_wp2_with fail
  refine bodyPost_ret (results_cell_row rfl _ _ (w.heap.size + 1) 51 (cells8 (signOf h q)).toArray (0, 0) _ rfl B9 Tryd.underlying51 rfl z9.out) rfl ?_
  exact ⟨rfl, b9.out⟩
end Go.Proofs.YtngieimjlkpkaaaDoor.HeadSign
