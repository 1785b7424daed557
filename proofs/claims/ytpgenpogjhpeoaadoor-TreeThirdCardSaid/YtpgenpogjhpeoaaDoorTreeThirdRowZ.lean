
import Derived.Test.YtpgenpogjhpeoaaDoorCards
import Derived.Test.YtpgenpogjhpeoaaDoorTie
import Derived.Test.YtpgenpogjhpeoaaDoorZ9
import Derived.Test.YtpgenpogjhpeoaaDoorZ32
import Derived.ProofKit
import Derived.OpenShut
import Derived.Deep.DeepHandedRow
import Derived.LaidMore
import Derived.Lib.LaidTab
import Derived.Stop.LaidErr
namespace Go.Proofs.YtpgenpogjhpeoaaDoor.treeThirdRow
open Go Go.ChangeShapes Go.WideShapes Go.ChangeAt Go.RowKit Go.Proofs.YtpgenpogjhpeoaaDoor Go.Proofs.YtpgenpogjhpeoaaDoor.Mem Go.Proofs.YtpgenpogjhpeoaaDoor.Row Go.Proofs.YtpgenpogjhpeoaaDoor.Sha Go.Proofs.YtpgenpogjhpeoaaDoor.Bytes Go.Proofs.YtpgenpogjhpeoaaDoor.HashMem Go.Proofs.YtpgenpogjhpeoaaDoor.TreeMem
set_option linter.unusedVariables false

theorem own : ownKnob Tryd.prog.godebug = none := by kernel_rfl
theorem laidOut : laidOutB Tryd.prog = true := by kernel_rfl
theorem gTab : Tryd.prog.globalNamed "docket/digest.round" = some 0 := by kernel_rfl
theorem gTabType : (Tryd.prog.globals[0]?).map (·.type) = some 219 := by kernel_rfl
theorem cells64 : Tryd.prog.cellsOf 219 = 64 := by kernel_rfl
theorem cells1 : Tryd.prog.cellsOf 126 = 1 := by kernel_rfl
theorem base {W : World} (h : laidMetH Tryd.prog Rows.treeThirdRow.laid W) : Base W := by
  have h2 : laidMet Tryd.prog Rows.treeThirdRow.laid W := by
    rw [MakeChecks.laidMetH_plain _ _ _ (by kernel_rfl)] at h
    exact h
  have h3 : Lib.TabIs Tryd.prog W "docket/digest.round" .u32 (Ktab.map Int.ofNat) := Lib.tabIs_of_head (rest := []) gTab gTabType Tryd.underlying219 Tryd.underlying126 cells1 cells64 h2
  have hc : ∀ j, j < 64 → W.cell? ⟨0, j, none⟩ = some (.int .u32 (u (K j))) := fun j hj => by
    have := h3.cell gTab j (by simpa [Ktab] using hj)
    rw [this]
    have hall : ∀ i, i < 64 → ((Ktab.map Int.ofNat).getD i 0) = u (K i) := by decide +kernel
    rw [← hall j hj]
  exact ⟨World.block_lt_of_cell? W ⟨0, 0, none⟩ (hc 0 (by omega)), hc⟩


set_option maxRecDepth 100000 in
theorem contract (H : Type) (enc : TypeId × Value → H) (W : World) (base0 : Nat) (args : Array Value) (ds gs : List (DataW H)) (before : List MemPlace)
    (hval : ∀ (j : Nat) t v, Tryd.f11.params[j]? = some t → args[j]? = some v → Value.okWide Tryd.prog W .any base0 t v)
    (hW : DataW.Whole enc Tryd.prog Tryd.f11.params.toList Rows.treeThirdSpec.vars false W args.toList ds gs before)
    (hsz : (DataW.weightsEach Tryd.prog Tryd.f11.params.toList ds).all (· ≤ reachBytes) = true)
    (hL : laidMetH Tryd.prog Rows.treeThirdRow.laid W)
    : Calls Tryd.prog 11 args W fun e W' => ∃ v, e = .returned v ∧ Rows.treeThirdSpec.post enc Tryd.prog Tryd.f11 false true false false W args v W' := by
  have hW' := hW
  obtain ⟨p, q, hA0, hV, rfl, hfz, hnd⟩ := hW
  have hlt : ∀ x ∈ p, x.block < W.heap.size := fun x hx => hW'.lt x (by simp [hx])
  have hA : DataW.TrodAll enc Tryd.prog W 0 (fun _ => true) true Tryd.f11.params.toList args.toList ds p := hA0
  rw [Tryd.params11] at hA hval hsz
  obtain ⟨v0, vs0, d0, ds0, p0, q0, hargs, rfl, rfl, h0, r0⟩ := trodAll_cons hA
  obtain ⟨v1, vs1, d1, ds1, p1, q1, rfl, rfl, rfl, h1, r1⟩ := trodAll_cons r0
  obtain ⟨v2, vs2, d2, ds2, p2, q2, rfl, rfl, rfl, h2, r2⟩ := trodAll_cons r1
  obtain ⟨v3, vs3, d3, ds3, p3, q3, rfl, rfl, rfl, h3, r3⟩ := trodAll_cons r2
  obtain ⟨v4, vs4, d4, ds4, p4, q4, rfl, rfl, rfl, h4, r4⟩ := trodAll_cons r3
  obtain ⟨v5, vs5, d5, ds5, p5, q5, rfl, rfl, rfl, h5, r5⟩ := trodAll_cons r4
  obtain ⟨v6, vs6, d6, ds6, p6, q6, rfl, rfl, rfl, h6, r6⟩ := trodAll_cons r5
  obtain ⟨v7, vs7, d7, ds7, p7, q7, rfl, rfl, rfl, h7, r7⟩ := trodAll_cons r6
  obtain ⟨v8, vs8, d8, ds8, p8, q8, rfl, rfl, rfl, h8, r8⟩ := trodAll_cons r7
  obtain ⟨v9, vs9, d9, ds9, p9, q9, rfl, rfl, rfl, h9, r9⟩ := trodAll_cons r8
  obtain ⟨v10, vs10, d10, ds10, p10, q10, rfl, rfl, rfl, h10, r10⟩ := trodAll_cons r9
  obtain ⟨rfl, rfl, rfl⟩ := trodAll_nil r10
  obtain rfl : args = #[v0, v1, v2, v3, v4, v5, v6, v7, v8, v9, v10] := by cases args; simp_all
  obtain ⟨rfl, rfl⟩ := trodVars_none hV
  obtain ⟨a0, rfl, rfl, rfl, w0⟩ := open_int Tryd.underlying3 (hval 0 3 v0 rfl rfl) h0
  have b0 : -9223372036854775808 ≤ a0 ∧ a0 ≤ 9223372036854775807 := by simpa [Lit.wf, IntKind.min, IntKind.max, IntKind.signed, IntKind.bits] using w0
  obtain ⟨a1, rfl, rfl, rfl, w1⟩ := open_int Tryd.underlying3 (hval 1 3 v1 rfl rfl) h1
  have b1 : -9223372036854775808 ≤ a1 ∧ a1 ≤ 9223372036854775807 := by simpa [Lit.wf, IntKind.min, IntKind.max, IntKind.signed, IntKind.bits] using w1
  obtain ⟨a2, rfl, rfl, rfl, w2⟩ := open_int Tryd.underlying3 (hval 2 3 v2 rfl rfl) h2
  have b2 : -9223372036854775808 ≤ a2 ∧ a2 ≤ 9223372036854775807 := by simpa [Lit.wf, IntKind.min, IntKind.max, IntKind.signed, IntKind.bits] using w2
  obtain ⟨a3, rfl, rfl, rfl, w3⟩ := open_int Tryd.underlying3 (hval 3 3 v3 rfl rfl) h3
  have b3 : -9223372036854775808 ≤ a3 ∧ a3 ≤ 9223372036854775807 := by simpa [Lit.wf, IntKind.min, IntKind.max, IntKind.signed, IntKind.bits] using w3
  obtain ⟨q4, rfl, hq4⟩ := open_dig Tryd.underlying23 Tryd.underlying5 (by kernel_rfl) (by kernel_rfl) (hval 4 23 v4 rfl rfl) h4
  obtain ⟨q5, rfl, hq5⟩ := open_dig Tryd.underlying23 Tryd.underlying5 (by kernel_rfl) (by kernel_rfl) (hval 5 23 v5 rfl rfl) h5
  obtain ⟨A6, n6, c6, xs6, rfl, hn6, hc6, hnil6, hf6, hr6, hbulk6⟩ := open_flats (ks := reps 32 [.int .u8]) (N := 3) Tryd.underlying29 (by kernel_rfl) (by kernel_rfl) (hval 6 29 v6 rfl rfl) h6
  have k6 := hbulk6.le hsz (j := 6) (t := 29) rfl rfl Tryd.underlying29 32 (by kernel_rfl)
  obtain ⟨qs6, hq6, hl6, rfl⟩ := fits_digs n6 xs6 hf6
  obtain ⟨q7, rfl, hq7⟩ := open_dig Tryd.underlying23 Tryd.underlying5 (by kernel_rfl) (by kernel_rfl) (hval 7 23 v7 rfl rfl) h7
  obtain ⟨A8, n8, c8, xs8, rfl, hn8, hc8, hnil8, hf8, hr8, hbulk8⟩ := open_flats (ks := reps 32 [.int .u8]) (N := 3) Tryd.underlying29 (by kernel_rfl) (by kernel_rfl) (hval 8 29 v8 rfl rfl) h8
  have k8 := hbulk8.le hsz (j := 8) (t := 29) rfl rfl Tryd.underlying29 32 (by kernel_rfl)
  obtain ⟨qs8, hq8, hl8, rfl⟩ := fits_digs n8 xs8 hf8
  obtain ⟨q9, rfl, hq9⟩ := open_dig Tryd.underlying23 Tryd.underlying5 (by kernel_rfl) (by kernel_rfl) (hval 9 23 v9 rfl rfl) h9
  obtain ⟨A10, n10, c10, xs10, rfl, hn10, hc10, hnil10, hf10, hr10, hbulk10⟩ := open_flats (ks := reps 32 [.int .u8]) (N := 3) Tryd.underlying29 (by kernel_rfl) (by kernel_rfl) (hval 10 29 v10 rfl rfl) h10
  have k10 := hbulk10.le hsz (j := 10) (t := 29) rfl rfl Tryd.underlying29 32 (by kernel_rfl)
  obtain ⟨qs10, hq10, hl10, rfl⟩ := fits_digs n10 xs10 hf10
  have hBase := base hL

  refine (TreeThird.treeThird_any a0 a1 a2 a3 (by omega) q4 q5 q7 q9 hq4 hq5 hq7 hq9 qs6 qs8 qs10 n6 n8 n10 A6 A8 A10 c6 c8 c10 (by omega) (by omega) W hBase ⟨hq6, hl6, hr6⟩ ⟨hq8, hl8, hr8⟩ ⟨hq10, hl10, hr10⟩).mono fun e W' ⟨he, bel⟩ => ?_
  subst he
  exact ⟨_, rfl, _, _, _, [], _, [], hW', trodAll_mk1 (shut_bool Tryd.underlying4 _), carryAll laidOut bel (by kernel_rfl) hA0 hlt, rfl, bel.frame _, fun h => by cases h⟩

theorem laid_met (os : Os) (args : Array Value) : laidMetH Tryd.prog Rows.treeThirdRow.laid ((World.doorLaid Tryd.prog 24 os).forCall (fun _ _ => 0) ⟨#[], args, []⟩).memory :=
  laidMetH_of_parts3 (fuel := 8) (laidMet_of_run' 8 (by kernel_rfl) (by kernel_rfl)) (by kernel_rfl) (by kernel_rfl)
theorem reads (os : Os) {H : Type} (enc : TypeId × Value → H) : ∃ places, DataW.whole enc Tryd.prog ((World.doorLaid Tryd.prog 24 os).forCall (fun _ _ => 0) ⟨#[], #[.int .i64 0, .int .i64 0, .int .i64 0, .int .i64 0, .agg (Array.replicate 32 (.int .u8 0)), .agg (Array.replicate 32 (.int .u8 0)), .slice none 0 0, .agg (Array.replicate 32 (.int .u8 0)), .slice none 0 0, .agg (Array.replicate 32 (.int .u8 0)), .slice none 0 0], []⟩).memory Tryd.f11.params.toList Rows.treeThirdSpec.vars false (#[.int .i64 0, .int .i64 0, .int .i64 0, .int .i64 0, .agg (Array.replicate 32 (.int .u8 0)), .agg (Array.replicate 32 (.int .u8 0)), .slice none 0 0, .agg (Array.replicate 32 (.int .u8 0)), .slice none 0 0, .agg (Array.replicate 32 (.int .u8 0)), .slice none 0 0] : Array Value).toList 8 = some ([.lit (.int .i64 0), .lit (.int .i64 0), .lit (.int .i64 0), .lit (.int .i64 0), .agg (List.replicate 32 (.lit (.int .u8 0))), .agg (List.replicate 32 (.lit (.int .u8 0))), .nil, .agg (List.replicate 32 (.lit (.int .u8 0))), .nil, .agg (List.replicate 32 (.lit (.int .u8 0))), .nil], [], places) :=
  ⟨[], by kernel_rfl⟩

set_option maxRecDepth 100000 in
theorem lifted (os : Os) (started : os.Started) (H : Type) (enc : TypeId × Value → H) (F : Stop.Interp) :
    ReturnsInHanded {} Tryd.checked os 11 .any ((OpenSpec.ofChange Rows.treeThirdSpec).preRow enc Tryd.prog Tryd.f11 Rows.treeThirdRow.domain false Rows.treeThirdRow.laid) (((OpenSpec.ofChange Rows.treeThirdSpec).at F).post enc Tryd.prog Tryd.f11 false true false false) := by
  obtain ⟨places, hx⟩ := reads os enc
  refine returnsInHanded_of_row (C := Tryd.checked) (s := OpenSpec.ofChange Rows.treeThirdSpec) own started (by kernel_rfl) Tryd.func11
    (witness_row_at (enc := enc) (C := Tryd.checked) false (World.doorLaid Tryd.prog 24 os) #[.int .i64 0, .int .i64 0, .int .i64 0, .int .i64 0, .agg (Array.replicate 32 (.int .u8 0)), .agg (Array.replicate 32 (.int .u8 0)), .slice none 0 0, .agg (Array.replicate 32 (.int .u8 0)), .slice none 0 0, .agg (Array.replicate 32 (.int .u8 0)), .slice none 0 0] rfl (by kernel_rfl) (by kernel_rfl) (by kernel_rfl)
      (OpenSpec.preRow_of_cond 8 hx (by kernel_rfl) (fun k hk => by cases hk) (by kernel_rfl) (laid_met os _))) ?_
  intro W base args ds gs before hval hW _ hcond hsz hL _ _
  have hgs : gs = [] := by obtain ⟨_, _, _, hV, _⟩ := hW; exact (trodVars_none hV).1
  subst hgs
  have hsz' : (DataW.weightsEach Tryd.prog Tryd.f11.params.toList ds).all (· ≤ reachBytes) = true := by
    rw [show (OpenSpec.ofChange Rows.treeThirdSpec).bare.plain.varTypes Tryd.checked.prog = [] from rfl, List.append_nil, List.append_nil] at hsz
    exact hsz
  exact contract H enc W base args ds [] before hval hW hsz' hL

theorem said : Rows.TreeThirdSaid :=
  OpenClaim.holds_of_cond 11 Tryd.f11 rfl rfl rfl rfl rfl rfl rfl ⟨rfl, rfl, rfl, rfl, rfl⟩ rfl rfl rfl rfl rfl (by kernel_rfl) Tryd.func11 (by kernel_rfl)
    (of_decide_eq_true (by kernel_rfl)) (by unfold Func.isWrapper; first | (rw [if_pos (by decide +kernel)]; kernel_rfl) | (rw [if_neg (by decide +kernel)]; exact ⟨rfl, rfl⟩))
    (fun os started H enc _ F => by rw [OpenClaim.pre_eq_preRow]; exact lifted os started H enc F)

theorem plain (f : FuncId) (fn : Func) (hf : Tryd.pinned.checked.prog.funcNamed "docket/docketlaw6.TreeThird" = some f) (hfn : Tryd.pinned.checked.prog.funcs[f]? = some fn) :
    false = Tryd.pinned.checked.prog.looks [] ∧ ∀ (j : Nat) t, fn.params[j]? = some t → Tryd.pinned.checked.prog.wantsStandIn t = false := by
  obtain rfl : f = 11 := Option.some.inj ((show Tryd.prog.funcNamed "docket/docketlaw6.TreeThird" = some 11 by kernel_rfl).symm.trans hf) |>.symm
  obtain rfl : fn = Tryd.f11 := (Option.some.inj (Tryd.func11.symm.trans hfn)).symm
  refine ⟨by kernel_rfl, fun j t ht => ?_⟩
  rw [Tryd.params11] at ht
  have hm : t ∈ ([3, 3, 3, 3, 23, 23, 29, 23, 29, 23, 29] : List TypeId) := by simpa using Array.mem_of_getElem? ht
  have hall : (([3, 3, 3, 3, 23, 23, 29, 23, 29, 23, 29] : List TypeId).all fun u => !Tryd.prog.wantsStandIn u) = true := by kernel_rfl
  exact (show Tryd.prog.wantsStandIn t = false by simpa using List.all_eq_true.1 hall t hm)

theorem card : Rows.TreeThirdCardSaid :=
  Claim7.holds_tied_plain_at .later [] _ _ _ _ said (fun _ h => by cases h) (by kernel_rfl) (fun _ h => by cases h) treeThird_row_tie rfl ⟨rfl, rfl⟩ (by kernel_rfl) rfl plain (by kernel_rfl)
#print axioms card
end Go.Proofs.YtpgenpogjhpeoaaDoor.treeThirdRow
