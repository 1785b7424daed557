
import Derived.Test.YtgldkfaiofkhbaaGreatDoorCards
import Derived.Test.YtgldkfaiofkhbaaGreatDoorTie
import Derived.Test.YtgldkfaiofkhbaaGreatDoorZ5
import Derived.Test.YtgldkfaiofkhbaaGreatDoorZ48
import Derived.Test.YtgldkfaiofkhbaaGreatDoorZ39
import Derived.Test.YtgldkfaiofkhbaaGreatDoorZ38
import Derived.Test.YtgldkfaiofkhbaaGreatDoorZ7
import Derived.ProofKit
import Derived.OpenShut
import Derived.Deep.DeepHandedRow
import Derived.LaidMore
import Derived.Lib.LaidTab
import Derived.Stop.LaidErr
namespace Go.Proofs.YtgldkfaiofkhbaaGreatDoor.auditAgreeRow
open Go Go.ChangeShapes Go.WideShapes Go.ChangeAt Go.RowKit Go.Proofs.YtgldkfaiofkhbaaGreatDoor Mem Row Sha Bytes HashMem Row2 RowOffers RowInts RowInclB
set_option linter.unusedVariables false

theorem own : ownKnob Tryz.prog.godebug = none := by kernel_rfl
theorem laidOut : laidOutB Tryz.prog = true := by kernel_rfl
theorem gTab : Tryz.prog.globalNamed "docket/digest.round" = some 1 := by kernel_rfl
theorem gTabType : (Tryz.prog.globals[1]?).map (·.type) = some 389 := by kernel_rfl
theorem cells64 : Tryz.prog.cellsOf 389 = 64 := by kernel_rfl
theorem cells1 : Tryz.prog.cellsOf 266 = 1 := by kernel_rfl
theorem base {W : World} (h : laidMetH Tryz.prog Rows.auditAgreeRow.laid W) : Base W := by
 have h2 : laidMet Tryz.prog Rows.auditAgreeRow.laid W := by
  rw [MakeChecks.laidMetH_plain _ _ _ (by kernel_rfl)] at h
  exact h
 have h3 : Lib.TabIs Tryz.prog W "docket/digest.round" .u32 (Ktab.map Int.ofNat) := Lib.tabIs_of_head (rest := []) gTab gTabType Tryz.underlying389 Tryz.underlying266 cells1 cells64 h2
 have hc : ∀ j, j < 64 → W.cell? ⟨1, j, none⟩ = some (.int .u32 (u (K j))) := fun j hj => by
  have := h3.cell gTab j (by simpa [Ktab] using hj)
  rw [this]
  have hall : ∀ i, i < 64 → ((Ktab.map Int.ofNat).getD i 0) = u (K i) := by decide +kernel
  rw [← hall j hj]
 exact ⟨World.block_lt_of_cell? W ⟨1, 0, none⟩ (hc 0 (by omega)), hc⟩


set_option maxRecDepth 100000 in
set_option maxHeartbeats 2000000 in
theorem contract (H : Type) (enc : TypeId × Value → H) (W : World) (base0 : Nat) (args : Array Value) (ds gs : List (DataW H)) (before : List MemPlace)
  (hval : ∀ (j : Nat) t v, Tryz.f4.params[j]? = some t → args[j]? = some v → Value.okWide Tryz.prog W .any base0 t v)
  (hW : DataW.Whole enc Tryz.prog Tryz.f4.params.toList Rows.auditAgreeSpec.vars false W args.toList ds gs before)
  (hsz : (DataW.weightsEach Tryz.prog Tryz.f4.params.toList ds).all (· ≤ reachBytes) = true)
  (hL : laidMetH Tryz.prog Rows.auditAgreeRow.laid W)
  : Calls Tryz.prog 4 args W fun e W' => ∃ v, e = .returned v ∧ Rows.auditAgreeSpec.post enc Tryz.prog Tryz.f4 false true false false W args v W' := by
 have hW' := hW
 obtain ⟨p, q, hA0, hV, rfl, hfz, hnd⟩ := hW
 have hlt : ∀ x ∈ p, x.block < W.heap.size := fun x hx => hW'.lt x (by simp [hx])
 have hA : DataW.TrodAll enc Tryz.prog W 0 (fun _ => true) true Tryz.f4.params.toList args.toList ds p := hA0
 rw [Tryz.params4] at hA hval hsz
 obtain ⟨v0, vs0, d0, ds0, p0, q0, hargs, rfl, rfl, h0, r0⟩ := trodAll_cons hA
 obtain ⟨v1, vs1, d1, ds1, p1, q1, rfl, rfl, rfl, h1, r1⟩ := trodAll_cons r0
 obtain ⟨v2, vs2, d2, ds2, p2, q2, rfl, rfl, rfl, h2, r2⟩ := trodAll_cons r1
 obtain ⟨v3, vs3, d3, ds3, p3, q3, rfl, rfl, rfl, h3, r3⟩ := trodAll_cons r2
 obtain ⟨v4, vs4, d4, ds4, p4, q4, rfl, rfl, rfl, h4, r4⟩ := trodAll_cons r3
 obtain ⟨v5, vs5, d5, ds5, p5, q5, rfl, rfl, rfl, h5, r5⟩ := trodAll_cons r4
 obtain ⟨v6, vs6, d6, ds6, p6, q6, rfl, rfl, rfl, h6, r6⟩ := trodAll_cons r5
 obtain ⟨v7, vs7, d7, ds7, p7, q7, rfl, rfl, rfl, h7, r7⟩ := trodAll_cons r6
 obtain ⟨v8, vs8, d8, ds8, p8, q8, rfl, rfl, rfl, h8, r8⟩ := trodAll_cons r7
 obtain ⟨rfl, rfl, rfl⟩ := trodAll_nil r8
 obtain rfl : args = #[v0, v1, v2, v3, v4, v5, v6, v7, v8] := by cases args; simp_all
 obtain ⟨rfl, rfl⟩ := trodVars_none hV
 obtain ⟨a0, rfl, rfl, rfl, w0⟩ := open_int Tryz.underlying3 (hval 0 3 v0 rfl rfl) h0
 have b0 : -9223372036854775808 ≤ a0 ∧ a0 ≤ 9223372036854775807 := by simpa [Lit.wf, IntKind.min, IntKind.max, IntKind.signed, IntKind.bits] using w0
 obtain ⟨q1, rfl, hq1⟩ := open_dig Tryz.underlying23 Tryz.underlying5 (by kernel_rfl) (by kernel_rfl) (hval 1 23 v1 rfl rfl) h1
 obtain ⟨A2, n2, c2, es2, rfl, hq2, hn2, hc2, hnil2, hp2, hsh2, hbulk2⟩ := open_texts Tryz.underlying24 Tryz.underlying27 Tryz.underlying5 (by kernel_rfl) (by kernel_rfl) (by kernel_rfl) (hval 2 24 v2 rfl rfl) h2 hsz (j := 2) rfl rfl
 have k2 := hbulk2.le hsz (j := 2) (t := 24) rfl rfl Tryz.underlying24 24 (by kernel_rfl)
 obtain ⟨A3, n3, c3, as3, rfl, hn3, hq3, hnc3, hnil3⟩ := open_offers (hval 3 62 v3 rfl rfl) h3 hsz (j := 3) rfl rfl
 obtain ⟨A4, n4, c4, xs4, rfl, hn4, hc4, hnil4, hf4, hr4, hbulk4⟩ := open_flats (ks := [.int .i64]) (N := 1) Tryz.underlying63 (by kernel_rfl) (by kernel_rfl) (hval 4 63 v4 rfl rfl) h4
 have k4 := hbulk4.le hsz (j := 4) (t := 63) rfl rfl Tryz.underlying63 8 (by kernel_rfl)
 obtain ⟨ts4, hT4⟩ := ints_in hf4 hr4
 obtain ⟨A5, n5, c5, q5, rfl, hq5, hn5, hc5, hnil5, hr5, hbulk5⟩ := open_bytes Tryz.underlying27 Tryz.underlying5 (by kernel_rfl) (hval 5 27 v5 rfl rfl) h5
 have k5 := hbulk5.le hsz (j := 5) (t := 27) rfl rfl Tryz.underlying27 1 (by kernel_rfl)
 obtain ⟨x6, y6, A6, n6, c6, qs6, rfl, hn6, hr6, hb6⟩ := open_inclB (hval 6 48 v6 rfl rfl) h6 hsz (j := 6) rfl rfl
 obtain ⟨A7, n7, c7, q7, rfl, hq7, hn7, hc7, hnil7, hr7, hbulk7⟩ := open_bytes Tryz.underlying27 Tryz.underlying5 (by kernel_rfl) (hval 7 27 v7 rfl rfl) h7
 have k7 := hbulk7.le hsz (j := 7) (t := 27) rfl rfl Tryz.underlying27 1 (by kernel_rfl)
 obtain ⟨x8, y8, A8, n8, c8, qs8, rfl, hn8, hr8, hb8⟩ := open_inclB (hval 8 48 v8 rfl rfl) h8 hsz (j := 8) rfl rfl
 have hBase := base hL

 refine (AuditAgree.auditAgree_any a0 q1 hq1 es2 n2 hq2 A2 c2 hn2 as3 n3 A3 c3 hnc3 hnil3 ts4 n4 (by have := hn4; have := k4; omega) A4 c4 q5 n5 hq5 (by omega) A5 c5 hn5 hnil5 x6 y6 qs6 A6 n6 c6 hb6 q7 n7 hq7 (by omega) A7 c7 hn7 hnil7 x8 y8 qs8 A8 n8 c8 hb8 W hBase hp2 (fun q hq => Nat.lt_trans (hsh2 q hq) (by decide)) hq3 hT4 hr5 hr6 hr7 hr8).mono fun e W' ⟨he, bel⟩ => ?_
 subst he
 exact ⟨_, rfl, _, _, _, [], _, [], hW', trodAll_mk1 (shut_bool Tryz.underlying4 _), carryAll laidOut bel (by kernel_rfl) hA0 hlt, rfl, bel.frame _, fun h => by cases h⟩

theorem laid_met (os : Os) (args : Array Value) : laidMetH Tryz.prog Rows.auditAgreeRow.laid ((World.doorLaid Tryz.prog 24 os).forCall (fun _ _ => 0) ⟨#[], args, []⟩).memory :=
 laidMetH_of_parts3 (fuel := 8) (laidMet_of_run' 8 (by kernel_rfl) (by kernel_rfl)) (by kernel_rfl) (by kernel_rfl)
theorem reads (os : Os) {H : Type} (enc : TypeId × Value → H) : ∃ places, DataW.whole enc Tryz.prog ((World.doorLaid Tryz.prog 24 os).forCall (fun _ _ => 0) ⟨#[], #[.int .i64 0, .agg (Array.replicate 32 (.int .u8 0)), .slice none 0 0, .slice none 0 0, .slice none 0 0, .slice none 0 0, .agg #[.int .i64 0, .int .i64 0, .slice none 0 0], .slice none 0 0, .agg #[.int .i64 0, .int .i64 0, .slice none 0 0]], []⟩).memory Tryz.f4.params.toList Rows.auditAgreeSpec.vars false (#[.int .i64 0, .agg (Array.replicate 32 (.int .u8 0)), .slice none 0 0, .slice none 0 0, .slice none 0 0, .slice none 0 0, .agg #[.int .i64 0, .int .i64 0, .slice none 0 0], .slice none 0 0, .agg #[.int .i64 0, .int .i64 0, .slice none 0 0]] : Array Value).toList 8 = some ([.lit (.int .i64 0), .agg (List.replicate 32 (.lit (.int .u8 0))), .nil, .nil, .nil, .nil, .agg [.lit (.int .i64 0), .lit (.int .i64 0), .nil], .nil, .agg [.lit (.int .i64 0), .lit (.int .i64 0), .nil]], [], places) :=
 ⟨[], by kernel_rfl⟩

set_option maxRecDepth 100000 in
theorem lifted (os : Os) (started : os.Started) (H : Type) (enc : TypeId × Value → H) (F : Stop.Interp) :
  ReturnsInHanded {} Tryz.checked os 4 .any ((OpenSpec.ofChange Rows.auditAgreeSpec).preRow enc Tryz.prog Tryz.f4 Rows.auditAgreeRow.domain false Rows.auditAgreeRow.laid) (((OpenSpec.ofChange Rows.auditAgreeSpec).at F).post enc Tryz.prog Tryz.f4 false true false false) := by
 obtain ⟨places, hx⟩ := reads os enc
 refine returnsInHanded_of_row (C := Tryz.checked) (s := OpenSpec.ofChange Rows.auditAgreeSpec) own started (by kernel_rfl) Tryz.func4
  (witness_row_at (enc := enc) (C := Tryz.checked) false (World.doorLaid Tryz.prog 24 os) #[.int .i64 0, .agg (Array.replicate 32 (.int .u8 0)), .slice none 0 0, .slice none 0 0, .slice none 0 0, .slice none 0 0, .agg #[.int .i64 0, .int .i64 0, .slice none 0 0], .slice none 0 0, .agg #[.int .i64 0, .int .i64 0, .slice none 0 0]] rfl (by kernel_rfl) (by kernel_rfl) (by kernel_rfl)
   (OpenSpec.preRow_of_cond 8 hx (by kernel_rfl) (fun k hk => by cases hk) (by kernel_rfl) (laid_met os _))) ?_
 intro W base args ds gs before hval hW _ hcond hsz hL _ _
 have hgs : gs = [] := by obtain ⟨_, _, _, hV, _⟩ := hW; exact (trodVars_none hV).1
 subst hgs
 have hsz' : (DataW.weightsEach Tryz.prog Tryz.f4.params.toList ds).all (· ≤ reachBytes) = true := by
  rw [show (OpenSpec.ofChange Rows.auditAgreeSpec).bare.plain.varTypes Tryz.checked.prog = [] from rfl, List.append_nil, List.append_nil] at hsz
  exact hsz
 exact contract H enc W base args ds [] before hval hW hsz' hL

theorem said : Rows.AuditAgreeSaid :=
 OpenClaim.holds_of_cond 4 Tryz.f4 rfl rfl rfl rfl rfl rfl rfl ⟨rfl, rfl, rfl, rfl, rfl⟩ rfl rfl rfl rfl rfl (by kernel_rfl) Tryz.func4 Go.Proofs.YtgldkfaiofkhbaaGreatDoor.auditAgreeClosed.closed
  (of_decide_eq_true (by kernel_rfl)) (by unfold Func.isWrapper; first | (rw [if_pos (by decide +kernel)]; kernel_rfl) | (rw [if_neg (by decide +kernel)]; exact ⟨rfl, rfl⟩))
  (fun os started H enc _ F => by rw [OpenClaim.pre_eq_preRow]; exact lifted os started H enc F)

theorem plain (f : FuncId) (fn : Func) (hf : Tryz.pinned.checked.prog.funcNamed "docket/docketlaw20.AuditAgree" = some f) (hfn : Tryz.pinned.checked.prog.funcs[f]? = some fn) :
  false = Tryz.pinned.checked.prog.looks [] ∧ ∀ (j : Nat) t, fn.params[j]? = some t → Tryz.pinned.checked.prog.wantsStandIn t = false := by
 obtain rfl : f = 4 := Option.some.inj ((show Tryz.prog.funcNamed "docket/docketlaw20.AuditAgree" = some 4 by kernel_rfl).symm.trans hf) |>.symm
 obtain rfl : fn = Tryz.f4 := (Option.some.inj (Tryz.func4.symm.trans hfn)).symm
 refine ⟨by kernel_rfl, fun j t ht => ?_⟩
 rw [Tryz.params4] at ht
 have hm : t ∈ ([3, 23, 24, 62, 63, 27, 48, 27, 48] : List TypeId) := by simpa using Array.mem_of_getElem? ht
 have hall : (([3, 23, 24, 62, 63, 27, 48, 27, 48] : List TypeId).all fun u => !Tryz.prog.wantsStandIn u) = true := by kernel_rfl
 exact (show Tryz.prog.wantsStandIn t = false by simpa using List.all_eq_true.1 hall t hm)

theorem card : Rows.AuditAgreeCardSaid :=
 Claim7.holds_tied_plain_at .later [] _ _ _ _ said (fun _ h => by cases h) (by kernel_rfl) (fun _ h => by cases h) auditAgree_row_tie rfl ⟨rfl, rfl⟩ (by kernel_rfl) rfl plain (by kernel_rfl)
#print axioms card
end Go.Proofs.YtgldkfaiofkhbaaGreatDoor.auditAgreeRow
