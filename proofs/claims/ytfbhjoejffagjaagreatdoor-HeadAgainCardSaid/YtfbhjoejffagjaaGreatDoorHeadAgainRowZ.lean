
import Derived.Test.YtfbhjoejffagjaaGreatDoorCards
import Derived.Test.YtfbhjoejffagjaaGreatDoorTie
import Derived.Test.YtfbhjoejffagjaaGreatDoorZ6
import Derived.Test.YtfbhjoejffagjaaGreatDoorZ46
import Derived.Test.YtfbhjoejffagjaaGreatDoorZ34
import Derived.Test.YtfbhjoejffagjaaGreatDoorZ47
import Derived.ProofKit
import Derived.OpenShut
import Derived.Deep.DeepHandedRow
import Derived.LaidMore
import Derived.Lib.LaidTab
import Derived.Stop.LaidErr
namespace Go.Proofs.YtfbhjoejffagjaaGreatDoor.headAgainRow
open Go Go.ChangeShapes Go.WideShapes Go.ChangeAt Go.RowKit Go.Proofs.YtfbhjoejffagjaaGreatDoor Mem Row Sha Bytes HashMem RowNote Row2 RowCalls
set_option linter.unusedVariables false

theorem own : ownKnob Tryz.prog.godebug = none := by kernel_rfl
theorem laidOut : laidOutB Tryz.prog = true := by kernel_rfl
theorem gTab : Tryz.prog.globalNamed "docket/digest.round" = some 1 := by kernel_rfl
theorem gTabType : (Tryz.prog.globals[1]?).map (·.type) = some 193 := by kernel_rfl
theorem cells64 : Tryz.prog.cellsOf 193 = 64 := by kernel_rfl
theorem cells1 : Tryz.prog.cellsOf 153 = 1 := by kernel_rfl
theorem base {W : World} (h : laidMetH Tryz.prog Rows.headAgainRow.laid W) : Base W := by
 have h2 : laidMet Tryz.prog Rows.headAgainRow.laid W := by
  rw [MakeChecks.laidMetH_plain _ _ _ (by kernel_rfl)] at h
  exact h
 have h3 : Lib.TabIs Tryz.prog W "docket/digest.round" .u32 (Ktab.map Int.ofNat) := Lib.tabIs_of_head (rest := []) gTab gTabType Tryz.underlying193 Tryz.underlying153 cells1 cells64 h2
 have hc : ∀ j, j < 64 → W.cell? ⟨1, j, none⟩ = some (.int .u32 (u (K j))) := fun j hj => by
  have := h3.cell gTab j (by simpa [Ktab] using hj)
  rw [this]
  have hall : ∀ i, i < 64 → ((Ktab.map Int.ofNat).getD i 0) = u (K i) := by decide +kernel
  rw [← hall j hj]
 exact ⟨World.block_lt_of_cell? W ⟨1, 0, none⟩ (hc 0 (by omega)), hc⟩


set_option maxRecDepth 100000 in
theorem contract (H : Type) (enc : TypeId × Value → H) (W : World) (base0 : Nat) (args : Array Value) (ds gs : List (DataW H)) (before : List MemPlace)
  (hval : ∀ (j : Nat) t v, Tryz.f5.params[j]? = some t → args[j]? = some v → Value.okWide Tryz.prog W .any base0 t v)
  (hW : DataW.Whole enc Tryz.prog Tryz.f5.params.toList Rows.headAgainSpec.vars false W args.toList ds gs before)
  (hsz : (DataW.weightsEach Tryz.prog Tryz.f5.params.toList ds).all (· ≤ reachBytes) = true)
  (hL : laidMetH Tryz.prog Rows.headAgainRow.laid W)
  : Calls Tryz.prog 5 args W fun e W' => ∃ v, e = .returned v ∧ Rows.headAgainSpec.post enc Tryz.prog Tryz.f5 false true false false W args v W' := by
 have hW' := hW
 obtain ⟨p, q, hA0, hV, rfl, hfz, hnd⟩ := hW
 have hlt : ∀ x ∈ p, x.block < W.heap.size := fun x hx => hW'.lt x (by simp [hx])
 have hA : DataW.TrodAll enc Tryz.prog W 0 (fun _ => true) true Tryz.f5.params.toList args.toList ds p := hA0
 rw [Tryz.params5] at hA hval hsz
 obtain ⟨v0, vs0, d0, ds0, p0, q0, hargs, rfl, rfl, h0, r0⟩ := trodAll_cons hA
 obtain ⟨v1, vs1, d1, ds1, p1, q1, rfl, rfl, rfl, h1, r1⟩ := trodAll_cons r0
 obtain ⟨rfl, rfl, rfl⟩ := trodAll_nil r1
 obtain rfl : args = #[v0, v1] := by cases args; simp_all
 obtain ⟨rfl, rfl⟩ := trodVars_none hV
 obtain ⟨A0, n0, c0, es0, rfl, hq0, hn0, hc0, hnil0, hp0, hsh0, hbulk0⟩ := open_texts Tryz.underlying22 Tryz.underlying31 Tryz.underlying5 (by kernel_rfl) (by kernel_rfl) (by kernel_rfl) (hval 0 22 v0 rfl rfl) h0 hsz (j := 0) rfl rfl
 have k0 := hbulk0.le hsz (j := 0) (t := 22) rfl rfl Tryz.underlying22 24 (by kernel_rfl)
 obtain ⟨A1, n1, c1, as1, rfl, hn1, hq1⟩ := open_calls (hval 1 54 v1 rfl rfl) h1 hsz (j := 1) rfl rfl
 have hBase := base hL

 refine (HeadAgain.headAgain_any es0 n0 hq0 A0 c0 hn0 as1 n1 hn1 A1 c1 W hBase hp0 (fun q hq => Nat.lt_trans (hsh0 q hq) (by decide)) hq1).mono fun e W' ⟨he, bel⟩ => ?_
 subst he
 exact ⟨_, rfl, _, _, _, [], _, [], hW', trodAll_mk1 (shut_bool Tryz.underlying4 _), carryAll laidOut bel (by kernel_rfl) hA0 hlt, rfl, bel.frame _, fun h => by cases h⟩

theorem laid_met (os : Os) (args : Array Value) : laidMetH Tryz.prog Rows.headAgainRow.laid ((World.doorLaid Tryz.prog 24 os).forCall (fun _ _ => 0) ⟨#[], args, []⟩).memory :=
 laidMetH_of_parts3 (fuel := 8) (laidMet_of_run' 8 (by kernel_rfl) (by kernel_rfl)) (by kernel_rfl) (by kernel_rfl)
theorem reads (os : Os) {H : Type} (enc : TypeId × Value → H) : ∃ places, DataW.whole enc Tryz.prog ((World.doorLaid Tryz.prog 24 os).forCall (fun _ _ => 0) ⟨#[], #[.slice none 0 0, .slice none 0 0], []⟩).memory Tryz.f5.params.toList Rows.headAgainSpec.vars false (#[.slice none 0 0, .slice none 0 0] : Array Value).toList 8 = some ([.nil, .nil], [], places) :=
 ⟨[], by kernel_rfl⟩

set_option maxRecDepth 100000 in
theorem lifted (os : Os) (started : os.Started) (H : Type) (enc : TypeId × Value → H) (F : Stop.Interp) :
  ReturnsInHanded {} Tryz.checked os 5 .any ((OpenSpec.ofChange Rows.headAgainSpec).preRow enc Tryz.prog Tryz.f5 Rows.headAgainRow.domain false Rows.headAgainRow.laid) (((OpenSpec.ofChange Rows.headAgainSpec).at F).post enc Tryz.prog Tryz.f5 false true false false) := by
 obtain ⟨places, hx⟩ := reads os enc
 refine returnsInHanded_of_row (C := Tryz.checked) (s := OpenSpec.ofChange Rows.headAgainSpec) own started (by kernel_rfl) Tryz.func5
  (witness_row_at (enc := enc) (C := Tryz.checked) false (World.doorLaid Tryz.prog 24 os) #[.slice none 0 0, .slice none 0 0] rfl (by kernel_rfl) (by kernel_rfl) (by kernel_rfl)
   (OpenSpec.preRow_of_cond 8 hx (by kernel_rfl) (fun k hk => by cases hk) (by kernel_rfl) (laid_met os _))) ?_
 intro W base args ds gs before hval hW _ hcond hsz hL _ _
 have hgs : gs = [] := by obtain ⟨_, _, _, hV, _⟩ := hW; exact (trodVars_none hV).1
 subst hgs
 have hsz' : (DataW.weightsEach Tryz.prog Tryz.f5.params.toList ds).all (· ≤ reachBytes) = true := by
  rw [show (OpenSpec.ofChange Rows.headAgainSpec).bare.plain.varTypes Tryz.checked.prog = [] from rfl, List.append_nil, List.append_nil] at hsz
  exact hsz
 exact contract H enc W base args ds [] before hval hW hsz' hL

theorem said : Rows.HeadAgainSaid :=
 OpenClaim.holds_of_cond 5 Tryz.f5 rfl rfl rfl rfl rfl rfl rfl ⟨rfl, rfl, rfl, rfl, rfl⟩ rfl rfl rfl rfl rfl (by kernel_rfl) Tryz.func5 (by kernel_rfl)
  (of_decide_eq_true (by kernel_rfl)) (by unfold Func.isWrapper; first | (rw [if_pos (by decide +kernel)]; kernel_rfl) | (rw [if_neg (by decide +kernel)]; exact ⟨rfl, rfl⟩))
  (fun os started H enc _ F => by rw [OpenClaim.pre_eq_preRow]; exact lifted os started H enc F)

theorem plain (f : FuncId) (fn : Func) (hf : Tryz.pinned.checked.prog.funcNamed "docket/docketlaw16.HeadAgain" = some f) (hfn : Tryz.pinned.checked.prog.funcs[f]? = some fn) :
  false = Tryz.pinned.checked.prog.looks [] ∧ ∀ (j : Nat) t, fn.params[j]? = some t → Tryz.pinned.checked.prog.wantsStandIn t = false := by
 obtain rfl : f = 5 := Option.some.inj ((show Tryz.prog.funcNamed "docket/docketlaw16.HeadAgain" = some 5 by kernel_rfl).symm.trans hf) |>.symm
 obtain rfl : fn = Tryz.f5 := (Option.some.inj (Tryz.func5.symm.trans hfn)).symm
 refine ⟨by kernel_rfl, fun j t ht => ?_⟩
 rw [Tryz.params5] at ht
 have hm : t ∈ ([22, 54] : List TypeId) := by simpa using Array.mem_of_getElem? ht
 have hall : (([22, 54] : List TypeId).all fun u => !Tryz.prog.wantsStandIn u) = true := by kernel_rfl
 exact (show Tryz.prog.wantsStandIn t = false by simpa using List.all_eq_true.1 hall t hm)

theorem card : Rows.HeadAgainCardSaid :=
 Claim7.holds_tied_plain_at .later [] _ _ _ _ said (fun _ h => by cases h) (by kernel_rfl) (fun _ h => by cases h) headAgain_row_tie rfl ⟨rfl, rfl⟩ (by kernel_rfl) rfl plain (by kernel_rfl)
#print axioms card
end Go.Proofs.YtfbhjoejffagjaaGreatDoor.headAgainRow
