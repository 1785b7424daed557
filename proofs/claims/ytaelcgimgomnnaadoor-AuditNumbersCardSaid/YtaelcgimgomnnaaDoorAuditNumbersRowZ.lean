
import Derived.Test.YtaelcgimgomnnaaDoorCards
import Derived.Test.YtaelcgimgomnnaaDoorTie
import Derived.Test.YtaelcgimgomnnaaDoorZ9
import Derived.Test.YtaelcgimgomnnaaDoorZ30
import Derived.ProofKit
import Derived.OpenShut
import Derived.Deep.DeepHandedRow
import Derived.LaidMore
import Derived.Lib.LaidTab
import Derived.Stop.LaidErr
namespace Go.Proofs.YtaelcgimgomnnaaDoor.auditNumbersRow
open Go Go.ChangeShapes Go.WideShapes Go.ChangeAt Go.RowKit Go.Proofs.YtaelcgimgomnnaaDoor Go.Proofs.YtaelcgimgomnnaaDoor.Mem Go.Proofs.YtaelcgimgomnnaaDoor.Row Go.Proofs.YtaelcgimgomnnaaDoor.Sha Go.Proofs.YtaelcgimgomnnaaDoor.Bytes Go.Proofs.YtaelcgimgomnnaaDoor.HashMem
set_option linter.unusedVariables false

theorem own : ownKnob Tryd.prog.godebug = none := by kernel_rfl
theorem laidOut : laidOutB Tryd.prog = true := by kernel_rfl
theorem gTab : Tryd.prog.globalNamed "docket/digest.round" = some 0 := by kernel_rfl
theorem gTabType : (Tryd.prog.globals[0]?).map (·.type) = some 219 := by kernel_rfl
theorem cells64 : Tryd.prog.cellsOf 219 = 64 := by kernel_rfl
theorem cells1 : Tryd.prog.cellsOf 106 = 1 := by kernel_rfl
theorem base {W : World} (h : laidMetH Tryd.prog Rows.auditNumbersRow.laid W) : Base W := by
  have h2 : laidMet Tryd.prog Rows.auditNumbersRow.laid W := by
    rw [MakeChecks.laidMetH_plain _ _ _ (by kernel_rfl)] at h
    exact h
  have h3 : Lib.TabIs Tryd.prog W "docket/digest.round" .u32 (Ktab.map Int.ofNat) := Lib.tabIs_of_head (rest := []) gTab gTabType Tryd.underlying219 Tryd.underlying106 cells1 cells64 h2
  have hc : ∀ j, j < 64 → W.cell? ⟨0, j, none⟩ = some (.int .u32 (u (K j))) := fun j hj => by
    have := h3.cell gTab j (by simpa [Ktab] using hj)
    rw [this]
    have hall : ∀ i, i < 64 → ((Ktab.map Int.ofNat).getD i 0) = u (K i) := by decide +kernel
    rw [← hall j hj]
  exact ⟨World.block_lt_of_cell? W ⟨0, 0, none⟩ (hc 0 (by omega)), hc⟩


set_option maxRecDepth 100000 in
theorem contract (H : Type) (enc : TypeId × Value → H) (W : World) (base0 : Nat) (args : Array Value) (ds gs : List (DataW H)) (before : List MemPlace)
    (hval : ∀ (j : Nat) t v, Tryd.f8.params[j]? = some t → args[j]? = some v → Value.okWide Tryd.prog W .any base0 t v)
    (hW : DataW.Whole enc Tryd.prog Tryd.f8.params.toList Rows.auditNumbersSpec.vars false W args.toList ds gs before)
    (hsz : (DataW.weightsEach Tryd.prog Tryd.f8.params.toList ds).all (· ≤ reachBytes) = true)
    (hL : laidMetH Tryd.prog Rows.auditNumbersRow.laid W)
    : Calls Tryd.prog 8 args W fun e W' => ∃ v, e = .returned v ∧ Rows.auditNumbersSpec.post enc Tryd.prog Tryd.f8 false true false false W args v W' := by
  have hW' := hW
  obtain ⟨p, q, hA0, hV, rfl, hfz, hnd⟩ := hW
  have hlt : ∀ x ∈ p, x.block < W.heap.size := fun x hx => hW'.lt x (by simp [hx])
  have hA : DataW.TrodAll enc Tryd.prog W 0 (fun _ => true) true Tryd.f8.params.toList args.toList ds p := hA0
  rw [Tryd.params8] at hA hval hsz
  obtain ⟨rfl, rfl, rfl⟩ := trodAll_none hA
  obtain ⟨rfl, rfl⟩ := trodVars_none hV
  have hBase := base hL

  refine (AuditNumbers.auditNumbers_any W hBase).mono fun e W' ⟨he, bel⟩ => ?_
  subst he
  exact ⟨_, rfl, _, _, _, [], _, [], hW', trodAll_mk1 (shut_bool Tryd.underlying4 _), carryAll laidOut bel (by kernel_rfl) hA0 hlt, rfl, bel.frame _, fun h => by cases h⟩

theorem laid_met (os : Os) (args : Array Value) : laidMetH Tryd.prog Rows.auditNumbersRow.laid ((World.doorLaid Tryd.prog 24 os).forCall (fun _ _ => 0) ⟨#[], args, []⟩).memory :=
  laidMetH_of_parts3 (fuel := 8) (laidMet_of_run' 8 (by kernel_rfl) (by kernel_rfl)) (by kernel_rfl) (by kernel_rfl)
theorem reads (os : Os) {H : Type} (enc : TypeId × Value → H) : ∃ places, DataW.whole enc Tryd.prog ((World.doorLaid Tryd.prog 24 os).forCall (fun _ _ => 0) ⟨#[], #[], []⟩).memory Tryd.f8.params.toList Rows.auditNumbersSpec.vars false (#[] : Array Value).toList 8 = some ([], [], places) :=
  ⟨[], by kernel_rfl⟩

set_option maxRecDepth 100000 in
theorem lifted (os : Os) (started : os.Started) (H : Type) (enc : TypeId × Value → H) (F : Stop.Interp) :
    ReturnsInHanded {} Tryd.checked os 8 .any ((OpenSpec.ofChange Rows.auditNumbersSpec).preRow enc Tryd.prog Tryd.f8 Rows.auditNumbersRow.domain false Rows.auditNumbersRow.laid) (((OpenSpec.ofChange Rows.auditNumbersSpec).at F).post enc Tryd.prog Tryd.f8 false true false false) := by
  obtain ⟨places, hx⟩ := reads os enc
  refine returnsInHanded_of_row (C := Tryd.checked) (s := OpenSpec.ofChange Rows.auditNumbersSpec) own started (by kernel_rfl) Tryd.func8
    (witness_row_at (enc := enc) (C := Tryd.checked) false (World.doorLaid Tryd.prog 24 os) #[] rfl (by kernel_rfl) (by kernel_rfl) (by kernel_rfl)
      (OpenSpec.preRow_of_cond 8 hx (by kernel_rfl) (fun k hk => by cases hk) (by kernel_rfl) (laid_met os _))) ?_
  intro W base args ds gs before hval hW _ hcond hsz hL _ _
  have hgs : gs = [] := by obtain ⟨_, _, _, hV, _⟩ := hW; exact (trodVars_none hV).1
  subst hgs
  have hsz' : (DataW.weightsEach Tryd.prog Tryd.f8.params.toList ds).all (· ≤ reachBytes) = true := by
    rw [show (OpenSpec.ofChange Rows.auditNumbersSpec).bare.plain.varTypes Tryd.checked.prog = [] from rfl, List.append_nil, List.append_nil] at hsz
    exact hsz
  exact contract H enc W base args ds [] before hval hW hsz' hL

theorem said : Rows.AuditNumbersSaid :=
  OpenClaim.holds_of_cond 8 Tryd.f8 rfl rfl rfl rfl rfl rfl rfl ⟨rfl, rfl, rfl, rfl, rfl⟩ rfl rfl rfl rfl rfl (by kernel_rfl) Tryd.func8 (by kernel_rfl)
    (of_decide_eq_true (by kernel_rfl)) (by unfold Func.isWrapper; first | (rw [if_pos (by decide +kernel)]; kernel_rfl) | (rw [if_neg (by decide +kernel)]; exact ⟨rfl, rfl⟩))
    (fun os started H enc _ F => by rw [OpenClaim.pre_eq_preRow]; exact lifted os started H enc F)

theorem plain (f : FuncId) (fn : Func) (hf : Tryd.pinned.checked.prog.funcNamed "docket/docketlaw20.AuditNumbers" = some f) (hfn : Tryd.pinned.checked.prog.funcs[f]? = some fn) :
    false = Tryd.pinned.checked.prog.looks [] ∧ ∀ (j : Nat) t, fn.params[j]? = some t → Tryd.pinned.checked.prog.wantsStandIn t = false := by
  obtain rfl : f = 8 := Option.some.inj ((show Tryd.prog.funcNamed "docket/docketlaw20.AuditNumbers" = some 8 by kernel_rfl).symm.trans hf) |>.symm
  obtain rfl : fn = Tryd.f8 := (Option.some.inj (Tryd.func8.symm.trans hfn)).symm
  refine ⟨by kernel_rfl, fun j t ht => ?_⟩
  rw [Tryd.params8] at ht
  simp at ht

theorem card : Rows.AuditNumbersCardSaid :=
  Claim7.holds_tied_plain_at .later [] _ _ _ _ said (fun _ h => by cases h) (by kernel_rfl) (fun _ h => by cases h) auditNumbers_row_tie rfl ⟨rfl, rfl⟩ (by kernel_rfl) rfl plain (by kernel_rfl)
#print axioms card
end Go.Proofs.YtaelcgimgomnnaaDoor.auditNumbersRow
