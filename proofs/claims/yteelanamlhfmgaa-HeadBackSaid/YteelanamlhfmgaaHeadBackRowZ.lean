
import Derived.Test.YteelanamlhfmgaaRows
import Derived.Test.YteelanamlhfmgaaZ13
import Derived.Test.YteelanamlhfmgaaZ29
import Derived.Test.YteelanamlhfmgaaZ25
import Derived.ProofKit
import Derived.OpenShut
import Derived.Deep.DeepHandedRow
import Derived.LaidMore
namespace Go.Proofs.Yteelanamlhfmgaa.headBackRow
open Go Go.ChangeShapes Go.WideShapes Go.ChangeAt Go.RowKit Go.Proofs.Yteelanamlhfmgaa Go.Proofs.Yteelanamlhfmgaa.Mem Go.Proofs.Yteelanamlhfmgaa.Row Go.Proofs.Yteelanamlhfmgaa.Sha Go.Proofs.Yteelanamlhfmgaa.Bytes Go.Proofs.Yteelanamlhfmgaa.RowNote
set_option linter.unusedVariables false

theorem own : ownKnob Try.prog.godebug = none := by kernel_rfl
theorem laidOut : laidOutB Try.prog = true := by kernel_rfl
def exHead : Value := Value.agg (List.toArray (List.replicate 32 (Value.int .u8 0) ++ [Value.int .i64 0] ++ List.replicate 32 (Value.int .u8 0) ++ List.replicate 32 (Value.int .u8 0) ++ [Value.int .i64 0]))

set_option maxRecDepth 100000 in
theorem contract (H : Type) (enc : TypeId × Value → H) (W : World) (base0 : Nat) (args : Array Value) (ds gs : List (DataW H)) (before : List MemPlace)
    (hval : ∀ (j : Nat) t v, Try.f4.params[j]? = some t → args[j]? = some v → Value.okWide Try.prog W .any base0 t v)
    (hW : DataW.Whole enc Try.prog Try.f4.params.toList Rows.headBackSpec.vars false W args.toList ds gs before)
    (hsz : (DataW.weightsEach Try.prog Try.f4.params.toList ds).all (· ≤ reachBytes) = true)
    : Calls Try.prog 4 args W fun e W' => ∃ v, e = .returned v ∧ Rows.headBackSpec.post enc Try.prog Try.f4 false true false false W args v W' := by
  have hW' := hW
  obtain ⟨p, q, hA0, hV, rfl, hfz, hnd⟩ := hW
  have hlt : ∀ x ∈ p, x.block < W.heap.size := fun x hx => hW'.lt x (by simp [hx])
  have hA : DataW.TrodAll enc Try.prog W 0 (fun _ => true) true Try.f4.params.toList args.toList ds p := hA0
  rw [Try.params4] at hA hval hsz
  obtain ⟨v0, vs0, d0, ds0, p0, q0, hargs, rfl, rfl, h0, r0⟩ := trodAll_cons hA
  obtain ⟨v1, vs1, d1, ds1, p1, q1, rfl, rfl, rfl, h1, r1⟩ := trodAll_cons r0
  obtain ⟨v2, vs2, d2, ds2, p2, q2, rfl, rfl, rfl, h2, r2⟩ := trodAll_cons r1
  obtain ⟨rfl, rfl, rfl⟩ := trodAll_nil r2
  obtain rfl : args = #[v0, v1, v2] := by cases args; simp_all
  obtain ⟨rfl, rfl⟩ := trodVars_none hV
  obtain ⟨cs0, rfl, hf0⟩ := open_agg (ks := headKs) (N := 4) (.inl ⟨_, Try.underlying25⟩) (by kernel_rfl) (hval 0 25 v0 rfl rfl) h0
  obtain ⟨hd1, A1, n1, c1, ss1, rfl, hok1, hn1, hnil1, hS1⟩ := open_note (hval 1 28 v1 rfl rfl) h1
  obtain ⟨A2, n2, c2, q2, rfl, hq2, hn2, hc2, hnil2, hr2, hbulk2⟩ := open_bytes Try.underlying29 Try.underlying5 (by kernel_rfl) (hval 2 29 v2 rfl rfl) h2
  have k2 := hbulk2.le hsz (j := 2) (t := 29) rfl rfl Try.underlying29 1 (by kernel_rfl)
  obtain ⟨hd0, hok0, rfl⟩ := fits_head cs0 hf0
  refine (HeadBack.headBack_any hd0 hok0 hd1 hok1 ss1 n1 A1 c1 hn1 q2 n2 hq2 (by omega) A2 c2 hn2 hnil2 W hS1 hr2).mono fun e W' ⟨he, bel⟩ => ?_
  subst he
  exact ⟨_, rfl, _, _, _, [], _, [], hW', trodAll_mk1 (shut_bool Try.underlying4 _), carryAll laidOut bel (by kernel_rfl) hA0 hlt, rfl, bel.frame _, fun h => by cases h⟩

theorem laid_met (os : Os) (args : Array Value) : laidMetH Try.prog Rows.headBackRow.laid ((World.doorLaid Try.prog 24 os).forCall (fun _ _ => 0) ⟨#[], args, []⟩).memory :=
  laidMetH_nil _ _
theorem reads (os : Os) {H : Type} (enc : TypeId × Value → H) : ∃ places, DataW.whole enc Try.prog ((World.doorLaid Try.prog 24 os).forCall (fun _ _ => 0) ⟨#[], #[exHead, exNote, .slice none 0 0], []⟩).memory Try.f4.params.toList Rows.headBackSpec.vars false (#[exHead, exNote, .slice none 0 0] : Array Value).toList 8 = some ([.agg [.agg (List.replicate 32 (.lit (.int .u8 0))), .lit (.int .i64 0), .agg (List.replicate 32 (.lit (.int .u8 0))), .agg (List.replicate 32 (.lit (.int .u8 0))), .lit (.int .i64 0)], .agg [.agg [.agg (List.replicate 32 (.lit (.int .u8 0))), .lit (.int .i64 0), .agg (List.replicate 32 (.lit (.int .u8 0))), .agg (List.replicate 32 (.lit (.int .u8 0))), .lit (.int .i64 0)], .nil], .nil], [], places) :=
  ⟨[], by kernel_rfl⟩

set_option maxRecDepth 100000 in
theorem lifted (os : Os) (started : os.Started) (H : Type) (enc : TypeId × Value → H) (F : Stop.Interp) :
    ReturnsInHanded {} Try.checked os 4 .any ((OpenSpec.ofChange Rows.headBackSpec).preRow enc Try.prog Try.f4 Rows.headBackRow.domain false Rows.headBackRow.laid) (((OpenSpec.ofChange Rows.headBackSpec).at F).post enc Try.prog Try.f4 false true false false) := by
  obtain ⟨places, hx⟩ := reads os enc
  refine returnsInHanded_of_row (C := Try.checked) (s := OpenSpec.ofChange Rows.headBackSpec) own started (by kernel_rfl) Try.func4
    (witness_row_at (enc := enc) (C := Try.checked) false (World.doorLaid Try.prog 24 os) #[exHead, exNote, .slice none 0 0] rfl (by kernel_rfl) (by kernel_rfl) (by kernel_rfl)
      (OpenSpec.preRow_of_cond 8 hx (by kernel_rfl) (fun k hk => by cases hk) (by kernel_rfl) (laid_met os _))) ?_
  intro W base args ds gs before hval hW _ hcond hsz hL _ _
  have hgs : gs = [] := by obtain ⟨_, _, _, hV, _⟩ := hW; exact (trodVars_none hV).1
  subst hgs
  have hsz' : (DataW.weightsEach Try.prog Try.f4.params.toList ds).all (· ≤ reachBytes) = true := by
    rw [show (OpenSpec.ofChange Rows.headBackSpec).bare.plain.varTypes Try.checked.prog = [] from rfl, List.append_nil, List.append_nil] at hsz
    exact hsz
  exact contract H enc W base args ds [] before hval hW hsz'

theorem said : Rows.HeadBackSaid :=
  OpenClaim.holds_of_cond 4 Try.f4 rfl rfl rfl rfl rfl rfl rfl ⟨rfl, rfl, rfl, rfl, rfl⟩ rfl rfl rfl rfl rfl (by kernel_rfl) Try.func4 (by kernel_rfl)
    (of_decide_eq_true (by kernel_rfl)) (by unfold Func.isWrapper; first | (rw [if_pos (by decide +kernel)]; kernel_rfl) | (rw [if_neg (by decide +kernel)]; exact ⟨rfl, rfl⟩))
    (fun os started H enc _ F => by rw [OpenClaim.pre_eq_preRow]; exact lifted os started H enc F)

#print axioms said
end Go.Proofs.Yteelanamlhfmgaa.headBackRow
