
import Derived.Test.YtmdkfhfkdcbpgaaRows
import Derived.Test.YtmdkfhfkdcbpgaaZ11
import Derived.Test.YtmdkfhfkdcbpgaaZ41
import Derived.Test.YtmdkfhfkdcbpgaaZ34
import Derived.ProofKit
import Derived.OpenShut
import Derived.Deep.DeepHandedRow
import Derived.LaidMore
namespace Go.Proofs.Ytmdkfhfkdcbpgaa.proofPiecesRow
open Go Go.ChangeShapes Go.WideShapes Go.ChangeAt Go.RowKit Go.Proofs.Ytmdkfhfkdcbpgaa Go.Proofs.Ytmdkfhfkdcbpgaa.Mem Go.Proofs.Ytmdkfhfkdcbpgaa.Row Go.Proofs.Ytmdkfhfkdcbpgaa.Sha Go.Proofs.Ytmdkfhfkdcbpgaa.Bytes Go.Proofs.Ytmdkfhfkdcbpgaa.TreeMem Go.Proofs.Ytmdkfhfkdcbpgaa.PieceLay Go.Proofs.Ytmdkfhfkdcbpgaa.Prs Go.Proofs.Ytmdkfhfkdcbpgaa.RowPiece
set_option linter.unusedVariables false

theorem own : ownKnob Try.prog.godebug = none := by kernel_rfl
theorem laidOut : laidOutB Try.prog = true := by kernel_rfl
def exPc : Value := Value.agg (List.toArray ([Value.string ⟨#[]⟩, Value.int .i64 0] ++ List.replicate 32 (Value.int .u8 0) ++ [Value.slice none 0 0, Value.slice none 0 0]))

set_option maxRecDepth 100000 in
theorem contract (H : Type) (enc : TypeId × Value → H) (W : World) (base0 : Nat) (args : Array Value) (ds gs : List (DataW H)) (before : List MemPlace)
    (hval : ∀ (j : Nat) t v, Try.f4.params[j]? = some t → args[j]? = some v → Value.okWide Try.prog W .any base0 t v)
    (hW : DataW.Whole enc Try.prog Try.f4.params.toList Rows.proofPiecesSpec.vars false W args.toList ds gs before)
    (hsz : (DataW.weightsEach Try.prog Try.f4.params.toList ds).all (· ≤ reachBytes) = true)
    : Calls Try.prog 4 args W fun e W' => ∃ v, e = .returned v ∧ Rows.proofPiecesSpec.post enc Try.prog Try.f4 false true false false W args v W' := by
  have hW' := hW
  obtain ⟨p, q, hA0, hV, rfl, hfz, hnd⟩ := hW
  have hlt : ∀ x ∈ p, x.block < W.heap.size := fun x hx => hW'.lt x (by simp [hx])
  have hA : DataW.TrodAll enc Try.prog W 0 (fun _ => true) true Try.f4.params.toList args.toList ds p := hA0
  rw [Try.params4] at hA hval hsz
  obtain ⟨v0, vs0, d0, ds0, p0, q0, hargs, rfl, rfl, h0, r0⟩ := trodAll_cons hA
  obtain ⟨v1, vs1, d1, ds1, p1, q1, rfl, rfl, rfl, h1, r1⟩ := trodAll_cons r0
  obtain ⟨rfl, rfl, rfl⟩ := trodAll_nil r1
  obtain rfl : args = #[v0, v1] := by cases args; simp_all
  obtain ⟨rfl, rfl⟩ := trodVars_none hV
  obtain ⟨s0, F0, b0, A0, n0, c0, es0, E0, m0, k0, prs0, rfl, hs0, hb0, hes0, hn0, hp0, hsh0, hpr0, hm0, hq0, hnn0⟩ := open_piece (hval 0 44 v0 rfl rfl) h0 hsz (j := 0) rfl rfl
  obtain ⟨A1, n1, c1, q1, rfl, hq1, hn1, hc1, hnil1, hr1, hbulk1⟩ := open_bytes Try.underlying29 Try.underlying5 (by kernel_rfl) (hval 1 29 v1 rfl rfl) h1
  have k1 := hbulk1.le hsz (j := 1) (t := 29) rfl rfl Try.underlying29 1 (by kernel_rfl)

  refine (ProofPieces.proofPieces_any s0 hs0 F0 b0 hb0 es0 n0 hes0 prs0 m0 hpr0 A0 E0 c0 k0 hn0 hm0 hsh0 hnn0 q1 n1 hq1 (by omega) A1 c1 hn1 W hp0 hq0 hr1 hnil1).mono fun e W' ⟨he, bel⟩ => ?_
  subst he
  exact ⟨_, rfl, _, _, _, [], _, [], hW', trodAll_mk1 (shut_bool Try.underlying4 _), carryAll laidOut bel (by kernel_rfl) hA0 hlt, rfl, bel.frame _, fun h => by cases h⟩

theorem laid_met (os : Os) (args : Array Value) : laidMetH Try.prog Rows.proofPiecesRow.laid ((World.doorLaid Try.prog 24 os).forCall (fun _ _ => 0) ⟨#[], args, []⟩).memory :=
  laidMetH_nil _ _
theorem reads (os : Os) {H : Type} (enc : TypeId × Value → H) : ∃ places, DataW.whole enc Try.prog ((World.doorLaid Try.prog 24 os).forCall (fun _ _ => 0) ⟨#[], #[exPc, .slice none 0 0], []⟩).memory Try.f4.params.toList Rows.proofPiecesSpec.vars false (#[exPc, .slice none 0 0] : Array Value).toList 8 = some ([.agg [.lit (.string []), .lit (.int .i64 0), .agg (List.replicate 32 (.lit (.int .u8 0))), .nil, .nil], .nil], [], places) :=
  ⟨[], by kernel_rfl⟩

set_option maxRecDepth 100000 in
theorem lifted (os : Os) (started : os.Started) (H : Type) (enc : TypeId × Value → H) (F : Stop.Interp) :
    ReturnsInHanded {} Try.checked os 4 .any ((OpenSpec.ofChange Rows.proofPiecesSpec).preRow enc Try.prog Try.f4 Rows.proofPiecesRow.domain false Rows.proofPiecesRow.laid) (((OpenSpec.ofChange Rows.proofPiecesSpec).at F).post enc Try.prog Try.f4 false true false false) := by
  obtain ⟨places, hx⟩ := reads os enc
  refine returnsInHanded_of_row (C := Try.checked) (s := OpenSpec.ofChange Rows.proofPiecesSpec) own started (by kernel_rfl) Try.func4
    (witness_row_at (enc := enc) (C := Try.checked) false (World.doorLaid Try.prog 24 os) #[exPc, .slice none 0 0] rfl (by kernel_rfl) (by kernel_rfl) (by kernel_rfl)
      (OpenSpec.preRow_of_cond 8 hx (by kernel_rfl) (fun k hk => by cases hk) (by kernel_rfl) (laid_met os _))) ?_
  intro W base args ds gs before hval hW _ hcond hsz hL _ _
  have hgs : gs = [] := by obtain ⟨_, _, _, hV, _⟩ := hW; exact (trodVars_none hV).1
  subst hgs
  have hsz' : (DataW.weightsEach Try.prog Try.f4.params.toList ds).all (· ≤ reachBytes) = true := by
    rw [show (OpenSpec.ofChange Rows.proofPiecesSpec).bare.plain.varTypes Try.checked.prog = [] from rfl, List.append_nil, List.append_nil] at hsz
    exact hsz
  exact contract H enc W base args ds [] before hval hW hsz'

theorem said : Rows.ProofPiecesSaid :=
  OpenClaim.holds_of_cond 4 Try.f4 rfl rfl rfl rfl rfl rfl rfl ⟨rfl, rfl, rfl, rfl, rfl⟩ rfl rfl rfl rfl rfl (by kernel_rfl) Try.func4 (by kernel_rfl)
    (of_decide_eq_true (by kernel_rfl)) (by unfold Func.isWrapper; first | (rw [if_pos (by decide +kernel)]; kernel_rfl) | (rw [if_neg (by decide +kernel)]; exact ⟨rfl, rfl⟩))
    (fun os started H enc _ F => by rw [OpenClaim.pre_eq_preRow]; exact lifted os started H enc F)

#print axioms said
end Go.Proofs.Ytmdkfhfkdcbpgaa.proofPiecesRow
