/-
  HeadHeads (docketlaw16): for any head and any bytes the program lays the head down as the document does and reads the bytes as a head as the document does, at the bytes themselves, at the head's own bytes, and at these with any bit of the kind or of the two numbers turned; what is handed in stays as it is. Conditions: none.
-/
import Derived.Test.YtngieimjlkpkaaaRows
import Derived.Test.YtngieimjlkpkaaaRow
import Derived.Test.YtngieimjlkpkaaaHeadHeads
import Derived.ProofKit
import Derived.OpenShut
import Derived.Deep.DeepHandedRow
import Derived.LaidMore
namespace Go.Proofs.Ytngieimjlkpkaaa.headHeadsRow
open Go Go.ChangeShapes Go.WideShapes Go.ChangeAt Go.RowKit Go.Proofs.Ytngieimjlkpkaaa Go.Proofs.Ytngieimjlkpkaaa.Mem Go.Proofs.Ytngieimjlkpkaaa.Row Go.Proofs.Ytngieimjlkpkaaa.Sha Go.Proofs.Ytngieimjlkpkaaa.Bytes Go.Proofs.Ytngieimjlkpkaaa.Sha Go.Proofs.Ytngieimjlkpkaaa.Bytes
set_option linter.unusedVariables false

theorem own : ownKnob Try.prog.godebug = none := by kernel_rfl
theorem laidOut : laidOutB Try.prog = true := by kernel_rfl
def headKs : List CK := reps 32 [.int .u8] ++ ([.int .i64] ++ (reps 32 [.int .u8] ++ (reps 32 [.int .u8] ++ [.int .i64])))
theorem fits_i64 {cs : List Value} (h : Fits [.int .i64] cs) : ∃ n : Int, cs = [.int .i64 n] ∧ -9223372036854775808 ≤ n ∧ n ≤ 9223372036854775807 := by
  have hl := h.length
  match cs, hl, h with
  | [v], _, h =>
    obtain ⟨n, rfl, hw⟩ := h.1
    exact ⟨n, rfl, by simpa [Lit.wf, IntKind.min, IntKind.max, IntKind.signed, IntKind.bits] using hw⟩
theorem fits_head (cs : List Value) (h : Fits headKs cs) : ∃ h : HeadMem.HeadD, h.Ok ∧ cs = HeadMem.headCells h := by
  unfold headKs at h
  obtain ⟨h1, h2⟩ := h.split
  obtain ⟨h3, h4⟩ := h2.split
  obtain ⟨h5, h6⟩ := h4.split
  obtain ⟨h7, h8⟩ := h6.split
  obtain ⟨q1, e1, f1⟩ := fits_bytes _ _ h1
  obtain ⟨n2, f2, b2⟩ := fits_i64 h3
  obtain ⟨q3, e3, f3⟩ := fits_bytes _ _ h5
  obtain ⟨q4, e4, f4⟩ := fits_bytes _ _ h7
  obtain ⟨n5, f5, b5⟩ := fits_i64 h8
  refine ⟨⟨q1, n2, q3, q4, n5⟩, ⟨e1, e3, e4, b2, b5⟩, ?_⟩
  unfold HeadMem.headCells
  show cs = cells8 q1 ++ ([.int .i64 n2] ++ (cells8 q3 ++ (cells8 q4 ++ [.int .i64 n5])))
  rw [← f1, ← f2, ← f3, ← f4, ← f5, List.take_append_drop, List.take_append_drop, List.take_append_drop, List.take_append_drop]
def exHead : Value := Value.agg (List.toArray (List.replicate 32 (Value.int .u8 0) ++ [Value.int .i64 0] ++ List.replicate 32 (Value.int .u8 0) ++ List.replicate 32 (Value.int .u8 0) ++ [Value.int .i64 0]))

set_option maxRecDepth 100000 in
theorem contract (H : Type) (enc : TypeId × Value → H) (W : World) (base0 : Nat) (args : Array Value) (ds gs : List (DataW H)) (before : List MemPlace)
    (hval : ∀ (j : Nat) t v, Try.f6.params[j]? = some t → args[j]? = some v → Value.okWide Try.prog W .any base0 t v)
    (hW : DataW.Whole enc Try.prog Try.f6.params.toList Rows.headHeadsSpec.vars false W args.toList ds gs before)
    (hsz : (DataW.weightsEach Try.prog Try.f6.params.toList ds).all (· ≤ reachBytes) = true)
    : Calls Try.prog 6 args W fun e W' => ∃ v, e = .returned v ∧ Rows.headHeadsSpec.post enc Try.prog Try.f6 false true false false W args v W' := by
  have hW' := hW
  obtain ⟨p, q, hA0, hV, rfl, hfz, hnd⟩ := hW
  have hlt : ∀ x ∈ p, x.block < W.heap.size := fun x hx => hW'.lt x (by simp [hx])
  have hA : DataW.TrodAll enc Try.prog W 0 (fun _ => true) true Try.f6.params.toList args.toList ds p := hA0
  rw [Try.params6] at hA hval hsz
  obtain ⟨v0, vs0, d0, ds0, p0, q0, hargs, rfl, rfl, h0, r0⟩ := trodAll_cons hA
  obtain ⟨v1, vs1, d1, ds1, p1, q1, rfl, rfl, rfl, h1, r1⟩ := trodAll_cons r0
  obtain ⟨rfl, rfl, rfl⟩ := trodAll_nil r1
  obtain rfl : args = #[v0, v1] := by cases args; simp_all
  obtain ⟨rfl, rfl⟩ := trodVars_none hV
  obtain ⟨cs0, rfl, hf0⟩ := open_agg (ks := headKs) (N := 4) (.inl ⟨_, Try.underlying30⟩) (by kernel_rfl) (hval 0 30 v0 rfl rfl) h0
  obtain ⟨A1, n1, c1, q1, rfl, hq1, hn1, hc1, hnil1, hr1, hbulk1⟩ := open_bytes Try.underlying23 Try.underlying5 (by kernel_rfl) (hval 1 23 v1 rfl rfl) h1
  have k1 := hbulk1.le hsz (j := 1) (t := 23) rfl rfl Try.underlying23 1 (by kernel_rfl)
  obtain ⟨hd, hok, rfl⟩ := fits_head cs0 hf0
  refine (HeadHeads.headHeads_any hd hok q1 n1 hq1 (by omega) A1 c1 hn1 W hr1).mono fun e W' ⟨he, bel⟩ => ?_
  subst he
  exact ⟨_, rfl, _, _, _, [], _, [], hW', trodAll_mk1 (shut_bool Try.underlying4 _), carryAll laidOut bel (by kernel_rfl) hA0 hlt, rfl, bel.frame _, fun h => by cases h⟩

theorem laid_met (os : Os) (args : Array Value) : laidMetH Try.prog Rows.headHeadsRow.laid ((World.doorLaid Try.prog 24 os).forCall (fun _ _ => 0) ⟨#[], args, []⟩).memory :=
  laidMetH_nil _ _
theorem reads (os : Os) {H : Type} (enc : TypeId × Value → H) : ∃ places, DataW.whole enc Try.prog ((World.doorLaid Try.prog 24 os).forCall (fun _ _ => 0) ⟨#[], #[exHead, .slice none 0 0], []⟩).memory Try.f6.params.toList Rows.headHeadsSpec.vars false (#[exHead, .slice none 0 0] : Array Value).toList 8 = some ([.agg [.agg (List.replicate 32 (.lit (.int .u8 0))), .lit (.int .i64 0), .agg (List.replicate 32 (.lit (.int .u8 0))), .agg (List.replicate 32 (.lit (.int .u8 0))), .lit (.int .i64 0)], .nil], [], places) :=
  ⟨[], by kernel_rfl⟩

set_option maxRecDepth 100000 in
theorem lifted (os : Os) (started : os.Started) (H : Type) (enc : TypeId × Value → H) (F : Stop.Interp) :
    ReturnsInHanded {} Try.checked os 6 .any ((OpenSpec.ofChange Rows.headHeadsSpec).preRow enc Try.prog Try.f6 Rows.headHeadsRow.domain false Rows.headHeadsRow.laid) (((OpenSpec.ofChange Rows.headHeadsSpec).at F).post enc Try.prog Try.f6 false true false false) := by
  obtain ⟨places, hx⟩ := reads os enc
  refine returnsInHanded_of_row (C := Try.checked) (s := OpenSpec.ofChange Rows.headHeadsSpec) own started (by kernel_rfl) Try.func6
    (witness_row_at (enc := enc) (C := Try.checked) false (World.doorLaid Try.prog 24 os) #[exHead, .slice none 0 0] rfl (by kernel_rfl) (by kernel_rfl) (by kernel_rfl)
      (OpenSpec.preRow_of_cond 8 hx (by kernel_rfl) (fun k hk => by cases hk) (by kernel_rfl) (laid_met os _))) ?_
  intro W base args ds gs before hval hW _ hcond hsz hL _ _
  have hgs : gs = [] := by obtain ⟨_, _, _, hV, _⟩ := hW; exact (trodVars_none hV).1
  subst hgs
  have hsz' : (DataW.weightsEach Try.prog Try.f6.params.toList ds).all (· ≤ reachBytes) = true := by
    rw [show (OpenSpec.ofChange Rows.headHeadsSpec).bare.plain.varTypes Try.checked.prog = [] from rfl, List.append_nil, List.append_nil] at hsz
    exact hsz
  exact contract H enc W base args ds [] before hval hW hsz'

theorem said : Rows.HeadHeadsSaid :=
  OpenClaim.holds_of_cond 6 Try.f6 rfl rfl rfl rfl rfl rfl rfl ⟨rfl, rfl, rfl, rfl, rfl⟩ rfl rfl rfl rfl rfl (by kernel_rfl) Try.func6 (by kernel_rfl)
    (of_decide_eq_true (by kernel_rfl)) (by unfold Func.isWrapper; first | (rw [if_pos (by decide +kernel)]; kernel_rfl) | (rw [if_neg (by decide +kernel)]; exact ⟨rfl, rfl⟩))
    (fun os started H enc _ F => by rw [OpenClaim.pre_eq_preRow]; exact lifted os started H enc F)

#print axioms said
end Go.Proofs.Ytngieimjlkpkaaa.headHeadsRow
