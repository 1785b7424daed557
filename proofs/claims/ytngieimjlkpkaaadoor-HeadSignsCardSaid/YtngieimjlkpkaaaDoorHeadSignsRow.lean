/-
  HeadSigns (docketlaw16): for any head and any two keys the program signs and checks as the document does, at the sign handed in, at the document's own sign and at a sign under the key's name, and what is handed in stays as it is. Conditions: the round table of package docket/digest holds what its initialiser lays (tied by the card).
-/
import Derived.Test.YtngieimjlkpkaaaDoorCards
import Derived.Test.YtngieimjlkpkaaaDoorTie
import Derived.Test.YtngieimjlkpkaaaDoorRow
import Derived.Test.YtngieimjlkpkaaaDoorHeadSigns
import Derived.ProofKit
import Derived.OpenShut
import Derived.Deep.DeepHandedRow
import Derived.LaidMore
import Derived.Lib.LaidTab
import Derived.Stop.LaidErr
namespace Go.Proofs.YtngieimjlkpkaaaDoor.headSignsRow
open Go Go.ChangeShapes Go.WideShapes Go.ChangeAt Go.RowKit Go.Proofs.YtngieimjlkpkaaaDoor Go.Proofs.YtngieimjlkpkaaaDoor.Mem Go.Proofs.YtngieimjlkpkaaaDoor.Row Go.Proofs.YtngieimjlkpkaaaDoor.Sha Go.Proofs.YtngieimjlkpkaaaDoor.Bytes Go.Proofs.YtngieimjlkpkaaaDoor.HashMem
set_option linter.unusedVariables false

theorem own : ownKnob Tryd.prog.godebug = none := by kernel_rfl
theorem laidOut : laidOutB Tryd.prog = true := by kernel_rfl
theorem gTab : Tryd.prog.globalNamed "docket/digest.round" = some 2 := by kernel_rfl
theorem gTabType : (Tryd.prog.globals[2]?).map (·.type) = some 123 := by kernel_rfl
theorem cells64 : Tryd.prog.cellsOf 123 = 64 := by kernel_rfl
theorem cells1 : Tryd.prog.cellsOf 92 = 1 := by kernel_rfl
theorem base {W : World} (h : laidMetH Tryd.prog Rows.headSignsRow.laid W) : Base W := by
  have h2 : laidMet Tryd.prog Rows.headSignsRow.laid W := by
    rw [MakeChecks.laidMetH_plain _ _ _ (by kernel_rfl)] at h
    exact h
  have h3 : Lib.TabIs Tryd.prog W "docket/digest.round" .u32 (Ktab.map Int.ofNat) := Lib.tabIs_of_head (rest := []) gTab gTabType Tryd.underlying123 Tryd.underlying92 cells1 cells64 h2
  have hc : ∀ j, j < 64 → W.cell? ⟨2, j, none⟩ = some (.int .u32 (u (K j))) := fun j hj => by
    have := h3.cell gTab j (by simpa [Ktab] using hj)
    rw [this]
    have hall : ∀ i, i < 64 → ((Ktab.map Int.ofNat).getD i 0) = u (K i) := by decide +kernel
    rw [← hall j hj]
  exact ⟨World.block_lt_of_cell? W ⟨2, 0, none⟩ (hc 0 (by omega)), hc⟩

def headKs : List CK := reps 32 [.int .u8] ++ ([.int .i64] ++ (reps 32 [.int .u8] ++ (reps 32 [.int .u8] ++ [.int .i64])))
theorem fits_i64 {cs : List Value} (h : Fits [.int .i64] cs) : ∃ n : Int, cs = [.int .i64 n] ∧ -9223372036854775808 ≤ n ∧ n ≤ 9223372036854775807 := by
  have hl := h.length
  match cs, hl, h with
  | [v], _, h =>
    obtain ⟨n, rfl, hw⟩ := h.1
    exact ⟨n, rfl, by simpa [Lit.wf, IntKind.min, IntKind.max, IntKind.signed, IntKind.bits] using hw⟩
theorem fits_head (cs : List Value) (h : Fits headKs cs) : ∃ h : HeadMem.HeadD, h.Ok ∧ cs = HeadMem.headCells h := by
  unfold headKs at h
  obtain ⟨h1, h2⟩ := h.split
  obtain ⟨h3, h4⟩ := h2.split
  obtain ⟨h5, h6⟩ := h4.split
  obtain ⟨h7, h8⟩ := h6.split
  obtain ⟨q1, e1, f1⟩ := fits_bytes _ _ h1
  obtain ⟨n2, f2, b2⟩ := fits_i64 h3
  obtain ⟨q3, e3, f3⟩ := fits_bytes _ _ h5
  obtain ⟨q4, e4, f4⟩ := fits_bytes _ _ h7
  obtain ⟨n5, f5, b5⟩ := fits_i64 h8
  refine ⟨⟨q1, n2, q3, q4, n5⟩, ⟨e1, e3, e4, b2, b5⟩, ?_⟩
  unfold HeadMem.headCells
  show cs = cells8 q1 ++ ([.int .i64 n2] ++ (cells8 q3 ++ (cells8 q4 ++ [.int .i64 n5])))
  rw [← f1, ← f2, ← f3, ← f4, ← f5, List.take_append_drop, List.take_append_drop, List.take_append_drop, List.take_append_drop]
def exHead : Value := Value.agg (List.toArray (List.replicate 32 (Value.int .u8 0) ++ [Value.int .i64 0] ++ List.replicate 32 (Value.int .u8 0) ++ List.replicate 32 (Value.int .u8 0) ++ [Value.int .i64 0]))
def signKs : List CK := reps 32 [.int .u8] ++ reps 32 [.int .u8]
theorem fits_sign (cs : List Value) (h : Fits signKs cs) : ∃ s : Text, s.length = 64 ∧ cs = cells8 s := by
  unfold signKs at h
  obtain ⟨h1, h2⟩ := h.split
  obtain ⟨q1, e1, f1⟩ := fits_bytes _ _ h1
  obtain ⟨q2, e2, f2⟩ := fits_bytes _ _ h2
  refine ⟨q1 ++ q2, by rw [List.length_append, e1, e2], ?_⟩
  have e : cells8 (q1 ++ q2) = cells8 q1 ++ cells8 q2 := by simp [cells8]
  rw [e, ← f1, ← f2, List.take_append_drop]

set_option maxRecDepth 100000 in
theorem contract (H : Type) (enc : TypeId × Value → H) (W : World) (base0 : Nat) (args : Array Value) (ds gs : List (DataW H)) (before : List MemPlace)
    (hval : ∀ (j : Nat) t v, Tryd.f7.params[j]? = some t → args[j]? = some v → Value.okWide Tryd.prog W .any base0 t v)
    (hW : DataW.Whole enc Tryd.prog Tryd.f7.params.toList Rows.headSignsSpec.vars false W args.toList ds gs before)
    (hsz : (DataW.weightsEach Tryd.prog Tryd.f7.params.toList ds).all (· ≤ reachBytes) = true)
    (hL : laidMetH Tryd.prog Rows.headSignsRow.laid W)
    : Calls Tryd.prog 7 args W fun e W' => ∃ v, e = .returned v ∧ Rows.headSignsSpec.post enc Tryd.prog Tryd.f7 false true false false W args v W' := by
  have hW' := hW
  obtain ⟨p, q, hA0, hV, rfl, hfz, hnd⟩ := hW
  have hlt : ∀ x ∈ p, x.block < W.heap.size := fun x hx => hW'.lt x (by simp [hx])
  have hA : DataW.TrodAll enc Tryd.prog W 0 (fun _ => true) true Tryd.f7.params.toList args.toList ds p := hA0
  rw [Tryd.params7] at hA hval hsz
  obtain ⟨v0, vs0, d0, ds0, p0, q0, hargs, rfl, rfl, h0, r0⟩ := trodAll_cons hA
  obtain ⟨v1, vs1, d1, ds1, p1, q1, rfl, rfl, rfl, h1, r1⟩ := trodAll_cons r0
  obtain ⟨v2, vs2, d2, ds2, p2, q2, rfl, rfl, rfl, h2, r2⟩ := trodAll_cons r1
  obtain ⟨v3, vs3, d3, ds3, p3, q3, rfl, rfl, rfl, h3, r3⟩ := trodAll_cons r2
  obtain ⟨rfl, rfl, rfl⟩ := trodAll_nil r3
  obtain rfl : args = #[v0, v1, v2, v3] := by cases args; simp_all
  obtain ⟨rfl, rfl⟩ := trodVars_none hV
  obtain ⟨cs0, rfl, hf0⟩ := open_agg (ks := headKs) (N := 4) (.inl ⟨_, Tryd.underlying49⟩) (by kernel_rfl) (hval 0 49 v0 rfl rfl) h0
  obtain ⟨A1, n1, c1, q1, rfl, hq1, hn1, hc1, hnil1, hr1, hbulk1⟩ := open_bytes Tryd.underlying28 Tryd.underlying5 (by kernel_rfl) (hval 1 28 v1 rfl rfl) h1
  have k1 := hbulk1.le hsz (j := 1) (t := 28) rfl rfl Tryd.underlying28 1 (by kernel_rfl)
  obtain ⟨A2, n2, c2, q2, rfl, hq2, hn2, hc2, hnil2, hr2, hbulk2⟩ := open_bytes Tryd.underlying28 Tryd.underlying5 (by kernel_rfl) (hval 2 28 v2 rfl rfl) h2
  have k2 := hbulk2.le hsz (j := 2) (t := 28) rfl rfl Tryd.underlying28 1 (by kernel_rfl)
  obtain ⟨cs3, rfl, hf3⟩ := open_agg (ks := signKs) (N := 4) (.inl ⟨_, Tryd.underlying51⟩) (by kernel_rfl) (hval 3 51 v3 rfl rfl) h3
  have hBase := base hL
  obtain ⟨hd, hok, rfl⟩ := fits_head cs0 hf0
  obtain ⟨sg, hsg, rfl⟩ := fits_sign cs3 hf3
  refine (HeadSigns.headSigns_any hd hok q1 q2 sg n1 n2 hq1 hq2 hsg A1 A2 c1 c2 W hBase hr1 hr2 hn1 hn2 hnil1 hnil2 (by omega)).mono fun e W' ⟨he, bel⟩ => ?_
  subst he
  exact ⟨_, rfl, _, _, _, [], _, [], hW', trodAll_mk1 (shut_bool Tryd.underlying4 _), carryAll laidOut bel (by kernel_rfl) hA0 hlt, rfl, bel.frame _, fun h => by cases h⟩

theorem laid_met (os : Os) (args : Array Value) : laidMetH Tryd.prog Rows.headSignsRow.laid ((World.doorLaid Tryd.prog 24 os).forCall (fun _ _ => 0) ⟨#[], args, []⟩).memory :=
  laidMetH_of_parts3 (fuel := 8) (laidMet_of_run' 8 (by kernel_rfl) (by kernel_rfl)) (by kernel_rfl) (by kernel_rfl)
theorem reads (os : Os) {H : Type} (enc : TypeId × Value → H) : ∃ places, DataW.whole enc Tryd.prog ((World.doorLaid Tryd.prog 24 os).forCall (fun _ _ => 0) ⟨#[], #[exHead, .slice none 0 0, .slice none 0 0, .agg (Array.replicate 64 (.int .u8 0))], []⟩).memory Tryd.f7.params.toList Rows.headSignsSpec.vars false (#[exHead, .slice none 0 0, .slice none 0 0, .agg (Array.replicate 64 (.int .u8 0))] : Array Value).toList 8 = some ([.agg [.agg (List.replicate 32 (.lit (.int .u8 0))), .lit (.int .i64 0), .agg (List.replicate 32 (.lit (.int .u8 0))), .agg (List.replicate 32 (.lit (.int .u8 0))), .lit (.int .i64 0)], .nil, .nil, .agg [.agg (List.replicate 32 (.lit (.int .u8 0))), .agg (List.replicate 32 (.lit (.int .u8 0)))]], [], places) :=
  ⟨[], by kernel_rfl⟩

set_option maxRecDepth 100000 in
theorem lifted (os : Os) (started : os.Started) (H : Type) (enc : TypeId × Value → H) (F : Stop.Interp) :
    ReturnsInHanded {} Tryd.checked os 7 .any ((OpenSpec.ofChange Rows.headSignsSpec).preRow enc Tryd.prog Tryd.f7 Rows.headSignsRow.domain false Rows.headSignsRow.laid) (((OpenSpec.ofChange Rows.headSignsSpec).at F).post enc Tryd.prog Tryd.f7 false true false false) := by
  obtain ⟨places, hx⟩ := reads os enc
  refine returnsInHanded_of_row (C := Tryd.checked) (s := OpenSpec.ofChange Rows.headSignsSpec) own started (by kernel_rfl) Tryd.func7
    (witness_row_at (enc := enc) (C := Tryd.checked) false (World.doorLaid Tryd.prog 24 os) #[exHead, .slice none 0 0, .slice none 0 0, .agg (Array.replicate 64 (.int .u8 0))] rfl (by kernel_rfl) (by kernel_rfl) (by kernel_rfl)
      (OpenSpec.preRow_of_cond 8 hx (by kernel_rfl) (fun k hk => by cases hk) (by kernel_rfl) (laid_met os _))) ?_
  intro W base args ds gs before hval hW _ hcond hsz hL _ _
  have hgs : gs = [] := by obtain ⟨_, _, _, hV, _⟩ := hW; exact (trodVars_none hV).1
  subst hgs
  have hsz' : (DataW.weightsEach Tryd.prog Tryd.f7.params.toList ds).all (· ≤ reachBytes) = true := by
    rw [show (OpenSpec.ofChange Rows.headSignsSpec).bare.plain.varTypes Tryd.checked.prog = [] from rfl, List.append_nil, List.append_nil] at hsz
    exact hsz
  exact contract H enc W base args ds [] before hval hW hsz' hL

theorem said : Rows.HeadSignsSaid :=
  OpenClaim.holds_of_cond 7 Tryd.f7 rfl rfl rfl rfl rfl rfl rfl ⟨rfl, rfl, rfl, rfl, rfl⟩ rfl rfl rfl rfl rfl (by kernel_rfl) Tryd.func7 (by kernel_rfl)
    (of_decide_eq_true (by kernel_rfl)) (by unfold Func.isWrapper; first | (rw [if_pos (by decide +kernel)]; kernel_rfl) | (rw [if_neg (by decide +kernel)]; exact ⟨rfl, rfl⟩))
    (fun os started H enc _ F => by rw [OpenClaim.pre_eq_preRow]; exact lifted os started H enc F)

theorem plain (f : FuncId) (fn : Func) (hf : Tryd.pinned.checked.prog.funcNamed "docket/docketlaw16.HeadSigns" = some f) (hfn : Tryd.pinned.checked.prog.funcs[f]? = some fn) :
    false = Tryd.pinned.checked.prog.looks [] ∧ ∀ (j : Nat) t, fn.params[j]? = some t → Tryd.pinned.checked.prog.wantsStandIn t = false := by
  obtain rfl : f = 7 := Option.some.inj ((show Tryd.prog.funcNamed "docket/docketlaw16.HeadSigns" = some 7 by kernel_rfl).symm.trans hf) |>.symm
  obtain rfl : fn = Tryd.f7 := (Option.some.inj (Tryd.func7.symm.trans hfn)).symm
  refine ⟨by kernel_rfl, fun j t ht => ?_⟩
  rw [Tryd.params7] at ht
  have hm : t ∈ ([49, 28, 28, 51] : List TypeId) := by simpa using Array.mem_of_getElem? ht
  have hall : (([49, 28, 28, 51] : List TypeId).all fun u => !Tryd.prog.wantsStandIn u) = true := by kernel_rfl
  exact (show Tryd.prog.wantsStandIn t = false by simpa using List.all_eq_true.1 hall t hm)

theorem card : Rows.HeadSignsCardSaid :=
  Claim7.holds_tied_plain_at .later [] _ _ _ _ said (fun _ h => by cases h) (by kernel_rfl) (fun _ h => by cases h) headSigns_row_tie rfl ⟨rfl, rfl⟩ (by kernel_rfl) rfl plain (by kernel_rfl)
#print axioms card
end Go.Proofs.YtngieimjlkpkaaaDoor.headSignsRow
