
import Derived.Test.YtgldkfaiofkhbaaDoorCards
import Derived.Test.YtgldkfaiofkhbaaDoorTie
import Derived.Test.YtgldkfaiofkhbaaDoorZ21
import Derived.Test.YtgldkfaiofkhbaaDoorZ38
import Derived.Test.YtgldkfaiofkhbaaDoorZ22
import Derived.Test.YtgldkfaiofkhbaaDoorZ24
import Derived.ProofKit
import Derived.OpenShut
import Derived.Deep.DeepHandedRow
import Derived.LaidMore
import Derived.Lib.LaidTab
import Derived.Stop.LaidErr
namespace Go.Proofs.YtgldkfaiofkhbaaDoor.proofSpeltRow
open Go Go.ChangeShapes Go.WideShapes Go.ChangeAt Go.RowKit Go.Proofs.YtgldkfaiofkhbaaDoor Go.Proofs.YtgldkfaiofkhbaaDoor.Mem Go.Proofs.YtgldkfaiofkhbaaDoor.Row Go.Proofs.YtgldkfaiofkhbaaDoor.Sha Go.Proofs.YtgldkfaiofkhbaaDoor.Bytes Go.Proofs.YtgldkfaiofkhbaaDoor.HashMem Go.Proofs.YtgldkfaiofkhbaaDoor.TreeMem Go.Proofs.YtgldkfaiofkhbaaDoor.Ref17 Go.Proofs.YtgldkfaiofkhbaaDoor.RowIncl Go.Proofs.YtgldkfaiofkhbaaDoor.RowCons Go.Proofs.YtgldkfaiofkhbaaDoor.ProofIdx3 Go.Proofs.YtgldkfaiofkhbaaDoor.RowIdx
set_option linter.unusedVariables false

theorem own : ownKnob Tryd.prog.godebug = none := by kernel_rfl
theorem laidOut : laidOutB Tryd.prog = true := by kernel_rfl
theorem gTab : Tryd.prog.globalNamed "docket/digest.round" = some 1 := by kernel_rfl
theorem gTabType : (Tryd.prog.globals[1]?).map (·.type) = some 259 := by kernel_rfl
theorem cells64 : Tryd.prog.cellsOf 259 = 64 := by kernel_rfl
theorem cells1 : Tryd.prog.cellsOf 152 = 1 := by kernel_rfl
theorem base {W : World} (h : laidMetH Tryd.prog Rows.proofSpeltRow.laid W) : Base W := by
  have h2 : laidMet Tryd.prog Rows.proofSpeltRow.laid W := by
    rw [MakeChecks.laidMetH_plain _ _ _ (by kernel_rfl)] at h
    exact h
  have h3 : Lib.TabIs Tryd.prog W "docket/digest.round" .u32 (Ktab.map Int.ofNat) := Lib.tabIs_of_head (rest := []) gTab gTabType Tryd.underlying259 Tryd.underlying152 cells1 cells64 h2.tail.tail
  have hc : ∀ j, j < 64 → W.cell? ⟨1, j, none⟩ = some (.int .u32 (u (K j))) := fun j hj => by
    have := h3.cell gTab j (by simpa [Ktab] using hj)
    rw [this]
    have hall : ∀ i, i < 64 → ((Ktab.map Int.ofNat).getD i 0) = u (K i) := by decide +kernel
    rw [← hall j hj]
  exact ⟨World.block_lt_of_cell? W ⟨1, 0, none⟩ (hc 0 (by omega)), hc⟩

theorem gTabB : Tryd.prog.globalNamed "math/bits.deBruijn64tab" = some 3 := by kernel_rfl
theorem gTabTypeB : (Tryd.prog.globals[3]?).map (·.type) = some 235 := by kernel_rfl
theorem cells64B : Tryd.prog.cellsOf 235 = 64 := by kernel_rfl
theorem cells1B : Tryd.prog.cellsOf 5 = 1 := by kernel_rfl
theorem tab_at {W : World} (h : laidMetH Tryd.prog Rows.proofSpeltRow.laid W) : TabAt 3 Lib.deBruijn64tab W := fun j hj => by
  have h2 : laidMet Tryd.prog Rows.proofSpeltRow.laid W := by
    rw [MakeChecks.laidMetH_plain _ _ _ (by kernel_rfl)] at h
    exact h
  have h3 : Lib.TabIs Tryd.prog W "math/bits.deBruijn64tab" .u8 (Lib.deBruijn64tab.map Int.ofNat) := Lib.tabIs_of_head (rest := _) gTabB gTabTypeB Tryd.underlying235 Tryd.underlying5 cells1B cells64B h2.tail
  have := h3.cell gTabB j (by simpa using hj)
  rw [this]
  simp [List.getD, hj]
theorem tab_pos : 0 < Lib.deBruijn64tab.length := by decide +kernel
theorem tab_lt {W : World} (h : TabAt 3 Lib.deBruijn64tab W) : 3 < W.heap.size := World.block_lt_of_cell? W ⟨3, 0, none⟩ (h 0 tab_pos)

def exIdx : Value := Value.agg (List.toArray ([Value.string ⟨#[]⟩, Value.bool false, Value.int .i64 0] ++ List.replicate 64 (Value.int .u8 0) ++ [Value.slice none 0 0]))

set_option maxRecDepth 100000 in
theorem contract (H : Type) (enc : TypeId × Value → H) (W : World) (base0 : Nat) (args : Array Value) (ds gs : List (DataW H)) (before : List MemPlace)
    (hval : ∀ (j : Nat) t v, Tryd.f4.params[j]? = some t → args[j]? = some v → Value.okWide Tryd.prog W .any base0 t v)
    (hW : DataW.Whole enc Tryd.prog Tryd.f4.params.toList Rows.proofSpeltSpec.vars false W args.toList ds gs before)
    (hsz : (DataW.weightsEach Tryd.prog Tryd.f4.params.toList ds).all (· ≤ reachBytes) = true)
    (hL : laidMetH Tryd.prog Rows.proofSpeltRow.laid W)
    : Calls Tryd.prog 4 args W fun e W' => ∃ v, e = .returned v ∧ Rows.proofSpeltSpec.post enc Tryd.prog Tryd.f4 false true false false W args v W' := by
  have hW' := hW
  obtain ⟨p, q, hA0, hV, rfl, hfz, hnd⟩ := hW
  have hlt : ∀ x ∈ p, x.block < W.heap.size := fun x hx => hW'.lt x (by simp [hx])
  have hA : DataW.TrodAll enc Tryd.prog W 0 (fun _ => true) true Tryd.f4.params.toList args.toList ds p := hA0
  rw [Tryd.params4] at hA hval hsz
  obtain ⟨v0, vs0, d0, ds0, p0, q0, hargs, rfl, rfl, h0, r0⟩ := trodAll_cons hA
  obtain ⟨v1, vs1, d1, ds1, p1, q1, rfl, rfl, rfl, h1, r1⟩ := trodAll_cons r0
  obtain ⟨v2, vs2, d2, ds2, p2, q2, rfl, rfl, rfl, h2, r2⟩ := trodAll_cons r1
  obtain ⟨v3, vs3, d3, ds3, p3, q3, rfl, rfl, rfl, h3, r3⟩ := trodAll_cons r2
  obtain ⟨rfl, rfl, rfl⟩ := trodAll_nil r3
  obtain rfl : args = #[v0, v1, v2, v3] := by cases args; simp_all
  obtain ⟨rfl, rfl⟩ := trodVars_none hV
  obtain ⟨x0, y0, A0, n0, c0, qs0, rfl, hn0, hr0⟩ := open_incl (hval 0 51 v0 rfl rfl) h0
  obtain ⟨x1, y1, A1, n1, c1, qs1, rfl, hn1, hr1⟩ := open_cons (hval 1 44 v1 rfl rfl) h1
  obtain ⟨s2, f2, cnt2, ch2, bm2, A2, n2, c2, qs2, rfl, hch2, hbm2, hn2, hr2, hnil2, parts2, hd2⟩ := open_idx (hval 2 55 v2 rfl rfl) h2
  have hs2 := name_size hsz (j := 2) (t := 55) rfl (by rw [← hd2]; rfl) Tryd.underlying55
  obtain ⟨A3, n3, c3, q3, rfl, hq3, hn3, hc3, hnil3, hr3, hbulk3⟩ := open_bytes Tryd.underlying31 Tryd.underlying5 (by kernel_rfl) (hval 3 31 v3 rfl rfl) h3
  have k3 := hbulk3.le hsz (j := 3) (t := 31) rfl rfl Tryd.underlying31 1 (by kernel_rfl)
  have hBase := base hL
  have hTab := tab_at hL

  refine (ProofSpelt.proofSpelt_any x0 y0 qs0 n0 A0 c0 hn0 x1 y1 qs1 n1 A1 c1 hn1 s2 (by omega) f2 cnt2 ch2 hch2 bm2 hbm2 qs2 n2 A2 c2 hn2 q3 n3 hq3 (by omega) A3 c3 W hBase hTab (tab_lt hTab) hr0 hr1 hr2 hr3 hnil3).mono fun e W' ⟨he, bel⟩ => ?_
  subst he
  exact ⟨_, rfl, _, _, _, [], _, [], hW', trodAll_mk1 (shut_bool Tryd.underlying4 _), carryAll laidOut bel (by kernel_rfl) hA0 hlt, rfl, bel.frame _, fun h => by cases h⟩

theorem laid_met (os : Os) (args : Array Value) : laidMetH Tryd.prog Rows.proofSpeltRow.laid ((World.doorLaid Tryd.prog 24 os).forCall (fun _ _ => 0) ⟨#[], args, []⟩).memory :=
  laidMetH_of_parts3 (fuel := 8) (laidMet_of_run' 8 (by kernel_rfl) (by kernel_rfl)) (by kernel_rfl) (by kernel_rfl)
theorem reads (os : Os) {H : Type} (enc : TypeId × Value → H) : ∃ places, DataW.whole enc Tryd.prog ((World.doorLaid Tryd.prog 24 os).forCall (fun _ _ => 0) ⟨#[], #[.agg #[.int .i64 0, .int .i64 0, .slice none 0 0], .agg #[.int .i64 0, .int .i64 0, .slice none 0 0], exIdx, .slice none 0 0], []⟩).memory Tryd.f4.params.toList Rows.proofSpeltSpec.vars false (#[.agg #[.int .i64 0, .int .i64 0, .slice none 0 0], .agg #[.int .i64 0, .int .i64 0, .slice none 0 0], exIdx, .slice none 0 0] : Array Value).toList 8 = some ([.agg [.lit (.int .i64 0), .lit (.int .i64 0), .nil], .agg [.lit (.int .i64 0), .lit (.int .i64 0), .nil], .agg [.lit (.string []), .lit (.bool false), .agg [.lit (.int .i64 0), .agg (List.replicate 32 (.lit (.int .u8 0)))], .agg (List.replicate 32 (.lit (.int .u8 0))), .nil], .nil], [], places) :=
  ⟨[], by kernel_rfl⟩

set_option maxRecDepth 100000 in
theorem lifted (os : Os) (started : os.Started) (H : Type) (enc : TypeId × Value → H) (F : Stop.Interp) :
    ReturnsInHanded {} Tryd.checked os 4 .any ((OpenSpec.ofChange Rows.proofSpeltSpec).preRow enc Tryd.prog Tryd.f4 Rows.proofSpeltRow.domain false Rows.proofSpeltRow.laid) (((OpenSpec.ofChange Rows.proofSpeltSpec).at F).post enc Tryd.prog Tryd.f4 false true false false) := by
  obtain ⟨places, hx⟩ := reads os enc
  refine returnsInHanded_of_row (C := Tryd.checked) (s := OpenSpec.ofChange Rows.proofSpeltSpec) own started (by kernel_rfl) Tryd.func4
    (witness_row_at (enc := enc) (C := Tryd.checked) false (World.doorLaid Tryd.prog 24 os) #[.agg #[.int .i64 0, .int .i64 0, .slice none 0 0], .agg #[.int .i64 0, .int .i64 0, .slice none 0 0], exIdx, .slice none 0 0] rfl (by kernel_rfl) (by kernel_rfl) (by kernel_rfl)
      (OpenSpec.preRow_of_cond 8 hx (by kernel_rfl) (fun k hk => by cases hk) (by kernel_rfl) (laid_met os _))) ?_
  intro W base args ds gs before hval hW _ hcond hsz hL _ _
  have hgs : gs = [] := by obtain ⟨_, _, _, hV, _⟩ := hW; exact (trodVars_none hV).1
  subst hgs
  have hsz' : (DataW.weightsEach Tryd.prog Tryd.f4.params.toList ds).all (· ≤ reachBytes) = true := by
    rw [show (OpenSpec.ofChange Rows.proofSpeltSpec).bare.plain.varTypes Tryd.checked.prog = [] from rfl, List.append_nil, List.append_nil] at hsz
    exact hsz
  exact contract H enc W base args ds [] before hval hW hsz' hL

theorem said : Rows.ProofSpeltSaid :=
  OpenClaim.holds_of_cond 4 Tryd.f4 rfl rfl rfl rfl rfl rfl rfl ⟨rfl, rfl, rfl, rfl, rfl⟩ rfl rfl rfl rfl rfl (by kernel_rfl) Tryd.func4 (by kernel_rfl)
    (of_decide_eq_true (by kernel_rfl)) (by unfold Func.isWrapper; first | (rw [if_pos (by decide +kernel)]; kernel_rfl) | (rw [if_neg (by decide +kernel)]; exact ⟨rfl, rfl⟩))
    (fun os started H enc _ F => by rw [OpenClaim.pre_eq_preRow]; exact lifted os started H enc F)

theorem plain (f : FuncId) (fn : Func) (hf : Tryd.pinned.checked.prog.funcNamed "docket/docketlaw17.ProofSpelt" = some f) (hfn : Tryd.pinned.checked.prog.funcs[f]? = some fn) :
    false = Tryd.pinned.checked.prog.looks [] ∧ ∀ (j : Nat) t, fn.params[j]? = some t → Tryd.pinned.checked.prog.wantsStandIn t = false := by
  obtain rfl : f = 4 := Option.some.inj ((show Tryd.prog.funcNamed "docket/docketlaw17.ProofSpelt" = some 4 by kernel_rfl).symm.trans hf) |>.symm
  obtain rfl : fn = Tryd.f4 := (Option.some.inj (Tryd.func4.symm.trans hfn)).symm
  refine ⟨by kernel_rfl, fun j t ht => ?_⟩
  rw [Tryd.params4] at ht
  have hm : t ∈ ([51, 44, 55, 31] : List TypeId) := by simpa using Array.mem_of_getElem? ht
  have hall : (([51, 44, 55, 31] : List TypeId).all fun u => !Tryd.prog.wantsStandIn u) = true := by kernel_rfl
  exact (show Tryd.prog.wantsStandIn t = false by simpa using List.all_eq_true.1 hall t hm)

theorem card : Rows.ProofSpeltCardSaid :=
  Claim7.holds_tied_plain_at .later [] _ _ _ _ said (fun _ h => by cases h) (by kernel_rfl) (fun _ h => by cases h) proofSpelt_row_tie rfl ⟨rfl, rfl⟩ (by kernel_rfl) rfl plain (by kernel_rfl)
#print axioms card
end Go.Proofs.YtgldkfaiofkhbaaDoor.proofSpeltRow
