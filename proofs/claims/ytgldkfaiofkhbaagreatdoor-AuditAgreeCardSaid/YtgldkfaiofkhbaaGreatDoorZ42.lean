/-
  Texts of the claim, put into one file: Extract.
-/
import Derived.Test.YtgldkfaiofkhbaaGreatDoorZ33
import Derived.Test.YtgldkfaiofkhbaaGreatDoorZ32
import Derived.Test.YtgldkfaiofkhbaaGreatDoorZ13
import Derived.Test.YtgldkfaiofkhbaaGreatDoorZ11
import Derived.Handy

namespace Go.Proofs.YtgldkfaiofkhbaaGreatDoor.Extract
open Go Go.RowKit Go.Proofs.YtgldkfaiofkhbaaGreatDoor Mem Sha Bytes HashMem TreeMem TreeRoot Go.Proofs.YtgldkfaiofkhbaaGreatDoor.Append Own Held Guard Node Texts AheadT RowsT RowsY Book Book2 TwiceP Clash

theorem results_cell_row2 {P : Program} {fn : Func} {p u : Tmp} {ty : TypeId} (h : fn.results = #[.cell p ty, .tmp u]) (tmps : Array Value) (w : World) (g : Nat) (t : TypeId) (cs : Array Value) (fr : Nat × Nat) (d : TypeDesc)
  (hp : tmps.getD p undef = .pointer (some ⟨g, 0, none⟩)) (hg : w.heap[g]? = some (.cells cs t fr))
  (hu : P.underlying ty = some d) (hd : (match d with | .struct _ | .array _ _ => true | _ => false) = true) (hi : (P.info? ty).map (·.size) = some cs.size) :
  (results fn tmps).run P w = .ok (.tuple #[.agg cs, tmps.getD u undef]) w := by
 have hp' : tmps[p]?.getD undef = .pointer (some ⟨g, 0, none⟩) := by simpa using hp
 simp [results, h, hp', asAddr, run_loadVar_row w g t ty cs fr d hg hu hd hi, Result.andThen]
structure Ans where
 T : TypeId
 x : Value
 tk : Bool
 ts : List Text
structure AnsOk (w : World) (a : Ans) : Prop where
 taken : ∃ ft, (∀ F w', F = Tryz.prog.types.size + Made.depth → (method F a.T a.x "docket/audit.taken").run Tryz.prog w' = .ok (ft, a.x) w') ∧ (∀ w', (callFunc ft #[a.x]).run Tryz.prog w' = .ok (.enter ft #[a.x]) w') ∧ ∀ w', Below w.heap.size w w' → Calls Tryz.prog ft #[a.x] w' fun e w'' => e = .returned (.bool a.tk) ∧ Below w'.heap.size w' w''
 texts : a.tk = true → ∃ fx, (∀ F w', F = Tryz.prog.types.size + Made.depth → (method F a.T a.x "docket/audit.texts").run Tryz.prog w' = .ok (fx, a.x) w') ∧ (∀ w', (callFunc fx #[a.x]).run Tryz.prog w' = .ok (.enter fx #[a.x]) w') ∧ ∀ w', Below w.heap.size w w' → Calls Tryz.prog fx #[a.x] w' fun e w'' => ∃ v xs, e = .returned v ∧ w''.ownsRow w'.heap.size 27 1 v a.ts.length xs ∧ Ty w'' xs a.ts ∧ Below w'.heap.size w' w''
 long : a.tk = true → ∀ q ∈ a.ts, 0 < q.length ∧ q.length < 140737488355328
 few : a.tk = true → a.ts.length ≤ 1000
theorem own_far {w w' : World} {B B2 g n : Nat} {e : TypeId} {v : Value} {xs : List Value} (h : w.ownsRow B e 1 v n xs) (hk : Kept (· = g) w w') (h2 : w.ownsRow B2 e 1 v n xs) (hg : g < B2) : w'.ownsRow B e 1 v n xs :=
 ⟨h.1, h.2.imp id fun ⟨b, cap, cur, h1, h3, h4, h5⟩ => ⟨b, cap, cur, h1, h3, (hk.block b (Array.getElem?_eq_some_iff.1 h4).1 (fun e => by
  rcases h2.2 with ⟨e1, -⟩ | ⟨b', cap', cur', e1, h6, -⟩
  ·rw [h1] at e1; injection e1 with e1; cases e1
  ·rw [h1] at e1
   injection e1 with e1
   injection e1 with e1
   injection e1 with e1
   omega)).trans h4, h5⟩⟩
theorem own_base {w : World} {B n : Nat} {e : TypeId} {v : Value} {xs : List Value} (h : w.ownsRow B e 1 v n xs) : ∀ k, v.ownBlock = some k → B ≤ k := fun k hk => by
 obtain ⟨A, c, rfl, -, -, -, -, hA⟩ := Append.Own.reads h
 cases A with
 | none => cases hk
 | some a => injection hk with hk; subst hk; exact (hA a rfl).1
def flat (L : List Ans) (j : Nat) : List Text := (L.take j).flatMap (·.ts)
theorem flat_succ {L : List Ans} {j : Nat} {a : Ans} (h : L[j]? = some a) : flat L (j + 1) = flat L j ++ a.ts := by
 unfold flat
 obtain ⟨hj, rfl⟩ := List.getElem?_eq_some_iff.1 h
 rw [List.take_succ_eq_append_getElem hj, List.flatMap_append]
 simp
def EPost (w : World) (s : Int) (L : List Ans) (e : Ending) (w' : World) : Prop :=
 Below w.heap.size w w' ∧ ((e = .returned (.tuple #[.agg #[Value.slice none 0 0, Value.slice none 0 0], .bool false]) ∧ ¬ ((∀ a ∈ L, a.tk = true) ∧ TwiceP.Met s (L.flatMap (·.ts)))) ∨
  ∃ va vb p q, e = .returned (.tuple #[.agg #[va, vb], .bool true]) ∧ (∀ a ∈ L, a.tk = true) ∧ p ∈ L.flatMap (·.ts) ∧ q ∈ L.flatMap (·.ts) ∧ p ≠ q ∧ sumOf s p = sumOf s q ∧ w'.ownsRow w.heap.size 5 1 va p.length (cells8 p) ∧ w'.ownsRow w.heap.size 5 1 vb q.length (cells8 q))
theorem sizeE2 : (Tryz.prog.info? 77).map (·.size) = some 2 := by kernel_rfl
theorem oneZ2 : ((#[Value.slice none 0 0, Value.slice none 0 0] : Array Value).all fun v => v.oneCell') = true := by rw [List.all_toArray]; rfl
set_option maxRecDepth 100000 in
set_option maxHeartbeats 2000000 in
theorem extract_any (s : Int) (L : List Ans) (n : Nat) (hn : L.length = n) (hn8 : n ≤ 8) (A : Option Addr) (c : Nat) (w : World) (hB : Base w) (hr : Reads w 1 A n (L.map fun a => .iface a.T a.x)) (hL : ∀ a ∈ L, AnsOk w a) :
  Calls Tryz.prog 71 #[.int .i64 s, .slice A n c] w (EPost w s L) := by
 obtain ⟨i0, ii, iz0, iz1, iz2⟩ := info_partsN infoT
 have hb0 : Hid (Below w.heap.size w (w.alloc (.cells #[Value.slice none 0 0, Value.slice none 0 0] 77))) := Below.heap_below w _
 have hR0 : Hid (Blk (w.alloc (.cells #[Value.slice none 0 0, Value.slice none 0 0] 77)) w.heap.size 77 #[Value.slice none 0 0, Value.slice none 0 0]) := Blk.new w _ _
 have hN : Hid ((n : Int) < 9223372036854775807) := by show _ < _; omega
 have hO0 : Hid ((w.alloc (.cells #[Value.slice none 0 0, Value.slice none 0 0] 77)).ownsRow (w.heap.size + 1) 27 1 (.slice none 0 0) 0 []) := ⟨rfl, .inl ⟨rfl, rfl⟩⟩
 have hbs0 : Hid (w.heap.size + 1 ≤ (w.alloc (.cells #[Value.slice none 0 0, Value.slice none 0 0] 77)).heap.size) := by show _ ≤ _; simp
 replace hn := Lib.hid hn
 replace hn8 := Lib.hid hn8
 replace hB := Lib.hid hB
 replace hr := Lib.hid hr
 replace hL := Lib.hid hL
 go_enter Tryz.func71, Tryz.ntmps71
 go_wp2_with fail
 go_loopw [6, 14] (fun v u wr => ∃ (j m : Nat) (xs : List Value), u = .int .i64 (j : Int) ∧ Hid (j ≤ n) ∧ Hid (∀ a ∈ L.take j, a.tk = true) ∧ Hid ((flat L j).length = m) ∧ Hid (m ≤ 1000 * j) ∧ Hid (wr.ownsRow (w.heap.size + 1) 27 1 v m xs) ∧ Hid (Ty wr xs (flat L j)) ∧ Hid (m = 0 → v = .slice none 0 0) ∧ Hid (∀ q ∈ flat L j, 0 < q.length ∧ q.length < 140737488355328) ∧ Hid (Blk wr w.heap.size 77 #[Value.slice none 0 0, Value.slice none 0 0]) ∧ Hid (Below w.heap.size w wr)) (fun _ u _ => n - (intOf u).toNat)
 case atStart => exact ⟨0, 0, [], rfl, (show 0 ≤ n by omega), (fun a h => by cases h), rfl, Nat.zero_le _, hO0.out, Ty.nil_ _, fun _ => rfl, (fun q h => by cases h), hR0.out, hb0.out⟩
 case round =>
  clear hO0 hb0 hR0 hbs0
  obtain ⟨j, m, xs, rfl, hj, htk, hm, hmj, hO, hT, hz, hq, hR, hb⟩ := hrel
  by_cases hlt : j < n
  ·have y1 : (j : Int) < (n : Int) := by omega
   have y2 : (0 : Int) ≤ (j : Int) := by omega
   have hil : (j : Int) < 9223372036854775807 := by have := hN.out; omega
   obtain ⟨a, ha⟩ : ∃ a, Hid (L[j]? = some a) := ⟨_, List.getElem?_eq_getElem (by rw [hn.out]; exact hlt)⟩
   have haL := hL.out a (List.mem_of_getElem? ha.out)
   obtain ⟨bA, o, rfl, hbA, hcs⟩ := hr.out.at_ (by omega)
   have hcell : wr.cell? ⟨bA, o + j, none⟩ = some (.iface a.T a.x) := (hb.out.cell (p := ⟨bA, o + j, none⟩) hbA).trans (hcs j _ (by rw [List.getElem?_map, ha.out]; rfl))
   obtain ⟨ft, hm1, hcf, hc1⟩ := haL.taken
   have hTk := Lib.hid (hc1 wr hb.out)
   replace hm1 := Lib.hid (fun F (e : F = Tryz.prog.types.size + Made.depth) => hm1 F wr e)
   replace hcf := Lib.hid (hcf wr)
   have hts := Lib.hid haL.texts
   have hlong := Lib.hid haL.long
   have hfew := Lib.hid haL.few
   have hls : Hid (a ∈ L) := List.mem_of_getElem? ha.out
   clear hcs hc1 haL
   obtain ⟨tk, htkv⟩ : ∃ tk, Hid (a.tk = tk) := ⟨_, Lib.hid rfl⟩
   rw [htkv.out] at hTk hts hlong hfew
   go_wp2_with fail
   rw [hm1.out _ ?hF]
   case hF => kernel_rfl
   rw [Result.andThen_ok]
   dsimp only
   rw [hcf.out]
   refine Calls.mono hTk.out ?_
   rintro e w1 ⟨rfl, hk1⟩
   replace hk1 := Lib.hid hk1
   have hR1 : Hid (Blk w1 w.heap.size 77 #[Value.slice none 0 0, Value.slice none 0 0]) := (hk1.out.block _ hR.out.lt).trans hR.out
   have hb1 : Hid (Below w.heap.size w w1) := hb.out.trans (hk1.out.mono hb.out.size)
   have hO1 := Lib.hid (Go.Proofs.YtgldkfaiofkhbaaGreatDoor.Own.own_below hO.out hk1.out)
   have hT1 := Lib.hid (hT.out.below hk1.out)
   clear hTk hm1 hcf hcell hk1 hO hT hR hb
   cases tk with
   | false =>
    go_wp2_with ((with_reducible change wpList _ _ _ ({ dst := none, op := Op.store 77 _ _, type := _, pos := _, after := _, guard := _ } :: _) _ _); refine wpList_store_row (o := ⟨none, _, _, _, _, _⟩) rfl 77 (.tmp 4) (.tmp 21) rfl (w.heap.size) (#[Value.slice none 0 0, Value.slice none 0 0]) rfl rfl 77 (#[Value.slice none 0 0, Value.slice none 0 0]) hR1.out sizeE2 rfl oneZ2 ?_)
    refine bodyPost_ret (results_cell_row2 rfl _ _ w.heap.size 77 #[Value.slice none 0 0, Value.slice none 0 0] (0, 0) _ rfl (setRow_heap _ _ _ _ _ _ hR1.out) Tryz.underlying77 rfl sizeE2) rfl ?_
    exact ⟨below_setRow hb1.out (Nat.le_refl _) _, .inl ⟨rfl, fun h => by have := h.1 a hls.out; rw [htkv.out] at this; cases this⟩⟩
   | true =>
    obtain ⟨fx, hm2, hcf2, hc2⟩ := hts.out rfl
    have hTx := Lib.hid (hc2 w1 hb1.out)
    replace hm2 := Lib.hid (fun F (e : F = Tryz.prog.types.size + Made.depth) => hm2 F w1 e)
    replace hcf2 := Lib.hid (hcf2 w1)
    have hl2 := Lib.hid (hlong.out rfl)
    have hf2 := Lib.hid (hfew.out rfl)
    clear hc2 hts hlong hfew
    go_wp2_with fail
    rw [hm2.out _ ?hF]
    case hF => kernel_rfl
    rw [Result.andThen_ok]
    dsimp only
    rw [hcf2.out]
    refine Calls.mono hTx.out ?_
    rintro e w2 ⟨v2, xs2, rfl, hO2, hT2, hk2⟩
    have hone := Lib.hid (Ty.one hO2 hT2 rfl)
    obtain ⟨A2, c2, rfl, -, -, hnil2, hr2, -⟩ := Append.Own.reads hO2
    have hR2 : Hid (Blk w2 w.heap.size 77 #[Value.slice none 0 0, Value.slice none 0 0]) := (hk2.block _ hR1.out.lt).trans hR1.out
    have hb2 : Hid (Below w.heap.size w w2) := hb1.out.trans (hk2.mono hb1.out.size)
    have hO2' := Lib.hid (Go.Proofs.YtgldkfaiofkhbaaGreatDoor.Own.own_below hO1.out hk2)
    have hT2' := Lib.hid (hT1.out.below hk2)
    obtain ⟨m2, hm2'⟩ : ∃ m2, Hid (a.ts.length = m2) := ⟨_, Lib.hid rfl⟩
    rw [hm2'.out] at hr2 hnil2 hf2 ⊢
    have hbs : Hid (w.heap.size + 1 ≤ w2.heap.size) := by have := hR2.out.lt; show _ ≤ _; omega
    have hmx : Hid (m + m2 ≤ maxLen) := by have := hmj.out; have := hf2.out; have := hn8.out; show _ ≤ _; unfold maxLen; omega
    have hmb : Hid ((m + m2) * 24 ≤ 140737488355328) := by have := hmj.out; have := hf2.out; have := hn8.out; show _ ≤ _; omega
    replace hr2 := Lib.hid hr2
    replace hnil2 := Lib.hid hnil2
    replace hT2 := Lib.hid hT2
    clear hTx hm2 hcf2 hk2 hO2 hO1 hT1 hR1 hb1
    go_wp2_with ((with_reducible change wpList _ _ _ (⟨some 25, _, _, _, _, _⟩ :: _) _ _); refine wpList_append_src _ (o := ⟨some 25, _, _, _, _, _⟩) rfl (.tmp 22) (.tmp 24) 24 rfl (w.heap.size + 1) 27 i0 (.slice none 0 0) 1 24 Tryz.underlying24 ii iz0 iz1 iz2 rfl (by decide) _ m xs rfl hO2'.out A2 m2 c2 xs2 rfl hr2.out hnil2.out hone.out hmx.out hmb.out hbs.out ?_; intro v9 w9 hG; have h9 := Lib.hid (ty_cat2 hm.out hO2'.out hT2'.out hT2.out hz.out hG); have hvb : ∀ k, Value.ownBlock _ = some k → w.heap.size + 1 ≤ k := own_base hO2'.out; have hR9 : Hid (Blk w9 w.heap.size 77 #[Value.slice none 0 0, Value.slice none 0 0]) := hR2.out.kept (hG.kept (Kept.refl (fun k => w.heap.size + 1 ≤ k) _) (fun k e => .inl (hvb k e))) (by omega); have hb9 : Hid (Below w.heap.size w w9) := hG.below hb2.out hb2.out.size (fun k e => by have := hvb k e; omega); clear hG hvb)
    exact ⟨⟨j + 1, m + m2, xs ++ xs2, rfl, (show j + 1 ≤ n by omega), (fun b hbm => by
      rw [List.take_succ_eq_append_getElem (by rw [hn.out]; exact hlt)] at hbm
      rcases List.mem_append.1 hbm with h | h
      ·exact htk.out b h
      ·obtain rfl := List.mem_singleton.1 h
       have h2 := ha.out
       rw [List.getElem?_eq_getElem (by rw [hn.out]; exact hlt)] at h2
       rw [Option.some.inj h2]
       exact htkv.out), (by show _ = _; rw [flat_succ ha.out, List.length_append, hm.out, hm2'.out]), (by have := hmj.out; have := hf2.out; show _ ≤ _; omega), h9.out.2.1, (by show Ty _ _ _; rw [flat_succ ha.out]; exact h9.out.1), h9.out.2.2, (fun q hqm => by
      rw [flat_succ ha.out] at hqm
      rcases List.mem_append.1 hqm with h | h
      ·exact hq.out q h
      ·exact hl2.out q h), hR9.out, hb9.out⟩, by simp [intOf]; omega⟩
  ·have hjn : j = n := by have := hj.out; omega
   subst hjn
   have hzz : ¬ ((j : Int) < (j : Int)) := by omega
   have hfl : Hid (flat L j = L.flatMap (·.ts)) := by show _ = _; unfold flat; rw [List.take_of_length_le (by rw [hn.out]; exact Nat.le_refl _)]
   have hall : Hid (∀ a ∈ L, a.tk = true) := fun a h => htk.out a (by rw [List.take_of_length_le (by rw [hn.out]; exact Nat.le_refl _)]; exact h)
   have hO' := hO.out
   rw [← hm.out] at hO'
   obtain ⟨A6, c6, e6, -, -, hp6⟩ := Ty.pieces hO' hT.out
   rw [hm.out] at e6
   subst e6
   have hC := Lib.hid (clash_any s (flat L j) m hm.out (by have := hmj.out; have := hn8.out; omega) A6 c6 wr (hB.out.below hb.out hB.out.1) hp6 hq.out)
   rw [hfl.out] at hC
   clear hO' hp6 hO hT hz hq hmj htk hfl hm
   go_wp2_with fail
   refine hC.out.mono ?_
   rintro e w1 ⟨hk1, hcp⟩
   have hR1 : Hid (Blk w1 w.heap.size 77 #[Value.slice none 0 0, Value.slice none 0 0]) := (hk1.block _ hR.out.lt).trans hR.out
   have hb1 : Hid (Below w.heap.size w w1) := hb.out.trans (hk1.mono hb.out.size)
   have hws := hb.out.size
   rcases hcp with ⟨rfl, hno⟩ | ⟨va, vb, p, q, rfl, hp, hq2, hne, hsum, oa, ob⟩
   ·replace hno := Lib.hid hno
    clear hk1 hC hws
    go_wp2_with ((with_reducible change wpList _ _ _ ({ dst := none, op := Op.store 77 _ _, type := _, pos := _, after := _, guard := _ } :: _) _ _); refine wpList_store_row (o := ⟨none, _, _, _, _, _⟩) rfl 77 (.tmp 4) (.tmp 36) rfl (w.heap.size) (#[Value.slice none 0 0, Value.slice none 0 0]) rfl rfl 77 (#[Value.slice none 0 0, Value.slice none 0 0]) hR1.out sizeE2 rfl oneZ2 ?_)
    refine bodyPost_ret (results_cell_row2 rfl _ _ w.heap.size 77 #[Value.slice none 0 0, Value.slice none 0 0] (0, 0) _ rfl (setRow_heap _ _ _ _ _ _ hR1.out) Tryz.underlying77 rfl sizeE2) rfl ?_
    exact ⟨below_setRow hb1.out (Nat.le_refl _) _, .inl ⟨rfl, fun h => hno.out h.2⟩⟩
   ·obtain ⟨Aa, ca, rfl, -⟩ := own_reads oa
    obtain ⟨Ab, cb, rfl, -⟩ := own_reads ob
    have honeE : Hid (((#[Value.slice Aa p.length ca, Value.slice Ab q.length cb] : Array Value).all fun v => v.oneCell') = true) := by show _ = _; rw [List.all_toArray]; rfl
    replace oa := Lib.hid oa
    replace ob := Lib.hid ob
    replace hp := Lib.hid hp
    replace hq2 := Lib.hid hq2
    replace hne := Lib.hid hne
    replace hsum := Lib.hid hsum
    replace hws := Lib.hid hws
    clear hk1 hC
    go_wp2_with ((with_reducible change wpList _ _ _ ({ dst := none, op := Op.store 77 _ _, type := _, pos := _, after := _, guard := _ } :: _) _ _); refine wpList_store_row (o := ⟨none, _, _, _, _, _⟩) rfl 77 (.tmp 4) (.tmp 39) rfl (w.heap.size) (#[Value.slice Aa p.length ca, Value.slice Ab q.length cb]) rfl rfl 77 (#[Value.slice none 0 0, Value.slice none 0 0]) hR1.out sizeE2 rfl honeE.out ?_)
    refine bodyPost_ret (results_cell_row2 rfl _ _ w.heap.size 77 #[Value.slice Aa p.length ca, Value.slice Ab q.length cb] (0, 0) _ rfl (setRow_heap _ _ _ _ _ _ hR1.out) Tryz.underlying77 rfl sizeE2) rfl ?_
    have hkk : Kept (· = w.heap.size) w1 (w1.setRow w.heap.size #[Value.slice Aa p.length ca, Value.slice Ab q.length cb]) := Bytes.Kept.setRow (S := (· = w.heap.size)) (Kept.refl _ _) rfl _
    have hlt := hR.out.lt
    refine ⟨below_setRow hb1.out (Nat.le_refl _) _, .inr ⟨_, _, p, q, rfl, hall.out, hp.out, hq2.out, hne.out, hsum.out, ?_, ?_⟩⟩
    ·exact own_far (own_base8 oa.out hws.out) hkk oa.out hlt
    ·exact own_far (own_base8 ob.out hws.out) hkk ob.out hlt
end Go.Proofs.YtgldkfaiofkhbaaGreatDoor.Extract
