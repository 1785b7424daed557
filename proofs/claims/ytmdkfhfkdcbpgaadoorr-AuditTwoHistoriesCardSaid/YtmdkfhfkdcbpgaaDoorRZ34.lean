/-
  Texts of the claim, put into one file: Extract, TwoEv, Links0, ToldTexts, TwoHist, Told20, Told20b, TwoEvAny.
-/
import Derived.Test.YtmdkfhfkdcbpgaaDoorRZ31
import Derived.Test.YtmdkfhfkdcbpgaaDoorRZ30
import Derived.Test.YtmdkfhfkdcbpgaaDoorRZ11
import Derived.Test.YtmdkfhfkdcbpgaaDoorRZ7
import Derived.Handy
import Derived.Test.YtmdkfhfkdcbpgaaDoorRZ33
import Derived.Test.YtmdkfhfkdcbpgaaDoorRZ32
import Derived.Test.YtmdkfhfkdcbpgaaDoorRZ21
import Derived.Test.YtmdkfhfkdcbpgaaDoorRZ22
import Derived.Test.YtmdkfhfkdcbpgaaDoorRZ6
import Derived.Test.YtmdkfhfkdcbpgaaDoorRZ15
import Derived.Test.YtmdkfhfkdcbpgaaDoorRZ5

namespace Go.Proofs.YtmdkfhfkdcbpgaaDoorR.Extract
open Go Go.RowKit Go.Proofs.YtmdkfhfkdcbpgaaDoorR Go.Proofs.YtmdkfhfkdcbpgaaDoorR.Mem Go.Proofs.YtmdkfhfkdcbpgaaDoorR.Sha Go.Proofs.YtmdkfhfkdcbpgaaDoorR.Bytes Go.Proofs.YtmdkfhfkdcbpgaaDoorR.HashMem Go.Proofs.YtmdkfhfkdcbpgaaDoorR.TreeMem Go.Proofs.YtmdkfhfkdcbpgaaDoorR.TreeRoot Go.Proofs.YtmdkfhfkdcbpgaaDoorR.Append Go.Proofs.YtmdkfhfkdcbpgaaDoorR.Own Go.Proofs.YtmdkfhfkdcbpgaaDoorR.Held Go.Proofs.YtmdkfhfkdcbpgaaDoorR.Guard Go.Proofs.YtmdkfhfkdcbpgaaDoorR.Node Go.Proofs.YtmdkfhfkdcbpgaaDoorR.Texts Go.Proofs.YtmdkfhfkdcbpgaaDoorR.AheadT Go.Proofs.YtmdkfhfkdcbpgaaDoorR.RowsT Go.Proofs.YtmdkfhfkdcbpgaaDoorR.RowsY Go.Proofs.YtmdkfhfkdcbpgaaDoorR.Book Go.Proofs.YtmdkfhfkdcbpgaaDoorR.Book2 Go.Proofs.YtmdkfhfkdcbpgaaDoorR.TwiceP Go.Proofs.YtmdkfhfkdcbpgaaDoorR.Clash

theorem results_cell_row2 {P : Program} {fn : Func} {p u : Tmp} {ty : TypeId} (h : fn.results = #[.cell p ty, .tmp u]) (tmps : Array Value) (w : World) (g : Nat) (t : TypeId) (cs : Array Value) (fr : Nat × Nat) (d : TypeDesc)
    (hp : tmps.getD p undef = .pointer (some ⟨g, 0, none⟩)) (hg : w.heap[g]? = some (.cells cs t fr))
    (hu : P.underlying ty = some d) (hd : (match d with | .struct _ | .array _ _ => true | _ => false) = true) (hi : (P.info? ty).map (·.size) = some cs.size) :
    (results fn tmps).run P w = .ok (.tuple #[.agg cs, tmps.getD u undef]) w := by
  have hp' : tmps[p]?.getD undef = .pointer (some ⟨g, 0, none⟩) := by simpa using hp
  simp [results, h, hp', asAddr, run_loadVar_row w g t ty cs fr d hg hu hd hi, Result.andThen]
/-- An answer: its type and value, whether it is taken, its texts. -/
structure Ans where
  T : TypeId
  x : Value
  tk : Bool
  ts : List Text
structure AnsOk (w : World) (a : Ans) : Prop where
  taken : ∃ ft, (∀ F w', F = Tryd.prog.types.size + Made.depth → (method F a.T a.x "docket/audit.taken").run Tryd.prog w' = .ok (ft, a.x) w') ∧ (∀ w', (callFunc ft #[a.x]).run Tryd.prog w' = .ok (.enter ft #[a.x]) w') ∧ ∀ w', Below w.heap.size w w' → Calls Tryd.prog ft #[a.x] w' fun e w'' => e = .returned (.bool a.tk) ∧ Below w'.heap.size w' w''
  texts : a.tk = true → ∃ fx, (∀ F w', F = Tryd.prog.types.size + Made.depth → (method F a.T a.x "docket/audit.texts").run Tryd.prog w' = .ok (fx, a.x) w') ∧ (∀ w', (callFunc fx #[a.x]).run Tryd.prog w' = .ok (.enter fx #[a.x]) w') ∧ ∀ w', Below w.heap.size w w' → Calls Tryd.prog fx #[a.x] w' fun e w'' => ∃ v xs, e = .returned v ∧ w''.ownsRow w'.heap.size 27 1 v a.ts.length xs ∧ Ty w'' xs a.ts ∧ Below w'.heap.size w' w''
  long : a.tk = true → ∀ q ∈ a.ts, 0 < q.length ∧ q.length < 140737488355328
  few : a.tk = true → a.ts.length ≤ 1000
theorem own_far {w w' : World} {B B2 g n : Nat} {e : TypeId} {v : Value} {xs : List Value} (h : w.ownsRow B e 1 v n xs) (hk : Kept (· = g) w w') (h2 : w.ownsRow B2 e 1 v n xs) (hg : g < B2) : w'.ownsRow B e 1 v n xs :=
  ⟨h.1, h.2.imp id fun ⟨b, cap, cur, h1, h3, h4, h5⟩ => ⟨b, cap, cur, h1, h3, (hk.block b (Array.getElem?_eq_some_iff.1 h4).1 (fun e => by
    rcases h2.2 with ⟨e1, -⟩ | ⟨b', cap', cur', e1, h6, -⟩
    · rw [h1] at e1; injection e1 with e1; cases e1
    · rw [h1] at e1
      injection e1 with e1
      injection e1 with e1
      injection e1 with e1
      omega)).trans h4, h5⟩⟩
theorem own_base {w : World} {B n : Nat} {e : TypeId} {v : Value} {xs : List Value} (h : w.ownsRow B e 1 v n xs) : ∀ k, v.ownBlock = some k → B ≤ k := fun k hk => by
  obtain ⟨A, c, rfl, -, -, -, -, hA⟩ := Append.Own.reads h
  cases A with
  | none => cases hk
  | some a => injection hk with hk; subst hk; exact (hA a rfl).1
def flat (L : List Ans) (j : Nat) : List Text := (L.take j).flatMap (·.ts)
theorem flat_succ {L : List Ans} {j : Nat} {a : Ans} (h : L[j]? = some a) : flat L (j + 1) = flat L j ++ a.ts := by
  unfold flat
  obtain ⟨hj, rfl⟩ := List.getElem?_eq_some_iff.1 h
  rw [List.take_succ_eq_append_getElem hj, List.flatMap_append]
  simp
/-- What a call of extract leaves. -/
def EPost (w : World) (s : Int) (L : List Ans) (e : Ending) (w' : World) : Prop :=
  Below w.heap.size w w' ∧ ((e = .returned (.tuple #[.agg #[Value.slice none 0 0, Value.slice none 0 0], .bool false]) ∧ ¬ ((∀ a ∈ L, a.tk = true) ∧ TwiceP.Met s (L.flatMap (·.ts)))) ∨
    ∃ va vb p q, e = .returned (.tuple #[.agg #[va, vb], .bool true]) ∧ (∀ a ∈ L, a.tk = true) ∧ p ∈ L.flatMap (·.ts) ∧ q ∈ L.flatMap (·.ts) ∧ p ≠ q ∧ sumOf s p = sumOf s q ∧ w'.ownsRow w.heap.size 5 1 va p.length (cells8 p) ∧ w'.ownsRow w.heap.size 5 1 vb q.length (cells8 q))
theorem sizeE2 : (Tryd.prog.info? 82).map (·.size) = some 2 := by kernel_rfl
theorem oneZ2 : ((#[Value.slice none 0 0, Value.slice none 0 0] : Array Value).all fun v => v.oneCell') = true := by rw [List.all_toArray]; rfl
set_option maxRecDepth 100000 in
set_option maxHeartbeats 2000000 in
theorem extract_any (s : Int) (L : List Ans) (n : Nat) (hn : L.length = n) (hn8 : n ≤ 8) (A : Option Addr) (c : Nat) (w : World) (hB : Base w) (hr : Reads w 1 A n (L.map fun a => .iface a.T a.x)) (hL : ∀ a ∈ L, AnsOk w a) :
    Calls Tryd.prog 100 #[.int .i64 s, .slice A n c] w (EPost w s L) := by
  obtain ⟨i0, ii, iz0, iz1, iz2⟩ := info_partsN infoT
  have hb0 : Hid (Below w.heap.size w (w.alloc (.cells #[Value.slice none 0 0, Value.slice none 0 0] 82))) := Below.heap_below w _
  have hR0 : Hid (Blk (w.alloc (.cells #[Value.slice none 0 0, Value.slice none 0 0] 82)) w.heap.size 82 #[Value.slice none 0 0, Value.slice none 0 0]) := Blk.new w _ _
  have hN : Hid ((n : Int) < 9223372036854775807) := by show _ < _; omega
  have hO0 : Hid ((w.alloc (.cells #[Value.slice none 0 0, Value.slice none 0 0] 82)).ownsRow (w.heap.size + 1) 27 1 (.slice none 0 0) 0 []) := ⟨rfl, .inl ⟨rfl, rfl⟩⟩
  have hbs0 : Hid (w.heap.size + 1 ≤ (w.alloc (.cells #[Value.slice none 0 0, Value.slice none 0 0] 82)).heap.size) := by show _ ≤ _; simp
  replace hn := Lib.hid hn
  replace hn8 := Lib.hid hn8
  replace hB := Lib.hid hB
  replace hr := Lib.hid hr
  replace hL := Lib.hid hL
  go_enter Tryd.func100, Tryd.ntmps100
  go_wp2_with fail
  go_loopw [6, 14] (fun v u wr => ∃ (j m : Nat) (xs : List Value), u = .int .i64 (j : Int) ∧ Hid (j ≤ n) ∧ Hid (∀ a ∈ L.take j, a.tk = true) ∧ Hid ((flat L j).length = m) ∧ Hid (m ≤ 1000 * j) ∧ Hid (wr.ownsRow (w.heap.size + 1) 27 1 v m xs) ∧ Hid (Ty wr xs (flat L j)) ∧ Hid (m = 0 → v = .slice none 0 0) ∧ Hid (∀ q ∈ flat L j, 0 < q.length ∧ q.length < 140737488355328) ∧ Hid (Blk wr w.heap.size 82 #[Value.slice none 0 0, Value.slice none 0 0]) ∧ Hid (Below w.heap.size w wr)) (fun _ u _ => n - (intOf u).toNat)
  case atStart => exact ⟨0, 0, [], rfl, (show 0 ≤ n by omega), (fun a h => by cases h), rfl, Nat.zero_le _, hO0.out, Ty.nil_ _, fun _ => rfl, (fun q h => by cases h), hR0.out, hb0.out⟩
  case round =>
    clear hO0 hb0 hR0 hbs0
    obtain ⟨j, m, xs, rfl, hj, htk, hm, hmj, hO, hT, hz, hq, hR, hb⟩ := hrel
    by_cases hlt : j < n
    · have y1 : (j : Int) < (n : Int) := by omega
      have y2 : (0 : Int) ≤ (j : Int) := by omega
      have hil : (j : Int) < 9223372036854775807 := by have := hN.out; omega
      obtain ⟨a, ha⟩ : ∃ a, Hid (L[j]? = some a) := ⟨_, List.getElem?_eq_getElem (by rw [hn.out]; exact hlt)⟩
      have haL := hL.out a (List.mem_of_getElem? ha.out)
      obtain ⟨bA, o, rfl, hbA, hcs⟩ := hr.out.at_ (by omega)
      have hcell : wr.cell? ⟨bA, o + j, none⟩ = some (.iface a.T a.x) := (hb.out.cell (p := ⟨bA, o + j, none⟩) hbA).trans (hcs j _ (by rw [List.getElem?_map, ha.out]; rfl))
      obtain ⟨ft, hm1, hcf, hc1⟩ := haL.taken
      have hTk := Lib.hid (hc1 wr hb.out)
      replace hm1 := Lib.hid (fun F (e : F = Tryd.prog.types.size + Made.depth) => hm1 F wr e)
      replace hcf := Lib.hid (hcf wr)
      have hts := Lib.hid haL.texts
      have hlong := Lib.hid haL.long
      have hfew := Lib.hid haL.few
      have hls : Hid (a ∈ L) := List.mem_of_getElem? ha.out
      clear hcs hc1 haL
      obtain ⟨tk, htkv⟩ : ∃ tk, Hid (a.tk = tk) := ⟨_, Lib.hid rfl⟩
      rw [htkv.out] at hTk hts hlong hfew
      go_wp2_with fail
      rw [hm1.out _ ?hF]
      case hF => kernel_rfl
      rw [Result.andThen_ok]
      dsimp only
      rw [hcf.out]
      refine Calls.mono hTk.out ?_
      rintro e w1 ⟨rfl, hk1⟩
      replace hk1 := Lib.hid hk1
      have hR1 : Hid (Blk w1 w.heap.size 82 #[Value.slice none 0 0, Value.slice none 0 0]) := (hk1.out.block _ hR.out.lt).trans hR.out
      have hb1 : Hid (Below w.heap.size w w1) := hb.out.trans (hk1.out.mono hb.out.size)
      have hO1 := Lib.hid (Go.Proofs.YtmdkfhfkdcbpgaaDoorR.Own.own_below hO.out hk1.out)
      have hT1 := Lib.hid (hT.out.below hk1.out)
      clear hTk hm1 hcf hcell hk1 hO hT hR hb
      cases tk with
      | false =>
        go_wp2_with ((with_reducible change wpList _ _ _ ({ dst := none, op := Op.store 82 _ _, type := _, pos := _, after := _, guard := _ } :: _) _ _); refine wpList_store_row (o := ⟨none, _, _, _, _, _⟩) rfl 82 (.tmp 4) (.tmp 21) rfl (w.heap.size) (#[Value.slice none 0 0, Value.slice none 0 0]) rfl rfl 82 (#[Value.slice none 0 0, Value.slice none 0 0]) hR1.out sizeE2 rfl oneZ2 ?_)
        refine bodyPost_ret (results_cell_row2 rfl _ _ w.heap.size 82 #[Value.slice none 0 0, Value.slice none 0 0] (0, 0) _ rfl (setRow_heap _ _ _ _ _ _ hR1.out) Tryd.underlying82 rfl sizeE2) rfl ?_
        exact ⟨below_setRow hb1.out (Nat.le_refl _) _, .inl ⟨rfl, fun h => by have := h.1 a hls.out; rw [htkv.out] at this; cases this⟩⟩
      | true =>
        obtain ⟨fx, hm2, hcf2, hc2⟩ := hts.out rfl
        have hTx := Lib.hid (hc2 w1 hb1.out)
        replace hm2 := Lib.hid (fun F (e : F = Tryd.prog.types.size + Made.depth) => hm2 F w1 e)
        replace hcf2 := Lib.hid (hcf2 w1)
        have hl2 := Lib.hid (hlong.out rfl)
        have hf2 := Lib.hid (hfew.out rfl)
        clear hc2 hts hlong hfew
        go_wp2_with fail
        rw [hm2.out _ ?hF]
        case hF => kernel_rfl
        rw [Result.andThen_ok]
        dsimp only
        rw [hcf2.out]
        refine Calls.mono hTx.out ?_
        rintro e w2 ⟨v2, xs2, rfl, hO2, hT2, hk2⟩
        have hone := Lib.hid (Ty.one hO2 hT2 rfl)
        obtain ⟨A2, c2, rfl, -, -, hnil2, hr2, -⟩ := Append.Own.reads hO2
        have hR2 : Hid (Blk w2 w.heap.size 82 #[Value.slice none 0 0, Value.slice none 0 0]) := (hk2.block _ hR1.out.lt).trans hR1.out
        have hb2 : Hid (Below w.heap.size w w2) := hb1.out.trans (hk2.mono hb1.out.size)
        have hO2' := Lib.hid (Go.Proofs.YtmdkfhfkdcbpgaaDoorR.Own.own_below hO1.out hk2)
        have hT2' := Lib.hid (hT1.out.below hk2)
        obtain ⟨m2, hm2'⟩ : ∃ m2, Hid (a.ts.length = m2) := ⟨_, Lib.hid rfl⟩
        rw [hm2'.out] at hr2 hnil2 hf2 ⊢
        have hbs : Hid (w.heap.size + 1 ≤ w2.heap.size) := by have := hR2.out.lt; show _ ≤ _; omega
        have hmx : Hid (m + m2 ≤ maxLen) := by have := hmj.out; have := hf2.out; have := hn8.out; show _ ≤ _; unfold maxLen; omega
        have hmb : Hid ((m + m2) * 24 ≤ 140737488355328) := by have := hmj.out; have := hf2.out; have := hn8.out; show _ ≤ _; omega
        replace hr2 := Lib.hid hr2
        replace hnil2 := Lib.hid hnil2
        replace hT2 := Lib.hid hT2
        clear hTx hm2 hcf2 hk2 hO2 hO1 hT1 hR1 hb1
        go_wp2_with ((with_reducible change wpList _ _ _ ({ dst := some 25, op := _, type := _, pos := _, after := _, guard := _ } :: _) _ _); refine wpList_append_src _ (o := ⟨some 25, _, _, _, _, _⟩) rfl (.tmp 22) (.tmp 24) 24 rfl (w.heap.size + 1) 27 i0 (.slice none 0 0) 1 24 Tryd.underlying24 ii iz0 iz1 iz2 rfl (by decide) _ m xs rfl hO2'.out A2 m2 c2 xs2 rfl hr2.out hnil2.out hone.out hmx.out hmb.out hbs.out ?_; intro v9 w9 hG; have h9 := Lib.hid (ty_cat2 hm.out hO2'.out hT2'.out hT2.out hz.out hG); have hvb : ∀ k, Value.ownBlock _ = some k → w.heap.size + 1 ≤ k := own_base hO2'.out; have hR9 : Hid (Blk w9 w.heap.size 82 #[Value.slice none 0 0, Value.slice none 0 0]) := hR2.out.kept (hG.kept (Kept.refl (fun k => w.heap.size + 1 ≤ k) _) (fun k e => .inl (hvb k e))) (by omega); have hb9 : Hid (Below w.heap.size w w9) := hG.below hb2.out hb2.out.size (fun k e => by have := hvb k e; omega); clear hG hvb)
        exact ⟨⟨j + 1, m + m2, xs ++ xs2, rfl, (show j + 1 ≤ n by omega), (fun b hbm => by
            rw [List.take_succ_eq_append_getElem (by rw [hn.out]; exact hlt)] at hbm
            rcases List.mem_append.1 hbm with h | h
            · exact htk.out b h
            · obtain rfl := List.mem_singleton.1 h
              have h2 := ha.out
              rw [List.getElem?_eq_getElem (by rw [hn.out]; exact hlt)] at h2
              rw [Option.some.inj h2]
              exact htkv.out), (by show _ = _; rw [flat_succ ha.out, List.length_append, hm.out, hm2'.out]), (by have := hmj.out; have := hf2.out; show _ ≤ _; omega), h9.out.2.1, (by show Ty _ _ _; rw [flat_succ ha.out]; exact h9.out.1), h9.out.2.2, (fun q hqm => by
            rw [flat_succ ha.out] at hqm
            rcases List.mem_append.1 hqm with h | h
            · exact hq.out q h
            · exact hl2.out q h), hR9.out, hb9.out⟩, by simp [intOf]; omega⟩
    · have hjn : j = n := by have := hj.out; omega
      subst hjn
      have hzz : ¬ ((j : Int) < (j : Int)) := by omega
      have hfl : Hid (flat L j = L.flatMap (·.ts)) := by show _ = _; unfold flat; rw [List.take_of_length_le (by rw [hn.out]; exact Nat.le_refl _)]
      have hall : Hid (∀ a ∈ L, a.tk = true) := fun a h => htk.out a (by rw [List.take_of_length_le (by rw [hn.out]; exact Nat.le_refl _)]; exact h)
      have hO' := hO.out
      rw [← hm.out] at hO'
      obtain ⟨A6, c6, e6, -, -, hp6⟩ := Ty.pieces hO' hT.out
      rw [hm.out] at e6
      subst e6
      have hC := Lib.hid (clash_any s (flat L j) m hm.out (by have := hmj.out; have := hn8.out; omega) A6 c6 wr (hB.out.below hb.out hB.out.1) hp6 hq.out)
      rw [hfl.out] at hC
      clear hO' hp6 hO hT hz hq hmj htk hfl hm
      go_wp2_with fail
      refine hC.out.mono ?_
      rintro e w1 ⟨hk1, hcp⟩
      have hR1 : Hid (Blk w1 w.heap.size 82 #[Value.slice none 0 0, Value.slice none 0 0]) := (hk1.block _ hR.out.lt).trans hR.out
      have hb1 : Hid (Below w.heap.size w w1) := hb.out.trans (hk1.mono hb.out.size)
      have hws := hb.out.size
      rcases hcp with ⟨rfl, hno⟩ | ⟨va, vb, p, q, rfl, hp, hq2, hne, hsum, oa, ob⟩
      · replace hno := Lib.hid hno
        clear hk1 hC hws
        go_wp2_with ((with_reducible change wpList _ _ _ ({ dst := none, op := Op.store 82 _ _, type := _, pos := _, after := _, guard := _ } :: _) _ _); refine wpList_store_row (o := ⟨none, _, _, _, _, _⟩) rfl 82 (.tmp 4) (.tmp 36) rfl (w.heap.size) (#[Value.slice none 0 0, Value.slice none 0 0]) rfl rfl 82 (#[Value.slice none 0 0, Value.slice none 0 0]) hR1.out sizeE2 rfl oneZ2 ?_)
        refine bodyPost_ret (results_cell_row2 rfl _ _ w.heap.size 82 #[Value.slice none 0 0, Value.slice none 0 0] (0, 0) _ rfl (setRow_heap _ _ _ _ _ _ hR1.out) Tryd.underlying82 rfl sizeE2) rfl ?_
        exact ⟨below_setRow hb1.out (Nat.le_refl _) _, .inl ⟨rfl, fun h => hno.out h.2⟩⟩
      · obtain ⟨Aa, ca, rfl, -⟩ := own_reads oa
        obtain ⟨Ab, cb, rfl, -⟩ := own_reads ob
        have honeE : Hid (((#[Value.slice Aa p.length ca, Value.slice Ab q.length cb] : Array Value).all fun v => v.oneCell') = true) := by show _ = _; rw [List.all_toArray]; rfl
        replace oa := Lib.hid oa
        replace ob := Lib.hid ob
        replace hp := Lib.hid hp
        replace hq2 := Lib.hid hq2
        replace hne := Lib.hid hne
        replace hsum := Lib.hid hsum
        replace hws := Lib.hid hws
        clear hk1 hC
        go_wp2_with ((with_reducible change wpList _ _ _ ({ dst := none, op := Op.store 82 _ _, type := _, pos := _, after := _, guard := _ } :: _) _ _); refine wpList_store_row (o := ⟨none, _, _, _, _, _⟩) rfl 82 (.tmp 4) (.tmp 39) rfl (w.heap.size) (#[Value.slice Aa p.length ca, Value.slice Ab q.length cb]) rfl rfl 82 (#[Value.slice none 0 0, Value.slice none 0 0]) hR1.out sizeE2 rfl honeE.out ?_)
        refine bodyPost_ret (results_cell_row2 rfl _ _ w.heap.size 82 #[Value.slice Aa p.length ca, Value.slice Ab q.length cb] (0, 0) _ rfl (setRow_heap _ _ _ _ _ _ hR1.out) Tryd.underlying82 rfl sizeE2) rfl ?_
        have hkk : Kept (· = w.heap.size) w1 (w1.setRow w.heap.size #[Value.slice Aa p.length ca, Value.slice Ab q.length cb]) := Bytes.Kept.setRow (S := (· = w.heap.size)) (Kept.refl _ _) rfl _
        have hlt := hR.out.lt
        refine ⟨below_setRow hb1.out (Nat.le_refl _) _, .inr ⟨_, _, p, q, rfl, hall.out, hp.out, hq2.out, hne.out, hsum.out, ?_, ?_⟩⟩
        · exact own_far (own_base8 oa.out hws.out) hkk oa.out hlt
        · exact own_far (own_base8 ob.out hws.out) hkk ob.out hlt
end Go.Proofs.YtmdkfhfkdcbpgaaDoorR.Extract

namespace Go.Proofs.YtmdkfhfkdcbpgaaDoorR.TwoEv
open Go Go.RowKit Go.Proofs.YtmdkfhfkdcbpgaaDoorR Go.Proofs.YtmdkfhfkdcbpgaaDoorR.Mem Go.Proofs.YtmdkfhfkdcbpgaaDoorR.Sha Go.Proofs.YtmdkfhfkdcbpgaaDoorR.Bytes Go.Proofs.YtmdkfhfkdcbpgaaDoorR.HashMem Go.Proofs.YtmdkfhfkdcbpgaaDoorR.DigestMem Go.Proofs.YtmdkfhfkdcbpgaaDoorR.TreeMem Go.Proofs.YtmdkfhfkdcbpgaaDoorR.TreeRoot Go.Proofs.YtmdkfhfkdcbpgaaDoorR.Append Go.Proofs.YtmdkfhfkdcbpgaaDoorR.Held Go.Proofs.YtmdkfhfkdcbpgaaDoorR.Guard Go.Proofs.YtmdkfhfkdcbpgaaDoorR.Chain Go.Proofs.YtmdkfhfkdcbpgaaDoorR.ProofEnc Go.Proofs.YtmdkfhfkdcbpgaaDoorR.Ref17 Go.Proofs.YtmdkfhfkdcbpgaaDoorR.TwiceP Go.Proofs.YtmdkfhfkdcbpgaaDoorR.Clash Go.Proofs.YtmdkfhfkdcbpgaaDoorR.RowsY Go.Proofs.YtmdkfhfkdcbpgaaDoorR.Extract Go.Proofs.YtmdkfhfkdcbpgaaDoorR.Book Go.Proofs.YtmdkfhfkdcbpgaaDoorR.AudIncl Go.Proofs.YtmdkfhfkdcbpgaaDoorR.Way20 Go.Proofs.YtmdkfhfkdcbpgaaDoorR.TwoEvP Go.Proofs.YtmdkfhfkdcbpgaaDoorR.Included

/-- What a call of an extractor leaves. -/
def TPost (w : World) (s : Int) (want : Bool) (ts : List Text) (e : Ending) (w' : World) : Prop :=
  Below w.heap.size w w' ∧ ((want = false ∧ e = .returned (.tuple #[.agg #[Value.slice none 0 0, Value.slice none 0 0], .bool false])) ∨
    (want = true ∧ ∃ va vb p q, e = .returned (.tuple #[.agg #[va, vb], .bool true]) ∧ p ∈ ts ∧ q ∈ ts ∧ p ≠ q ∧ sumOf s p = sumOf s q ∧ w'.ownsRow w.heap.size 5 1 va p.length (cells8 p) ∧ w'.ownsRow w.heap.size 5 1 vb q.length (cells8 q)))
theorem TPost.no {w w' : World} {s : Int} {ts : List Text} {e : Ending} (h : e = .returned (.tuple #[.agg #[Value.slice none 0 0, Value.slice none 0 0], .bool false])) (hb : Below w.heap.size w w') : TPost w s false ts e w' := ⟨hb, .inl ⟨rfl, h⟩⟩
theorem fold_at : ∀ (xs old pre post : List Value) (k : Nat) (o : Nat), pre.length = o + k → old.length = xs.length → (xs.zipIdx k).foldl (fun (cs : Array Value) (x : Value × Nat) => cs.setIfInBounds (o + x.2) x.1) (pre ++ old ++ post).toArray = (pre ++ xs ++ post).toArray
  | [], old, pre, post, k, o, hp, ho => by
    have : old = [] := List.eq_nil_of_length_eq_zero ho
    subst this
    rfl
  | x :: xs, y :: old, pre, post, k, o, hp, ho => by
    rw [List.zipIdx_cons, List.foldl_cons]
    have e : ((pre ++ (y :: old) ++ post).toArray).setIfInBounds (o + k) x = ((pre ++ [x]) ++ old ++ post).toArray := by
      rw [List.setIfInBounds_toArray, List.append_assoc, List.set_append_right _ _ (by omega), hp, Nat.sub_self]
      simp
    show List.foldl _ (Array.setIfInBounds _ (o + k) x) _ = _
    rw [e, fold_at xs old (pre ++ [x]) post (k + 1) o (by rw [List.length_append, List.length_singleton]; omega) (by simpa using ho)]
    simp
  | x :: xs, [], _, _, _, _, _, ho => by simp at ho
theorem build_inc (s : Int) (root : Text) (h : root.length = 32) (A : Option Addr) (k c : Nat) (x1 x2 : Int) (A2 : Option Addr) (n c2 : Nat) : (((((cells8 root).zipIdx.foldl (fun (cs : Array Value) (x : Value × Nat) => cs.setIfInBounds (1 + x.2) x.1) (Value.int .i64 s :: Value.int .u8 0 :: Value.int .u8 0 :: Value.int .u8 0 :: Value.int .u8 0 :: Value.int .u8 0 :: Value.int .u8 0 :: Value.int .u8 0 :: Value.int .u8 0 :: Value.int .u8 0 :: Value.int .u8 0 :: Value.int .u8 0 :: Value.int .u8 0 :: Value.int .u8 0 :: Value.int .u8 0 :: Value.int .u8 0 :: Value.int .u8 0 :: Value.int .u8 0 :: Value.int .u8 0 :: Value.int .u8 0 :: Value.int .u8 0 :: Value.int .u8 0 :: Value.int .u8 0 :: Value.int .u8 0 :: Value.int .u8 0 :: Value.int .u8 0 :: Value.int .u8 0 :: Value.int .u8 0 :: Value.int .u8 0 :: Value.int .u8 0 :: Value.int .u8 0 :: Value.int .u8 0 :: Value.int .u8 0 :: Value.slice none 0 0 :: Value.int .i64 0 :: Value.int .i64 0 :: Value.slice none 0 0 :: []).toArray).setIfInBounds 33 (.slice A k c)).setIfInBounds 34 (.int .i64 x1)).setIfInBounds 35 (.int .i64 x2)).setIfInBounds 36 (.slice A2 n c2) = (incV s root A k c x1 x2 A2 n c2).toArray := by
  have hl : ([Value.int .i64 s] ++ cells8 root).length = 33 := by simp [cells8_len, h]
  have := fold_at (cells8 root) (List.replicate 32 (.int .u8 0)) [.int .i64 s] [.slice none 0 0, .int .i64 0, .int .i64 0, .slice none 0 0] 0 1 rfl (by simp [cells8_len, h])
  refine Eq.trans (congrArg (fun z : Array Value => (((z.setIfInBounds 33 (.slice A k c)).setIfInBounds 34 (.int .i64 x1)).setIfInBounds 35 (.int .i64 x2)).setIfInBounds 36 (.slice A2 n c2)) this) ?_
  simp only [List.setIfInBounds_toArray]
  congr 1
  rw [List.set_append_right _ _ (by omega), List.set_append_right _ _ (by omega), List.set_append_right _ _ (by omega), List.set_append_right _ _ (by omega), hl]
  rfl
theorem fold_size (s : Int) (root : Text) (h : root.length = 32) : ((cells8 root).zipIdx.foldl (fun (cs : Array Value) (x : Value × Nat) => cs.setIfInBounds (1 + x.2) x.1) (Value.int .i64 s :: Value.int .u8 0 :: Value.int .u8 0 :: Value.int .u8 0 :: Value.int .u8 0 :: Value.int .u8 0 :: Value.int .u8 0 :: Value.int .u8 0 :: Value.int .u8 0 :: Value.int .u8 0 :: Value.int .u8 0 :: Value.int .u8 0 :: Value.int .u8 0 :: Value.int .u8 0 :: Value.int .u8 0 :: Value.int .u8 0 :: Value.int .u8 0 :: Value.int .u8 0 :: Value.int .u8 0 :: Value.int .u8 0 :: Value.int .u8 0 :: Value.int .u8 0 :: Value.int .u8 0 :: Value.int .u8 0 :: Value.int .u8 0 :: Value.int .u8 0 :: Value.int .u8 0 :: Value.int .u8 0 :: Value.int .u8 0 :: Value.int .u8 0 :: Value.int .u8 0 :: Value.int .u8 0 :: Value.int .u8 0 :: Value.slice none 0 0 :: Value.int .i64 0 :: Value.int .i64 0 :: Value.slice none 0 0 :: []).toArray).size = 37 := by
  have := fold_at (cells8 root) (List.replicate 32 (.int .u8 0)) [.int .i64 s] [.slice none 0 0, .int .i64 0, .int .i64 0, .slice none 0 0] 0 1 rfl (by simp [cells8_len, h])
  refine Eq.trans (congrArg Array.size this) ?_
  simp [cells8_len, h]
section
variable (s : Int) (root : Text) (e f : Text) (k l : Nat) (A B : Option Addr) (c d : Nat) (x1 x2 y1 y2 : Int) (A2 B2 : Option Addr) (n c2 m d2 : Nat) (w : World)
set_option maxRecDepth 100000 in
set_option maxHeartbeats 1000000 in
theorem no_same (ts : List Text) (h1 : x1 = y1) (h2 : x2 = y2) (hEq : Hid (∀ w', Below w.heap.size w w' → Calls Tryd.prog 99 #[.slice A k c, .slice B l d] w' fun e w'' => e = .returned (.bool true) ∧ w' = w'')) : Calls Tryd.prog 42 #[.int .i64 s, .agg (cells8 root).toArray, .slice A k c, .agg (inclCells x1 x2 A2 n c2), .slice B l d, .agg (inclCells y1 y2 B2 m d2)] w (TPost w s false ts) := by
  unfold inclCells
  have hb1 : Hid (Below w.heap.size w ((((w.alloc (.cells (cells8 root).toArray 23)).alloc (.cells #[Value.int .i64 x1, Value.int .i64 x2, Value.slice A2 n c2] 31)).alloc (.cells #[Value.int .i64 y1, Value.int .i64 y2, Value.slice B2 m d2] 31)).alloc (.cells #[Value.slice none 0 0, Value.slice none 0 0] 82))) := ((((Below.refl _ w).alloc (Nat.le_refl _) _).alloc (by simp) _).alloc (by simp; omega) _).alloc (by simp; omega) _
  have hs3 : (((w.alloc (.cells (cells8 root).toArray 23)).alloc (.cells #[Value.int .i64 x1, Value.int .i64 x2, Value.slice A2 n c2] 31)).alloc (.cells #[Value.int .i64 y1, Value.int .i64 y2, Value.slice B2 m d2] 31)).heap.size = w.heap.size + 3 := by simp
  have hs2 : ((w.alloc (.cells (cells8 root).toArray 23)).alloc (.cells #[Value.int .i64 x1, Value.int .i64 x2, Value.slice A2 n c2] 31)).heap.size = w.heap.size + 2 := by simp
  have hs1 : (w.alloc (.cells (cells8 root).toArray 23)).heap.size = w.heap.size + 1 := by simp
  have hX1 : Hid (Blk ((((w.alloc (.cells (cells8 root).toArray 23)).alloc (.cells #[Value.int .i64 x1, Value.int .i64 x2, Value.slice A2 n c2] 31)).alloc (.cells #[Value.int .i64 y1, Value.int .i64 y2, Value.slice B2 m d2] 31)).alloc (.cells #[Value.slice none 0 0, Value.slice none 0 0] 82)) (w.heap.size + 3) 82 #[Value.slice none 0 0, Value.slice none 0 0]) := by
    have := Blk.new (((w.alloc (.cells (cells8 root).toArray 23)).alloc (.cells #[Value.int .i64 x1, Value.int .i64 x2, Value.slice A2 n c2] 31)).alloc (.cells #[Value.int .i64 y1, Value.int .i64 y2, Value.slice B2 m d2] 31)) 82 #[Value.slice none 0 0, Value.slice none 0 0]
    rwa [hs3] at this
  have hQ1 : Hid (Blk ((((w.alloc (.cells (cells8 root).toArray 23)).alloc (.cells #[Value.int .i64 x1, Value.int .i64 x2, Value.slice A2 n c2] 31)).alloc (.cells #[Value.int .i64 y1, Value.int .i64 y2, Value.slice B2 m d2] 31)).alloc (.cells #[Value.slice none 0 0, Value.slice none 0 0] 82)) (w.heap.size + 2) 31 #[Value.int .i64 y1, Value.int .i64 y2, Value.slice B2 m d2]) := by
    have := Blk.new ((w.alloc (.cells (cells8 root).toArray 23)).alloc (.cells #[Value.int .i64 x1, Value.int .i64 x2, Value.slice A2 n c2] 31)) 31 #[Value.int .i64 y1, Value.int .i64 y2, Value.slice B2 m d2]
    rw [hs2] at this
    exact this.alloc _
  have hP1 : Hid (Blk ((((w.alloc (.cells (cells8 root).toArray 23)).alloc (.cells #[Value.int .i64 x1, Value.int .i64 x2, Value.slice A2 n c2] 31)).alloc (.cells #[Value.int .i64 y1, Value.int .i64 y2, Value.slice B2 m d2] 31)).alloc (.cells #[Value.slice none 0 0, Value.slice none 0 0] 82)) (w.heap.size + 1) 31 #[Value.int .i64 x1, Value.int .i64 x2, Value.slice A2 n c2]) := by
    have := Blk.new (w.alloc (.cells (cells8 root).toArray 23)) 31 #[Value.int .i64 x1, Value.int .i64 x2, Value.slice A2 n c2]
    rw [hs1] at this
    exact (this.alloc _).alloc _
  have hR1 : Hid (Blk ((((w.alloc (.cells (cells8 root).toArray 23)).alloc (.cells #[Value.int .i64 x1, Value.int .i64 x2, Value.slice A2 n c2] 31)).alloc (.cells #[Value.int .i64 y1, Value.int .i64 y2, Value.slice B2 m d2] 31)).alloc (.cells #[Value.slice none 0 0, Value.slice none 0 0] 82)) w.heap.size 23 (cells8 root).toArray) := (((Blk.new w _ _).alloc _).alloc _).alloc _
  clear hs1 hs2 hs3
  subst h1 h2
  go_enter Tryd.func42, Tryd.ntmps42
  go_wp2_with (first | (go_at_call 99; refine (hEq.out _ hb1.out).mono ?_; rintro e w2 ⟨rfl, rfl⟩) | ((with_reducible change wpList _ _ _ ({ dst := none, op := Op.store 82 _ _, type := _, pos := _, after := _, guard := _ } :: _) _ _); refine wpList_store_row (o := ⟨none, _, _, _, _, _⟩) rfl 82 (.tmp 12) (.tmp 31) rfl (w.heap.size + 3) (#[Value.slice none 0 0, Value.slice none 0 0]) rfl rfl 82 (#[Value.slice none 0 0, Value.slice none 0 0]) hX1.out sizeE2 rfl oneZ2 ?_))
  refine bodyPost_ret (results_cell_row2 rfl _ _ (w.heap.size + 3) 82 #[Value.slice none 0 0, Value.slice none 0 0] (0, 0) _ rfl (setRow_heap _ _ _ _ _ _ hX1.out) Tryd.underlying82 rfl sizeE2) rfl ?_
  exact TPost.no rfl (below_setRow hb1.out (by omega) _)
set_option maxRecDepth 100000 in
set_option maxHeartbeats 2000000 in
theorem go_on (hrt : root.length = 32) (ts : List Text) (want : Bool) (h1 : x1 = y1) (h2 : x2 = y2) (hEq : Hid (∀ w', Below w.heap.size w w' → Calls Tryd.prog 99 #[.slice A k c, .slice B l d] w' fun e w'' => e = .returned (.bool false) ∧ w' = w''))
    (hE : Hid (∀ w', Below w.heap.size w w' → Calls Tryd.prog 100 #[.int .i64 s, .slice (some ⟨w'.heap.size, 0, none⟩) 2 2] (w'.alloc (.cells #[.iface 153 (.agg (incV s root A k c x1 x2 A2 n c2).toArray), .iface 153 (.agg (incV s root B l d y1 y2 B2 m d2).toArray)] 202)) (TPost w' s want ts))) :
    Calls Tryd.prog 42 #[.int .i64 s, .agg (cells8 root).toArray, .slice A k c, .agg (inclCells x1 x2 A2 n c2), .slice B l d, .agg (inclCells y1 y2 B2 m d2)] w (TPost w s want ts) := by
  unfold inclCells
  have hb1 : Hid (Below w.heap.size w ((((w.alloc (.cells (cells8 root).toArray 23)).alloc (.cells #[Value.int .i64 x1, Value.int .i64 x2, Value.slice A2 n c2] 31)).alloc (.cells #[Value.int .i64 y1, Value.int .i64 y2, Value.slice B2 m d2] 31)).alloc (.cells #[Value.slice none 0 0, Value.slice none 0 0] 82))) := ((((Below.refl _ w).alloc (Nat.le_refl _) _).alloc (by simp) _).alloc (by simp; omega) _).alloc (by simp; omega) _
  have hs3 : (((w.alloc (.cells (cells8 root).toArray 23)).alloc (.cells #[Value.int .i64 x1, Value.int .i64 x2, Value.slice A2 n c2] 31)).alloc (.cells #[Value.int .i64 y1, Value.int .i64 y2, Value.slice B2 m d2] 31)).heap.size = w.heap.size + 3 := by simp
  have hs2 : ((w.alloc (.cells (cells8 root).toArray 23)).alloc (.cells #[Value.int .i64 x1, Value.int .i64 x2, Value.slice A2 n c2] 31)).heap.size = w.heap.size + 2 := by simp
  have hs1 : (w.alloc (.cells (cells8 root).toArray 23)).heap.size = w.heap.size + 1 := by simp
  have hX1 : Hid (Blk ((((w.alloc (.cells (cells8 root).toArray 23)).alloc (.cells #[Value.int .i64 x1, Value.int .i64 x2, Value.slice A2 n c2] 31)).alloc (.cells #[Value.int .i64 y1, Value.int .i64 y2, Value.slice B2 m d2] 31)).alloc (.cells #[Value.slice none 0 0, Value.slice none 0 0] 82)) (w.heap.size + 3) 82 #[Value.slice none 0 0, Value.slice none 0 0]) := by
    have := Blk.new (((w.alloc (.cells (cells8 root).toArray 23)).alloc (.cells #[Value.int .i64 x1, Value.int .i64 x2, Value.slice A2 n c2] 31)).alloc (.cells #[Value.int .i64 y1, Value.int .i64 y2, Value.slice B2 m d2] 31)) 82 #[Value.slice none 0 0, Value.slice none 0 0]
    rwa [hs3] at this
  have hQ1 : Hid (Blk ((((w.alloc (.cells (cells8 root).toArray 23)).alloc (.cells #[Value.int .i64 x1, Value.int .i64 x2, Value.slice A2 n c2] 31)).alloc (.cells #[Value.int .i64 y1, Value.int .i64 y2, Value.slice B2 m d2] 31)).alloc (.cells #[Value.slice none 0 0, Value.slice none 0 0] 82)) (w.heap.size + 2) 31 #[Value.int .i64 y1, Value.int .i64 y2, Value.slice B2 m d2]) := by
    have := Blk.new ((w.alloc (.cells (cells8 root).toArray 23)).alloc (.cells #[Value.int .i64 x1, Value.int .i64 x2, Value.slice A2 n c2] 31)) 31 #[Value.int .i64 y1, Value.int .i64 y2, Value.slice B2 m d2]
    rw [hs2] at this
    exact this.alloc _
  have hP1 : Hid (Blk ((((w.alloc (.cells (cells8 root).toArray 23)).alloc (.cells #[Value.int .i64 x1, Value.int .i64 x2, Value.slice A2 n c2] 31)).alloc (.cells #[Value.int .i64 y1, Value.int .i64 y2, Value.slice B2 m d2] 31)).alloc (.cells #[Value.slice none 0 0, Value.slice none 0 0] 82)) (w.heap.size + 1) 31 #[Value.int .i64 x1, Value.int .i64 x2, Value.slice A2 n c2]) := by
    have := Blk.new (w.alloc (.cells (cells8 root).toArray 23)) 31 #[Value.int .i64 x1, Value.int .i64 x2, Value.slice A2 n c2]
    rw [hs1] at this
    exact (this.alloc _).alloc _
  have hR1 : Hid (Blk ((((w.alloc (.cells (cells8 root).toArray 23)).alloc (.cells #[Value.int .i64 x1, Value.int .i64 x2, Value.slice A2 n c2] 31)).alloc (.cells #[Value.int .i64 y1, Value.int .i64 y2, Value.slice B2 m d2] 31)).alloc (.cells #[Value.slice none 0 0, Value.slice none 0 0] 82)) w.heap.size 23 (cells8 root).toArray) := (((Blk.new w _ _).alloc _).alloc _).alloc _
  clear hs1 hs2 hs3
  have Fr := Lib.hid (fit (x := root) hrt)
  have zc1 : (cells8 root).length = 32 := by rw [cells8_len, hrt]
  have zc2 : (cells8 root).toArray.size = 32 := by rw [List.size_toArray, zc1]
  have zc3 := fold_size s root hrt
  have hsz : ((((w.alloc (.cells (cells8 root).toArray 23)).alloc (.cells #[Value.int .i64 x1, Value.int .i64 x2, Value.slice A2 n c2] 31)).alloc (.cells #[Value.int .i64 y1, Value.int .i64 y2, Value.slice B2 m d2] 31)).alloc (.cells #[Value.slice none 0 0, Value.slice none 0 0] 82)).heap.size = w.heap.size + 1 + 1 + 1 + 1 := by simp
  have hE1 := hE.out _ hb1.out
  rw [hsz] at hE1
  replace hE1 := Lib.hid hE1
  have hrth := Lib.hid hrt
  clear hE hrt hsz
  subst h1 h2
  go_enter Tryd.func42, Tryd.ntmps42
  go_wp2_with (first
    | (go_at_call 99; refine (hEq.out _ hb1.out).mono ?_; rintro e w2 ⟨rfl, rfl⟩)
    | ((with_reducible change wpList _ _ _ ({ dst := some 34, op := _, type := _, pos := _, after := _, guard := _ } :: _) _ _); refine wpList_load_row (o := ⟨some 34, _, _, _, _, _⟩) rfl 23 (.tmp 7) rfl (w.heap.size) rfl 23 ((cells8 root).toArray) (0, 0) _ hR1.out Tryd.underlying23 rfl Fr.out.size ?_)
    | ((with_reducible change wpList _ _ _ ({ dst := some 36, op := _, type := _, pos := _, after := _, guard := _ } :: _) _ _); refine wpList_load_row (o := ⟨some 36, _, _, _, _, _⟩) rfl 31 (.tmp 9) rfl (w.heap.size + 1) rfl 31 (#[Value.int .i64 x1, Value.int .i64 x2, Value.slice A2 n c2]) (0, 0) _ hP1.out Tryd.underlying31 rfl sizeI ?_)
    | ((with_reducible change wpList _ _ _ ({ dst := some 40, op := _, type := _, pos := _, after := _, guard := _ } :: _) _ _); refine wpList_load_row (o := ⟨some 40, _, _, _, _, _⟩) rfl 23 (.tmp 7) rfl (w.heap.size) rfl 23 ((cells8 root).toArray) (0, 0) _ hR1.out Tryd.underlying23 rfl Fr.out.size ?_)
    | ((with_reducible change wpList _ _ _ ({ dst := some 42, op := _, type := _, pos := _, after := _, guard := _ } :: _) _ _); refine wpList_load_row (o := ⟨some 42, _, _, _, _, _⟩) rfl 31 (.tmp 11) rfl (w.heap.size + 2) rfl 31 (#[Value.int .i64 x1, Value.int .i64 x2, Value.slice B2 m d2]) (0, 0) _ hQ1.out Tryd.underlying31 rfl sizeI ?_))
  rw [build_inc s root hrth.out, build_inc s root hrth.out]
  refine hE1.out.mono ?_
  rintro e w2 ⟨hk2, hcase⟩
  have hX2 : Hid (Blk w2 (w.heap.size + 3) 82 #[Value.slice none 0 0, Value.slice none 0 0]) := (hk2.block _ hX1.out.lt).trans hX1.out
  have hb2 : Hid (Below w.heap.size w w2) := hb1.out.trans (hk2.mono hb1.out.size)
  have hlt := hX1.out.lt
  have hws := hb1.out.size
  rcases hcase with ⟨rfl, rfl⟩ | ⟨rfl, va, vb, p, q, rfl, hp, hq, hne, hsum, oa, ob⟩
  · clear hk2 hE1 zc1 zc2 zc3 hP1 hQ1 hR1 hlt hws
    go_wp2_with ((with_reducible change wpList _ _ _ ({ dst := none, op := Op.store 82 _ _, type := _, pos := _, after := _, guard := _ } :: _) _ _); refine wpList_store_row (o := ⟨none, _, _, _, _, _⟩) rfl 82 (.tmp 12) (.tmp 47) rfl (w.heap.size + 3) (#[Value.slice none 0 0, Value.slice none 0 0]) rfl rfl 82 (#[Value.slice none 0 0, Value.slice none 0 0]) hX2.out sizeE2 rfl oneZ2 ?_)
    refine bodyPost_ret (results_cell_row2 rfl _ _ (w.heap.size + 3) 82 #[Value.slice none 0 0, Value.slice none 0 0] (0, 0) _ rfl (setRow_heap _ _ _ _ _ _ hX2.out) Tryd.underlying82 rfl sizeE2) rfl ?_
    exact TPost.no rfl (below_setRow hb2.out (by omega) _)
  · obtain ⟨Aa, ca, rfl, -⟩ := Own.own_reads oa
    obtain ⟨Ab, cb, rfl, -⟩ := Own.own_reads ob
    have honeE : Hid (((#[Value.slice Aa p.length ca, Value.slice Ab q.length cb] : Array Value).all fun v => v.oneCell') = true) := by show _ = _; rw [List.all_toArray]; rfl
    replace oa := Lib.hid oa
    replace ob := Lib.hid ob
    replace hp := Lib.hid hp
    replace hq := Lib.hid hq
    replace hne := Lib.hid hne
    replace hsum := Lib.hid hsum
    replace hws := Lib.hid hws
    replace hlt := Lib.hid hlt
    clear hk2 hE1 zc1 zc2 zc3 hP1 hQ1 hR1
    go_wp2_with ((with_reducible change wpList _ _ _ ({ dst := none, op := Op.store 82 _ _, type := _, pos := _, after := _, guard := _ } :: _) _ _); refine wpList_store_row (o := ⟨none, _, _, _, _, _⟩) rfl 82 (.tmp 12) (.tmp 47) rfl (w.heap.size + 3) (#[Value.slice Aa p.length ca, Value.slice Ab q.length cb]) rfl rfl 82 (#[Value.slice none 0 0, Value.slice none 0 0]) hX2.out sizeE2 rfl honeE.out ?_)
    refine bodyPost_ret (results_cell_row2 rfl _ _ (w.heap.size + 3) 82 #[Value.slice Aa p.length ca, Value.slice Ab q.length cb] (0, 0) _ rfl (setRow_heap _ _ _ _ _ _ hX2.out) Tryd.underlying82 rfl sizeE2) rfl ?_
    have hkk : Kept (· = w.heap.size + 3) w2 (w2.setRow (w.heap.size + 3) #[Value.slice Aa p.length ca, Value.slice Ab q.length cb]) := Bytes.Kept.setRow (S := (· = w.heap.size + 3)) (Kept.refl _ _) rfl _
    exact ⟨below_setRow hb2.out (by omega) _, .inr ⟨rfl, _, _, p, q, rfl, hp.out, hq.out, hne.out, hsum.out, own_far (own_base8 oa.out hws.out) hkk oa.out hlt.out, own_far (own_base8 ob.out hws.out) hkk ob.out hlt.out⟩⟩
theorem extract_T (L : List Ans) (want : Bool) (hw : want = true → (∀ a ∈ L, a.tk = true) ∧ TwiceP.Met s (L.flatMap (·.ts))) (hw2 : want = false → ¬ ∀ a ∈ L, a.tk = true) (w' w2 : World) (cs : Array Value) (T : TypeId) (e : Ending) (h : EPost (w'.alloc (.cells cs T)) s L e w2) : TPost w' s want (L.flatMap (·.ts)) e w2 := by
  obtain ⟨hb, h⟩ := h
  have hle : w'.heap.size ≤ (w'.alloc (.cells cs T)).heap.size := by simp
  have hb2 : Below w'.heap.size w' w2 := (Below.heap_below w' _).trans (hb.mono hle)
  rcases h with ⟨rfl, hn⟩ | ⟨va, vb, p, q, rfl, hall, hp, hq, hne, hs, oa, ob⟩
  · cases want with
    | true => exact absurd (hw rfl) hn
    | false => exact TPost.no rfl hb2
  · cases want with
    | false => exact absurd hall (hw2 rfl)
    | true => exact ⟨hb2, .inr ⟨rfl, va, vb, p, q, rfl, hp, hq, hne, hs, own_base8 oa hle, own_base8 ob hle⟩⟩
end
end Go.Proofs.YtmdkfhfkdcbpgaaDoorR.TwoEv

namespace Go.Proofs.YtmdkfhfkdcbpgaaDoorR.Links0
open Go Go.RowKit Go.Proofs.YtmdkfhfkdcbpgaaDoorR Go.Proofs.YtmdkfhfkdcbpgaaDoorR.Mem Go.Proofs.YtmdkfhfkdcbpgaaDoorR.Sha Go.Proofs.YtmdkfhfkdcbpgaaDoorR.Bytes Go.Proofs.YtmdkfhfkdcbpgaaDoorR.HashMem Go.Proofs.YtmdkfhfkdcbpgaaDoorR.DigestMem Go.Proofs.YtmdkfhfkdcbpgaaDoorR.Digest Go.Proofs.YtmdkfhfkdcbpgaaDoorR.DigestTop Go.Proofs.YtmdkfhfkdcbpgaaDoorR.RefTop Go.Proofs.YtmdkfhfkdcbpgaaDoorR.QuietTail Go.Proofs.YtmdkfhfkdcbpgaaDoorR.Grown Go.Proofs.YtmdkfhfkdcbpgaaDoorR.Chain Go.Proofs.YtmdkfhfkdcbpgaaDoorR.TreeMem Go.Proofs.YtmdkfhfkdcbpgaaDoorR.TreeRoot Go.Proofs.YtmdkfhfkdcbpgaaDoorR.Append Go.Proofs.YtmdkfhfkdcbpgaaDoorR.Held Go.Proofs.YtmdkfhfkdcbpgaaDoorR.Guard Go.Proofs.YtmdkfhfkdcbpgaaDoorR.Node Go.Proofs.YtmdkfhfkdcbpgaaDoorR.Texts Go.Proofs.YtmdkfhfkdcbpgaaDoorR.AheadT Go.Proofs.YtmdkfhfkdcbpgaaDoorR.RowsT Go.Proofs.YtmdkfhfkdcbpgaaDoorR.RowsY Go.Proofs.YtmdkfhfkdcbpgaaDoorR.TwoEvP Go.Proofs.YtmdkfhfkdcbpgaaDoorR.HistP Go.Proofs.YtmdkfhfkdcbpgaaDoorR.TextAt Go.Proofs.YtmdkfhfkdcbpgaaDoorR.Extract Go.Proofs.YtmdkfhfkdcbpgaaDoorR.Own Go.Proofs.YtmdkfhfkdcbpgaaDoorR.Book Go.Proofs.YtmdkfhfkdcbpgaaDoorR.Book2

theorem own_lt {w : World} {B n : Nat} {e : TypeId} {v : Value} {xs : List Value} (h : w.ownsRow B e 1 v n xs) : ∀ k, v.ownBlock = some k → k < w.heap.size := fun k hk => by
  rcases h.2 with ⟨rfl, -⟩ | ⟨g, cap, cur, rfl, -, h4, -⟩
  · cases hk
  · injection hk with hk
    subst hk
    exact (Array.getElem?_eq_some_iff.1 h4).1
/-- Two texts in new memory, as a row of two. -/
theorem ty_two {w : World} {g1 g2 c1 c2 : Nat} {q1 q2 : Text} (h1 : 0 < q1.length) (h2 : 0 < q2.length) (k1 : q1.length ≤ c1) (k2 : q2.length ≤ c2) (r1 : Reads w 1 (some ⟨g1, 0, none⟩) q1.length (cells8 q1)) (r2 : Reads w 1 (some ⟨g2, 0, none⟩) q2.length (cells8 q2)) :
    Ty w [.slice (some ⟨g1, 0, none⟩) q1.length c1, .slice (some ⟨g2, 0, none⟩) q2.length c2] [q1, q2] := fun i q hq => by
  match i with
  | 0 =>
    obtain rfl := Option.some.inj hq
    exact ⟨h1, g1, c1, rfl, k1, r1⟩
  | 1 =>
    obtain rfl := Option.some.inj hq
    exact ⟨h2, g2, c2, rfl, k2, r2⟩
  | i + 2 => simp at hq
theorem reads_two (w : World) (u v : Value) : Reads (w.alloc (.cells #[u, v] 27)) 1 (some ⟨w.heap.size, 0, none⟩) 2 [u, v] := Blk.reads (Blk.new w 27 #[u, v]) 0 _ rfl (fun j x hx => by rw [Nat.zero_add]; simpa using hx)
/-- No block of a row of texts lies below a bound. -/
def Far (B : Nat) (xs : List Value) : Prop := ∀ x ∈ xs, ∀ k, x.ownBlock = some k → B ≤ k
theorem Ty.keepF {S : Nat → Prop} {w w' : World} {B : Nat} {xs : List Value} {ts : List Text} (h : Ty w xs ts) (hF : Far B xs) (hk : Kept S w w') (hS : ∀ k, B ≤ k → ¬ S k) : Ty w' xs ts := fun i q hq => by
  obtain ⟨hl, g, c, b1, b2, b3⟩ := h i q hq
  refine ⟨hl, g, c, b1, b2, b3.kept hk (fun b o e => ?_)⟩
  injection e with e
  injection e with e1 e2
  subst e1
  exact hS g (hF _ (List.mem_of_getElem? b1) g rfl)
/-- What a region that appends two texts to a row leaves. -/
structure Two (w w' : World) (v v' : Value) (B n : Nat) (ts : List Text) (q1 q2 : Text) : Prop where
  own : ∃ xs, w'.ownsRow B 27 1 v' (n + 2) xs ∧ Ty w' xs (ts ++ [q1, q2]) ∧ Far B xs
  form : ∃ A c, v' = .slice A (n + 2) c
  keep : ∀ g t cs, Blk w g t cs → some g ≠ v.ownBlock → Blk w' g t cs
  below : Below B w w'
theorem Two.mk_ {w w8 w10 : World} {v v' : Value} {B n : Nat} {ts : List Text} {q1 q2 : Text} {g1 g2 c1 c2 : Nat} {xs : List Value} (hb : Below w.heap.size w w8) (hBw : B ≤ w.heap.size) (hO : w.ownsRow B 27 1 v n xs) (hT : Ty w xs ts) (hF : Far B xs) (b1 : B ≤ g1) (b2 : B ≤ g2) (hz : n = 0 → v = .slice none 0 0) (hn : ts.length = n) (h1 : 0 < q1.length) (h2 : 0 < q2.length) (k1 : q1.length ≤ c1) (k2 : q2.length ≤ c2) (r1 : Reads w8 1 (some ⟨g1, 0, none⟩) q1.length (cells8 q1)) (r2 : Reads w8 1 (some ⟨g2, 0, none⟩) q2.length (cells8 q2))
    (hG : Grew (w8.alloc (.cells #[.slice (some ⟨g1, 0, none⟩) q1.length c1, .slice (some ⟨g2, 0, none⟩) q2.length c2] 27)) B 27 1 v n 2 xs [.slice (some ⟨g1, 0, none⟩) q1.length c1, .slice (some ⟨g2, 0, none⟩) q2.length c2] v' w10) : Two w w10 v v' B n ts q1 q2 := by
  have hb9 : Below w.heap.size w (w8.alloc (.cells #[.slice (some ⟨g1, 0, none⟩) q1.length c1, .slice (some ⟨g2, 0, none⟩) q2.length c2] 27)) := hb.alloc hb.size _
  have hO9 := Go.Proofs.YtmdkfhfkdcbpgaaDoorR.Own.own_below hO hb9
  obtain ⟨t1, t2, -⟩ := ty_cat2 hn hO9 (hT.below hb9) (ty_two h1 h2 k1 k2 (r1.alloc _) (r2.alloc _)) hz hG
  refine ⟨⟨_, t2, t1, fun x hx k hk => ?_⟩, ?_, fun g t cs h hg => Blk.grown ((hb9.block g h.lt).trans h) hG.grow hg, hG.below (hb9.mono hBw) (Nat.le_trans hBw hb9.size) (fun k hk => own_base hO k hk)⟩
  · rcases List.mem_append.1 hx with h | h
    · exact hF x h k hk
    · rcases List.mem_cons.1 h with rfl | h
      · injection hk with hk
        subst hk
        exact b1
      · obtain rfl := List.mem_singleton.1 h
        injection hk with hk
        subst hk
        exact b2
  · obtain ⟨A, c, e, -⟩ := Append.Own.reads t2
    exact ⟨A, c, e⟩
end Go.Proofs.YtmdkfhfkdcbpgaaDoorR.Links0

namespace Go.Proofs.YtmdkfhfkdcbpgaaDoorR.ToldTexts
open Go Go.RowKit Go.Proofs.YtmdkfhfkdcbpgaaDoorR Go.Proofs.YtmdkfhfkdcbpgaaDoorR.Mem Go.Proofs.YtmdkfhfkdcbpgaaDoorR.Sha Go.Proofs.YtmdkfhfkdcbpgaaDoorR.Bytes Go.Proofs.YtmdkfhfkdcbpgaaDoorR.HashMem Go.Proofs.YtmdkfhfkdcbpgaaDoorR.DigestMem Go.Proofs.YtmdkfhfkdcbpgaaDoorR.Digest Go.Proofs.YtmdkfhfkdcbpgaaDoorR.DigestTop Go.Proofs.YtmdkfhfkdcbpgaaDoorR.RefTop Go.Proofs.YtmdkfhfkdcbpgaaDoorR.QuietTail Go.Proofs.YtmdkfhfkdcbpgaaDoorR.Grown Go.Proofs.YtmdkfhfkdcbpgaaDoorR.Chain Go.Proofs.YtmdkfhfkdcbpgaaDoorR.TreeMem Go.Proofs.YtmdkfhfkdcbpgaaDoorR.TreeRoot Go.Proofs.YtmdkfhfkdcbpgaaDoorR.Append Go.Proofs.YtmdkfhfkdcbpgaaDoorR.Held Go.Proofs.YtmdkfhfkdcbpgaaDoorR.Guard Go.Proofs.YtmdkfhfkdcbpgaaDoorR.Node Go.Proofs.YtmdkfhfkdcbpgaaDoorR.Texts Go.Proofs.YtmdkfhfkdcbpgaaDoorR.AheadT Go.Proofs.YtmdkfhfkdcbpgaaDoorR.RowsT Go.Proofs.YtmdkfhfkdcbpgaaDoorR.RowsY Go.Proofs.YtmdkfhfkdcbpgaaDoorR.TwoEvP Go.Proofs.YtmdkfhfkdcbpgaaDoorR.HistP Go.Proofs.YtmdkfhfkdcbpgaaDoorR.TextAt Go.Proofs.YtmdkfhfkdcbpgaaDoorR.Extract Go.Proofs.YtmdkfhfkdcbpgaaDoorR.Own Go.Proofs.YtmdkfhfkdcbpgaaDoorR.Book Go.Proofs.YtmdkfhfkdcbpgaaDoorR.Book2 Go.Proofs.YtmdkfhfkdcbpgaaDoorR.Links0 Go.Proofs.YtmdkfhfkdcbpgaaDoorR.ToldV

set_option maxRecDepth 100000 in
set_option maxHeartbeats 2000000 in
theorem texts_any (s : Int) (b e : Text) (hb : b.length = 32) (he : e.length = 32) (es : List Text) (n : Nat) (hn : es.length = n) (hn1 : n ≤ 1000) (A : Option Addr) (c : Nat) (w : World) (hBs : Base w) (hp : Pieces w A es) (hsh : ∀ q ∈ es, q.length < 140737488355327) :
    Calls Tryd.prog 212 #[.agg (toldV s b e A n c).toArray] w fun e' w' => ∃ v xs, e' = .returned v ∧ w'.ownsRow w.heap.size 27 1 v (linksOf s b es).length xs ∧ Ty w' xs (linksOf s b es) ∧ Below w.heap.size w w' := by
  obtain ⟨i0, ii, iz0, iz1, iz2⟩ := info_partsN infoT
  have hLf : Hid (∀ w', Below w.heap.size w w' → ∀ (q : Text) (k : Nat) (Ae : Option Addr) (ce : Nat), q.length = k → k < 140737488355327 → k ≤ ce → (Ae = none → k = 0 ∧ ce = 0) → Reads w' 1 Ae k (cells8 q) → Calls Tryd.prog 23 #[.int .i64 s, .slice Ae k ce] w' fun e w'' => e = .returned (.agg (cells8 (leafOf s q)).toArray) ∧ Below w'.heap.size w' w'') := fun w' hb2 q k Ae ce h1 h2 h3 h4 h5 => leaf_any q k h1 Ae ce s w' (hBs.below hb2 hBs.1) (by omega) h5 h3 h4
  have hLk : Hid (∀ w', Below w.heap.size w w' → ∀ x y : Text, x.length = 32 → y.length = 32 → Calls Tryd.prog 22 #[.int .i64 s, .agg (cells8 x).toArray, .agg (cells8 y).toArray] w' fun e w'' => e = .returned (.agg (cells8 (linkOf s x y)).toArray) ∧ Below w'.heap.size w' w'') := fun w' hb2 x y hx hy => link_any x y hx hy s w' (hBs.below hb2 hBs.1)
  have hN : Hid ((n : Int) < 9223372036854775807) := by show _ < _; omega
  have hN1 : Hid (n ≤ 1000) := hn1
  obtain ⟨cs, hcs⟩ : ∃ cs, Hid ((toldV s b e A n c).toArray = cs) := ⟨_, Lib.hid rfl⟩
  have hb0 : Hid (Below w.heap.size w (w.alloc (.cells cs 167))) := Below.heap_below w _
  have hP0 : Hid (Blk (w.alloc (.cells cs 167)) w.heap.size 167 cs) := Blk.new w _ _
  have hro : Hid (∀ j v, (cells8 b)[j]? = some v → (w.alloc (.cells cs 167)).cell? ⟨w.heap.size, 1 + j, none⟩ = some v) := fun j v h => by rw [hP0.out.cell (1 + j), ← hcs.out, List.getElem?_toArray]; exact toldV_b j v h
  have hsz : Hid ((Tryd.prog.info? 23).map (·.size) = some (cells8 b).length) := by show _ = _; rw [cells8_len, hb]; exact size31
  have hev : Hid (∀ w', Blk w' w.heap.size 167 cs → w'.cell? ⟨w.heap.size, 65, none⟩ = some (.slice A n c)) := fun w' h => by rw [h.cell 65, ← hcs.out, List.getElem?_toArray]; exact toldV_65 hb he
  have hs0 : Hid (∀ w', Blk w' w.heap.size 167 cs → w'.cell? ⟨w.heap.size, 0, none⟩ = some (.int .i64 s)) := fun w' h => by rw [h.cell 0, ← hcs.out, List.getElem?_toArray]; exact toldV_0
  have hbl : Hid (b.length = 32) := hb
  rw [hcs.out]
  have Fb := Lib.hid (fit (x := b) hb)
  replace hn := Lib.hid hn
  replace hp := Lib.hid hp
  replace hsh := Lib.hid hsh
  have c65 := hev.out _ hP0.out
  clear hb he hn1 hcs hBs
  go_enter Tryd.func212, Tryd.ntmps212
  have hZ1 : Hid (Blk ((w.alloc (.cells cs 167)).alloc (.cells Z32 23)) (w.heap.size + 1) 23 Z32) := by
    have := Blk.new (w.alloc (.cells cs 167)) 23 Z32
    rwa [show (w.alloc (.cells cs 167)).heap.size = w.heap.size + 1 by simp] at this
  go_wp2_with (first
    | ((with_reducible change wpList _ _ _ ({ dst := some 9, op := _, type := _, pos := _, after := _, guard := _ } :: _) _ _); refine wpList_load_part (o := ⟨some 9, _, _, _, _, _⟩) rfl 23 (.tmp 8) rfl w.heap.size 1 rfl (cells8 b) _ hro.out Tryd.underlying23 rfl hsz.out ?_)
    | ((with_reducible change wpList _ _ _ ({ dst := none, op := Op.store 23 (.tmp 4) _, type := _, pos := _, after := _, guard := _ } :: _) _ _); refine wpList_store_whole (o := ⟨none, _, _, _, _, _⟩) rfl 23 (.tmp 4) (.tmp 9) rfl (w.heap.size + 1) ((cells8 b).toArray) rfl rfl 23 (Z32) hZ1.out Fb.out.size Fb.out.zero Fb.out.one ?_; intro wz hC0 kz; have c65z : wz.cell? ⟨w.heap.size, 65, none⟩ = some (.slice A n c) := hev.out _ ((hP0.out.alloc _).kept kz (by omega)); replace hC0 := Lib.hid hC0; replace kz := Lib.hid kz))
  have hP2 : Hid (Blk wz w.heap.size 167 cs) := (hP0.out.alloc _).kept kz.out (by omega)
  have hb2 : Hid (Below w.heap.size w wz) := (hb0.out.alloc hb0.out.size _).trans (Kept.below_of kz.out (by omega) (hb0.out.alloc hb0.out.size _).size)
  have hO0 : Hid (wz.ownsRow (w.heap.size + 2) 27 1 (.slice none 0 0) 0 []) := ⟨rfl, .inl ⟨rfl, rfl⟩⟩
  have hBS : Hid (w.heap.size + 2 ≤ wz.heap.size) := by have := hC0.out.lt; show _ ≤ _; have := kz.out.size; simp at this; omega
  clear kz hZ1 c65z
  clear hro c65 hb0 hP0 hsz
  go_loopw [3, 13] (fun v u wr => ∃ (i : Nat) (xs : List Value) (v0 : Value), v = v0 ∧ u = .int .i64 (i : Int) ∧ Hid (i ≤ n) ∧ Hid (wr.ownsRow (w.heap.size + 2) 27 1 v0 (2 * i) xs) ∧ Hid (Ty wr xs (linksOf s b (es.take i))) ∧ Hid (Far (w.heap.size + 2) xs) ∧ Hid (2 * i = 0 → v0 = .slice none 0 0) ∧ Hid (Blk wr w.heap.size 167 cs) ∧ Hid (Blk wr (w.heap.size + 1) 23 (cells8 (chainOf s b (es.take i))).toArray) ∧ Hid (w.heap.size + 2 ≤ wr.heap.size) ∧ Hid (Below w.heap.size w wr)) (fun _ u _ => n - (intOf u).toNat)
  case atStart => exact ⟨0, [], _, rfl, rfl, (show 0 ≤ n by omega), hO0.out, Ty.nil_ _, (fun x h => by cases h), fun _ => rfl, hP2.out, hC0.out, hBS.out, hb2.out⟩
  case round =>
    clear hO0 hb2 hC0 hBS hP2
    obtain ⟨i, xs, v, hv0, rfl, hi, hO, hT, hFr, hz, hP, hC, hBS, hb⟩ := hrel
    have hv1 := hv0.symm
    subst hv1
    by_cases hlt : i < n
    · have y1 : (i : Int) < (n : Int) := by omega
      have y2 : (0 : Int) ≤ (i : Int) := by omega
      have hil : (i : Int) < 9223372036854775807 := by have := hN.out; omega
      have c65 := hev.out _ hP.out
      have c00' := hs0.out _ hP.out
      obtain ⟨q, hq⟩ : ∃ q, Hid (es[i]? = some q) := ⟨_, List.getElem?_eq_getElem (by rw [hn.out]; exact hlt)⟩
      obtain ⟨bA, o, rfl, hbA, hcs⟩ := hp.out (by have := hn.out; omega)
      obtain ⟨Ae, ce, hc1, hc2, hc3, hc4⟩ := hcs i q hq.out
      have hcell : wr.cell? ⟨bA, o + i, none⟩ = some (.slice Ae q.length ce) := (hb.out.cell (p := ⟨bA, o + i, none⟩) hbA).trans hc1
      have hbAh := Lib.hid hbA
      obtain ⟨x, hx⟩ : ∃ x, Hid (x = chainOf s b (es.take i)) := ⟨_, rfl⟩
      have hxl : Hid (x.length = 32) := by show _ = _; rw [hx.out]; exact chainOf_len s b hbl.out _
      have hst := Lib.hid (chainOf_step s b es i q hq.out)
      have hls := Lib.hid (linksOf_step s b es i q hq.out)
      rw [← hx.out] at hC hst hls
      obtain ⟨ts, hts⟩ : ∃ ts, Hid (ts = linksOf s b (es.take i)) := ⟨_, rfl⟩
      have hm : Hid (ts.length = 2 * i) := by show _ = _; rw [hts.out, linksOf_len, List.length_take, hn.out]; omega
      rw [← hts.out] at hT hls
      obtain ⟨y, hy⟩ : ∃ y, Hid (y = leafOf s q) := ⟨_, rfl⟩
      obtain ⟨z, hz2⟩ : ∃ z, Hid (z = linkOf s x y) := ⟨_, rfl⟩
      have hyl : Hid (y.length = 32) := by show _ = _; rw [hy.out]; exact leafOf_len _ _
      have hzl : Hid (z.length = 32) := by show _ = _; rw [hz2.out]; exact linkOf_len _ _ _
      rw [← hy.out, ← hz2.out] at hst
      unfold stepTs at hls
      rw [← hy.out] at hls
      obtain ⟨q1, hq1⟩ : ∃ q1 : Text, Hid (kb 0 :: q = q1) := ⟨_, Lib.hid rfl⟩
      obtain ⟨q2, hq2⟩ : ∃ q2 : Text, Hid (kb 2 :: (x ++ y) = q2) := ⟨_, Lib.hid rfl⟩
      have hq1p : Hid (0 < q1.length) := by show _ < _; rw [← hq1.out]; exact Nat.succ_pos _
      have hq2p : Hid (0 < q2.length) := by show _ < _; rw [← hq2.out]; exact Nat.succ_pos _
      rw [hq1.out, hq2.out] at hls
      have hql := hsh.out q (List.mem_of_getElem? hq.out)
      have hrq : Hid (Reads wr 1 Ae q.length (cells8 q)) := hc3.below hb.out
      have hLf1 : Hid (Calls Tryd.prog 23 #[.int .i64 s, .slice Ae q.length ce] wr fun e w'' => e = .returned (.agg (cells8 y).toArray) ∧ Below wr.heap.size wr w'') := by
        have := hLf.out wr hb.out q q.length Ae ce rfl hql hc2 hc4 hrq.out
        rwa [← hy.out] at this
      have hLk1 : Hid (∀ w', Below w.heap.size w w' → Calls Tryd.prog 22 #[.int .i64 s, .agg (cells8 x).toArray, .agg (cells8 y).toArray] w' fun e w'' => e = .returned (.agg (cells8 z).toArray) ∧ Below w'.heap.size w' w'') := fun w' h => by
        have := hLk.out w' h x y hxl.out hyl.out
        rwa [← hz2.out] at this
      have hT1 : Hid (∀ w' g, Below wr.heap.size wr w' → Blk w' g 27 #[.slice Ae q.length ce] → Calls Tryd.prog 160 #[.int .i64 0, .slice (some ⟨g, 0, none⟩) 1 1] w' (TextPost w' q1)) := fun w' g h1 h2 => by
        rw [← hq1.out]
        exact text_leaf h2 (hrq.out.below h1) rfl hql hc2 hc4
      have hT2 : Hid (∀ w' g a b, Blk w' g 27 #[.slice (some ⟨a, 0, none⟩) 32 32, .slice (some ⟨b, 0, none⟩) 32 32] → Blk w' a 23 (cells8 x).toArray → Blk w' b 23 (cells8 y).toArray → Calls Tryd.prog 160 #[.int .i64 2, .slice (some ⟨g, 0, none⟩) 2 2] w' (TextPost w' q2)) := fun w' g a b h1 h2 h3 => by
        rw [← hq2.out]
        exact text_link h1 h2 h3 hxl.out hyl.out
      obtain ⟨k, hk⟩ : ∃ k, Hid (q.length = k) := ⟨_, Lib.hid rfl⟩
      rw [hk.out] at hcell hLf1 hT1
      clear hcs hc1 hc2 hc3 hc4 hql hrq hbA
      have Fx := Lib.hid (fit (x := x) hxl.out)
      have Fy := Lib.hid (fit (x := y) hyl.out)
      have Fz := Lib.hid (fit (x := z) hzl.out)
      have hmx : Hid (2 * i + 2 ≤ maxLen) := by have := hN1.out; show _ ≤ _; unfold maxLen; omega
      have hmb : Hid ((2 * i + 2) * 24 ≤ 140737488355328) := by have := hN1.out; show _ ≤ _; omega
      go_wp2_with (first
        | (go_at_call 23; refine hLf1.out.mono ?_; rintro e' w1 ⟨rfl, hk1⟩)
        | ((with_reducible change wpList _ _ _ ({ dst := none, op := Op.store 23 _ _, type := _, pos := _, after := _, guard := _ } :: _) _ _); refine wpList_store_row (o := ⟨none, _, _, _, _, _⟩) rfl 23 (.tmp 7) (.tmp 20) rfl w1.heap.size (cells8 y).toArray rfl rfl 23 Z32 (heap_alloc_new w1 _) Fy.out.size Fy.out.zero Fy.out.one ?_; rw [alloc_setRow]))
      have hk5 : Hid (Below wr.heap.size wr (w1.alloc (.cells (cells8 y).toArray 23))) := hk1.alloc hk1.size _
      have hL5 : Hid (Blk (w1.alloc (.cells (cells8 y).toArray 23)) w1.heap.size 23 (cells8 y).toArray) := Blk.new w1 _ _
      have hsz1 : Hid (wr.heap.size ≤ w1.heap.size) := hk1.size
      generalize w1.alloc (.cells (cells8 y).toArray 23) = w5 at *
      clear hk1
      have hnv : Hid (∀ k, v.ownBlock = some k → w.heap.size + 2 ≤ k ∧ k < wr.heap.size) := fun k hk => ⟨own_base hO.out k hk, own_lt hO.out k hk⟩
      have hbA2 : Hid (bA < w.heap.size) := hbAh.out
      have hcq : Hid (∀ w', Below (w.heap.size + 2) w5 w' → w'.cell? ⟨bA, o + i, none⟩ = some (.slice Ae k ce)) := fun w' h => by
        have h1 : w5.cell? ⟨bA, o + i, none⟩ = some (.slice Ae k ce) := (hk5.out.cell (p := ⟨bA, o + i, none⟩) (by have := hbA2.out; have := hBS.out; show bA < _; omega)).trans hcell
        exact (h.cell (p := ⟨bA, o + i, none⟩) (by have := hbA2.out; show bA < _; omega)).trans h1
      have hBw : Hid (w.heap.size + 2 ≤ w5.heap.size) := Nat.le_trans hBS.out hk5.out.size
      have hC5 : Hid (Blk w5 (w.heap.size + 1) 23 (cells8 x).toArray) := (hk5.out.block _ hC.out.lt).trans hC.out
      have hP5 : Hid (Blk w5 w.heap.size 167 cs) := (hk5.out.block _ hP.out.lt).trans hP.out
      have hb5 : Hid (Below w.heap.size w w5) := hb.out.trans (hk5.out.mono hb.out.size)
      replace hO := Lib.hid (Go.Proofs.YtmdkfhfkdcbpgaaDoorR.Own.own_below hO.out hk5.out)
      replace hT := Lib.hid (hT.out.below hk5.out)
      replace hT1 : Hid (∀ w' g, Below w5.heap.size w5 w' → Blk w' g 27 #[.slice Ae k ce] → Calls Tryd.prog 160 #[.int .i64 0, .slice (some ⟨g, 0, none⟩) 1 1] w' (TextPost w' q1)) := fun w' g h1 h2 => hT1.out w' g (hk5.out.trans (h1.mono hk5.out.size)) h2
      replace hT2 : Hid (∀ w' g, Below w5.heap.size w5 w' → Blk w' g 27 #[.slice (some ⟨w.heap.size + 1, 0, none⟩) 32 32, .slice (some ⟨w1.heap.size, 0, none⟩) 32 32] → Calls Tryd.prog 160 #[.int .i64 2, .slice (some ⟨g, 0, none⟩) 2 2] w' (TextPost w' q2)) := fun w' g h1 h2 => hT2.out w' g _ _ h2 ((h1.block _ hC5.out.lt).trans hC5.out) ((h1.block _ hL5.out.lt).trans hL5.out)
      clear hcell hLf1 hLf hLk hb hC hP
      go_simp
      go_cut [3] from 21 to 31 (fun v' wr' => ∃ A' c', v' = .slice A' (2 * i + 2) c' ∧ Hid (Two w5 wr' v (.slice A' (2 * i + 2) c') (w.heap.size + 2) (2 * i) ts q1 q2))
      case first =>
        have s0 : Hid (Below w5.heap.size w5 w5.drew) := (Below.refl _ _).drew
        refine held_start (fun w' => Below (w.heap.size + 2) w5 w') 11 rfl (by kernel_rfl) ?_
        refine held_take (i := 0) (v := v) rfl (by kernel_rfl) (by kernel_rfl) (by kernel_rfl) (fun _ _ _ h => h) (s0.out.mono hBw.out) (by rfl) (fun w' hw' => run_mv (.tmp 3) rfl w') ?_
        (intro K hK; go_simp; refine hK _ ?_; clear hK K)
        refine held_take (i := 1) (v := .slice Ae k ce) rfl (by kernel_rfl) (by kernel_rfl) (by kernel_rfl) (fun _ _ _ h => h) (s0.out.mono hBw.out) (by rfl) (fun w' hw' => run_mv (.tmp 6) rfl w') ?_
        (intro K hK; go_simp; refine hK _ ?_; clear hK K)
        refine held_take (i := 4) (v := .slice (some ⟨w.heap.size + 1, 0, none⟩) 32 32) rfl (by kernel_rfl) (by kernel_rfl) (by kernel_rfl) (fun _ _ _ h => h) (s0.out.mono hBw.out) (by rfl) (fun w' hw' => by go_simp) ?_
        (intro K hK; go_simp; refine hK _ ?_; clear hK K)
        refine held_take (i := 5) (v := .slice (some ⟨w1.heap.size, 0, none⟩) 32 32) rfl (by kernel_rfl) (by kernel_rfl) (by kernel_rfl) (fun _ _ _ h => h) (s0.out.mono hBw.out) (by rfl) (fun w' hw' => by go_simp) ?_
        (intro K hK; go_simp; refine hK _ ?_; clear hK K)
        refine held_two (i := 2) (j := 6) rfl rfl (by kernel_rfl) (by rfl) (by rfl) (fun K hK => ?_) (fun K hK => ?_)
        · have h1 : Hid (Below w5.heap.size w5 (w5.drew.alloc (.cells #[.slice Ae k ce] 27))) := s0.out.alloc s0.out.size _
          have B1 : Hid (Blk (w5.drew.alloc (.cells #[.slice Ae k ce] 27)) w5.heap.size 27 #[.slice Ae k ce]) := Blk.new _ _ _
          go_simp
          refine hK _ _ (h1.out.mono hBw.out) ?_
          clear hK K
          refine held_two (i := 3) (j := 6) rfl rfl (by kernel_rfl) (by rfl) (by rfl) (fun K hK => ?_) (fun K hK => ?_)
          · refine wp_fn (R := fun v w'' => ∃ g c, v = .slice (some ⟨g, 0, none⟩) q1.length c ∧ ((w5.drew.alloc (.cells #[.slice Ae k ce] 27))).heap.size ≤ g ∧ q1.length ≤ c ∧ Reads w'' 1 (some ⟨g, 0, none⟩) q1.length (cells8 q1) ∧ Below ((w5.drew.alloc (.cells #[.slice Ae k ce] 27))).heap.size ((w5.drew.alloc (.cells #[.slice Ae k ce] 27))) w'') (args := #[.int .i64 0, .slice (some ⟨w5.heap.size, 0, none⟩) 1 1]) _ _ rfl rfl Tryd.func160 (by kernel_rfl) (by kernel_rfl) ((hT1.out _ _ h1.out B1.out).mono fun e w'' ⟨g, c, he, h0, h1, h2, h3⟩ => ⟨_, he, g, c, rfl, h0, h1, h2, h3⟩) ?_
            rintro qq w2 ⟨g1, d1, rfl, kb1, kc1, r1, kk1⟩
            have kb1 : (w.heap.size + 2) ≤ g1 := Nat.le_trans (Nat.le_trans hBw.out h1.out.size) kb1
            have h2 : Hid (Below w5.heap.size w5 w2) := h1.out.trans (kk1.mono h1.out.size)
            replace r1 := Lib.hid r1
            replace kk1 := Lib.hid kk1
            go_simp
            refine hK _ _ (h2.out.mono hBw.out) ?_
            clear hK K
            refine held_only (i := 6) rfl (by kernel_rfl) (by rfl) (fun K hK => ?_)
            have h3 : Hid (Below w5.heap.size w5 (w2.alloc (.cells #[.slice (some ⟨w.heap.size + 1, 0, none⟩) 32 32, .slice (some ⟨w1.heap.size, 0, none⟩) 32 32] 27))) := h2.out.alloc h2.out.size _
            have B2 : Hid (Blk (w2.alloc (.cells #[.slice (some ⟨w.heap.size + 1, 0, none⟩) 32 32, .slice (some ⟨w1.heap.size, 0, none⟩) 32 32] 27)) w2.heap.size 27 #[.slice (some ⟨w.heap.size + 1, 0, none⟩) 32 32, .slice (some ⟨w1.heap.size, 0, none⟩) 32 32]) := Blk.new _ _ _
            go_simp
            refine hK _ _ (h3.out.mono hBw.out) ?_
            clear hK K
            refine held_only (i := 7) rfl (by kernel_rfl) (by rfl) (fun K hK => ?_)
            refine wp_fn (R := fun v w'' => ∃ g c, v = .slice (some ⟨g, 0, none⟩) q2.length c ∧ ((w2.alloc (.cells #[.slice (some ⟨w.heap.size + 1, 0, none⟩) 32 32, .slice (some ⟨w1.heap.size, 0, none⟩) 32 32] 27))).heap.size ≤ g ∧ q2.length ≤ c ∧ Reads w'' 1 (some ⟨g, 0, none⟩) q2.length (cells8 q2) ∧ Below ((w2.alloc (.cells #[.slice (some ⟨w.heap.size + 1, 0, none⟩) 32 32, .slice (some ⟨w1.heap.size, 0, none⟩) 32 32] 27))).heap.size ((w2.alloc (.cells #[.slice (some ⟨w.heap.size + 1, 0, none⟩) 32 32, .slice (some ⟨w1.heap.size, 0, none⟩) 32 32] 27))) w'') (args := #[.int .i64 2, .slice (some ⟨w2.heap.size, 0, none⟩) 2 2]) _ _ rfl rfl Tryd.func160 (by kernel_rfl) (by kernel_rfl) ((hT2.out _ _ h3.out B2.out).mono fun e w'' ⟨g, c, he, h0, h1, h2, h3⟩ => ⟨_, he, g, c, rfl, h0, h1, h2, h3⟩) ?_
            rintro qq w4 ⟨g2, d2, rfl, kb2, kc2, r2, kk1⟩
            have kb2 : (w.heap.size + 2) ≤ g2 := Nat.le_trans (Nat.le_trans hBw.out h3.out.size) kb2
            have h4 : Hid (Below w5.heap.size w5 w4) := h3.out.trans (kk1.mono h3.out.size)
            replace r2 := Lib.hid r2
            replace kk1 := Lib.hid kk1
            have r1 := (r1.out.alloc (.cells #[.slice (some ⟨w.heap.size + 1, 0, none⟩) 32 32, .slice (some ⟨w1.heap.size, 0, none⟩) 32 32] 27)).below kk1.out
            have r2 := r2.out
            go_simp
            refine hK _ _ (h4.out.mono hBw.out) ?_
            clear hK K
            refine held_only (i := 8) rfl (by kernel_rfl) (by rfl) (fun K hK => ?_)
            have h9 : Hid (Below w5.heap.size w5 (w4.alloc (.cells #[.slice (some ⟨g1, 0, none⟩) q1.length d1, .slice (some ⟨g2, 0, none⟩) q2.length d2] 27))) := h4.out.alloc h4.out.size _
            go_simp
            refine hK _ _ (h9.out.mono hBw.out) ?_
            clear hK K
            refine held_only (i := 9) rfl (by kernel_rfl) (by rfl) (fun K hK => ?_)
            refine Append.wp_append_src _ (.tmp 21) (.tmp 29) 24 rfl (w.heap.size + 2) 27 i0 (.slice none 0 0) 1 24 Tryd.underlying24 ii iz0 iz1 iz2 rfl (by decide) v (2 * i) xs rfl (Go.Proofs.YtmdkfhfkdcbpgaaDoorR.Own.own_below hO.out h9.out) (some ⟨w4.heap.size, 0, none⟩) 2 2 [.slice (some ⟨g1, 0, none⟩) q1.length d1, .slice (some ⟨g2, 0, none⟩) q2.length d2] rfl (reads_two _ _ _) (fun e => by cases e) (fun u hu => by rcases List.mem_cons.1 hu with rfl | hu; rfl; obtain rfl := List.mem_singleton.1 hu; rfl) hmx.out hmb.out (Nat.le_trans hBw.out h9.out.size) (fun v10 w10 hGr => ?_)
            have hTwo := Two.mk_ h4.out hBw.out hO.out hT.out hFr.out kb1 kb2 hz.out hm.out hq1p.out hq2p.out kc1 kc2 r1 r2 hGr
            obtain ⟨Af, cf, rfl⟩ := hTwo.form
            replace hTwo := Lib.hid hTwo
            have h10 : Hid (Below (w.heap.size + 2) w5 w10) := Lib.hid hTwo.out.below
            go_simp
            refine hK _ _ h10.out ?_
            clear hK K
            refine held_take (i := 10) (v := .slice Af (2 * i + 2) cf) rfl (by kernel_rfl) (by kernel_rfl) (by kernel_rfl) (fun _ _ _ h => h) h10.out (by rfl) (fun w' hw' => by first | go_simp | rfl) ?_
            (intro K hK; go_simp; refine hK _ ?_; clear hK K)
            refine held_end (by kernel_rfl) ?_
            go_wp2_with fail
            go_meet
            case rel => exact ⟨_, _, rfl, hTwo⟩
          · have h2 : Hid (Below w5.heap.size w5 ((w5.drew.alloc (.cells #[.slice Ae k ce] 27)).alloc (.cells #[.slice (some ⟨w.heap.size + 1, 0, none⟩) 32 32, .slice (some ⟨w1.heap.size, 0, none⟩) 32 32] 27))) := h1.out.alloc h1.out.size _
            have B2 : Hid (Blk ((w5.drew.alloc (.cells #[.slice Ae k ce] 27)).alloc (.cells #[.slice (some ⟨w.heap.size + 1, 0, none⟩) 32 32, .slice (some ⟨w1.heap.size, 0, none⟩) 32 32] 27)) (w5.heap.size + 1) 27 #[.slice (some ⟨w.heap.size + 1, 0, none⟩) 32 32, .slice (some ⟨w1.heap.size, 0, none⟩) 32 32]) := by have h := Blk.new (w5.drew.alloc (.cells #[.slice Ae k ce] 27)) 27 #[.slice (some ⟨w.heap.size + 1, 0, none⟩) 32 32, .slice (some ⟨w1.heap.size, 0, none⟩) 32 32]; rwa [show (w5.drew.alloc (.cells #[.slice Ae k ce] 27)).heap.size = w5.heap.size + 1 by simp] at h
            go_simp
            refine hK _ _ (h2.out.mono hBw.out) ?_
            clear hK K
            replace B1 := Lib.hid (Blk.alloc B1.out (.cells #[.slice (some ⟨w.heap.size + 1, 0, none⟩) 32 32, .slice (some ⟨w1.heap.size, 0, none⟩) 32 32] 27))
            refine held_only (i := 3) rfl (by kernel_rfl) (by rfl) (fun K hK => ?_)
            refine wp_fn (R := fun v w'' => ∃ g c, v = .slice (some ⟨g, 0, none⟩) q1.length c ∧ (((w5.drew.alloc (.cells #[.slice Ae k ce] 27)).alloc (.cells #[.slice (some ⟨w.heap.size + 1, 0, none⟩) 32 32, .slice (some ⟨w1.heap.size, 0, none⟩) 32 32] 27))).heap.size ≤ g ∧ q1.length ≤ c ∧ Reads w'' 1 (some ⟨g, 0, none⟩) q1.length (cells8 q1) ∧ Below (((w5.drew.alloc (.cells #[.slice Ae k ce] 27)).alloc (.cells #[.slice (some ⟨w.heap.size + 1, 0, none⟩) 32 32, .slice (some ⟨w1.heap.size, 0, none⟩) 32 32] 27))).heap.size (((w5.drew.alloc (.cells #[.slice Ae k ce] 27)).alloc (.cells #[.slice (some ⟨w.heap.size + 1, 0, none⟩) 32 32, .slice (some ⟨w1.heap.size, 0, none⟩) 32 32] 27))) w'') (args := #[.int .i64 0, .slice (some ⟨w5.heap.size, 0, none⟩) 1 1]) _ _ rfl rfl Tryd.func160 (by kernel_rfl) (by kernel_rfl) ((hT1.out _ _ h2.out B1.out).mono fun e w'' ⟨g, c, he, h0, h1, h2, h3⟩ => ⟨_, he, g, c, rfl, h0, h1, h2, h3⟩) ?_
            rintro qq w3 ⟨g1, d1, rfl, kb1, kc1, r1, kk1⟩
            have kb1 : (w.heap.size + 2) ≤ g1 := Nat.le_trans (Nat.le_trans hBw.out h2.out.size) kb1
            have h3 : Hid (Below w5.heap.size w5 w3) := h2.out.trans (kk1.mono h2.out.size)
            replace r1 := Lib.hid r1
            replace kk1 := Lib.hid kk1
            replace B2 := Lib.hid ((kk1.out.block _ (Blk.lt B2.out)).trans B2.out)
            go_simp
            refine hK _ _ (h3.out.mono hBw.out) ?_
            clear hK K
            refine held_only (i := 7) rfl (by kernel_rfl) (by rfl) (fun K hK => ?_)
            refine wp_fn (R := fun v w'' => ∃ g c, v = .slice (some ⟨g, 0, none⟩) q2.length c ∧ (w3).heap.size ≤ g ∧ q2.length ≤ c ∧ Reads w'' 1 (some ⟨g, 0, none⟩) q2.length (cells8 q2) ∧ Below (w3).heap.size (w3) w'') (args := #[.int .i64 2, .slice (some ⟨w5.heap.size + 1, 0, none⟩) 2 2]) _ _ rfl rfl Tryd.func160 (by kernel_rfl) (by kernel_rfl) ((hT2.out _ _ h3.out B2.out).mono fun e w'' ⟨g, c, he, h0, h1, h2, h3⟩ => ⟨_, he, g, c, rfl, h0, h1, h2, h3⟩) ?_
            rintro qq w4 ⟨g2, d2, rfl, kb2, kc2, r2, kk1⟩
            have kb2 : (w.heap.size + 2) ≤ g2 := Nat.le_trans (Nat.le_trans hBw.out h3.out.size) kb2
            have h4 : Hid (Below w5.heap.size w5 w4) := h3.out.trans (kk1.mono h3.out.size)
            replace r2 := Lib.hid r2
            replace kk1 := Lib.hid kk1
            have r1 := r1.out.below kk1.out
            have r2 := r2.out
            go_simp
            refine hK _ _ (h4.out.mono hBw.out) ?_
            clear hK K
            refine held_only (i := 8) rfl (by kernel_rfl) (by rfl) (fun K hK => ?_)
            have h9 : Hid (Below w5.heap.size w5 (w4.alloc (.cells #[.slice (some ⟨g1, 0, none⟩) q1.length d1, .slice (some ⟨g2, 0, none⟩) q2.length d2] 27))) := h4.out.alloc h4.out.size _
            go_simp
            refine hK _ _ (h9.out.mono hBw.out) ?_
            clear hK K
            refine held_only (i := 9) rfl (by kernel_rfl) (by rfl) (fun K hK => ?_)
            refine Append.wp_append_src _ (.tmp 21) (.tmp 29) 24 rfl (w.heap.size + 2) 27 i0 (.slice none 0 0) 1 24 Tryd.underlying24 ii iz0 iz1 iz2 rfl (by decide) v (2 * i) xs rfl (Go.Proofs.YtmdkfhfkdcbpgaaDoorR.Own.own_below hO.out h9.out) (some ⟨w4.heap.size, 0, none⟩) 2 2 [.slice (some ⟨g1, 0, none⟩) q1.length d1, .slice (some ⟨g2, 0, none⟩) q2.length d2] rfl (reads_two _ _ _) (fun e => by cases e) (fun u hu => by rcases List.mem_cons.1 hu with rfl | hu; rfl; obtain rfl := List.mem_singleton.1 hu; rfl) hmx.out hmb.out (Nat.le_trans hBw.out h9.out.size) (fun v10 w10 hGr => ?_)
            have hTwo := Two.mk_ h4.out hBw.out hO.out hT.out hFr.out kb1 kb2 hz.out hm.out hq1p.out hq2p.out kc1 kc2 r1 r2 hGr
            obtain ⟨Af, cf, rfl⟩ := hTwo.form
            replace hTwo := Lib.hid hTwo
            have h10 : Hid (Below (w.heap.size + 2) w5 w10) := Lib.hid hTwo.out.below
            go_simp
            refine hK _ _ h10.out ?_
            clear hK K
            refine held_take (i := 10) (v := .slice Af (2 * i + 2) cf) rfl (by kernel_rfl) (by kernel_rfl) (by kernel_rfl) (fun _ _ _ h => h) h10.out (by rfl) (fun w' hw' => by first | go_simp | rfl) ?_
            (intro K hK; go_simp; refine hK _ ?_; clear hK K)
            refine held_end (by kernel_rfl) ?_
            go_wp2_with fail
            go_meet
            case rel => exact ⟨_, _, rfl, hTwo⟩
        · have h1 : Hid (Below w5.heap.size w5 (w5.drew.alloc (.cells #[.slice (some ⟨w.heap.size + 1, 0, none⟩) 32 32, .slice (some ⟨w1.heap.size, 0, none⟩) 32 32] 27))) := s0.out.alloc s0.out.size _
          have B2 : Hid (Blk (w5.drew.alloc (.cells #[.slice (some ⟨w.heap.size + 1, 0, none⟩) 32 32, .slice (some ⟨w1.heap.size, 0, none⟩) 32 32] 27)) w5.heap.size 27 #[.slice (some ⟨w.heap.size + 1, 0, none⟩) 32 32, .slice (some ⟨w1.heap.size, 0, none⟩) 32 32]) := Blk.new _ _ _
          go_simp
          refine hK _ _ (h1.out.mono hBw.out) ?_
          clear hK K
          refine held_only (i := 2) rfl (by kernel_rfl) (by rfl) (fun K hK => ?_)
          have h2 : Hid (Below w5.heap.size w5 ((w5.drew.alloc (.cells #[.slice (some ⟨w.heap.size + 1, 0, none⟩) 32 32, .slice (some ⟨w1.heap.size, 0, none⟩) 32 32] 27)).alloc (.cells #[.slice Ae k ce] 27))) := h1.out.alloc h1.out.size _
          have B1 : Hid (Blk ((w5.drew.alloc (.cells #[.slice (some ⟨w.heap.size + 1, 0, none⟩) 32 32, .slice (some ⟨w1.heap.size, 0, none⟩) 32 32] 27)).alloc (.cells #[.slice Ae k ce] 27)) (w5.heap.size + 1) 27 #[.slice Ae k ce]) := by have h := Blk.new (w5.drew.alloc (.cells #[.slice (some ⟨w.heap.size + 1, 0, none⟩) 32 32, .slice (some ⟨w1.heap.size, 0, none⟩) 32 32] 27)) 27 #[.slice Ae k ce]; rwa [show (w5.drew.alloc (.cells #[.slice (some ⟨w.heap.size + 1, 0, none⟩) 32 32, .slice (some ⟨w1.heap.size, 0, none⟩) 32 32] 27)).heap.size = w5.heap.size + 1 by simp] at h
          go_simp
          refine hK _ _ (h2.out.mono hBw.out) ?_
          clear hK K
          replace B2 := Lib.hid (Blk.alloc B2.out (.cells #[.slice Ae k ce] 27))
          refine held_only (i := 3) rfl (by kernel_rfl) (by rfl) (fun K hK => ?_)
          refine wp_fn (R := fun v w'' => ∃ g c, v = .slice (some ⟨g, 0, none⟩) q1.length c ∧ (((w5.drew.alloc (.cells #[.slice (some ⟨w.heap.size + 1, 0, none⟩) 32 32, .slice (some ⟨w1.heap.size, 0, none⟩) 32 32] 27)).alloc (.cells #[.slice Ae k ce] 27))).heap.size ≤ g ∧ q1.length ≤ c ∧ Reads w'' 1 (some ⟨g, 0, none⟩) q1.length (cells8 q1) ∧ Below (((w5.drew.alloc (.cells #[.slice (some ⟨w.heap.size + 1, 0, none⟩) 32 32, .slice (some ⟨w1.heap.size, 0, none⟩) 32 32] 27)).alloc (.cells #[.slice Ae k ce] 27))).heap.size (((w5.drew.alloc (.cells #[.slice (some ⟨w.heap.size + 1, 0, none⟩) 32 32, .slice (some ⟨w1.heap.size, 0, none⟩) 32 32] 27)).alloc (.cells #[.slice Ae k ce] 27))) w'') (args := #[.int .i64 0, .slice (some ⟨w5.heap.size + 1, 0, none⟩) 1 1]) _ _ rfl rfl Tryd.func160 (by kernel_rfl) (by kernel_rfl) ((hT1.out _ _ h2.out B1.out).mono fun e w'' ⟨g, c, he, h0, h1, h2, h3⟩ => ⟨_, he, g, c, rfl, h0, h1, h2, h3⟩) ?_
          rintro qq w3 ⟨g1, d1, rfl, kb1, kc1, r1, kk1⟩
          have kb1 : (w.heap.size + 2) ≤ g1 := Nat.le_trans (Nat.le_trans hBw.out h2.out.size) kb1
          have h3 : Hid (Below w5.heap.size w5 w3) := h2.out.trans (kk1.mono h2.out.size)
          replace r1 := Lib.hid r1
          replace kk1 := Lib.hid kk1
          replace B2 := Lib.hid ((kk1.out.block _ (Blk.lt B2.out)).trans B2.out)
          go_simp
          refine hK _ _ (h3.out.mono hBw.out) ?_
          clear hK K
          refine held_only (i := 7) rfl (by kernel_rfl) (by rfl) (fun K hK => ?_)
          refine wp_fn (R := fun v w'' => ∃ g c, v = .slice (some ⟨g, 0, none⟩) q2.length c ∧ (w3).heap.size ≤ g ∧ q2.length ≤ c ∧ Reads w'' 1 (some ⟨g, 0, none⟩) q2.length (cells8 q2) ∧ Below (w3).heap.size (w3) w'') (args := #[.int .i64 2, .slice (some ⟨w5.heap.size, 0, none⟩) 2 2]) _ _ rfl rfl Tryd.func160 (by kernel_rfl) (by kernel_rfl) ((hT2.out _ _ h3.out B2.out).mono fun e w'' ⟨g, c, he, h0, h1, h2, h3⟩ => ⟨_, he, g, c, rfl, h0, h1, h2, h3⟩) ?_
          rintro qq w4 ⟨g2, d2, rfl, kb2, kc2, r2, kk1⟩
          have kb2 : (w.heap.size + 2) ≤ g2 := Nat.le_trans (Nat.le_trans hBw.out h3.out.size) kb2
          have h4 : Hid (Below w5.heap.size w5 w4) := h3.out.trans (kk1.mono h3.out.size)
          replace r2 := Lib.hid r2
          replace kk1 := Lib.hid kk1
          have r1 := r1.out.below kk1.out
          have r2 := r2.out
          go_simp
          refine hK _ _ (h4.out.mono hBw.out) ?_
          clear hK K
          refine held_only (i := 8) rfl (by kernel_rfl) (by rfl) (fun K hK => ?_)
          have h9 : Hid (Below w5.heap.size w5 (w4.alloc (.cells #[.slice (some ⟨g1, 0, none⟩) q1.length d1, .slice (some ⟨g2, 0, none⟩) q2.length d2] 27))) := h4.out.alloc h4.out.size _
          go_simp
          refine hK _ _ (h9.out.mono hBw.out) ?_
          clear hK K
          refine held_only (i := 9) rfl (by kernel_rfl) (by rfl) (fun K hK => ?_)
          refine Append.wp_append_src _ (.tmp 21) (.tmp 29) 24 rfl (w.heap.size + 2) 27 i0 (.slice none 0 0) 1 24 Tryd.underlying24 ii iz0 iz1 iz2 rfl (by decide) v (2 * i) xs rfl (Go.Proofs.YtmdkfhfkdcbpgaaDoorR.Own.own_below hO.out h9.out) (some ⟨w4.heap.size, 0, none⟩) 2 2 [.slice (some ⟨g1, 0, none⟩) q1.length d1, .slice (some ⟨g2, 0, none⟩) q2.length d2] rfl (reads_two _ _ _) (fun e => by cases e) (fun u hu => by rcases List.mem_cons.1 hu with rfl | hu; rfl; obtain rfl := List.mem_singleton.1 hu; rfl) hmx.out hmb.out (Nat.le_trans hBw.out h9.out.size) (fun v10 w10 hGr => ?_)
          have hTwo := Two.mk_ h4.out hBw.out hO.out hT.out hFr.out kb1 kb2 hz.out hm.out hq1p.out hq2p.out kc1 kc2 r1 r2 hGr
          obtain ⟨Af, cf, rfl⟩ := hTwo.form
          replace hTwo := Lib.hid hTwo
          have h10 : Hid (Below (w.heap.size + 2) w5 w10) := Lib.hid hTwo.out.below
          go_simp
          refine hK _ _ h10.out ?_
          clear hK K
          refine held_take (i := 10) (v := .slice Af (2 * i + 2) cf) rfl (by kernel_rfl) (by kernel_rfl) (by kernel_rfl) (fun _ _ _ h => h) h10.out (by rfl) (fun w' hw' => by first | go_simp | rfl) ?_
          (intro K hK; go_simp; refine hK _ ?_; clear hK K)
          refine held_end (by kernel_rfl) ?_
          go_wp2_with fail
          go_meet
          case rel => exact ⟨_, _, rfl, hTwo⟩
      case rest =>
        obtain ⟨A', c', rfl, hTwo⟩ := hcut
        obtain ⟨w6, rfl⟩ : ∃ wq, wq = wc := ⟨_, rfl⟩
        obtain ⟨xs6, hO6, hT6, hF6⟩ := hTwo.out.own
        have hC6 : Hid (Blk w6 (w.heap.size + 1) 23 (cells8 x).toArray) := hTwo.out.keep _ _ _ hC5.out (fun e => by have := (hnv.out _ e.symm).1; omega)
        have hL6 : Hid (Blk w6 w1.heap.size 23 (cells8 y).toArray) := hTwo.out.keep _ _ _ hL5.out (fun e => by have := (hnv.out _ e.symm).2; have := hsz1.out; omega)
        have hP6 : Hid (Blk w6 w.heap.size 167 cs) := hTwo.out.keep _ _ _ hP5.out (fun e => by have := (hnv.out _ e.symm).1; omega)
        have c00 := hs0.out _ hP6.out
        have hb6 : Hid (Below w.heap.size w w6) := hb5.out.trans (hTwo.out.below.mono (by omega))
        have hs6 : Hid (w.heap.size + 2 ≤ w6.heap.size) := Nat.le_trans hBw.out hTwo.out.below.size
        replace hO6 := Lib.hid hO6
        replace hT6 := Lib.hid hT6
        replace hF6 := Lib.hid hF6
        have hk9 : Hid (∀ w9 w8, Below w6.heap.size w6 w8 → Kept (· = w.heap.size + 1) w8 w9 → w9.ownsRow (w.heap.size + 2) 27 1 (.slice A' (2 * i + 2) c') (2 * i + 2) xs6 ∧ Ty w9 xs6 (ts ++ [q1, q2]) ∧ Blk w9 w.heap.size 167 cs ∧ w.heap.size + 2 ≤ w9.heap.size ∧ Below w.heap.size w w9) := fun w9 w8 h1 h2 => by
          have hC8 : Blk w8 (w.heap.size + 1) 23 (cells8 x).toArray := (h1.block _ hC6.out.lt).trans hC6.out
          refine ⟨own_keepT (Go.Proofs.YtmdkfhfkdcbpgaaDoorR.Own.own_below hO6.out h1) h2 (fun g hg => ⟨23, (cells8 x).toArray, by rw [hg]; exact hC8, by decide⟩), Ty.keepF (hT6.out.below h1) hF6.out h2 (fun k hk e => by omega), ((show Blk w8 w.heap.size 167 cs from (h1.block _ hP6.out.lt).trans hP6.out).kept h2 (by omega)), Nat.le_trans hs6.out (Nat.le_trans h1.size h2.size), (hb6.out.trans (h1.mono hb6.out.size)).trans (Kept.below_of h2 (by omega) (hb6.out.trans (h1.mono hb6.out.size)).size)⟩
        clear hTwo hO6 hT6 hC5 hL5 hb5 hT1 hT2 hO hT hcq hk5 hP5
        go_wp2_with (first
          | ((with_reducible change wpList _ _ _ ({ dst := some 33, op := _, type := _, pos := _, after := _, guard := _ } :: _) _ _); refine wpList_load_row (o := ⟨some 33, _, _, _, _, _⟩) rfl 23 (.tmp 4) rfl (w.heap.size + 1) rfl 23 ((cells8 x).toArray) (0, 0) _ hC6.out Tryd.underlying23 rfl Fx.out.size ?_)
          | ((with_reducible change wpList _ _ _ ({ dst := some 34, op := _, type := _, pos := _, after := _, guard := _ } :: _) _ _); refine wpList_load_row (o := ⟨some 34, _, _, _, _, _⟩) rfl 23 (.tmp 7) rfl (w1.heap.size) rfl 23 ((cells8 y).toArray) (0, 0) _ hL6.out Tryd.underlying23 rfl Fy.out.size ?_)
          | (go_at_call 22; refine (hLk1.out _ hb6.out).mono ?_; rintro e' w8 ⟨rfl, hk8⟩; have hC8 : Hid (Blk w8 (w.heap.size + 1) 23 (cells8 x).toArray) := (hk8.block _ hC6.out.lt).trans hC6.out; replace hk8 := Lib.hid hk8)
          | ((with_reducible change wpList _ _ _ ({ dst := none, op := Op.store 23 (.tmp 4) _, type := _, pos := _, after := _, guard := _ } :: _) _ _); refine wpList_store_whole (o := ⟨none, _, _, _, _, _⟩) rfl 23 (.tmp 4) (.tmp 35) rfl (w.heap.size + 1) ((cells8 z).toArray) rfl rfl 23 ((cells8 x).toArray) hC8.out Fz.out.size (by rw [List.size_toArray, List.size_toArray, cells8_len, cells8_len, hxl.out, hzl.out]) Fz.out.one ?_; intro w9 hC9 kk9; have h9 := Lib.hid (hk9.out w9 w8 hk8.out kk9); replace hC9 := Lib.hid hC9; clear kk9))
        go_roundw
        case rel => exact ⟨i + 1, xs6, _, rfl, by go_num, (show i + 1 ≤ n by omega), h9.out.1, (by rw [hls.out]; exact h9.out.2.1), hF6.out, (fun h => by omega), h9.out.2.2.1, (by rw [hst.out]; exact hC9.out), h9.out.2.2.2.1, h9.out.2.2.2.2⟩
        case measure => simp [intOf]; omega
    · obtain rfl : i = n := by have := hi.out; omega
      have hTk : Hid (es.take i = es) := List.take_of_length_le (by have := hn.out; omega)
      rw [hTk.out] at hT
      have hz1 : ¬ ((i : Int) < (i : Int)) := by omega
      have hml : Hid ((linksOf s b es).length = 2 * i) := by show _ = _; rw [linksOf_len, hn.out]
      clear hLf hLk hC hBS hsh hp
      go_wp2_with fail
      go_ret
      exact ⟨v, rfl, xs, by rw [hml.out]; exact own_down hO.out (by omega), hT.out, hb.out⟩
end Go.Proofs.YtmdkfhfkdcbpgaaDoorR.ToldTexts

namespace Go.Proofs.YtmdkfhfkdcbpgaaDoorR.TwoHist
open Go Go.RowKit Go.Proofs.YtmdkfhfkdcbpgaaDoorR Go.Proofs.YtmdkfhfkdcbpgaaDoorR.Mem Go.Proofs.YtmdkfhfkdcbpgaaDoorR.Sha Go.Proofs.YtmdkfhfkdcbpgaaDoorR.Bytes Go.Proofs.YtmdkfhfkdcbpgaaDoorR.HashMem Go.Proofs.YtmdkfhfkdcbpgaaDoorR.DigestMem Go.Proofs.YtmdkfhfkdcbpgaaDoorR.TreeMem Go.Proofs.YtmdkfhfkdcbpgaaDoorR.TreeRoot Go.Proofs.YtmdkfhfkdcbpgaaDoorR.Append Go.Proofs.YtmdkfhfkdcbpgaaDoorR.Held Go.Proofs.YtmdkfhfkdcbpgaaDoorR.Guard Go.Proofs.YtmdkfhfkdcbpgaaDoorR.Chain Go.Proofs.YtmdkfhfkdcbpgaaDoorR.ProofEnc Go.Proofs.YtmdkfhfkdcbpgaaDoorR.TwiceP Go.Proofs.YtmdkfhfkdcbpgaaDoorR.Clash Go.Proofs.YtmdkfhfkdcbpgaaDoorR.RowsY Go.Proofs.YtmdkfhfkdcbpgaaDoorR.Extract Go.Proofs.YtmdkfhfkdcbpgaaDoorR.Book Go.Proofs.YtmdkfhfkdcbpgaaDoorR.TwoEvP Go.Proofs.YtmdkfhfkdcbpgaaDoorR.TwoEv Go.Proofs.YtmdkfhfkdcbpgaaDoorR.HistP Go.Proofs.YtmdkfhfkdcbpgaaDoorR.HistMem Go.Proofs.YtmdkfhfkdcbpgaaDoorR.ToldV

theorem fold_h0 (s : Int) (b : Text) (h : b.length = 32) : ((cells8 b).zipIdx.foldl (fun (cs : Array Value) (x : Value × Nat) => cs.setIfInBounds (1 + x.2) x.1) (Tryd.zeroCells167.setIfInBounds 0 (Value.int .i64 s))) = ([Value.int .i64 s] ++ cells8 b ++ (List.replicate 32 (Value.int .u8 0) ++ [Value.slice none 0 0])).toArray := by
  have hz : (Tryd.zeroCells167.setIfInBounds 0 (Value.int .i64 s)) = ([Value.int .i64 s] ++ List.replicate 32 (Value.int .u8 0) ++ (List.replicate 32 (Value.int .u8 0) ++ [Value.slice none 0 0])).toArray := by kernel_rfl
  rw [hz]
  exact fold_at (cells8 b) (List.replicate 32 (Value.int .u8 0)) [Value.int .i64 s] (List.replicate 32 (Value.int .u8 0) ++ [Value.slice none 0 0]) 0 1 rfl (by simp [cells8_len, h])
theorem fold_h1 (s : Int) (b e : Text) (h : b.length = 32) (h1 : e.length = 32) : ((cells8 e).zipIdx.foldl (fun (cs : Array Value) (x : Value × Nat) => cs.setIfInBounds (33 + x.2) x.1) ((cells8 b).zipIdx.foldl (fun (cs : Array Value) (x : Value × Nat) => cs.setIfInBounds (1 + x.2) x.1) (Tryd.zeroCells167.setIfInBounds 0 (Value.int .i64 s)))) = (([Value.int .i64 s] ++ cells8 b) ++ cells8 e ++ [Value.slice none 0 0]).toArray := by
  rw [fold_h0 s b h]
  have := fold_at (cells8 e) (List.replicate 32 (Value.int .u8 0)) ([Value.int .i64 s] ++ cells8 b) [Value.slice none 0 0] 0 33 (by simp [cells8_len, h]) (by simp [cells8_len, h1])
  rw [← List.append_assoc]
  exact this
theorem size_h0 (s : Int) (b : Text) (h : b.length = 32) : ((cells8 b).zipIdx.foldl (fun (cs : Array Value) (x : Value × Nat) => cs.setIfInBounds (1 + x.2) x.1) (Tryd.zeroCells167.setIfInBounds 0 (Value.int .i64 s))).size = 66 := by
  rw [fold_h0 s b h]
  simp [cells8_len, h]
theorem size_h1 (s : Int) (b e : Text) (h : b.length = 32) (h1 : e.length = 32) : ((cells8 e).zipIdx.foldl (fun (cs : Array Value) (x : Value × Nat) => cs.setIfInBounds (33 + x.2) x.1) ((cells8 b).zipIdx.foldl (fun (cs : Array Value) (x : Value × Nat) => cs.setIfInBounds (1 + x.2) x.1) (Tryd.zeroCells167.setIfInBounds 0 (Value.int .i64 s)))).size = 66 := by
  rw [fold_h1 s b e h h1]
  simp [cells8_len, h, h1]
theorem build_told (s : Int) (b e : Text) (h : b.length = 32) (h1 : e.length = 32) (A : Option Addr) (n c : Nat) : ((cells8 e).zipIdx.foldl (fun (cs : Array Value) (x : Value × Nat) => cs.setIfInBounds (33 + x.2) x.1) ((cells8 b).zipIdx.foldl (fun (cs : Array Value) (x : Value × Nat) => cs.setIfInBounds (1 + x.2) x.1) (Tryd.zeroCells167.setIfInBounds 0 (Value.int .i64 s)))).setIfInBounds 65 (.slice A n c) = (toldV s b e A n c).toArray := by
  have hl : (([Value.int .i64 s] ++ cells8 b) ++ cells8 e).length = 65 := by simp [cells8_len, h, h1]
  rw [fold_h1 s b e h h1]
  simp only [List.setIfInBounds_toArray]
  congr 1
  rw [List.set_append_right _ _ (by omega), hl]
  simp [toldV]
/-- A history's answer, as extract has it. -/
def toldAns (s : Int) (b x : Text) (es : List Text) (A : Option Addr) (n c : Nat) : Ans := ⟨167, .agg (toldV s b x A n c).toArray, decide (chainOf s b es = x), linksOf s b es⟩
set_option maxRecDepth 100000 in
theorem toldAns_ok (s : Int) (b x : Text) (hb : b.length = 32) (hx : x.length = 32) (es : List Text) (n : Nat) (hn : es.length = n) (hn60 : n ≤ 60) (A : Option Addr) (c : Nat) (w : World) (hB : Base w) (hp : Pieces w A es) (hsh : ∀ q ∈ es, q.length < 140737488355327) : AnsOk w (toldAns s b x es A n c) := by
  refine ⟨⟨211, fun F w' e => by subst e; kernel_rfl, fun w' => by kernel_rfl, fun w' h => Go.Proofs.YtmdkfhfkdcbpgaaDoorR.ToldTaken.taken_any s b x hb hx es n hn (by omega) A c w' (hB.below h hB.1) (hp.below h) (fun q hq => by have := hsh q hq; omega)⟩, fun _ => ⟨212, fun F w' e => by subst e; kernel_rfl, fun w' => by kernel_rfl, fun w' h => Go.Proofs.YtmdkfhfkdcbpgaaDoorR.ToldTexts.texts_any s b x hb hx es n hn (by omega) A c w' (hB.below h hB.1) (hp.below h) hsh⟩, fun _ q hq => ?_, fun _ => ?_⟩
  · have := linksOf_texts s (K := 140737488355326) (by decide) es b hb (fun e he => by have := hsh e he; omega) q hq
    exact ⟨this.1, by omega⟩
  · show (linksOf s b es).length ≤ 1000
    rw [linksOf_len]
    omega
section
variable (s : Int) (b : Text) (es fs : List Text) (n m : Nat) (A B : Option Addr) (c d : Nat) (w : World)
set_option maxRecDepth 100000 in
set_option maxHeartbeats 1000000 in
theorem no_len (ts : List Text) (h1 : n ≠ m) : Calls Tryd.prog 52 #[.int .i64 s, .agg (cells8 b).toArray, .slice A n c, .slice B m d] w (TPost w s false ts) := by
  have y1 : ((n : Int) == (m : Int)) = false := beq_eq_false_iff_ne.2 (by omega)
  have y2 : ¬ ((n : Int) = (m : Int)) := by omega
  have hb1 : Hid (Below w.heap.size w ((w.alloc (.cells (cells8 b).toArray 23)).alloc (.cells #[Value.slice none 0 0, Value.slice none 0 0] 82))) := ((Below.refl _ w).alloc (Nat.le_refl _) _).alloc (by simp) _
  have hs1 : (w.alloc (.cells (cells8 b).toArray 23)).heap.size = w.heap.size + 1 := by simp
  have hX1 : Hid (Blk ((w.alloc (.cells (cells8 b).toArray 23)).alloc (.cells #[Value.slice none 0 0, Value.slice none 0 0] 82)) (w.heap.size + 1) 82 #[Value.slice none 0 0, Value.slice none 0 0]) := by
    have := Blk.new (w.alloc (.cells (cells8 b).toArray 23)) 82 #[Value.slice none 0 0, Value.slice none 0 0]
    rwa [hs1] at this
  have hR1 : Hid (Blk ((w.alloc (.cells (cells8 b).toArray 23)).alloc (.cells #[Value.slice none 0 0, Value.slice none 0 0] 82)) w.heap.size 23 (cells8 b).toArray) := (Blk.new w _ _).alloc _
  clear hs1
  clear h1
  go_enter Tryd.func52, Tryd.ntmps52
  go_wp2_with ((with_reducible change wpList _ _ _ ({ dst := none, op := Op.store 82 _ _, type := _, pos := _, after := _, guard := _ } :: _) _ _); refine wpList_store_row (o := ⟨none, _, _, _, _, _⟩) rfl 82 (.tmp 8) (.tmp 21) rfl (w.heap.size + 1) (#[Value.slice none 0 0, Value.slice none 0 0]) rfl rfl 82 (#[Value.slice none 0 0, Value.slice none 0 0]) hX1.out sizeE2 rfl oneZ2 ?_)
  refine bodyPost_ret (results_cell_row2 rfl _ _ (w.heap.size + 1) 82 #[Value.slice none 0 0, Value.slice none 0 0] (0, 0) _ rfl (setRow_heap _ _ _ _ _ _ hX1.out) Tryd.underlying82 rfl sizeE2) rfl ?_
  exact TPost.no rfl (below_setRow hb1.out (by omega) _)
set_option maxRecDepth 100000 in
set_option maxHeartbeats 1000000 in
theorem no_same (ts : List Text) (hEq : Hid (∀ w', Below w.heap.size w w' → Calls Tryd.prog 106 #[.slice A n c, .slice B n d, .func (.func 99) #[] #[]] w' fun e w'' => e = .returned (.bool true) ∧ Below w'.heap.size w' w'')) : Calls Tryd.prog 52 #[.int .i64 s, .agg (cells8 b).toArray, .slice A n c, .slice B n d] w (TPost w s false ts) := by
  have y1 : ((n : Int) == (n : Int)) = true := beq_self_eq_true _
  have hb1 : Hid (Below w.heap.size w ((w.alloc (.cells (cells8 b).toArray 23)).alloc (.cells #[Value.slice none 0 0, Value.slice none 0 0] 82))) := ((Below.refl _ w).alloc (Nat.le_refl _) _).alloc (by simp) _
  have hs1 : (w.alloc (.cells (cells8 b).toArray 23)).heap.size = w.heap.size + 1 := by simp
  have hX1 : Hid (Blk ((w.alloc (.cells (cells8 b).toArray 23)).alloc (.cells #[Value.slice none 0 0, Value.slice none 0 0] 82)) (w.heap.size + 1) 82 #[Value.slice none 0 0, Value.slice none 0 0]) := by
    have := Blk.new (w.alloc (.cells (cells8 b).toArray 23)) 82 #[Value.slice none 0 0, Value.slice none 0 0]
    rwa [hs1] at this
  have hR1 : Hid (Blk ((w.alloc (.cells (cells8 b).toArray 23)).alloc (.cells #[Value.slice none 0 0, Value.slice none 0 0] 82)) w.heap.size 23 (cells8 b).toArray) := (Blk.new w _ _).alloc _
  clear hs1
  go_enter Tryd.func52, Tryd.ntmps52
  go_wp2_with (first | (go_at_call 106; refine (hEq.out _ hb1.out).mono ?_; rintro e' w2 ⟨rfl, hk2⟩; have hX2 : Hid (Blk w2 (w.heap.size + 1) 82 #[Value.slice none 0 0, Value.slice none 0 0]) := (hk2.block _ hX1.out.lt).trans hX1.out; have hR2 : Hid (Blk w2 w.heap.size 23 (cells8 b).toArray) := (hk2.block _ hR1.out.lt).trans hR1.out; have hb2 : Hid (Below w.heap.size w w2) := hb1.out.trans (hk2.mono hb1.out.size); clear hk2) | ((with_reducible change wpList _ _ _ ({ dst := none, op := Op.store 82 _ _, type := _, pos := _, after := _, guard := _ } :: _) _ _); refine wpList_store_row (o := ⟨none, _, _, _, _, _⟩) rfl 82 (.tmp 8) (.tmp 21) rfl (w.heap.size + 1) (#[Value.slice none 0 0, Value.slice none 0 0]) rfl rfl 82 (#[Value.slice none 0 0, Value.slice none 0 0]) hX2.out sizeE2 rfl oneZ2 ?_))
  refine bodyPost_ret (results_cell_row2 rfl _ _ (w.heap.size + 1) 82 #[Value.slice none 0 0, Value.slice none 0 0] (0, 0) _ rfl (setRow_heap _ _ _ _ _ _ hX2.out) Tryd.underlying82 rfl sizeE2) rfl ?_
  exact TPost.no rfl (below_setRow hb2.out (by omega) _)
set_option maxRecDepth 100000 in
set_option maxHeartbeats 2000000 in
theorem go_on (hbl : b.length = 32) (x : Text) (hxl : x.length = 32) (ts : List Text) (want : Bool) (hEq : Hid (∀ w', Below w.heap.size w w' → Calls Tryd.prog 106 #[.slice A n c, .slice B n d, .func (.func 99) #[] #[]] w' fun e w'' => e = .returned (.bool false) ∧ Below w'.heap.size w' w''))
    (hCh : Hid (∀ w', Below w.heap.size w w' → Calls Tryd.prog 107 #[.int .i64 s, .agg (cells8 b).toArray, .slice A n c] w' fun e w'' => e = .returned (.agg (cells8 x).toArray) ∧ Below w'.heap.size w' w''))
    (hE : Hid (∀ w', Below w.heap.size w w' → Calls Tryd.prog 100 #[.int .i64 s, .slice (some ⟨w'.heap.size, 0, none⟩) 2 2] (w'.alloc (.cells #[.iface 167 (.agg (toldV s b x A n c).toArray), .iface 167 (.agg (toldV s b x B n d).toArray)] 202)) (TPost w' s want ts))) :
    Calls Tryd.prog 52 #[.int .i64 s, .agg (cells8 b).toArray, .slice A n c, .slice B n d] w (TPost w s want ts) := by
  have y1 : ((n : Int) == (n : Int)) = true := beq_self_eq_true _
  have hb1 : Hid (Below w.heap.size w ((w.alloc (.cells (cells8 b).toArray 23)).alloc (.cells #[Value.slice none 0 0, Value.slice none 0 0] 82))) := ((Below.refl _ w).alloc (Nat.le_refl _) _).alloc (by simp) _
  have hs1 : (w.alloc (.cells (cells8 b).toArray 23)).heap.size = w.heap.size + 1 := by simp
  have hX1 : Hid (Blk ((w.alloc (.cells (cells8 b).toArray 23)).alloc (.cells #[Value.slice none 0 0, Value.slice none 0 0] 82)) (w.heap.size + 1) 82 #[Value.slice none 0 0, Value.slice none 0 0]) := by
    have := Blk.new (w.alloc (.cells (cells8 b).toArray 23)) 82 #[Value.slice none 0 0, Value.slice none 0 0]
    rwa [hs1] at this
  have hR1 : Hid (Blk ((w.alloc (.cells (cells8 b).toArray 23)).alloc (.cells #[Value.slice none 0 0, Value.slice none 0 0] 82)) w.heap.size 23 (cells8 b).toArray) := (Blk.new w _ _).alloc _
  clear hs1
  have Fb := Lib.hid (fit (x := b) hbl)
  have Fx := Lib.hid (fit (x := x) hxl)
  have zc1 : (cells8 b).length = 32 := by rw [cells8_len, hbl]
  have zc2 : (cells8 b).toArray.size = 32 := by rw [List.size_toArray, zc1]
  have zd1 : (cells8 x).length = 32 := by rw [cells8_len, hxl]
  have zd2 : (cells8 x).toArray.size = 32 := by rw [List.size_toArray, zd1]
  have ze0 := size_h0 s b hbl
  have ze1 := size_h1 s b x hbl hxl
  have hblh := Lib.hid hbl
  have hxlh := Lib.hid hxl
  clear hbl hxl
  go_enter Tryd.func52, Tryd.ntmps52
  go_upto_region 4 with (first
    | (go_at_call 106; refine (hEq.out _ hb1.out).mono ?_; rintro e' w2 ⟨rfl, hk2⟩; have hX2 : Hid (Blk w2 (w.heap.size + 1) 82 #[Value.slice none 0 0, Value.slice none 0 0]) := (hk2.block _ hX1.out.lt).trans hX1.out; have hR2 : Hid (Blk w2 w.heap.size 23 (cells8 b).toArray) := (hk2.block _ hR1.out.lt).trans hR1.out; have hb2 : Hid (Below w.heap.size w w2) := hb1.out.trans (hk2.mono hb1.out.size); clear hk2)
    | ((with_reducible change wpList _ _ _ ({ dst := some 23, op := _, type := _, pos := _, after := _, guard := _ } :: _) _ _); refine wpList_load_row (o := ⟨some 23, _, _, _, _, _⟩) rfl 23 (.tmp 5) rfl (w.heap.size) rfl 23 ((cells8 b).toArray) (0, 0) _ hR2.out Tryd.underlying23 rfl Fb.out.size ?_)
    | (go_at_call 107; refine (hCh.out _ hb2.out).mono ?_; rintro e' w3 ⟨rfl, hk3⟩; have hX3 : Hid (Blk w3 (w.heap.size + 1) 82 #[Value.slice none 0 0, Value.slice none 0 0]) := (hk3.block _ hX2.out.lt).trans hX2.out; have hR3 : Hid (Blk w3 w.heap.size 23 (cells8 b).toArray) := (hk3.block _ hR2.out.lt).trans hR2.out; have hb3 : Hid (Below w.heap.size w w3) := hb2.out.trans (hk3.mono hb2.out.size); clear hk3)
    | ((with_reducible change wpList _ _ _ ({ dst := none, op := Op.store 23 _ _, type := _, pos := _, after := _, guard := _ } :: _) _ _); refine wpList_store_row (o := ⟨none, _, _, _, _, _⟩) rfl 23 (.tmp 10) (.tmp 25) rfl w3.heap.size (cells8 x).toArray rfl rfl 23 Z32 (heap_alloc_new w3 _) Fx.out.size Fx.out.zero Fx.out.one ?_; rw [alloc_setRow]))
  have hX4 : Hid (Blk (w3.alloc (.cells (cells8 x).toArray 23)) (w.heap.size + 1) 82 #[Value.slice none 0 0, Value.slice none 0 0]) := hX3.out.alloc _
  have hR4 : Hid (Blk (w3.alloc (.cells (cells8 x).toArray 23)) w.heap.size 23 (cells8 b).toArray) := hR3.out.alloc _
  have hN4 : Hid (Blk (w3.alloc (.cells (cells8 x).toArray 23)) w3.heap.size 23 (cells8 x).toArray) := Blk.new _ _ _
  have hb4 : Hid (Below w.heap.size w (w3.alloc (.cells (cells8 x).toArray 23))) := hb3.out.alloc hb3.out.size _
  generalize w3.alloc (.cells (cells8 x).toArray 23) = w4 at *
  have hE1 := Lib.hid (hE.out _ hb4.out)
  clear hE hEq hCh hX1 hR1 hb1 hX2 hR2 hb2 hX3 hR3 hb3 y1
  go_wp2_with (first
    | ((with_reducible change wpList _ _ _ ({ dst := some 28, op := _, type := _, pos := _, after := _, guard := _ } :: _) _ _); refine wpList_load_row (o := ⟨some 28, _, _, _, _, _⟩) rfl 23 (.tmp 5) rfl (w.heap.size) rfl 23 ((cells8 b).toArray) (0, 0) _ hR4.out Tryd.underlying23 rfl Fb.out.size ?_)
    | ((with_reducible change wpList _ _ _ ({ dst := some 29, op := _, type := _, pos := _, after := _, guard := _ } :: _) _ _); refine wpList_load_row (o := ⟨some 29, _, _, _, _, _⟩) rfl 23 (.tmp 10) rfl (w3.heap.size) rfl 23 ((cells8 x).toArray) (0, 0) _ hN4.out Tryd.underlying23 rfl Fx.out.size ?_)
    | ((with_reducible change wpList _ _ _ ({ dst := some 34, op := _, type := _, pos := _, after := _, guard := _ } :: _) _ _); refine wpList_load_row (o := ⟨some 34, _, _, _, _, _⟩) rfl 23 (.tmp 5) rfl (w.heap.size) rfl 23 ((cells8 b).toArray) (0, 0) _ hR4.out Tryd.underlying23 rfl Fb.out.size ?_)
    | ((with_reducible change wpList _ _ _ ({ dst := some 35, op := _, type := _, pos := _, after := _, guard := _ } :: _) _ _); refine wpList_load_row (o := ⟨some 35, _, _, _, _, _⟩) rfl 23 (.tmp 10) rfl (w3.heap.size) rfl 23 ((cells8 x).toArray) (0, 0) _ hN4.out Tryd.underlying23 rfl Fx.out.size ?_))
  rw [build_told s b x hblh.out hxlh.out, build_told s b x hblh.out hxlh.out]
  refine hE1.out.mono ?_
  rintro e' w5 ⟨hk5, hcase⟩
  have hX5 : Hid (Blk w5 (w.heap.size + 1) 82 #[Value.slice none 0 0, Value.slice none 0 0]) := (hk5.block _ hX4.out.lt).trans hX4.out
  have hb5 : Hid (Below w.heap.size w w5) := hb4.out.trans (hk5.mono hb4.out.size)
  have hlt := hX4.out.lt
  have hws := hb4.out.size
  rcases hcase with ⟨rfl, rfl⟩ | ⟨rfl, va, vb, p, q, rfl, hp, hq, hne, hsum, oa, ob⟩
  · clear hk5 hE1 zc1 zc2 zd1 zd2 ze0 ze1 hR4 hN4 hlt hws
    go_wp2_with ((with_reducible change wpList _ _ _ ({ dst := none, op := Op.store 82 _ _, type := _, pos := _, after := _, guard := _ } :: _) _ _); refine wpList_store_row (o := ⟨none, _, _, _, _, _⟩) rfl 82 (.tmp 8) (.tmp 41) rfl (w.heap.size + 1) (#[Value.slice none 0 0, Value.slice none 0 0]) rfl rfl 82 (#[Value.slice none 0 0, Value.slice none 0 0]) hX5.out sizeE2 rfl oneZ2 ?_)
    refine bodyPost_ret (results_cell_row2 rfl _ _ (w.heap.size + 1) 82 #[Value.slice none 0 0, Value.slice none 0 0] (0, 0) _ rfl (setRow_heap _ _ _ _ _ _ hX5.out) Tryd.underlying82 rfl sizeE2) rfl ?_
    exact TPost.no rfl (below_setRow hb5.out (by omega) _)
  · obtain ⟨Aa, ca, rfl, -⟩ := Own.own_reads oa
    obtain ⟨Ab, cb, rfl, -⟩ := Own.own_reads ob
    have honeE : Hid (((#[Value.slice Aa p.length ca, Value.slice Ab q.length cb] : Array Value).all fun v => v.oneCell') = true) := by show _ = _; rw [List.all_toArray]; rfl
    replace oa := Lib.hid oa
    replace ob := Lib.hid ob
    replace hp := Lib.hid hp
    replace hq := Lib.hid hq
    replace hne := Lib.hid hne
    replace hsum := Lib.hid hsum
    replace hws := Lib.hid hws
    replace hlt := Lib.hid hlt
    clear hk5 hE1 zc1 zc2 zd1 zd2 ze0 ze1 hR4 hN4
    go_wp2_with ((with_reducible change wpList _ _ _ ({ dst := none, op := Op.store 82 _ _, type := _, pos := _, after := _, guard := _ } :: _) _ _); refine wpList_store_row (o := ⟨none, _, _, _, _, _⟩) rfl 82 (.tmp 8) (.tmp 41) rfl (w.heap.size + 1) (#[Value.slice Aa p.length ca, Value.slice Ab q.length cb]) rfl rfl 82 (#[Value.slice none 0 0, Value.slice none 0 0]) hX5.out sizeE2 rfl honeE.out ?_)
    refine bodyPost_ret (results_cell_row2 rfl _ _ (w.heap.size + 1) 82 #[Value.slice Aa p.length ca, Value.slice Ab q.length cb] (0, 0) _ rfl (setRow_heap _ _ _ _ _ _ hX5.out) Tryd.underlying82 rfl sizeE2) rfl ?_
    have hkk : Kept (· = w.heap.size + 1) w5 (w5.setRow (w.heap.size + 1) #[Value.slice Aa p.length ca, Value.slice Ab q.length cb]) := Bytes.Kept.setRow (S := (· = w.heap.size + 1)) (Kept.refl _ _) rfl _
    exact ⟨below_setRow hb5.out (by omega) _, .inr ⟨rfl, _, _, p, q, rfl, hp.out, hq.out, hne.out, hsum.out, own_far (own_base8 oa.out hws.out) hkk oa.out hlt.out, own_far (own_base8 ob.out hws.out) hkk ob.out hlt.out⟩⟩
/-- Are two histories, with their chains, two texts of one sum? -/
def wantHist : Bool := decide (es.length = fs.length) && (!decide (es = fs) && decide (chainOf s b es = chainOf s b fs))
set_option maxRecDepth 100000 in
theorem twoHist_any (hbl : b.length = 32) (hn : es.length = n) (hm : fs.length = m) (hn60 : n ≤ 60) (hm60 : m ≤ 60) (hB : Base w) (hp : Pieces w A es) (hq : Pieces w B fs) (hse : ∀ q ∈ es, q.length < 140737488355327) (hsf : ∀ q ∈ fs, q.length < 140737488355327) :
    Calls Tryd.prog 52 #[.int .i64 s, .agg (cells8 b).toArray, .slice A n c, .slice B m d] w (TPost w s (wantHist s b es fs) (linksOf s b es ++ linksOf s b fs)) := by
  by_cases h1 : n = m
  · subst h1
    have hEq := Lib.hid (fun w' (hb : Below w.heap.size w w') => equalf_any es fs n n A B c d w' hn hm (by omega) (hp.below hb) (hq.below hb) (fun q h => by have := hse q h; omega))
    by_cases h3 : es = fs
    · have hw : wantHist s b es fs = false := by unfold wantHist; simp [h3]
      rw [hw]
      rw [decide_eq_true h3] at hEq
      exact no_same s b n A B c d w _ hEq
    · rw [decide_eq_false h3] at hEq
      refine go_on s b n A B c d w hbl (chainOf s b es) (chainOf_len s b hbl es) _ _ hEq (Lib.hid fun w' hb => chain_any s b hbl es n hn (by omega) A c w' (hB.below hb hB.1) (hp.below hb) (fun q h => by have := hse q h; omega)) (Lib.hid fun w' hb => ?_)
      have hw : wantHist s b es fs = decide (chainOf s b es = chainOf s b fs) := by unfold wantHist; simp [h3, hn, hm]
      rw [hw]
      have hxl := chainOf_len s b hbl es
      have hb2 : Below w.heap.size w (w'.alloc (.cells #[.iface 167 (.agg (toldV s b (chainOf s b es) A n c).toArray), .iface 167 (.agg (toldV s b (chainOf s b es) B n d).toArray)] 202)) := hb.alloc hb.size _
      have hO1 := toldAns_ok s b (chainOf s b es) hbl hxl es n hn hn60 A c _ (hB.below hb2 hB.1) (hp.below hb2) hse
      have hO2 := toldAns_ok s b (chainOf s b es) hbl hxl fs n hm hm60 B d _ (hB.below hb2 hB.1) (hq.below hb2) hsf
      have list2 : ∀ {P : Ans → Prop} {a b : Ans}, P a → P b → ∀ x ∈ [a, b], P x := fun ha hb x hx => by
        rcases List.mem_cons.1 hx with rfl | hx
        · exact ha
        · obtain rfl := List.mem_singleton.1 hx
          exact hb
      have hX := extract_any s [toldAns s b (chainOf s b es) es A n c, toldAns s b (chainOf s b es) fs B n d] 2 rfl (by decide) (some ⟨w'.heap.size, 0, none⟩) 2 _ (hB.below hb2 hB.1) ((Blk.new w' 202 #[.iface 167 (.agg (toldV s b (chainOf s b es) A n c).toArray), .iface 167 (.agg (toldV s b (chainOf s b es) B n d).toArray)]).reads 0 _ rfl (fun j u hu => by rw [Nat.zero_add, List.getElem?_toArray]; exact hu)) (list2 hO1 hO2)
      refine hX.mono fun e' w2 h => ?_
      have hfm : [toldAns s b (chainOf s b es) es A n c, toldAns s b (chainOf s b es) fs B n d].flatMap (·.ts) = linksOf s b es ++ linksOf s b fs := by simp [toldAns]
      rw [← hfm]
      refine extract_T s _ _ (fun hw => ?_) (fun hw hall => ?_) w' w2 _ _ e' h
      · have hw := of_decide_eq_true hw
        refine ⟨list2 (decide_eq_true rfl) (decide_eq_true hw.symm), ?_⟩
        rw [hfm]
        exact chains_meet s es fs b b hbl hbl (hn.trans hm.symm) hw (fun h => h3 h.2)
      · have a2 : decide (chainOf s b fs = chainOf s b es) = true := hall _ (List.mem_cons_of_mem _ (List.mem_cons_self ..))
        exact of_decide_eq_false hw (of_decide_eq_true a2).symm
  · have hw : wantHist s b es fs = false := by unfold wantHist; simp [hn, hm, h1]
    rw [hw]
    exact no_len s b n m A B c d w _ h1
end
end Go.Proofs.YtmdkfhfkdcbpgaaDoorR.TwoHist

namespace Go.Proofs.YtmdkfhfkdcbpgaaDoorR.Told20
open Go Go.RowKit Go.Proofs.YtmdkfhfkdcbpgaaDoorR Go.Proofs.YtmdkfhfkdcbpgaaDoorR.Mem Go.Proofs.YtmdkfhfkdcbpgaaDoorR.Sha Go.Proofs.YtmdkfhfkdcbpgaaDoorR.Bytes Go.Proofs.YtmdkfhfkdcbpgaaDoorR.HashMem Go.Proofs.YtmdkfhfkdcbpgaaDoorR.DigestMem Go.Proofs.YtmdkfhfkdcbpgaaDoorR.RefSum Go.Proofs.YtmdkfhfkdcbpgaaDoorR.RefCut Go.Proofs.YtmdkfhfkdcbpgaaDoorR.QuietTail Go.Proofs.YtmdkfhfkdcbpgaaDoorR.Grown Go.Proofs.YtmdkfhfkdcbpgaaDoorR.TreeMem Go.Proofs.YtmdkfhfkdcbpgaaDoorR.TreeRoot Go.Proofs.YtmdkfhfkdcbpgaaDoorR.Append Go.Proofs.YtmdkfhfkdcbpgaaDoorR.DigEq Go.Proofs.YtmdkfhfkdcbpgaaDoorR.Held Go.Proofs.YtmdkfhfkdcbpgaaDoorR.Guard Go.Proofs.YtmdkfhfkdcbpgaaDoorR.Want Go.Proofs.YtmdkfhfkdcbpgaaDoorR.Same8 Go.Proofs.YtmdkfhfkdcbpgaaDoorR.TwiceP Go.Proofs.YtmdkfhfkdcbpgaaDoorR.Extract Go.Proofs.YtmdkfhfkdcbpgaaDoorR.MetW

set_option maxRecDepth 100000 in
set_option maxHeartbeats 1000000 in
theorem among20_any (p : Text) (kp : Nat) (hkp : p.length = kp) (hp47 : kp < 140737488355328) (ts : List Text) (n : Nat) (hn : ts.length = n) (hn47 : n < 140737488355328) (hl : ∀ q ∈ ts, q.length < 140737488355328) (Ap : Option Addr) (cp : Nat) (A : Option Addr) (c : Nat) (w : World) (hp : Pieces w A ts) (hr : Reads w 1 Ap kp (cells8 p)) (hm : p ∈ ts) :
    Calls Tryd.prog 101 #[.slice Ap kp cp, .slice A n c] w fun e w' => e = .returned (.bool true) ∧ Below w.heap.size w w' := by
  have hN : Hid ((n : Int) < 9223372036854775807) := by show _ < _; omega
  replace hkp := Lib.hid hkp
  replace hp47 := Lib.hid hp47
  replace hn := Lib.hid hn
  replace hp := Lib.hid hp
  replace hr := Lib.hid hr
  replace hm := Lib.hid hm
  replace hl := Lib.hid hl
  clear hn47
  go_enter Tryd.func101, Tryd.ntmps101
  go_wp2_with fail
  go_loopw [5] (fun v wr => ∃ j : Nat, v = .int .i64 (j : Int) ∧ Hid (j ≤ n) ∧ Hid (∀ i, i < j → ts[i]? ≠ some p) ∧ Hid (Below w.heap.size w wr)) (fun v _ => n - (intOf v).toNat)
  case atStart => exact ⟨0, rfl, (show 0 ≤ n by omega), (fun i h => by omega), (Below.refl _ w)⟩
  case round =>
    obtain ⟨j, rfl, hj, hne, hb⟩ := hrel
    by_cases hlt : j < n
    · have y1 : (j : Int) < (n : Int) := by omega
      have y2 : (0 : Int) ≤ (j : Int) := by omega
      have hil : (j : Int) < 9223372036854775807 := by have := hN.out; omega
      obtain ⟨q, hqi⟩ : ∃ q, Hid (ts[j]? = some q) := ⟨_, List.getElem?_eq_getElem (by rw [hn.out]; exact hlt)⟩
      obtain ⟨bA, o, rfl, hbA, hcs⟩ := hp.out (by have := hn.out; omega)
      obtain ⟨Ai, ci, hc1, hc2, hc3, hc4⟩ := hcs j q hqi.out
      have hcell : wr.cell? ⟨bA, o + j, none⟩ = some (.slice Ai q.length ci) := (hb.out.cell (p := ⟨bA, o + j, none⟩) hbA).trans hc1
      have hS := Lib.hid (same8_any p q kp q.length hkp.out rfl (by have := hp47.out; omega) Ap Ai cp ci wr (hr.out.below hb.out) (hc3.below hb.out))
      obtain ⟨m, hmq⟩ : ∃ m, Hid (q.length = m) := ⟨_, Lib.hid rfl⟩
      rw [hmq.out] at hcell hS
      clear hcs hc1 hc2 hc3 hc4
      by_cases hpq : p = q
      · rw [decide_eq_true hpq] at hS
        clear hpq
        go_wp2_with fail
        refine hS.out.mono ?_
        rintro e w2 ⟨rfl, k2, rfl⟩
        go_wp2_with fail
        go_ret
        exact ⟨rfl, below_drawn hb.out k2⟩
      · rw [decide_eq_false hpq] at hS
        replace hpq := Lib.hid hpq
        go_wp2_with fail
        refine hS.out.mono ?_
        rintro e w2 ⟨rfl, k2, rfl⟩
        go_wp2_with fail
        exact ⟨⟨j + 1, rfl, (show j + 1 ≤ n by omega), (fun i hi e => by
          rcases Nat.lt_or_ge i j with h | h
          · exact hne.out i h e
          · have : i = j := by omega
            subst this
            rw [hqi.out] at e
            exact hpq.out (Option.some.inj e).symm), below_drawn hb.out k2⟩, by simp [intOf]; omega⟩
    · exfalso
      obtain ⟨i, hi, e⟩ := List.mem_iff_getElem.1 hm.out
      exact hne.out i (by have := hn.out; have := hj.out; omega) (by rw [List.getElem?_eq_getElem hi, e])

set_option maxRecDepth 100000 in
set_option maxHeartbeats 1000000 in
theorem told_no (s : Int) (A : Option Addr) (n c : Nat) (w : World) :
    Calls Tryd.prog 43 #[.int .i64 s, .agg #[.slice none 0 0, .slice none 0 0], .bool false, .bool false, .slice A n c] w fun e w' => e = .returned (.bool true) ∧ Below w.heap.size w w' := by
  have hb0 : Hid (Below w.heap.size w (w.alloc (.cells #[.slice none 0 0, .slice none 0 0] 82))) := Below.heap_below w _
  go_enter Tryd.func43, Tryd.ntmps43
  go_wp2_with fail
  go_ret
  exact ⟨rfl, hb0.out⟩

set_option maxRecDepth 100000 in
set_option maxHeartbeats 2000000 in
theorem told_yes (s : Int) (hs63 : s < 9223372036854775808) (ts : List Text) (n : Nat) (hn : ts.length = n) (hn47 : n < 140737488355328) (hl : ∀ q ∈ ts, q.length < 140737488355328) (A : Option Addr) (c : Nat) (w : World) (hps : Pieces w A ts) (p q : Text) (hp : p ∈ ts) (hq : q ∈ ts) (hne : p ≠ q) (hsum : sumOf s p = sumOf s q) (Ap Aq : Option Addr) (cp cq : Nat) (hrp : Reads w 1 Ap p.length (cells8 p)) (hrq : Reads w 1 Aq q.length (cells8 q)) :
    Calls Tryd.prog 43 #[.int .i64 s, .agg #[.slice Ap p.length cp, .slice Aq q.length cq], .bool true, .bool true, .slice A n c] w fun e w' => e = .returned (.bool true) ∧ Below w.heap.size w w' := by
  obtain ⟨W, hW⟩ : ∃ W, Hid (W = w.alloc (.cells #[.slice Ap p.length cp, .slice Aq q.length cq] 82)) := ⟨_, rfl⟩
  have hb0 : Hid (Below w.heap.size w W) := by show Below _ _ _; rw [hW.out]; exact Below.heap_below w _
  have hP : Hid (Blk W w.heap.size 82 #[.slice Ap p.length cp, .slice Aq q.length cq]) := by show Blk _ _ _ _; rw [hW.out]; exact Blk.new w _ _
  have hSm := Lib.hid (fun w' (hb : Below w.heap.size w w') => same8_any p q p.length q.length rfl rfl (by have := hl p hp; omega) Ap Aq cp cq w' (hrp.below hb) (hrq.below hb))
  rw [decide_eq_false hne] at hSm
  have hA1 := Lib.hid (fun w' (hb : Below w.heap.size w w') => among20_any p p.length rfl (hl p hp) ts n hn hn47 hl Ap cp A c w' (hps.below hb) (hrp.below hb) hp)
  have hA2 := Lib.hid (fun w' (hb : Below w.heap.size w w') => among20_any q q.length rfl (hl q hq) ts n hn hn47 hl Aq cq A c w' (hps.below hb) (hrq.below hb) hq)
  have hS1 := Lib.hid (fun w' (hb : Below w.heap.size w w') => refSum_any p p.length rfl Ap cp w' (by have := hl p hp; omega) (hrp.below hb))
  have hS2 := Lib.hid (fun w' (hb : Below w.heap.size w w') => refSum_any q q.length rfl Aq cq w' (by have := hl q hq; omega) (hrq.below hb))
  have hC1 := Lib.hid (fun w' => refCut_any (sum p) (sum_len p) s hs63 w')
  have hC2 := Lib.hid (fun w' => refCut_any (sum q) (sum_len q) s hs63 w')
  obtain ⟨x, hx⟩ : ∃ x, cutTo (sum p) (clampN s) = x := ⟨_, rfl⟩
  have hx2 : cutTo (sum q) (clampN s) = x := by rw [← hx]; exact hsum.symm
  have hxl : x.length = 32 := by rw [← hx]; exact cutTo_len _ _ (sum_len _) (clampN_ok s).2
  rw [hx] at hC1
  rw [hx2] at hC2
  have hEq := Lib.hid (fun w' => eql_dig x x hxl hxl w')
  rw [decide_eq_true rfl] at hEq
  obtain ⟨kp, hkp⟩ : ∃ k, p.length = k := ⟨_, rfl⟩
  obtain ⟨kq, hkq⟩ : ∃ k, q.length = k := ⟨_, rfl⟩
  rw [hkp] at hW hP hSm hA1 hS1 ⊢
  rw [hkq] at hW hP hSm hA2 hS2 ⊢
  obtain ⟨sp, hsp⟩ : ∃ z, Hid ((cells8 (sum p)).toArray = z) := ⟨_, Lib.hid rfl⟩
  obtain ⟨sq, hsq⟩ : ∃ z, Hid ((cells8 (sum q)).toArray = z) := ⟨_, Lib.hid rfl⟩
  obtain ⟨xx, hxx⟩ : ∃ z, Hid ((cells8 x).toArray = z) := ⟨_, Lib.hid rfl⟩
  rw [hsp.out] at hS1 hC1
  rw [hsq.out] at hS2 hC2
  rw [hxx.out] at hC1 hC2 hEq
  have c0 : Hid (∀ w', Below W.heap.size W w' → w'.cell? ⟨w.heap.size, 0, none⟩ = some (.slice Ap kp cp)) := fun w' h => (show Blk w' w.heap.size 82 _ from (h.block _ hP.out.lt).trans hP.out).cell 0
  have c1 : Hid (∀ w', Below W.heap.size W w' → w'.cell? ⟨w.heap.size, 1, none⟩ = some (.slice Aq kq cq)) := fun w' h => (show Blk w' w.heap.size 82 _ from (h.block _ hP.out.lt).trans hP.out).cell 1
  clear hs63 hn hn47 hl hps hp hq hne hsum hrp hrq hx hx2 hxl hkp hkq
  go_enter Tryd.func43, Tryd.ntmps43
  go_wp2_with fail
  change Calls _ _ _ (w.alloc (.cells #[.slice Ap kp cp, .slice Aq kq cq] 82)) _
  rw [← hW.out]
  clear hW
  refine (hSm.out W hb0.out).mono ?_
  rintro e w1 ⟨rfl, k1, rfl⟩
  have h1 : Hid (Below W.heap.size W (W.drewN k1)) := below_drawn (Below.refl _ W) k1
  have d2 := c0.out _ h1.out
  have d3 := c1.out _ h1.out
  generalize W.drewN k1 = w1 at *
  go_wp2_with fail
  refine (hA1.out w1 (hb0.out.trans (h1.out.mono hb0.out.size))).mono ?_
  rintro e w2 ⟨rfl, hk2⟩
  have h2 : Hid (Below W.heap.size W w2) := h1.out.trans (hk2.mono h1.out.size)
  have d4 := c1.out _ h2.out
  clear hk2 d2 d3 h1
  go_wp2_with fail
  refine (hA2.out w2 (hb0.out.trans (h2.out.mono hb0.out.size))).mono ?_
  rintro e w3 ⟨rfl, hk3⟩
  have h3 : Hid (Below W.heap.size W w3) := h2.out.trans (hk3.mono h2.out.size)
  clear hk3 d4 h2
  go_wp2_with fail
  refine q_region (Class w3) (by kernel_rfl) (by kernel_rfl) (Class.mk_ ((Below.refl _ _).drew)) ?_
  refine q_val (v := .pointer (some ⟨w.heap.size, 0, none⟩)) rfl (fun w' hw' => by go_simp) ?_
  (intro K hK; go_simp; refine hK _ ?_; clear hK K)
  refine q_val (v := .slice Ap kp cp) rfl (fun w' hw' => by have h := c0.out w' (h3.out.trans (hw'.below.mono h3.out.size)); go_simp) ?_
  (intro K hK; go_simp; refine hK _ ?_; clear hK K)
  refine q_fn (v := .agg sp) (args := #[.slice Ap kp cp]) rfl _ _ rfl rfl Tryd.func40 (by kernel_rfl) (by kernel_rfl) (fun w' hw' => (hS1.out w' (hb0.out.trans ((h3.out.trans (hw'.below.mono h3.out.size)).mono hb0.out.size))).mono (fun e w'' ⟨he, hb⟩ => ⟨he, hw'.next hb⟩)) ?_
  (intro K hK; go_simp; refine hK _ ?_; clear hK K)
  refine q_move rfl (.tmp 0) rfl ?_
  (intro K hK; go_simp; refine hK _ ?_; clear hK K)
  refine q_fn (v := .agg xx) (args := #[.agg sp, .int .i64 s]) rfl _ _ rfl rfl Tryd.func39 (by kernel_rfl) (by kernel_rfl) (fun w' hw' => (hC1.out w').mono (fun e w'' ⟨he, hb⟩ => ⟨he, hw'.next hb⟩)) ?_
  (intro K hK; go_simp; refine hK _ ?_; clear hK K)
  refine q_val (v := .pointer (some ⟨w.heap.size, 1, none⟩)) rfl (fun w' hw' => by go_simp) ?_
  (intro K hK; go_simp; refine hK _ ?_; clear hK K)
  refine q_val (v := .slice Aq kq cq) rfl (fun w' hw' => by have h := c1.out w' (h3.out.trans (hw'.below.mono h3.out.size)); go_simp) ?_
  (intro K hK; go_simp; refine hK _ ?_; clear hK K)
  refine q_fn (v := .agg sq) (args := #[.slice Aq kq cq]) rfl _ _ rfl rfl Tryd.func40 (by kernel_rfl) (by kernel_rfl) (fun w' hw' => (hS2.out w' (hb0.out.trans ((h3.out.trans (hw'.below.mono h3.out.size)).mono hb0.out.size))).mono (fun e w'' ⟨he, hb⟩ => ⟨he, hw'.next hb⟩)) ?_
  (intro K hK; go_simp; refine hK _ ?_; clear hK K)
  refine q_move rfl (.tmp 0) rfl ?_
  (intro K hK; go_simp; refine hK _ ?_; clear hK K)
  refine q_fn (v := .agg xx) (args := #[.agg sq, .int .i64 s]) rfl _ _ rfl rfl Tryd.func39 (by kernel_rfl) (by kernel_rfl) (fun w' hw' => (hC2.out w').mono (fun e w'' ⟨he, hb⟩ => ⟨he, hw'.next hb⟩)) ?_
  (intro K hK; go_simp; refine hK _ ?_; clear hK K)
  refine q_val (v := .bool true) rfl (fun w' hw' => run_cmp rfl rfl rfl qD (hEq.out w')) ?_
  (intro K hK; go_simp; refine hK _ ?_; clear hK K)
  refine q_val (v := .bool true) rfl (fun w' hw' => by go_simp) ?_
  (intro K hK; go_simp; refine hK _ ?_; clear hK K)
  refine q_nil ?_
  intro w5 hw5
  have h4 : Hid (Below W.heap.size W w5) := h3.out.trans (hw5.below.mono h3.out.size)
  have h5 : Hid (Below w.heap.size w w5) := hb0.out.trans (h4.out.mono hb0.out.size)
  go_wp2_with fail
  go_ret
  exact ⟨rfl, h5.out⟩
end Go.Proofs.YtmdkfhfkdcbpgaaDoorR.Told20

namespace Go.Proofs.YtmdkfhfkdcbpgaaDoorR.Told20b
open Go Go.RowKit Go.Proofs.YtmdkfhfkdcbpgaaDoorR Go.Proofs.YtmdkfhfkdcbpgaaDoorR.Mem Go.Proofs.YtmdkfhfkdcbpgaaDoorR.Sha Go.Proofs.YtmdkfhfkdcbpgaaDoorR.Bytes Go.Proofs.YtmdkfhfkdcbpgaaDoorR.HashMem Go.Proofs.YtmdkfhfkdcbpgaaDoorR.TreeMem Go.Proofs.YtmdkfhfkdcbpgaaDoorR.TreeRoot Go.Proofs.YtmdkfhfkdcbpgaaDoorR.Append Go.Proofs.YtmdkfhfkdcbpgaaDoorR.TwiceP Go.Proofs.YtmdkfhfkdcbpgaaDoorR.Clash Go.Proofs.YtmdkfhfkdcbpgaaDoorR.RowsT Go.Proofs.YtmdkfhfkdcbpgaaDoorR.RowsY Go.Proofs.YtmdkfhfkdcbpgaaDoorR.Extract Go.Proofs.YtmdkfhfkdcbpgaaDoorR.Included Go.Proofs.YtmdkfhfkdcbpgaaDoorR.TwoEv Go.Proofs.YtmdkfhfkdcbpgaaDoorR.Told20

/-- What an extractor answered, as it lies. -/
def XR (w : World) (s : Int) (want : Bool) (ts : List Text) (xa xb : Value) (ok : Bool) : Prop :=
  (want = false ∧ xa = .slice none 0 0 ∧ xb = .slice none 0 0 ∧ ok = false) ∨
  (want = true ∧ ok = true ∧ ∃ ga ca gb cb p q, xa = .slice (some ⟨ga, 0, none⟩) p.length ca ∧ xb = .slice (some ⟨gb, 0, none⟩) q.length cb ∧ p ∈ ts ∧ q ∈ ts ∧ p ≠ q ∧ sumOf s p = sumOf s q ∧ 0 < p.length ∧ 0 < q.length ∧ Reads w 1 (some ⟨ga, 0, none⟩) p.length (cells8 p) ∧ Reads w 1 (some ⟨gb, 0, none⟩) q.length (cells8 q))
theorem XR.below {w w' : World} {s : Int} {want : Bool} {ts : List Text} {xa xb : Value} {ok : Bool} (h : XR w s want ts xa xb ok) (hb : Below w.heap.size w w') : XR w' s want ts xa xb ok :=
  h.imp id fun ⟨a, b, ga, ca, gb, cb, p, q, c1, c2, c3, c4, c5, c6, c7, c8, c9, c10⟩ => ⟨a, b, ga, ca, gb, cb, p, q, c1, c2, c3, c4, c5, c6, c7, c8, c9.below hb, c10.below hb⟩
theorem reads_keep {S : Nat → Prop} {w w' : World} {g : Nat} {p : Text} (h : Reads w 1 (some ⟨g, 0, none⟩) p.length (cells8 p)) (hp : 0 < p.length) (hk : Kept S w w') (hS : ∀ g, S g → ∃ u, w.cell? ⟨g, 0, none⟩ = some u ∧ ∀ n, u ≠ .int .u8 n) : Reads w' 1 (some ⟨g, 0, none⟩) p.length (cells8 p) :=
  h.kept hk (fun b o e hs => by
    injection e with e
    injection e with e1 e2
    subst e1 e2
    obtain ⟨b', o, e1, -, e2⟩ := h.at_ (by omega)
    injection e1 with e1
    injection e1 with e3 e4
    subst e3 e4
    obtain ⟨u, hu, hne⟩ := hS _ hs
    have h2 := e2 0 _ (cells8_at p 0 hp)
    rw [Nat.add_zero, hu] at h2
    exact hne _ (Option.some.inj h2))
theorem XR.keep {S : Nat → Prop} {w w' : World} {s : Int} {want : Bool} {ts : List Text} {xa xb : Value} {ok : Bool} (h : XR w s want ts xa xb ok) (hk : Kept S w w') (hS : ∀ g, S g → ∃ u, w.cell? ⟨g, 0, none⟩ = some u ∧ ∀ n, u ≠ .int .u8 n) : XR w' s want ts xa xb ok :=
  h.imp id fun ⟨a, b, ga, ca, gb, cb, p, q, c1, c2, c3, c4, c5, c6, c7, c8, c9, c10⟩ => ⟨a, b, ga, ca, gb, cb, p, q, c1, c2, c3, c4, c5, c6, c7, c8, reads_keep c9 c7 hk hS, reads_keep c10 c8 hk hS⟩
/-- The answer of a call as a value. -/
theorem TPost.xr {w w' : World} {s : Int} {want : Bool} {ts : List Text} {e : Ending} (hl : ∀ q ∈ ts, 0 < q.length) (h : TPost w s want ts e w') : Below w.heap.size w w' ∧ ∃ xa xb ok, e = .returned (.tuple #[.agg #[xa, xb], .bool ok]) ∧ XR w' s want ts xa xb ok := by
  obtain ⟨hb, h⟩ := h
  refine ⟨hb, ?_⟩
  rcases h with ⟨rfl, rfl⟩ | ⟨rfl, va, vb, p, q, rfl, hp, hq, hne, hsum, oa, ob⟩
  · exact ⟨_, _, _, rfl, .inl ⟨rfl, rfl, rfl, rfl⟩⟩
  · obtain ⟨ga, ca, rfl, -⟩ := own_some oa (hl p hp)
    obtain ⟨gb, cb, rfl, -⟩ := own_some ob (hl q hq)
    obtain ⟨A, c, e1, -, -, h1, -⟩ := Own.own_reads oa
    obtain ⟨B, d, e2, -, -, h2, -⟩ := Own.own_reads ob
    injection e1 with e1
    injection e2 with e2
    subst e1 e2
    exact ⟨_, _, _, rfl, .inr ⟨rfl, rfl, ga, ca, gb, cb, p, q, rfl, rfl, hp, hq, hne, hsum, hl p hp, hl q hq, h1, h2⟩⟩
theorem told_any (s : Int) (hs63 : s < 9223372036854775808) (ts : List Text) (n : Nat) (hn : ts.length = n) (hn47 : n < 140737488355328) (hl : ∀ q ∈ ts, q.length < 140737488355328) (want : Bool) (A : Option Addr) (c : Nat) (w : World) (hps : Pieces w A ts) (xa xb : Value) (ok : Bool) (h : XR w s want ts xa xb ok) :
    Calls Tryd.prog 43 #[.int .i64 s, .agg #[xa, xb], .bool ok, .bool want, .slice A n c] w fun e w' => e = .returned (.bool true) ∧ Below w.heap.size w w' := by
  rcases h with ⟨rfl, rfl, rfl, rfl⟩ | ⟨rfl, rfl, ga, ca, gb, cb, p, q, rfl, rfl, hp, hq, hne, hsum, -, -, h1, h2⟩
  · exact told_no s A n c w
  · exact told_yes s hs63 ts n hn hn47 hl A c w hps p q hp hq hne hsum _ _ ca cb h1 h2
end Go.Proofs.YtmdkfhfkdcbpgaaDoorR.Told20b

namespace Go.Proofs.YtmdkfhfkdcbpgaaDoorR.TwoEvAny
open Go Go.RowKit Go.Proofs.YtmdkfhfkdcbpgaaDoorR Go.Proofs.YtmdkfhfkdcbpgaaDoorR.Mem Go.Proofs.YtmdkfhfkdcbpgaaDoorR.Sha Go.Proofs.YtmdkfhfkdcbpgaaDoorR.Bytes Go.Proofs.YtmdkfhfkdcbpgaaDoorR.HashMem Go.Proofs.YtmdkfhfkdcbpgaaDoorR.TreeMem Go.Proofs.YtmdkfhfkdcbpgaaDoorR.Chain Go.Proofs.YtmdkfhfkdcbpgaaDoorR.ProofEnc Go.Proofs.YtmdkfhfkdcbpgaaDoorR.Ref17 Go.Proofs.YtmdkfhfkdcbpgaaDoorR.TwiceP Go.Proofs.YtmdkfhfkdcbpgaaDoorR.Clash Go.Proofs.YtmdkfhfkdcbpgaaDoorR.Extract Go.Proofs.YtmdkfhfkdcbpgaaDoorR.AudIncl Go.Proofs.YtmdkfhfkdcbpgaaDoorR.TwoEvP Go.Proofs.YtmdkfhfkdcbpgaaDoorR.Included Go.Proofs.YtmdkfhfkdcbpgaaDoorR.TwoEv

theorem list2 {P : Ans → Prop} {a b : Ans} (ha : P a) (hb : P b) : ∀ x ∈ [a, b], P x := fun x hx => by
  rcases List.mem_cons.1 hx with rfl | hx
  · exact ha
  · obtain rfl := List.mem_singleton.1 hx
    exact hb
end Go.Proofs.YtmdkfhfkdcbpgaaDoorR.TwoEvAny
