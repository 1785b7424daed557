/-
  head.take, walked.
-/
import Derived.Test.YtngieimjlkpkaaaHeadTake
namespace Go.Proofs.Ytngieimjlkpkaaa.HeadTake2
open Go Go.RowKit Go.Proofs.Ytngieimjlkpkaaa Go.Proofs.Ytngieimjlkpkaaa.Mem Go.Proofs.Ytngieimjlkpkaaa.Sha Go.Proofs.Ytngieimjlkpkaaa.Bytes Go.Proofs.Ytngieimjlkpkaaa.Append Go.Proofs.Ytngieimjlkpkaaa.Octet Go.Proofs.Ytngieimjlkpkaaa.QuietTail Go.Proofs.Ytngieimjlkpkaaa.Grown Go.Proofs.Ytngieimjlkpkaaa.Reader Go.Proofs.Ytngieimjlkpkaaa.Reader2 Go.Proofs.Ytngieimjlkpkaaa.Reader3 Go.Proofs.Ytngieimjlkpkaaa.HeadMem Go.Proofs.Ytngieimjlkpkaaa.HeadTake

theorem results_cell_row2 {P : Program} {fn : Func} {p u : Tmp} {ty : TypeId} (h : fn.results = #[.cell p ty, .tmp u]) (tmps : Array Value) (w : World) (g : Nat) (t : TypeId) (cs : Array Value) (fr : Nat × Nat) (d : TypeDesc)
    (hp : tmps.getD p undef = .pointer (some ⟨g, 0, none⟩)) (hg : w.heap[g]? = some (.cells cs t fr))
    (hu : P.underlying ty = some d) (hd : (match d with | .struct _ | .array _ _ => true | _ => false) = true) (hi : (P.info? ty).map (·.size) = some cs.size) :
    (results fn tmps).run P w = .ok (.tuple #[.agg cs, tmps.getD u undef]) w := by
  have hp' : tmps[p]?.getD undef = .pointer (some ⟨g, 0, none⟩) := by simpa using hp
  simp [results, h, hp', asAddr, run_loadVar_row w g t ty cs fr d hg hu hd hi, Result.andThen]

theorem St_end {w0 w : World} {g n m c need : Nat} {q : Text} {A : Option Addr} {cs : Array Value} (h : St w0 w g n m q A c need cs) (X : Array Value) : Rd (w.setRow n X) g q A c need ∧ Kept (· = g) w0 (w.setRow n X) := by
  have hk : Kept (· = n) w (w.setRow n X) := Bytes.Kept.setRow (S := (· = n)) (Kept.refl _ w) rfl _
  exact ⟨h.rd.keptOff hk (by have := h.hn; have := h.hg; omega) (fun h0 a ea e => by have := h.old h0 a ea; have := h.hn; omega), h.kept.trans hk (fun i h1 h2 => by have := h.hn; omega)⟩
theorem size98' : (Try.prog.info? 30).map (·.size) = some Z98.size := by rw [z98_size]; exact size98
theorem one98 : Z98.all (fun v => v.oneCell') = true := by kernel_rfl
theorem filled_size (a b c : Text) (h1 : a.length = 32) (h2 : b.length = 32) (h3 : c.length = 32) : (filled a b c).size = 98 := by
  have l0 : Z98.toList.length = 98 := by simpa using z98_size
  unfold filled
  rw [List.size_toArray, len_splice _ _ _ (by rw [len_splice _ _ _ (by rw [len_splice _ _ _ (by rw [cells8_len]; omega), cells8_len]; omega), len_splice _ _ _ (by rw [cells8_len]; omega), cells8_len]; omega), len_splice _ _ _ (by rw [len_splice _ _ _ (by rw [cells8_len]; omega), cells8_len]; omega), len_splice _ _ _ (by rw [cells8_len]; omega), l0]
def takeOut (q : Text) : Value := .tuple (if 113 ≤ q.length ∧ okH q = true then #[.agg (headCells (headOf q)).toArray, .bool true] else #[.agg Z98, .bool false])
theorem takeOut_yes {q : Text} (h : 113 ≤ q.length) (h1 : okH q = true) : takeOut q = .tuple #[.agg (headCells (headOf q)).toArray, .bool true] := by unfold takeOut; rw [if_pos ⟨h, h1⟩]
theorem takeOut_no {q : Text} (h : ¬ (113 ≤ q.length ∧ okH q = true)) : takeOut q = .tuple #[.agg Z98, .bool false] := by unfold takeOut; rw [if_neg h]

set_option maxRecDepth 100000 in
set_option maxHeartbeats 400000 in
theorem take_any (q : Text) (hq : q.length < 140737488355328) (g : Nat) (A : Option Addr) (c : Nat) (w : World) (h : Rd w g q A c 0) :
    Calls Try.prog 54 #[.pointer (some ⟨g, 0, none⟩)] w fun e w' => e = .returned (takeOut q) ∧ Rd w' g q A c 113 ∧ Kept (· = g) w w' := by
  have hR0 : Hid (Rd (w.alloc (.cells Z98 30)) g q A c 0) := h.alloc _
  have hlt := Lib.hid h.lt
  have hold := Lib.hid h.old
  have hZ : Hid (Blk (w.alloc (.cells Z98 30)) w.heap.size 30 Z98) := Blk.new w _ _
  have hZs : Hid (w.heap.size < (w.alloc (.cells Z98 30)).heap.size) := by show _ < _; simp
  replace hq := Lib.hid hq
  clear h
  go_enter Try.func54, Try.ntmps54
  go_wp2_with (first
    | (go_at_call 69; refine (take1_any q hq.out g 0 A c (w.alloc (.cells Z98 30)) hR0.out).mono ?_; rintro e w1 ⟨y, rfl, hy, hR1, hk1⟩; have S1 : Hid (St w (w1.alloc (.cells Z98 30)) g w.heap.size w1.heap.size q A c 1 Z98) := St.begin hR1 hlt.out hold.out (((Kept.refl (· = g) w).alloc _).trans hk1 (fun _ _ x => x)) (Nat.le_refl _) (hZ.out.kept hk1 (by have := hlt.out; omega)); generalize hm : w1.heap.size = m at *; replace hy := Lib.hid hy; clear hR1 hk1 hR0 hZ)
    | (go_at_call 70; refine (digest_any q hq.out g 1 A c _ S1.out.rd).mono ?_; rintro e w2 ⟨d1, rfl, hd1, he1, hR2, hk2⟩; have S2 := Lib.hid (S1.out.call hR2 hk2); replace hd1 := Lib.hid hd1; replace he1 := Lib.hid he1; clear hR2 hk2 S1 hm)
    | ((with_reducible change wpList _ _ _ ({ dst := none, op := Op.store 28 (.tmp 12) (.tmp 11), type := _, pos := _, after := _, guard := _ } :: _) _ _); refine wpList_store_at (o := ⟨none, _, _, _, _, _⟩) rfl 28 (.tmp 12) (.tmp 11) rfl m 0 (cells8 d1) rfl rfl 30 Z98 S2.out.head (size31.trans (congrArg some (by rw [cells8_len, hd1.out]))) (by rw [cells8_len, hd1.out]; decide) (cells8_one _) ?_; intro w3 hb3 hk3; have S3 := Lib.hid (S2.out.store hb3.out hk3); clear hb3 hk3 S2)
    | (go_at_call 71; refine (take8_any q hq.out g (1 + 32) A c _ S3.out.rd).mono ?_; rintro e w4 ⟨N, rfl, hN, hNe, hR4, hk4⟩; have S4 := Lib.hid (S3.out.call hR4 hk4); replace hN := Lib.hid hN; replace hNe := Lib.hid hNe; clear hR4 hk4 S3)
    | (go_at_call 70; refine (digest_any q hq.out g (1 + 32 + 8) A c _ S4.out.rd).mono ?_; rintro e w5 ⟨d2, rfl, hd2, he2, hR5, hk5⟩; have S5 := Lib.hid (S4.out.call hR5 hk5); replace hd2 := Lib.hid hd2; replace he2 := Lib.hid he2; clear hR5 hk5 S4)
    | ((with_reducible change wpList _ _ _ ({ dst := none, op := Op.store 28 (.tmp 17) (.tmp 16), type := _, pos := _, after := _, guard := _ } :: _) _ _); refine wpList_store_at (o := ⟨none, _, _, _, _, _⟩) rfl 28 (.tmp 17) (.tmp 16) rfl m 33 (cells8 d2) rfl rfl 30 _ S5.out.head (size31.trans (congrArg some (by rw [cells8_len, hd2.out]))) (by rw [List.size_toArray, len_splice _ _ _ (by rw [cells8_len, hd1.out]; decide), cells8_len, hd2.out]; decide) (cells8_one _) ?_; intro w6 hb hk; have S6 := Lib.hid (S5.out.store hb.out hk); clear hb hk S5)
    | (go_at_call 70; refine (digest_any q hq.out g (1 + 32 + 8 + 32) A c _ S6.out.rd).mono ?_; rintro e w7 ⟨d3, rfl, hd3, he3, hR7, hk7⟩; have S7 := Lib.hid (S6.out.call hR7 hk7); replace hd3 := Lib.hid hd3; replace he3 := Lib.hid he3; clear hR7 hk7 S6)
    | ((with_reducible change wpList _ _ _ ({ dst := none, op := Op.store 28 (.tmp 20) (.tmp 19), type := _, pos := _, after := _, guard := _ } :: _) _ _); refine wpList_store_at (o := ⟨none, _, _, _, _, _⟩) rfl 28 (.tmp 20) (.tmp 19) rfl m 65 (cells8 d3) rfl rfl 30 _ S7.out.head (size31.trans (congrArg some (by rw [cells8_len, hd3.out]))) (by rw [List.size_toArray, len_splice _ _ _ (by rw [len_splice _ _ _ (by rw [cells8_len, hd1.out]; decide), cells8_len, hd2.out]; decide), len_splice _ _ _ (by rw [cells8_len, hd1.out]; decide), cells8_len, hd3.out]; decide) (cells8_one _) ?_; intro w8 hb hk; have S8 := Lib.hid (S7.out.store hb.out hk); clear hb hk S7)
    | (go_at_call 71; refine (take8_any q hq.out g (1 + 32 + 8 + 32 + 32) A c _ S8.out.rd).mono ?_; rintro e w9 ⟨M, rfl, hM, hMe, hR9, hk9⟩; have S9 : Hid (St w w9 g w.heap.size m q A c 113 (filled d1 d2 d3)) := S8.out.call hR9 hk9; replace hM := Lib.hid hM; replace hMe := Lib.hid hMe; clear hR9 hk9 S8))
  have hW := why_any q g 113 A c w9 S9.out.rd
  obtain ⟨yy, hyy⟩ : ∃ yy, Hid (yy = b8 y) := ⟨_, rfl⟩
  rw [← hyy.out]
  by_cases hl : 113 ≤ q.length
  · rw [show whyOf 113 q.length = 0 from if_pos hl] at hW
    have hD : Hid (headOf q = ⟨d1, (N : Int), d2, d3, (M : Int)⟩) := by
      show _ = _
      rw [hNe.out (by omega), hMe.out (by omega), he1.out (by omega), he2.out (by omega), he3.out (by omega)]
      rfl
    have hO : Hid (okH q = (decide (yy = 32) && decide (N ≤ 1099511627776) && decide (M ≤ 4611686018427387904))) := by
      show _ = _
      rw [hNe.out (by omega), hMe.out (by omega), hyy.out, hy.out (by omega)]
      unfold okH
      congr 2
      apply decide_eq_decide.2
      constructor
      · intro h
        rw [h]
        rfl
      · intro h
        unfold b8 at h
        apply BitVec.eq_of_toNat_eq
        have : (32 : BitVec 8).toNat = 32 := rfl
        omega
    clear hy hNe hMe he1 he2 he3 hyy
    replace hl := Lib.hid hl
    by_cases hy1 : yy = 32
    · subst hy1
      by_cases hN1 : N ≤ 1099511627776
      · by_cases hM1 : M ≤ 4611686018427387904
        · have n1 : (N : Int) ≤ 1099511627776 := by omega
          have m1 : (M : Int) ≤ 4611686018427387904 := by omega
          have n2 : IntKind.i64.wrap (N : Int) = (N : Int) := IntWalk.i64_in _ (by omega)
          have m2 : IntKind.i64.wrap (M : Int) = (M : Int) := IntWalk.i64_in _ (by omega)
          have hyes : Hid (113 ≤ q.length ∧ okH q = true) := by show _ ∧ _; refine ⟨hl.out, ?_⟩; rw [hO.out]; simp; omega
          have hsz := filled_size d1 d2 d3 hd1.out hd2.out hd3.out
          obtain ⟨v1, hv1⟩ : ∃ v1, (filled d1 d2 d3)[32]? = some v1 := ⟨_, Array.getElem?_eq_getElem (by omega)⟩
          obtain ⟨v2, hv2⟩ : ∃ v2, (filled d1 d2 d3)[97]? = some v2 := ⟨_, Array.getElem?_eq_getElem (by omega)⟩
          have c1 : w9.cell? ⟨m, 32, none⟩ = some v1 := (S9.out.head.cell 32).trans hv1
          have c2 : w9.cell? ⟨m, 97, none⟩ = some v2 := (S9.out.head.cell 97).trans hv2
          have f1 := S9.out.head.frozen 32
          have f2 := S9.out.head.frozen 97
          have S10 : Hid (St w ((w9.setCell ⟨m, 32, none⟩ (.int .i64 (N : Int))).setCell ⟨m, 97, none⟩ (.int .i64 (M : Int))) g w.heap.size m q A c 113 (headCells (headOf q)).toArray) := by
            have := (S9.out.set_ 32 (.int .i64 (N : Int))).set_ 97 (.int .i64 (M : Int))
            have e := filled_head (headOf q) (headOf_ok q hyes.out.1 hyes.out.2)
            rw [hD.out] at e
            rw [e, ← hD.out] at this
            exact this
          have hz98 : Hid ((Try.prog.info? 30).map (·.size) = some (headCells (headOf q)).toArray.size) := by show _ = _; rw [List.size_toArray, headCells_len (headOf_ok q hyes.out.1 hyes.out.2)]; exact size98
          have ho98 : Hid ((headCells (headOf q)).toArray.all (fun v => v.oneCell') = true) := by show _ = _; rw [List.all_toArray]; exact List.all_eq_true.2 (headCells_one (headOf q))
          have ho99 : Hid ((Z98 : Array Value).size = (headCells (headOf q)).toArray.size) := z98_size.trans (by rw [List.size_toArray, headCells_len (headOf_ok q hyes.out.1 hyes.out.2)])
          clear hN1 hM1 hO hD hl hM hN hd1 hd2 hd3 hsz hv1 hv2
          refine hW.mono ?_
          rintro e w' ⟨rfl, rfl⟩
          go_wp2_with (first
            | ((with_reducible change wpList _ _ _ ({ dst := some 45, op := _, type := _, pos := _, after := _, guard := _ } :: _) _ _); refine wpList_load_row (o := ⟨some 45, _, _, _, _, _⟩) rfl 30 (.tmp 5) rfl m rfl 30 (headCells (headOf q)).toArray (0, 0) _ S10.out.head Try.underlying30 rfl hz98.out ?_)
            | ((with_reducible change wpList _ _ _ ({ dst := none, op := Op.store 30 _ _, type := _, pos := _, after := _, guard := _ } :: _) _ _); refine wpList_store_row (o := ⟨none, _, _, _, _, _⟩) rfl 30 (.tmp 2) (.tmp 45) rfl w.heap.size (headCells (headOf q)).toArray rfl rfl 30 Z98 S10.out.res hz98.out ho99.out ho98.out ?_))
          refine bodyPost_ret (results_cell_row2 rfl _ _ w.heap.size 30 (headCells (headOf q)).toArray (0, 0) _ rfl (setRow_heap _ _ _ _ _ _ S10.out.res) Try.underlying30 rfl hz98.out) rfl ?_
          exact ⟨by rw [takeOut_yes hyes.out.1 hyes.out.2]; rfl, St_end S10.out _⟩
        · have n1 : (N : Int) ≤ 1099511627776 := by omega
          have m1 : (4611686018427387904 : Int) < (M : Int) := by omega
          have hno : Hid (¬ (113 ≤ q.length ∧ okH q = true)) := fun h => by have h2 := h.2; rw [hO.out] at h2; simp at h2; omega
          clear hN1 hM1
          refine hW.mono ?_
          rintro e w' ⟨rfl, rfl⟩
          go_wp2_with ((with_reducible change wpList _ _ _ ({ dst := none, op := Op.store 30 _ _, type := _, pos := _, after := _, guard := _ } :: _) _ _); refine wpList_store_row (o := ⟨none, _, _, _, _, _⟩) rfl 30 (.tmp 2) (.tmp 38) rfl w.heap.size Z98 rfl rfl 30 Z98 S9.out.res size98' rfl one98 ?_)
          refine bodyPost_ret (results_cell_row2 rfl _ _ w.heap.size 30 Z98 (0, 0) _ rfl (setRow_heap _ _ _ _ _ _ S9.out.res) Try.underlying30 rfl size98') rfl ?_
          exact ⟨by rw [takeOut_no hno.out]; rfl, St_end S9.out _⟩
      · have n1 : (1099511627776 : Int) < (N : Int) := by omega
        have hno : Hid (¬ (113 ≤ q.length ∧ okH q = true)) := fun h => by have h2 := h.2; rw [hO.out] at h2; simp at h2; omega
        clear hN1
        refine hW.mono ?_
        rintro e w' ⟨rfl, rfl⟩
        go_wp2_with ((with_reducible change wpList _ _ _ ({ dst := none, op := Op.store 30 _ _, type := _, pos := _, after := _, guard := _ } :: _) _ _); refine wpList_store_row (o := ⟨none, _, _, _, _, _⟩) rfl 30 (.tmp 2) (.tmp 38) rfl w.heap.size Z98 rfl rfl 30 Z98 S9.out.res size98' rfl one98 ?_)
        refine bodyPost_ret (results_cell_row2 rfl _ _ w.heap.size 30 Z98 (0, 0) _ rfl (setRow_heap _ _ _ _ _ _ S9.out.res) Try.underlying30 rfl size98') rfl ?_
        exact ⟨by rw [takeOut_no hno.out]; rfl, St_end S9.out _⟩
    · have hno : Hid (¬ (113 ≤ q.length ∧ okH q = true)) := fun h => by have h2 := h.2; rw [hO.out] at h2; simp [hy1] at h2
      refine hW.mono ?_
      rintro e w' ⟨rfl, rfl⟩
      go_wp2_with ((with_reducible change wpList _ _ _ ({ dst := none, op := Op.store 30 _ _, type := _, pos := _, after := _, guard := _ } :: _) _ _); refine wpList_store_row (o := ⟨none, _, _, _, _, _⟩) rfl 30 (.tmp 2) (.tmp 38) rfl w.heap.size Z98 rfl rfl 30 Z98 S9.out.res size98' rfl one98 ?_)
      refine bodyPost_ret (results_cell_row2 rfl _ _ w.heap.size 30 Z98 (0, 0) _ rfl (setRow_heap _ _ _ _ _ _ S9.out.res) Try.underlying30 rfl size98') rfl ?_
      exact ⟨by rw [takeOut_no hno.out]; rfl, St_end S9.out _⟩
  · rw [show whyOf 113 q.length = 8 from if_neg hl] at hW
    have hno : Hid (¬ (113 ≤ q.length ∧ okH q = true)) := fun h => hl h.1
    clear hl
    refine hW.mono ?_
    rintro e w' ⟨rfl, rfl⟩
    go_wp2_with ((with_reducible change wpList _ _ _ ({ dst := none, op := Op.store 30 _ _, type := _, pos := _, after := _, guard := _ } :: _) _ _); refine wpList_store_row (o := ⟨none, _, _, _, _, _⟩) rfl 30 (.tmp 2) (.tmp 38) rfl w.heap.size Z98 rfl rfl 30 Z98 S9.out.res size98' rfl one98 ?_)
    refine bodyPost_ret (results_cell_row2 rfl _ _ w.heap.size 30 Z98 (0, 0) _ rfl (setRow_heap _ _ _ _ _ _ S9.out.res) Try.underlying30 rfl size98') rfl ?_
    exact ⟨by rw [takeOut_no hno.out]; rfl, St_end S9.out _⟩
end Go.Proofs.Ytngieimjlkpkaaa.HeadTake2
