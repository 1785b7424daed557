/-
  Texts of the claim, put into one file: ProofCuts.
-/
import Derived.Test.YthkdlaohaekilaaDoorZ48
import Derived.Test.YthkdlaohaekilaaDoorZ49
import Derived.Test.YthkdlaohaekilaaDoorZ45

namespace Go.Proofs.YthkdlaohaekilaaDoor.ProofCuts
open Go Go.RowKit Go.Proofs.YthkdlaohaekilaaDoor Go.Proofs.YthkdlaohaekilaaDoor.HeadMem Go.Proofs.YthkdlaohaekilaaDoor.Mem Go.Proofs.YthkdlaohaekilaaDoor.Sha Go.Proofs.YthkdlaohaekilaaDoor.Bytes Go.Proofs.YthkdlaohaekilaaDoor.HashMem Go.Proofs.YthkdlaohaekilaaDoor.DigestMem Go.Proofs.YthkdlaohaekilaaDoor.Digest Go.Proofs.YthkdlaohaekilaaDoor.TreeMem Go.Proofs.YthkdlaohaekilaaDoor.TreeRoot Go.Proofs.YthkdlaohaekilaaDoor.Held Go.Proofs.YthkdlaohaekilaaDoor.Own Go.Proofs.YthkdlaohaekilaaDoor.QuietTail Go.Proofs.YthkdlaohaekilaaDoor.Grown Go.Proofs.YthkdlaohaekilaaDoor.Guard Go.Proofs.YthkdlaohaekilaaDoor.Guard2 Go.Proofs.YthkdlaohaekilaaDoor.Want Go.Proofs.YthkdlaohaekilaaDoor.ProofIdx Go.Proofs.YthkdlaohaekilaaDoor.Book Go.Proofs.YthkdlaohaekilaaDoor.Book8 Go.Proofs.YthkdlaohaekilaaDoor.Law17a Go.Proofs.YthkdlaohaekilaaDoor.Prs Go.Proofs.YthkdlaohaekilaaDoor.Reach2 Go.Proofs.YthkdlaohaekilaaDoor.PieceLay Go.Proofs.YthkdlaohaekilaaDoor.PieceMem Go.Proofs.YthkdlaohaekilaaDoor.PieceMem2 Go.Proofs.YthkdlaohaekilaaDoor.SamePiece Go.Proofs.YthkdlaohaekilaaDoor.Pcs Go.Proofs.YthkdlaohaekilaaDoor.HandM Go.Proofs.YthkdlaohaekilaaDoor.Hand Go.Proofs.YthkdlaohaekilaaDoor.Intact17 Go.Proofs.YthkdlaohaekilaaDoor.CutP Go.Proofs.YthkdlaohaekilaaDoor.CutM Go.Proofs.YthkdlaohaekilaaDoor.CutQ Go.Proofs.YthkdlaohaekilaaDoor.CutR Go.Proofs.YthkdlaohaekilaaDoor.PiecesW Go.Proofs.YthkdlaohaekilaaDoor.RefPieces Go.Proofs.YthkdlaohaekilaaDoor.CutsM

set_option maxRecDepth 100000 in
set_option maxHeartbeats 8000000 in
theorem proofCuts_any (wd : Int) (hwd : wd < 9223372036854775808) (s : ByteArray) (hs : s.size ≤ 140737488355328) (F : Int) (b : Text) (hb : b.length = 32) (es0 : List Text) (n0 : Nat) (hn0 : es0.length = n0) (ps0 : List Pr) (m0 : Nat) (hm0 : ps0.length = m0) (A A2 : Option Addr) (c c2 : Nat) (hnc : n0 ≤ c) (hmc : m0 ≤ c2) (hsh0 : ∀ e ∈ es0, e.length < 140737488355328) (hnn0 : ∀ p ∈ ps0, p.n < 4398046511104) (w : World) (hBs : Base w) (hp0 : Pieces w A es0) (hq0 : Prs w A2 ps0) :
    Calls Tryd.prog 3 #[.int .i64 wd, .string s, .int .i64 F, .agg (cells8 b).toArray, .slice A n0 c, .slice A2 m0 c2] w fun e w' => e = .returned (.bool true) ∧ Below w.heap.size w w' := by
  obtain ⟨n, hn'⟩ : ∃ n, min n0 2200 = n := ⟨_, rfl⟩
  obtain ⟨m, hm'⟩ : ∃ m, min m0 2200 = m := ⟨_, rfl⟩
  obtain ⟨es, hes⟩ : ∃ es, es0.take n = es := ⟨_, rfl⟩
  obtain ⟨ps, hps⟩ : ∃ ps, ps0.take m = ps := ⟨_, rfl⟩
  have hp : Pieces w A es := by rw [← hes]; exact Law17e.Pieces.take_ hp0 n
  have hq : Prs w A2 ps := by rw [← hps]; exact Law17e.Prs.take_ hq0 m
  have hn : es.length = n := by rw [← hes, List.length_take]; omega
  have hm : ps.length = m := by rw [← hps, List.length_take]; omega
  have hsh : ∀ e ∈ es, e.length < 140737488355328 := fun e he => hsh0 e (by rw [← hes] at he; exact List.mem_of_mem_take he)
  have hnn : ∀ p ∈ ps, p.n < 4398046511104 := fun p he => hnn0 p (by rw [← hps] at he; exact List.mem_of_mem_take he)
  have hnn' : ∀ p ∈ ps, p.n < 140737488355328 := fun p he => by have := hnn p he; omega
  have hds : ∀ p ∈ ps, Digs p.ds ∧ p.ds.length = p.n := fun p hp' => ⟨(hq.2 p hp').1.2.1, (hq.2 p hp').1.1⟩
  have hn6 : n ≤ 1000000 := by omega
  have hm6 : m ≤ 1000000 := by omega
  have hn2 : (n : Int) ≤ 2200 := by omega
  have hm2 : (m : Int) ≤ 2200 := by omega
  have hFe : Hid (∀ w', Calls Tryd.prog 9 #[.slice A n0 c, .int .i64 2200] w' fun e w'' => e = .returned (.slice A n c) ∧ w' = w'') := fun w' => by
    have := Law17e.fewE_any A n0 c 2200 hnc w'
    rwa [hn'] at this
  have hFi : Hid (∀ w', Calls Tryd.prog 10 #[.slice A2 m0 c2, .int .i64 2200] w' fun e w'' => e = .returned (.slice A2 m c2) ∧ w' = w'') := fun w' => by
    have := Law17e.fewI_any A2 m0 c2 2200 hmc w'
    rwa [hm'] at this
  obtain ⟨W, hW⟩ : ∃ W, Hid (cutsW wd s F b es ps = W) := ⟨_, Lib.hid rfl⟩
  have hHa := Lib.hid (fun w' (h : Below w.heap.size w w') => hand_any es n hn hn6 hsh ps m hm hm6 hnn A A2 c c2 w' (hp.below h) (hq.below h))
  have hIt := Lib.hid (fun w0 w' (h : Below w.heap.size w w') B E P V Q gs hs hF => intact_any es n hn hn6 hsh ps m hm hm6 hnn A A2 c c2 w0 w' (hp.below h) (hq.below h) B E P V Q gs hs hF)
  have hRf : Hid (∀ w', Below w.heap.size w w' → Calls Tryd.prog 13 #[.int .i64 wd, .string s, .int .i64 F, .agg (cells8 b).toArray, .slice A n c, .slice A2 m c2] w' (RPost w' A A2 s es ps W)) := fun w' h => by
    have := refPieces_any wd hwd s hs F b hb es n hn hn6 hsh ps m hm hm6 hnn' A A2 c c2 (by omega) (by omega) w' (hp.below h) (hq.below h)
    rw [hW.out] at this
    exact this
  have hPi : Hid (∀ w0 w' B E P V Q gs hs_, Base w' → HF w0 w' B E P V Q n m gs hs_ es ps → ∃ AE cE AP cP, E = .slice AE n cE ∧ P = .slice AP m cP ∧ SamePiece.Alike (psH hs_ ps) ps ∧ Calls Tryd.prog 12 #[.int .i64 wd, .string s, .int .i64 F, .agg (cells8 b).toArray, E, P] w' (CPost w' s es (psH hs_ ps) W)) := fun w0 w' B E P V Q gs hs_ hB1 hF => by
    obtain ⟨AE, cE, rfl, hE1, -, h1⟩ := Law17e.HF.pieces hF
    obtain ⟨AP, cP, rfl, hP1, -, h2⟩ := Law17e.HF.prs hF hm hds
    have hal := Law17e.psH_alike hF.rod
    have hlh : (psH hs_ ps).length = m := by rw [hal.len, hm]
    have := pieces_any wd s hs F b hb es n hn hn6 hsh (psH hs_ ps) m hlh hm6 (fun p hp' => by
      obtain ⟨i, hi, rfl⟩ := List.getElem_of_mem hp'
      have hi2 : i < ps.length := by omega
      obtain ⟨-, -, h3, -⟩ := hal.at_ (List.getElem?_eq_getElem hi) (List.getElem?_eq_getElem hi2)
      rw [h3]
      exact hnn' _ (List.getElem_mem hi2)) (fun p hp' e => by
      unfold psH at hp'
      obtain ⟨i, hi, rfl⟩ := List.getElem_of_mem hp'
      rw [List.getElem_zipWith] at e
      cases e) AE AP cE cP hE1 hP1 w' hB1 (h1 hn) h2
    rw [cuts_alike hal, hW.out] at this
    exact ⟨AE, cE, AP, cP, rfl, rfl, hal, this⟩
  -- what the two answers have in common
  have hSa : Hid (∀ (l l' : List Pc) (qs : List Pr) (err err' : Int), SamePiece.Alike qs ps → ((∃ ks, W = some ks ∧ SaysR s es qs l ks ∧ err = 0) ∨ (W = none ∧ l = [] ∧ err = 170)) → ((∃ ks, W = some ks ∧ SaysR s es ps l' ks ∧ err' = 0) ∨ (W = none ∧ l' = [] ∧ err' = 170)) → err = err' ∧ AlikeR l l' ∧ l.length ≤ 1000000 ∧ (l' ≠ [] → es.length = ps.length) ∧ ∀ w', (∀ p ∈ l, p.Ok w') → ∀ p ∈ l, p.Few) := fun l l' qs err err' ha h1 h2 => by
    rcases h1 with ⟨ks, hk, h3, rfl⟩ | ⟨hk, rfl, rfl⟩
    · rcases h2 with ⟨ks', hk', h4, rfl⟩ | ⟨hk', -, -⟩
      · rw [hk] at hk'
        obtain rfl := Option.some.inj hk'
        have hk2 : cutsW wd s F b es ps = some ks := hW.out.trans hk
        unfold cutsW at hk2
        refine ⟨rfl, h3.alike h4 ha, ?_, fun _ => ?_, fun w' hok p hp' => ?_⟩
        · rw [h3.1]
          split at hk2
          · exact Nat.le_trans (cuts_len hk2) (by omega)
          · cases hk2
        · split at hk2
          · rename_i hc; exact hc.1
          · cases hk2
        · obtain ⟨i, hi, rfl⟩ := List.getElem_of_mem hp'
          exact says_few (h3.2 i _ _ (List.getElem?_eq_getElem hi) (List.getElem?_eq_getElem (by rw [← h3.1]; exact hi))) ha (hok _ hp') (by omega) (by omega) hsh hnn'
      · rw [hk] at hk'; cases hk'
    · rcases h2 with ⟨ks', hk', -, -⟩ | ⟨-, rfl, rfl⟩
      · rw [hk] at hk'; cases hk'
      · exact ⟨rfl, ⟨rfl, fun i p q h => by cases h⟩, Nat.zero_le _, fun h => absurd rfl h, fun _ _ p hp' => by cases hp'⟩
  have hB0 : Hid (Blk (w.alloc (.cells (cells8 b).toArray 23)) w.heap.size 23 (cells8 b).toArray) := Blk.new w _ _
  have hb0 : Hid (Below w.heap.size w (w.alloc (.cells (cells8 b).toArray 23))) := Below.heap_below w _
  have sD := Lib.hid (dig_size b hb)
  have hpk : Hid (∀ w', Below w.heap.size w w' → Pieces w' A es ∧ Prs w' A2 ps) := fun w' h => ⟨hp.below h, hq.below h⟩
  have hle : Hid (es.length = n) := hn
  have hlp : Hid (ps.length = m) := hm
  have hshH := Lib.hid hsh
  have hnnH := Lib.hid hnn
  have hdsH := Lib.hid hds
  replace hb := Lib.hid hb
  replace hBs := Lib.hid hBs
  clear hp hq hp0 hq0 hn hm hn0 hm0 hes hps hn' hm' hsh hnn hnn' hds hsh0 hnn0 hn6 hm6 hnc hmc hwd hs
  go_enter Tryd.func3, Tryd.ntmps3
  go_wp2_with fail
  refine (hFe.out _).mono ?_
  rintro e w1 ⟨rfl, rfl⟩
  generalize w.alloc (.cells (cells8 b).toArray 23) = w1 at *
  clear hFe
  go_wp2_with fail
  refine (hFi.out _).mono ?_
  rintro e w3 ⟨rfl, rfl⟩
  clear hFi
  go_wp2_with fail
  refine (hHa.out w1 hb0.out).mono ?_
  rintro e w4 ⟨B, E, P, V, Q, gs, hs_, rfl, hF⟩
  have hb4 : Hid (Below w.heap.size w w4) := hb0.out.trans (hF.be.mono hb0.out.size)
  have hB4 : Hid (Blk w4 w.heap.size 23 (cells8 b).toArray) := (hF.be.block _ hB0.out.lt).trans hB0.out
  have hBw : Hid (w.heap.size < B) := Nat.lt_of_lt_of_le hB0.out.lt hF.hb
  obtain ⟨A5, c5, hE5⟩ := own_len hF.oe
  obtain ⟨A6, c6, hP6⟩ := own_len hF.op
  obtain ⟨A7, c7, hV7⟩ := own_len hF.ov
  obtain ⟨A8, c8, hQ8⟩ := own_len hF.oq
  subst hE5 hP6 hV7 hQ8
  replace hF := Lib.hid hF
  clear hb0 hB0 hHa
  go_upto_region 4 with ((with_reducible change wpList _ _ _ ({ dst := none, op := Op.store 36 (.tmp 13) _, type := _, pos := _, after := _, guard := _ } :: _) _ _); refine wpList_store_whole (o := ⟨none, _, _, _, _, _⟩) rfl 36 (.tmp 13) (.tmp 28) rfl (w4.heap.size) ((hc (.slice A5 n c5) (.slice A6 m c6) (.slice A7 n c7) (.slice A8 m c8)).toArray) rfl rfl 36 (zG) (Blk.new w4 _ _) hc_info rfl (hc_one rfl rfl rfl rfl) ?_; intro w5 hG5 hkx; have hk1 := kept_fresh hkx; have hb5 := Lib.hid (hb4.out.trans (hk1.mono hb4.out.size)); have hB5 := Lib.hid (Blk.onw hB4.out hk1); have hF5 := Lib.hid (Intact17.HF.below hF.out hk1); have hg5 : Hid (w4.heap.size ≤ w4.heap.size) := Nat.le_refl _; have hk45 : Hid (Below w4.heap.size w4 w5) := hk1; replace hG5 := Lib.hid hG5; clear hk1 hkx hb4 hB4; generalize hge : w4.heap.size = g5 at *; replace hge := Lib.hid hge)
  have hlt5 : Hid (g5 < w5.heap.size) := hG5.out.lt
  have hBs5 : Base w5 := hBs.out.below hb5.out hBs.out.1
  obtain ⟨AE, cE, AP, cP, hE5, hP6, hal, hEc⟩ := hPi.out w1 w5 B _ _ _ _ gs hs_ hBs5 hF5.out
  injection hE5 with hE51 _ hE52
  injection hP6 with hP61 _ hP62
  subst hE51 hE52 hP61 hP62
  replace hEc := Lib.hid hEc
  replace hal := Lib.hid hal
  clear hPi hBs5
  have x34 : w5.cell? ⟨g5, 34, none⟩ = some (.slice A5 n c5) := (hG5.out.cell 34).trans hc_E
  have x35 : w5.cell? ⟨g5, 35, none⟩ = some (.slice A6 m c6) := (hG5.out.cell 35).trans hc_P
  go_wp2_with ((with_reducible change wpList _ _ _ ({ dst := some 33, op := _, type := _, pos := _, after := _, guard := _ } :: _) _ _); refine wpList_load_row (o := ⟨some 33, _, _, _, _, _⟩) rfl 23 (.tmp 9) rfl (w.heap.size) rfl 23 ((cells8 b).toArray) (0, 0) _ hB5.out Tryd.underlying23 rfl sD.out ?_)
  refine hEc.out.mono ?_
  rintro e w6 ⟨Al, cl, l, err, rfl, hsl, hfl, hk6⟩
  have hb6 : Hid (Below w.heap.size w w6) := hb5.out.trans (hk6.mono hb5.out.size)
  have hB6 : Hid (Blk w6 w.heap.size 23 (cells8 b).toArray) := (hk6.block _ hB5.out.lt).trans hB5.out
  have hk56 : Hid (Below w5.heap.size w5 w6) := hk6
  replace hsl := Lib.hid hsl
  replace hfl := Lib.hid hfl
  clear hk6 hEc x34 x35
  go_wp2_with ((with_reducible change wpList _ _ _ ({ dst := some 47, op := _, type := _, pos := _, after := _, guard := _ } :: _) _ _); refine wpList_load_row (o := ⟨some 47, _, _, _, _, _⟩) rfl 23 (.tmp 9) rfl (w.heap.size) rfl 23 ((cells8 b).toArray) (0, 0) _ hB6.out Tryd.underlying23 rfl sD.out ?_)
  refine (hRf.out w6 hb6.out).mono ?_
  rintro e w7 ⟨Ar, q, cr, l', err', rfl, hsr, hRL, hk7⟩
  have hb7 : Hid (Below w.heap.size w w7) := hb6.out.trans (hk7.mono hb6.out.size)
  have hk57 : Hid (Below w5.heap.size w5 w7) := hk56.out.trans (hk7.mono hk56.out.size)
  have hk67 : Hid (Below w6.heap.size w6 w7) := hk7
  obtain ⟨rfl, hal2, hl6, heqn, hfew⟩ := hSa.out l l' _ err err' hal.out hsl.out hsr
  have hlq : Hid (l.length = q) := by show _ = _; rw [hal2.1, hRL.len]
  have hG7 : Hid (Blk w7 g5 36 (hc (.slice A5 n c5) (.slice A6 m c6) (.slice A7 n c7) (.slice A8 m c8)).toArray) := (hk57.out.block _ hlt5.out).trans hG5.out
  have hF7 := Lib.hid (Intact17.HF.below hF5.out hk57.out)
  replace hRL := Lib.hid hRL
  replace hal2 := Lib.hid hal2
  replace hfew := Lib.hid hfew
  replace hl6 := Lib.hid hl6
  replace heqn := Lib.hid heqn
  clear hk7 hRf hSa hsl hsr
  -- the two rows in a world in which the copies may have been written over
  have hSame : Hid (∀ w', Kept (SW w7 B g5) w7 w' → Calls Tryd.prog 14 #[.slice Al l.length cl, .slice Ar q cr] w' fun e w'' => e = .returned (.bool true) ∧ Below w'.heap.size w' w'') := fun w' hk => by
    have hpc1 : Pcs w' Al l := hfl.out w' ((Kept.of_below (S := (· < w5.heap.size)) hk67.out).trans hk (fun k _ (h : SW w7 B g5 k) => by have := h.2.1; have := hlt5.out; show k < _; omega))
    have hbw : Below w.heap.size w w' := below_kept hb7.out hk (fun k _ (h : SW w7 B g5 k) => by have := h.1; have := hBw.out; omega) hb7.out.size
    have hpc2 : Pcs w' Ar l' := (hRL.out.kept hk (fun k e (h : SW w7 B g5 k) => by have := (hRL.out.ow.lt k e).1; have := h.2.1; have := hlt5.out; have := hk56.out.size; omega)).pcs heqn.out (hpk.out w' hbw).1 (hpk.out w' hbw).2
    have := sameRows_yes l l' hal2.out l.length rfl (by have := hl6.out; omega) (hfew.out w' hpc1.2) Al Ar cl cr w' hpc1 hpc2
    rw [← hlq.out]
    exact this
  have ye : (err != err) = false := by simp
  have hS7 := Lib.hid (hSame.out w7 (Kept.refl _ _))
  go_wp2_with (first
    | (go_at_call 14; refine hS7.out.mono ?_; rintro e w8 ⟨rfl, hk1⟩; have hk78 : Hid (Below w7.heap.size w7 w8) := hk1; have hb8 : Hid (Below w.heap.size w w8) := hb7.out.trans (hk1.mono hb7.out.size); have hG8 : Hid (Blk w8 g5 36 (hc (.slice A5 n c5) (.slice A6 m c6) (.slice A7 n c7) (.slice A8 m c8)).toArray) := (hk1.block _ hG7.out.lt).trans hG7.out; have hF8 := Lib.hid (Intact17.HF.below hF7.out hk1); have hIx := Lib.hid (hIt.out w1 w8 hb8.out B _ _ _ _ gs hs_ hF8.out); clear hk1 hS7)
    | ((with_reducible change wpList _ _ _ ({ dst := some 63, op := _, type := _, pos := _, after := _, guard := _ } :: _) _ _); refine wpList_load_rowG (o := ⟨some 63, _, _, _, _, _⟩) rfl 36 (.tmp 13) rfl (g5) rfl 36 ((hc (.slice A5 n c5) (.slice A6 m c6) (.slice A7 n c7) (.slice A8 m c8)).toArray) (0, 0) _ hG8.out Tryd.underlying36 rfl hc_info ?_)
    | (go_at_call 15; refine hIx.out.mono ?_; rintro e w9 ⟨rfl, hk1⟩; have hk79 : Hid (Below w7.heap.size w7 w9) := hk78.out.trans (hk1.mono hk78.out.size); have hb9 : Hid (Below w.heap.size w w9) := hb8.out.trans (hk1.mono hb8.out.size); have hG9 : Hid (Blk w9 g5 36 (hc (.slice A5 n c5) (.slice A6 m c6) (.slice A7 n c7) (.slice A8 m c8)).toArray) := (hk1.block _ hG8.out.lt).trans hG8.out; have hF9 := Lib.hid (Intact17.HF.below hF8.out hk1); clear hk1 hIx))
  clear ye hG7 hF7 hG8 hF8 hIt
  have hWr0 : Hid (Wr B g5 w9 w9 gs hs_ es ps) := Wr.start hF.out hdsH.out (by rw [hge.out]; exact hk45.out.trans ((hk57.out.trans (hk79.out.mono hk57.out.size)).mono (Nat.le_of_lt hlt5.out))) (Nat.le_of_eq hge.out)
  have hC36 : Hid (∀ W, Wr B g5 w9 W gs hs_ es ps → W.cell? ⟨g5, 36, none⟩ = some (.slice A7 n c7)) := fun W h => (h.k.cell (p := ⟨g5, 36, none⟩) hG9.out.lt (fun h => Nat.lt_irrefl _ h.2.1)).trans ((hG9.out.cell 36).trans hc_V)
  have hC37 : Hid (∀ W, Wr B g5 w9 W gs hs_ es ps → W.cell? ⟨g5, 37, none⟩ = some (.slice A8 m c8)) := fun W h => (h.k.cell (p := ⟨g5, 37, none⟩) hG9.out.lt (fun h => Nat.lt_irrefl _ h.2.1)).trans ((hG9.out.cell 37).trans hc_Q)
  have hgl : Hid (gs.length = n) := hF9.out.roo.1.trans hle.out
  have hhl : Hid (hs_.length = m) := hF9.out.rod.1.trans hlp.out
  go_loopw [18] (fun v wr => ∃ i : Nat, v = .int .i64 (i : Int) ∧ Hid (i ≤ n) ∧ Hid (Wr B g5 w9 wr gs hs_ es ps)) (fun v _ => n - (intOf v).toNat)
  case atStart => exact ⟨0, rfl, Nat.zero_le _, hWr0.out⟩
  case round =>
    clear hWr0
    obtain ⟨i, rfl, hi, hWr⟩ := hrel
    have hi6 : (i : Int) ≤ 2200 := by have := hi.out; omega
    have c36 := hC36.out wr hWr.out
    by_cases hlt : i < n
    · have hz : (i : Int) < (n : Int) := by omega
      have hz0 : (0 : Int) ≤ (i : Int) := by omega
      obtain ⟨x, hgx⟩ : ∃ x, Hid (gs[i]? = some x) := ⟨_, List.getElem?_eq_getElem (by rw [hgl.out]; exact hlt)⟩
      obtain ⟨qq, hqi⟩ : ∃ x, Hid (es[i]? = some x) := ⟨_, List.getElem?_eq_getElem (by rw [hle.out]; exact hlt)⟩
      obtain ⟨L, hL⟩ : ∃ L, Hid (qq.length + 80 = L) := ⟨_, Lib.hid rfl⟩
      have hL47 : (L : Int) ≤ 140737488355408 := by have := hshH.out qq (List.mem_of_getElem? hqi.out); have := hL.out; omega
      obtain ⟨b7, o7, cc, hV, -, -⟩ := own_at (by decide) (hWr.out.ov hF9.out) (by omega)
      injection hV with hV1 _ hV2
      subst hV1 hV2
      have hvc : Hid (∀ W', Wr B g5 w9 W' gs hs_ es ps → W'.cell? ⟨b7, o7 + i, none⟩ = some (.slice (some ⟨x, 0, none⟩) L L)) := fun W' h => by
        obtain ⟨b', o', c', e, -, hc⟩ := own_at (by decide) (h.ov hF9.out) (by omega)
        injection e with e1 _ _
        injection e1 with e1
        injection e1 with e1 e2
        subst e1 e2
        have := hc i _ (xsV_at hgx.out hqi.out)
        rw [hL.out] at this
        exact this
      have cV := hvc.out wr hWr.out
      have hi1 : Hid (i + 1 ≤ n) := hlt
      clear hlt
      obtain ⟨wA, rfl⟩ : ∃ wA, wA = wr := ⟨_, rfl⟩
      go_wp2_with fail
      clear c36 cV
      go_loopw [19] (fun v wr => ∃ j : Nat, v = .int .i64 (j : Int) ∧ Hid (j ≤ L) ∧ Hid (Wr B g5 w9 wr gs hs_ es ps)) (fun v _ => L - (intOf v).toNat)
      case atStart => exact ⟨0, rfl, Nat.zero_le _, hWr.out⟩
      case round =>
        clear hWr
        obtain ⟨j, rfl, hj, hWr⟩ := hrel
        have hj6 : (j : Int) ≤ 140737488355408 := by have := hj.out; omega
        have c36 := hC36.out wr hWr.out
        have cV := hvc.out wr hWr.out
        by_cases hlt : j < L
        · have yz : (j : Int) < (L : Int) := by omega
          have yz0 : (0 : Int) ≤ (j : Int) := by omega
          obtain ⟨-, cs, hB, hsz⟩ := hWr.out.r i x qq hgx.out hqi.out
          obtain ⟨vv, hvv⟩ : ∃ v, cs[j]? = some v := ⟨cs[j]'(by have := hL.out; omega), Array.getElem?_eq_getElem _⟩
          have cX : wr.cell? ⟨x, j, none⟩ = some vv := (hB.cell j).trans hvv
          clear hvv
          have fX := hB.frozen j
          have hj1 : Hid (j + 1 ≤ L) := hlt
          replace hB := Lib.hid hB
          replace hsz := Lib.hid hsz
          clear hlt
          go_wp2_with fail
          go_roundw
          case rel => exact ⟨j + 1, by go_num, hj1.out, hWr.out.set8 hgx.out hqi.out _⟩
          case measure => (have := hj1.out; simp [intOf]; omega)
        · have yz : ¬ ((j : Int) < (L : Int)) := by omega
          clear hlt
          go_wp2_with fail
          go_roundw
          case rel => exact ⟨i + 1, by go_num, hi1.out, hWr.out⟩
          case measure => (have := hi1.out; simp [intOf]; omega)
    · have hz : ¬ ((i : Int) < (n : Int)) := by omega
      clear hlt hi
      obtain ⟨wA, rfl⟩ : ∃ wA, wA = wr := ⟨_, rfl⟩
      go_wp2_with fail
      clear c36
      go_loopw [20] (fun v wr => ∃ i : Nat, v = .int .i64 (i : Int) ∧ Hid (i ≤ m) ∧ Hid (Wr B g5 w9 wr gs hs_ es ps)) (fun v _ => m - (intOf v).toNat)
      case atStart => exact ⟨0, rfl, Nat.zero_le _, hWr.out⟩
      case round =>
        clear hWr hz hi6
        obtain ⟨i, rfl, hi, hWr⟩ := hrel
        have hi6 : (i : Int) ≤ 2200 := by have := hi.out; omega
        have c37 := hC37.out wr hWr.out
        by_cases hlt : i < m
        · have hz : (i : Int) < (m : Int) := by omega
          have hz0 : (0 : Int) ≤ (i : Int) := by omega
          obtain ⟨x, hgx⟩ : ∃ x, Hid (hs_[i]? = some x) := ⟨_, List.getElem?_eq_getElem (by rw [hhl.out]; exact hlt)⟩
          obtain ⟨pr, hqi⟩ : ∃ x, Hid (ps[i]? = some x) := ⟨_, List.getElem?_eq_getElem (by rw [hlp.out]; exact hlt)⟩
          obtain ⟨L, hL⟩ : ∃ L, Hid (pr.n + 80 = L) := ⟨_, Lib.hid rfl⟩
          have hL47 : (L : Int) ≤ 140737488355408 := by have := hnnH.out pr (List.mem_of_getElem? hqi.out); have := hL.out; omega
          obtain ⟨b8, o8, cc, hV, hb8, -⟩ := own_at (by decide) (hWr.out.oq hF9.out) (by omega)
          injection hV with hV1 _ hV2
          subst hV1 hV2
          have hvc : Hid (∀ W', Wr B g5 w9 W' gs hs_ es ps → W'.cell? ⟨b8, o8 + i, none⟩ = some (.slice (some ⟨x, 0, none⟩) L L)) := fun W' h => by
            obtain ⟨b', o', c', e, -, hc⟩ := own_at (by decide) (h.oq hF9.out) (by omega)
            injection e with e1 _ _
            injection e1 with e1
            injection e1 with e1 e2
            subst e1 e2
            have := hc i _ (xsQ_at hgx.out hqi.out)
            rw [hL.out] at this
            exact this
          have cV := hvc.out wr hWr.out
          have hi1 : Hid (i + 1 ≤ m) := hlt
          clear hlt
          obtain ⟨wB, rfl⟩ : ∃ wB, wB = wr := ⟨_, rfl⟩
          go_wp2_with fail
          clear c37 cV
          go_loopw [21] (fun v wr => ∃ j : Nat, v = .int .i64 (j : Int) ∧ Hid (j ≤ L) ∧ Hid (Wr B g5 w9 wr gs hs_ es ps)) (fun v _ => L - (intOf v).toNat)
          case atStart => exact ⟨0, rfl, Nat.zero_le _, hWr.out⟩
          case round =>
            clear hWr
            obtain ⟨j, rfl, hj, hWr⟩ := hrel
            have hj6 : (j : Int) ≤ 140737488355408 := by have := hj.out; omega
            have c37 := hC37.out wr hWr.out
            have cV := hvc.out wr hWr.out
            by_cases hlt : j < L
            · have yz : (j : Int) < (L : Int) := by omega
              have yz0 : (0 : Int) ≤ (j : Int) := by omega
              have hj1 : Hid (j + 1 ≤ L) := hlt
              clear hlt
              go_upto_region 21 with fail
              obtain ⟨wC, rfl⟩ : ∃ wC, wC = wr := ⟨_, rfl⟩
              refine wp_region_class_tail 8 (Class wC) (by kernel_rfl) (by kernel_rfl) (Class.mk_ ((Below.refl _ _).drew)) ?_
              refine wpQuiet_val (v := .pointer (some ⟨g5, 37, none⟩)) rfl (fun w' hw' => by go_simp) ?_
              (intro K hK; go_simp; refine hK _ ?_; clear hK K)
              refine wpQuiet_val (v := .slice (some ⟨b8, o8, none⟩) m c8) rfl (fun w' hw' => by have hc := (hw'.below.cell (p := ⟨g5, 37, none⟩) (World.block_lt_of_cell? wC _ c37)).trans c37; go_simp) ?_
              (intro K hK; go_simp; refine hK _ ?_; clear hK K)
              refine wpQuiet_move rfl (.tmp 20) rfl ?_
              (intro K hK; go_simp; refine hK _ ?_; clear hK K)
              refine wpQuiet_val (v := .pointer (some ⟨b8, o8 + i, none⟩)) rfl (fun w' hw' => by go_simp) ?_
              (intro K hK; go_simp; refine hK _ ?_; clear hK K)
              refine wpQuiet_val (v := .slice (some ⟨x, 0, none⟩) L L) rfl (fun w' hw' => by have hc := (hw'.below.cell (p := ⟨b8, o8 + i, none⟩) (World.block_lt_of_cell? wC _ cV)).trans cV; go_simp) ?_
              (intro K hK; go_simp; refine hK _ ?_; clear hK K)
              refine wpQuiet_move rfl (.tmp 21) rfl ?_
              (intro K hK; go_simp; refine hK _ ?_; clear hK K)
              refine wpQuiet_fn (v := .agg (cells8 mk0).toArray) (args := #[]) rfl _ _ rfl rfl Tryd.func16 (by kernel_rfl) (by kernel_rfl) (fun w' hw' => ((stranger17_any w').mono fun e w'' ⟨he, hw⟩ => ⟨he, hw'.next hw⟩)) ?_
              (intro K hK; go_simp; refine hK _ ?_; clear hK K)
              refine wpQuiet_val (v := .pointer (some ⟨x, j * 32, none⟩)) rfl (fun w' hw' => by go_simp) ?_
              (intro K hK; go_simp; refine hK _ ?_; clear hK K)
              refine wpQuiet_nil ?_
              intro w44 hw44
              have hWr4 : Hid (Wr B g5 w9 w44 gs hs_ es ps) := hWr.out.drewN hw44.below
              clear hw44
              simp only [List.drop]
              obtain ⟨-, cs, hB, hsz⟩ := hWr4.out.d i x pr hgx.out hqi.out
              replace hB := Lib.hid hB
              have hfit : Hid (j * 32 + (cells8 mk0).toArray.size ≤ cs.size) := by show _ ≤ _; rw [hsz, List.size_toArray, cells8_len, mk0_len]; have := hj1.out; have := hL.out; omega
              have hX : Hid ((cs.toList.take (j * 32) ++ (cells8 mk0).toArray.toList ++ cs.toList.drop (j * 32 + (cells8 mk0).toArray.size)).toArray.size = (pr.n + 80) * 32) := by
                show _ = _
                have := hfit.out
                rw [← hsz]
                simp only [List.size_toArray, List.length_append, List.length_take, List.length_drop, Array.length_toList] at this ⊢
                omega
              have sM : Hid ((Tryd.prog.info? 23).map (·.size) = some (cells8 mk0).toArray.size) := dig_size mk0 mk0_len
              have oM := Lib.hid (dig_one mk0)
              replace hsz := Lib.hid hsz
              go_wp2_with ((with_reducible change wpList _ _ _ ({ dst := none, op := Op.store 23 _ _, type := _, pos := _, after := _, guard := _ } :: _) _ _); refine wpList_store_part (o := ⟨none, _, _, _, _, _⟩) rfl 23 (.tmp 117) (.tmp 116) rfl x (j * 32) (cells8 mk0).toArray rfl rfl 23 cs hB.out sM.out hfit.out oM.out ?_)
              go_roundw
              case rel => exact ⟨j + 1, by go_num, hj1.out, hWr4.out.setD hgx.out hqi.out (by have h := hX.out; rw [List.append_assoc] at h; exact h)⟩
              case measure => (have := hj1.out; simp [intOf]; omega)
            · have yz : ¬ ((j : Int) < (L : Int)) := by omega
              clear hlt
              go_wp2_with fail
              go_roundw
              case rel => exact ⟨i + 1, by go_num, hi1.out, hWr.out⟩
              case measure => (have := hi1.out; simp [intOf]; omega)
        · have hz : ¬ ((i : Int) < (m : Int)) := by omega
          have hk : Hid (Kept (SW w7 B g5) w7 wr) := (Kept.of_below (S := SW w7 B g5) hk79.out).trans hWr.out.k (fun k hk h => SW.back hk79.out hk h)
          have hbe : Hid (Below w.heap.size w wr) := below_kept hb9.out hWr.out.k (fun k _ (h : SW w9 B g5 k) => by have := h.1; have := hBw.out; omega) hb9.out.size
          have hSe := Lib.hid (hSame.out wr hk.out)
          clear hlt
          go_wp2_with (go_at_call 14; refine hSe.out.mono ?_; rintro e w10 ⟨rfl, hk1⟩; have hbz : Hid (Below w.heap.size w w10) := hbe.out.trans (hk1.mono hbe.out.size); clear hk1)
          go_ret
          exact ⟨rfl, hbz.out⟩
end Go.Proofs.YthkdlaohaekilaaDoor.ProofCuts
