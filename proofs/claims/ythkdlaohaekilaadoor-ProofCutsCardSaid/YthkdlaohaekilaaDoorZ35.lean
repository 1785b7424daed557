/-
  Texts of the claim, put into one file: Hand, CutW, Intact17.
-/
import Derived.Test.YthkdlaohaekilaaDoorZ34
import Derived.Test.YthkdlaohaekilaaDoorZ16
import Derived.Test.YthkdlaohaekilaaDoorZ14
import Derived.Test.YthkdlaohaekilaaDoorZ4

namespace Go.Proofs.YthkdlaohaekilaaDoor.Hand
open Go Go.RowKit Go.Proofs.YthkdlaohaekilaaDoor Go.Proofs.YthkdlaohaekilaaDoor.HeadMem Go.Proofs.YthkdlaohaekilaaDoor.Mem Go.Proofs.YthkdlaohaekilaaDoor.Sha Go.Proofs.YthkdlaohaekilaaDoor.Bytes Go.Proofs.YthkdlaohaekilaaDoor.Append Go.Proofs.YthkdlaohaekilaaDoor.TreeMem Go.Proofs.YthkdlaohaekilaaDoor.Held Go.Proofs.YthkdlaohaekilaaDoor.Own Go.Proofs.YthkdlaohaekilaaDoor.QuietTail Go.Proofs.YthkdlaohaekilaaDoor.Grown Go.Proofs.YthkdlaohaekilaaDoor.Book Go.Proofs.YthkdlaohaekilaaDoor.Book8 Go.Proofs.YthkdlaohaekilaaDoor.Law17a Go.Proofs.YthkdlaohaekilaaDoor.Prs Go.Proofs.YthkdlaohaekilaaDoor.Reach2 Go.Proofs.YthkdlaohaekilaaDoor.PieceLay Go.Proofs.YthkdlaohaekilaaDoor.PieceMem Go.Proofs.YthkdlaohaekilaaDoor.PieceMem2 Go.Proofs.YthkdlaohaekilaaDoor.HandM

theorem infoTx : (Tryd.prog.info? 27).map (fun i => (i.zero, i.size, i.bytes)) = some (some (.slice none 0 0), 1, 24) := by kernel_rfl
theorem infoDr : (Tryd.prog.info? 29).map (fun i => (i.zero, i.size, i.bytes)) = some (some (.slice none 0 0), 1, 24) := by kernel_rfl
theorem infoIn : (Tryd.prog.info? 31).map (fun i => (i.zero, i.size, i.bytes)) = some (some (.agg #[.int .i64 0, .int .i64 0, .slice none 0 0]), 3, 40) := by kernel_rfl
theorem sizeIn : (Tryd.prog.info? 31).map (·.size) = some 3 := by kernel_rfl
theorem zeroIn : ((Tryd.prog.info? 31).bind (·.zero)).isSome = true := by kernel_rfl
/-- What hand leaves. -/
structure HF (w0 W : World) (B : Nat) (E P V Q : Value) (n m : Nat) (gs hs : List Nat) (es : List Text) (ps : List Pr) : Prop where
  oe : W.ownsRow B 27 1 E n (xsE gs es)
  op : W.ownsRow B 31 3 P m ((psH hs ps).flatMap Pr.cells)
  ov : W.ownsRow B 27 1 V n (xsV gs es)
  oq : W.ownsRow B 29 1 Q m (xsQ hs ps)
  roo : Roo W B gs es
  rod : Rod W B hs ps
  be : Below w0.heap.size w0 W
  hb : w0.heap.size ≤ B
theorem keepR {w w' : World} {R B : Nat} {gs : List Nat} {es : List Text} (h : Roo w B gs es) (hk : Kept (· = R) w w') (hR : R < B) : Roo w' B gs es := ⟨h.1, fun i g q h1 h2 => by
  obtain ⟨⟨cs, a1, a2, a3⟩, a4⟩ := h.2 i g q h1 h2
  exact ⟨⟨cs, a1.kept hk (by show ¬ g = R; omega), a2, a3⟩, a4⟩⟩
theorem keepD {w w' : World} {R B : Nat} {hs : List Nat} {ps : List Pr} (h : Rod w B hs ps) (hk : Kept (· = R) w w') (hR : R < B) : Rod w' B hs ps := ⟨h.1, fun i g p h1 h2 => by
  obtain ⟨a1, a2⟩ := h.2 i g p h1 h2
  exact ⟨Blk.kept a1 hk (by show ¬ g = R; omega), a2⟩⟩
set_option maxRecDepth 100000 in
set_option maxHeartbeats 8000000 in
theorem hand_any (es : List Text) (n : Nat) (hn : es.length = n) (hn6 : n ≤ 1000000) (hsh : ∀ e ∈ es, e.length < 140737488355328) (ps : List Pr) (m : Nat) (hm : ps.length = m) (hm6 : m ≤ 1000000) (hnn : ∀ p ∈ ps, p.n < 4398046511104) (A A2 : Option Addr) (c c2 : Nat) (w : World) (hp : Pieces w A es) (hq : Prs w A2 ps) :
    Calls Tryd.prog 11 #[.slice A n c, .slice A2 m c2] w fun e w' => ∃ (B : Nat) (E P V Q : Value) (gs hs : List Nat), e = .returned (.agg (hc E P V Q).toArray) ∧ HF w w' B E P V Q n m gs hs es ps := by
  obtain ⟨j0, hj, jz0, jz1, jz2⟩ := info_partsN infoTx
  obtain ⟨d0, hd, dz0, dz1, dz2⟩ := info_partsN infoDr
  obtain ⟨n0, hn0, nz0, nz1, nz2⟩ := info_partsN infoIn
  have hHd2 : Hid (Hd w ((w.alloc (.cells zG 36)).alloc (.cells zG 36)) w.heap.size (w.heap.size + 2) (w.heap.size + 1) (.slice none 0 0) (.slice none 0 0) (.slice none 0 0) (.slice none 0 0) 0 0 0 0 [] [] [] []) := by
    have h2 : Blk ((w.alloc (.cells zG 36)).alloc (.cells zG 36)) (w.heap.size + 1) 36 zG := by
      have := Blk.new (w.alloc (.cells zG 36)) 36 zG
      rwa [show (w.alloc (.cells zG 36)).heap.size = w.heap.size + 1 by simp] at this
    exact ⟨h2, (Blk.new w _ _).alloc _, World.ownsRow_nil _ _ _ _, World.ownsRow_nil _ _ _ _, World.ownsRow_nil _ _ _ _, World.ownsRow_nil _ _ _ _, (fun k e => by cases e), (Below.heap_below w _).alloc (by simp) _⟩
  have hz2 : Hid (w.heap.size + 2 ≤ ((w.alloc (.cells zG 36)).alloc (.cells zG 36)).heap.size) := by show _ ≤ _; simp
  replace hn := Lib.hid hn
  replace hm := Lib.hid hm
  replace hn6 := Lib.hid hn6
  replace hm6 := Lib.hid hm6
  replace hp := Lib.hid hp
  replace hq := Lib.hid hq
  replace hsh := Lib.hid hsh
  replace hnn := Lib.hid hnn
  go_enter Tryd.func11, Tryd.ntmps11
  go_wp2_with fail
  obtain ⟨gg, hgg⟩ : ∃ x, Hid (w.heap.size + 1 = x) := ⟨_, Lib.hid rfl⟩
  obtain ⟨B, hBe⟩ : ∃ x, Hid (w.heap.size + 2 = x) := ⟨_, Lib.hid rfl⟩
  rw [hgg.out, hBe.out] at hHd2
  rw [hBe.out] at hz2
  rw [hgg.out]
  have hRg : Hid (w.heap.size < gg) := by have := hgg.out; show _ < _; omega
  have hgB : Hid (gg < B) := by have := hgg.out; have := hBe.out; show _ < _; omega
  go_loopw [6] (fun v wr => ∃ (i cE cV : Nat) (AE AV : Option Addr) (gs : List Nat), v = .int .i64 (i : Int) ∧ Hid (i ≤ n) ∧ Hid (Hd w wr w.heap.size B gg (.slice AE i cE) (.slice none 0 0) (.slice AV i cV) (.slice none 0 0) i 0 i 0 (xsE gs (es.take i)) [] (xsV gs (es.take i)) []) ∧ Hid (Roo wr B gs (es.take i)) ∧ Hid (B ≤ wr.heap.size)) (fun v _ => n - (intOf v).toNat)
  case atStart => exact ⟨0, 0, 0, none, none, [], rfl, Nat.zero_le _, hHd2.out, Roo.nil_ _ _, hz2.out⟩
  case round =>
    clear hHd2 hz2
    obtain ⟨i, cE, cV, AE, AV, gs, rfl, hin, hHd, hRo, hBr⟩ := hrel
    have hi6 : (i : Int) ≤ 1000000 := by have := hin.out; have := hn6.out; omega
    by_cases hlt : i < n
    · have y3 : ((i : Int) < (n : Int)) := by omega
      have hz0 : (0 : Int) ≤ (i : Int) := by omega
      obtain ⟨q, hqi⟩ : ∃ q, Hid (es[i]? = some q) := ⟨_, List.getElem?_eq_getElem (by rw [hn.out]; exact hlt)⟩
      obtain ⟨bA, oA, rfl, hbA, hcs⟩ := hp.out (by have := hn.out; omega)
      obtain ⟨Ae, ce, hc1, hc2, hc3, hc4⟩ := hcs i q hqi.out
      obtain ⟨k, hk⟩ : ∃ k, Hid (q.length = k) := ⟨_, Lib.hid rfl⟩
      have hk47 : Hid (k < 140737488355328) := by have := hsh.out q (List.mem_of_getElem? hqi.out); have := hk.out; show _ < _; omega
      have hev : Hid (∀ w', Below w.heap.size w w' → w'.cell? ⟨bA, oA + i, none⟩ = some (.slice Ae k ce)) := fun w' hb => (hb.cell (p := ⟨bA, oA + i, none⟩) hbA).trans (by rw [← hk.out]; exact hc1)
      have hrd : Hid (∀ w', Below w.heap.size w w' → Reads w' 1 Ae k (cells8 q)) := fun w' hb => by rw [← hk.out]; exact hc3.below hb
      have hlt' : Hid (i < n) := hlt
      have ht1 : Hid (es.take (i + 1) = es.take i ++ [q]) := by show _ = _; rw [List.take_add_one, hqi.out]; rfl
      have cev := hev.out wr hHd.out.be
      clear hcs hc1 hc2 hc3 hc4 hbA hlt
      go_wp2_with fail
      refine (roomy8_any q k hk.out hk47.out 165 165 rfl Ae ce wr (hrd.out wr hHd.out.be)).mono ?_
      rintro e w1 ⟨g, rfl, hg, hroom, hb1⟩
      have hHd1 := Lib.hid (hHd.out.below hb1)
      have hRo1 : Hid (Roo w1 B (gs ++ [g]) (es.take (i + 1))) := by
        show Roo _ _ _ _
        rw [ht1.out]
        exact Roo.push (hRo.out.keep (fun g' cs h => (hb1.block _ h.lt).trans h)) hroom (Nat.le_trans hBr.out hg)
      have hB1 : Hid (B ≤ w1.heap.size) := Nat.le_trans hBr.out hb1.size
      have hX : Hid (∀ w', (Instr.sliceAt 27 (.slice (some ⟨g, 0, none⟩) (k + 80) (k + 80)) none (some (.int .i64 (k : Int))) none).run Tryd.prog w' = .ok (.slice (some ⟨g, 0, none⟩) k (k + 80)) w') := fun w' => run_headOf Tryd.underlying27 (fun _ => rfl) (by omega) _ rfl w'
      have hgl : Hid (gs.length = (es.take i).length) := hRo.out.1
      clear hroom hb1 hg hHd hRo hBr cev
      have c36 : w1.cell? ⟨gg, 36, none⟩ = some (.slice AV i cV) := (hHd1.out.bk.cell 36).trans hc_V
      have hnV : Hid (Reads (w1.alloc (.cells #[.slice (some ⟨g, 0, none⟩) (k + 80) (k + 80)] 27)) 1 (some ⟨w1.heap.size, 0, none⟩) 1 [.slice (some ⟨g, 0, none⟩) (k + 80) (k + 80)]) := Blk.reads (Blk.new w1 27 #[.slice (some ⟨g, 0, none⟩) (k + 80) (k + 80)]) 0 _ rfl (fun j u hu => by rw [Nat.zero_add]; simpa using hu)
      have hOV : Hid ((w1.alloc (.cells #[.slice (some ⟨g, 0, none⟩) (k + 80) (k + 80)] 27)).ownsRow B 27 1 (.slice AV i cV) i (xsV gs (es.take i))) := World.ownsRow.alloc (w := w1) hHd1.out.ov _
      have hs1 : Hid (i + 1 ≤ maxLen) := by show _ ≤ _; unfold maxLen; omega
      have hs2 : Hid ((i + 1) * 24 ≤ 140737488355328) := by show _ ≤ _; omega
      have hs3 : Hid (B ≤ (w1.alloc (.cells #[.slice (some ⟨g, 0, none⟩) (k + 80) (k + 80)] 27)).heap.size) := by have := hB1.out; show _ ≤ _; simp; omega
      go_upto_region 7 with ((with_reducible change wpList _ _ _ ({ dst := some 25, op := _, type := _, pos := _, after := _, guard := _ } :: _) _ _); refine wpList_append_src _ (o := ⟨some 25, _, _, _, _, _⟩) rfl (.tmp 22) (.tmp 24) 24 rfl B 27 j0 (.slice none 0 0) 1 24 Tryd.underlying24 hj jz0 jz1 jz2 rfl (by decide) (.slice AV i cV) i (xsV gs (es.take i)) rfl hOV.out (some ⟨w1.heap.size, 0, none⟩) 1 1 [.slice (some ⟨g, 0, none⟩) (k + 80) (k + 80)] rfl hnV.out (fun e => by cases e) (by intro v hv; simp only [List.mem_singleton] at hv; rw [hv]; rfl) hs1.out hs2.out hs3.out ?_; intro v2 w2 hG; obtain ⟨AV2, cV2, rfl, -⟩ := Append.Own.reads hG.own; have hpk := Lib.hid (hHd1.out.pushV hRg.out hgB.out (Below.heap_below _ _) hG); have cV36 : w2.cell? ⟨gg, 36, none⟩ = some (.slice AV i cV) := (hpk.out.2.2.1.cell 36).trans hc_V; have fV36 := hpk.out.2.2.1.frozen 36; clear hG)
      have hHd3 := Lib.hid hpk.out.1
      have hRo3 : Hid (Roo (w2.setCell ⟨gg, 36, none⟩ (.slice AV2 (i + 1) cV2)) B (gs ++ [g]) (es.take (i + 1))) := hRo1.out.keep (fun g' cs h => hpk.out.2.1 g' _ cs (by decide) (by decide) h)
      have hB3 : Hid (B ≤ (w2.setCell ⟨gg, 36, none⟩ (.slice AV2 (i + 1) cV2)).heap.size) := Nat.le_trans hB1.out hpk.out.2.2.2.size
      have c34 : (w2.setCell ⟨gg, 36, none⟩ (.slice AV2 (i + 1) cV2)).cell? ⟨gg, 34, none⟩ = some (.slice AE i cE) := (hHd3.out.bk.cell 34).trans hc_E
      generalize w2.setCell ⟨gg, 36, none⟩ (.slice AV2 (i + 1) cV2) = w3 at *
      clear hpk c36 cV36 fV36 hnV hOV hs3 hHd1 hRo1 hB1
      have s0 : Hid (Below w.heap.size w w3.drew) := hHd3.out.be.drew
      have hHdd : Hid (Hd w w3.drew w.heap.size B gg (.slice AE i cE) (.slice none 0 0) (.slice AV2 (i + 1) cV2) (.slice none 0 0) i 0 (i + 1) 0 (xsE gs (es.take i)) [] (xsV gs (es.take i) ++ [.slice (some ⟨g, 0, none⟩) (k + 80) (k + 80)]) []) := hHd3.out.below (Below.refl _ _).drew
      have hszd : w3.drew.heap.size = w3.heap.size := rfl
      refine held_start (fun w' => Below w.heap.size w w') 15 rfl (by kernel_rfl) ?_
      refine held_take (i := 0) (v := .pointer (some ⟨gg, 0, none⟩)) rfl (by kernel_rfl) (by kernel_rfl) (by kernel_rfl) (fun _ _ _ h => h) s0.out (by rfl) (fun w' hw' => by go_simp) ?_
      (intro K hK; go_simp; refine hK _ ?_; clear hK K)
      refine held_take (i := 1) (v := .pointer (some ⟨gg, 34, none⟩)) rfl (by kernel_rfl) (by kernel_rfl) (by kernel_rfl) (fun _ _ _ h => h) s0.out (by rfl) (fun w' hw' => by go_simp) ?_
      (intro K hK; go_simp; refine hK _ ?_; clear hK K)
      refine held_take (i := 3) (v := .slice (some ⟨g, 0, none⟩) (k + 80) (k + 80)) rfl (by kernel_rfl) (by kernel_rfl) (by kernel_rfl) (fun _ _ _ h => h) s0.out (by rfl) (fun w' hw' => run_mv (.tmp 7) rfl w') ?_
      (intro K hK; go_simp; refine hK _ ?_; clear hK K)
      refine held_take (i := 4) (v := .slice (some ⟨bA, oA, none⟩) n c) rfl (by kernel_rfl) (by kernel_rfl) (by kernel_rfl) (fun _ _ _ h => h) s0.out (by rfl) (fun w' hw' => run_mv (.tmp 0) rfl w') ?_
      (intro K hK; go_simp; refine hK _ ?_; clear hK K)
      refine held_take (i := 5) (v := .int .i64 (i : Int)) rfl (by kernel_rfl) (by kernel_rfl) (by kernel_rfl) (fun _ _ _ h => h) s0.out (by rfl) (fun w' hw' => run_mv (.tmp 6) rfl w') ?_
      (intro K hK; go_simp; refine hK _ ?_; clear hK K)
      refine held_take (i := 6) (v := .pointer (some ⟨bA, oA + i, none⟩)) rfl (by kernel_rfl) (by kernel_rfl) (by kernel_rfl) (fun _ _ _ h => h) s0.out (by rfl) (fun w' hw' => by go_simp) ?_
      (intro K hK; go_simp; refine hK _ ?_; clear hK K)
      refine held_take (i := 7) (v := .slice Ae k ce) rfl (by kernel_rfl) (by kernel_rfl) (by kernel_rfl) (fun _ _ _ h => h) s0.out (by rfl) (fun w' hw' => by have hx := hev.out w' hw'; go_simp) ?_
      (intro K hK; go_simp; refine hK _ ?_; clear hK K)
      refine held_take (i := 8) (v := .int .i64 (k : Int)) rfl (by kernel_rfl) (by kernel_rfl) (by kernel_rfl) (fun _ _ _ h => h) s0.out (by rfl) (fun w' hw' => by go_simp) ?_
      (intro K hK; go_simp; refine hK _ ?_; clear hK K)
      refine held_take (i := 9) (v := .slice (some ⟨g, 0, none⟩) k (k + 80)) rfl (by kernel_rfl) (by kernel_rfl) (by kernel_rfl) (fun _ _ _ h => h) s0.out (by rfl) (fun w' hw' => by have hx := hX.out w'; go_simp) ?_
      (intro K hK; go_simp; refine hK _ ?_; clear hK K)
      refine held_two (i := 2) (j := 10) rfl rfl (by kernel_rfl) (by rfl) (by rfl) (fun K hK => ?_) (fun K hK => ?_)
      · go_simp
        refine hK _ _ s0.out ?_
        clear hK K
        refine held_only (i := 10) rfl (by kernel_rfl) (by rfl) (fun K hK => ?_)
        go_simp
        refine hK _ _ (s0.out.alloc s0.out.size _) ?_
        clear hK K
        have hnE : Hid (Reads (w3.drew.alloc (.cells #[.slice (some ⟨g, 0, none⟩) k (k + 80)] 27)) 1 (some ⟨w3.heap.size, 0, none⟩) 1 [.slice (some ⟨g, 0, none⟩) k (k + 80)]) := Blk.reads (Blk.new w3.drew 27 #[.slice (some ⟨g, 0, none⟩) k (k + 80)]) 0 _ rfl (fun j u hu => by rw [Nat.zero_add]; simpa using hu)
        have hOE : Hid ((w3.drew.alloc (.cells #[.slice (some ⟨g, 0, none⟩) k (k + 80)] 27)).ownsRow B 27 1 (.slice AE i cE) i (xsE gs (es.take i))) := World.ownsRow.alloc (w := w3.drew) hHdd.out.oe _
        have hs3 : Hid (B ≤ (w3.drew.alloc (.cells #[.slice (some ⟨g, 0, none⟩) k (k + 80)] 27)).heap.size) := by have := hB3.out; show _ ≤ _; simp; omega
        refine held_only (i := 11) rfl (by kernel_rfl) (by rfl) (fun K hK => ?_)
        refine wp_append_src _ (.tmp 29) (.tmp 37) 24 rfl B 27 j0 (.slice none 0 0) 1 24 Tryd.underlying24 hj jz0 jz1 jz2 rfl (by decide) (.slice AE i cE) i (xsE gs (es.take i)) rfl hOE.out (some ⟨w3.heap.size, 0, none⟩) 1 1 [.slice (some ⟨g, 0, none⟩) k (k + 80)] rfl hnE.out (fun e => by cases e) (by intro v hv; simp only [List.mem_singleton] at hv; rw [hv]; rfl) hs1.out hs2.out hs3.out ?_
        intro v5 w5 hG
        obtain ⟨AE5, cE5, rfl, -⟩ := Append.Own.reads hG.own
        have hpk := Lib.hid (hHdd.out.pushE hRg.out hgB.out (Below.heap_below _ _) hG)
        have cE34 : w5.cell? ⟨gg, 34, none⟩ = some (.slice AE i cE) := (hpk.out.2.2.1.cell 34).trans hc_E
        have fE34 := hpk.out.2.2.1.frozen 34
        have b5 : Hid (Below w.heap.size w w5) := hG.below (s0.out.alloc s0.out.size _) (s0.out.alloc s0.out.size _).size (fun k e => by have := (hHdd.out.oe.lt k e).1; have := hRg.out; have := hgB.out; omega)
        clear hG
        go_simp
        refine hK _ _ b5.out ?_
        clear hK K
        refine held_take (i := 12) (v := .pointer (some ⟨gg, 0, none⟩)) rfl (by kernel_rfl) (by kernel_rfl) (by kernel_rfl) (fun _ _ _ h => h) b5.out (by rfl) (fun w' hw' => by go_simp) ?_
        (intro K hK; go_simp; refine hK _ ?_; clear hK K)
        refine held_take (i := 13) (v := .pointer (some ⟨gg, 34, none⟩)) rfl (by kernel_rfl) (by kernel_rfl) (by kernel_rfl) (fun _ _ _ h => h) b5.out (by rfl) (fun w' hw' => by go_simp) ?_
        (intro K hK; go_simp; refine hK _ ?_; clear hK K)
        refine held_only (i := 14) rfl (by kernel_rfl) (by rfl) (fun K hK => ?_)
        go_simp
        refine hK _ _ (b5.out.setCell (by show w.heap.size ≤ gg; have := hRg.out; omega) _) ?_
        clear hK K
        refine held_end (by kernel_rfl) ?_
        have hRoF : Hid (Roo (w5.setCell ⟨gg, 34, none⟩ (.slice AE5 (i + 1) cE5)) B (gs ++ [g]) (es.take (i + 1))) := hRo3.out.keep (fun g' cs h => hpk.out.2.1 g' _ cs (by decide) (by decide) h)
        have hHdF : Hid (Hd w (w5.setCell ⟨gg, 34, none⟩ (.slice AE5 (i + 1) cE5)) w.heap.size B gg (.slice AE5 (i + 1) cE5) (.slice none 0 0) (.slice AV2 (i + 1) cV2) (.slice none 0 0) (i + 1) 0 (i + 1) 0 (xsE (gs ++ [g]) (es.take (i + 1))) [] (xsV (gs ++ [g]) (es.take (i + 1))) []) := by
          have h := hpk.out.1
          show Hd _ _ _ _ _ _ _ _ _ _ _ _ _ _ _ _ _
          rw [ht1.out, xsE_snoc hgl.out, xsV_snoc hgl.out, hk.out]
          exact h
        have hBF : Hid (B ≤ (w5.setCell ⟨gg, 34, none⟩ (.slice AE5 (i + 1) cE5)).heap.size) := Nat.le_trans hB3.out hpk.out.2.2.2.size
        have hinF : Hid (i + 1 ≤ n) := hlt'.out
        clear hpk cE34 fE34 c34 hs1 hs2 hs3 hnE hOE hHdd hHd3 hRo3
        go_wp2_with fail
        go_roundw
        case rel => exact ⟨i + 1, cE5, cV2, AE5, AV2, gs ++ [g], by go_num, hinF.out, hHdF.out, hRoF.out, hBF.out⟩
        case measure => (have := hinF.out; simp [intOf]; omega)
      · go_simp
        refine hK _ _ (s0.out.alloc s0.out.size _) ?_
        clear hK K
        have c34b : (w3.alloc (.cells #[.slice (some ⟨g, 0, none⟩) k (k + 80)] 27)).cell? ⟨gg, 34, none⟩ = some (.slice AE i cE) := ((hHd3.out.bk.alloc _).cell 34).trans hc_E
        refine held_only (i := 2) rfl (by kernel_rfl) (by rfl) (fun K hK => ?_)
        go_simp
        refine hK _ _ (s0.out.alloc s0.out.size _) ?_
        clear hK K c34b
        have hnE : Hid (Reads (w3.drew.alloc (.cells #[.slice (some ⟨g, 0, none⟩) k (k + 80)] 27)) 1 (some ⟨w3.heap.size, 0, none⟩) 1 [.slice (some ⟨g, 0, none⟩) k (k + 80)]) := Blk.reads (Blk.new w3.drew 27 #[.slice (some ⟨g, 0, none⟩) k (k + 80)]) 0 _ rfl (fun j u hu => by rw [Nat.zero_add]; simpa using hu)
        have hOE : Hid ((w3.drew.alloc (.cells #[.slice (some ⟨g, 0, none⟩) k (k + 80)] 27)).ownsRow B 27 1 (.slice AE i cE) i (xsE gs (es.take i))) := World.ownsRow.alloc (w := w3.drew) hHdd.out.oe _
        have hs3 : Hid (B ≤ (w3.drew.alloc (.cells #[.slice (some ⟨g, 0, none⟩) k (k + 80)] 27)).heap.size) := by have := hB3.out; show _ ≤ _; simp; omega
        refine held_only (i := 11) rfl (by kernel_rfl) (by rfl) (fun K hK => ?_)
        refine wp_append_src _ (.tmp 29) (.tmp 37) 24 rfl B 27 j0 (.slice none 0 0) 1 24 Tryd.underlying24 hj jz0 jz1 jz2 rfl (by decide) (.slice AE i cE) i (xsE gs (es.take i)) rfl hOE.out (some ⟨w3.heap.size, 0, none⟩) 1 1 [.slice (some ⟨g, 0, none⟩) k (k + 80)] rfl hnE.out (fun e => by cases e) (by intro v hv; simp only [List.mem_singleton] at hv; rw [hv]; rfl) hs1.out hs2.out hs3.out ?_
        intro v5 w5 hG
        obtain ⟨AE5, cE5, rfl, -⟩ := Append.Own.reads hG.own
        have hpk := Lib.hid (hHdd.out.pushE hRg.out hgB.out (Below.heap_below _ _) hG)
        have cE34 : w5.cell? ⟨gg, 34, none⟩ = some (.slice AE i cE) := (hpk.out.2.2.1.cell 34).trans hc_E
        have fE34 := hpk.out.2.2.1.frozen 34
        have b5 : Hid (Below w.heap.size w w5) := hG.below (s0.out.alloc s0.out.size _) (s0.out.alloc s0.out.size _).size (fun k e => by have := (hHdd.out.oe.lt k e).1; have := hRg.out; have := hgB.out; omega)
        clear hG
        go_simp
        refine hK _ _ b5.out ?_
        clear hK K
        refine held_take (i := 12) (v := .pointer (some ⟨gg, 0, none⟩)) rfl (by kernel_rfl) (by kernel_rfl) (by kernel_rfl) (fun _ _ _ h => h) b5.out (by rfl) (fun w' hw' => by go_simp) ?_
        (intro K hK; go_simp; refine hK _ ?_; clear hK K)
        refine held_take (i := 13) (v := .pointer (some ⟨gg, 34, none⟩)) rfl (by kernel_rfl) (by kernel_rfl) (by kernel_rfl) (fun _ _ _ h => h) b5.out (by rfl) (fun w' hw' => by go_simp) ?_
        (intro K hK; go_simp; refine hK _ ?_; clear hK K)
        refine held_only (i := 14) rfl (by kernel_rfl) (by rfl) (fun K hK => ?_)
        go_simp
        refine hK _ _ (b5.out.setCell (by show w.heap.size ≤ gg; have := hRg.out; omega) _) ?_
        clear hK K
        refine held_end (by kernel_rfl) ?_
        have hRoF : Hid (Roo (w5.setCell ⟨gg, 34, none⟩ (.slice AE5 (i + 1) cE5)) B (gs ++ [g]) (es.take (i + 1))) := hRo3.out.keep (fun g' cs h => hpk.out.2.1 g' _ cs (by decide) (by decide) h)
        have hHdF : Hid (Hd w (w5.setCell ⟨gg, 34, none⟩ (.slice AE5 (i + 1) cE5)) w.heap.size B gg (.slice AE5 (i + 1) cE5) (.slice none 0 0) (.slice AV2 (i + 1) cV2) (.slice none 0 0) (i + 1) 0 (i + 1) 0 (xsE (gs ++ [g]) (es.take (i + 1))) [] (xsV (gs ++ [g]) (es.take (i + 1))) []) := by
          have h := hpk.out.1
          show Hd _ _ _ _ _ _ _ _ _ _ _ _ _ _ _ _ _
          rw [ht1.out, xsE_snoc hgl.out, xsV_snoc hgl.out, hk.out]
          exact h
        have hBF : Hid (B ≤ (w5.setCell ⟨gg, 34, none⟩ (.slice AE5 (i + 1) cE5)).heap.size) := Nat.le_trans hB3.out hpk.out.2.2.2.size
        have hinF : Hid (i + 1 ≤ n) := hlt'.out
        clear hpk cE34 fE34 c34 hs1 hs2 hs3 hnE hOE hHdd hHd3 hRo3
        go_wp2_with fail
        go_roundw
        case rel => exact ⟨i + 1, cE5, cV2, AE5, AV2, gs ++ [g], by go_num, hinF.out, hHdF.out, hRoF.out, hBF.out⟩
        case measure => (have := hinF.out; simp [intOf]; omega)
    · have hin2 : i = n := by have := hin.out; omega
      subst hin2
      have y3 : ¬ ((i : Int) < (i : Int)) := by omega
      have ht : es.take i = es := List.take_of_length_le (by rw [hn.out]; exact Nat.le_refl _)
      rw [ht] at hHd hRo
      clear hlt ht
      go_wp2_with fail
      clear y3
      obtain ⟨wA, rfl⟩ : ∃ wA, wA = wr := ⟨_, rfl⟩
      go_loopw [8] (fun v wr => ∃ (j cP cQ : Nat) (AP AQ : Option Addr) (hs : List Nat), v = .int .i64 (j : Int) ∧ Hid (j ≤ m) ∧ Hid (Hd w wr w.heap.size B gg (.slice AE i cE) (.slice AP j cP) (.slice AV i cV) (.slice AQ j cQ) i j i j (xsE gs es) ((psH hs (ps.take j)).flatMap Pr.cells) (xsV gs es) (xsQ hs (ps.take j))) ∧ Hid (Roo wr B gs es) ∧ Hid (Rod wr B hs (ps.take j)) ∧ Hid (B ≤ wr.heap.size)) (fun v _ => m - (intOf v).toNat)
      case atStart => exact ⟨0, 0, 0, none, none, [], rfl, Nat.zero_le _, hHd.out, hRo.out, Rod.nil_ _ _, hBr.out⟩
      case round =>
        clear hHd hRo hBr
        obtain ⟨j, cP, cQ, AP, AQ, hs, rfl, hjn, hHd, hRo, hRd, hBr⟩ := hrel
        have hj6 : (j : Int) ≤ 1000000 := by have := hjn.out; have := hm6.out; omega
        by_cases hlt : j < m
        · have y3 : ((j : Int) < (m : Int)) := by omega
          have hz0 : (0 : Int) ≤ (j : Int) := by omega
          obtain ⟨x, hxi⟩ : ∃ x, Hid (ps[j]? = some x) := ⟨_, List.getElem?_eq_getElem (by rw [hm.out]; exact hlt)⟩
          obtain ⟨bP, oP, rfl, hbP, hcx⟩ := hq.out.at_ hxi.out
          have hrd0 := (hq.out.2 x (List.mem_of_getElem? hxi.out)).1
          have hxn : Hid (x.n < 4398046511104) := hnn.out x (List.mem_of_getElem? hxi.out)
          have hfx : Hid (∀ w', Below w.heap.size w w' → ∀ f u, x.cells[f]? = some u → w'.cell? ⟨bP, oP + j * 3 + f, none⟩ = some u) := fun w' hb f u hu => (hb.cell (p := ⟨bP, oP + j * 3 + f, none⟩) hbP).trans (by rw [show oP + j * 3 + f = oP + (3 * j + f) by omega]; exact hcx f u hu)
          have hrd : Hid (∀ w', Below w.heap.size w w' → RdD w' x.A x.n x.ds) := fun w' hb => hrd0.below hb
          have hlt' : Hid (j < m) := hlt
          have ht1 : Hid (ps.take (j + 1) = ps.take j ++ [x]) := by show _ = _; rw [List.take_add_one, hxi.out]; rfl
          clear hcx hrd0 hbP hlt
          have hSt := Lib.hid (fun w' => stranger17_any w')
          go_upto_region 11 with fail
          refine wp_region_class_tail 6 (Class wr) (by kernel_rfl) (by kernel_rfl) (Class.mk_ ((Below.refl _ _).drew)) ?_
          refine wpQuiet_move rfl (.tmp 1) rfl ?_
          (intro K hK; go_simp; refine hK _ ?_; clear hK K)
          refine wpQuiet_move rfl (.tmp 8) rfl ?_
          (intro K hK; go_simp; refine hK _ ?_; clear hK K)
          refine wpQuiet_val (v := .pointer (some ⟨bP, oP + j * 3, none⟩)) rfl (fun w' hw' => by go_simp) ?_
          (intro K hK; go_simp; refine hK _ ?_; clear hK K)
          refine wpQuiet_val (v := .pointer (some ⟨bP, oP + j * 3 + 2, none⟩)) rfl (fun w' hw' => by go_simp) ?_
          (intro K hK; go_simp; refine hK _ ?_; clear hK K)
          refine wpQuiet_val (v := .slice x.A x.n x.c) rfl (fun w' hw' => by have hx := hfx.out w' (hHd.out.be.trans (hw'.below.mono hHd.out.be.size)) 2 _ rfl; go_simp) ?_
          (intro K hK; go_simp; refine hK _ ?_; clear hK K)
          refine wpQuiet_fn (v := .agg (cells8 mk0).toArray) (args := #[]) rfl _ _ rfl rfl Tryd.func16 (by kernel_rfl) (by kernel_rfl) (fun w' hw' => (hSt.out w').mono (fun e w'' ⟨he, hb⟩ => ⟨he, hw'.next hb⟩)) ?_
          (intro K hK; go_simp; refine hK _ ?_; clear hK K)
          refine wpQuiet_nil ?_
          intro w6 hw6
          have h6 : Hid (Below wr.heap.size wr w6) := hw6.below
          clear hw6
          simp only [List.drop]
          have hT := Lib.hid (Book17.roomyD_wide x.ds x.n hxn.out x.A x.c mk0 mk0_len w6 (hrd.out w6 (hHd.out.be.trans (h6.out.mono hHd.out.be.size))))
          go_upto_region 12 with (go_at_call 50; refine hT.out.mono ?_; rintro e w7 ⟨h, rfl, hh, hrow, hb7⟩; have hHd7 := Lib.hid ((hHd.out.below h6.out).below hb7); have hRo7 : Hid (Roo w7 B gs es) := (hRo.out.keep (fun g' cs hx => (h6.out.block _ hx.lt).trans hx)).keep (fun g' cs hx => (hb7.block _ hx.lt).trans hx); have hRd7 : Hid (Rod w7 B (hs ++ [h]) (ps.take (j + 1))) := (by show Rod _ _ _ _; rw [ht1.out]; exact ((hRd.out.keep (fun g' cs hx => (h6.out.block _ hx.lt).trans hx)).keep (fun g' cs hx => (hb7.block _ hx.lt).trans hx)).push hrow (Nat.le_trans hBr.out (Nat.le_trans h6.out.size hh))); have hB7 : Hid (B ≤ w7.heap.size) := Nat.le_trans hBr.out (Nat.le_trans h6.out.size hb7.size); clear hT hrow hb7 hh)
          have hhl : Hid (hs.length = (ps.take j).length) := hRd.out.1
          clear h6 hHd hRo hRd hBr hSt
          have c37 : w7.cell? ⟨gg, 37, none⟩ = some (.slice AQ j cQ) := (hHd7.out.bk.cell 37).trans hc_Q
          have hnQ : Hid (Reads (w7.alloc (.cells #[.slice (some ⟨h, 0, none⟩) (x.n + 80) (x.n + 80)] 29)) 1 (some ⟨w7.heap.size, 0, none⟩) 1 [.slice (some ⟨h, 0, none⟩) (x.n + 80) (x.n + 80)]) := Blk.reads (Blk.new w7 29 #[.slice (some ⟨h, 0, none⟩) (x.n + 80) (x.n + 80)]) 0 _ rfl (fun j u hu => by rw [Nat.zero_add]; simpa using hu)
          have hOQ : Hid ((w7.alloc (.cells #[.slice (some ⟨h, 0, none⟩) (x.n + 80) (x.n + 80)] 29)).ownsRow B 29 1 (.slice AQ j cQ) j (xsQ hs (ps.take j))) := World.ownsRow.alloc (w := w7) hHd7.out.oq _
          have hs1 : Hid (j + 1 ≤ maxLen) := by show _ ≤ _; unfold maxLen; omega
          have hs2 : Hid ((j + 1) * 24 ≤ 140737488355328) := by show _ ≤ _; omega
          have hs3 : Hid (B ≤ (w7.alloc (.cells #[.slice (some ⟨h, 0, none⟩) (x.n + 80) (x.n + 80)] 29)).heap.size) := by have := hB7.out; show _ ≤ _; simp; omega
          go_upto_region 13 with ((with_reducible change wpList _ _ _ ({ dst := some 58, op := _, type := _, pos := _, after := _, guard := _ } :: _) _ _); refine wpList_append_src _ (o := ⟨some 58, _, _, _, _, _⟩) rfl (.tmp 55) (.tmp 57) 34 rfl B 29 d0 (.slice none 0 0) 1 24 Tryd.underlying34 hd dz0 dz1 dz2 rfl (by decide) (.slice AQ j cQ) j (xsQ hs (ps.take j)) rfl hOQ.out (some ⟨w7.heap.size, 0, none⟩) 1 1 [.slice (some ⟨h, 0, none⟩) (x.n + 80) (x.n + 80)] rfl hnQ.out (fun e => by cases e) (by intro v hv; simp only [List.mem_singleton] at hv; rw [hv]; rfl) hs1.out hs2.out hs3.out ?_; intro v8 w8 hG; obtain ⟨AQ2, cQ2, rfl, -⟩ := Append.Own.reads hG.own; have hpk := Lib.hid (hHd7.out.pushQ hRg.out hgB.out (Below.heap_below _ _) hG); have cQ37 : w8.cell? ⟨gg, 37, none⟩ = some (.slice AQ j cQ) := (hpk.out.2.2.1.cell 37).trans hc_Q; have fQ37 := hpk.out.2.2.1.frozen 37; clear hG)
          have hHd3 := Lib.hid hpk.out.1
          have hRo3 : Hid (Roo (w8.setCell ⟨gg, 37, none⟩ (.slice AQ2 (j + 1) cQ2)) B gs es) := hRo7.out.keep (fun g' cs h => hpk.out.2.1 g' _ cs (by decide) (by decide) h)
          have hRd3 : Hid (Rod (w8.setCell ⟨gg, 37, none⟩ (.slice AQ2 (j + 1) cQ2)) B (hs ++ [h]) (ps.take (j + 1))) := hRd7.out.keep (fun g' cs h => hpk.out.2.1 g' _ cs (by decide) (by decide) h)
          have hB3 : Hid (B ≤ (w8.setCell ⟨gg, 37, none⟩ (.slice AQ2 (j + 1) cQ2)).heap.size) := Nat.le_trans hB7.out hpk.out.2.2.2.size
          have c35 : (w8.setCell ⟨gg, 37, none⟩ (.slice AQ2 (j + 1) cQ2)).cell? ⟨gg, 35, none⟩ = some (.slice AP j cP) := (hHd3.out.bk.cell 35).trans hc_P
          generalize w8.setCell ⟨gg, 37, none⟩ (.slice AQ2 (j + 1) cQ2) = w3 at *
          clear hpk c37 cQ37 fQ37 hnQ hOQ hs3 hHd7 hRo7 hRd7 hB7 hs2
          obtain ⟨pr, hpr⟩ : ∃ pr : Pr, Hid (pr = ⟨x.x, x.y, x.ds, some ⟨h, 0, none⟩, x.n, x.n + 80⟩) := ⟨_, Lib.hid rfl⟩
          have hprc : Hid (pr.cells = [.int .i64 x.x, .int .i64 x.y, .slice (some ⟨h, 0, none⟩) x.n (x.n + 80)]) := by show _ = _; rw [hpr.out]; rfl
          have q1 : Hid (∀ v ∈ [pr.cells], v.length = 3) := by intro v hv; simp only [List.mem_singleton] at hv; rw [hv]; rfl
          have x1 : Hid ([pr.cells].flatten.toArray = pr.cells.toArray) := by show _ = _; simp
          have hone : Hid (∀ v ∈ pr.cells, v.oneCell' = true) := by intro v hv; rw [hprc.out] at hv; simp only [List.mem_cons, List.not_mem_nil, or_false] at hv; rcases hv with rfl | rfl | rfl <;> rfl
          have s0 : Hid (Below w.heap.size w w3.drew) := hHd3.out.be.drew
          have hHdd : Hid (Hd w w3.drew w.heap.size B gg (.slice AE i cE) (.slice AP j cP) (.slice AV i cV) (.slice AQ2 (j + 1) cQ2) i j i (j + 1) (xsE gs es) ((psH hs (ps.take j)).flatMap Pr.cells) (xsV gs es) (xsQ hs (ps.take j) ++ [.slice (some ⟨h, 0, none⟩) (x.n + 80) (x.n + 80)])) := hHd3.out.below (Below.refl _ _).drew
          have hX : Hid (∀ w', (Instr.sliceAt 29 (.slice (some ⟨h, 0, none⟩) (x.n + 80) (x.n + 80)) none (some (.int .i64 (x.n : Int))) none).run Tryd.prog w' = .ok (.slice (some ⟨h, 0, none⟩) x.n (x.n + 80)) w') := fun w' => run_headD (by omega) _ rfl w'
          have hs2 : Hid ((j + 1) * 40 ≤ 140737488355328) := by show _ ≤ _; omega
          refine held_start (fun w' => Below w.heap.size w w') 27 rfl (by kernel_rfl) ?_
          refine held_take (i := 0) (v := .pointer (some ⟨gg, 0, none⟩)) rfl (by kernel_rfl) (by kernel_rfl) (by kernel_rfl) (fun _ _ _ h => h) s0.out (by rfl) (fun w' hw' => by go_simp) ?_
          (intro K hK; go_simp; refine hK _ ?_; clear hK K)
          refine held_take (i := 1) (v := .pointer (some ⟨gg, 35, none⟩)) rfl (by kernel_rfl) (by kernel_rfl) (by kernel_rfl) (fun _ _ _ h => h) s0.out (by rfl) (fun w' hw' => by go_simp) ?_
          (intro K hK; go_simp; refine hK _ ?_; clear hK K)
          refine held_take (i := 3) (v := .slice (some ⟨bP, oP, none⟩) m c2) rfl (by kernel_rfl) (by kernel_rfl) (by kernel_rfl) (fun _ _ _ h => h) s0.out (by rfl) (fun w' hw' => run_mv (.tmp 1) rfl w') ?_
          (intro K hK; go_simp; refine hK _ ?_; clear hK K)
          refine held_take (i := 4) (v := .int .i64 (j : Int)) rfl (by kernel_rfl) (by kernel_rfl) (by kernel_rfl) (fun _ _ _ h => h) s0.out (by rfl) (fun w' hw' => run_mv (.tmp 8) rfl w') ?_
          (intro K hK; go_simp; refine hK _ ?_; clear hK K)
          refine held_take (i := 5) (v := .pointer (some ⟨bP, oP + j * 3, none⟩)) rfl (by kernel_rfl) (by kernel_rfl) (by kernel_rfl) (fun _ _ _ h => h) s0.out (by rfl) (fun w' hw' => by go_simp) ?_
          (intro K hK; go_simp; refine hK _ ?_; clear hK K)
          refine held_take (i := 6) (v := .pointer (some ⟨bP, oP + j * 3, none⟩)) rfl (by kernel_rfl) (by kernel_rfl) (by kernel_rfl) (fun _ _ _ h => h) s0.out (by rfl) (fun w' hw' => by go_simp) ?_
          (intro K hK; go_simp; refine hK _ ?_; clear hK K)
          refine held_take (i := 7) (v := .int .i64 x.x) rfl (by kernel_rfl) (by kernel_rfl) (by kernel_rfl) (fun _ _ _ h => h) s0.out (by rfl) (fun w' hw' => by have hx := hfx.out w' hw' 0 _ rfl; rw [Nat.add_zero] at hx; go_simp) ?_
          (intro K hK; go_simp; refine hK _ ?_; clear hK K)
          refine held_take (i := 8) (v := .slice (some ⟨bP, oP, none⟩) m c2) rfl (by kernel_rfl) (by kernel_rfl) (by kernel_rfl) (fun _ _ _ h => h) s0.out (by rfl) (fun w' hw' => run_mv (.tmp 1) rfl w') ?_
          (intro K hK; go_simp; refine hK _ ?_; clear hK K)
          refine held_take (i := 9) (v := .int .i64 (j : Int)) rfl (by kernel_rfl) (by kernel_rfl) (by kernel_rfl) (fun _ _ _ h => h) s0.out (by rfl) (fun w' hw' => run_mv (.tmp 8) rfl w') ?_
          (intro K hK; go_simp; refine hK _ ?_; clear hK K)
          refine held_take (i := 10) (v := .pointer (some ⟨bP, oP + j * 3, none⟩)) rfl (by kernel_rfl) (by kernel_rfl) (by kernel_rfl) (fun _ _ _ h => h) s0.out (by rfl) (fun w' hw' => by go_simp) ?_
          (intro K hK; go_simp; refine hK _ ?_; clear hK K)
          refine held_take (i := 11) (v := .pointer (some ⟨bP, oP + j * 3 + 1, none⟩)) rfl (by kernel_rfl) (by kernel_rfl) (by kernel_rfl) (fun _ _ _ h => h) s0.out (by rfl) (fun w' hw' => by go_simp) ?_
          (intro K hK; go_simp; refine hK _ ?_; clear hK K)
          refine held_take (i := 12) (v := .int .i64 x.y) rfl (by kernel_rfl) (by kernel_rfl) (by kernel_rfl) (fun _ _ _ h => h) s0.out (by rfl) (fun w' hw' => by have hx := hfx.out w' hw' 1 _ rfl; go_simp) ?_
          (intro K hK; go_simp; refine hK _ ?_; clear hK K)
          refine held_take (i := 13) (v := .slice (some ⟨h, 0, none⟩) (x.n + 80) (x.n + 80)) rfl (by kernel_rfl) (by kernel_rfl) (by kernel_rfl) (fun _ _ _ h => h) s0.out (by rfl) (fun w' hw' => run_mv (.tmp 9) rfl w') ?_
          (intro K hK; go_simp; refine hK _ ?_; clear hK K)
          refine held_take (i := 14) (v := .slice (some ⟨bP, oP, none⟩) m c2) rfl (by kernel_rfl) (by kernel_rfl) (by kernel_rfl) (fun _ _ _ h => h) s0.out (by rfl) (fun w' hw' => run_mv (.tmp 1) rfl w') ?_
          (intro K hK; go_simp; refine hK _ ?_; clear hK K)
          refine held_take (i := 15) (v := .int .i64 (j : Int)) rfl (by kernel_rfl) (by kernel_rfl) (by kernel_rfl) (fun _ _ _ h => h) s0.out (by rfl) (fun w' hw' => run_mv (.tmp 8) rfl w') ?_
          (intro K hK; go_simp; refine hK _ ?_; clear hK K)
          refine held_take (i := 16) (v := .pointer (some ⟨bP, oP + j * 3, none⟩)) rfl (by kernel_rfl) (by kernel_rfl) (by kernel_rfl) (fun _ _ _ h => h) s0.out (by rfl) (fun w' hw' => by go_simp) ?_
          (intro K hK; go_simp; refine hK _ ?_; clear hK K)
          refine held_take (i := 17) (v := .pointer (some ⟨bP, oP + j * 3 + 2, none⟩)) rfl (by kernel_rfl) (by kernel_rfl) (by kernel_rfl) (fun _ _ _ h => h) s0.out (by rfl) (fun w' hw' => by go_simp) ?_
          (intro K hK; go_simp; refine hK _ ?_; clear hK K)
          refine held_take (i := 18) (v := .slice x.A x.n x.c) rfl (by kernel_rfl) (by kernel_rfl) (by kernel_rfl) (fun _ _ _ h => h) s0.out (by rfl) (fun w' hw' => by have hx := hfx.out w' hw' 2 _ rfl; go_simp) ?_
          (intro K hK; go_simp; refine hK _ ?_; clear hK K)
          refine held_take (i := 19) (v := .int .i64 (x.n : Int)) rfl (by kernel_rfl) (by kernel_rfl) (by kernel_rfl) (fun _ _ _ h => h) s0.out (by rfl) (fun w' hw' => by go_simp) ?_
          (intro K hK; go_simp; refine hK _ ?_; clear hK K)
          refine held_take (i := 20) (v := .slice (some ⟨h, 0, none⟩) x.n (x.n + 80)) rfl (by kernel_rfl) (by kernel_rfl) (by kernel_rfl) (fun _ _ _ h => h) s0.out (by rfl) (fun w' hw' => by have hx := hX.out w'; go_simp) ?_
          (intro K hK; go_simp; refine hK _ ?_; clear hK K)
          refine held_take (i := 21) (v := .agg #[.int .i64 x.x, .int .i64 x.y, .slice (some ⟨h, 0, none⟩) x.n (x.n + 80)]) rfl (by kernel_rfl) (by kernel_rfl) (by kernel_rfl) (fun _ _ _ h => h) s0.out (by rfl) (fun w' hw' => by go_simp) ?_
          (intro K hK; go_simp; refine hK _ ?_; clear hK K)
          refine held_two (i := 2) (j := 22) rfl rfl (by kernel_rfl) (by rfl) (by rfl) (fun K hK => ?_) (fun K hK => ?_)
          · go_simp
            refine hK _ _ s0.out ?_
            clear hK K
            refine held_only (i := 22) rfl (by kernel_rfl) (by rfl) (fun K hK => ?_)
            refine wp_buildAggs 25 31 1 _ rfl 3 (by decide) [pr.cells] Tryd.underlying25 sizeIn zeroIn rfl (by decide) (by decide) q1.out (by rw [hprc.out]; rfl) ?_
            rw [x1.out]
            refine hK _ _ (s0.out.alloc s0.out.size _) ?_
            clear hK K
            have hnP : Hid (Reads (w3.drew.alloc (.cells pr.cells.toArray 31)) 3 (some ⟨w3.heap.size, 0, none⟩) 1 pr.cells) := Blk.reads (Blk.new w3.drew 31 pr.cells.toArray) 0 _ rfl (fun j u hu => by rw [Nat.zero_add, List.getElem?_toArray]; exact hu)
            have hOP : Hid ((w3.drew.alloc (.cells pr.cells.toArray 31)).ownsRow B 31 3 (.slice AP j cP) j ((psH hs (ps.take j)).flatMap Pr.cells)) := World.ownsRow.alloc (w := w3.drew) hHdd.out.op _
            have hs3 : Hid (B ≤ (w3.drew.alloc (.cells pr.cells.toArray 31)).heap.size) := by have := hB3.out; show _ ≤ _; simp; omega
            refine held_only (i := 23) rfl (by kernel_rfl) (by rfl) (fun K hK => ?_)
            refine wp_append_src _ (.tmp 62) (.tmp 82) 25 rfl B 31 n0 (.agg #[.int .i64 0, .int .i64 0, .slice none 0 0]) 3 40 Tryd.underlying25 hn0 nz0 nz1 nz2 rfl (by decide) (.slice AP j cP) j ((psH hs (ps.take j)).flatMap Pr.cells) rfl hOP.out (some ⟨w3.heap.size, 0, none⟩) 1 1 pr.cells rfl hnP.out (fun e => by cases e) hone.out hs1.out hs2.out hs3.out ?_
            intro v5 w5 hG
            obtain ⟨AP5, cP5, rfl, -⟩ := Append.Own.reads hG.own
            have hpk := Lib.hid (hHdd.out.pushP hRg.out hgB.out (Below.heap_below _ _) hG)
            have cP35 : w5.cell? ⟨gg, 35, none⟩ = some (.slice AP j cP) := (hpk.out.2.2.1.cell 35).trans hc_P
            have fP35 := hpk.out.2.2.1.frozen 35
            have b5 : Hid (Below w.heap.size w w5) := hG.below (s0.out.alloc s0.out.size _) (s0.out.alloc s0.out.size _).size (fun k e => by have := (hHdd.out.op.lt k e).1; have := hRg.out; have := hgB.out; omega)
            clear hG
            go_simp
            refine hK _ _ b5.out ?_
            clear hK K
            refine held_take (i := 24) (v := .pointer (some ⟨gg, 0, none⟩)) rfl (by kernel_rfl) (by kernel_rfl) (by kernel_rfl) (fun _ _ _ h => h) b5.out (by rfl) (fun w' hw' => by go_simp) ?_
            (intro K hK; go_simp; refine hK _ ?_; clear hK K)
            refine held_take (i := 25) (v := .pointer (some ⟨gg, 35, none⟩)) rfl (by kernel_rfl) (by kernel_rfl) (by kernel_rfl) (fun _ _ _ h => h) b5.out (by rfl) (fun w' hw' => by go_simp) ?_
            (intro K hK; go_simp; refine hK _ ?_; clear hK K)
            refine held_only (i := 26) rfl (by kernel_rfl) (by rfl) (fun K hK => ?_)
            go_simp
            refine hK _ _ (b5.out.setCell (by show w.heap.size ≤ gg; have := hRg.out; omega) _) ?_
            clear hK K
            refine held_end (by kernel_rfl) ?_
            have hRoF : Hid (Roo (w5.setCell ⟨gg, 35, none⟩ (.slice AP5 (j + 1) cP5)) B gs es) := hRo3.out.keep (fun g' cs h => hpk.out.2.1 g' _ cs (by decide) (by decide) h)
            have hRdF : Hid (Rod (w5.setCell ⟨gg, 35, none⟩ (.slice AP5 (j + 1) cP5)) B (hs ++ [h]) (ps.take (j + 1))) := hRd3.out.keep (fun g' cs h => hpk.out.2.1 g' _ cs (by decide) (by decide) h)
            have hHdF : Hid (Hd w (w5.setCell ⟨gg, 35, none⟩ (.slice AP5 (j + 1) cP5)) w.heap.size B gg (.slice AE i cE) (.slice AP5 (j + 1) cP5) (.slice AV i cV) (.slice AQ2 (j + 1) cQ2) i (j + 1) i (j + 1) (xsE gs es) ((psH (hs ++ [h]) (ps.take (j + 1))).flatMap Pr.cells) (xsV gs es) (xsQ (hs ++ [h]) (ps.take (j + 1)))) := by
              have hh := hpk.out.1
              show Hd _ _ _ _ _ _ _ _ _ _ _ _ _ _ _ _ _
              rw [ht1.out, psH_snoc hhl.out, xsQ_snoc hhl.out, flat_snoc, ← hpr.out]
              exact hh
            have hBF : Hid (B ≤ (w5.setCell ⟨gg, 35, none⟩ (.slice AP5 (j + 1) cP5)).heap.size) := Nat.le_trans hB3.out hpk.out.2.2.2.size
            have hinF : Hid (j + 1 ≤ m) := hlt'.out
            clear hpk cP35 fP35 c35 hs1 hs2 hs3 hnP hOP hHdd hHd3 hRo3 hRd3
            go_wp2_with fail
            go_roundw
            case rel => exact ⟨j + 1, cP5, cQ2, AP5, AQ2, hs ++ [h], by go_num, hinF.out, hHdF.out, hRoF.out, hRdF.out, hBF.out⟩
            case measure => (have := hinF.out; simp [intOf]; omega)
          · refine wp_buildAggs 25 31 1 _ rfl 3 (by decide) [pr.cells] Tryd.underlying25 sizeIn zeroIn rfl (by decide) (by decide) q1.out (by rw [hprc.out]; rfl) ?_
            rw [x1.out]
            refine hK _ _ (s0.out.alloc s0.out.size _) ?_
            clear hK K
            have c35b : (w3.alloc (.cells pr.cells.toArray 31)).cell? ⟨gg, 35, none⟩ = some (.slice AP j cP) := ((hHd3.out.bk.alloc _).cell 35).trans hc_P
            refine held_only (i := 2) rfl (by kernel_rfl) (by rfl) (fun K hK => ?_)
            go_simp
            refine hK _ _ (s0.out.alloc s0.out.size _) ?_
            clear hK K c35b
            have hnP : Hid (Reads (w3.drew.alloc (.cells pr.cells.toArray 31)) 3 (some ⟨w3.heap.size, 0, none⟩) 1 pr.cells) := Blk.reads (Blk.new w3.drew 31 pr.cells.toArray) 0 _ rfl (fun j u hu => by rw [Nat.zero_add, List.getElem?_toArray]; exact hu)
            have hOP : Hid ((w3.drew.alloc (.cells pr.cells.toArray 31)).ownsRow B 31 3 (.slice AP j cP) j ((psH hs (ps.take j)).flatMap Pr.cells)) := World.ownsRow.alloc (w := w3.drew) hHdd.out.op _
            have hs3 : Hid (B ≤ (w3.drew.alloc (.cells pr.cells.toArray 31)).heap.size) := by have := hB3.out; show _ ≤ _; simp; omega
            refine held_only (i := 23) rfl (by kernel_rfl) (by rfl) (fun K hK => ?_)
            refine wp_append_src _ (.tmp 62) (.tmp 82) 25 rfl B 31 n0 (.agg #[.int .i64 0, .int .i64 0, .slice none 0 0]) 3 40 Tryd.underlying25 hn0 nz0 nz1 nz2 rfl (by decide) (.slice AP j cP) j ((psH hs (ps.take j)).flatMap Pr.cells) rfl hOP.out (some ⟨w3.heap.size, 0, none⟩) 1 1 pr.cells rfl hnP.out (fun e => by cases e) hone.out hs1.out hs2.out hs3.out ?_
            intro v5 w5 hG
            obtain ⟨AP5, cP5, rfl, -⟩ := Append.Own.reads hG.own
            have hpk := Lib.hid (hHdd.out.pushP hRg.out hgB.out (Below.heap_below _ _) hG)
            have cP35 : w5.cell? ⟨gg, 35, none⟩ = some (.slice AP j cP) := (hpk.out.2.2.1.cell 35).trans hc_P
            have fP35 := hpk.out.2.2.1.frozen 35
            have b5 : Hid (Below w.heap.size w w5) := hG.below (s0.out.alloc s0.out.size _) (s0.out.alloc s0.out.size _).size (fun k e => by have := (hHdd.out.op.lt k e).1; have := hRg.out; have := hgB.out; omega)
            clear hG
            go_simp
            refine hK _ _ b5.out ?_
            clear hK K
            refine held_take (i := 24) (v := .pointer (some ⟨gg, 0, none⟩)) rfl (by kernel_rfl) (by kernel_rfl) (by kernel_rfl) (fun _ _ _ h => h) b5.out (by rfl) (fun w' hw' => by go_simp) ?_
            (intro K hK; go_simp; refine hK _ ?_; clear hK K)
            refine held_take (i := 25) (v := .pointer (some ⟨gg, 35, none⟩)) rfl (by kernel_rfl) (by kernel_rfl) (by kernel_rfl) (fun _ _ _ h => h) b5.out (by rfl) (fun w' hw' => by go_simp) ?_
            (intro K hK; go_simp; refine hK _ ?_; clear hK K)
            refine held_only (i := 26) rfl (by kernel_rfl) (by rfl) (fun K hK => ?_)
            go_simp
            refine hK _ _ (b5.out.setCell (by show w.heap.size ≤ gg; have := hRg.out; omega) _) ?_
            clear hK K
            refine held_end (by kernel_rfl) ?_
            have hRoF : Hid (Roo (w5.setCell ⟨gg, 35, none⟩ (.slice AP5 (j + 1) cP5)) B gs es) := hRo3.out.keep (fun g' cs h => hpk.out.2.1 g' _ cs (by decide) (by decide) h)
            have hRdF : Hid (Rod (w5.setCell ⟨gg, 35, none⟩ (.slice AP5 (j + 1) cP5)) B (hs ++ [h]) (ps.take (j + 1))) := hRd3.out.keep (fun g' cs h => hpk.out.2.1 g' _ cs (by decide) (by decide) h)
            have hHdF : Hid (Hd w (w5.setCell ⟨gg, 35, none⟩ (.slice AP5 (j + 1) cP5)) w.heap.size B gg (.slice AE i cE) (.slice AP5 (j + 1) cP5) (.slice AV i cV) (.slice AQ2 (j + 1) cQ2) i (j + 1) i (j + 1) (xsE gs es) ((psH (hs ++ [h]) (ps.take (j + 1))).flatMap Pr.cells) (xsV gs es) (xsQ (hs ++ [h]) (ps.take (j + 1)))) := by
              have hh := hpk.out.1
              show Hd _ _ _ _ _ _ _ _ _ _ _ _ _ _ _ _ _
              rw [ht1.out, psH_snoc hhl.out, xsQ_snoc hhl.out, flat_snoc, ← hpr.out]
              exact hh
            have hBF : Hid (B ≤ (w5.setCell ⟨gg, 35, none⟩ (.slice AP5 (j + 1) cP5)).heap.size) := Nat.le_trans hB3.out hpk.out.2.2.2.size
            have hinF : Hid (j + 1 ≤ m) := hlt'.out
            clear hpk cP35 fP35 c35 hs1 hs2 hs3 hnP hOP hHdd hHd3 hRo3 hRd3
            go_wp2_with fail
            go_roundw
            case rel => exact ⟨j + 1, cP5, cQ2, AP5, AQ2, hs ++ [h], by go_num, hinF.out, hHdF.out, hRoF.out, hRdF.out, hBF.out⟩
            case measure => (have := hinF.out; simp [intOf]; omega)
        · have hjn2 : j = m := by have := hjn.out; omega
          subst hjn2
          have y3 : ¬ ((j : Int) < (j : Int)) := by omega
          have ht : ps.take j = ps := List.take_of_length_le (by rw [hm.out]; exact Nat.le_refl _)
          rw [ht] at hHd hRd
          have hbk := Lib.hid hHd.out.bk
          have hrs := Lib.hid hHd.out.rs
          clear hlt ht
          go_wp2_with (first
            | ((with_reducible change wpList _ _ _ ({ dst := some 86, op := _, type := _, pos := _, after := _, guard := _ } :: _) _ _); refine wpList_load_row (o := ⟨some 86, _, _, _, _, _⟩) rfl 36 (.tmp 5) rfl (gg) rfl 36 ((hc (.slice AE i cE) (.slice AP j cP) (.slice AV i cV) (.slice AQ j cQ)).toArray) (0, 0) _ hbk.out Tryd.underlying36 rfl hc_info ?_)
            | ((with_reducible change wpList _ _ _ ({ dst := none, op := Op.store 36 _ _, type := _, pos := _, after := _, guard := _ } :: _) _ _); refine wpList_store_row (o := ⟨none, _, _, _, _, _⟩) rfl 36 (.tmp 4) (.tmp 86) rfl (w.heap.size) ((hc (.slice AE i cE) (.slice AP j cP) (.slice AV i cV) (.slice AQ j cQ)).toArray) rfl rfl 36 (zG) hrs.out hc_info rfl (hc_one rfl rfl rfl rfl) ?_))
          refine bodyPost_ret (results_cell_row rfl _ _ w.heap.size 36 (hc (.slice AE i cE) (.slice AP j cP) (.slice AV i cV) (.slice AQ j cQ)).toArray (0, 0) _ rfl (setRow_heap _ _ _ _ _ _ hrs.out) Tryd.underlying36 rfl hc_info) rfl ?_
          have hK : Kept (· = w.heap.size) wr (wr.setRow w.heap.size (hc (.slice AE i cE) (.slice AP j cP) (.slice AV i cV) (.slice AQ j cQ)).toArray) := Bytes.Kept.setRow (S := (· = w.heap.size)) (Kept.refl _ _) rfl _
          have hRB : w.heap.size < B := Nat.lt_trans hRg.out hgB.out
          refine ⟨B, .slice AE i cE, .slice AP j cP, .slice AV i cV, .slice AQ j cQ, by rfl, gs, hs, ?_⟩
          exact ⟨own_keep hHd.out.oe hK (fun k e s => by have := (hHd.out.oe.lt k e).1; have s : k = w.heap.size := s; omega), own_keep hHd.out.op hK (fun k e s => by have := (hHd.out.op.lt k e).1; have s : k = w.heap.size := s; omega), own_keep hHd.out.ov hK (fun k e s => by have := (hHd.out.ov.lt k e).1; have s : k = w.heap.size := s; omega), own_keep hHd.out.oq hK (fun k e s => by have := (hHd.out.oq.lt k e).1; have s : k = w.heap.size := s; omega), keepR hRo.out hK hRB, keepD hRd.out hK hRB, below_setRow hHd.out.be (Nat.le_refl _) _, Nat.le_of_lt hRB⟩
end Go.Proofs.YthkdlaohaekilaaDoor.Hand

namespace Go.Proofs.YthkdlaohaekilaaDoor.CutW
open Go Go.RowKit Go.Proofs.YthkdlaohaekilaaDoor Go.Proofs.YthkdlaohaekilaaDoor.HeadMem Go.Proofs.YthkdlaohaekilaaDoor.Mem Go.Proofs.YthkdlaohaekilaaDoor.Sha Go.Proofs.YthkdlaohaekilaaDoor.Bytes Go.Proofs.YthkdlaohaekilaaDoor.Append Go.Proofs.YthkdlaohaekilaaDoor.TreeMem Go.Proofs.YthkdlaohaekilaaDoor.Held Go.Proofs.YthkdlaohaekilaaDoor.Own Go.Proofs.YthkdlaohaekilaaDoor.QuietTail Go.Proofs.YthkdlaohaekilaaDoor.Grown Go.Proofs.YthkdlaohaekilaaDoor.Book Go.Proofs.YthkdlaohaekilaaDoor.Prs Go.Proofs.YthkdlaohaekilaaDoor.Reach2 Go.Proofs.YthkdlaohaekilaaDoor.PieceLay Go.Proofs.YthkdlaohaekilaaDoor.PieceMem Go.Proofs.YthkdlaohaekilaaDoor.PieceMem2 Go.Proofs.YthkdlaohaekilaaDoor.SamePiece Go.Proofs.YthkdlaohaekilaaDoor.Pcs Go.Proofs.YthkdlaohaekilaaDoor.CutM
theorem infoU8 : (Tryd.prog.info? 5).map (fun i => (i.zero, i.size, i.bytes)) = some (some (.int .u8 0), 1, 1) := by kernel_rfl
theorem reads_cells {w : World} {A : Option Addr} {n : Nat} {xs : List Value} (h : Reads w 32 A n xs) : ∀ ad, A = some ad → ∀ j u, xs[j]? = some u → w.cell? (ad.add j) = some u := fun ad e j u hu => by
  have hj := (List.getElem?_eq_some_iff.1 hu).1
  obtain ⟨b, o, e2, -, hc⟩ := h.2 (by rw [← h.1]; omega)
  rw [e] at e2
  obtain rfl := Option.some.inj e2
  rw [add_at]
  exact hc j u hu
theorem digs_one (ds : List Text) : ∀ v ∈ ds.flatMap cells8, v.oneCell' = true := fun v hv => by
  obtain ⟨d, _, hd⟩ := List.mem_flatMap.1 hv
  exact PieceMem.cells8_one v hd
set_option maxRecDepth 100000 in
set_option maxHeartbeats 8000000 in
theorem cut_any (es : List Text) (n : Nat) (hn : es.length = n) (hn6 : n ≤ 1000000) (hsh : ∀ e ∈ es, e.length < 140737488355328) (ps : List Pr) (hm : ps.length = n) (hsum : sumN ps ≤ 1000000) (hnil : ∀ p ∈ ps, p.A = none → p.n = 0 ∧ p.c = 0) (A A2 : Option Addr) (c c2 : Nat) (w : World) (hp : Pieces w A es) (hq : Prs w A2 ps) :
    Calls Tryd.prog 53 #[.slice A n c, .slice A2 n c2] w fun e w' => ∃ p : Pc, e = .returned (.agg p.cells.toArray) ∧ p.s = ByteArray.empty ∧ p.F = 0 ∧ p.b = List.replicate 32 0 ∧ p.es = es ∧ SamePiece.Alike p.ps ps ∧ p.n = n ∧ p.m = n ∧ Firm w' w.heap.size p ∧ Below w.heap.size w w' := by
  obtain ⟨j0, hj, jz0, jz1, jz2⟩ := info_partsN Hand.infoTx
  obtain ⟨d0, hd, dz0, dz1, dz2⟩ := info_partsN info32
  obtain ⟨n0, hn0, nz0, nz1, nz2⟩ := info_partsN Hand.infoIn
  obtain ⟨u0, hu0, uz0, uz1, uz2⟩ := info_partsN infoU8
  have hCk2 : Hid (Ck w ((w.alloc (.cells zP 33)).alloc (.cells zP 33)) w.heap.size (w.heap.size + 2) (w.heap.size + 1) (.slice none 0 0) (.slice none 0 0) (.slice none 0 0) 0 0 0 [] [] [] []) := by
    have h2 : Blk ((w.alloc (.cells zP 33)).alloc (.cells zP 33)) (w.heap.size + 1) 33 zP := by
      have := Blk.new (w.alloc (.cells zP 33)) 33 zP
      rwa [show (w.alloc (.cells zP 33)).heap.size = w.heap.size + 1 by simp] at this
    exact ⟨h2, (Blk.new w _ _).alloc _, World.ownsRow_nil _ _ _ _, World.ownsRow_nil _ _ _ _, World.ownsRow_nil _ _ _ _, Tov.nil_ _ _, (Below.heap_below w _).alloc (by simp) _⟩
  have hdd : Hid (∀ p ∈ ps, Digs p.ds ∧ p.ds.length = p.n) := fun p hp => ⟨(hq.2 p hp).1.2.1, (hq.2 p hp).1.1⟩
  replace hn := Lib.hid hn
  replace hm := Lib.hid hm
  replace hn6 := Lib.hid hn6
  replace hp := Lib.hid hp
  replace hq := Lib.hid hq
  replace hsh := Lib.hid hsh
  replace hnil := Lib.hid hnil
  obtain ⟨T, hT⟩ : ∃ x, Hid (sumN ps = x) := ⟨_, Lib.hid rfl⟩
  have hT6 : Hid (T ≤ 1000000) := by have := hT.out; show _ ≤ _; omega
  have htk : Hid (∀ j, sumN (ps.take j) ≤ T) := fun j => by have := sumN_take ps j; have := hT.out; omega
  clear hsum
  go_enter Tryd.func53, Tryd.ntmps53
  go_wp2_with fail
  obtain ⟨gp, hgp⟩ : ∃ x, Hid (w.heap.size + 1 = x) := ⟨_, Lib.hid rfl⟩
  obtain ⟨B, hBe⟩ : ∃ x, Hid (gp + 1 = x) := ⟨_, Lib.hid rfl⟩
  have hB2 : w.heap.size + 2 = B := by have := hgp.out; have := hBe.out; omega
  rw [hgp.out, hB2] at hCk2
  rw [hgp.out]
  clear hB2
  have hRg : Hid (w.heap.size < gp) := by have := hgp.out; show _ < _; omega
  have hgB : Hid (gp < B) := by have := hBe.out; show _ < _; omega
  go_loopw [15, 6] (fun v15 v6 wr => ∃ (j S : Nat), v15 = .int .i64 (j : Int) ∧ v6 = .int .i64 (S : Int) ∧ Hid (sumN (ps.take j) = S) ∧ Hid (j ≤ n) ∧ Hid (Ck w wr w.heap.size B gp (.slice none 0 0) (.slice none 0 0) (.slice none 0 0) 0 0 0 [] [] [] [])) (fun v _ _ => n - (intOf v).toNat)
  case atStart => exact ⟨0, 0, rfl, rfl, rfl, Nat.zero_le _, hCk2.out⟩
  case round =>
    clear hCk2
    obtain ⟨j, S, rfl, rfl, hS, hjn, hCk⟩ := hrel
    have hj6 : (j : Int) ≤ 1000000 := by have := hjn.out; have := hn6.out; omega
    have hS6 : (S : Int) ≤ 1000000 := by have := htk.out j; have := hS.out; have := hT6.out; omega
    by_cases hlt : j < n
    · have y3 : ((j : Int) < (n : Int)) := by omega
      have hz0 : (0 : Int) ≤ (j : Int) := by omega
      obtain ⟨x, hxi⟩ : ∃ x, Hid (ps[j]? = some x) := ⟨_, List.getElem?_eq_getElem (by rw [hm.out]; exact hlt)⟩
      obtain ⟨bP, oP, rfl, hbP, hcx⟩ := hq.out.at_ hxi.out
      obtain ⟨xn, hxn⟩ : ∃ y, Hid (x.n = y) := ⟨_, Lib.hid rfl⟩
      have hfx : Hid (∀ f u, [Value.int .i64 x.x, .int .i64 x.y, .slice x.A xn x.c][f]? = some u → wr.cell? ⟨bP, oP + j * 3 + f, none⟩ = some u) := fun f u hu => (hCk.out.be.cell (p := ⟨bP, oP + j * 3 + f, none⟩) hbP).trans (by rw [show oP + j * 3 + f = oP + (3 * j + f) by omega]; rw [← hxn.out] at hu; exact hcx f u hu)
      have hlt' : Hid (j < n) := hlt
      have ht1 : Hid (sumN (ps.take (j + 1)) = S + xn) := by show _ = _; rw [List.take_add_one, hxi.out, ← hS.out, ← hxn.out]; exact sumN_snoc _ _
      have hxn6 : (xn : Int) ≤ 1000000 := by have := htk.out (j + 1); have := ht1.out; have := hT6.out; omega
      clear hcx hbP hlt
      go_wp2_with ((with_reducible change wpList _ _ _ ({ dst := some 18, op := _, type := _, pos := _, after := _, guard := _ } :: _) _ _); refine wpList_load_part (o := ⟨some 18, _, _, _, _, _⟩) rfl 31 (.tmp 17) rfl (bP) (oP + j * 3) rfl ([Value.int .i64 x.x, .int .i64 x.y, .slice x.A xn x.c]) _ hfx.out Tryd.underlying31 rfl size3 ?_)
      go_roundw
      case rel => exact ⟨j + 1, S + xn, by go_num, by go_num, ht1.out, hlt'.out, hCk.out.below (Below.heap_below _ _)⟩
      case measure => (have := hlt'.out; simp [intOf]; omega)
    · have hjn2 : j = n := by have := hjn.out; omega
      subst hjn2
      have y3 : ¬ ((j : Int) < (j : Int)) := by omega
      have hST : Hid (S = T) := by have h := hS.out; rw [List.take_of_length_le (by rw [hm.out]; exact Nat.le_refl _), hT.out] at h; exact h.symm
      obtain rfl := hST.out
      obtain ⟨wA, rfl⟩ : ∃ wA, wA = wr := ⟨_, rfl⟩
      have b2 : Hid (d0.bytes * S ≤ 281474976710656) := by show _ ≤ _; rw [dz2]; omega
      have b3 : Hid (S ≤ maxLen) := by show _ ≤ _; unfold maxLen; omega
      have b4 : Hid (B ≤ wA.heap.size) := by have := hCk.out.bk.lt; have := hBe.out; show _ ≤ _; omega
      clear hlt hS hjn hST
      go_wp2_with (at_make; refine wpList_make_own _ rfl (.const (.int .i64 0)) (.tmp 25) 29 rfl B 23 d0 (.agg Z32) 32 Tryd.underlying29 hd dz0 dz1 .i64 .i64 (S : Int) S rfl rfl rfl b2.out b3.out b4.out ?_; intro w1 hown hgr; have hbl : Below wA.heap.size wA w1 := (Below.refl _ _).grown hgr (Nat.le_refl _) (fun _ e => by cases e); have hCk1 : Hid (Ck w w1 w.heap.size B gp (.slice none 0 0) (.slice none 0 0) (.slice (some ⟨wA.heap.size, 0, none⟩) 0 S) 0 0 0 [] [] [] []) := (by have h := hCk.out.below hbl; exact ⟨h.bk, h.rs, h.oe, h.op, hown, h.tx, h.be⟩); clear hbl hown hgr hCk; generalize wA.heap.size = gw at *)
      clear b2 b3 b4 y3
      go_loopw [29, 9] (fun v29 v9 wr => ∃ (i s cE cP : Nat) (AE AP : Option Addr) (xs : List Value), v29 = .int .i64 (i : Int) ∧ v9 = .slice (some ⟨gw, 0, none⟩) s S ∧ Hid (sumN (ps.take i) = s) ∧ Hid (i ≤ j) ∧ Hid (Ck w wr w.heap.size B gp (.slice AE i cE) (.slice AP i cP) (.slice (some ⟨gw, 0, none⟩) s S) i i s xs (es.take i) ((cutPs (some ⟨gw, 0, none⟩) 0 (ps.take i)).flatMap Pr.cells) ((ps.take i).flatMap Pr.ds))) (fun v _ _ => j - (intOf v).toNat)
      case atStart => exact ⟨0, 0, 0, 0, none, none, [], rfl, rfl, rfl, Nat.zero_le _, hCk1.out⟩
      case round =>
        clear hCk1
        obtain ⟨i, s, cE, cP, AE, AP, xs, rfl, rfl, hs, hin, hCk⟩ := hrel
        have hi6 : (i : Int) ≤ 1000000 := by have := hin.out; have := hn6.out; omega
        by_cases hlt : i < j
        · have y3 : ((i : Int) < (j : Int)) := by omega
          have hz0 : (0 : Int) ≤ (i : Int) := by omega
          obtain ⟨q, hqi⟩ : ∃ q, Hid (es[i]? = some q) := ⟨_, List.getElem?_eq_getElem (by rw [hn.out]; exact hlt)⟩
          obtain ⟨bA, oA, rfl, hbA, hcs⟩ := hp.out (by have := hn.out; omega)
          obtain ⟨Ae, ce, hc1, hc2, hc3, hc4⟩ := hcs i q hqi.out
          obtain ⟨k, hk⟩ : ∃ k, Hid (q.length = k) := ⟨_, Lib.hid rfl⟩
          have hk47 : Hid (k < 140737488355328) := by have := hsh.out q (List.mem_of_getElem? hqi.out); have := hk.out; show _ < _; omega
          have cev : wr.cell? ⟨bA, oA + i, none⟩ = some (.slice Ae k ce) := (hCk.out.be.cell (p := ⟨bA, oA + i, none⟩) hbA).trans (by rw [← hk.out]; exact hc1)
          have hrd : Hid (∀ w', Below w.heap.size w w' → Reads w' 1 Ae k (cells8 q)) := fun w' hb => by rw [← hk.out]; exact hc3.below hb
          have hne : Hid (Ae = none → k = 0 ∧ ce = 0) := fun e => by rw [← hk.out]; exact hc4 e
          obtain ⟨x, hxi⟩ : ∃ x, Hid (ps[i]? = some x) := ⟨_, List.getElem?_eq_getElem (by rw [hm.out]; exact hlt)⟩
          obtain ⟨bP, oP, rfl, hbP, hcx⟩ := hq.out.at_ hxi.out
          obtain ⟨xn, hxn⟩ : ∃ y, Hid (x.n = y) := ⟨_, Lib.hid rfl⟩
          obtain ⟨xA, hxA⟩ : ∃ y, Hid (x.A = y) := ⟨_, Lib.hid rfl⟩
          obtain ⟨xc, hxc⟩ : ∃ y, Hid (x.c = y) := ⟨_, Lib.hid rfl⟩
          have hfx : Hid (∀ w', Below w.heap.size w w' → ∀ f u, [Value.int .i64 x.x, .int .i64 x.y, .slice xA xn xc][f]? = some u → w'.cell? ⟨bP, oP + i * 3 + f, none⟩ = some u) := fun w' hb f u hu => (hb.cell (p := ⟨bP, oP + i * 3 + f, none⟩) hbP).trans (by rw [show oP + i * 3 + f = oP + (3 * i + f) by omega]; rw [← hxn.out, ← hxA.out, ← hxc.out] at hu; exact hcx f u hu)
          have cw2 : wr.cell? ⟨bP, oP + i * 3 + 2, none⟩ = some (.slice xA xn xc) := hfx.out wr hCk.out.be 2 _ rfl
          have hxr : Hid (RdD wr xA xn x.ds) := by
            have h := ((hq.out.2 x (List.mem_of_getElem? hxi.out)).1).below hCk.out.be
            rw [hxn.out, hxA.out] at h
            exact h
          have hxl : Hid (xA = none → xn = 0 ∧ xc = 0) := fun e => by
            have := hnil.out x (List.mem_of_getElem? hxi.out)
            rw [hxn.out, hxA.out, hxc.out] at this
            exact this e
          have hlt' : Hid (i < j) := hlt
          have ht1 : Hid (sumN (ps.take (i + 1)) = s + xn) := by show _ = _; rw [List.take_add_one, hxi.out, ← hs.out, ← hxn.out]; exact sumN_snoc _ _
          have hte : Hid (es.take (i + 1) = es.take i ++ [q]) := by show _ = _; rw [List.take_add_one, hqi.out]; rfl
          have htp : Hid (ps.take (i + 1) = ps.take i ++ [x]) := by show _ = _; rw [List.take_add_one, hxi.out]; rfl
          have hsS : Hid (s + xn ≤ S) := by have := htk.out (i + 1); have := ht1.out; show _ ≤ _; omega
          have hs6 : (s : Int) ≤ 1000000 := by have := hsS.out; have := hT6.out; omega
          have how : Hid (wr.ownsRow B 23 32 (.slice (some ⟨gw, 0, none⟩) s S) s (((ps.take i).flatMap Pr.ds).flatMap cells8)) := hCk.out.ow
          clear hcs hc1 hc2 hc3 hc4 hbA hcx hbP hlt
          go_upto_region 14 with ((with_reducible change wpList _ _ _ ({ dst := some 42, op := _, type := _, pos := _, after := _, guard := _ } :: _) _ _); refine wpList_append_fits_any _ (o := ⟨some 42, _, _, _, _, _⟩) rfl (.tmp 36) (.tmp 41) 29 rfl B 23 d0 32 Tryd.underlying29 hd dz1 gw s S (((ps.take i).flatMap Pr.ds).flatMap cells8) rfl how.out xA xn xc (x.ds.flatMap cells8) rfl hxr.out.2.2.1 hxl.out (reads_cells hxr.out.2.2) (digs_one _) hsS.out ?_; intro w3 hown hgr; have hCk3 : Hid (Ck w w3 w.heap.size B gp (.slice AE i cE) (.slice AP i cP) (.slice (some ⟨gw, 0, none⟩) (s + xn) S) i i (s + xn) xs (es.take i) ((cutPs (some ⟨gw, 0, none⟩) 0 (ps.take i)).flatMap Pr.cells) ((ps.take (i + 1)).flatMap Pr.ds)) := hCk.out.pushW rfl (Nat.lt_trans hRg.out hgB.out) (by rw [htp.out, List.flatMap_append, List.flatMap_singleton, List.flatMap_append]; exact hown) hgr; clear hown hgr)
          obtain ⟨s', hs'⟩ : ∃ y, Hid (s + xn = y) := ⟨_, Lib.hid rfl⟩
          rw [hs'.out] at hCk3 ht1 hsS
          rw [hs'.out]
          clear hCk how hxr hxl cev cw2
          have c34 : w3.cell? ⟨gp, 34, none⟩ = some (.slice AE i cE) := (hCk3.out.bk.cell 34).trans (by rw [List.getElem?_toArray]; exact pc_events rfl)
          have s0 : Hid (Below w.heap.size w w3.drew) := hCk3.out.be.drew
          have hB3 : Hid (B ≤ w3.heap.size) := by have := hCk3.out.bk.lt; have := hBe.out; show _ ≤ _; omega
          have hk1 : Hid (0 + k ≤ maxLen) := by have := hk47.out; show _ ≤ _; unfold maxLen; omega
          have hk2 : Hid ((0 + k) * 1 ≤ 140737488355328) := by have := hk47.out; show _ ≤ _; omega
          have hs1 : Hid (i + 1 ≤ maxLen) := by show _ ≤ _; unfold maxLen; omega
          have hs2 : Hid ((i + 1) * 24 ≤ 140737488355328) := by show _ ≤ _; omega
          go_cut [12] from 43 to 49 (fun v wr' => ∃ (cE' : Nat) (AE' : Option Addr) (vv : Value), v = .int .i64 (s : Int) ∧ Hid (Ck w wr' w.heap.size B gp (.slice AE' (i + 1) cE') (.slice AP i cP) (.slice (some ⟨gw, 0, none⟩) s' S) (i + 1) i s' (xs ++ [vv]) (es.take (i + 1)) ((cutPs (some ⟨gw, 0, none⟩) 0 (ps.take i)).flatMap Pr.cells) ((ps.take (i + 1)).flatMap Pr.ds)))
          case first =>
            refine held_start (fun w' => Below w.heap.size w w') 8 rfl (by kernel_rfl) ?_
            refine held_take (i := 0) (v := .pointer (some ⟨gp, 34, none⟩)) rfl (by kernel_rfl) (by kernel_rfl) (by kernel_rfl) (fun _ _ _ h => h) s0.out (by rfl) (fun w' hw' => by go_simp) ?_
            (intro K hK; go_simp; refine hK _ ?_; clear hK K)
            refine held_take (i := 2) (v := .slice Ae k ce) rfl (by kernel_rfl) (by kernel_rfl) (by kernel_rfl) (fun _ _ _ h => h) s0.out (by rfl) (fun w' hw' => run_mv (.tmp 11) rfl w') ?_
            (intro K hK; go_simp; refine hK _ ?_; clear hK K)
            refine held_two (i := 1) (j := 3) rfl rfl (by kernel_rfl) (by rfl) (by rfl) (fun K hK => ?_) (fun K hK => ?_)
            · go_simp
              refine hK _ _ s0.out ?_
              clear hK K
              refine held_only (i := 3) rfl (by kernel_rfl) (by rfl) (fun K hK => ?_)
              refine wp_append_src _ (.const (.slice none 0 0)) (.tmp 45) 27 rfl B 5 u0 (.int .u8 0) 1 1 Tryd.underlying27 hu0 uz0 uz1 uz2 rfl (by decide) (.slice none 0 0) 0 [] rfl (World.ownsRow_nil _ _ _ _) Ae k ce (cells8 q) rfl (hrd.out _ s0.out) hne.out (fun v hv => PieceMem.cells8_one v hv) hk1.out hk2.out hB3.out ?_
              intro v5 w5 hG5
              have hO5 : Hid (w5.ownsRow B 5 1 v5 k (cells8 q)) := by have h := hG5.own; rw [Nat.zero_add, List.nil_append] at h; exact h
              obtain ⟨Av, cv, rfl, -⟩ := Append.Own.reads hO5.out
              have b5 : Hid (Below w3.heap.size w3 w5) := hG5.below ((Below.refl _ _).drew) (Nat.le_refl _) (fun k e => by cases e)
              have hCk5 := Lib.hid (hCk3.out.below b5.out)
              have s5 := Lib.hid hCk5.out.be
              clear hG5
              go_simp
              refine hK _ _ s5.out ?_
              clear hK K
              refine held_only (i := 4) rfl (by kernel_rfl) (by rfl) (fun K hK => ?_)
              go_simp
              refine hK _ _ (s5.out.alloc s5.out.size _) ?_
              clear hK K
              have hCk6 := Lib.hid (hCk5.out.below (Below.heap_below _ (.cells #[.slice Av k cv] 27)))
              have hnE : Hid (Reads (w5.alloc (.cells #[.slice Av k cv] 27)) 1 (some ⟨w5.heap.size, 0, none⟩) 1 [.slice Av k cv]) := Blk.reads (Blk.new w5 27 #[.slice Av k cv]) 0 _ rfl (fun j u hu => by rw [Nat.zero_add]; simpa using hu)
              have hOE := Lib.hid hCk6.out.oe
              have hs3 : Hid (B ≤ (w5.alloc (.cells #[.slice Av k cv] 27)).heap.size) := by have := hCk6.out.bk.lt; have := hBe.out; show _ ≤ _; omega
              refine held_only (i := 5) rfl (by kernel_rfl) (by rfl) (fun K hK => ?_)
              refine wp_append_src _ (.tmp 44) (.tmp 47) 24 rfl B 27 j0 (.slice none 0 0) 1 24 Tryd.underlying24 hj jz0 jz1 jz2 rfl (by decide) (.slice AE i cE) i xs rfl hOE.out (some ⟨w5.heap.size, 0, none⟩) 1 1 [.slice Av k cv] rfl hnE.out (fun e => by cases e) (by intro v hv; simp only [List.mem_singleton] at hv; rw [hv]; rfl) hs1.out hs2.out hs3.out ?_
              intro v7 w7 hG
              obtain ⟨AE7, cE7, rfl, -⟩ := Append.Own.reads hG.own
              have hpk := Lib.hid (hCk3.out.pushE hRg.out hgB.out hk.out (b5.out.trans ((Below.heap_below w5 (.cells #[.slice Av k cv] 27)).mono b5.out.size)) (World.ownsRow.alloc (w := w5) hO5.out _) hG)
              have cE34 : w7.cell? ⟨gp, 34, none⟩ = some (.slice AE i cE) := (hpk.out.2.cell 34).trans (by rw [List.getElem?_toArray]; exact pc_events rfl)
              have fE34 := hpk.out.2.frozen 34
              have b7 : Hid (Below w.heap.size w w7) := hG.below hCk6.out.be hCk6.out.be.size (fun k e => by have := (hCk6.out.oe.lt k e).1; have := hRg.out; have := hgB.out; omega)
              clear hG
              go_simp
              refine hK _ _ b7.out ?_
              clear hK K
              refine held_take (i := 6) (v := .pointer (some ⟨gp, 34, none⟩)) rfl (by kernel_rfl) (by kernel_rfl) (by kernel_rfl) (fun _ _ _ h => h) b7.out (by rfl) (fun w' hw' => by go_simp) ?_
              (intro K hK; go_simp; refine hK _ ?_; clear hK K)
              refine held_only (i := 7) rfl (by kernel_rfl) (by rfl) (fun K hK => ?_)
              go_simp
              refine hK _ _ (b7.out.setCell (by show w.heap.size ≤ gp; have := hRg.out; omega) _) ?_
              clear hK K
              refine held_end (by kernel_rfl) ?_
              go_wp2_with fail
              go_meet
              case rel => exact ⟨cE7, AE7, _, rfl, by show Ck _ _ _ _ _ _ _ _ _ _ _ _ _ _ _; rw [hte.out]; exact hpk.out.1⟩
            · refine wp_append_src _ (.const (.slice none 0 0)) (.tmp 45) 27 rfl B 5 u0 (.int .u8 0) 1 1 Tryd.underlying27 hu0 uz0 uz1 uz2 rfl (by decide) (.slice none 0 0) 0 [] rfl (World.ownsRow_nil _ _ _ _) Ae k ce (cells8 q) rfl (hrd.out _ s0.out) hne.out (fun v hv => PieceMem.cells8_one v hv) hk1.out hk2.out hB3.out ?_
              intro v5 w5 hG5
              have hO5 : Hid (w5.ownsRow B 5 1 v5 k (cells8 q)) := by have h := hG5.own; rw [Nat.zero_add, List.nil_append] at h; exact h
              obtain ⟨Av, cv, rfl, -⟩ := Append.Own.reads hO5.out
              have b5 : Hid (Below w3.heap.size w3 w5) := hG5.below ((Below.refl _ _).drew) (Nat.le_refl _) (fun k e => by cases e)
              have hCk5 := Lib.hid (hCk3.out.below b5.out)
              have s5 := Lib.hid hCk5.out.be
              clear hG5
              go_simp
              refine hK _ _ s5.out ?_
              clear hK K
              refine held_two (i := 1) (j := 4) rfl rfl (by kernel_rfl) (by rfl) (by rfl) (fun K hK => ?_) (fun K hK => ?_)
              · have c34b : w5.cell? ⟨gp, 34, none⟩ = some (.slice AE i cE) := (hCk5.out.bk.cell 34).trans (by rw [List.getElem?_toArray]; exact pc_events rfl)
                go_simp
                refine hK _ _ s5.out ?_
                clear hK K
                clear c34b
                refine held_only (i := 4) rfl (by kernel_rfl) (by rfl) (fun K hK => ?_)
                go_simp
                refine hK _ _ (s5.out.alloc s5.out.size _) ?_
                clear hK K
                have hCk6 := Lib.hid (hCk5.out.below (Below.heap_below _ (.cells #[.slice Av k cv] 27)))
                have hnE : Hid (Reads (w5.alloc (.cells #[.slice Av k cv] 27)) 1 (some ⟨w5.heap.size, 0, none⟩) 1 [.slice Av k cv]) := Blk.reads (Blk.new w5 27 #[.slice Av k cv]) 0 _ rfl (fun j u hu => by rw [Nat.zero_add]; simpa using hu)
                have hOE := Lib.hid hCk6.out.oe
                have hs3 : Hid (B ≤ (w5.alloc (.cells #[.slice Av k cv] 27)).heap.size) := by have := hCk6.out.bk.lt; have := hBe.out; show _ ≤ _; omega
                refine held_only (i := 5) rfl (by kernel_rfl) (by rfl) (fun K hK => ?_)
                refine wp_append_src _ (.tmp 44) (.tmp 47) 24 rfl B 27 j0 (.slice none 0 0) 1 24 Tryd.underlying24 hj jz0 jz1 jz2 rfl (by decide) (.slice AE i cE) i xs rfl hOE.out (some ⟨w5.heap.size, 0, none⟩) 1 1 [.slice Av k cv] rfl hnE.out (fun e => by cases e) (by intro v hv; simp only [List.mem_singleton] at hv; rw [hv]; rfl) hs1.out hs2.out hs3.out ?_
                intro v7 w7 hG
                obtain ⟨AE7, cE7, rfl, -⟩ := Append.Own.reads hG.own
                have hpk := Lib.hid (hCk3.out.pushE hRg.out hgB.out hk.out (b5.out.trans ((Below.heap_below w5 (.cells #[.slice Av k cv] 27)).mono b5.out.size)) (World.ownsRow.alloc (w := w5) hO5.out _) hG)
                have cE34 : w7.cell? ⟨gp, 34, none⟩ = some (.slice AE i cE) := (hpk.out.2.cell 34).trans (by rw [List.getElem?_toArray]; exact pc_events rfl)
                have fE34 := hpk.out.2.frozen 34
                have b7 : Hid (Below w.heap.size w w7) := hG.below hCk6.out.be hCk6.out.be.size (fun k e => by have := (hCk6.out.oe.lt k e).1; have := hRg.out; have := hgB.out; omega)
                clear hG
                go_simp
                refine hK _ _ b7.out ?_
                clear hK K
                refine held_take (i := 6) (v := .pointer (some ⟨gp, 34, none⟩)) rfl (by kernel_rfl) (by kernel_rfl) (by kernel_rfl) (fun _ _ _ h => h) b7.out (by rfl) (fun w' hw' => by go_simp) ?_
                (intro K hK; go_simp; refine hK _ ?_; clear hK K)
                refine held_only (i := 7) rfl (by kernel_rfl) (by rfl) (fun K hK => ?_)
                go_simp
                refine hK _ _ (b7.out.setCell (by show w.heap.size ≤ gp; have := hRg.out; omega) _) ?_
                clear hK K
                refine held_end (by kernel_rfl) ?_
                go_wp2_with fail
                go_meet
                case rel => exact ⟨cE7, AE7, _, rfl, by show Ck _ _ _ _ _ _ _ _ _ _ _ _ _ _ _; rw [hte.out]; exact hpk.out.1⟩
              · go_simp
                refine hK _ _ (s5.out.alloc s5.out.size _) ?_
                clear hK K
                have c34c : (w5.alloc (.cells #[.slice Av k cv] 27)).cell? ⟨gp, 34, none⟩ = some (.slice AE i cE) := ((hCk5.out.below (Below.heap_below _ (.cells #[.slice Av k cv] 27))).bk.cell 34).trans (by rw [List.getElem?_toArray]; exact pc_events rfl)
                refine held_only (i := 1) rfl (by kernel_rfl) (by rfl) (fun K hK => ?_)
                go_simp
                refine hK _ _ (s5.out.alloc s5.out.size _) ?_
                clear hK K
                clear c34c
                have hCk6 := Lib.hid (hCk5.out.below (Below.heap_below _ (.cells #[.slice Av k cv] 27)))
                have hnE : Hid (Reads (w5.alloc (.cells #[.slice Av k cv] 27)) 1 (some ⟨w5.heap.size, 0, none⟩) 1 [.slice Av k cv]) := Blk.reads (Blk.new w5 27 #[.slice Av k cv]) 0 _ rfl (fun j u hu => by rw [Nat.zero_add]; simpa using hu)
                have hOE := Lib.hid hCk6.out.oe
                have hs3 : Hid (B ≤ (w5.alloc (.cells #[.slice Av k cv] 27)).heap.size) := by have := hCk6.out.bk.lt; have := hBe.out; show _ ≤ _; omega
                refine held_only (i := 5) rfl (by kernel_rfl) (by rfl) (fun K hK => ?_)
                refine wp_append_src _ (.tmp 44) (.tmp 47) 24 rfl B 27 j0 (.slice none 0 0) 1 24 Tryd.underlying24 hj jz0 jz1 jz2 rfl (by decide) (.slice AE i cE) i xs rfl hOE.out (some ⟨w5.heap.size, 0, none⟩) 1 1 [.slice Av k cv] rfl hnE.out (fun e => by cases e) (by intro v hv; simp only [List.mem_singleton] at hv; rw [hv]; rfl) hs1.out hs2.out hs3.out ?_
                intro v7 w7 hG
                obtain ⟨AE7, cE7, rfl, -⟩ := Append.Own.reads hG.own
                have hpk := Lib.hid (hCk3.out.pushE hRg.out hgB.out hk.out (b5.out.trans ((Below.heap_below w5 (.cells #[.slice Av k cv] 27)).mono b5.out.size)) (World.ownsRow.alloc (w := w5) hO5.out _) hG)
                have cE34 : w7.cell? ⟨gp, 34, none⟩ = some (.slice AE i cE) := (hpk.out.2.cell 34).trans (by rw [List.getElem?_toArray]; exact pc_events rfl)
                have fE34 := hpk.out.2.frozen 34
                have b7 : Hid (Below w.heap.size w w7) := hG.below hCk6.out.be hCk6.out.be.size (fun k e => by have := (hCk6.out.oe.lt k e).1; have := hRg.out; have := hgB.out; omega)
                clear hG
                go_simp
                refine hK _ _ b7.out ?_
                clear hK K
                refine held_take (i := 6) (v := .pointer (some ⟨gp, 34, none⟩)) rfl (by kernel_rfl) (by kernel_rfl) (by kernel_rfl) (fun _ _ _ h => h) b7.out (by rfl) (fun w' hw' => by go_simp) ?_
                (intro K hK; go_simp; refine hK _ ?_; clear hK K)
                refine held_only (i := 7) rfl (by kernel_rfl) (by rfl) (fun K hK => ?_)
                go_simp
                refine hK _ _ (b7.out.setCell (by show w.heap.size ≤ gp; have := hRg.out; omega) _) ?_
                clear hK K
                refine held_end (by kernel_rfl) ?_
                go_wp2_with fail
                go_meet
                case rel => exact ⟨cE7, AE7, _, rfl, by show Ck _ _ _ _ _ _ _ _ _ _ _ _ _ _ _; rw [hte.out]; exact hpk.out.1⟩
          case rest =>
            obtain ⟨cE', AE', vv, rfl, hCk4⟩ := hcut
            obtain ⟨w4, rfl⟩ : ∃ w4, w4 = wc := ⟨_, rfl⟩
            clear hCk3 c34 s0 hB3 hk1 hk2 hs2 hrd hne
            have c35 : w4.cell? ⟨gp, 35, none⟩ = some (.slice AP i cP) := (hCk4.out.bk.cell 35).trans (by rw [List.getElem?_toArray]; exact pc_proofs rfl)
            have s0 : Hid (Below w.heap.size w w4.drew) := hCk4.out.be.drew
            have hB4 : Hid (B ≤ w4.heap.size) := by have := hCk4.out.bk.lt; have := hBe.out; show _ ≤ _; omega
            have hs2 : Hid ((i + 1) * 40 ≤ 140737488355328) := by show _ ≤ _; omega
            obtain ⟨fA, hfA⟩ : ∃ y, Hid (at3 (some ⟨gw, 0, none⟩) s s' = y) := ⟨_, Lib.hid rfl⟩
            have hX : Hid (∀ w', (Instr.sliceAt 29 (.slice (some ⟨gw, 0, none⟩) s' S) (some (.int .i64 (s : Int))) (some (.int .i64 (s' : Int))) (some (.int .i64 (s' : Int)))).run Tryd.prog w' = .ok (.slice fA xn xn) w') := fun w' => by
              have := run_midD (A := some ⟨gw, 0, none⟩) (n := s') (c := S) (l := s) (h := s') (by have := hs'.out; omega) hsS.out _ _ _ rfl rfl rfl w'
              rw [hfA.out, show s' - s = xn by have := hs'.out; omega] at this
              exact this
            obtain ⟨pr, hpr⟩ : ∃ pr : Pr, Hid (pr = ⟨x.x, x.y, x.ds, fA, xn, xn⟩) := ⟨_, Lib.hid rfl⟩
            have hprc : Hid (pr.cells = [.int .i64 x.x, .int .i64 x.y, .slice fA xn xn]) := by show _ = _; rw [hpr.out]; rfl
            have q1 : Hid (∀ v ∈ [pr.cells], v.length = 3) := by intro v hv; simp only [List.mem_singleton] at hv; rw [hv]; rfl
            have x1 : Hid ([pr.cells].flatten.toArray = pr.cells.toArray) := by show _ = _; simp
            have hone : Hid (∀ v ∈ pr.cells, v.oneCell' = true) := by intro v hv; rw [hprc.out] at hv; simp only [List.mem_cons, List.not_mem_nil, or_false] at hv; rcases hv with rfl | rfl | rfl <;> rfl
            have hsn : Hid (cutPs (some ⟨gw, 0, none⟩) 0 (ps.take (i + 1)) = cutPs (some ⟨gw, 0, none⟩) 0 (ps.take i) ++ [pr]) := by
              show _ = _
              rw [htp.out, cutPs_snoc, hpr.out, hs.out, Nat.zero_add, hxn.out, hs'.out, hfA.out]
            go_upto_region 15 with fail
            refine held_start (fun w' => Below w.heap.size w w') 24 rfl (by kernel_rfl) ?_
            refine held_take (i := 0) (v := .pointer (some ⟨gp, 35, none⟩)) rfl (by kernel_rfl) (by kernel_rfl) (by kernel_rfl) (fun _ _ _ h => h) s0.out (by rfl) (fun w' hw' => by go_simp) ?_
            (intro K hK; go_simp; refine hK _ ?_; clear hK K)
            refine held_take (i := 2) (v := .slice (some ⟨bP, oP, none⟩) j c2) rfl (by kernel_rfl) (by kernel_rfl) (by kernel_rfl) (fun _ _ _ h => h) s0.out (by rfl) (fun w' hw' => run_mv (.tmp 1) rfl w') ?_
            (intro K hK; go_simp; refine hK _ ?_; clear hK K)
            refine held_take (i := 3) (v := .int .i64 (i : Int)) rfl (by kernel_rfl) (by kernel_rfl) (by kernel_rfl) (fun _ _ _ h => h) s0.out (by rfl) (fun w' hw' => run_mv (.tmp 10) rfl w') ?_
            (intro K hK; go_simp; refine hK _ ?_; clear hK K)
            refine held_take (i := 4) (v := .pointer (some ⟨bP, oP + i * 3, none⟩)) rfl (by kernel_rfl) (by kernel_rfl) (by kernel_rfl) (fun _ _ _ h => h) s0.out (by rfl) (fun w' hw' => by go_simp) ?_
            (intro K hK; go_simp; refine hK _ ?_; clear hK K)
            refine held_take (i := 5) (v := .pointer (some ⟨bP, oP + i * 3, none⟩)) rfl (by kernel_rfl) (by kernel_rfl) (by kernel_rfl) (fun _ _ _ h => h) s0.out (by rfl) (fun w' hw' => by go_simp) ?_
            (intro K hK; go_simp; refine hK _ ?_; clear hK K)
            refine held_take (i := 6) (v := .int .i64 x.x) rfl (by kernel_rfl) (by kernel_rfl) (by kernel_rfl) (fun _ _ _ h => h) s0.out (by rfl) (fun w' hw' => by have hx := hfx.out w' hw' 0 _ rfl; rw [Nat.add_zero] at hx; go_simp) ?_
            (intro K hK; go_simp; refine hK _ ?_; clear hK K)
            refine held_take (i := 7) (v := .slice (some ⟨bP, oP, none⟩) j c2) rfl (by kernel_rfl) (by kernel_rfl) (by kernel_rfl) (fun _ _ _ h => h) s0.out (by rfl) (fun w' hw' => run_mv (.tmp 1) rfl w') ?_
            (intro K hK; go_simp; refine hK _ ?_; clear hK K)
            refine held_take (i := 8) (v := .int .i64 (i : Int)) rfl (by kernel_rfl) (by kernel_rfl) (by kernel_rfl) (fun _ _ _ h => h) s0.out (by rfl) (fun w' hw' => run_mv (.tmp 10) rfl w') ?_
            (intro K hK; go_simp; refine hK _ ?_; clear hK K)
            refine held_take (i := 9) (v := .pointer (some ⟨bP, oP + i * 3, none⟩)) rfl (by kernel_rfl) (by kernel_rfl) (by kernel_rfl) (fun _ _ _ h => h) s0.out (by rfl) (fun w' hw' => by go_simp) ?_
            (intro K hK; go_simp; refine hK _ ?_; clear hK K)
            refine held_take (i := 10) (v := .pointer (some ⟨bP, oP + i * 3 + 1, none⟩)) rfl (by kernel_rfl) (by kernel_rfl) (by kernel_rfl) (fun _ _ _ h => h) s0.out (by rfl) (fun w' hw' => by go_simp) ?_
            (intro K hK; go_simp; refine hK _ ?_; clear hK K)
            refine held_take (i := 11) (v := .int .i64 x.y) rfl (by kernel_rfl) (by kernel_rfl) (by kernel_rfl) (fun _ _ _ h => h) s0.out (by rfl) (fun w' hw' => by have hx := hfx.out w' hw' 1 _ rfl; go_simp) ?_
            (intro K hK; go_simp; refine hK _ ?_; clear hK K)
            refine held_take (i := 12) (v := .slice (some ⟨gw, 0, none⟩) s' S) rfl (by kernel_rfl) (by kernel_rfl) (by kernel_rfl) (fun _ _ _ h => h) s0.out (by rfl) (fun w' hw' => run_mv (.tmp 9) rfl w') ?_
            (intro K hK; go_simp; refine hK _ ?_; clear hK K)
            refine held_take (i := 13) (v := .int .i64 (s : Int)) rfl (by kernel_rfl) (by kernel_rfl) (by kernel_rfl) (fun _ _ _ h => h) s0.out (by rfl) (fun w' hw' => run_mv (.tmp 12) rfl w') ?_
            (intro K hK; go_simp; refine hK _ ?_; clear hK K)
            refine held_take (i := 14) (v := .slice (some ⟨gw, 0, none⟩) s' S) rfl (by kernel_rfl) (by kernel_rfl) (by kernel_rfl) (fun _ _ _ h => h) s0.out (by rfl) (fun w' hw' => run_mv (.tmp 9) rfl w') ?_
            (intro K hK; go_simp; refine hK _ ?_; clear hK K)
            refine held_take (i := 15) (v := .int .i64 (s' : Int)) rfl (by kernel_rfl) (by kernel_rfl) (by kernel_rfl) (fun _ _ _ h => h) s0.out (by rfl) (fun w' hw' => by go_simp) ?_
            (intro K hK; go_simp; refine hK _ ?_; clear hK K)
            refine held_take (i := 16) (v := .slice (some ⟨gw, 0, none⟩) s' S) rfl (by kernel_rfl) (by kernel_rfl) (by kernel_rfl) (fun _ _ _ h => h) s0.out (by rfl) (fun w' hw' => run_mv (.tmp 9) rfl w') ?_
            (intro K hK; go_simp; refine hK _ ?_; clear hK K)
            refine held_take (i := 17) (v := .int .i64 (s' : Int)) rfl (by kernel_rfl) (by kernel_rfl) (by kernel_rfl) (fun _ _ _ h => h) s0.out (by rfl) (fun w' hw' => by go_simp) ?_
            (intro K hK; go_simp; refine hK _ ?_; clear hK K)
            refine held_take (i := 18) (v := .slice fA xn xn) rfl (by kernel_rfl) (by kernel_rfl) (by kernel_rfl) (fun _ _ _ h => h) s0.out (by rfl) (fun w' hw' => by have hx := hX.out w'; go_simp) ?_
            (intro K hK; go_simp; refine hK _ ?_; clear hK K)
            refine held_take (i := 19) (v := .agg #[.int .i64 x.x, .int .i64 x.y, .slice fA xn xn]) rfl (by kernel_rfl) (by kernel_rfl) (by kernel_rfl) (fun _ _ _ h => h) s0.out (by rfl) (fun w' hw' => by go_simp) ?_
            (intro K hK; go_simp; refine hK _ ?_; clear hK K)
            refine held_two (i := 1) (j := 20) rfl rfl (by kernel_rfl) (by rfl) (by rfl) (fun K hK => ?_) (fun K hK => ?_)
            · go_simp
              refine hK _ _ s0.out ?_
              clear hK K
              refine held_only (i := 20) rfl (by kernel_rfl) (by rfl) (fun K hK => ?_)
              refine wp_buildAggs 25 31 1 _ rfl 3 (by decide) [pr.cells] Tryd.underlying25 Hand.sizeIn Hand.zeroIn rfl (by decide) (by decide) q1.out (by rw [hprc.out]; rfl) ?_
              rw [x1.out]
              refine hK _ _ (s0.out.alloc s0.out.size _) ?_
              clear hK K
              have hCk5 := Lib.hid (hCk4.out.below ((Below.refl _ _).drew.trans (Below.heap_below w4.drew (.cells pr.cells.toArray 31))))
              have hnP : Hid (Reads (w4.drew.alloc (.cells pr.cells.toArray 31)) 3 (some ⟨w4.heap.size, 0, none⟩) 1 pr.cells) := Blk.reads (Blk.new w4.drew 31 pr.cells.toArray) 0 _ rfl (fun j u hu => by rw [Nat.zero_add, List.getElem?_toArray]; exact hu)
              have hOP := Lib.hid hCk5.out.op
              have hs3 : Hid (B ≤ (w4.drew.alloc (.cells pr.cells.toArray 31)).heap.size) := by have := hCk5.out.bk.lt; have := hBe.out; show _ ≤ _; omega
              refine held_only (i := 21) rfl (by kernel_rfl) (by rfl) (fun K hK => ?_)
              refine wp_append_src _ (.tmp 51) (.tmp 70) 25 rfl B 31 n0 (.agg #[.int .i64 0, .int .i64 0, .slice none 0 0]) 3 40 Tryd.underlying25 hn0 nz0 nz1 nz2 rfl (by decide) (.slice AP i cP) i ((cutPs (some ⟨gw, 0, none⟩) 0 (ps.take i)).flatMap Pr.cells) rfl hOP.out (some ⟨w4.heap.size, 0, none⟩) 1 1 pr.cells rfl hnP.out (fun e => by cases e) hone.out hs1.out hs2.out hs3.out ?_
              intro v7 w7 hG
              obtain ⟨AP7, cP7, rfl, -⟩ := Append.Own.reads hG.own
              have hpk := Lib.hid (hCk4.out.pushP hRg.out hgB.out ((Below.refl _ _).drew.trans (Below.heap_below w4.drew (.cells pr.cells.toArray 31))) hG)
              have cP35 : w7.cell? ⟨gp, 35, none⟩ = some (.slice AP i cP) := (hpk.out.2.cell 35).trans (by rw [List.getElem?_toArray]; exact pc_proofs rfl)
              have fP35 := hpk.out.2.frozen 35
              have b7 : Hid (Below w.heap.size w w7) := hG.below hCk5.out.be hCk5.out.be.size (fun k e => by have := (hCk5.out.op.lt k e).1; have := hRg.out; have := hgB.out; omega)
              clear hG
              go_simp
              refine hK _ _ b7.out ?_
              clear hK K
              refine held_take (i := 22) (v := .pointer (some ⟨gp, 35, none⟩)) rfl (by kernel_rfl) (by kernel_rfl) (by kernel_rfl) (fun _ _ _ h => h) b7.out (by rfl) (fun w' hw' => by go_simp) ?_
              (intro K hK; go_simp; refine hK _ ?_; clear hK K)
              refine held_only (i := 23) rfl (by kernel_rfl) (by rfl) (fun K hK => ?_)
              go_simp
              refine hK _ _ (b7.out.setCell (by show w.heap.size ≤ gp; have := hRg.out; omega) _) ?_
              clear hK K
              refine held_end (by kernel_rfl) ?_
              have hCkF : Hid (Ck w (w7.setCell ⟨gp, 35, none⟩ (.slice AP7 (i + 1) cP7)) w.heap.size B gp (.slice AE' (i + 1) cE') (.slice AP7 (i + 1) cP7) (.slice (some ⟨gw, 0, none⟩) s' S) (i + 1) (i + 1) s' (xs ++ [vv]) (es.take (i + 1)) ((cutPs (some ⟨gw, 0, none⟩) 0 (ps.take (i + 1))).flatMap Pr.cells) ((ps.take (i + 1)).flatMap Pr.ds)) := by
                have hh := hpk.out.1
                show Ck _ _ _ _ _ _ _ _ _ _ _ _ _ _ _
                rw [hsn.out, flat_snoc]
                exact hh
              have hinF : Hid (i + 1 ≤ j) := hlt'.out
              clear hpk cP35 fP35 c35 hs1 hs2 hs3 hnP hOP hCk4 hCk5
              go_wp2_with fail
              go_roundw
              case rel => exact ⟨i + 1, s', cE', cP7, AE', AP7, xs ++ [vv], by go_num, rfl, ht1.out, hinF.out, hCkF.out⟩
              case measure => (have := hinF.out; simp [intOf]; omega)
            · refine wp_buildAggs 25 31 1 _ rfl 3 (by decide) [pr.cells] Tryd.underlying25 Hand.sizeIn Hand.zeroIn rfl (by decide) (by decide) q1.out (by rw [hprc.out]; rfl) ?_
              rw [x1.out]
              refine hK _ _ (s0.out.alloc s0.out.size _) ?_
              clear hK K
              have c35b : (w4.alloc (.cells pr.cells.toArray 31)).cell? ⟨gp, 35, none⟩ = some (.slice AP i cP) := ((hCk4.out.bk.alloc _).cell 35).trans (by rw [List.getElem?_toArray]; exact pc_proofs rfl)
              refine held_only (i := 1) rfl (by kernel_rfl) (by rfl) (fun K hK => ?_)
              go_simp
              refine hK _ _ (s0.out.alloc s0.out.size _) ?_
              clear hK K c35b
              have hCk5 := Lib.hid (hCk4.out.below ((Below.refl _ _).drew.trans (Below.heap_below w4.drew (.cells pr.cells.toArray 31))))
              have hnP : Hid (Reads (w4.drew.alloc (.cells pr.cells.toArray 31)) 3 (some ⟨w4.heap.size, 0, none⟩) 1 pr.cells) := Blk.reads (Blk.new w4.drew 31 pr.cells.toArray) 0 _ rfl (fun j u hu => by rw [Nat.zero_add, List.getElem?_toArray]; exact hu)
              have hOP := Lib.hid hCk5.out.op
              have hs3 : Hid (B ≤ (w4.drew.alloc (.cells pr.cells.toArray 31)).heap.size) := by have := hCk5.out.bk.lt; have := hBe.out; show _ ≤ _; omega
              refine held_only (i := 21) rfl (by kernel_rfl) (by rfl) (fun K hK => ?_)
              refine wp_append_src _ (.tmp 51) (.tmp 70) 25 rfl B 31 n0 (.agg #[.int .i64 0, .int .i64 0, .slice none 0 0]) 3 40 Tryd.underlying25 hn0 nz0 nz1 nz2 rfl (by decide) (.slice AP i cP) i ((cutPs (some ⟨gw, 0, none⟩) 0 (ps.take i)).flatMap Pr.cells) rfl hOP.out (some ⟨w4.heap.size, 0, none⟩) 1 1 pr.cells rfl hnP.out (fun e => by cases e) hone.out hs1.out hs2.out hs3.out ?_
              intro v7 w7 hG
              obtain ⟨AP7, cP7, rfl, -⟩ := Append.Own.reads hG.own
              have hpk := Lib.hid (hCk4.out.pushP hRg.out hgB.out ((Below.refl _ _).drew.trans (Below.heap_below w4.drew (.cells pr.cells.toArray 31))) hG)
              have cP35 : w7.cell? ⟨gp, 35, none⟩ = some (.slice AP i cP) := (hpk.out.2.cell 35).trans (by rw [List.getElem?_toArray]; exact pc_proofs rfl)
              have fP35 := hpk.out.2.frozen 35
              have b7 : Hid (Below w.heap.size w w7) := hG.below hCk5.out.be hCk5.out.be.size (fun k e => by have := (hCk5.out.op.lt k e).1; have := hRg.out; have := hgB.out; omega)
              clear hG
              go_simp
              refine hK _ _ b7.out ?_
              clear hK K
              refine held_take (i := 22) (v := .pointer (some ⟨gp, 35, none⟩)) rfl (by kernel_rfl) (by kernel_rfl) (by kernel_rfl) (fun _ _ _ h => h) b7.out (by rfl) (fun w' hw' => by go_simp) ?_
              (intro K hK; go_simp; refine hK _ ?_; clear hK K)
              refine held_only (i := 23) rfl (by kernel_rfl) (by rfl) (fun K hK => ?_)
              go_simp
              refine hK _ _ (b7.out.setCell (by show w.heap.size ≤ gp; have := hRg.out; omega) _) ?_
              clear hK K
              refine held_end (by kernel_rfl) ?_
              have hCkF : Hid (Ck w (w7.setCell ⟨gp, 35, none⟩ (.slice AP7 (i + 1) cP7)) w.heap.size B gp (.slice AE' (i + 1) cE') (.slice AP7 (i + 1) cP7) (.slice (some ⟨gw, 0, none⟩) s' S) (i + 1) (i + 1) s' (xs ++ [vv]) (es.take (i + 1)) ((cutPs (some ⟨gw, 0, none⟩) 0 (ps.take (i + 1))).flatMap Pr.cells) ((ps.take (i + 1)).flatMap Pr.ds)) := by
                have hh := hpk.out.1
                show Ck _ _ _ _ _ _ _ _ _ _ _ _ _ _ _
                rw [hsn.out, flat_snoc]
                exact hh
              have hinF : Hid (i + 1 ≤ j) := hlt'.out
              clear hpk cP35 fP35 c35 hs1 hs2 hs3 hnP hOP hCk4 hCk5
              go_wp2_with fail
              go_roundw
              case rel => exact ⟨i + 1, s', cE', cP7, AE', AP7, xs ++ [vv], by go_num, rfl, ht1.out, hinF.out, hCkF.out⟩
              case measure => (have := hinF.out; simp [intOf]; omega)
        · have hin2 : i = j := by have := hin.out; omega
          subst hin2
          have y3 : ¬ ((i : Int) < (i : Int)) := by omega
          have e1 : es.take i = es := List.take_of_length_le (by rw [hn.out]; exact Nat.le_refl _)
          have e2 : ps.take i = ps := List.take_of_length_le (by rw [hm.out]; exact Nat.le_refl _)
          rw [e1, e2] at hCk
          rw [e2] at hs
          have hsS : s = sumN ps := hs.out.symm
          have hbk := Lib.hid hCk.out.bk
          have hrs := Lib.hid hCk.out.rs
          have hRB : Hid (w.heap.size < B) := Nat.lt_trans hRg.out hgB.out
          have hCkF := hCk
          rw [hsS] at hCkF
          have hfirm := Lib.hid (firm_of hCkF.out hdd.out hRB.out)
          clear hlt e1 e2 hsS hCkF
          go_wp2_with (first
            | ((with_reducible change wpList _ _ _ ({ dst := some 74, op := _, type := _, pos := _, after := _, guard := _ } :: _) _ _); refine wpList_load_row (o := ⟨some 74, _, _, _, _, _⟩) rfl 33 (.tmp 5) rfl (gp) rfl 33 ((pieceCells ByteArray.empty 0 (List.replicate 32 0) (.slice AE i cE) (.slice AP i cP)).toArray) (0, 0) _ hbk.out Tryd.underlying33 rfl (pc_info rfl) ?_)
            | ((with_reducible change wpList _ _ _ ({ dst := none, op := Op.store 33 _ _, type := _, pos := _, after := _, guard := _ } :: _) _ _); refine wpList_store_row (o := ⟨none, _, _, _, _, _⟩) rfl 33 (.tmp 4) (.tmp 74) rfl (w.heap.size) ((pieceCells ByteArray.empty 0 (List.replicate 32 0) (.slice AE i cE) (.slice AP i cP)).toArray) rfl rfl 33 (zP) hrs.out (pc_info rfl) (pc_size rfl).symm (pc_one rfl rfl) ?_))
          refine bodyPost_ret (results_cell_row rfl _ _ w.heap.size 33 (pieceCells ByteArray.empty 0 (List.replicate 32 0) (.slice AE i cE) (.slice AP i cP)).toArray (0, 0) _ rfl (setRow_heap _ _ _ _ _ _ hrs.out) Tryd.underlying33 rfl (pc_info rfl)) rfl ?_
          have hK : Kept (· = w.heap.size) wr (wr.setRow w.heap.size (pieceCells ByteArray.empty 0 (List.replicate 32 0) (.slice AE i cE) (.slice AP i cP)).toArray) := Bytes.Kept.setRow (S := (· = w.heap.size)) (Kept.refl _ _) rfl _
          exact ⟨⟨ByteArray.empty, 0, List.replicate 32 0, es, cutPs (some ⟨gw, 0, none⟩) 0 ps, AE, i, cE, AP, i, cP⟩, rfl, rfl, rfl, rfl, rfl, cutPs_alike _ _ _, rfl, rfl, Firm.mono (hfirm.out _ hK) (Nat.le_of_lt hRB.out), below_setRow hCk.out.be (Nat.le_refl _) _⟩
end Go.Proofs.YthkdlaohaekilaaDoor.CutW

namespace Go.Proofs.YthkdlaohaekilaaDoor.Intact17
open Go Go.RowKit Go.Proofs.YthkdlaohaekilaaDoor Go.Proofs.YthkdlaohaekilaaDoor.HeadMem Go.Proofs.YthkdlaohaekilaaDoor.Mem Go.Proofs.YthkdlaohaekilaaDoor.Sha Go.Proofs.YthkdlaohaekilaaDoor.Bytes Go.Proofs.YthkdlaohaekilaaDoor.Append Go.Proofs.YthkdlaohaekilaaDoor.TreeMem Go.Proofs.YthkdlaohaekilaaDoor.Held Go.Proofs.YthkdlaohaekilaaDoor.Own Go.Proofs.YthkdlaohaekilaaDoor.QuietTail Go.Proofs.YthkdlaohaekilaaDoor.Grown Go.Proofs.YthkdlaohaekilaaDoor.Want Go.Proofs.YthkdlaohaekilaaDoor.Plain Go.Proofs.YthkdlaohaekilaaDoor.Guard Go.Proofs.YthkdlaohaekilaaDoor.Guard2 Go.Proofs.YthkdlaohaekilaaDoor.Book Go.Proofs.YthkdlaohaekilaaDoor.Book2 Go.Proofs.YthkdlaohaekilaaDoor.Book8 Go.Proofs.YthkdlaohaekilaaDoor.Same8 Go.Proofs.YthkdlaohaekilaaDoor.Law17a Go.Proofs.YthkdlaohaekilaaDoor.Prs Go.Proofs.YthkdlaohaekilaaDoor.Reach2 Go.Proofs.YthkdlaohaekilaaDoor.PieceLay Go.Proofs.YthkdlaohaekilaaDoor.PieceMem Go.Proofs.YthkdlaohaekilaaDoor.PieceMem2 Go.Proofs.YthkdlaohaekilaaDoor.HandM Go.Proofs.YthkdlaohaekilaaDoor.Hand

theorem HF.below {w0 W W' : World} {B n m : Nat} {E P V Q : Value} {gs hs : List Nat} {es : List Text} {ps : List Pr} (h : HF w0 W B E P V Q n m gs hs es ps) (hb : Below W.heap.size W W') : HF w0 W' B E P V Q n m gs hs es ps :=
  ⟨own_below h.oe hb, own_below h.op hb, own_below h.ov hb, own_below h.oq hb, h.roo.keep (fun _ _ hx => (hb.block _ hx.lt).trans hx), h.rod.keep (fun _ _ hx => (hb.block _ hx.lt).trans hx), h.be.trans (hb.mono h.be.size), h.hb⟩
/-- A row of one's own: where it lies. -/
theorem own_at {w : World} {B e n size : Nat} {v : Value} {xs : List Value} (hs : 0 < size) (h : w.ownsRow B e size v n xs) (h0 : 0 < n) : ∃ b o c, v = .slice (some ⟨b, o, none⟩) n c ∧ b < w.heap.size ∧ ∀ j u, xs[j]? = some u → w.cell? ⟨b, o + j, none⟩ = some u := by
  obtain ⟨A, c, e1, -, -, -, hr, -⟩ := Append.Own.reads h
  obtain ⟨b, o, e2, hb, hc⟩ := hr.at_ (Nat.mul_pos h0 hs)
  exact ⟨b, o, c, by rw [e1, e2], hb, hc⟩
theorem own_len {w : World} {B e n size : Nat} {v : Value} {xs : List Value} (h : w.ownsRow B e size v n xs) : ∃ A c, v = .slice A n c := by
  obtain ⟨A, c, e1, -⟩ := Append.Own.reads h
  exact ⟨A, c, e1⟩
set_option maxRecDepth 100000 in
set_option maxHeartbeats 8000000 in
theorem intact_any (es : List Text) (n : Nat) (hn : es.length = n) (hn6 : n ≤ 1000000) (hsh : ∀ e ∈ es, e.length < 140737488355328) (ps : List Pr) (m : Nat) (hm : ps.length = m) (hm6 : m ≤ 1000000) (hnn : ∀ p ∈ ps, p.n < 4398046511104) (A A2 : Option Addr) (c c2 : Nat) (w0 w : World) (hp : Pieces w A es) (hq : Prs w A2 ps)
    (B : Nat) (E P V Q : Value) (gs hs : List Nat) (hF : HF w0 w B E P V Q n m gs hs es ps) :
    Calls Tryd.prog 15 #[.agg (hc E P V Q).toArray, .slice A n c, .slice A2 m c2] w fun e w' => e = .returned (.bool true) ∧ Below w.heap.size w w' := by
  have hB0 : Blk (w.alloc (.cells (hc E P V Q).toArray 36)) w.heap.size 36 (hc E P V Q).toArray := Blk.new w _ _
  obtain ⟨cs, hcs⟩ : ∃ cs : Array Value, (hc E P V Q).toArray = cs := ⟨_, rfl⟩
  have hcE : Hid (cs[34]? = some E) := by show _ = _; rw [← hcs]; exact hc_E
  have hcP : Hid (cs[35]? = some P) := by show _ = _; rw [← hcs]; exact hc_P
  have hcV : Hid (cs[36]? = some V) := by show _ = _; rw [← hcs]; exact hc_V
  have hcQ : Hid (cs[37]? = some Q) := by show _ = _; rw [← hcs]; exact hc_Q
  rw [hcs] at hB0 ⊢
  clear hcs
  have hW0 : Hid (Below w.heap.size w (w.alloc (.cells cs 36))) := Below.heap_below w _
  obtain ⟨V0, hV0⟩ : ∃ V, Hid (w.alloc (.cells cs 36) = V) := ⟨_, Lib.hid rfl⟩
  have hx : Hid (∀ w', Below V0.heap.size V0 w' → ∀ j, w'.cell? ⟨w.heap.size, j, none⟩ = cs[j]?) := fun w' h j => by
    rw [hV0.out] at hB0
    exact (show Blk w' w.heap.size 36 cs from (h.block _ hB0.lt).trans hB0).cell j
  have hW : Hid (∀ w', Below V0.heap.size V0 w' → Below w.heap.size w w') := fun w' h => by
    have h1 := hW0.out
    rw [hV0.out] at h1
    exact h1.trans (h.mono h1.size)
  replace hn := Lib.hid hn
  replace hm := Lib.hid hm
  replace hn6 := Lib.hid hn6
  replace hm6 := Lib.hid hm6
  replace hp := Lib.hid hp
  replace hq := Lib.hid hq
  replace hsh := Lib.hid hsh
  replace hnn := Lib.hid hnn
  replace hF := Lib.hid hF
  clear hB0 hW0
  go_enter Tryd.func15, Tryd.ntmps15
  go_wp2_with fail
  rw [hV0.out]
  clear hV0
  go_loopw [7] (fun v wr => ∃ k : Nat, v = .int .i64 (k : Int) ∧ Hid (k ≤ n) ∧ Hid (Below V0.heap.size V0 wr)) (fun v _ => n - (intOf v).toNat)
  case atStart => exact ⟨0, rfl, Nat.zero_le _, Below.refl _ _⟩
  case round =>
    obtain ⟨i, rfl, hin, hB⟩ := hrel
    have hi6 : (i : Int) ≤ 1000000 := by have := hin.out; have := hn6.out; omega
    by_cases hlt : i < n
    · have y3 : ((i : Int) < (n : Int)) := by omega
      have hz0 : (0 : Int) ≤ (i : Int) := by omega
      obtain ⟨q, hqi⟩ : ∃ q, es[i]? = some q := ⟨_, List.getElem?_eq_getElem (by rw [hn.out]; exact hlt)⟩
      obtain ⟨g, hgi⟩ : ∃ g, gs[i]? = some g := ⟨gs[i]'(by have := hF.out.roo.1; have := hn.out; omega), List.getElem?_eq_getElem _⟩
      obtain ⟨hroom, -⟩ := hF.out.roo.2 i g q hgi hqi
      obtain ⟨bA, oA, rfl, hbA, hcs⟩ := hp.out (by have := hn.out; omega)
      obtain ⟨Ae, ce, hc1, hc2, hc3, hc4⟩ := hcs i q hqi
      obtain ⟨bV, oV, cV, rfl, hbV, hcv⟩ := own_at (by decide) hF.out.ov (by omega)
      obtain ⟨bE, oE, cE, rfl, hbE, hce⟩ := own_at (by decide) hF.out.oe (by omega)
      have hcv := hcv i _ (xsV_at hgi hqi)
      have hce := hce i _ (xsE_at hgi hqi)
      have hql := hsh.out q (List.mem_of_getElem? hqi)
      obtain ⟨k, hk⟩ : ∃ k, q.length = k := ⟨_, rfl⟩
      rw [hk] at hcv hce hql hc1
      have hu1 : Hid (∀ w', Below V0.heap.size V0 w' → w'.cell? ⟨bA, oA + i, none⟩ = some (.slice Ae k ce)) := fun w' h => ((hW.out w' h).cell (p := ⟨bA, oA + i, none⟩) hbA).trans hc1
      have hu2 : Hid (∀ w', Below V0.heap.size V0 w' → w'.cell? ⟨bV, oV + i, none⟩ = some (.slice (some ⟨g, 0, none⟩) (k + 80) (k + 80))) := fun w' h => ((hW.out w' h).cell (p := ⟨bV, oV + i, none⟩) hbV).trans hcv
      have hu3 : Hid (∀ w', Below V0.heap.size V0 w' → w'.cell? ⟨bE, oE + i, none⟩ = some (.slice (some ⟨g, 0, none⟩) k (k + 80))) := fun w' h => ((hW.out w' h).cell (p := ⟨bE, oE + i, none⟩) hbE).trans hce
      have hrd : ∀ w', Below V0.heap.size V0 w' → RoomB w' g q 165 ∧ Reads w' 1 Ae k (cells8 q) := fun w' h => by
        have hb := hW.out w' h
        exact ⟨hroom.below hb (Tab.lt hroom), by rw [← hk]; exact hc3.below hb⟩
      have hI : Hid (∀ w', Below V0.heap.size V0 w' → Calls Tryd.prog 59 #[.slice (some ⟨g, 0, none⟩) (k + 80) (k + 80), .slice Ae k ce, .int .u8 165] w' fun e w'' => e = .returned (.bool true) ∧ Below w'.heap.size w' w'') := fun w' h => by
        obtain ⟨r1, r2⟩ := hrd w' h
        exact (intact8_any q k hk hql 165 165 rfl g Ae ce w' r1 r2).mono fun e w'' ⟨he, N, hw⟩ => ⟨he, hw ▸ below_drawn (Below.refl _ _) N⟩
      have hS : Hid (∀ w', Below V0.heap.size V0 w' → Calls Tryd.prog 18 #[.slice (some ⟨g, 0, none⟩) k (k + 80), .slice Ae k ce] w' fun e w'' => e = .returned (.bool true) ∧ Below w'.heap.size w' w'') := fun w' h => by
        obtain ⟨r1, r2⟩ := hrd w' h
        have r3 := r1.reads
        rw [hk] at r3
        have := same8_any q q k k hk hk (by omega) (some ⟨g, 0, none⟩) Ae (k + 80) ce w' r3 r2
        rw [decide_eq_true (rfl : q = q)] at this
        exact this.mono fun e w'' ⟨he, N, hw⟩ => ⟨he, hw ▸ below_drawn (Below.refl _ _) N⟩
      have hlt' : Hid (i < n) := hlt
      clear hcs hc1 hc2 hc3 hc4 hbA hbV hbE hcv hce hql hrd hroom hqi hgi hk hlt
      go_upto_region 4 with fail
      refine q_region (Class wr) (by kernel_rfl) (by kernel_rfl) (Class.mk_ ((Below.refl _ _).drew)) ?_
      refine q_val (v := .pointer (some ⟨w.heap.size, 36, none⟩)) rfl (fun w' hw' => by go_simp) ?_
      (intro K hK; go_simp; refine hK _ ?_; clear hK K)
      refine q_val (v := .slice (some ⟨bV, oV, none⟩) n cV) rfl (fun w' hw' => by have hc := (hx.out w' (hB.out.trans (hw'.below.mono hB.out.size)) 36).trans hcV.out; go_simp) ?_
      (intro K hK; go_simp; refine hK _ ?_; clear hK K)
      refine q_move rfl (.tmp 7) rfl ?_
      (intro K hK; go_simp; refine hK _ ?_; clear hK K)
      refine q_val (v := .pointer (some ⟨bV, oV + i, none⟩)) rfl (fun w' hw' => by go_simp) ?_
      (intro K hK; go_simp; refine hK _ ?_; clear hK K)
      refine q_val (v := .slice (some ⟨g, 0, none⟩) (k + 80) (k + 80)) rfl (fun w' hw' => by have hc := hu2.out w' (hB.out.trans (hw'.below.mono hB.out.size)); go_simp) ?_
      (intro K hK; go_simp; refine hK _ ?_; clear hK K)
      refine q_move rfl (.tmp 1) rfl ?_
      (intro K hK; go_simp; refine hK _ ?_; clear hK K)
      refine q_move rfl (.tmp 7) rfl ?_
      (intro K hK; go_simp; refine hK _ ?_; clear hK K)
      refine q_val (v := .pointer (some ⟨bA, oA + i, none⟩)) rfl (fun w' hw' => by go_simp) ?_
      (intro K hK; go_simp; refine hK _ ?_; clear hK K)
      refine q_val (v := .slice Ae k ce) rfl (fun w' hw' => by have hc := hu1.out w' (hB.out.trans (hw'.below.mono hB.out.size)); go_simp) ?_
      (intro K hK; go_simp; refine hK _ ?_; clear hK K)
      refine q_fn (v := .bool true) (args := #[.slice (some ⟨g, 0, none⟩) (k + 80) (k + 80), .slice Ae k ce, .int .u8 165]) rfl _ _ rfl rfl Tryd.func59 (by kernel_rfl) (by kernel_rfl) (fun w' hw' => (hI.out w' (hB.out.trans (hw'.below.mono hB.out.size))).mono (fun e w'' ⟨he, hw⟩ => ⟨he, hw'.next hw⟩)) ?_
      (intro K hK; go_simp; refine hK _ ?_; clear hK K)
      refine q_val (v := .bool false) rfl (fun w' hw' => by go_simp) ?_
      (intro K hK; go_simp; refine hK _ ?_; clear hK K)
      refine q_move rfl (.tmp 25) rfl ?_
      (intro K hK; go_simp; refine hK _ ?_; clear hK K)
      refine q_val (v := .pointer (some ⟨w.heap.size, 0, none⟩)) rfl (fun w' hw' => by go_simp) ?_
      (intro K hK; go_simp; refine hK _ ?_; clear hK K)
      refine q_val (v := .pointer (some ⟨w.heap.size, 34, none⟩)) rfl (fun w' hw' => by go_simp) ?_
      (intro K hK; go_simp; refine hK _ ?_; clear hK K)
      refine q_val (v := .slice (some ⟨bE, oE, none⟩) n cE) rfl (fun w' hw' => by have hc := (hx.out w' (hB.out.trans (hw'.below.mono hB.out.size)) 34).trans hcE.out; go_simp) ?_
      (intro K hK; go_simp; refine hK _ ?_; clear hK K)
      refine q_move rfl (.tmp 7) rfl ?_
      (intro K hK; go_simp; refine hK _ ?_; clear hK K)
      refine q_val (v := .pointer (some ⟨bE, oE + i, none⟩)) rfl (fun w' hw' => by go_simp) ?_
      (intro K hK; go_simp; refine hK _ ?_; clear hK K)
      refine q_val (v := .slice (some ⟨g, 0, none⟩) k (k + 80)) rfl (fun w' hw' => by have hc := hu3.out w' (hB.out.trans (hw'.below.mono hB.out.size)); go_simp) ?_
      (intro K hK; go_simp; refine hK _ ?_; clear hK K)
      refine q_move rfl (.tmp 1) rfl ?_
      (intro K hK; go_simp; refine hK _ ?_; clear hK K)
      refine q_move rfl (.tmp 7) rfl ?_
      (intro K hK; go_simp; refine hK _ ?_; clear hK K)
      refine q_val (v := .pointer (some ⟨bA, oA + i, none⟩)) rfl (fun w' hw' => by go_simp) ?_
      (intro K hK; go_simp; refine hK _ ?_; clear hK K)
      refine q_val (v := .slice Ae k ce) rfl (fun w' hw' => by have hc := hu1.out w' (hB.out.trans (hw'.below.mono hB.out.size)); go_simp) ?_
      (intro K hK; go_simp; refine hK _ ?_; clear hK K)
      refine q_fn (v := .bool true) (args := #[.slice (some ⟨g, 0, none⟩) k (k + 80), .slice Ae k ce]) rfl _ _ rfl rfl Tryd.func18 (by kernel_rfl) (by kernel_rfl) (fun w' hw' => (hS.out w' (hB.out.trans (hw'.below.mono hB.out.size))).mono (fun e w'' ⟨he, hw⟩ => ⟨he, hw'.next hw⟩)) ?_
      (intro K hK; go_simp; refine hK _ ?_; clear hK K)
      refine q_val (v := .bool false) rfl (fun w' hw' => by go_simp) ?_
      (intro K hK; go_simp; refine hK _ ?_; clear hK K)
      refine q_val (v := .bool false) rfl (fun w' hw' => by go_simp) ?_
      (intro K hK; go_simp; refine hK _ ?_; clear hK K)
      refine q_nil ?_
      intro w6 hw6
      have h6 : Hid (Below V0.heap.size V0 w6) := hB.out.trans (hw6.below.mono hB.out.size)
      go_wp2_with fail
      go_roundw
      case rel => exact ⟨i + 1, by go_num, hlt'.out, h6.out⟩
      case measure => (have := hlt'.out; simp [intOf]; omega)
    · have y3 : ¬ ((i : Int) < (n : Int)) := by omega
      clear hlt
      go_wp2_with fail
      clear y3
      obtain ⟨wA, rfl⟩ : ∃ wA, wA = wr := ⟨_, rfl⟩
      go_loopw [8] (fun v wr => ∃ k : Nat, v = .int .i64 (k : Int) ∧ Hid (k ≤ m) ∧ Hid (Below V0.heap.size V0 wr)) (fun v _ => m - (intOf v).toNat)
      case atStart => exact ⟨0, rfl, Nat.zero_le _, hB.out⟩
      case round =>
        clear hB
        obtain ⟨j, rfl, hjn, hB⟩ := hrel
        have hj6 : (j : Int) ≤ 1000000 := by have := hjn.out; have := hm6.out; omega
        by_cases hlt : j < m
        · have y3 : ((j : Int) < (m : Int)) := by omega
          have hz0 : (0 : Int) ≤ (j : Int) := by omega
          obtain ⟨x, hxi⟩ : ∃ x, ps[j]? = some x := ⟨_, List.getElem?_eq_getElem (by rw [hm.out]; exact hlt)⟩
          obtain ⟨g, hgi⟩ : ∃ g, hs[j]? = some g := ⟨hs[j]'(by have := hF.out.rod.1; have := hm.out; omega), List.getElem?_eq_getElem _⟩
          obtain ⟨hrow, -⟩ := hF.out.rod.2 j g x hgi hxi
          obtain ⟨bP, oP, rfl, hbP, hcx⟩ := hq.out.at_ hxi
          obtain ⟨hr1, -⟩ := hq.out.2 x (List.mem_of_getElem? hxi)
          have hxn := hnn.out x (List.mem_of_getElem? hxi)
          obtain ⟨bQ, oQ, cQ, rfl, hbQ, hcq⟩ := own_at (by decide) hF.out.oq (by omega)
          obtain ⟨bH, oH, cH, rfl, hbH, hch⟩ := own_at (by decide) hF.out.op (by omega)
          have hcq := hcq j _ (xsQ_at hgi hxi)
          obtain ⟨pr, hpr⟩ : ∃ pr : Pr, pr = ⟨x.x, x.y, x.ds, some ⟨g, 0, none⟩, x.n, x.n + 80⟩ := ⟨_, rfl⟩
          have hpj : (psH hs ps)[j]? = some pr := by rw [hpr]; exact psH_at hgi hxi
          have hu1 : Hid (∀ w', Below V0.heap.size V0 w' → ∀ f u, x.cells[f]? = some u → w'.cell? ⟨bP, oP + j * 3 + f, none⟩ = some u) := fun w' h f u hu => ((hW.out w' h).cell (p := ⟨bP, oP + j * 3 + f, none⟩) hbP).trans (by rw [show oP + j * 3 + f = oP + (3 * j + f) by omega]; exact hcx f u hu)
          have hu2 : Hid (∀ w', Below V0.heap.size V0 w' → w'.cell? ⟨bQ, oQ + j, none⟩ = some (.slice (some ⟨g, 0, none⟩) (x.n + 80) (x.n + 80))) := fun w' h => ((hW.out w' h).cell (p := ⟨bQ, oQ + j, none⟩) hbQ).trans hcq
          have hu3 : Hid (∀ w', Below V0.heap.size V0 w' → ∀ f u, pr.cells[f]? = some u → w'.cell? ⟨bH, oH + j * 3 + f, none⟩ = some u) := fun w' h f u hu => ((hW.out w' h).cell (p := ⟨bH, oH + j * 3 + f, none⟩) hbH).trans (by
            rw [show oH + j * 3 + f = oH + (3 * j + f) by omega]
            have hf : f < 3 := (List.getElem?_eq_some_iff.1 hu).1
            exact hch _ u ((flat_at _ j pr f hpj hf).trans hu))
          have hds : x.ds.length = x.n := hr1.1
          have hI : Hid (∀ w', Below V0.heap.size V0 w' → Calls Tryd.prog 60 #[.slice (some ⟨g, 0, none⟩) (x.n + 80) (x.n + 80), .slice x.A x.n x.c, .agg (cells8 mk0).toArray] w' fun e w'' => e = .returned (.bool true) ∧ Below w'.heap.size w' w'') := fun w' h => by
            have hb := hW.out w' h
            exact Book17.intactD_wide x.ds x.n hxn g x.A x.c mk0 mk0_len w' (hr1.below hb) (hrow.below hb)
          have hS : Hid (∀ w', Below V0.heap.size V0 w' → Calls Tryd.prog 19 #[.agg pr.cells.toArray, .agg x.cells.toArray] w' fun e w'' => e = .returned (.bool true) ∧ Below w'.heap.size w' w'') := fun w' h => by
            have hb := hW.out w' h
            have h2 : RdD w' (some ⟨g, 0, none⟩) x.n x.ds := by
              have h3 := (RowD.rd (hrow.below hb) (hr1.2.1.append_ (Digs.rep 80 mk0_len))).take_ x.n (by rw [List.length_append]; omega)
              rwa [List.take_left' hds] at h3
            rw [hpr]
            exact sameIncl_yes x.x x.y x.ds x.n (by omega) (some ⟨g, 0, none⟩) x.A (x.n + 80) x.c w' h2 (hr1.below hb)
          have hSt := Lib.hid (fun w' => stranger17_any w')
          have hlt' : Hid (j < m) := hlt
          clear hcx hbP hbQ hbH hcq hch hrow hr1 hxn hxi hgi hpj hds hlt hpr
          go_upto_region 9 with fail
          refine q_region (Class wr) (by kernel_rfl) (by kernel_rfl) (Class.mk_ ((Below.refl _ _).drew)) ?_
          refine q_val (v := .pointer (some ⟨w.heap.size, 37, none⟩)) rfl (fun w' hw' => by go_simp) ?_
          (intro K hK; go_simp; refine hK _ ?_; clear hK K)
          refine q_val (v := .slice (some ⟨bQ, oQ, none⟩) m cQ) rfl (fun w' hw' => by have hc := (hx.out w' (hB.out.trans (hw'.below.mono hB.out.size)) 37).trans hcQ.out; go_simp) ?_
          (intro K hK; go_simp; refine hK _ ?_; clear hK K)
          refine q_move rfl (.tmp 8) rfl ?_
          (intro K hK; go_simp; refine hK _ ?_; clear hK K)
          refine q_val (v := .pointer (some ⟨bQ, oQ + j, none⟩)) rfl (fun w' hw' => by go_simp) ?_
          (intro K hK; go_simp; refine hK _ ?_; clear hK K)
          refine q_val (v := .slice (some ⟨g, 0, none⟩) (x.n + 80) (x.n + 80)) rfl (fun w' hw' => by have hc := hu2.out w' (hB.out.trans (hw'.below.mono hB.out.size)); go_simp) ?_
          (intro K hK; go_simp; refine hK _ ?_; clear hK K)
          refine q_move rfl (.tmp 2) rfl ?_
          (intro K hK; go_simp; refine hK _ ?_; clear hK K)
          refine q_move rfl (.tmp 8) rfl ?_
          (intro K hK; go_simp; refine hK _ ?_; clear hK K)
          refine q_val (v := .pointer (some ⟨bP, oP + j * 3, none⟩)) rfl (fun w' hw' => by go_simp) ?_
          (intro K hK; go_simp; refine hK _ ?_; clear hK K)
          refine q_val (v := .pointer (some ⟨bP, oP + j * 3 + 2, none⟩)) rfl (fun w' hw' => by go_simp) ?_
          (intro K hK; go_simp; refine hK _ ?_; clear hK K)
          refine q_val (v := .slice x.A x.n x.c) rfl (fun w' hw' => by have hc := hu1.out w' (hB.out.trans (hw'.below.mono hB.out.size)) 2 _ rfl; go_simp) ?_
          (intro K hK; go_simp; refine hK _ ?_; clear hK K)
          refine q_fn (v := .agg (cells8 mk0).toArray) (args := #[]) rfl _ _ rfl rfl Tryd.func16 (by kernel_rfl) (by kernel_rfl) (fun w' hw' => (hSt.out w').mono (fun e w'' ⟨he, hw⟩ => ⟨he, hw'.next hw⟩)) ?_
          (intro K hK; go_simp; refine hK _ ?_; clear hK K)
          refine q_fn (v := .bool true) (args := #[.slice (some ⟨g, 0, none⟩) (x.n + 80) (x.n + 80), .slice x.A x.n x.c, .agg (cells8 mk0).toArray]) rfl _ _ rfl rfl Tryd.func60 (by kernel_rfl) (by kernel_rfl) (fun w' hw' => (hI.out w' (hB.out.trans (hw'.below.mono hB.out.size))).mono (fun e w'' ⟨he, hw⟩ => ⟨he, hw'.next hw⟩)) ?_
          (intro K hK; go_simp; refine hK _ ?_; clear hK K)
          refine q_val (v := .bool false) rfl (fun w' hw' => by go_simp) ?_
          (intro K hK; go_simp; refine hK _ ?_; clear hK K)
          refine q_move rfl (.tmp 58) rfl ?_
          (intro K hK; go_simp; refine hK _ ?_; clear hK K)
          refine q_val (v := .pointer (some ⟨w.heap.size, 0, none⟩)) rfl (fun w' hw' => by go_simp) ?_
          (intro K hK; go_simp; refine hK _ ?_; clear hK K)
          refine q_val (v := .pointer (some ⟨w.heap.size, 35, none⟩)) rfl (fun w' hw' => by go_simp) ?_
          (intro K hK; go_simp; refine hK _ ?_; clear hK K)
          refine q_val (v := .slice (some ⟨bH, oH, none⟩) m cH) rfl (fun w' hw' => by have hc := (hx.out w' (hB.out.trans (hw'.below.mono hB.out.size)) 35).trans hcP.out; go_simp) ?_
          (intro K hK; go_simp; refine hK _ ?_; clear hK K)
          refine q_move rfl (.tmp 8) rfl ?_
          (intro K hK; go_simp; refine hK _ ?_; clear hK K)
          refine q_val (v := .pointer (some ⟨bH, oH + j * 3, none⟩)) rfl (fun w' hw' => by go_simp) ?_
          (intro K hK; go_simp; refine hK _ ?_; clear hK K)
          refine q_part rfl 31 (.tmp 64) rfl bH ((oH + j * 3)) rfl (pr.cells) _ (fun w' hw' => hu3.out w' (hB.out.trans (hw'.below.mono hB.out.size))) Tryd.underlying31 rfl size3 ?_
          (intro K hK; go_simp; refine hK _ ?_; clear hK K)
          refine q_move rfl (.tmp 2) rfl ?_
          (intro K hK; go_simp; refine hK _ ?_; clear hK K)
          refine q_move rfl (.tmp 8) rfl ?_
          (intro K hK; go_simp; refine hK _ ?_; clear hK K)
          refine q_val (v := .pointer (some ⟨bP, oP + j * 3, none⟩)) rfl (fun w' hw' => by go_simp) ?_
          (intro K hK; go_simp; refine hK _ ?_; clear hK K)
          refine q_part rfl 31 (.tmp 68) rfl bP ((oP + j * 3)) rfl (x.cells) _ (fun w' hw' => hu1.out w' (hB.out.trans (hw'.below.mono hB.out.size))) Tryd.underlying31 rfl size3 ?_
          (intro K hK; go_simp; refine hK _ ?_; clear hK K)
          refine q_fn (v := .bool true) (args := #[.agg pr.cells.toArray, .agg x.cells.toArray]) rfl _ _ rfl rfl Tryd.func19 (by kernel_rfl) (by kernel_rfl) (fun w' hw' => (hS.out w' (hB.out.trans (hw'.below.mono hB.out.size))).mono (fun e w'' ⟨he, hw⟩ => ⟨he, hw'.next hw⟩)) ?_
          (intro K hK; go_simp; refine hK _ ?_; clear hK K)
          refine q_val (v := .bool false) rfl (fun w' hw' => by go_simp) ?_
          (intro K hK; go_simp; refine hK _ ?_; clear hK K)
          refine q_val (v := .bool false) rfl (fun w' hw' => by go_simp) ?_
          (intro K hK; go_simp; refine hK _ ?_; clear hK K)
          refine q_nil ?_
          intro w6 hw6
          have h6 : Hid (Below V0.heap.size V0 w6) := hB.out.trans (hw6.below.mono hB.out.size)
          go_wp2_with fail
          go_roundw
          case rel => exact ⟨j + 1, by go_num, hlt'.out, h6.out⟩
          case measure => (have := hlt'.out; simp [intOf]; omega)
        · have y3 : ¬ ((j : Int) < (m : Int)) := by omega
          clear hlt
          go_wp2_with fail
          go_ret
          exact ⟨rfl, hW.out _ hB.out⟩
end Go.Proofs.YthkdlaohaekilaaDoor.Intact17
