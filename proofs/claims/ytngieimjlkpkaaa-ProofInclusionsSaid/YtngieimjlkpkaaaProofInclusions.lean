/-
  docketlaw17.ProofInclusions, walked (printed by wip/gen_proofincl.py).
-/
import Derived.Test.YtngieimjlkpkaaaLaw17b
namespace Go.Proofs.Ytngieimjlkpkaaa.ProofInclusions
open Go Go.RowKit Go.Proofs.Ytngieimjlkpkaaa Go.Proofs.Ytngieimjlkpkaaa.Mem Go.Proofs.Ytngieimjlkpkaaa.Sha Go.Proofs.Ytngieimjlkpkaaa.Bytes Go.Proofs.Ytngieimjlkpkaaa.QuietTail Go.Proofs.Ytngieimjlkpkaaa.Grown Go.Proofs.Ytngieimjlkpkaaa.TreeMem Go.Proofs.Ytngieimjlkpkaaa.TreeRoot Go.Proofs.Ytngieimjlkpkaaa.Held Go.Proofs.Ytngieimjlkpkaaa.Guard Go.Proofs.Ytngieimjlkpkaaa.Ref17 Go.Proofs.Ytngieimjlkpkaaa.DecIncl Go.Proofs.Ytngieimjlkpkaaa.DecIncl2 Go.Proofs.Ytngieimjlkpkaaa.ReadIncl Go.Proofs.Ytngieimjlkpkaaa.ReadIncl2 Go.Proofs.Ytngieimjlkpkaaa.Book Go.Proofs.Ytngieimjlkpkaaa.Book2 Go.Proofs.Ytngieimjlkpkaaa.Book8 Go.Proofs.Ytngieimjlkpkaaa.Law17a Go.Proofs.Ytngieimjlkpkaaa.Law17b

theorem want_pos {x1 x2 : Int} {l : List Text} {b : Text} (h : inclWant x1 x2 l = some b) : 0 < b.length := by
  unfold inclWant at h
  split at h
  · rw [← Option.some.inj h]; simp [ProofEnc.inclBytes]
  · cases h
set_option maxRecDepth 100000 in
set_option maxHeartbeats 2000000 in
theorem proofInclusions_any (x1 x2 : Int) (es : List Text) (m : Nat) (A : Option Addr) (c : Nat) (hmc : m ≤ c) (q : Text) (k : Nat) (hk : q.length = k) (hk47 : k < 140737488355328) (A2 : Option Addr) (c2 : Nat) (hkc : k ≤ c2) (w : World) (hr0 : RdD w A m es) (hrq : Reads w 1 A2 k (cells8 q)) (hnil : A2 = none → k = 0 ∧ c2 = 0) :
    Calls Try.prog 7 #[.agg (inclCells x1 x2 A m c), .slice A2 k c2] w fun e w' => e = .returned (.bool true) ∧ Below w.heap.size w w' := by
  unfold inclCells
  obtain ⟨n, hn⟩ : ∃ n, min m 300 = n := ⟨_, rfl⟩
  obtain ⟨ds, hds⟩ : ∃ ds, es.take n = ds := ⟨_, rfl⟩
  have hr : RdD w A n ds := by rw [← hds]; exact hr0.take_ n (by omega)
  have hn300 : n ≤ 300 := by omega
  have hF : Hid (∀ w', Calls Try.prog 13 #[.slice A m c, .int .i64 300] w' fun e w'' => e = .returned (.slice A n c) ∧ w' = w'') := fun w' => by
    have := few17_any A m c hmc w'
    rwa [hn] at this
  have hRo := Lib.hid (fun w' (hb : Below w.heap.size w w') => roomyD_any ds n (by omega) A c mk0 mk0_len w' (hr.below hb))
  have hIt := Lib.hid (fun w' g (hg : RowD w' g (ds ++ List.replicate 80 mk0)) (hb : Below w.heap.size w w') => intactD_any ds n (by omega) g A c mk0 mk0_len w' (hr.below hb) hg)
  have hG0 := Lib.hid (fun w' g (hg : RowD w' g (ds ++ List.replicate 80 mk0)) => (by
    have := (hg.rd (hr.2.1.append_ (Digs.rep 80 mk0_len))).take_ n (by simp [hr.1])
    rwa [List.take_append_of_le_length (by rw [hr.1]; exact Nat.le_refl _), List.take_of_length_le (by rw [hr.1]; exact Nat.le_refl _)] at this : RdD w' (some ⟨g, 0, none⟩) n ds))
  have hS := Lib.hid (fun (g : Nat) => run_headD (A := some ⟨g, 0, none⟩) (n := n + 80) (c := n + 80) (k := n) (by omega) (n : Int) rfl)
  have hEn : Hid (∀ w' g, RowD w' g (ds ++ List.replicate 80 mk0) → Calls Try.prog 9 #[.agg #[Value.int .i64 x1, Value.int .i64 x2, Value.slice (some ⟨g, 0, none⟩) n (n + 80)]] w' fun e w'' => ∃ A4 c4 b err, e = .returned (.tuple #[.slice A4 b.length c4, .int .i64 err]) ∧ Reads w'' 1 A4 b.length (cells8 b) ∧ ((inclWant x1 x2 ds = some b ∧ err = 0) ∨ (inclWant x1 x2 ds = none ∧ b = [] ∧ err = 170)) ∧ Below w'.heap.size w' w'') := fun w' g hg => encIncl_any x1 x2 ds (some ⟨g, 0, none⟩) n (n + 80) w' (hG0.out w' g hg)
  have hWa : Hid (∀ w', Below w.heap.size w w' → Calls Try.prog 16 #[.agg #[Value.int .i64 x1, Value.int .i64 x2, Value.slice A n c]] w' fun e w'' => ∃ A4 c4 b, e = .returned (.slice A4 b.length c4) ∧ Reads w'' 1 A4 b.length (cells8 b) ∧ (A4 = none → b.length = 0 ∧ c4 = 0) ∧ b.length ≤ c4 ∧ (inclWant x1 x2 ds = some b ∨ (inclWant x1 x2 ds = none ∧ A4 = none ∧ b = [])) ∧ Below w'.heap.size w' w'') := fun w' hb => refincl17_any x1 x2 ds A n c w' (hr.below hb)
  have hRq := Lib.hid (fun w' (hb : Below w.heap.size w w') => readsIncl_any q k hk hk47 A2 c2 hkc w' (hrq.below hb) hnil)
  have hMK : Hid (∀ w', Calls Try.prog 15 #[] w' fun e w'' => e = .returned (.agg (cells8 mk0).toArray) ∧ Below w'.heap.size w' w'') := stranger17_any
  have hlen : Hid (∀ b, inclWant x1 x2 ds = some b → b.length < 140737488355328) := fun b h => by rw [want_len hr.2.1 h, hr.1]; omega
  have hb : Hid (Below w.heap.size w (w.alloc (.cells #[Value.int .i64 x1, Value.int .i64 x2, Value.slice A n c] 34))) := Below.heap_below w _
  have hP : Hid (Blk (w.alloc (.cells #[Value.int .i64 x1, Value.int .i64 x2, Value.slice A n c] 34)) w.heap.size 34 #[Value.int .i64 x1, Value.int .i64 x2, Value.slice A n c]) := Blk.new w _ _
  clear hr0 hr hds hn300 hn hmc hk hk47 hkc hrq hnil hG0
  go_enter Try.func7, Try.ntmps7
  go_wp2_with fail
  refine (hF.out _).mono ?_
  rintro e w0 ⟨rfl, rfl⟩
  go_wp2_with fail
  generalize w.alloc (.cells #[Value.int .i64 x1, Value.int .i64 x2, Value.slice A n c] 34) = w1 at *
  have hc2 : Hid (∀ w', Below w1.heap.size w1 w' → w'.cell? ⟨w.heap.size, 2, none⟩ = some (.slice A n c)) := fun w' h => (Blk.onw hP.out h).cell 2
  clear hF
  have s0 : Hid (Below w1.heap.size w1 w1.drew) := (Below.refl _ _).drew
  refine held_start (fun w' => Below w1.heap.size w1 w') 5 rfl (by kernel_rfl) ?_
  refine held_take (i := 0) (v := .pointer (some ⟨w.heap.size, 2, none⟩)) rfl (by kernel_rfl) (by kernel_rfl) (by kernel_rfl) (fun _ _ _ h => h) s0.out (by rfl) (fun w' hw' => by go_simp) ?_
  (intro K hK; go_simp; refine hK _ ?_; clear hK K)
  refine held_take (i := 1) (v := .slice A n c) rfl (by kernel_rfl) (by kernel_rfl) (by kernel_rfl) (fun _ _ _ h => h) s0.out (by rfl) (fun w' hw' => by have h := hc2.out w' hw'; go_simp) ?_
  (intro K hK; go_simp; refine hK _ ?_; clear hK K)
  refine held_only (i := 2) rfl (by kernel_rfl) (by rfl) (fun K hK => ?_)
  refine wp_fn (R := fun v w'' => v = .agg (cells8 mk0).toArray ∧ Below w1.heap.size w1 w'') (args := #[]) _ _ rfl rfl Try.func15 (by kernel_rfl) (by kernel_rfl) ((hMK.out _).mono fun e w'' ⟨he, hb⟩ => ⟨_, he, rfl, s0.out.trans hb⟩) ?_
  rintro qq w2 ⟨rfl, h2⟩
  replace h2 := Lib.hid h2
  go_simp
  refine hK _ _ h2.out ?_
  clear hK K
  refine held_only (i := 3) rfl (by kernel_rfl) (by rfl) (fun K hK => ?_)
  refine wp_fn (R := fun v w'' => ∃ g, v = .slice (some ⟨g, 0, none⟩) (n + 80) (n + 80) ∧ RowD w'' g (ds ++ List.replicate 80 mk0) ∧ Below w1.heap.size w1 w'') (args := #[.slice A n c, .agg (cells8 mk0).toArray]) _ _ rfl rfl Try.func14 (by kernel_rfl) (by kernel_rfl) ((hRo.out w2 (hb.out.trans (h2.out.mono hb.out.size))).mono fun e w'' ⟨g, he, _, hg, hk⟩ => ⟨_, he, g, rfl, hg, h2.out.trans (hk.mono h2.out.size)⟩) ?_
  rintro qq w3 ⟨g, rfl, hG, h3⟩
  replace hb := Lib.hid (hb.out.trans (h3.mono hb.out.size))
  replace hP := Lib.hid (Blk.onw hP.out h3)
  replace hG := Lib.hid hG
  replace h3 := Lib.hid h3
  go_simp
  refine hK _ _ h3.out ?_
  clear hK K
  refine held_take (i := 4) (v := .slice (some ⟨g, 0, none⟩) (n + 80) (n + 80)) rfl (by kernel_rfl) (by kernel_rfl) (by kernel_rfl) (fun _ _ _ h => h) h3.out (by rfl) (fun w' hw' => by first | go_simp | rfl) ?_
  (intro K hK; go_simp; refine hK _ ?_; clear hK K)
  refine held_end (by kernel_rfl) ?_
  have hSg := hS.out g
  go_wp2_with (first
    | ((with_reducible change wpList _ _ _ ({ dst := some 18, op := _, type := _, pos := _, after := _, guard := _ } :: _) _ _); refine wpList_load_row (o := ⟨some 18, _, _, _, _, _⟩) rfl 34 (.tmp 2) rfl (w.heap.size) rfl 34 (#[Value.int .i64 x1, Value.int .i64 x2, Value.slice A n c]) (0, 0) _ hP.out Try.underlying34 rfl sizeI ?_)
    | ((with_reducible change wpList _ _ _ ({ dst := none, op := Op.store 34 (.tmp 6) _, type := _, pos := _, after := _, guard := _ } :: _) _ _); refine wpList_store_whole (o := ⟨none, _, _, _, _, _⟩) rfl 34 (.tmp 6) (.tmp 18) rfl (w3.heap.size) (#[Value.int .i64 x1, Value.int .i64 x2, Value.slice A n c]) rfl rfl 34 (#[Value.int .i64 0, Value.int .i64 0, Value.slice none 0 0]) (Blk.new w3 _ _) sizeI rfl (oneI _ _ _ _ _) ?_; intro w4 hB6 hkx; have hk1 := kept_fresh hkx; have hglt : g < w3.heap.size := Blk.lt hG.out; replace hb := Lib.hid (hb.out.trans (hk1.mono hb.out.size)); replace hG := Lib.hid (hG.out.below hk1); have hPlt := hP.out.lt; replace hP := Lib.hid (Blk.onw hP.out hk1); generalize hg6 : w3.heap.size = g6 at *; have hg6w : Hid (w.heap.size < g6) := hPlt; have hgg : Hid (g ≠ g6) := (by show _ ≠ _; omega); have c5p : w4.cell? ⟨w.heap.size, 2, none⟩ = some (.slice A n c) := hP.out.cell 2; have c6 : w4.cell? ⟨g6, 2, none⟩ = some (.slice A n c) := Blk.cell hB6 2; have f6 := Blk.frozen hB6 2; have hkq : Kept (· = g6) w4 (w4.setCell ⟨g6, 2, none⟩ (.slice (some ⟨g, 0, none⟩) n (n + 80))) := (Kept.refl (· = g6) w4).setCell (.inl rfl) _; have hQ : Hid (Blk (w4.setCell ⟨g6, 2, none⟩ (.slice (some ⟨g, 0, none⟩) n (n + 80))) g6 34 #[Value.int .i64 x1, Value.int .i64 x2, Value.slice (some ⟨g, 0, none⟩) n (n + 80)]) := Blk.set_ hB6 2 _; replace hP : Hid (Blk (w4.setCell ⟨g6, 2, none⟩ (.slice (some ⟨g, 0, none⟩) n (n + 80))) w.heap.size 34 #[Value.int .i64 x1, Value.int .i64 x2, Value.slice A n c]) := hP.out.kept hkq (by have := hg6w.out; omega); replace hG : Hid (RowD (w4.setCell ⟨g6, 2, none⟩ (.slice (some ⟨g, 0, none⟩) n (n + 80))) g (ds ++ List.replicate 80 mk0)) := Blk.kept hG.out hkq hgg.out; replace hb : Hid (Below w.heap.size w (w4.setCell ⟨g6, 2, none⟩ (.slice (some ⟨g, 0, none⟩) n (n + 80)))) := hb.out.trans (Kept.below_of hkq (Nat.le_of_lt hg6w.out) hb.out.size); clear hk1 hkx hB6 hkq hPlt hg6 hgg hg6w hglt)
    | ((with_reducible change wpList _ _ _ ({ dst := some 26, op := _, type := _, pos := _, after := _, guard := _ } :: _) _ _); refine wpList_load_row (o := ⟨some 26, _, _, _, _, _⟩) rfl 34 (.tmp 6) rfl (g6) rfl 34 (#[Value.int .i64 x1, Value.int .i64 x2, Value.slice (some ⟨g, 0, none⟩) n (n + 80)]) (0, 0) _ hQ.out Try.underlying34 rfl sizeI ?_))
  generalize w4.setCell ⟨g6, 2, none⟩ (.slice (some ⟨g, 0, none⟩) n (n + 80)) = w5 at *
  clear c6 f6 c5p hSg hS
  refine (hEn.out w5 g hG.out).mono ?_
  rintro e w6 ⟨A4, c4, b, err, rfl, hrb, hbe, hk1⟩
  replace hb := Lib.hid (hb.out.trans (hk1.mono hb.out.size))
  replace hP := Lib.hid (Blk.onw hP.out hk1)
  replace hG := Lib.hid (hG.out.below hk1)
  replace hrb := Lib.hid hrb
  replace hbe := Lib.hid hbe
  clear hk1 hEn hQ
  go_wp2_with ((with_reducible change wpList _ _ _ ({ dst := some 30, op := _, type := _, pos := _, after := _, guard := _ } :: _) _ _); refine wpList_load_row (o := ⟨some 30, _, _, _, _, _⟩) rfl 34 (.tmp 2) rfl (w.heap.size) rfl 34 (#[Value.int .i64 x1, Value.int .i64 x2, Value.slice A n c]) (0, 0) _ hP.out Try.underlying34 rfl sizeI ?_)
  refine (hWa.out w6 hb.out).mono ?_
  rintro e w7 ⟨A5, c5, b5, rfl, hr5, hn5, hc5, hb5, hk1⟩
  replace hb := Lib.hid (hb.out.trans (hk1.mono hb.out.size))
  replace hP := Lib.hid (Blk.onw hP.out hk1)
  replace hG := Lib.hid (hG.out.below hk1)
  replace hrb := Lib.hid (hrb.out.below hk1)
  have hl5 : b5.length < 140737488355328 := by
    rcases hb5 with h | ⟨-, -, h⟩
    · exact hlen.out b5 h
    · rw [h]; decide
  have hRight : Hid (∀ w', Below w7.heap.size w7 w' → Calls Try.prog 17 #[.slice A4 b.length c4, .int .i64 err, .slice A5 b5.length c5] w' fun e w'' => e = .returned (.bool true) ∧ Below w'.heap.size w' w'') := fun w' h => by
    rcases hbe.out with ⟨h1, rfl⟩ | ⟨h1, rfl, rfl⟩
    · rcases hb5 with h2 | ⟨h2, -, -⟩
      · rw [h1] at h2
        obtain rfl := Option.some.inj h2
        cases A5 with
        | none =>
          have := want_pos h1
          have := (hn5 rfl).1
          omega
        | some a => exact right_some b b.length rfl (by omega) A4 c4 a c5 w' (hrb.out.below h) (hr5.below h)
      · rw [h1] at h2; cases h2
    · rcases hb5 with h2 | ⟨-, rfl, rfl⟩
      · rw [h1] at h2; cases h2
      · obtain ⟨rfl⟩ : c5 = 0 := (hn5 rfl).2
        exact right_none A4 c4 w'
  have hRw := Lib.hid (fun w' (h : Below w7.heap.size w7 w') => readsIncl_any b5 b5.length rfl hl5 A5 c5 hc5 w' (hr5.below h) hn5)
  clear hk1 hWa hr5 hn5 hc5 hb5 hl5 hrb hbe
  have hc7 : Hid (∀ w', Below w7.heap.size w7 w' → w'.cell? ⟨w.heap.size, 2, none⟩ = some (.slice A n c)) := fun w' h => (Blk.onw hP.out h).cell 2
  go_wp2_with fail
  have s0 : Hid (Below w7.heap.size w7 w7.drew) := (Below.refl _ _).drew
  refine held_start (fun w' => Below w7.heap.size w7 w') 13 rfl (by kernel_rfl) ?_
  refine held_take (i := 0) (v := .slice A4 b.length c4) rfl (by kernel_rfl) (by kernel_rfl) (by kernel_rfl) (fun _ _ _ h => h) s0.out (by rfl) (fun w' hw' => run_mv (.tmp 7) rfl w') ?_
  (intro K hK; go_simp; refine hK _ ?_; clear hK K)
  refine held_take (i := 1) (v := .int .i64 err) rfl (by kernel_rfl) (by kernel_rfl) (by kernel_rfl) (fun _ _ _ h => h) s0.out (by rfl) (fun w' hw' => run_mv (.tmp 8) rfl w') ?_
  (intro K hK; go_simp; refine hK _ ?_; clear hK K)
  refine held_take (i := 2) (v := .slice A5 b5.length c5) rfl (by kernel_rfl) (by kernel_rfl) (by kernel_rfl) (fun _ _ _ h => h) s0.out (by rfl) (fun w' hw' => run_mv (.tmp 9) rfl w') ?_
  (intro K hK; go_simp; refine hK _ ?_; clear hK K)
  refine held_only (i := 3) rfl (by kernel_rfl) (by rfl) (fun K hK => ?_)
  refine wp_fn (R := fun v w'' => v = .bool true ∧ Below w7.heap.size w7 w'') (args := #[.slice A4 b.length c4, .int .i64 err, .slice A5 b5.length c5]) _ _ rfl rfl Try.func17 (by kernel_rfl) (by kernel_rfl) ((hRight.out _ s0.out).mono fun e w'' ⟨he, hb⟩ => ⟨_, he, rfl, s0.out.trans hb⟩) ?_
  rintro qq w8 ⟨rfl, h8⟩
  replace h8 := Lib.hid h8
  go_simp
  refine hK _ _ h8.out ?_
  clear hK K
  refine held_take (i := 4) (v := .bool false) rfl (by kernel_rfl) (by kernel_rfl) (by kernel_rfl) (fun _ _ _ h => h) h8.out (by rfl) (fun w' hw' => by go_simp) ?_
  (intro K hK; go_simp; refine hK _ ?_; clear hK K)
  refine held_take (i := 5) (v := .bool false) rfl (by kernel_rfl) (by kernel_rfl) (by kernel_rfl) (fun _ _ _ h => h) h8.out (by rfl) (fun w' hw' => run_mv (.tmp 36) rfl w') ?_
  (intro K hK; go_simp; refine hK _ ?_; clear hK K)
  refine held_take (i := 6) (v := .slice (some ⟨g, 0, none⟩) (n + 80) (n + 80)) rfl (by kernel_rfl) (by kernel_rfl) (by kernel_rfl) (fun _ _ _ h => h) h8.out (by rfl) (fun w' hw' => run_mv (.tmp 5) rfl w') ?_
  (intro K hK; go_simp; refine hK _ ?_; clear hK K)
  refine held_take (i := 7) (v := .pointer (some ⟨w.heap.size, 2, none⟩)) rfl (by kernel_rfl) (by kernel_rfl) (by kernel_rfl) (fun _ _ _ h => h) h8.out (by rfl) (fun w' hw' => by go_simp) ?_
  (intro K hK; go_simp; refine hK _ ?_; clear hK K)
  refine held_take (i := 8) (v := .slice A n c) rfl (by kernel_rfl) (by kernel_rfl) (by kernel_rfl) (fun _ _ _ h => h) h8.out (by rfl) (fun w' hw' => by have h := hc7.out w' hw'; go_simp) ?_
  (intro K hK; go_simp; refine hK _ ?_; clear hK K)
  refine held_only (i := 9) rfl (by kernel_rfl) (by rfl) (fun K hK => ?_)
  refine wp_fn (R := fun v w'' => v = .agg (cells8 mk0).toArray ∧ Below w7.heap.size w7 w'') (args := #[]) _ _ rfl rfl Try.func15 (by kernel_rfl) (by kernel_rfl) ((hMK.out _).mono fun e w'' ⟨he, hb⟩ => ⟨_, he, rfl, h8.out.trans (hb.mono h8.out.size)⟩) ?_
  rintro qq w9 ⟨rfl, h8b⟩
  replace h8b := Lib.hid h8b
  go_simp
  refine hK _ _ h8b.out ?_
  clear hK K
  refine held_only (i := 10) rfl (by kernel_rfl) (by rfl) (fun K hK => ?_)
  refine wp_fn (R := fun v w'' => v = .bool true ∧ Below w7.heap.size w7 w'') (args := #[.slice (some ⟨g, 0, none⟩) (n + 80) (n + 80), .slice A n c, .agg (cells8 mk0).toArray]) _ _ rfl rfl Try.func18 (by kernel_rfl) (by kernel_rfl) ((hIt.out w9 g (hG.out.below h8b.out) (hb.out.trans (h8b.out.mono hb.out.size))).mono fun e w'' ⟨he, hb⟩ => ⟨_, he, rfl, h8b.out.trans (hb.mono h8b.out.size)⟩) ?_
  rintro qq w10 ⟨rfl, h9⟩
  replace h9 := Lib.hid h9
  go_simp
  refine hK _ _ h9.out ?_
  clear hK K
  refine held_take (i := 11) (v := .bool false) rfl (by kernel_rfl) (by kernel_rfl) (by kernel_rfl) (fun _ _ _ h => h) h9.out (by rfl) (fun w' hw' => by go_simp) ?_
  (intro K hK; go_simp; refine hK _ ?_; clear hK K)
  refine held_take (i := 12) (v := .bool false) rfl (by kernel_rfl) (by kernel_rfl) (by kernel_rfl) (fun _ _ _ h => h) h9.out (by rfl) (fun w' hw' => by go_simp) ?_
  (intro K hK; go_simp; refine hK _ ?_; clear hK K)
  refine held_end (by kernel_rfl) ?_
  go_wp2_with fail
  refine (hRq.out w10 (hb.out.trans (h9.out.mono hb.out.size))).mono ?_
  rintro e w11 ⟨rfl, hk1⟩
  have h11 : Hid (Below w7.heap.size w7 w11) := h9.out.trans (hk1.mono h9.out.size)
  clear hk1
  go_wp2_with fail
  refine (hRw.out w11 h11.out).mono ?_
  rintro e w12 ⟨rfl, hk1⟩
  have hfin : Hid (Below w.heap.size w w12) := hb.out.trans ((h11.out.trans (hk1.mono h11.out.size)).mono hb.out.size)
  go_wp2_with fail
  go_ret
  exact ⟨rfl, hfin.out⟩
end Go.Proofs.Ytngieimjlkpkaaa.ProofInclusions
