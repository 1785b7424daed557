/-
  Texts of the claim, put into one file: AudIncl, Way20, TextAt.
-/
import Derived.Test.YtmdkfhfkdcbpgaaDoorRZ30

namespace Go.Proofs.YtmdkfhfkdcbpgaaDoorR.AudIncl
open Go Go.RowKit Go.Proofs.YtmdkfhfkdcbpgaaDoorR Go.Proofs.YtmdkfhfkdcbpgaaDoorR.Mem Go.Proofs.YtmdkfhfkdcbpgaaDoorR.Sha Go.Proofs.YtmdkfhfkdcbpgaaDoorR.Bytes Go.Proofs.YtmdkfhfkdcbpgaaDoorR.HashMem Go.Proofs.YtmdkfhfkdcbpgaaDoorR.DigestMem Go.Proofs.YtmdkfhfkdcbpgaaDoorR.Digest Go.Proofs.YtmdkfhfkdcbpgaaDoorR.DigestTop Go.Proofs.YtmdkfhfkdcbpgaaDoorR.RefTop Go.Proofs.YtmdkfhfkdcbpgaaDoorR.QuietTail Go.Proofs.YtmdkfhfkdcbpgaaDoorR.Grown Go.Proofs.YtmdkfhfkdcbpgaaDoorR.Chain Go.Proofs.YtmdkfhfkdcbpgaaDoorR.TreeMem Go.Proofs.YtmdkfhfkdcbpgaaDoorR.TreeRoot Go.Proofs.YtmdkfhfkdcbpgaaDoorR.Held Go.Proofs.YtmdkfhfkdcbpgaaDoorR.Guard Go.Proofs.YtmdkfhfkdcbpgaaDoorR.Sides Go.Proofs.YtmdkfhfkdcbpgaaDoorR.Node Go.Proofs.YtmdkfhfkdcbpgaaDoorR.Climb Go.Proofs.YtmdkfhfkdcbpgaaDoorR.Incl Go.Proofs.YtmdkfhfkdcbpgaaDoorR.Include Go.Proofs.YtmdkfhfkdcbpgaaDoorR.RefIncl0 Go.Proofs.YtmdkfhfkdcbpgaaDoorR.RefIncl Go.Proofs.YtmdkfhfkdcbpgaaDoorR.ProofEnc Go.Proofs.YtmdkfhfkdcbpgaaDoorR.Ref17 Go.Proofs.YtmdkfhfkdcbpgaaDoorR.InclAll Go.Proofs.YtmdkfhfkdcbpgaaDoorR.Book Go.Proofs.YtmdkfhfkdcbpgaaDoorR.Book2 Go.Proofs.YtmdkfhfkdcbpgaaDoorR.Within

theorem _root_.Go.Proofs.YtmdkfhfkdcbpgaaDoorR.Mem.Blk.onw {w w' : World} {g : Nat} {t : TypeId} {cs : Array Value} (h : Blk w g t cs) (hb : Below w.heap.size w w') : Blk w' g t cs := (hb.block g h.lt).trans h
theorem sizeI : (Tryd.prog.info? 31).map (·.size) = some 3 := by kernel_rfl
/-- What it answers whether an event and its proof lead to a root. -/
def audIncl (s : Int) (root ev : Text) (x1 x2 : Int) (ds : List Text) : Int :=
  if inclWant x1 x2 ds = none ∨ ev.length < 1 ∨ 65536 < ev.length ∨ withinB s ds = false then 170
  else if (inclOf s x1 x2 (leafOf s ev) [] ds).1 = root then 0 else 171
theorem want_zero {s x1 x2 : Int} {leaf : Text} {ds : List Text} {b : Text} (h : inclWant x1 x2 ds = some b) : (inclOf s x1 x2 leaf [] ds).2.1 = 0 := by
  unfold inclWant at h
  split at h
  · rename_i hh
    unfold inclOf
    rw [if_neg (by rw [show WayP.insideB x1 x2 = true from hh.1]; decide), if_neg (fun e => e hh.2)]
  · cases h
theorem audIncl_none {s : Int} {root ev : Text} {x1 x2 : Int} {ds : List Text} (h : inclWant x1 x2 ds = none) : audIncl s root ev x1 x2 ds = 170 := if_pos (.inl h)
theorem audIncl_short {s : Int} {root ev : Text} {x1 x2 : Int} {ds : List Text} (h : ev.length < 1) : audIncl s root ev x1 x2 ds = 170 := if_pos (.inr (.inl h))
theorem audIncl_long {s : Int} {root ev : Text} {x1 x2 : Int} {ds : List Text} (h : 65536 < ev.length) : audIncl s root ev x1 x2 ds = 170 := if_pos (.inr (.inr (.inl h)))
theorem audIncl_wide {s : Int} {root ev : Text} {x1 x2 : Int} {ds : List Text} (h : withinB s ds = false) : audIncl s root ev x1 x2 ds = 170 := if_pos (.inr (.inr (.inr h)))
theorem audIncl_in {s : Int} {root ev : Text} {x1 x2 : Int} {ds : List Text} {b : Text} (h : inclWant x1 x2 ds = some b) (h1 : ¬ ev.length < 1) (h2 : ¬ 65536 < ev.length) (h3 : withinB s ds = true) : audIncl s root ev x1 x2 ds = if (inclOf s x1 x2 (leafOf s ev) [] ds).1 = root then 0 else 171 := by
  unfold audIncl
  rw [if_neg]
  rintro (h' | h' | h' | h')
  · rw [h] at h'; cases h'
  · exact h1 h'
  · exact h2 h'
  · rw [h3] at h'; cases h'

set_option maxRecDepth 100000 in
set_option maxHeartbeats 2000000 in
theorem audIncl_any (s : Int) (root : Text) (hrt : root.length = 32) (ev : Text) (k : Nat) (hk : ev.length = k) (hk47 : k < 140737488355328) (A : Option Addr) (c : Nat) (hkc : k ≤ c) (hnil : A = none → k = 0 ∧ c = 0) (x1 x2 : Int) (ds : List Text) (A2 : Option Addr) (n c2 : Nat) (hn40 : n < 1099511627776) (w : World) (hB : Base w) (hr : Reads w 1 A k (cells8 ev)) (hrd : RdD w A2 n ds) :
    Calls Tryd.prog 193 #[.int .i64 s, .agg (cells8 root).toArray, .slice A k c, .agg (inclCells x1 x2 A2 n c2)] w fun e w' => e = .returned (.int .i64 (audIncl s root ev x1 x2 ds)) ∧ Below w.heap.size w w' := by
  unfold inclCells
  obtain ⟨W, hW⟩ : ∃ W, Hid (W = (w.alloc (.cells (cells8 root).toArray 23)).alloc (.cells #[Value.int .i64 x1, Value.int .i64 x2, Value.slice A2 n c2] 31)) := ⟨_, rfl⟩
  have hb1 : Hid (Below w.heap.size w W) := by show Below _ _ _; rw [hW.out]; exact ((Below.refl _ w).alloc (Nat.le_refl _) _).alloc (by simp) _
  have hR1 : Hid (Blk W w.heap.size 23 (cells8 root).toArray) := by show Blk _ _ _ _; rw [hW.out]; exact heap_alloc2_old w _ _
  have hP1 : Hid (Blk W (w.heap.size + 1) 31 #[Value.int .i64 x1, Value.int .i64 x2, Value.slice A2 n c2]) := by show Blk _ _ _ _; rw [hW.out]; exact heap_alloc2_new w _ _
  have Fr := Lib.hid (fit (x := root) hrt)
  obtain ⟨⟨x, kk, ts⟩, hX⟩ : ∃ X, inclOf s x1 x2 (leafOf s ev) [] ds = X := ⟨_, rfl⟩
  have hxl := inclOf_len s x1 x2 (leafOf s ev) [] ds (leafOf_len s ev)
  have hzero := Lib.hid (fun b (h : inclWant x1 x2 ds = some b) => want_zero (s := s) (leaf := leafOf s ev) h)
  rw [hX] at hxl hzero
  dsimp only at hxl hzero
  have F := Lib.hid (fit (x := x) hxl)
  have hq := Lib.hid (fun w => neq_dg x root hxl hrt w)
  obtain ⟨lf, hlf⟩ : ∃ lf, Hid (leafOf s ev = lf) := ⟨_, Lib.hid rfl⟩
  have hlfl : Hid (lf.length = 32) := by show _ = _; rw [← hlf.out]; exact leafOf_len s ev
  have hWi : Hid (∀ w', Below w.heap.size w w' → Calls Tryd.prog 196 #[.int .i64 s, .slice A2 n c2] w' fun e w'' => e = .returned (.bool (withinB s ds)) ∧ Below w'.heap.size w' w'') := fun w' hb => within_any s ds n (by omega) A2 c2 w' (hrd.below hb)
  have hLf : Hid (∀ w', Below w.heap.size w w' → Calls Tryd.prog 23 #[.int .i64 s, .slice A k c] w' fun e w'' => e = .returned (.agg (cells8 lf).toArray) ∧ Below w'.heap.size w' w'') := fun w' hb => by
    have := leaf_any ev k hk A c s w' (hB.below hb hB.1) hk47 (hr.below hb) hkc hnil
    rw [← hlf.out]
    exact this
  have hsome := Lib.hid (fun b (h : inclWant x1 x2 ds = some b) h1 h2 h3 => audIncl_in (s := s) (root := root) (ev := ev) h h1 h2 h3)
  rw [hX] at hsome
  dsimp only at hsome
  have hIn : Hid (∀ w', Below w.heap.size w w' → Calls Tryd.prog 197 #[.int .i64 s, .int .i64 x1, .int .i64 x2, .agg (cells8 lf).toArray, .slice A2 n c2] w' fun e w'' => e = .returned (.tuple #[.agg (cells8 x).toArray, .int .i64 kk]) ∧ Below w'.heap.size w' w'') := fun w' hb => by
    have := include_any s x1 x2 lf hlfl.out ds A2 n c2 (by omega) w' (hB.below hb hB.1) (hrd.below hb)
    rw [← hlf.out] at this
    rw [hX] at this
    rw [← hlf.out]
    exact this
  have hEn : Hid (∀ w', Below w.heap.size w w' → Calls Tryd.prog 195 #[.agg #[Value.int .i64 x1, Value.int .i64 x2, Value.slice A2 n c2]] w' fun e w'' => ∃ A4 c4 b err, e = .returned (.tuple #[.slice A4 b.length c4, .int .i64 err]) ∧ Reads w'' 1 A4 b.length (cells8 b) ∧ ((inclWant x1 x2 ds = some b ∧ err = 0) ∨ (inclWant x1 x2 ds = none ∧ b = [] ∧ err = 170)) ∧ Below w'.heap.size w' w'') := fun w' hb => encIncl_any x1 x2 ds A2 n c2 w' (hrd.below hb)
  have hnoneA := Lib.hid (fun h => audIncl_none (s := s) (root := root) (ev := ev) (x1 := x1) (x2 := x2) (ds := ds) h)
  have hshortA := Lib.hid (fun h => audIncl_short (s := s) (root := root) (ev := ev) (x1 := x1) (x2 := x2) (ds := ds) h)
  have hlongA := Lib.hid (fun h => audIncl_long (s := s) (root := root) (ev := ev) (x1 := x1) (x2 := x2) (ds := ds) h)
  have hwideA := Lib.hid (fun h => audIncl_wide (s := s) (root := root) (ev := ev) (x1 := x1) (x2 := x2) (ds := ds) h)
  obtain ⟨ans, hans⟩ : ∃ a, Hid (audIncl s root ev x1 x2 ds = a) := ⟨_, Lib.hid rfl⟩
  rw [hans.out] at hsome hnoneA hshortA hlongA hwideA ⊢
  have hkh := Lib.hid hk
  rw [hkh.out] at hsome hshortA hlongA
  clear hrt hk hk47 hkc hnil hn40 hr hrd hX hxl hB
  go_enter Tryd.func193, Tryd.ntmps193
  go_wp2_with fail
  change Calls _ _ _ ((w.alloc (.cells (cells8 root).toArray 23)).alloc (.cells #[Value.int .i64 x1, Value.int .i64 x2, Value.slice A2 n c2] 31)) _
  rw [← hW.out]
  clear hW
  refine (hEn.out W hb1.out).mono ?_
  rintro e w2 ⟨A4, c4, b, err, rfl, -, hbe, hk1⟩
  have hb2 : Hid (Below w.heap.size w w2) := hb1.out.trans (hk1.mono hb1.out.size)
  have hR2 : Hid (Blk w2 w.heap.size 23 (cells8 root).toArray) := Blk.onw hR1.out hk1
  have hP2 : Hid (Blk w2 (w.heap.size + 1) 31 #[Value.int .i64 x1, Value.int .i64 x2, Value.slice A2 n c2]) := Blk.onw hP1.out hk1
  clear hk1 hEn
  rcases hbe with ⟨hwt, rfl⟩ | ⟨hwt, rfl, rfl⟩
  · by_cases hs1 : k < 1
    · obtain rfl := hshortA.out hs1
      have y1 : (k : Int) < 1 := by omega
      clear hans hwt
      go_wp2_with fail
      go_ret
      exact ⟨rfl, hb2.out⟩
    · by_cases hs2 : 65536 < k
      · obtain rfl := hlongA.out hs2
        have y1 : ¬ ((k : Int) < 1) := by omega
        have y2 : (65536 : Int) < (k : Int) := by omega
        clear hans hwt hs1
        go_wp2_with fail
        go_ret
        exact ⟨rfl, hb2.out⟩
      · have y1 : ¬ ((k : Int) < 1) := by omega
        have y2 : ¬ ((65536 : Int) < (k : Int)) := by omega
        have hWd := Lib.hid (hWi.out w2 hb2.out)
        have hsm := Lib.hid (hsome.out b hwt hs1 hs2)
        obtain rfl : kk = 0 := hzero.out b hwt
        clear hshortA hlongA hnoneA hwt hs1 hs2 hzero hsome
        have c2' : w2.cell? ⟨w.heap.size + 1, 2, none⟩ = some (.slice A2 n c2) := hP2.out.cell 2
        cases hwi : withinB s ds with
        | false =>
          obtain rfl := hwideA.out hwi
          rw [hwi] at hWd
          clear hwi hsm hans
          go_wp2_with (go_at_call 196; refine hWd.out.mono ?_; rintro e w3 ⟨rfl, hk1⟩; have hb3 : Hid (Below w.heap.size w w3) := hb2.out.trans (hk1.mono hb2.out.size); have hR3 : Hid (Blk w3 w.heap.size 23 (cells8 root).toArray) := Blk.onw hR2.out hk1; have hP3 : Hid (Blk w3 (w.heap.size + 1) 31 #[Value.int .i64 x1, Value.int .i64 x2, Value.slice A2 n c2]) := Blk.onw hP2.out hk1; clear hk1)
          go_ret
          exact ⟨rfl, hb3.out⟩
        | true =>
          have hsm2 := Lib.hid (hsm.out hwi)
          rw [hwi] at hWd
          clear hwi hsm hwideA hans
          go_wp2_with (go_at_call 196; refine hWd.out.mono ?_; rintro e w3 ⟨rfl, hk1⟩; have hb3 : Hid (Below w.heap.size w w3) := hb2.out.trans (hk1.mono hb2.out.size); have hR3 : Hid (Blk w3 w.heap.size 23 (cells8 root).toArray) := Blk.onw hR2.out hk1; have hP3 : Hid (Blk w3 (w.heap.size + 1) 31 #[Value.int .i64 x1, Value.int .i64 x2, Value.slice A2 n c2]) := Blk.onw hP2.out hk1; clear hk1)
          go_cut [11, 12] from 37 to 50 (fun v u wr => ∃ m : Nat, v = .pointer (some ⟨m, 0, none⟩) ∧ u = .int .i64 0 ∧ Hid (Blk wr m 23 (cells8 x).toArray) ∧ Hid (Below w3.heap.size w3 wr))
          case first =>
            have s0 : Hid (Below w3.heap.size w3 w3.drew) := (Below.refl _ _).drew
            refine held_start (fun w' => Below w3.heap.size w3 w') 17 rfl (by kernel_rfl) ?_
            refine held_take (i := 0) (v := .int .i64 s) rfl (by kernel_rfl) (by kernel_rfl) (by kernel_rfl) (fun _ _ _ h => h) s0.out (by rfl) (fun w' hw' => run_mv (.tmp 0) rfl w') ?_
            (intro K hK; go_simp; refine hK _ ?_; clear hK K)
            refine held_take (i := 1) (v := .pointer (some ⟨w.heap.size + 1, 0, none⟩)) rfl (by kernel_rfl) (by kernel_rfl) (by kernel_rfl) (fun _ _ _ h => h) s0.out (by rfl) (fun w' hw' => by go_simp) ?_
            (intro K hK; go_simp; refine hK _ ?_; clear hK K)
            refine held_take (i := 2) (v := .int .i64 x1) rfl (by kernel_rfl) (by kernel_rfl) (by kernel_rfl) (fun _ _ _ h => h) s0.out (by rfl) (fun w' hw' => by have h := (Blk.onw hP3.out hw').cell 0; go_simp) ?_
            (intro K hK; go_simp; refine hK _ ?_; clear hK K)
            refine held_take (i := 3) (v := .pointer (some ⟨w.heap.size + 1, 1, none⟩)) rfl (by kernel_rfl) (by kernel_rfl) (by kernel_rfl) (fun _ _ _ h => h) s0.out (by rfl) (fun w' hw' => by go_simp) ?_
            (intro K hK; go_simp; refine hK _ ?_; clear hK K)
            refine held_take (i := 4) (v := .int .i64 x2) rfl (by kernel_rfl) (by kernel_rfl) (by kernel_rfl) (fun _ _ _ h => h) s0.out (by rfl) (fun w' hw' => by have h := (Blk.onw hP3.out hw').cell 1; go_simp) ?_
            (intro K hK; go_simp; refine hK _ ?_; clear hK K)
            refine held_take (i := 5) (v := .int .i64 s) rfl (by kernel_rfl) (by kernel_rfl) (by kernel_rfl) (fun _ _ _ h => h) s0.out (by rfl) (fun w' hw' => run_mv (.tmp 0) rfl w') ?_
            (intro K hK; go_simp; refine hK _ ?_; clear hK K)
            refine held_take (i := 6) (v := .slice A k c) rfl (by kernel_rfl) (by kernel_rfl) (by kernel_rfl) (fun _ _ _ h => h) s0.out (by rfl) (fun w' hw' => run_mv (.tmp 2) rfl w') ?_
            (intro K hK; go_simp; refine hK _ ?_; clear hK K)
            refine held_take (i := 8) (v := .pointer (some ⟨w.heap.size + 1, 2, none⟩)) rfl (by kernel_rfl) (by kernel_rfl) (by kernel_rfl) (fun _ _ _ h => h) s0.out (by rfl) (fun w' hw' => by go_simp) ?_
            (intro K hK; go_simp; refine hK _ ?_; clear hK K)
            refine held_take (i := 9) (v := .slice A2 n c2) rfl (by kernel_rfl) (by kernel_rfl) (by kernel_rfl) (fun _ _ _ h => h) s0.out (by rfl) (fun w' hw' => by have h := (Blk.onw hP3.out hw').cell 2; go_simp) ?_
            (intro K hK; go_simp; refine hK _ ?_; clear hK K)
            refine held_two (i := 7) (j := 14) rfl rfl (by kernel_rfl) (by rfl) (by rfl) (fun K hK => ?_) (fun K hK => ?_)
            · refine wp_fn (R := fun v w'' => v = .agg (cells8 lf).toArray ∧ Below w3.heap.size w3 w'' ∧ Below (w3.drew).heap.size (w3.drew) w'') (args := #[.int .i64 s, .slice A k c]) _ _ rfl rfl Tryd.func23 (by kernel_rfl) (by kernel_rfl) ((hLf.out _ (hb3.out.trans ((s0.out).mono hb3.out.size))).mono fun e w'' ⟨he, hb⟩ => ⟨_, he, rfl, s0.out.trans (hb.mono s0.out.size), hb⟩) ?_
              rintro qq w5 ⟨rfl, h5, kk1⟩
              replace h5 := Lib.hid h5
              replace kk1 := Lib.hid kk1
              clear kk1
              go_simp
              refine hK _ _ h5.out ?_
              clear hK K
              refine held_two (i := 10) (j := 14) rfl rfl (by kernel_rfl) (by rfl) (by rfl) (fun K hK => ?_) (fun K hK => ?_)
              · refine wp_fn (R := fun v w'' => v = .tuple #[.agg (cells8 x).toArray, .int .i64 0] ∧ Below w3.heap.size w3 w'' ∧ Below (w5).heap.size (w5) w'') (args := #[.int .i64 s, .int .i64 x1, .int .i64 x2, .agg (cells8 lf).toArray, .slice A2 n c2]) _ _ rfl rfl Tryd.func197 (by kernel_rfl) (by kernel_rfl) ((hIn.out _ (hb3.out.trans ((h5.out).mono hb3.out.size))).mono fun e w'' ⟨he, hb⟩ => ⟨_, he, rfl, h5.out.trans (hb.mono h5.out.size), hb⟩) ?_
                rintro qq w6 ⟨rfl, h6, kk1⟩
                replace h6 := Lib.hid h6
                replace kk1 := Lib.hid kk1
                clear kk1
                go_simp
                refine hK _ _ h6.out ?_
                clear hK K
                refine held_take (i := 11) (v := .tuple #[.agg (cells8 x).toArray, .int .i64 0]) rfl (by kernel_rfl) (by kernel_rfl) (by kernel_rfl) (fun _ _ _ h => h) h6.out (by rfl) (fun w' hw' => run_mv (.tmp 48) rfl w') ?_
                (intro K hK; go_simp; refine hK _ ?_; clear hK K)
                refine held_take (i := 12) (v := .agg (cells8 x).toArray) rfl (by kernel_rfl) (by kernel_rfl) (by kernel_rfl) (fun _ _ _ h => h) h6.out (by rfl) (fun w' hw' => by go_simp) ?_
                (intro K hK; go_simp; refine hK _ ?_; clear hK K)
                refine held_take (i := 13) (v := .int .i64 0) rfl (by kernel_rfl) (by kernel_rfl) (by kernel_rfl) (fun _ _ _ h => h) h6.out (by rfl) (fun w' hw' => by go_simp) ?_
                (intro K hK; go_simp; refine hK _ ?_; clear hK K)
                refine held_only (i := 14) rfl (by kernel_rfl) (by rfl) (fun K hK => ?_)
                have h7 := Lib.hid (h6.out.alloc h6.out.size (.cells Z32 23))
                have bb : Hid (Blk (w6.alloc (.cells Z32 23)) w6.heap.size 23 Z32) := Blk.new _ _ _
                go_simp
                refine hK _ _ h7.out ?_
                clear hK K
                refine held_only (i := 15) rfl (by kernel_rfl) (by rfl) (fun K hK => ?_)
                refine wp_store_whole 23 (.tmp 11) (.tmp 49) rfl (w6.heap.size) ((cells8 x).toArray) rfl rfl 23 (Z32) (bb.out) F.out.size F.out.zero F.out.one ?_
                intro w99 B9 k9
                have b9 : Hid (Below w3.heap.size w3 w99) := h7.out.trans (Kept.below_of k9 (h6.out.size) h7.out.size)
                go_simp
                refine hK _ _ b9.out ?_
                clear hK K
                refine held_take (i := 16) (v := .int .i64 0) rfl (by kernel_rfl) (by kernel_rfl) (by kernel_rfl) (fun _ _ _ h => h) b9.out (by rfl) (fun w' hw' => by first | go_simp | rfl) ?_
                (intro K hK; go_simp; refine hK _ ?_; clear hK K)
                refine held_end (by kernel_rfl) ?_
                go_wp2_with fail
                go_meet
                case rel => exact ⟨_, rfl, rfl, B9, b9.out⟩
              · have h6 := Lib.hid (h5.out.alloc h5.out.size (.cells Z32 23))
                have bb : Hid (Blk (w5.alloc (.cells Z32 23)) w5.heap.size 23 Z32) := Blk.new _ _ _
                go_simp
                refine hK _ _ h6.out ?_
                clear hK K
                refine held_only (i := 10) rfl (by kernel_rfl) (by rfl) (fun K hK => ?_)
                refine wp_fn (R := fun v w'' => v = .tuple #[.agg (cells8 x).toArray, .int .i64 0] ∧ Below w3.heap.size w3 w'' ∧ Below ((w5.alloc (.cells Z32 23))).heap.size ((w5.alloc (.cells Z32 23))) w'') (args := #[.int .i64 s, .int .i64 x1, .int .i64 x2, .agg (cells8 lf).toArray, .slice A2 n c2]) _ _ rfl rfl Tryd.func197 (by kernel_rfl) (by kernel_rfl) ((hIn.out _ (hb3.out.trans ((h6.out).mono hb3.out.size))).mono fun e w'' ⟨he, hb⟩ => ⟨_, he, rfl, h6.out.trans (hb.mono h6.out.size), hb⟩) ?_
                rintro qq w7 ⟨rfl, h7, kk1⟩
                replace h7 := Lib.hid h7
                replace kk1 := Lib.hid kk1
                replace bb := Lib.hid ((kk1.out.block _ (Blk.lt bb.out)).trans bb.out)
                clear kk1
                go_simp
                refine hK _ _ h7.out ?_
                clear hK K
                refine held_take (i := 11) (v := .tuple #[.agg (cells8 x).toArray, .int .i64 0]) rfl (by kernel_rfl) (by kernel_rfl) (by kernel_rfl) (fun _ _ _ h => h) h7.out (by rfl) (fun w' hw' => run_mv (.tmp 48) rfl w') ?_
                (intro K hK; go_simp; refine hK _ ?_; clear hK K)
                refine held_take (i := 12) (v := .agg (cells8 x).toArray) rfl (by kernel_rfl) (by kernel_rfl) (by kernel_rfl) (fun _ _ _ h => h) h7.out (by rfl) (fun w' hw' => by go_simp) ?_
                (intro K hK; go_simp; refine hK _ ?_; clear hK K)
                refine held_take (i := 13) (v := .int .i64 0) rfl (by kernel_rfl) (by kernel_rfl) (by kernel_rfl) (fun _ _ _ h => h) h7.out (by rfl) (fun w' hw' => by go_simp) ?_
                (intro K hK; go_simp; refine hK _ ?_; clear hK K)
                refine held_only (i := 15) rfl (by kernel_rfl) (by rfl) (fun K hK => ?_)
                refine wp_store_whole 23 (.tmp 11) (.tmp 49) rfl (w5.heap.size) ((cells8 x).toArray) rfl rfl 23 (Z32) (bb.out) F.out.size F.out.zero F.out.one ?_
                intro w99 B9 k9
                have b9 : Hid (Below w3.heap.size w3 w99) := h7.out.trans (Kept.below_of k9 (h5.out.size) h7.out.size)
                go_simp
                refine hK _ _ b9.out ?_
                clear hK K
                refine held_take (i := 16) (v := .int .i64 0) rfl (by kernel_rfl) (by kernel_rfl) (by kernel_rfl) (fun _ _ _ h => h) b9.out (by rfl) (fun w' hw' => by first | go_simp | rfl) ?_
                (intro K hK; go_simp; refine hK _ ?_; clear hK K)
                refine held_end (by kernel_rfl) ?_
                go_wp2_with fail
                go_meet
                case rel => exact ⟨_, rfl, rfl, B9, b9.out⟩
            · have h5 := Lib.hid (s0.out.alloc s0.out.size (.cells Z32 23))
              have bb : Hid (Blk (w3.drew.alloc (.cells Z32 23)) w3.heap.size 23 Z32) := Blk.new _ _ _
              go_simp
              refine hK _ _ h5.out ?_
              clear hK K
              refine held_only (i := 7) rfl (by kernel_rfl) (by rfl) (fun K hK => ?_)
              refine wp_fn (R := fun v w'' => v = .agg (cells8 lf).toArray ∧ Below w3.heap.size w3 w'' ∧ Below ((w3.drew.alloc (.cells Z32 23))).heap.size ((w3.drew.alloc (.cells Z32 23))) w'') (args := #[.int .i64 s, .slice A k c]) _ _ rfl rfl Tryd.func23 (by kernel_rfl) (by kernel_rfl) ((hLf.out _ (hb3.out.trans ((h5.out).mono hb3.out.size))).mono fun e w'' ⟨he, hb⟩ => ⟨_, he, rfl, h5.out.trans (hb.mono h5.out.size), hb⟩) ?_
              rintro qq w6 ⟨rfl, h6, kk1⟩
              replace h6 := Lib.hid h6
              replace kk1 := Lib.hid kk1
              replace bb := Lib.hid ((kk1.out.block _ (Blk.lt bb.out)).trans bb.out)
              clear kk1
              go_simp
              refine hK _ _ h6.out ?_
              clear hK K
              refine held_only (i := 10) rfl (by kernel_rfl) (by rfl) (fun K hK => ?_)
              refine wp_fn (R := fun v w'' => v = .tuple #[.agg (cells8 x).toArray, .int .i64 0] ∧ Below w3.heap.size w3 w'' ∧ Below (w6).heap.size (w6) w'') (args := #[.int .i64 s, .int .i64 x1, .int .i64 x2, .agg (cells8 lf).toArray, .slice A2 n c2]) _ _ rfl rfl Tryd.func197 (by kernel_rfl) (by kernel_rfl) ((hIn.out _ (hb3.out.trans ((h6.out).mono hb3.out.size))).mono fun e w'' ⟨he, hb⟩ => ⟨_, he, rfl, h6.out.trans (hb.mono h6.out.size), hb⟩) ?_
              rintro qq w7 ⟨rfl, h7, kk1⟩
              replace h7 := Lib.hid h7
              replace kk1 := Lib.hid kk1
              replace bb := Lib.hid ((kk1.out.block _ (Blk.lt bb.out)).trans bb.out)
              clear kk1
              go_simp
              refine hK _ _ h7.out ?_
              clear hK K
              refine held_take (i := 11) (v := .tuple #[.agg (cells8 x).toArray, .int .i64 0]) rfl (by kernel_rfl) (by kernel_rfl) (by kernel_rfl) (fun _ _ _ h => h) h7.out (by rfl) (fun w' hw' => run_mv (.tmp 48) rfl w') ?_
              (intro K hK; go_simp; refine hK _ ?_; clear hK K)
              refine held_take (i := 12) (v := .agg (cells8 x).toArray) rfl (by kernel_rfl) (by kernel_rfl) (by kernel_rfl) (fun _ _ _ h => h) h7.out (by rfl) (fun w' hw' => by go_simp) ?_
              (intro K hK; go_simp; refine hK _ ?_; clear hK K)
              refine held_take (i := 13) (v := .int .i64 0) rfl (by kernel_rfl) (by kernel_rfl) (by kernel_rfl) (fun _ _ _ h => h) h7.out (by rfl) (fun w' hw' => by go_simp) ?_
              (intro K hK; go_simp; refine hK _ ?_; clear hK K)
              refine held_only (i := 15) rfl (by kernel_rfl) (by rfl) (fun K hK => ?_)
              refine wp_store_whole 23 (.tmp 11) (.tmp 49) rfl (w3.heap.size) ((cells8 x).toArray) rfl rfl 23 (Z32) (bb.out) F.out.size F.out.zero F.out.one ?_
              intro w99 B9 k9
              have b9 : Hid (Below w3.heap.size w3 w99) := h7.out.trans (Kept.below_of k9 (s0.out.size) h7.out.size)
              go_simp
              refine hK _ _ b9.out ?_
              clear hK K
              refine held_take (i := 16) (v := .int .i64 0) rfl (by kernel_rfl) (by kernel_rfl) (by kernel_rfl) (fun _ _ _ h => h) b9.out (by rfl) (fun w' hw' => by first | go_simp | rfl) ?_
              (intro K hK; go_simp; refine hK _ ?_; clear hK K)
              refine held_end (by kernel_rfl) ?_
              go_wp2_with fail
              go_meet
              case rel => exact ⟨_, rfl, rfl, B9, b9.out⟩
          case rest =>
            obtain ⟨m, rfl, rfl, hM, hk4⟩ := hcut
            have hb4 : Hid (Below w.heap.size w wc) := hb3.out.trans (hk4.out.mono hb3.out.size)
            have hR4 : Hid (Blk wc w.heap.size 23 (cells8 root).toArray) := Blk.onw hR3.out hk4.out
            clear hk4
            by_cases hxr : x = root
            · have hqq : Hid (∀ w, (Op.equalIn 10000 23 (.agg (cells8 x).toArray) (.agg (cells8 root).toArray)).run Tryd.prog w = .ok true w) := fun w => by rw [hq.out w, decide_eq_true hxr]
              have hqq2 := hqq.out
              have ha : ans = 0 := by rw [hsm2.out, if_pos hxr]
              clear hq hqq hxr
              go_wp2_with (first
                | ((with_reducible change wpList _ _ _ ({ dst := some 54, op := _, type := _, pos := _, after := _, guard := _ } :: _) _ _); refine wpList_load_rowG (o := ⟨some 54, _, _, _, _, _⟩) rfl 23 (.tmp 11) rfl (m) rfl 23 ((cells8 x).toArray) (0, 0) _ hM.out Tryd.underlying23 rfl F.out.size ?_)
                | ((with_reducible change wpList _ _ _ ({ dst := some 55, op := _, type := _, pos := _, after := _, guard := _ } :: _) _ _); refine wpList_load_rowG (o := ⟨some 55, _, _, _, _, _⟩) rfl 23 (.tmp 5) rfl (w.heap.size) rfl 23 ((cells8 root).toArray) (0, 0) _ hR4.out Tryd.underlying23 rfl Fr.out.size ?_))
              go_ret
              exact ⟨by rw [ha]; rfl, hb4.out⟩
            · have hqq : Hid (∀ w, (Op.equalIn 10000 23 (.agg (cells8 x).toArray) (.agg (cells8 root).toArray)).run Tryd.prog w = .ok false w) := fun w => by rw [hq.out w, decide_eq_false hxr]
              have hqq2 := hqq.out
              have ha : ans = 171 := by rw [hsm2.out, if_neg hxr]
              clear hq hqq hxr
              go_wp2_with (first
                | ((with_reducible change wpList _ _ _ ({ dst := some 54, op := _, type := _, pos := _, after := _, guard := _ } :: _) _ _); refine wpList_load_rowG (o := ⟨some 54, _, _, _, _, _⟩) rfl 23 (.tmp 11) rfl (m) rfl 23 ((cells8 x).toArray) (0, 0) _ hM.out Tryd.underlying23 rfl F.out.size ?_)
                | ((with_reducible change wpList _ _ _ ({ dst := some 55, op := _, type := _, pos := _, after := _, guard := _ } :: _) _ _); refine wpList_load_rowG (o := ⟨some 55, _, _, _, _, _⟩) rfl 23 (.tmp 5) rfl (w.heap.size) rfl 23 ((cells8 root).toArray) (0, 0) _ hR4.out Tryd.underlying23 rfl Fr.out.size ?_))
              go_ret
              exact ⟨by rw [ha]; rfl, hb4.out⟩
  · obtain rfl := hnoneA.out hwt
    clear hans hwt
    go_wp2_with fail
    go_ret
    exact ⟨rfl, hb2.out⟩

end Go.Proofs.YtmdkfhfkdcbpgaaDoorR.AudIncl

namespace Go.Proofs.YtmdkfhfkdcbpgaaDoorR.Way20
open Go Go.RowKit Go.Proofs.YtmdkfhfkdcbpgaaDoorR Go.Proofs.YtmdkfhfkdcbpgaaDoorR.Mem Go.Proofs.YtmdkfhfkdcbpgaaDoorR.Sha Go.Proofs.YtmdkfhfkdcbpgaaDoorR.Bytes Go.Proofs.YtmdkfhfkdcbpgaaDoorR.Append Go.Proofs.YtmdkfhfkdcbpgaaDoorR.HashMem Go.Proofs.YtmdkfhfkdcbpgaaDoorR.DigestMem Go.Proofs.YtmdkfhfkdcbpgaaDoorR.Digest Go.Proofs.YtmdkfhfkdcbpgaaDoorR.RefCut Go.Proofs.YtmdkfhfkdcbpgaaDoorR.RefTop Go.Proofs.YtmdkfhfkdcbpgaaDoorR.QuietTail Go.Proofs.YtmdkfhfkdcbpgaaDoorR.Grown Go.Proofs.YtmdkfhfkdcbpgaaDoorR.Chain Go.Proofs.YtmdkfhfkdcbpgaaDoorR.TreeMem Go.Proofs.YtmdkfhfkdcbpgaaDoorR.TreeRoot Go.Proofs.YtmdkfhfkdcbpgaaDoorR.Held Go.Proofs.YtmdkfhfkdcbpgaaDoorR.Guard Go.Proofs.YtmdkfhfkdcbpgaaDoorR.Sides Go.Proofs.YtmdkfhfkdcbpgaaDoorR.Node Go.Proofs.YtmdkfhfkdcbpgaaDoorR.Climb Go.Proofs.YtmdkfhfkdcbpgaaDoorR.Incl Go.Proofs.YtmdkfhfkdcbpgaaDoorR.Include Go.Proofs.YtmdkfhfkdcbpgaaDoorR.Texts Go.Proofs.YtmdkfhfkdcbpgaaDoorR.RefIncl0 Go.Proofs.YtmdkfhfkdcbpgaaDoorR.RefIncl Go.Proofs.YtmdkfhfkdcbpgaaDoorR.Ref17 Go.Proofs.YtmdkfhfkdcbpgaaDoorR.Book Go.Proofs.YtmdkfhfkdcbpgaaDoorR.Book2 Go.Proofs.YtmdkfhfkdcbpgaaDoorR.AudIncl

/-- A row of texts, each longer than a sum. -/
def TxP (w : World) (A : Option Addr) (n : Nat) (ts : List Text) : Prop :=
  ∃ xs, ts.length = n ∧ Reads w 1 A n xs ∧ ∀ (i : Nat) (q : Text), ts[i]? = some q → 32 < q.length ∧ ∃ g c, xs[i]? = some (.slice (some ⟨g, 0, none⟩) q.length c) ∧ q.length ≤ c ∧ Reads w 1 (some ⟨g, 0, none⟩) q.length (cells8 q)
theorem TxP.below {w w' : World} {A : Option Addr} {n : Nat} {ts : List Text} (h : TxP w A n ts) (hb : Below w.heap.size w w') : TxP w' A n ts := by
  obtain ⟨xs, h1, h2, h3⟩ := h
  refine ⟨xs, h1, h2.below hb, fun i q hq => ?_⟩
  obtain ⟨hl, g, c, a1, a2, a3⟩ := h3 i q hq
  exact ⟨hl, g, c, a1, a2, a3.below hb⟩
theorem TxP.mk_ {w : World} {M : Nat → Prop} {gc : Nat} {r : Option Nat} {v : Value} {xs : List Value} {ts : List Text} {base : Nat} (hO : w.ownsRow base 27 1 v ts.length xs) (hx : Txs M w gc r xs ts) (hl : ∀ q ∈ ts, q.length = 65) : ∃ A c, v = .slice A ts.length c ∧ (A = none → ts.length = 0 ∧ c = 0) ∧ TxP w A ts.length ts := by
  obtain ⟨A, c, e, -, -, hnil, hr, -⟩ := Append.Own.reads hO
  refine ⟨A, c, e, hnil, xs, rfl, hr, fun i q hq => ?_⟩
  obtain ⟨g, cq, a1, a2, a3, -⟩ := hx i q hq
  exact ⟨by rw [hl q (List.mem_of_getElem? hq)]; decide, g, cq, a1, a2, a3⟩
theorem inclOf_texts (s size i : Int) (leaf : Text) (ds : List Text) (hl : leaf.length = 32) (hd : Digs ds) : (inclOf s size i leaf [] ds).2.2.length ≤ ds.length ∧ ∀ q ∈ (inclOf s size i leaf [] ds).2.2, q.length = 65 := by
  unfold inclOf
  split
  · exact ⟨Nat.zero_le _, fun q h => by cases h⟩
  · split
    · exact ⟨Nat.zero_le _, fun q h => by cases h⟩
    · rename_i h
      have h2 : (sides size.toNat i.toNat).length = ds.length := by omega
      have hz : ((sides size.toNat i.toNat).zip ds).length = ds.length := by rw [List.length_zip]; omega
      refine ⟨by rw [show _ = _ from (climbN_len (s := s) (st := (leaf, [])) (l := (sides size.toNat i.toNat).zip ds) hl ds.length (by omega)).2]; simp, ?_⟩
      exact climbN_long hl (fun q h => by cases h) (fun p hp => hd _ (List.of_mem_zip (show (p.1, p.2) ∈ _ from hp)).2) ds.length (by omega)
/-- One text as pieces, in a row of its own. -/
theorem one_piece {w : World} {A : Option Addr} {k c : Nat} {q : Text} (h : Reads w 1 A k (cells8 q)) (hk : q.length = k) (hkc : k ≤ c) (hnil : A = none → k = 0 ∧ c = 0) : Pieces (w.alloc (.cells #[.slice A k c] 27)) (some ⟨w.heap.size, 0, none⟩) [q] := fun _ => by
  have hB := Blk.new w 27 #[.slice A k c]
  refine ⟨w.heap.size, 0, rfl, hB.lt, fun i p hp => ?_⟩
  match i with
  | 0 =>
    obtain rfl := Option.some.inj hp
    exact ⟨A, c, by rw [hB.cell, hk]; rfl, by omega, by rw [hk]; exact h.alloc _, fun e => by have := hnil e; omega⟩
  | i + 1 => simp at hp
end Go.Proofs.YtmdkfhfkdcbpgaaDoorR.Way20

namespace Go.Proofs.YtmdkfhfkdcbpgaaDoorR.TextAt
open Go Go.RowKit Go.Proofs.YtmdkfhfkdcbpgaaDoorR Go.Proofs.YtmdkfhfkdcbpgaaDoorR.Mem Go.Proofs.YtmdkfhfkdcbpgaaDoorR.Sha Go.Proofs.YtmdkfhfkdcbpgaaDoorR.Bytes Go.Proofs.YtmdkfhfkdcbpgaaDoorR.HashMem Go.Proofs.YtmdkfhfkdcbpgaaDoorR.DigestText Go.Proofs.YtmdkfhfkdcbpgaaDoorR.RefCut Go.Proofs.YtmdkfhfkdcbpgaaDoorR.Chain Go.Proofs.YtmdkfhfkdcbpgaaDoorR.Way20 Go.Proofs.YtmdkfhfkdcbpgaaDoorR.Node

/-- What a call of Text leaves: the text in new memory. -/
def TextPost (w : World) (q : Text) (e : Ending) (w' : World) : Prop :=
  ∃ g c, e = .returned (.slice (some ⟨g, 0, none⟩) q.length c) ∧ w.heap.size ≤ g ∧ q.length ≤ c ∧ Reads w' 1 (some ⟨g, 0, none⟩) q.length (cells8 q) ∧ Below w.heap.size w w'
theorem TextPost.of {w w' : World} {q : Text} {v : Value} {m : Nat} (hq : q.length = m) (h0 : 0 < m) (ho : w'.ownsRow w.heap.size 5 1 v m (cells8 q)) (hb : Below w.heap.size w w') : TextPost w q (.returned v) w' := by
  subst hq
  obtain ⟨A5, c6, rfl, h1, -, h3, -⟩ := Own.own_reads ho
  rcases ho.2 with ⟨h4, h5⟩ | ⟨g, cap, cur, h4, hbg, -, -, -⟩
  · omega
  · injection h4 with h4
    subst h4
    exact ⟨g, c6, rfl, hbg, h1, h3, hb⟩
theorem row1 {w : World} {g : Nat} {A : Option Addr} {k c : Nat} {q : Text} (hg : Blk w g 27 #[.slice A k c]) (h : Reads w 1 A k (cells8 q)) (hk : q.length = k) (hkc : k ≤ c) (hnil : A = none → k = 0 ∧ c = 0) :
    Pieces w (some ⟨g, 0, none⟩) [q] ∧ AllLt w w.heap.size (some ⟨g, 0, none⟩) [q] := by
  subst hk
  refine ⟨fun _ => ⟨g, 0, rfl, hg.lt, fun i y hy => ?_⟩, fun a e => ?_, fun i y hy b o e Ai ci hc h0 a ea => ?_⟩
  · match i with
    | 0 =>
      obtain rfl := Option.some.inj hy
      exact ⟨A, c, by rw [hg.cell]; rfl, hkc, h, hnil⟩
    | i + 1 => simp at hy
  · obtain rfl := Option.some.inj e
    exact hg.lt
  · injection e with e
    injection e with e1 e2
    subst e1 e2
    rw [hg.cell] at hc
    match i with
    | 0 =>
      have h1 := Option.some.inj hc
      injection h1 with h1
      obtain rfl := Option.some.inj hy
      obtain ⟨b, o, e2, hb, -⟩ := h.at_ (by omega)
      rw [h1, ea] at e2
      have := Option.some.inj e2
      rw [this]
      exact hb
    | i + 1 => simp at hy
theorem row2 {w : World} {g a b : Nat} {x y : Text} (hg : Blk w g 27 #[.slice (some ⟨a, 0, none⟩) 32 32, .slice (some ⟨b, 0, none⟩) 32 32]) (ha : Blk w a 23 (cells8 x).toArray) (hb : Blk w b 23 (cells8 y).toArray) (hx : x.length = 32) (hy : y.length = 32) :
    Pieces w (some ⟨g, 0, none⟩) [x, y] ∧ AllLt w w.heap.size (some ⟨g, 0, none⟩) [x, y] := by
  refine ⟨fun _ => ⟨g, 0, rfl, hg.lt, fun i z hz => ?_⟩, fun a e => ?_, fun i q hq b' o e Ai ci hc _ a' ea => ?_⟩
  · match i with
    | 0 =>
      obtain rfl := Option.some.inj hz
      exact ⟨some ⟨a, 0, none⟩, 32, by rw [hg.cell, hx]; rfl, by omega, rowReads ha, fun h => by cases h⟩
    | 1 =>
      obtain rfl := Option.some.inj hz
      exact ⟨some ⟨b, 0, none⟩, 32, by rw [hg.cell, hy]; rfl, by omega, rowReads hb, fun h => by cases h⟩
    | i + 2 => simp at hz
  · obtain rfl := Option.some.inj e
    exact hg.lt
  · injection e with e
    injection e with e1 e2
    subst e1 e2
    rw [hg.cell] at hc
    match i with
    | 0 =>
      have h1 := Option.some.inj hc
      injection h1 with h1
      rw [ea] at h1
      rw [← Option.some.inj h1]
      exact ha.lt
    | 1 =>
      have h1 := Option.some.inj hc
      injection h1 with h1
      rw [ea] at h1
      rw [← Option.some.inj h1]
      exact hb.lt
    | i + 2 => simp at hq
theorem text_leaf {w : World} {g : Nat} {A : Option Addr} {k c : Nat} {q : Text} (hg : Blk w g 27 #[.slice A k c]) (h : Reads w 1 A k (cells8 q)) (hk : q.length = k) (hk47 : k < 140737488355327) (hkc : k ≤ c) (hnil : A = none → k = 0 ∧ c = 0) :
    Calls Tryd.prog 160 #[.int .i64 0, .slice (some ⟨g, 0, none⟩) 1 1] w (TextPost w (kb 0 :: q)) := by
  obtain ⟨h1, h2⟩ := row1 hg h hk hkc hnil
  have := text_any 0 [q] 1 rfl (some ⟨g, 0, none⟩) 1 w (by decide) k (by simp [hk]) (by omega) h1 h2
  rw [show [q].flatten = q by simp] at this
  refine this.mono ?_
  rintro e w'' ⟨v, rfl, hb, ho⟩
  exact TextPost.of (by rw [List.length_cons, hk, Nat.add_comm]) (by omega) ho hb
theorem text_link {w : World} {g a b : Nat} {x y : Text} (hg : Blk w g 27 #[.slice (some ⟨a, 0, none⟩) 32 32, .slice (some ⟨b, 0, none⟩) 32 32]) (ha : Blk w a 23 (cells8 x).toArray) (hb : Blk w b 23 (cells8 y).toArray) (hx : x.length = 32) (hy : y.length = 32) :
    Calls Tryd.prog 160 #[.int .i64 2, .slice (some ⟨g, 0, none⟩) 2 2] w (TextPost w (kb 2 :: (x ++ y))) := by
  obtain ⟨h1, h2⟩ := row2 hg ha hb hx hy
  have := text_any 2 [x, y] 2 rfl (some ⟨g, 0, none⟩) 2 w (by decide) 64 (by simp [hx, hy]) (by omega) h1 h2
  rw [show [x, y].flatten = x ++ y by simp] at this
  refine this.mono ?_
  rintro e w'' ⟨v, rfl, hb, ho⟩
  exact TextPost.of (by simp [hx, hy]) (by omega) ho hb
theorem reftext_leaf {w : World} {g : Nat} {A : Option Addr} {k c : Nat} {q : Text} (hg : Blk w g 27 #[.slice A k c]) (h : Reads w 1 A k (cells8 q)) (hk : q.length = k) (hk47 : k < 140737488355327) (hkc : k ≤ c) (hnil : A = none → k = 0 ∧ c = 0) :
    Calls Tryd.prog 93 #[.int .i64 0, .slice (some ⟨g, 0, none⟩) 1 1] w (TextPost w (kb 0 :: q)) := by
  obtain ⟨h1, -⟩ := row1 hg h hk hkc hnil
  have := refText_any [q] 1 rfl (some ⟨g, 0, none⟩) 1 0 w (by simp; omega) (by decide) h1
  rw [show [q].flatten = q by simp] at this
  refine this.mono ?_
  rintro e w'' ⟨v, rfl, ho, hb⟩
  exact TextPost.of (by rw [List.length_cons, Nat.add_comm]) (by omega) ho hb
theorem reftext_link {w : World} {g a b : Nat} {x y : Text} (hg : Blk w g 27 #[.slice (some ⟨a, 0, none⟩) 32 32, .slice (some ⟨b, 0, none⟩) 32 32]) (ha : Blk w a 23 (cells8 x).toArray) (hb : Blk w b 23 (cells8 y).toArray) (hx : x.length = 32) (hy : y.length = 32) :
    Calls Tryd.prog 93 #[.int .i64 2, .slice (some ⟨g, 0, none⟩) 2 2] w (TextPost w (kb 2 :: (x ++ y))) := by
  obtain ⟨h1, -⟩ := row2 hg ha hb hx hy
  have := refText_any [x, y] 2 rfl (some ⟨g, 0, none⟩) 2 2 w (by simp [hx, hy]) (by decide) h1
  rw [show [x, y].flatten = x ++ y by simp] at this
  refine this.mono ?_
  rintro e w'' ⟨v, rfl, ho, hb⟩
  exact TextPost.of (by rw [List.length_cons, Nat.add_comm]) (by omega) ho hb
end Go.Proofs.YtmdkfhfkdcbpgaaDoorR.TextAt
