/-
  Texts of the claim, put into one file: TwoEvP, SizesP, AheadAny, Included, WayOwn.
-/
import Derived.Test.YtmdkfhfkdcbpgaaDoorRZ39
import Derived.Test.YtmdkfhfkdcbpgaaDoorRZ32
import Derived.Test.YtmdkfhfkdcbpgaaDoorRZ36
import Derived.Test.YtmdkfhfkdcbpgaaDoorRZ34
import Derived.Test.YtmdkfhfkdcbpgaaDoorRZ31

namespace Go.Proofs.YtmdkfhfkdcbpgaaDoorR.TwoEvP
open Go Go.RowKit Go.Proofs.YtmdkfhfkdcbpgaaDoorR Mem Sha Bytes TreeMath TreeMem Chain ProofEnc Ref17 InclAll Within Climb TwiceP TreeTwice AudIncl

def evTexts (s : Int) (ev : Text) (x1 x2 : Int) (ds : List Text) : List Text := (kb 0 :: ev) :: (inclOf s x1 x2 (leafOf s ev) [] ds).2.2
theorem aud_zero {s : Int} {root ev : Text} {x1 x2 : Int} {ds : List Text} (h : audIncl s root ev x1 x2 ds = 0) : (inclOf s x1 x2 (leafOf s ev) [] ds).2.1 = 0 ∧ (inclOf s x1 x2 (leafOf s ev) [] ds).1 = root := by
 by_cases hb : inclWant x1 x2 ds = none ∨ ev.length < 1 ∨ 65536 < ev.length ∨ withinB s ds = false
 ·unfold audIncl at h
  rw [if_pos hb] at h
  cases h
 ·unfold audIncl at h
  rw [if_neg hb] at h
  split at h
  ·rename_i hr
   cases hw : inclWant x1 x2 ds with
   | none => exact absurd (.inl hw) hb
   | some b => exact ⟨want_zero hw, hr⟩
  ·cases h
theorem leaf_sum (s : Int) (ev : Text) : leafOf s ev = sumOf s (kb 0 :: ev) := rfl
end Go.Proofs.YtmdkfhfkdcbpgaaDoorR.TwoEvP

namespace Go.Proofs.YtmdkfhfkdcbpgaaDoorR.SizesP
open Go Go.RowKit Go.Proofs.YtmdkfhfkdcbpgaaDoorR Mem Sha Bytes TreeMath Sides WayP Subs RowsP TreeMem TreeRoot Chain Climb Incl AheadM Agree TwiceP ThirdP InclAny TreeTwice TreeJoins AudIncl AudJoins TwoEvP

def joinOk (j1 j2 : Int) (js : List Text) : Bool := decide (1 ≤ j1) && (decide (j1 < j2) && (decide (j2 ≤ 1099511627776) && decide (betw j1.toNat j2.toNat = js.length)))
def jointTs (s : Int) (j1 j2 : Int) (r0 : Text) (js : List Text) : List Text := if joinOk j1 j2 js = true then (aheadOf s j1.toNat j2.toNat r0 js).ft ++ (aheadOf s j1.toNat j2.toNat r0 js).st else []
theorem joinOk_nat {o z : Nat} {js : List Text} (h1 : 1 ≤ o) (h2 : o < z) (h3 : z ≤ 1099511627776) (h4 : betw o z = js.length) : joinOk (o : Int) (z : Int) js = true := by
 unfold joinOk
 rw [decide_eq_true (show (1 : Int) ≤ o by omega), decide_eq_true (show (o : Int) < z by omega), decide_eq_true (show (z : Int) ≤ 1099511627776 by omega), Int.toNat_natCast, Int.toNat_natCast, decide_eq_true h4]
 rfl
theorem joinOk_get {j1 j2 : Int} {js : List Text} (h : joinOk j1 j2 js = true) : ∃ o z : Nat, j1 = (o : Int) ∧ j2 = (z : Int) ∧ 1 ≤ o ∧ o < z ∧ z ≤ 1099511627776 ∧ betw o z = js.length := by
 unfold joinOk at h
 simp only [Bool.and_eq_true, decide_eq_true_eq] at h
 obtain ⟨h1, h2, h3, h4⟩ := h
 obtain ⟨o, rfl⟩ := Int.eq_ofNat_of_zero_le (show 0 ≤ j1 by omega)
 obtain ⟨z, rfl⟩ := Int.eq_ofNat_of_zero_le (show 0 ≤ j2 by omega)
 rw [Int.toNat_natCast, Int.toNat_natCast] at h4
 exact ⟨o, z, rfl, rfl, by omega, by omega, by omega, h4⟩
theorem joins_zero {s : Int} {r0 r1 : Text} {j1 j2 : Int} {js : List Text} (h : audJoins s r0 r1 j1 j2 js = 0) : agreeOf s j1 j2 r0 r1 js = 0 := by
 unfold audJoins at h
 split at h
 ·cases h
 ·exact h
theorem sizes_meet {s : Int} {r0 r1 e f : Text} {j1 j2 x2 : Int} {js ds es : List Text} (h0 : r0.length = 32) (hj : Digs js) (hd : Digs ds) (he : Digs es) (hJ : audJoins s r0 r1 j1 j2 js = 0) (h1 : audIncl s r0 e j1 x2 ds = 0) (h2 : audIncl s r1 f j2 x2 es = 0) (hne : e ≠ f) :
  TwiceP.Met s ((evTexts s e j1 x2 ds ++ evTexts s f j2 x2 es) ++ jointTs s j1 j2 r0 js) := by
 by_cases hl : leafOf s e = leafOf s f
 ·refine ⟨kb 0 :: e, kb 0 :: f, by simp [evTexts], by simp [evTexts], fun h => hne (List.cons.inj h).2, ?_⟩
  rw [← leaf_sum, ← leaf_sum]
  exact hl
 ·obtain ⟨z1, za⟩ := aud_zero h1
  obtain ⟨z2, zb⟩ := aud_zero h2
  have hx : (leafOf s e).length = 32 := by rw [leaf_sum]; exact sumOf_len _ _
  have hy : (leafOf s f).length = 32 := by rw [leaf_sum]; exact sumOf_len _ _
  obtain ⟨m40, ma, mb, pl1, pt1⟩ := incl_taken hx hd z1
  obtain ⟨k40, ka, kb', pl2, pt2⟩ := incl_taken hy he z2
  obtain ⟨o, q, rfl, rfl, hoq, hq40, hbn, ha, hb⟩ := agree_taken (joins_zero hJ)
  have hin : insideB (o : Int) x2 = true := by
   cases hin : insideB (o : Int) x2 with
   | true => rfl
   | false =>
    have h := z1
    unfold inclOf at h
    rw [if_pos hin] at h
    exact absurd h (by decide)
  obtain ⟨-, -, i0, io⟩ := insideB_true hin
  obtain ⟨j, rfl⟩ := Int.eq_ofNat_of_zero_le i0
  have hjo : j < o := by omega
  have ho1 : 1 ≤ o := by omega
  rw [Int.toNat_natCast, Int.toNat_natCast] at ma ka
  have grow : ∀ {L : List Text}, TwiceP.Met s ((inclOf s (o : Int) (j : Int) (leafOf s e) [] ds).2.2 ++ (inclOf s (q : Int) (j : Int) (leafOf s f) [] es).2.2 ++ L) → (∀ p ∈ L, p ∈ jointTs s (o : Int) (q : Int) r0 js) → TwiceP.Met s ((evTexts s e (o : Int) (j : Int) ds ++ evTexts s f (q : Int) (j : Int) es) ++ jointTs s (o : Int) (q : Int) r0 js) := fun h hL => h.mono fun p hp => by
   unfold evTexts
   rcases List.mem_append.1 hp with hp | hp
   ·rcases List.mem_append.1 hp with hp | hp
    ·exact List.mem_append_left _ (List.mem_append_left _ (List.mem_cons_of_mem _ hp))
    ·exact List.mem_append_left _ (List.mem_append_right _ (List.mem_cons_of_mem _ hp))
   ·exact List.mem_append_right _ (hL p hp)
  by_cases zo : o < q
  ·obtain ⟨f1, s1⟩ := agree_in_mid ho1 zo ha hb
   have := third_met (s := s) (i := j) (x := leafOf s e) (y := leafOf s f) (ws := ds) (xs := es) (r0 := r0) ho1 zo hjo hx hy h0 hd he hj hbn ma ka (by
    rw [f1, ← za, mb]; rw [Int.toNat_natCast, Int.toNat_natCast]) (by
    rw [s1, ← zb, kb']; rw [Int.toNat_natCast, Int.toNat_natCast]) hl
   refine grow (L := (aheadOf s o q r0 js).ft ++ (aheadOf s o q r0 js).st) ?_ (fun p hp => ?_)
   ·rw [mb, kb']
    rw [Int.toNat_natCast, Int.toNat_natCast, Int.toNat_natCast]
    exact this
   ·unfold jointTs
    rw [if_pos (joinOk_nat ho1 zo hq40 hbn), Int.toNat_natCast, Int.toNat_natCast]
    exact hp
  ·have hoq2 : o = q := by omega
   subst hoq2
   have hr : r0 = r1 := by
    unfold agB at hb
    rw [if_pos rfl] at hb
    exact hb
   have hM := (incl_meet hx hy hd he z1 z2 (by rw [za, zb, hr]) (fun h => hl h.1)).met
   refine grow (L := []) ?_ (fun p hp => by cases hp)
   rw [List.append_nil]
   exact hM
end Go.Proofs.YtmdkfhfkdcbpgaaDoorR.SizesP

namespace Go.Proofs.YtmdkfhfkdcbpgaaDoorR.AheadAny
open Go Go.RowKit Go.Proofs.YtmdkfhfkdcbpgaaDoorR Mem Sha Bytes Go.Proofs.YtmdkfhfkdcbpgaaDoorR.Append HashMem DigestMem Digest QuietTail Grown Chain TreeMath TreeMem TreeRoot Held Guard Book Node WayP Subs RowsP Joint SubRef TreeRefRoot AheadM AheadT Ahead AheadX RefAhead0 RefAhead Agree SizesP RowsT RowsY

theorem sizeZ : (Tryd.prog.info? 23).map (·.size) = some (Z32 : Array Value).size := by kernel_rfl
theorem oneZ : ((Z32 : Array Value).all fun v => v.oneCell') = true := by kernel_rfl
def Bad (w : World) (e : Ending) (w' : World) : Prop := ∃ k : Int, e = .returned (.tuple #[.agg Z32, .agg Z32, .slice none 0 0, .int .i64 k]) ∧ Below w.heap.size w w'
section
variable (s : Int) (root : Text) (A : Option Addr) (n c : Nat) (w : World)
set_option maxRecDepth 100000 in
set_option maxHeartbeats 1000000 in
theorem px_old (x1 x2 : Int) (hj : joinsB x1 x2 = true) (h0 : x1 = 0) : Calls Tryd.prog 206 #[.int .i64 s, .int .i64 x1, .int .i64 x2, .agg (cells8 root).toArray, .slice A n c] w (Bad w) := by
 have hz1 : (w.alloc (.cells (cells8 root).toArray 23)).heap.size = w.heap.size + 1 := by simp
 have hz2 : ((w.alloc (.cells (cells8 root).toArray 23)).alloc (.cells Z32 23)).heap.size = w.heap.size + 2 := by simp
 have hz3 : (((w.alloc (.cells (cells8 root).toArray 23)).alloc (.cells Z32 23)).alloc (.cells Z32 23)).heap.size = w.heap.size + 3 := by simp
 have hb0 : Hid (Below w.heap.size w (((w.alloc (.cells (cells8 root).toArray 23)).alloc (.cells Z32 23)).alloc (.cells Z32 23))) := ((Below.heap_below w _).alloc (by simp) _).alloc (by simp; omega) _
 have hA0 : Hid (Blk (((w.alloc (.cells (cells8 root).toArray 23)).alloc (.cells Z32 23)).alloc (.cells Z32 23)) (w.heap.size + 1) 23 Z32) := by
  have := (Blk.new (w.alloc (.cells (cells8 root).toArray 23)) 23 Z32).alloc (.cells Z32 23)
  rwa [hz1] at this
 have hE0 : Hid (Blk (((w.alloc (.cells (cells8 root).toArray 23)).alloc (.cells Z32 23)).alloc (.cells Z32 23)) (w.heap.size + 2) 23 Z32) := by
  have := Blk.new ((w.alloc (.cells (cells8 root).toArray 23)).alloc (.cells Z32 23)) 23 Z32
  rwa [hz2] at this
 have hSz : Hid (∀ w', Calls Tryd.prog 81 #[.int .i64 x1, .int .i64 x2] w' fun e w'' => e = .returned (.bool true) ∧ w' = w'') := fun w' => by have := sizes_any x1 x2 w'; rwa [hj] at this
 subst h0
 clear hj hz1 hz2 hz3
 go_enter Tryd.func206, Tryd.ntmps206
 go_wp2_with (first
  | (go_at_call 81; refine (hSz.out _).mono ?_; rintro e w1 ⟨rfl, rfl⟩)
  | ((with_reducible change wpList _ _ _ ({ dst := none, op := Op.store 23 (.tmp 10) _, type := _, pos := _, after := _, guard := _ } :: _) _ _); refine wpList_store_whole (o := ⟨none, _, _, _, _, _⟩) rfl 23 (.tmp 10) (.tmp 30) rfl (w.heap.size + 1) (Z32) rfl rfl 23 (Z32) hA0.out sizeZ rfl oneZ ?_; intro w6 hA6 k6; have hE6 : Hid (Blk w6 (w.heap.size + 2) 23 Z32) := Blk.kept hE0.out k6 (by omega); have hb6 : Hid (Below w.heap.size w w6) := hb0.out.trans (Kept.below_of k6 (by omega) hb0.out.size); replace hA6 := Lib.hid hA6; clear k6)
  | ((with_reducible change wpList _ _ _ ({ dst := none, op := Op.store 23 (.tmp 11) _, type := _, pos := _, after := _, guard := _ } :: _) _ _); refine wpList_store_whole (o := ⟨none, _, _, _, _, _⟩) rfl 23 (.tmp 11) (.tmp 31) rfl (w.heap.size + 2) (Z32) rfl rfl 23 (Z32) hE6.out sizeZ rfl oneZ ?_; intro w7 hE7 k7; have hA7 : Hid (Blk w7 (w.heap.size + 1) 23 Z32) := Blk.kept hA6.out k7 (by omega); have hb7 : Hid (Below w.heap.size w w7) := hb6.out.trans (Kept.below_of k7 (by omega) hb6.out.size); replace hE7 := Lib.hid hE7; clear k7))
 refine bodyPost_ret (results_ccrr rfl _ _ (w.heap.size + 1) (w.heap.size + 2) 23 23 Z32 Z32 (0, 0) (0, 0) _ rfl hA7.out rfl hE7.out Tryd.underlying23 rfl sizeZ sizeZ) rfl ?_
 exact ⟨_, rfl, hb7.out⟩
set_option maxRecDepth 100000 in
set_option maxHeartbeats 1000000 in
theorem px_eq (x1 x2 : Int) (hj : joinsB x1 x2 = true) (h0 : ¬ x1 = 0) (h1 : x1 = x2) : Calls Tryd.prog 206 #[.int .i64 s, .int .i64 x1, .int .i64 x2, .agg (cells8 root).toArray, .slice A n c] w (Bad w) := by
 have hz1 : (w.alloc (.cells (cells8 root).toArray 23)).heap.size = w.heap.size + 1 := by simp
 have hz2 : ((w.alloc (.cells (cells8 root).toArray 23)).alloc (.cells Z32 23)).heap.size = w.heap.size + 2 := by simp
 have hz3 : (((w.alloc (.cells (cells8 root).toArray 23)).alloc (.cells Z32 23)).alloc (.cells Z32 23)).heap.size = w.heap.size + 3 := by simp
 have hb0 : Hid (Below w.heap.size w (((w.alloc (.cells (cells8 root).toArray 23)).alloc (.cells Z32 23)).alloc (.cells Z32 23))) := ((Below.heap_below w _).alloc (by simp) _).alloc (by simp; omega) _
 have hA0 : Hid (Blk (((w.alloc (.cells (cells8 root).toArray 23)).alloc (.cells Z32 23)).alloc (.cells Z32 23)) (w.heap.size + 1) 23 Z32) := by
  have := (Blk.new (w.alloc (.cells (cells8 root).toArray 23)) 23 Z32).alloc (.cells Z32 23)
  rwa [hz1] at this
 have hE0 : Hid (Blk (((w.alloc (.cells (cells8 root).toArray 23)).alloc (.cells Z32 23)).alloc (.cells Z32 23)) (w.heap.size + 2) 23 Z32) := by
  have := Blk.new ((w.alloc (.cells (cells8 root).toArray 23)).alloc (.cells Z32 23)) 23 Z32
  rwa [hz2] at this
 have hSz : Hid (∀ w', Calls Tryd.prog 81 #[.int .i64 x1, .int .i64 x2] w' fun e w'' => e = .returned (.bool true) ∧ w' = w'') := fun w' => by have := sizes_any x1 x2 w'; rwa [hj] at this
 have y1 : (x1 == 0) = false := beq_eq_false_iff_ne.2 h0
 subst h1
 clear hj hz1 hz2 hz3
 go_enter Tryd.func206, Tryd.ntmps206
 go_wp2_with (first
  | (go_at_call 81; refine (hSz.out _).mono ?_; rintro e w1 ⟨rfl, rfl⟩)
  | ((with_reducible change wpList _ _ _ ({ dst := none, op := Op.store 23 (.tmp 10) _, type := _, pos := _, after := _, guard := _ } :: _) _ _); refine wpList_store_whole (o := ⟨none, _, _, _, _, _⟩) rfl 23 (.tmp 10) (.tmp 30) rfl (w.heap.size + 1) (Z32) rfl rfl 23 (Z32) hA0.out sizeZ rfl oneZ ?_; intro w6 hA6 k6; have hE6 : Hid (Blk w6 (w.heap.size + 2) 23 Z32) := Blk.kept hE0.out k6 (by omega); have hb6 : Hid (Below w.heap.size w w6) := hb0.out.trans (Kept.below_of k6 (by omega) hb0.out.size); replace hA6 := Lib.hid hA6; clear k6)
  | ((with_reducible change wpList _ _ _ ({ dst := none, op := Op.store 23 (.tmp 11) _, type := _, pos := _, after := _, guard := _ } :: _) _ _); refine wpList_store_whole (o := ⟨none, _, _, _, _, _⟩) rfl 23 (.tmp 11) (.tmp 31) rfl (w.heap.size + 2) (Z32) rfl rfl 23 (Z32) hE6.out sizeZ rfl oneZ ?_; intro w7 hE7 k7; have hA7 : Hid (Blk w7 (w.heap.size + 1) 23 Z32) := Blk.kept hA6.out k7 (by omega); have hb7 : Hid (Below w.heap.size w w7) := hb6.out.trans (Kept.below_of k7 (by omega) hb6.out.size); replace hE7 := Lib.hid hE7; clear k7))
 refine bodyPost_ret (results_ccrr rfl _ _ (w.heap.size + 1) (w.heap.size + 2) 23 23 Z32 Z32 (0, 0) (0, 0) _ rfl hA7.out rfl hE7.out Tryd.underlying23 rfl sizeZ sizeZ) rfl ?_
 exact ⟨_, rfl, hb7.out⟩
set_option maxRecDepth 100000 in
set_option maxHeartbeats 1000000 in
theorem rx_neg (x1 x2 : Int) (h0 : x1 < 0) : Calls Tryd.prog 105 #[.int .i64 s, .int .i64 x1, .int .i64 x2, .agg (cells8 root).toArray, .slice A n c] w (Bad w) := by
 have hz1 : (w.alloc (.cells (cells8 root).toArray 23)).heap.size = w.heap.size + 1 := by simp
 have hz2 : ((w.alloc (.cells (cells8 root).toArray 23)).alloc (.cells Z32 23)).heap.size = w.heap.size + 2 := by simp
 have hz3 : (((w.alloc (.cells (cells8 root).toArray 23)).alloc (.cells Z32 23)).alloc (.cells Z32 23)).heap.size = w.heap.size + 3 := by simp
 have hb0 : Hid (Below w.heap.size w (((w.alloc (.cells (cells8 root).toArray 23)).alloc (.cells Z32 23)).alloc (.cells Z32 23))) := ((Below.heap_below w _).alloc (by simp) _).alloc (by simp; omega) _
 have hA0 : Hid (Blk (((w.alloc (.cells (cells8 root).toArray 23)).alloc (.cells Z32 23)).alloc (.cells Z32 23)) (w.heap.size + 1) 23 Z32) := by
  have := (Blk.new (w.alloc (.cells (cells8 root).toArray 23)) 23 Z32).alloc (.cells Z32 23)
  rwa [hz1] at this
 have hE0 : Hid (Blk (((w.alloc (.cells (cells8 root).toArray 23)).alloc (.cells Z32 23)).alloc (.cells Z32 23)) (w.heap.size + 2) 23 Z32) := by
  have := Blk.new ((w.alloc (.cells (cells8 root).toArray 23)).alloc (.cells Z32 23)) 23 Z32
  rwa [hz2] at this
 have hN0 : Hid (Blk ((((w.alloc (.cells (cells8 root).toArray 23)).alloc (.cells Z32 23)).alloc (.cells Z32 23)).alloc (.cells Z32 23)) (w.heap.size + 3) 23 Z32) := by
  have := Blk.new (((w.alloc (.cells (cells8 root).toArray 23)).alloc (.cells Z32 23)).alloc (.cells Z32 23)) 23 Z32
  rwa [hz3] at this
 have hz3h := Lib.hid hz3
 have y1 : decide (x1 < 0) = true := decide_eq_true (by omega)
 clear hz1 hz2 hz3
 go_enter Tryd.func105, Tryd.ntmps105
 go_wp2_with ((with_reducible change wpList _ _ _ ({ dst := none, op := Op.store 23 (.tmp 14) _, type := _, pos := _, after := _, guard := _ } :: _) _ _); refine wpList_store_whole (o := ⟨none, _, _, _, _, _⟩) rfl 23 (.tmp 14) (.tmp 25) rfl (w.heap.size + 3) (Z32) rfl rfl 23 (Z32) hN0.out sizeZ rfl oneZ ?_; intro w1 hN1 kk; have hA1 : Hid (Blk w1 (w.heap.size + 1) 23 Z32) := Blk.kept (hA0.out.alloc _) kk (by omega); have hE1 : Hid (Blk w1 (w.heap.size + 2) 23 Z32) := Blk.kept (hE0.out.alloc _) kk (by omega); have hb1 : Hid (Below w.heap.size w w1) := (hb0.out.alloc hb0.out.size _).trans (Kept.below_of kk (by omega) (by have := hz3h.out; simp; omega)); replace hN1 := Lib.hid hN1; clear kk)
 have hNk := Lib.hid (fun w' (h : Kept (fun k => k = w.heap.size + 1 ∨ k = w.heap.size + 2) w1 w') => (hN1.out.kept h (by omega) : Blk w' (w.heap.size + 3) 23 Z32))
 have hAx := hA1
 have hEx := hE1
 have hbx := hb1
 have s0 : Hid (Kept (fun k => k = w.heap.size + 1 ∨ k = w.heap.size + 2) w1 w1.drew) := (Kept.refl _ _).drew
 refine held_start (fun w' => Kept (fun k => k = w.heap.size + 1 ∨ k = w.heap.size + 2) w1 w') 6 rfl (by kernel_rfl) ?_
 refine Held.tk0 (i := 0) (v := .agg (Z32)) rfl s0.out (fun w' hw' => exec_row 23 (.tmp 14) rfl ((w.heap.size + 3)) rfl 23 (Z32) (0, 0) _ (hNk.out w' hw') Tryd.underlying23 rfl sizeZ) ?_
 (intro K k; go_simp; apply k; clear k K)
 refine Held.tk0 (i := 1) (v := .agg (Z32)) rfl s0.out (fun w' hw' => exec_row 23 (.tmp 14) rfl ((w.heap.size + 3)) rfl 23 (Z32) (0, 0) _ (hNk.out w' hw') Tryd.underlying23 rfl sizeZ) ?_
 (intro K k; go_simp; apply k; clear k K)
 refine held_only (i := 2) rfl (by kernel_rfl) (by rfl) (fun K hK => ?_)
 refine wp_store_whole 23 (.tmp 10) (.tmp 46) rfl (w.heap.size + 1) Z32 rfl rfl 23 Z32 hAx.out sizeZ rfl oneZ ?_
 intro w9 q9 k9
 have h9 : Hid (Kept (fun k => k = w.heap.size + 1 ∨ k = w.heap.size + 2) w1 w9) := s0.out.trans k9 (fun i _ h => .inl h)
 have hE9 : Hid (Blk w9 (w.heap.size + 2) 23 Z32) := Blk.kept (w := w1.drew) hEx.out k9 (by omega)
 go_simp
 refine hK _ _ h9.out ?_
 clear hK K
 refine held_only (i := 3) rfl (by kernel_rfl) (by rfl) (fun K hK => ?_)
 refine wp_store_whole 23 (.tmp 11) (.tmp 47) rfl (w.heap.size + 2) Z32 rfl rfl 23 Z32 hE9.out sizeZ rfl oneZ ?_
 intro w10 q10 k10
 have h10 : Hid (Kept (fun k => k = w.heap.size + 1 ∨ k = w.heap.size + 2) w1 w10) := h9.out.trans k10 (fun i _ h => .inr h)
 have q11 : Hid (Blk w10 (w.heap.size + 1) 23 Z32) := Blk.kept q9 k10 (by omega)
 go_simp
 refine hK _ _ h10.out ?_
 clear hK K
 refine Held.tk0 (i := 4) (v := .slice none 0 0) rfl h10.out (fun w' hw' => by first | go_simp | rfl) ?_
 (intro K k; go_simp; apply k; clear k K)
 refine Held.tk0 (i := 5) (v := .int .i64 60) rfl h10.out (fun w' hw' => by first | go_simp | rfl) ?_
 (intro K k; go_simp; apply k; clear k K)
 refine held_end (by kernel_rfl) ?_
 have hfin : Hid (Below w.heap.size w w10) := Kept.toBelow hbx.out h10.out (fun k h => by rcases h with h | h <;> omega) hbx.out.size
 go_wp2_with fail
 refine bodyPost_ret (results_ccrr rfl _ _ (w.heap.size + 1) (w.heap.size + 2) 23 23 Z32 Z32 (0, 0) (0, 0) _ rfl q11.out rfl q10 Tryd.underlying23 rfl sizeZ sizeZ) rfl ?_
 exact ⟨_, rfl, hfin.out⟩
set_option maxRecDepth 100000 in
set_option maxHeartbeats 1000000 in
theorem rx_gt (x1 x2 : Int) (h0 : ¬ x1 < 0) (h1 : x2 < x1) : Calls Tryd.prog 105 #[.int .i64 s, .int .i64 x1, .int .i64 x2, .agg (cells8 root).toArray, .slice A n c] w (Bad w) := by
 have hz1 : (w.alloc (.cells (cells8 root).toArray 23)).heap.size = w.heap.size + 1 := by simp
 have hz2 : ((w.alloc (.cells (cells8 root).toArray 23)).alloc (.cells Z32 23)).heap.size = w.heap.size + 2 := by simp
 have hz3 : (((w.alloc (.cells (cells8 root).toArray 23)).alloc (.cells Z32 23)).alloc (.cells Z32 23)).heap.size = w.heap.size + 3 := by simp
 have hb0 : Hid (Below w.heap.size w (((w.alloc (.cells (cells8 root).toArray 23)).alloc (.cells Z32 23)).alloc (.cells Z32 23))) := ((Below.heap_below w _).alloc (by simp) _).alloc (by simp; omega) _
 have hA0 : Hid (Blk (((w.alloc (.cells (cells8 root).toArray 23)).alloc (.cells Z32 23)).alloc (.cells Z32 23)) (w.heap.size + 1) 23 Z32) := by
  have := (Blk.new (w.alloc (.cells (cells8 root).toArray 23)) 23 Z32).alloc (.cells Z32 23)
  rwa [hz1] at this
 have hE0 : Hid (Blk (((w.alloc (.cells (cells8 root).toArray 23)).alloc (.cells Z32 23)).alloc (.cells Z32 23)) (w.heap.size + 2) 23 Z32) := by
  have := Blk.new ((w.alloc (.cells (cells8 root).toArray 23)).alloc (.cells Z32 23)) 23 Z32
  rwa [hz2] at this
 have hN0 : Hid (Blk ((((w.alloc (.cells (cells8 root).toArray 23)).alloc (.cells Z32 23)).alloc (.cells Z32 23)).alloc (.cells Z32 23)) (w.heap.size + 3) 23 Z32) := by
  have := Blk.new (((w.alloc (.cells (cells8 root).toArray 23)).alloc (.cells Z32 23)).alloc (.cells Z32 23)) 23 Z32
  rwa [hz3] at this
 have hz3h := Lib.hid hz3
 have y1 : decide (x1 < 0) = false := decide_eq_false (by omega)
 have y2 : decide (x2 < x1) = true := decide_eq_true (by omega)
 clear hz1 hz2 hz3
 go_enter Tryd.func105, Tryd.ntmps105
 go_wp2_with ((with_reducible change wpList _ _ _ ({ dst := none, op := Op.store 23 (.tmp 14) _, type := _, pos := _, after := _, guard := _ } :: _) _ _); refine wpList_store_whole (o := ⟨none, _, _, _, _, _⟩) rfl 23 (.tmp 14) (.tmp 25) rfl (w.heap.size + 3) (Z32) rfl rfl 23 (Z32) hN0.out sizeZ rfl oneZ ?_; intro w1 hN1 kk; have hA1 : Hid (Blk w1 (w.heap.size + 1) 23 Z32) := Blk.kept (hA0.out.alloc _) kk (by omega); have hE1 : Hid (Blk w1 (w.heap.size + 2) 23 Z32) := Blk.kept (hE0.out.alloc _) kk (by omega); have hb1 : Hid (Below w.heap.size w w1) := (hb0.out.alloc hb0.out.size _).trans (Kept.below_of kk (by omega) (by have := hz3h.out; simp; omega)); replace hN1 := Lib.hid hN1; clear kk)
 have hNk := Lib.hid (fun w' (h : Kept (fun k => k = w.heap.size + 1 ∨ k = w.heap.size + 2) w1 w') => (hN1.out.kept h (by omega) : Blk w' (w.heap.size + 3) 23 Z32))
 have hAx := hA1
 have hEx := hE1
 have hbx := hb1
 have s0 : Hid (Kept (fun k => k = w.heap.size + 1 ∨ k = w.heap.size + 2) w1 w1.drew) := (Kept.refl _ _).drew
 refine held_start (fun w' => Kept (fun k => k = w.heap.size + 1 ∨ k = w.heap.size + 2) w1 w') 6 rfl (by kernel_rfl) ?_
 refine Held.tk0 (i := 0) (v := .agg (Z32)) rfl s0.out (fun w' hw' => exec_row 23 (.tmp 14) rfl ((w.heap.size + 3)) rfl 23 (Z32) (0, 0) _ (hNk.out w' hw') Tryd.underlying23 rfl sizeZ) ?_
 (intro K k; go_simp; apply k; clear k K)
 refine Held.tk0 (i := 1) (v := .agg (Z32)) rfl s0.out (fun w' hw' => exec_row 23 (.tmp 14) rfl ((w.heap.size + 3)) rfl 23 (Z32) (0, 0) _ (hNk.out w' hw') Tryd.underlying23 rfl sizeZ) ?_
 (intro K k; go_simp; apply k; clear k K)
 refine held_only (i := 2) rfl (by kernel_rfl) (by rfl) (fun K hK => ?_)
 refine wp_store_whole 23 (.tmp 10) (.tmp 46) rfl (w.heap.size + 1) Z32 rfl rfl 23 Z32 hAx.out sizeZ rfl oneZ ?_
 intro w9 q9 k9
 have h9 : Hid (Kept (fun k => k = w.heap.size + 1 ∨ k = w.heap.size + 2) w1 w9) := s0.out.trans k9 (fun i _ h => .inl h)
 have hE9 : Hid (Blk w9 (w.heap.size + 2) 23 Z32) := Blk.kept (w := w1.drew) hEx.out k9 (by omega)
 go_simp
 refine hK _ _ h9.out ?_
 clear hK K
 refine held_only (i := 3) rfl (by kernel_rfl) (by rfl) (fun K hK => ?_)
 refine wp_store_whole 23 (.tmp 11) (.tmp 47) rfl (w.heap.size + 2) Z32 rfl rfl 23 Z32 hE9.out sizeZ rfl oneZ ?_
 intro w10 q10 k10
 have h10 : Hid (Kept (fun k => k = w.heap.size + 1 ∨ k = w.heap.size + 2) w1 w10) := h9.out.trans k10 (fun i _ h => .inr h)
 have q11 : Hid (Blk w10 (w.heap.size + 1) 23 Z32) := Blk.kept q9 k10 (by omega)
 go_simp
 refine hK _ _ h10.out ?_
 clear hK K
 refine Held.tk0 (i := 4) (v := .slice none 0 0) rfl h10.out (fun w' hw' => by first | go_simp | rfl) ?_
 (intro K k; go_simp; apply k; clear k K)
 refine Held.tk0 (i := 5) (v := .int .i64 60) rfl h10.out (fun w' hw' => by first | go_simp | rfl) ?_
 (intro K k; go_simp; apply k; clear k K)
 refine held_end (by kernel_rfl) ?_
 have hfin : Hid (Below w.heap.size w w10) := Kept.toBelow hbx.out h10.out (fun k h => by rcases h with h | h <;> omega) hbx.out.size
 go_wp2_with fail
 refine bodyPost_ret (results_ccrr rfl _ _ (w.heap.size + 1) (w.heap.size + 2) 23 23 Z32 Z32 (0, 0) (0, 0) _ rfl q11.out rfl q10 Tryd.underlying23 rfl sizeZ sizeZ) rfl ?_
 exact ⟨_, rfl, hfin.out⟩
set_option maxRecDepth 100000 in
set_option maxHeartbeats 1000000 in
theorem rx_most (x1 x2 : Int) (h0 : ¬ x1 < 0) (h1 : ¬ x2 < x1) (h2 : 1099511627776 < x2) : Calls Tryd.prog 105 #[.int .i64 s, .int .i64 x1, .int .i64 x2, .agg (cells8 root).toArray, .slice A n c] w (Bad w) := by
 have hz1 : (w.alloc (.cells (cells8 root).toArray 23)).heap.size = w.heap.size + 1 := by simp
 have hz2 : ((w.alloc (.cells (cells8 root).toArray 23)).alloc (.cells Z32 23)).heap.size = w.heap.size + 2 := by simp
 have hz3 : (((w.alloc (.cells (cells8 root).toArray 23)).alloc (.cells Z32 23)).alloc (.cells Z32 23)).heap.size = w.heap.size + 3 := by simp
 have hb0 : Hid (Below w.heap.size w (((w.alloc (.cells (cells8 root).toArray 23)).alloc (.cells Z32 23)).alloc (.cells Z32 23))) := ((Below.heap_below w _).alloc (by simp) _).alloc (by simp; omega) _
 have hA0 : Hid (Blk (((w.alloc (.cells (cells8 root).toArray 23)).alloc (.cells Z32 23)).alloc (.cells Z32 23)) (w.heap.size + 1) 23 Z32) := by
  have := (Blk.new (w.alloc (.cells (cells8 root).toArray 23)) 23 Z32).alloc (.cells Z32 23)
  rwa [hz1] at this
 have hE0 : Hid (Blk (((w.alloc (.cells (cells8 root).toArray 23)).alloc (.cells Z32 23)).alloc (.cells Z32 23)) (w.heap.size + 2) 23 Z32) := by
  have := Blk.new ((w.alloc (.cells (cells8 root).toArray 23)).alloc (.cells Z32 23)) 23 Z32
  rwa [hz2] at this
 have hN0 : Hid (Blk ((((w.alloc (.cells (cells8 root).toArray 23)).alloc (.cells Z32 23)).alloc (.cells Z32 23)).alloc (.cells Z32 23)) (w.heap.size + 3) 23 Z32) := by
  have := Blk.new (((w.alloc (.cells (cells8 root).toArray 23)).alloc (.cells Z32 23)).alloc (.cells Z32 23)) 23 Z32
  rwa [hz3] at this
 have hz3h := Lib.hid hz3
 have y1 : decide (x1 < 0) = false := decide_eq_false (by omega)
 have y2 : decide (x2 < x1) = false := decide_eq_false (by omega)
 have y3 : decide (1099511627776 < x2) = true := decide_eq_true (by omega)
 clear hz1 hz2 hz3
 go_enter Tryd.func105, Tryd.ntmps105
 go_wp2_with ((with_reducible change wpList _ _ _ ({ dst := none, op := Op.store 23 (.tmp 14) _, type := _, pos := _, after := _, guard := _ } :: _) _ _); refine wpList_store_whole (o := ⟨none, _, _, _, _, _⟩) rfl 23 (.tmp 14) (.tmp 25) rfl (w.heap.size + 3) (Z32) rfl rfl 23 (Z32) hN0.out sizeZ rfl oneZ ?_; intro w1 hN1 kk; have hA1 : Hid (Blk w1 (w.heap.size + 1) 23 Z32) := Blk.kept (hA0.out.alloc _) kk (by omega); have hE1 : Hid (Blk w1 (w.heap.size + 2) 23 Z32) := Blk.kept (hE0.out.alloc _) kk (by omega); have hb1 : Hid (Below w.heap.size w w1) := (hb0.out.alloc hb0.out.size _).trans (Kept.below_of kk (by omega) (by have := hz3h.out; simp; omega)); replace hN1 := Lib.hid hN1; clear kk)
 have hNk := Lib.hid (fun w' (h : Kept (fun k => k = w.heap.size + 1 ∨ k = w.heap.size + 2) w1 w') => (hN1.out.kept h (by omega) : Blk w' (w.heap.size + 3) 23 Z32))
 have hAx := hA1
 have hEx := hE1
 have hbx := hb1
 have s0 : Hid (Kept (fun k => k = w.heap.size + 1 ∨ k = w.heap.size + 2) w1 w1.drew) := (Kept.refl _ _).drew
 refine held_start (fun w' => Kept (fun k => k = w.heap.size + 1 ∨ k = w.heap.size + 2) w1 w') 6 rfl (by kernel_rfl) ?_
 refine Held.tk0 (i := 0) (v := .agg (Z32)) rfl s0.out (fun w' hw' => exec_row 23 (.tmp 14) rfl ((w.heap.size + 3)) rfl 23 (Z32) (0, 0) _ (hNk.out w' hw') Tryd.underlying23 rfl sizeZ) ?_
 (intro K k; go_simp; apply k; clear k K)
 refine Held.tk0 (i := 1) (v := .agg (Z32)) rfl s0.out (fun w' hw' => exec_row 23 (.tmp 14) rfl ((w.heap.size + 3)) rfl 23 (Z32) (0, 0) _ (hNk.out w' hw') Tryd.underlying23 rfl sizeZ) ?_
 (intro K k; go_simp; apply k; clear k K)
 refine held_only (i := 2) rfl (by kernel_rfl) (by rfl) (fun K hK => ?_)
 refine wp_store_whole 23 (.tmp 10) (.tmp 46) rfl (w.heap.size + 1) Z32 rfl rfl 23 Z32 hAx.out sizeZ rfl oneZ ?_
 intro w9 q9 k9
 have h9 : Hid (Kept (fun k => k = w.heap.size + 1 ∨ k = w.heap.size + 2) w1 w9) := s0.out.trans k9 (fun i _ h => .inl h)
 have hE9 : Hid (Blk w9 (w.heap.size + 2) 23 Z32) := Blk.kept (w := w1.drew) hEx.out k9 (by omega)
 go_simp
 refine hK _ _ h9.out ?_
 clear hK K
 refine held_only (i := 3) rfl (by kernel_rfl) (by rfl) (fun K hK => ?_)
 refine wp_store_whole 23 (.tmp 11) (.tmp 47) rfl (w.heap.size + 2) Z32 rfl rfl 23 Z32 hE9.out sizeZ rfl oneZ ?_
 intro w10 q10 k10
 have h10 : Hid (Kept (fun k => k = w.heap.size + 1 ∨ k = w.heap.size + 2) w1 w10) := h9.out.trans k10 (fun i _ h => .inr h)
 have q11 : Hid (Blk w10 (w.heap.size + 1) 23 Z32) := Blk.kept q9 k10 (by omega)
 go_simp
 refine hK _ _ h10.out ?_
 clear hK K
 refine Held.tk0 (i := 4) (v := .slice none 0 0) rfl h10.out (fun w' hw' => by first | go_simp | rfl) ?_
 (intro K k; go_simp; apply k; clear k K)
 refine Held.tk0 (i := 5) (v := .int .i64 60) rfl h10.out (fun w' hw' => by first | go_simp | rfl) ?_
 (intro K k; go_simp; apply k; clear k K)
 refine held_end (by kernel_rfl) ?_
 have hfin : Hid (Below w.heap.size w w10) := Kept.toBelow hbx.out h10.out (fun k h => by rcases h with h | h <;> omega) hbx.out.size
 go_wp2_with fail
 refine bodyPost_ret (results_ccrr rfl _ _ (w.heap.size + 1) (w.heap.size + 2) 23 23 Z32 Z32 (0, 0) (0, 0) _ rfl q11.out rfl q10 Tryd.underlying23 rfl sizeZ sizeZ) rfl ?_
 exact ⟨_, rfl, hfin.out⟩
set_option maxRecDepth 100000 in
set_option maxHeartbeats 1000000 in
theorem rx_zero (x1 x2 : Int) (h0 : x1 = 0) (h1 : ¬ x2 < 0) (h2 : ¬ 1099511627776 < x2) : Calls Tryd.prog 105 #[.int .i64 s, .int .i64 x1, .int .i64 x2, .agg (cells8 root).toArray, .slice A n c] w (Bad w) := by
 have hz1 : (w.alloc (.cells (cells8 root).toArray 23)).heap.size = w.heap.size + 1 := by simp
 have hz2 : ((w.alloc (.cells (cells8 root).toArray 23)).alloc (.cells Z32 23)).heap.size = w.heap.size + 2 := by simp
 have hz3 : (((w.alloc (.cells (cells8 root).toArray 23)).alloc (.cells Z32 23)).alloc (.cells Z32 23)).heap.size = w.heap.size + 3 := by simp
 have hb0 : Hid (Below w.heap.size w (((w.alloc (.cells (cells8 root).toArray 23)).alloc (.cells Z32 23)).alloc (.cells Z32 23))) := ((Below.heap_below w _).alloc (by simp) _).alloc (by simp; omega) _
 have hA0 : Hid (Blk (((w.alloc (.cells (cells8 root).toArray 23)).alloc (.cells Z32 23)).alloc (.cells Z32 23)) (w.heap.size + 1) 23 Z32) := by
  have := (Blk.new (w.alloc (.cells (cells8 root).toArray 23)) 23 Z32).alloc (.cells Z32 23)
  rwa [hz1] at this
 have hE0 : Hid (Blk (((w.alloc (.cells (cells8 root).toArray 23)).alloc (.cells Z32 23)).alloc (.cells Z32 23)) (w.heap.size + 2) 23 Z32) := by
  have := Blk.new ((w.alloc (.cells (cells8 root).toArray 23)).alloc (.cells Z32 23)) 23 Z32
  rwa [hz2] at this
 have hN0 : Hid (Blk ((((w.alloc (.cells (cells8 root).toArray 23)).alloc (.cells Z32 23)).alloc (.cells Z32 23)).alloc (.cells Z32 23)) (w.heap.size + 3) 23 Z32) := by
  have := Blk.new (((w.alloc (.cells (cells8 root).toArray 23)).alloc (.cells Z32 23)).alloc (.cells Z32 23)) 23 Z32
  rwa [hz3] at this
 have hz3h := Lib.hid hz3
 subst h0
 have y2 : decide (x2 < 0) = false := decide_eq_false (by omega)
 have y3 : decide (1099511627776 < x2) = false := decide_eq_false (by omega)
 clear hz1 hz2 hz3
 go_enter Tryd.func105, Tryd.ntmps105
 go_wp2_with ((with_reducible change wpList _ _ _ ({ dst := none, op := Op.store 23 (.tmp 14) _, type := _, pos := _, after := _, guard := _ } :: _) _ _); refine wpList_store_whole (o := ⟨none, _, _, _, _, _⟩) rfl 23 (.tmp 14) (.tmp 25) rfl (w.heap.size + 3) (Z32) rfl rfl 23 (Z32) hN0.out sizeZ rfl oneZ ?_; intro w1 hN1 kk; have hA1 : Hid (Blk w1 (w.heap.size + 1) 23 Z32) := Blk.kept (hA0.out.alloc _) kk (by omega); have hE1 : Hid (Blk w1 (w.heap.size + 2) 23 Z32) := Blk.kept (hE0.out.alloc _) kk (by omega); have hb1 : Hid (Below w.heap.size w w1) := (hb0.out.alloc hb0.out.size _).trans (Kept.below_of kk (by omega) (by have := hz3h.out; simp; omega)); replace hN1 := Lib.hid hN1; clear kk)
 have hNk := Lib.hid (fun w' (h : Kept (fun k => k = w.heap.size + 1 ∨ k = w.heap.size + 2) w1 w') => (hN1.out.kept h (by omega) : Blk w' (w.heap.size + 3) 23 Z32))
 have hAx := hA1
 have hEx := hE1
 have hbx := hb1
 have s0 : Hid (Kept (fun k => k = w.heap.size + 1 ∨ k = w.heap.size + 2) w1 w1.drew) := (Kept.refl _ _).drew
 refine held_start (fun w' => Kept (fun k => k = w.heap.size + 1 ∨ k = w.heap.size + 2) w1 w') 6 rfl (by kernel_rfl) ?_
 refine Held.tk0 (i := 0) (v := .agg (Z32)) rfl s0.out (fun w' hw' => exec_row 23 (.tmp 14) rfl ((w.heap.size + 3)) rfl 23 (Z32) (0, 0) _ (hNk.out w' hw') Tryd.underlying23 rfl sizeZ) ?_
 (intro K k; go_simp; apply k; clear k K)
 refine Held.tk0 (i := 1) (v := .agg (Z32)) rfl s0.out (fun w' hw' => exec_row 23 (.tmp 14) rfl ((w.heap.size + 3)) rfl 23 (Z32) (0, 0) _ (hNk.out w' hw') Tryd.underlying23 rfl sizeZ) ?_
 (intro K k; go_simp; apply k; clear k K)
 refine held_only (i := 2) rfl (by kernel_rfl) (by rfl) (fun K hK => ?_)
 refine wp_store_whole 23 (.tmp 10) (.tmp 46) rfl (w.heap.size + 1) Z32 rfl rfl 23 Z32 hAx.out sizeZ rfl oneZ ?_
 intro w9 q9 k9
 have h9 : Hid (Kept (fun k => k = w.heap.size + 1 ∨ k = w.heap.size + 2) w1 w9) := s0.out.trans k9 (fun i _ h => .inl h)
 have hE9 : Hid (Blk w9 (w.heap.size + 2) 23 Z32) := Blk.kept (w := w1.drew) hEx.out k9 (by omega)
 go_simp
 refine hK _ _ h9.out ?_
 clear hK K
 refine held_only (i := 3) rfl (by kernel_rfl) (by rfl) (fun K hK => ?_)
 refine wp_store_whole 23 (.tmp 11) (.tmp 47) rfl (w.heap.size + 2) Z32 rfl rfl 23 Z32 hE9.out sizeZ rfl oneZ ?_
 intro w10 q10 k10
 have h10 : Hid (Kept (fun k => k = w.heap.size + 1 ∨ k = w.heap.size + 2) w1 w10) := h9.out.trans k10 (fun i _ h => .inr h)
 have q11 : Hid (Blk w10 (w.heap.size + 1) 23 Z32) := Blk.kept q9 k10 (by omega)
 go_simp
 refine hK _ _ h10.out ?_
 clear hK K
 refine Held.tk0 (i := 4) (v := .slice none 0 0) rfl h10.out (fun w' hw' => by first | go_simp | rfl) ?_
 (intro K k; go_simp; apply k; clear k K)
 refine Held.tk0 (i := 5) (v := .int .i64 60) rfl h10.out (fun w' hw' => by first | go_simp | rfl) ?_
 (intro K k; go_simp; apply k; clear k K)
 refine held_end (by kernel_rfl) ?_
 have hfin : Hid (Below w.heap.size w w10) := Kept.toBelow hbx.out h10.out (fun k h => by rcases h with h | h <;> omega) hbx.out.size
 go_wp2_with fail
 refine bodyPost_ret (results_ccrr rfl _ _ (w.heap.size + 1) (w.heap.size + 2) 23 23 Z32 Z32 (0, 0) (0, 0) _ rfl q11.out rfl q10 Tryd.underlying23 rfl sizeZ sizeZ) rfl ?_
 exact ⟨_, rfl, hfin.out⟩
set_option maxRecDepth 100000 in
set_option maxHeartbeats 1000000 in
theorem rx_eq (x1 x2 : Int) (h0 : ¬ x1 < 1) (h2 : ¬ 1099511627776 < x1) (h1 : x1 = x2) : Calls Tryd.prog 105 #[.int .i64 s, .int .i64 x1, .int .i64 x2, .agg (cells8 root).toArray, .slice A n c] w (Bad w) := by
 have hz1 : (w.alloc (.cells (cells8 root).toArray 23)).heap.size = w.heap.size + 1 := by simp
 have hz2 : ((w.alloc (.cells (cells8 root).toArray 23)).alloc (.cells Z32 23)).heap.size = w.heap.size + 2 := by simp
 have hz3 : (((w.alloc (.cells (cells8 root).toArray 23)).alloc (.cells Z32 23)).alloc (.cells Z32 23)).heap.size = w.heap.size + 3 := by simp
 have hb0 : Hid (Below w.heap.size w (((w.alloc (.cells (cells8 root).toArray 23)).alloc (.cells Z32 23)).alloc (.cells Z32 23))) := ((Below.heap_below w _).alloc (by simp) _).alloc (by simp; omega) _
 have hA0 : Hid (Blk (((w.alloc (.cells (cells8 root).toArray 23)).alloc (.cells Z32 23)).alloc (.cells Z32 23)) (w.heap.size + 1) 23 Z32) := by
  have := (Blk.new (w.alloc (.cells (cells8 root).toArray 23)) 23 Z32).alloc (.cells Z32 23)
  rwa [hz1] at this
 have hE0 : Hid (Blk (((w.alloc (.cells (cells8 root).toArray 23)).alloc (.cells Z32 23)).alloc (.cells Z32 23)) (w.heap.size + 2) 23 Z32) := by
  have := Blk.new ((w.alloc (.cells (cells8 root).toArray 23)).alloc (.cells Z32 23)) 23 Z32
  rwa [hz2] at this
 have hN0 : Hid (Blk ((((w.alloc (.cells (cells8 root).toArray 23)).alloc (.cells Z32 23)).alloc (.cells Z32 23)).alloc (.cells Z32 23)) (w.heap.size + 3) 23 Z32) := by
  have := Blk.new (((w.alloc (.cells (cells8 root).toArray 23)).alloc (.cells Z32 23)).alloc (.cells Z32 23)) 23 Z32
  rwa [hz3] at this
 have hz3h := Lib.hid hz3
 subst h1
 have y5 : (x1 == 0) = false := beq_eq_false_iff_ne.2 (by omega)
 have y0 : ¬ x1 < 0 := by omega
 have y1 : decide (x1 < 0) = false := decide_eq_false (by omega)
 have y3 : decide (1099511627776 < x1) = false := decide_eq_false (by omega)
 clear hz1 hz2 hz3
 go_enter Tryd.func105, Tryd.ntmps105
 go_wp2_with ((with_reducible change wpList _ _ _ ({ dst := none, op := Op.store 23 (.tmp 14) _, type := _, pos := _, after := _, guard := _ } :: _) _ _); refine wpList_store_whole (o := ⟨none, _, _, _, _, _⟩) rfl 23 (.tmp 14) (.tmp 25) rfl (w.heap.size + 3) (Z32) rfl rfl 23 (Z32) hN0.out sizeZ rfl oneZ ?_; intro w1 hN1 kk; have hA1 : Hid (Blk w1 (w.heap.size + 1) 23 Z32) := Blk.kept (hA0.out.alloc _) kk (by omega); have hE1 : Hid (Blk w1 (w.heap.size + 2) 23 Z32) := Blk.kept (hE0.out.alloc _) kk (by omega); have hb1 : Hid (Below w.heap.size w w1) := (hb0.out.alloc hb0.out.size _).trans (Kept.below_of kk (by omega) (by have := hz3h.out; simp; omega)); replace hN1 := Lib.hid hN1; clear kk)
 have hNk := Lib.hid (fun w' (h : Kept (fun k => k = w.heap.size + 1 ∨ k = w.heap.size + 2) w1 w') => (hN1.out.kept h (by omega) : Blk w' (w.heap.size + 3) 23 Z32))
 have hAx := hA1
 have hEx := hE1
 have hbx := hb1
 have s0 : Hid (Kept (fun k => k = w.heap.size + 1 ∨ k = w.heap.size + 2) w1 w1.drew) := (Kept.refl _ _).drew
 refine held_start (fun w' => Kept (fun k => k = w.heap.size + 1 ∨ k = w.heap.size + 2) w1 w') 6 rfl (by kernel_rfl) ?_
 refine Held.tk0 (i := 0) (v := .agg (Z32)) rfl s0.out (fun w' hw' => exec_row 23 (.tmp 14) rfl ((w.heap.size + 3)) rfl 23 (Z32) (0, 0) _ (hNk.out w' hw') Tryd.underlying23 rfl sizeZ) ?_
 (intro K k; go_simp; apply k; clear k K)
 refine Held.tk0 (i := 1) (v := .agg (Z32)) rfl s0.out (fun w' hw' => exec_row 23 (.tmp 14) rfl ((w.heap.size + 3)) rfl 23 (Z32) (0, 0) _ (hNk.out w' hw') Tryd.underlying23 rfl sizeZ) ?_
 (intro K k; go_simp; apply k; clear k K)
 refine held_only (i := 2) rfl (by kernel_rfl) (by rfl) (fun K hK => ?_)
 refine wp_store_whole 23 (.tmp 10) (.tmp 46) rfl (w.heap.size + 1) Z32 rfl rfl 23 Z32 hAx.out sizeZ rfl oneZ ?_
 intro w9 q9 k9
 have h9 : Hid (Kept (fun k => k = w.heap.size + 1 ∨ k = w.heap.size + 2) w1 w9) := s0.out.trans k9 (fun i _ h => .inl h)
 have hE9 : Hid (Blk w9 (w.heap.size + 2) 23 Z32) := Blk.kept (w := w1.drew) hEx.out k9 (by omega)
 go_simp
 refine hK _ _ h9.out ?_
 clear hK K
 refine held_only (i := 3) rfl (by kernel_rfl) (by rfl) (fun K hK => ?_)
 refine wp_store_whole 23 (.tmp 11) (.tmp 47) rfl (w.heap.size + 2) Z32 rfl rfl 23 Z32 hE9.out sizeZ rfl oneZ ?_
 intro w10 q10 k10
 have h10 : Hid (Kept (fun k => k = w.heap.size + 1 ∨ k = w.heap.size + 2) w1 w10) := h9.out.trans k10 (fun i _ h => .inr h)
 have q11 : Hid (Blk w10 (w.heap.size + 1) 23 Z32) := Blk.kept q9 k10 (by omega)
 go_simp
 refine hK _ _ h10.out ?_
 clear hK K
 refine Held.tk0 (i := 4) (v := .slice none 0 0) rfl h10.out (fun w' hw' => by first | go_simp | rfl) ?_
 (intro K k; go_simp; apply k; clear k K)
 refine Held.tk0 (i := 5) (v := .int .i64 60) rfl h10.out (fun w' hw' => by first | go_simp | rfl) ?_
 (intro K k; go_simp; apply k; clear k K)
 refine held_end (by kernel_rfl) ?_
 have hfin : Hid (Below w.heap.size w w10) := Kept.toBelow hbx.out h10.out (fun k h => by rcases h with h | h <;> omega) hbx.out.size
 go_wp2_with fail
 refine bodyPost_ret (results_ccrr rfl _ _ (w.heap.size + 1) (w.heap.size + 2) 23 23 Z32 Z32 (0, 0) (0, 0) _ rfl q11.out rfl q10 Tryd.underlying23 rfl sizeZ sizeZ) rfl ?_
 exact ⟨_, rfl, hfin.out⟩
set_option maxRecDepth 100000 in
set_option maxHeartbeats 1000000 in
theorem rx_len (o z : Nat) (h1 : 1 ≤ o) (h2 : o < z) (h3 : z ≤ 1099511627776) (hn : ¬ betw o z = n) : Calls Tryd.prog 105 #[.int .i64 s, .int .i64 (o : Int), .int .i64 (z : Int), .agg (cells8 root).toArray, .slice A n c] w (Bad w) := by
 have hz1 : (w.alloc (.cells (cells8 root).toArray 23)).heap.size = w.heap.size + 1 := by simp
 have hz2 : ((w.alloc (.cells (cells8 root).toArray 23)).alloc (.cells Z32 23)).heap.size = w.heap.size + 2 := by simp
 have hz3 : (((w.alloc (.cells (cells8 root).toArray 23)).alloc (.cells Z32 23)).alloc (.cells Z32 23)).heap.size = w.heap.size + 3 := by simp
 have hb0 : Hid (Below w.heap.size w (((w.alloc (.cells (cells8 root).toArray 23)).alloc (.cells Z32 23)).alloc (.cells Z32 23))) := ((Below.heap_below w _).alloc (by simp) _).alloc (by simp; omega) _
 have hA0 : Hid (Blk (((w.alloc (.cells (cells8 root).toArray 23)).alloc (.cells Z32 23)).alloc (.cells Z32 23)) (w.heap.size + 1) 23 Z32) := by
  have := (Blk.new (w.alloc (.cells (cells8 root).toArray 23)) 23 Z32).alloc (.cells Z32 23)
  rwa [hz1] at this
 have hE0 : Hid (Blk (((w.alloc (.cells (cells8 root).toArray 23)).alloc (.cells Z32 23)).alloc (.cells Z32 23)) (w.heap.size + 2) 23 Z32) := by
  have := Blk.new ((w.alloc (.cells (cells8 root).toArray 23)).alloc (.cells Z32 23)) 23 Z32
  rwa [hz2] at this
 have hN0 : Hid (Blk ((((w.alloc (.cells (cells8 root).toArray 23)).alloc (.cells Z32 23)).alloc (.cells Z32 23)).alloc (.cells Z32 23)) (w.heap.size + 3) 23 Z32) := by
  have := Blk.new (((w.alloc (.cells (cells8 root).toArray 23)).alloc (.cells Z32 23)).alloc (.cells Z32 23)) 23 Z32
  rwa [hz3] at this
 have hz3h := Lib.hid hz3
 have hPt := Lib.hid (fun w' => rows_any o z (by omega) h3 w')
 obtain ⟨m, hm⟩ : ∃ m, betw o z = m := ⟨_, rfl⟩
 have hpn : Hid ((partsOf o z).length = m) := by show _ = _; rw [partsOf_len (by omega), hm]
 rw [hm] at hn
 have y1 : decide ((o : Int) < 0) = false := decide_eq_false (by omega)
 have y2 : decide (z < o) = false := decide_eq_false (by omega)
 have y3 : decide (1099511627776 < (z : Int)) = false := decide_eq_false (by omega)
 have y4 : ((o : Int) == 0) = false := beq_eq_false_iff_ne.2 (by omega)
 have y5 : ((o : Int) == (z : Int)) = false := beq_eq_false_iff_ne.2 (by omega)
 have y6 : ¬ o = 0 := by omega
 have y7 : ¬ o = z := by omega
 have y8 : ¬ z < o := by omega
 have y9 : ((m : Int) != (n : Int)) = true := by rw [bne, beq_eq_false_iff_ne.2 (show (m : Int) ≠ (n : Int) by omega)]; rfl
 clear hz1 hz2 hz3 h1 h2 h3 hm
 go_enter Tryd.func105, Tryd.ntmps105
 go_wp2_with ((with_reducible change wpList _ _ _ ({ dst := none, op := Op.store 23 (.tmp 14) _, type := _, pos := _, after := _, guard := _ } :: _) _ _); refine wpList_store_whole (o := ⟨none, _, _, _, _, _⟩) rfl 23 (.tmp 14) (.tmp 25) rfl (w.heap.size + 3) (Z32) rfl rfl 23 (Z32) hN0.out sizeZ rfl oneZ ?_; intro w1 hN1 kk; have hA1 : Hid (Blk w1 (w.heap.size + 1) 23 Z32) := Blk.kept (hA0.out.alloc _) kk (by omega); have hE1 : Hid (Blk w1 (w.heap.size + 2) 23 Z32) := Blk.kept (hE0.out.alloc _) kk (by omega); have hb1 : Hid (Below w.heap.size w w1) := (hb0.out.alloc hb0.out.size _).trans (Kept.below_of kk (by omega) (by have := hz3h.out; simp; omega)); replace hN1 := Lib.hid hN1; clear kk)
 refine (hPt.out _).mono ?_
 rintro e w2 ⟨v, rfl, hO, hk2⟩
 rw [hpn.out] at hO
 obtain ⟨Ap, cp, rfl, -⟩ := Append.Own.reads hO
 have hbx : Hid (Below w.heap.size w w2) := hb1.out.trans (hk2.mono hb1.out.size)
 have hAx : Hid (Blk w2 (w.heap.size + 1) 23 Z32) := (hk2.block _ hA1.out.lt).trans hA1.out
 have hEx : Hid (Blk w2 (w.heap.size + 2) 23 Z32) := (hk2.block _ hE1.out.lt).trans hE1.out
 have hN2 : Hid (Blk w2 (w.heap.size + 3) 23 Z32) := (hk2.block _ hN1.out.lt).trans hN1.out
 have hNk := Lib.hid (fun w' (h : Kept (fun k => k = w.heap.size + 1 ∨ k = w.heap.size + 2) w2 w') => (hN2.out.kept h (by omega) : Blk w' (w.heap.size + 3) 23 Z32))
 clear hO hk2 hPt hb1 hA1 hE1 hN1
 go_wp2_with fail
 have s0 : Hid (Kept (fun k => k = w.heap.size + 1 ∨ k = w.heap.size + 2) w2 w2.drew) := (Kept.refl _ _).drew
 refine held_start (fun w' => Kept (fun k => k = w.heap.size + 1 ∨ k = w.heap.size + 2) w2 w') 6 rfl (by kernel_rfl) ?_
 refine Held.tk0 (i := 0) (v := .agg (Z32)) rfl s0.out (fun w' hw' => exec_row 23 (.tmp 14) rfl ((w.heap.size + 3)) rfl 23 (Z32) (0, 0) _ (hNk.out w' hw') Tryd.underlying23 rfl sizeZ) ?_
 (intro K k; go_simp; apply k; clear k K)
 refine Held.tk0 (i := 1) (v := .agg (Z32)) rfl s0.out (fun w' hw' => exec_row 23 (.tmp 14) rfl ((w.heap.size + 3)) rfl 23 (Z32) (0, 0) _ (hNk.out w' hw') Tryd.underlying23 rfl sizeZ) ?_
 (intro K k; go_simp; apply k; clear k K)
 refine held_only (i := 2) rfl (by kernel_rfl) (by rfl) (fun K hK => ?_)
 refine wp_store_whole 23 (.tmp 10) (.tmp 55) rfl (w.heap.size + 1) Z32 rfl rfl 23 Z32 hAx.out sizeZ rfl oneZ ?_
 intro w9 q9 k9
 have h9 : Hid (Kept (fun k => k = w.heap.size + 1 ∨ k = w.heap.size + 2) w2 w9) := s0.out.trans k9 (fun i _ h => .inl h)
 have hE9 : Hid (Blk w9 (w.heap.size + 2) 23 Z32) := Blk.kept (w := w2.drew) hEx.out k9 (by omega)
 go_simp
 refine hK _ _ h9.out ?_
 clear hK K
 refine held_only (i := 3) rfl (by kernel_rfl) (by rfl) (fun K hK => ?_)
 refine wp_store_whole 23 (.tmp 11) (.tmp 56) rfl (w.heap.size + 2) Z32 rfl rfl 23 Z32 hE9.out sizeZ rfl oneZ ?_
 intro w10 q10 k10
 have h10 : Hid (Kept (fun k => k = w.heap.size + 1 ∨ k = w.heap.size + 2) w2 w10) := h9.out.trans k10 (fun i _ h => .inr h)
 have q11 : Hid (Blk w10 (w.heap.size + 1) 23 Z32) := Blk.kept q9 k10 (by omega)
 go_simp
 refine hK _ _ h10.out ?_
 clear hK K
 refine Held.tk0 (i := 4) (v := .slice none 0 0) rfl h10.out (fun w' hw' => by first | go_simp | rfl) ?_
 (intro K k; go_simp; apply k; clear k K)
 refine Held.tk0 (i := 5) (v := .int .i64 170) rfl h10.out (fun w' hw' => by first | go_simp | rfl) ?_
 (intro K k; go_simp; apply k; clear k K)
 refine held_end (by kernel_rfl) ?_
 have hfin : Hid (Below w.heap.size w w10) := Kept.toBelow hbx.out h10.out (fun k h => by rcases h with h | h <;> omega) hbx.out.size
 go_wp2_with fail
 refine bodyPost_ret (results_ccrr rfl _ _ (w.heap.size + 1) (w.heap.size + 2) 23 23 Z32 Z32 (0, 0) (0, 0) _ rfl q11.out rfl q10 Tryd.underlying23 rfl sizeZ sizeZ) rfl ?_
 exact ⟨_, rfl, hfin.out⟩
structure DA (cs : Array Value) : Prop where
 size : (Tryd.prog.info? 23).map (·.size) = some cs.size
 zero : (Z32 : Array Value).size = cs.size
 one : cs.all (fun v => v.oneCell') = true
theorem DA.z : DA Z32 := ⟨sizeZ, rfl, oneZ⟩
theorem DA.d {x : Text} (h : x.length = 32) : DA (cells8 x).toArray := ⟨(fit (x := x) h).size, (fit (x := x) h).zero, (fit (x := x) h).one⟩
theorem refahead_ts (hs63 : s < 9223372036854775808) (hrt : root.length = 32) (x1 x2 : Int) (ds : List Text) (hr : RdD w A n ds) : Calls Tryd.prog 105 #[.int .i64 s, .int .i64 x1, .int .i64 x2, .agg (cells8 root).toArray, .slice A n c] w fun e w' => ∃ d1 d2 A' c' xs k, DA d1 ∧ DA d2 ∧ e = .returned (.tuple #[.agg d1, .agg d2, .slice A' (jointTs s x1 x2 root ds).length c', .int .i64 k]) ∧ (A' = none → (jointTs s x1 x2 root ds).length = 0 ∧ c' = 0) ∧ Reads w' 1 A' (jointTs s x1 x2 root ds).length xs ∧ Tx w' xs (jointTs s x1 x2 root ds) ∧ Below w.heap.size w w' := by
 by_cases hok : joinOk x1 x2 ds = true
 ·obtain ⟨o, z, rfl, rfl, h1, h2, h3, h4⟩ := joinOk_get hok
  obtain ⟨f1, f2, f3, f4, -⟩ := aheadOf_ok (s := s) h1 h2 hrt hr.2.1 h4
  refine (refahead_own s hs63 o z h1 h2 h3 root hrt ds A n c (by rw [h4, hr.1]) w hr).mono ?_
  rintro e w' ⟨A', c', xs, rfl, hn0, hrd, hT, hb⟩
  have hj : jointTs s (o : Int) (z : Int) root ds = (aheadOf s o z root ds).ft ++ (aheadOf s o z root ds).st := by unfold jointTs; rw [if_pos hok, Int.toNat_natCast, Int.toNat_natCast]
  rw [hj, List.length_append]
  exact ⟨_, _, A', c', xs, 0, DA.d f1, DA.d f2, rfl, hn0, hrd, hT, hb⟩
 ·have hj : jointTs s x1 x2 root ds = [] := by unfold jointTs; rw [if_neg hok]
  rw [hj]
  have fin : ∀ e w', Bad w e w' → ∃ d1 d2 A' c' xs k, DA d1 ∧ DA d2 ∧ e = .returned (.tuple #[.agg d1, .agg d2, .slice A' ([] : List Text).length c', .int .i64 k]) ∧ (A' = none → ([] : List Text).length = 0 ∧ c' = 0) ∧ Reads w' 1 A' ([] : List Text).length xs ∧ Tx w' xs [] ∧ Below w.heap.size w w' := fun e w' ⟨k, he, hb⟩ => ⟨Z32, Z32, none, 0, [], k, DA.z, DA.z, he, fun _ => ⟨rfl, rfl⟩, Reads.nil_ _ _ _, (fun i q h => by cases h), hb⟩
  by_cases a1 : x1 < 0
  ·exact (rx_neg s root A n c w x1 x2 a1).mono fin
  by_cases a2 : x2 < x1
  ·exact (rx_gt s root A n c w x1 x2 a1 a2).mono fin
  by_cases a3 : 1099511627776 < x2
  ·exact (rx_most s root A n c w x1 x2 a1 a2 a3).mono fin
  by_cases a4 : x1 = 0
  ·exact (rx_zero s root A n c w x1 x2 a4 (by omega) a3).mono fin
  by_cases a5 : x1 = x2
  ·exact (rx_eq s root A n c w x1 x2 (by omega) (by omega) a5).mono fin
  obtain ⟨o, rfl⟩ := Int.eq_ofNat_of_zero_le (show 0 ≤ x1 by omega)
  obtain ⟨z, rfl⟩ := Int.eq_ofNat_of_zero_le (show 0 ≤ x2 by omega)
  exact (rx_len s root A n c w o z (by omega) (by omega) (by omega) (fun h => hok (joinOk_nat (by omega) (by omega) (by omega) (by rw [h]; exact hr.1.symm)))).mono fin
theorem ahead_ts (hB : Base w) (hrt : root.length = 32) (r1 : Text) (x1 x2 : Int) (ds : List Text) (hr : RdD w A n ds) (hag : agreeOf s x1 x2 root r1 ds = 0) : Calls Tryd.prog 206 #[.int .i64 s, .int .i64 x1, .int .i64 x2, .agg (cells8 root).toArray, .slice A n c] w fun e w' => ∃ d1 d2 v xs k, DA d1 ∧ DA d2 ∧ e = .returned (.tuple #[.agg d1, .agg d2, v, .int .i64 k]) ∧ w'.ownsRow w.heap.size 27 1 v (jointTs s x1 x2 root ds).length xs ∧ Ty w' xs (jointTs s x1 x2 root ds) ∧ Below w.heap.size w w' := by
 obtain ⟨o, z, rfl, rfl, hoz, h3, h4, -, -⟩ := TreeJoins.agree_taken hag
 have fin : jointTs s (o : Int) (z : Int) root ds = [] → ∀ e w', Bad w e w' → ∃ d1 d2 v xs k, DA d1 ∧ DA d2 ∧ e = .returned (.tuple #[.agg d1, .agg d2, v, .int .i64 k]) ∧ w'.ownsRow w.heap.size 27 1 v (jointTs s (o : Int) (z : Int) root ds).length xs ∧ Ty w' xs (jointTs s (o : Int) (z : Int) root ds) ∧ Below w.heap.size w w' := fun hj e w' ⟨k, he, hb⟩ => by
  rw [hj]
  exact ⟨Z32, Z32, _, [], k, DA.z, DA.z, he, ⟨rfl, .inl ⟨rfl, rfl⟩⟩, Ty.nil_ _, hb⟩
 have hjb : joinsB (o : Int) (z : Int) = true := by
  have a1 : (0 : Int) ≤ o := by omega
  have a2 : (o : Int) ≤ z := by omega
  have a3 : (z : Int) ≤ 1099511627776 := by omega
  simp [joinsB, a1, a2, a3]
 by_cases a0 : o = 0
 ·have hj : jointTs s (o : Int) (z : Int) root ds = [] := by
   unfold jointTs
   rw [if_neg]
   intro h
   obtain ⟨o', z', e1, -, e2, -⟩ := joinOk_get h
   omega
  exact (px_old s root A n c w _ _ hjb (by omega)).mono (fin hj)
 by_cases a1 : o = z
 ·have hj : jointTs s (o : Int) (z : Int) root ds = [] := by
   unfold jointTs
   rw [if_neg]
   intro h
   obtain ⟨o', z', e1, e1', e2, e3, -⟩ := joinOk_get h
   omega
  exact (px_eq s root A n c w _ _ hjb (by omega) (by omega)).mono (fin hj)
 have h1 : 1 ≤ o := by omega
 have h2 : o < z := by omega
 obtain ⟨f1, f2, f3, f4, -⟩ := aheadOf_ok (s := s) h1 h2 hrt hr.2.1 h4
 refine (aheadx_any s o z h1 h2 h3 root hrt ds A n c (by rw [partsOf_len (by omega), h4, hr.1]) w hB hr _ rfl f1 f2).mono ?_
 rintro e w' ⟨A', c', xs, rfl, hO, hT, hb⟩
 have hj : jointTs s (o : Int) (z : Int) root ds = (aheadOf s o z root ds).ft ++ (aheadOf s o z root ds).st := by unfold jointTs; rw [if_pos (joinOk_nat h1 h2 h3 h4), Int.toNat_natCast, Int.toNat_natCast]
 rw [hj, List.length_append]
 exact ⟨_, _, _, xs, 0, DA.d f1, DA.d f2, rfl, hO, Tx.ty hT, hb⟩
theorem joint_long (hrt : root.length = 32) {x1 x2 : Int} {ds : List Text} (hd : Digs ds) : (∀ q ∈ jointTs s x1 x2 root ds, q.length = 65) ∧ (jointTs s x1 x2 root ds).length ≤ 200 := by
 unfold jointTs
 split
 ·rename_i hok
  obtain ⟨o, z, rfl, rfl, h1, h2, h3, h4⟩ := joinOk_get hok
  rw [Int.toNat_natCast, Int.toNat_natCast]
  obtain ⟨f1, f2, f3, f4, f5, f6⟩ := aheadOf_ok (s := s) h1 h2 hrt hd h4
  refine ⟨fun q hq => (List.mem_append.1 hq).elim (f3 q) (f4 q), ?_⟩
  have := betw_le (Nat.le_of_lt h2) h3
  rw [List.length_append]
  omega
 ·exact ⟨(fun q h => by cases h), Nat.zero_le _⟩
end
end Go.Proofs.YtmdkfhfkdcbpgaaDoorR.AheadAny

namespace Go.Proofs.YtmdkfhfkdcbpgaaDoorR.Included
open Go Go.RowKit Go.Proofs.YtmdkfhfkdcbpgaaDoorR DigestText Mem Sha Bytes HashMem DigestMem Digest DigestTop RefTop QuietTail Grown Chain TreeMem TreeRoot Go.Proofs.YtmdkfhfkdcbpgaaDoorR.Append Held Guard Sides Node Climb Incl Include Climbs Texts AheadT RowsT RowsY RefIncl ProofEnc Ref17 InclAll Own Book Book2 Within AudIncl Way20 TwoEvP

def incV (s : Int) (root : Text) (A : Option Addr) (k c : Nat) (x1 x2 : Int) (A2 : Option Addr) (n c2 : Nat) : List Value := Value.int .i64 s :: (cells8 root ++ [Value.slice A k c, Value.int .i64 x1, Value.int .i64 x2, Value.slice A2 n c2])
section
variable {s x1 x2 : Int} {root : Text} {A A2 : Option Addr} {k c n c2 : Nat}
theorem incV_0 : (incV s root A k c x1 x2 A2 n c2)[0]? = some (.int .i64 s) := rfl
theorem incV_root (j : Nat) (v : Value) (hv : (cells8 root)[j]? = some v) : (incV s root A k c x1 x2 A2 n c2)[1 + j]? = some v := by
 rw [Nat.add_comm, incV, List.getElem?_cons_succ, List.getElem?_append_left (List.getElem?_eq_some_iff.1 hv).1]
 exact hv
theorem incV_end (h : root.length = 32) (j : Nat) : (incV s root A k c x1 x2 A2 n c2)[33 + j]? = [Value.slice A k c, Value.int .i64 x1, Value.int .i64 x2, Value.slice A2 n c2][j]? := by
 have hl : (cells8 root).length = 32 := by rw [cells8_len, h]
 rw [show 33 + j = (32 + j) + 1 by omega, incV, List.getElem?_cons_succ, List.getElem?_append_right (by omega), hl, Nat.add_sub_cancel_left]
end
theorem own_some {w : World} {B n : Nat} {e : TypeId} {v : Value} {xs : List Value} (ho : w.ownsRow B e 1 v n xs) (h : 0 < n) : ∃ g c, v = .slice (some ⟨g, 0, none⟩) n c ∧ n ≤ c := by
 rcases ho.2 with ⟨rfl, rfl⟩ | ⟨g, cap, cur, rfl, hbg, hg, hnc, -⟩
 ·exact absurd h (Nat.lt_irrefl 0)
 ·exact ⟨g, cap, rfl, hnc⟩
set_option maxRecDepth 100000 in
set_option maxHeartbeats 2000000 in
theorem taken_any (s : Int) (root : Text) (hrt : root.length = 32) (ev : Text) (k : Nat) (hk : ev.length = k) (hk47 : k < 140737488355328) (A : Option Addr) (c : Nat) (hkc : k ≤ c) (hnil : A = none → k = 0 ∧ c = 0) (x1 x2 : Int) (ds : List Text) (A2 : Option Addr) (n c2 : Nat) (hn40 : n < 1099511627776) (w : World) (hB : Base w) (hr : Reads w 1 A k (cells8 ev)) (hrd : RdD w A2 n ds) :
  Calls Tryd.prog 191 #[.agg (incV s root A k c x1 x2 A2 n c2).toArray] w fun e w' => e = .returned (.bool (audIncl s root ev x1 x2 ds == 0)) ∧ Below w.heap.size w w' := by
 have hIn := Lib.hid (fun w' (hb : Below w.heap.size w w') => audIncl_any s root hrt ev k hk hk47 A c hkc hnil x1 x2 ds A2 n c2 hn40 w' (hB.below hb hB.1) (hr.below hb) (hrd.below hb))
 unfold inclCells at hIn
 obtain ⟨cs, hcs⟩ : ∃ cs, Hid ((incV s root A k c x1 x2 A2 n c2).toArray = cs) := ⟨_, Lib.hid rfl⟩
 have hb0 : Hid (Below w.heap.size w (w.alloc (.cells cs 153))) := Below.heap_below w _
 have hP : Hid (Blk (w.alloc (.cells cs 153)) w.heap.size 153 cs) := Blk.new w _ _
 have c0 : (w.alloc (.cells cs 153)).cell? ⟨w.heap.size, 0, none⟩ = some (.int .i64 s) := by rw [hP.out.cell 0, ← hcs.out, List.getElem?_toArray]; exact incV_0
 have c33 : (w.alloc (.cells cs 153)).cell? ⟨w.heap.size, 33, none⟩ = some (.slice A k c) := by rw [hP.out.cell 33, ← hcs.out, List.getElem?_toArray]; exact incV_end hrt 0
 have hroot : Hid (∀ j v, (cells8 root)[j]? = some v → (w.alloc (.cells cs 153)).cell? ⟨w.heap.size, 1 + j, none⟩ = some v) := fun j v h => by rw [hP.out.cell (1 + j), ← hcs.out, List.getElem?_toArray]; exact incV_root j v h
 have hpr : Hid (∀ j v, [Value.int .i64 x1, Value.int .i64 x2, Value.slice A2 n c2][j]? = some v → (w.alloc (.cells cs 153)).cell? ⟨w.heap.size, 34 + j, none⟩ = some v) := fun j v h => by
  rw [hP.out.cell (34 + j), ← hcs.out, List.getElem?_toArray, show 34 + j = 33 + (j + 1) by omega, incV_end hrt (j + 1)]
  exact h
 have hsz : Hid ((Tryd.prog.info? 23).map (·.size) = some (cells8 root).length) := by show _ = _; rw [cells8_len, hrt]; exact size31
 obtain ⟨bb, hbb⟩ : ∃ b, (audIncl s root ev x1 x2 ds == 0) = b := ⟨_, rfl⟩
 rw [hcs.out, hbb]
 clear hrt hk hk47 hkc hnil hn40 hB hr hrd hcs hP
 go_enter Tryd.func191, Tryd.ntmps191
 go_wp2_with (first
  | ((with_reducible change wpList _ _ _ (⟨some 6, _, _, _, _, _⟩ :: _) _ _); refine wpList_load_part (o := ⟨some 6, _, _, _, _, _⟩) rfl 23 (.tmp 5) rfl w.heap.size 1 rfl (cells8 root) _ hroot.out Tryd.underlying23 rfl hsz.out ?_)
  | ((with_reducible change wpList _ _ _ (⟨some 10, _, _, _, _, _⟩ :: _) _ _); refine wpList_load_part (o := ⟨some 10, _, _, _, _, _⟩) rfl 31 (.tmp 9) rfl w.heap.size 34 rfl [Value.int .i64 x1, Value.int .i64 x2, Value.slice A2 n c2] _ hpr.out Tryd.underlying31 rfl sizeI ?_))
 refine (hIn.out _ hb0.out).mono ?_
 rintro e w1 ⟨rfl, hk1⟩
 have hb1 := Lib.hid (hb0.out.trans (hk1.mono hb0.out.size))
 clear hk1 hb0 hIn c0 c33 hroot hpr
 go_wp2_with fail
 go_ret
 exact ⟨rfl, hb1.out⟩

set_option maxRecDepth 100000 in
set_option maxHeartbeats 2000000 in
theorem texts_any (s : Int) (root : Text) (hrt : root.length = 32) (ev : Text) (k : Nat) (hk : ev.length = k) (hk1 : 0 < k) (hk47 : k < 140737488355327) (A : Option Addr) (c : Nat) (hkc : k ≤ c) (hnil : A = none → k = 0 ∧ c = 0) (x1 x2 : Int) (ds : List Text) (A2 : Option Addr) (n c2 : Nat) (hn40 : n < 1099511627776) (w : World) (hB : Base w) (hr : Reads w 1 A k (cells8 ev)) (hrd : RdD w A2 n ds) :
  Calls Tryd.prog 192 #[.agg (incV s root A k c x1 x2 A2 n c2).toArray] w fun e w' => ∃ v xs, e = .returned v ∧ w'.ownsRow w.heap.size 27 1 v (evTexts s ev x1 x2 ds).length xs ∧ Ty w' xs (evTexts s ev x1 x2 ds) ∧ Below w.heap.size w w' := by
 obtain ⟨i0, ii, iz0, iz1, iz2⟩ := info_partsN infoT
 have hxt := inclOf_texts s x1 x2 (leafOf s ev) ds (leafOf_len s ev) hrd.2.1
 rw [hrd.1] at hxt
 unfold evTexts
 obtain ⟨⟨x, kk, ts⟩, hX⟩ : ∃ X, inclOf s x1 x2 (leafOf s ev) [] ds = X := ⟨_, rfl⟩
 rw [hX] at hxt ⊢
 dsimp only at hxt ⊢
 obtain ⟨lf, hlf⟩ : ∃ lf, Hid (leafOf s ev = lf) := ⟨_, Lib.hid rfl⟩
 have hlfl : Hid (lf.length = 32) := by show _ = _; rw [← hlf.out]; exact leafOf_len s ev
 have hLf : Hid (∀ w', Below w.heap.size w w' → Calls Tryd.prog 23 #[.int .i64 s, .slice A k c] w' fun e w'' => e = .returned (.agg (cells8 lf).toArray) ∧ Below w'.heap.size w' w'') := fun w' hb => by
  have := leaf_any ev k hk A c s w' (hB.below hb hB.1) (by omega) (hr.below hb) hkc hnil
  rw [← hlf.out]
  exact this
 obtain ⟨m, hm⟩ : ∃ m, ts.length = m := ⟨_, rfl⟩
 have hIn : Hid (∀ w', Below w.heap.size w w' → Calls Tryd.prog 194 #[.int .i64 s, .int .i64 x1, .int .i64 x2, .agg (cells8 lf).toArray, .slice A2 n c2] w' fun e w'' => ∃ A0 c0 xs, e = .returned (.tuple #[.slice A0 m c0, .int .i64 kk]) ∧ (A0 = none → m = 0 ∧ c0 = 0) ∧ Reads w'' 1 A0 m xs ∧ Tx w'' xs ts ∧ Below w'.heap.size w' w'') := fun w' hb => by
  have := climb_own s x1 x2 lf hlfl.out ds A2 n c2 (by omega) w' (hB.below hb hB.1) (hrd.below hb)
  rw [← hlf.out, hX] at this
  rw [← hlf.out]
  refine this.mono ?_
  rintro e w'' ⟨v, xs, r, gc, rfl, ho, hx, hb, -⟩
  obtain ⟨A0, c0, rfl, -, -, hn0, hrr, -⟩ := Append.Own.reads ho
  dsimp only at *
  rw [hm] at hn0 hrr
  exact ⟨A0, c0, xs, by rw [hm], hn0, hrr, Txs.tx hx hxt.2, hb⟩
 have hTe : Hid (∀ w', Below w.heap.size w w' → Calls Tryd.prog 160 #[.int .i64 0, .slice (some ⟨w'.heap.size, 0, none⟩) 1 1] (w'.alloc (.cells #[.slice A k c] 27)) fun e w'' => ∃ A5 c5, e = .returned (.slice (some ⟨A5, 0, none⟩) (k + 1) c5) ∧ k + 1 ≤ c5 ∧ Reads w'' 1 (some ⟨A5, 0, none⟩) (k + 1) (cells8 (kb 0 :: ev)) ∧ Below w'.heap.size w' w'') := fun w' hb => by
  have hpc := one_piece (hr.below hb) hk hkc hnil
  have hlt : AllLt (w'.alloc (.cells #[.slice A k c] 27)) (w'.alloc (.cells #[.slice A k c] 27)).heap.size (some ⟨w'.heap.size, 0, none⟩) [ev] := ⟨fun a e => by injection e with e; subst e; simp, fun i q hq b o e Ai ci hc _ a ha => by
   injection e with e
   injection e with e1 e2
   subst e1 e2
   match i, hq with
   | 0, hq =>
    have hc' := hc
    rw [(Blk.new w' 27 #[.slice A k c]).cell] at hc'
    have h3 : Value.slice A k c = .slice Ai q.length ci := Option.some.inj hc'
    injection h3 with h4
    obtain ⟨b', o', e', hlt', -⟩ := hr.at_ (by omega)
    rw [← h4, e'] at ha
    obtain rfl := Option.some.inj ha
    have := hb.size
    simp
    omega
   | i + 1, hq => simp at hq⟩
  have := text_any 0 [ev] 1 rfl (some ⟨w'.heap.size, 0, none⟩) 1 (w'.alloc (.cells #[.slice A k c] 27)) (by decide) k (by simp [hk]) (by omega) hpc hlt
  refine this.mono ?_
  rintro e w'' ⟨v, rfl, hb2, ho⟩
  rw [show 1 + k = k + 1 by omega, show kb 0 :: [ev].flatten = kb 0 :: ev by simp] at ho
  obtain ⟨g, c5, rfl, hc5⟩ := own_some ho (by omega)
  obtain ⟨A5, c6, e5, -, -, h3, -⟩ := Own.own_reads ho
  injection e5 with e5 _ e6
  subst e5
  exact ⟨g, c5, rfl, hc5, h3, (Below.heap_below w' _).trans (hb2.mono (by simp))⟩
 have hm300 : Hid (m < 1099511627776) := by show _ < _; omega
 have hk1h : Hid ((kb 0 :: ev).length = k + 1) := by show _ = _; simp [hk]
 have hml : Hid ((( kb 0 :: ev) :: ts).length = 1 + m) := by show _ = _; rw [List.length_cons, hm, Nat.add_comm]
 rw [hml.out]
 replace hm := Lib.hid hm
 obtain ⟨cs, hcs⟩ : ∃ cs, Hid ((incV s root A k c x1 x2 A2 n c2).toArray = cs) := ⟨_, Lib.hid rfl⟩
 rw [hcs.out]
 obtain ⟨W, hW⟩ : ∃ W, Hid (W = w.alloc (.cells cs 153)) := ⟨_, rfl⟩
 have hb1 : Hid (Below w.heap.size w W) := by show Below _ _ _; rw [hW.out]; exact Below.heap_below w _
 have hP1 : Hid (Blk W w.heap.size 153 cs) := by show Blk _ _ _ _; rw [hW.out]; exact Blk.new w _ _
 have q0 : Hid (∀ w', Below W.heap.size W w' → w'.cell? ⟨w.heap.size, 0, none⟩ = some (.int .i64 s)) := fun w' hw' => by rw [(Blk.onw hP1.out hw').cell 0, ← hcs.out, List.getElem?_toArray]; exact incV_0
 have q33 : Hid (∀ w', Below W.heap.size W w' → w'.cell? ⟨w.heap.size, 33, none⟩ = some (.slice A k c)) := fun w' hw' => by rw [(Blk.onw hP1.out hw').cell 33, ← hcs.out, List.getElem?_toArray]; exact incV_end hrt 0
 have q34 : Hid (∀ w', Below W.heap.size W w' → w'.cell? ⟨w.heap.size, 34, none⟩ = some (.int .i64 x1)) := fun w' hw' => by rw [(Blk.onw hP1.out hw').cell 34, ← hcs.out, List.getElem?_toArray]; exact incV_end hrt 1
 have q35 : Hid (∀ w', Below W.heap.size W w' → w'.cell? ⟨w.heap.size, 35, none⟩ = some (.int .i64 x2)) := fun w' hw' => by rw [(Blk.onw hP1.out hw').cell 35, ← hcs.out, List.getElem?_toArray]; exact incV_end hrt 2
 have q36 : Hid (∀ w', Below W.heap.size W w' → w'.cell? ⟨w.heap.size, 36, none⟩ = some (.slice A2 n c2)) := fun w' hw' => by rw [(Blk.onw hP1.out hw').cell 36, ← hcs.out, List.getElem?_toArray]; exact incV_end hrt 3
 clear hrt hk hk1 hk47 hkc hnil hn40 hr hrd hX hxt hcs hB
 go_enter Tryd.func192, Tryd.ntmps192
 go_wp2_with fail
 change Code.wp _ _ _ _ (w.alloc (.cells cs 153))
 rw [← hW.out]
 clear hW
 have s0 : Hid (Below W.heap.size W W.drew) := (Below.refl _ _).drew
 refine held_start (fun w' => Below W.heap.size W w') 22 rfl (by kernel_rfl) ?_
 refine Held.tk0 (i := 0) (v := .pointer (some ⟨w.heap.size, 0, none⟩)) rfl s0.out (fun w' hw' => by go_simp) ?_
 (intro K k; go_simp; apply k; clear k K)
 refine Held.tk0 (i := 1) (v := .int .i64 s) rfl s0.out (fun w' hw' => by have h := q0.out w' hw'; go_simp) ?_
 (intro K k; go_simp; apply k; clear k K)
 refine Held.tk0 (i := 2) (v := .pointer (some ⟨w.heap.size, 34, none⟩)) rfl s0.out (fun w' hw' => by go_simp) ?_
 (intro K k; go_simp; apply k; clear k K)
 refine Held.tk0 (i := 3) (v := .pointer (some ⟨w.heap.size, 34, none⟩)) rfl s0.out (fun w' hw' => by go_simp) ?_
 (intro K k; go_simp; apply k; clear k K)
 refine Held.tk0 (i := 4) (v := .int .i64 x1) rfl s0.out (fun w' hw' => by have h := q34.out w' hw'; go_simp) ?_
 (intro K k; go_simp; apply k; clear k K)
 refine Held.tk0 (i := 5) (v := .pointer (some ⟨w.heap.size, 34, none⟩)) rfl s0.out (fun w' hw' => by go_simp) ?_
 (intro K k; go_simp; apply k; clear k K)
 refine Held.tk0 (i := 6) (v := .pointer (some ⟨w.heap.size, 35, none⟩)) rfl s0.out (fun w' hw' => by go_simp) ?_
 (intro K k; go_simp; apply k; clear k K)
 refine Held.tk0 (i := 7) (v := .int .i64 x2) rfl s0.out (fun w' hw' => by have h := q35.out w' hw'; go_simp) ?_
 (intro K k; go_simp; apply k; clear k K)
 refine Held.tk0 (i := 8) (v := .pointer (some ⟨w.heap.size, 0, none⟩)) rfl s0.out (fun w' hw' => by go_simp) ?_
 (intro K k; go_simp; apply k; clear k K)
 refine Held.tk0 (i := 9) (v := .int .i64 s) rfl s0.out (fun w' hw' => by have h := q0.out w' hw'; go_simp) ?_
 (intro K k; go_simp; apply k; clear k K)
 refine Held.tk0 (i := 10) (v := .pointer (some ⟨w.heap.size, 33, none⟩)) rfl s0.out (fun w' hw' => by go_simp) ?_
 (intro K k; go_simp; apply k; clear k K)
 refine Held.tk0 (i := 11) (v := .slice A k c) rfl s0.out (fun w' hw' => by have h := q33.out w' hw'; go_simp) ?_
 (intro K k; go_simp; apply k; clear k K)
 refine Held.tk0 (i := 13) (v := .pointer (some ⟨w.heap.size, 34, none⟩)) rfl s0.out (fun w' hw' => by go_simp) ?_
 (intro K k; go_simp; apply k; clear k K)
 refine Held.tk0 (i := 14) (v := .pointer (some ⟨w.heap.size, 36, none⟩)) rfl s0.out (fun w' hw' => by go_simp) ?_
 (intro K k; go_simp; apply k; clear k K)
 refine Held.tk0 (i := 15) (v := .slice A2 n c2) rfl s0.out (fun w' hw' => by have h := q36.out w' hw'; go_simp) ?_
 (intro K k; go_simp; apply k; clear k K)
 refine held_only (i := 12) rfl (by kernel_rfl) (by rfl) (fun K hK => ?_)
 refine wp_fn (R := fun v w'' => v = .agg (cells8 lf).toArray ∧ Below W.heap.size W w'') (args := #[.int .i64 s, .slice A k c]) _ _ rfl rfl Tryd.func23 (by kernel_rfl) (by kernel_rfl) ((hLf.out _ (hb1.out.trans ((s0.out).mono hb1.out.size))).mono fun e w'' ⟨he, hb⟩ => ⟨_, he, rfl, s0.out.trans (hb.mono s0.out.size)⟩) ?_
 rintro qq w1 ⟨rfl, h1⟩
 replace h1 := Lib.hid h1
 go_simp
 refine hK _ _ h1.out ?_
 clear hK K
 refine held_only (i := 16) rfl (by kernel_rfl) (by rfl) (fun K hK => ?_)
 refine wp_fn (R := fun v w'' => ∃ A0 c0 xs, v = .tuple #[.slice A0 m c0, .int .i64 kk] ∧ (A0 = none → m = 0 ∧ c0 = 0) ∧ Reads w'' 1 A0 m xs ∧ Tx w'' xs ts ∧ Below W.heap.size W w'') (args := #[.int .i64 s, .int .i64 x1, .int .i64 x2, .agg (cells8 lf).toArray, .slice A2 n c2]) _ _ rfl rfl Tryd.func194 (by kernel_rfl) (by kernel_rfl) ((hIn.out _ (hb1.out.trans ((h1.out).mono hb1.out.size))).mono fun e w'' ⟨A0, c0, xs, he, hn0, hr0, hT, hb⟩ => ⟨_, he, A0, c0, xs, rfl, hn0, hr0, hT, h1.out.trans (hb.mono h1.out.size)⟩) ?_
 rintro qq w2 ⟨A0, c0, xs, rfl, hn0, hxr, hT, h2⟩
 replace h2 := Lib.hid h2
 replace hn0 := Lib.hid hn0
 replace hxr := Lib.hid hxr
 replace hT := Lib.hid hT
 go_simp
 refine hK _ _ h2.out ?_
 clear hK K
 refine Held.tk0 (i := 17) (v := .tuple #[.slice A0 m c0, .int .i64 kk]) rfl h2.out (fun w' hw' => run_mv (.tmp 22) rfl w') ?_
 (intro K k; go_simp; apply k; clear k K)
 refine Held.tk0 (i := 18) (v := .slice A0 m c0) rfl h2.out (fun w' hw' => by go_simp) ?_
 (intro K k; go_simp; apply k; clear k K)
 refine Held.tk0 (i := 19) (v := .int .i64 kk) rfl h2.out (fun w' hw' => by go_simp) ?_
 (intro K k; go_simp; apply k; clear k K)
 refine Held.tk0 (i := 20) (v := .slice A0 m c0) rfl h2.out (fun w' hw' => by first | go_simp | rfl) ?_
 (intro K k; go_simp; apply k; clear k K)
 refine Held.tk0 (i := 21) (v := .int .i64 kk) rfl h2.out (fun w' hw' => by first | go_simp | rfl) ?_
 (intro K k; go_simp; apply k; clear k K)
 refine held_end (by kernel_rfl) ?_
 have hb4 : Hid (Below w.heap.size w w2) := hb1.out.trans (h2.out.mono hb1.out.size)
 have c33 := q33.out w2 h2.out
 clear q0 q33 q34 q35 q36 hIn hLf
 go_wp2_with fail
 refine (hTe.out w2 hb4.out).mono ?_
 rintro e w5 ⟨A5, c5, rfl, hc5, hr5, hk5⟩
 have hb5 : Hid (Below w.heap.size w w5) := hb4.out.trans (hk5.mono hb4.out.size)
 have hT5 : Tx w5 xs ts := hT.out.below hk5
 have hxr5 : Reads w5 1 A0 m xs := hxr.out.below hk5
 have hO : Hid ((w5.alloc (.cells #[.slice (some ⟨A5, 0, none⟩) (k + 1) c5] 27)).ownsRow w5.heap.size 27 1 (.slice (some ⟨w5.heap.size, 0, none⟩) 1 1) 1 [.slice (some ⟨A5, 0, none⟩) (k + 1) c5]) := Go.Proofs.YtmdkfhfkdcbpgaaDoorR.RefCut.owns_new _ _ _
 have hTy1 : Hid (Ty (w5.alloc (.cells #[.slice (some ⟨A5, 0, none⟩) (k + 1) c5] 27)) [.slice (some ⟨A5, 0, none⟩) (k + 1) c5] [kb 0 :: ev]) := fun i q hq => by
  match i with
  | 0 =>
   obtain rfl := Option.some.inj hq
   exact ⟨Nat.succ_pos _, A5, c5, by rw [hk1h.out]; rfl, by rw [hk1h.out]; exact hc5, by rw [hk1h.out]; exact hr5.alloc _⟩
  | i + 1 => simp at hq
 have hTy2 : Hid (Ty (w5.alloc (.cells #[.slice (some ⟨A5, 0, none⟩) (k + 1) c5] 27)) xs ts) := Ty.below (Tx.ty hT5) (Below.heap_below _ _)
 have hS : Hid (Reads (w5.alloc (.cells #[.slice (some ⟨A5, 0, none⟩) (k + 1) c5] 27)) 1 A0 m xs) := hxr5.alloc _
 have hx1 : Hid (∀ u ∈ xs, u.oneCell' = true) := fun u hu => by
  obtain ⟨i, hi, rfl⟩ := List.getElem_of_mem hu
  have hl : xs.length = m := by simpa using hxr5.1
  obtain ⟨q, hq⟩ : ∃ q, ts[i]? = some q := ⟨_, List.getElem?_eq_getElem (by have := hm.out; omega)⟩
  obtain ⟨-, g, cq, a1, -⟩ := hT5 i q hq
  rw [List.getElem?_eq_getElem hi] at a1
  rw [Option.some.inj a1]
  rfl
 have hm1 : Hid (1 + m ≤ maxLen) := by have := hm300.out; show _ ≤ _; unfold maxLen; omega
 have hm2 : Hid ((1 + m) * 24 ≤ 140737488355328) := by have := hm300.out; show _ ≤ _; omega
 have hs6 : Hid (w5.heap.size ≤ (w5.alloc (.cells #[.slice (some ⟨A5, 0, none⟩) (k + 1) c5] 27)).heap.size) := by show _ ≤ _; simp
 clear hk5 hT5 hxr5 hr5 hc5 hT hxr c33
 go_wp2_with ((with_reducible change wpList _ _ _ (⟨some 31, _, _, _, _, _⟩ :: _) _ _); refine wpList_append_src _ (o := ⟨some 31, _, _, _, _, _⟩) rfl (.tmp 29) (.tmp 30) 24 rfl w5.heap.size 27 i0 (.slice none 0 0) 1 24 Tryd.underlying24 ii iz0 iz1 iz2 rfl (by decide) (.slice (some ⟨w5.heap.size, 0, none⟩) 1 1) 1 [.slice (some ⟨A5, 0, none⟩) (k + 1) c5] rfl hO.out A0 m c0 xs rfl hS.out hn0.out hx1.out hm1.out hm2.out hs6.out ?_; intro v6 w6 hG; obtain ⟨A6, c6, rfl, -⟩ := Append.Own.reads hG.own; replace hG := Lib.hid hG)
 go_ret
 obtain ⟨a1, a2, -⟩ := ty_cat2 (n := 1) (ts1 := [kb 0 :: ev]) rfl hO.out hTy1.out hTy2.out (fun h => by omega) hG.out
 have hk6 : Kept (· = w5.heap.size) (w5.alloc (.cells #[.slice (some ⟨A5, 0, none⟩) (k + 1) c5] 27)) w6 := hG.out.kept (Kept.refl _ _) (fun k e => by injection e with e; exact .inl e.symm)
 exact ⟨_, _, rfl, own_down a2 hb5.out.size, a1, hb5.out.trans ((kept_fresh hk6).mono hb5.out.size)⟩
end Go.Proofs.YtmdkfhfkdcbpgaaDoorR.Included

namespace Go.Proofs.YtmdkfhfkdcbpgaaDoorR.WayOwn
open Go Go.RowKit Go.Proofs.YtmdkfhfkdcbpgaaDoorR Mem Sha Bytes Go.Proofs.YtmdkfhfkdcbpgaaDoorR.Append HashMem DigestMem Digest RefCut RefTop QuietTail Grown Chain TreeMem TreeRoot Held Guard Sides Node Climb Incl Include Texts RefIncl0 RefIncl Ref17 Book Book2 AudIncl Way20 AheadT RowsT RowsY TwoEvP Included

set_option maxRecDepth 100000 in
set_option maxHeartbeats 2000000 in
theorem way20_own (s : Int) (hs63 : s < 9223372036854775808) (ev : Text) (k : Nat) (hk : ev.length = k) (hk47 : k < 140737488355327) (A : Option Addr) (c : Nat) (hkc : k ≤ c) (hnil : A = none → k = 0 ∧ c = 0) (x1 x2 : Int) (ds : List Text) (A2 : Option Addr) (n c2 : Nat) (hn40 : n < 1099511627776) (w : World) (hr : Reads w 1 A k (cells8 ev)) (hrd : RdD w A2 n ds) :
  Calls Tryd.prog 38 #[.int .i64 s, .slice A k c, .agg (inclCells x1 x2 A2 n c2)] w fun e w' => ∃ v xs, e = .returned v ∧ w'.ownsRow w.heap.size 27 1 v (evTexts s ev x1 x2 ds).length xs ∧ Ty w' xs (evTexts s ev x1 x2 ds) ∧ Below w.heap.size w w' := by
 unfold evTexts
 unfold inclCells
 obtain ⟨i0, ii, iz0, iz1, iz2⟩ := info_partsN infoT
 obtain ⟨W, hW⟩ : ∃ W, Hid (W = w.alloc (.cells #[Value.int .i64 x1, Value.int .i64 x2, Value.slice A2 n c2] 31)) := ⟨_, rfl⟩
 have hb1 : Hid (Below w.heap.size w W) := by show Below _ _ _; rw [hW.out]; exact Below.heap_below w _
 have hP1 : Hid (Blk W w.heap.size 31 #[Value.int .i64 x1, Value.int .i64 x2, Value.slice A2 n c2]) := by show Blk _ _ _ _; rw [hW.out]; exact Blk.new w _ _
 obtain ⟨⟨x, kk, ts⟩, hX⟩ : ∃ X, inclOf s x1 x2 (leafOf s ev) [] ds = X := ⟨_, rfl⟩
 have hxl := inclOf_len s x1 x2 (leafOf s ev) [] ds (leafOf_len s ev)
 have hxt := inclOf_texts s x1 x2 (leafOf s ev) ds (leafOf_len s ev) hrd.2.1
 rw [hrd.1] at hxt
 rw [hX] at hxl hxt ⊢
 dsimp only at hxl hxt ⊢
 have F := Lib.hid (fit (x := x) hxl)
 obtain ⟨lf, hlf⟩ : ∃ lf, Hid (leafOf s ev = lf) := ⟨_, Lib.hid rfl⟩
 have hlfl : Hid (lf.length = 32) := by show _ = _; rw [← hlf.out]; exact leafOf_len s ev
 have hLf : Hid (∀ w', Below w.heap.size w w' → Calls Tryd.prog 61 #[.int .i64 s, .slice A k c] w' fun e w'' => e = .returned (.agg (cells8 lf).toArray) ∧ Below w'.heap.size w' w'') := fun w' hb => by
  have := refleaf_any ev k hk A c s w' hs63 (by omega) (hr.below hb) hkc hnil
  rw [← hlf.out]
  exact this
 obtain ⟨m, hm⟩ : ∃ m, ts.length = m := ⟨_, rfl⟩
 have hIn : Hid (∀ w', Below w.heap.size w w' → Calls Tryd.prog 92 #[.int .i64 s, .int .i64 x1, .int .i64 x2, .agg (cells8 lf).toArray, .slice A2 n c2] w' fun e w'' => ∃ A0 c0, e = .returned (.tuple #[.agg (cells8 x).toArray, .slice A0 m c0, .int .i64 kk]) ∧ (A0 = none → m = 0 ∧ c0 = 0) ∧ TxP w'' A0 m ts ∧ Below w'.heap.size w' w'') := fun w' hb => by
  have := refincl_any s hs63 x1 x2 lf hlfl.out ds A2 n c2 hn40 w' (hrd.below hb)
  rw [← hlf.out, hX] at this
  rw [← hlf.out]
  refine this.mono ?_
  rintro e w'' ⟨v, xs, r, gc, rfl, ho, hx, hb⟩
  obtain ⟨A0, c0, rfl, hn0, hT⟩ := TxP.mk_ ho hx hxt.2
  dsimp only at *
  rw [hm] at hn0 hT
  exact ⟨A0, c0, by rw [hm], hn0, hT, hb⟩
 have hTe : Hid (∀ w', Below w.heap.size w w' → Calls Tryd.prog 93 #[.int .i64 0, .slice (some ⟨w'.heap.size, 0, none⟩) 1 1] (w'.alloc (.cells #[.slice A k c] 27)) fun e w'' => ∃ A5 c5, e = .returned (.slice (some ⟨A5, 0, none⟩) (k + 1) c5) ∧ k + 1 ≤ c5 ∧ Reads w'' 1 (some ⟨A5, 0, none⟩) (k + 1) (cells8 (kb 0 :: ev)) ∧ Below w'.heap.size w' w'') := fun w' hb => by
  have := refText_any [ev] 1 rfl (some ⟨w'.heap.size, 0, none⟩) 1 0 (w'.alloc (.cells #[.slice A k c] 27)) (by simp; omega) (by decide) (one_piece (hr.below hb) hk hkc hnil)
  refine this.mono ?_
  rintro e w'' ⟨v, rfl, ho, hb2⟩
  rw [show 1 + [ev].flatten.length = k + 1 by simp [hk]; omega, show kb 0 :: [ev].flatten = kb 0 :: ev by simp] at ho
  obtain ⟨g, c5, rfl, hc5⟩ := own_some ho (by omega)
  obtain ⟨A5, c6, e5, -, -, h3, -⟩ := Own.own_reads ho
  injection e5 with e5 _ e6
  subst e5
  exact ⟨g, c5, rfl, hc5, h3, (Below.heap_below w' _).trans (hb2.mono (by simp))⟩
 have hm300 : Hid (m < 1099511627776) := by show _ < _; omega
 have hk1h : Hid ((kb 0 :: ev).length = k + 1) := by show _ = _; simp [hk]
 have hml : Hid (((kb 0 :: ev) :: ts).length = 1 + m) := by show _ = _; rw [List.length_cons, hm, Nat.add_comm]
 rw [hml.out]
 replace hm := Lib.hid hm
 clear hs63 hk hk47 hkc hnil hn40 hr hrd hX hxl hxt
 go_enter Tryd.func38, Tryd.ntmps38
 go_wp2_with fail
 change Code.wp _ _ _ _ (w.alloc (.cells #[Value.int .i64 x1, Value.int .i64 x2, Value.slice A2 n c2] 31))
 rw [← hW.out]
 clear hW
 go_cut [7, 8, 9] from 10 to 24 (fun v tv u wr => ∃ (mb : Nat) (A0 : Option Addr) (c0 : Nat), v = .pointer (some ⟨mb, 0, none⟩) ∧ tv = .slice A0 m c0 ∧ u = .int .i64 kk ∧ Hid (A0 = none → m = 0 ∧ c0 = 0) ∧ Hid (TxP wr A0 m ts) ∧ Hid (Below W.heap.size W wr))
 case first =>
  have s0 : Hid (Below W.heap.size W W.drew) := (Below.refl _ _).drew
  refine held_start (fun w' => Below W.heap.size W w') 19 rfl (by kernel_rfl) ?_
  refine Held.tk0 (i := 0) (v := .int .i64 s) rfl s0.out (fun w' hw' => run_mv (.tmp 0) rfl w') ?_
  (intro K k; go_simp; apply k; clear k K)
  refine Held.tk0 (i := 1) (v := .pointer (some ⟨w.heap.size, 0, none⟩)) rfl s0.out (fun w' hw' => by go_simp) ?_
  (intro K k; go_simp; apply k; clear k K)
  refine Held.tk0 (i := 2) (v := .int .i64 x1) rfl s0.out (fun w' hw' => by have h := (Blk.onw hP1.out hw').cell 0; go_simp) ?_
  (intro K k; go_simp; apply k; clear k K)
  refine Held.tk0 (i := 3) (v := .pointer (some ⟨w.heap.size, 1, none⟩)) rfl s0.out (fun w' hw' => by go_simp) ?_
  (intro K k; go_simp; apply k; clear k K)
  refine Held.tk0 (i := 4) (v := .int .i64 x2) rfl s0.out (fun w' hw' => by have h := (Blk.onw hP1.out hw').cell 1; go_simp) ?_
  (intro K k; go_simp; apply k; clear k K)
  refine Held.tk0 (i := 5) (v := .int .i64 s) rfl s0.out (fun w' hw' => run_mv (.tmp 0) rfl w') ?_
  (intro K k; go_simp; apply k; clear k K)
  refine Held.tk0 (i := 6) (v := .slice A k c) rfl s0.out (fun w' hw' => run_mv (.tmp 1) rfl w') ?_
  (intro K k; go_simp; apply k; clear k K)
  refine Held.tk0 (i := 8) (v := .pointer (some ⟨w.heap.size, 2, none⟩)) rfl s0.out (fun w' hw' => by go_simp) ?_
  (intro K k; go_simp; apply k; clear k K)
  refine Held.tk0 (i := 9) (v := .slice A2 n c2) rfl s0.out (fun w' hw' => by have h := (Blk.onw hP1.out hw').cell 2; go_simp) ?_
  (intro K k; go_simp; apply k; clear k K)
  refine held_two (i := 7) (j := 15) rfl rfl (by kernel_rfl) (by rfl) (by rfl) (fun K hK => ?_) (fun K hK => ?_)
  ·refine wp_fn (R := fun v w'' => v = .agg (cells8 lf).toArray ∧ Below W.heap.size W w'' ∧ Below (W.drew).heap.size (W.drew) w'') (args := #[.int .i64 s, .slice A k c]) _ _ rfl rfl Tryd.func61 (by kernel_rfl) (by kernel_rfl) ((hLf.out _ (hb1.out.trans ((s0.out).mono hb1.out.size))).mono fun e w'' ⟨he, hb⟩ => ⟨_, he, rfl, s0.out.trans (hb.mono s0.out.size), hb⟩) ?_
   rintro qq w5 ⟨rfl, h5, kk1⟩
   replace h5 := Lib.hid h5
   replace kk1 := Lib.hid kk1
   clear kk1
   go_simp
   refine hK _ _ h5.out ?_
   clear hK K
   refine held_two (i := 10) (j := 15) rfl rfl (by kernel_rfl) (by rfl) (by rfl) (fun K hK => ?_) (fun K hK => ?_)
   ·refine wp_fn (R := fun v w'' => ∃ A0 c0, v = .tuple #[.agg (cells8 x).toArray, .slice A0 m c0, .int .i64 kk] ∧ (A0 = none → m = 0 ∧ c0 = 0) ∧ TxP w'' A0 m ts ∧ Below W.heap.size W w'' ∧ Below (w5).heap.size (w5) w'') (args := #[.int .i64 s, .int .i64 x1, .int .i64 x2, .agg (cells8 lf).toArray, .slice A2 n c2]) _ _ rfl rfl Tryd.func92 (by kernel_rfl) (by kernel_rfl) ((hIn.out _ (hb1.out.trans ((h5.out).mono hb1.out.size))).mono fun e w'' ⟨A0, c0, he, hn0, hT, hb⟩ => ⟨_, he, A0, c0, rfl, hn0, hT, h5.out.trans (hb.mono h5.out.size), hb⟩) ?_
    rintro qq w6 ⟨A0, c0, rfl, hn0, hT, h6, kk1⟩
    replace h6 := Lib.hid h6
    replace kk1 := Lib.hid kk1
    replace hn0 := Lib.hid hn0
    replace hT := Lib.hid hT
    clear kk1
    go_simp
    refine hK _ _ h6.out ?_
    clear hK K
    refine Held.tk0 (i := 11) (v := .tuple #[.agg (cells8 x).toArray, .slice A0 m c0, .int .i64 kk]) rfl h6.out (fun w' hw' => run_mv (.tmp 21) rfl w') ?_
    (intro K k; go_simp; apply k; clear k K)
    refine Held.tk0 (i := 12) (v := .agg (cells8 x).toArray) rfl h6.out (fun w' hw' => by go_simp) ?_
    (intro K k; go_simp; apply k; clear k K)
    refine Held.tk0 (i := 13) (v := .slice A0 m c0) rfl h6.out (fun w' hw' => by go_simp) ?_
    (intro K k; go_simp; apply k; clear k K)
    refine Held.tk0 (i := 14) (v := .int .i64 kk) rfl h6.out (fun w' hw' => by go_simp) ?_
    (intro K k; go_simp; apply k; clear k K)
    refine held_only (i := 15) rfl (by kernel_rfl) (by rfl) (fun K hK => ?_)
    have h7 := Lib.hid (h6.out.alloc h6.out.size (.cells Z32 23))
    have bb : Hid (Blk (w6.alloc (.cells Z32 23)) w6.heap.size 23 Z32) := Blk.new _ _ _
    replace hT := Lib.hid (hT.out.below (Below.heap_below _ (.cells Z32 23)))
    go_simp
    refine hK _ _ h7.out ?_
    clear hK K
    refine held_only (i := 16) rfl (by kernel_rfl) (by rfl) (fun K hK => ?_)
    refine wp_store_whole 23 (.tmp 7) (.tmp 22) rfl (w6.heap.size) ((cells8 x).toArray) rfl rfl 23 (Z32) (bb.out) F.out.size F.out.zero F.out.one ?_
    intro w99 B9 k9
    have b9 : Hid (Below W.heap.size W w99) := h7.out.trans (Kept.below_of k9 (h6.out.size) h7.out.size)
    replace hT := Lib.hid (hT.out.keptN bb.out k9)
    go_simp
    refine hK _ _ b9.out ?_
    clear hK K
    refine Held.tk0 (i := 17) (v := .slice A0 m c0) rfl b9.out (fun w' hw' => by first | go_simp | rfl) ?_
    (intro K k; go_simp; apply k; clear k K)
    refine Held.tk0 (i := 18) (v := .int .i64 kk) rfl b9.out (fun w' hw' => by first | go_simp | rfl) ?_
    (intro K k; go_simp; apply k; clear k K)
    refine held_end (by kernel_rfl) ?_
    go_wp2_with fail
    go_meet
    case rel => exact ⟨_, _, _, rfl, rfl, rfl, hn0.out, hT.out, b9.out⟩
   ·have h6 := Lib.hid (h5.out.alloc h5.out.size (.cells Z32 23))
    have bb : Hid (Blk (w5.alloc (.cells Z32 23)) w5.heap.size 23 Z32) := Blk.new _ _ _
    go_simp
    refine hK _ _ h6.out ?_
    clear hK K
    refine held_only (i := 10) rfl (by kernel_rfl) (by rfl) (fun K hK => ?_)
    refine wp_fn (R := fun v w'' => ∃ A0 c0, v = .tuple #[.agg (cells8 x).toArray, .slice A0 m c0, .int .i64 kk] ∧ (A0 = none → m = 0 ∧ c0 = 0) ∧ TxP w'' A0 m ts ∧ Below W.heap.size W w'' ∧ Below ((w5.alloc (.cells Z32 23))).heap.size ((w5.alloc (.cells Z32 23))) w'') (args := #[.int .i64 s, .int .i64 x1, .int .i64 x2, .agg (cells8 lf).toArray, .slice A2 n c2]) _ _ rfl rfl Tryd.func92 (by kernel_rfl) (by kernel_rfl) ((hIn.out _ (hb1.out.trans ((h6.out).mono hb1.out.size))).mono fun e w'' ⟨A0, c0, he, hn0, hT, hb⟩ => ⟨_, he, A0, c0, rfl, hn0, hT, h6.out.trans (hb.mono h6.out.size), hb⟩) ?_
    rintro qq w7 ⟨A0, c0, rfl, hn0, hT, h7, kk1⟩
    replace h7 := Lib.hid h7
    replace kk1 := Lib.hid kk1
    replace hn0 := Lib.hid hn0
    replace hT := Lib.hid hT
    replace bb := Lib.hid ((kk1.out.block _ (Blk.lt bb.out)).trans bb.out)
    clear kk1
    go_simp
    refine hK _ _ h7.out ?_
    clear hK K
    refine Held.tk0 (i := 11) (v := .tuple #[.agg (cells8 x).toArray, .slice A0 m c0, .int .i64 kk]) rfl h7.out (fun w' hw' => run_mv (.tmp 21) rfl w') ?_
    (intro K k; go_simp; apply k; clear k K)
    refine Held.tk0 (i := 12) (v := .agg (cells8 x).toArray) rfl h7.out (fun w' hw' => by go_simp) ?_
    (intro K k; go_simp; apply k; clear k K)
    refine Held.tk0 (i := 13) (v := .slice A0 m c0) rfl h7.out (fun w' hw' => by go_simp) ?_
    (intro K k; go_simp; apply k; clear k K)
    refine Held.tk0 (i := 14) (v := .int .i64 kk) rfl h7.out (fun w' hw' => by go_simp) ?_
    (intro K k; go_simp; apply k; clear k K)
    refine held_only (i := 16) rfl (by kernel_rfl) (by rfl) (fun K hK => ?_)
    refine wp_store_whole 23 (.tmp 7) (.tmp 22) rfl (w5.heap.size) ((cells8 x).toArray) rfl rfl 23 (Z32) (bb.out) F.out.size F.out.zero F.out.one ?_
    intro w99 B9 k9
    have b9 : Hid (Below W.heap.size W w99) := h7.out.trans (Kept.below_of k9 (h5.out.size) h7.out.size)
    replace hT := Lib.hid (hT.out.keptN bb.out k9)
    go_simp
    refine hK _ _ b9.out ?_
    clear hK K
    refine Held.tk0 (i := 17) (v := .slice A0 m c0) rfl b9.out (fun w' hw' => by first | go_simp | rfl) ?_
    (intro K k; go_simp; apply k; clear k K)
    refine Held.tk0 (i := 18) (v := .int .i64 kk) rfl b9.out (fun w' hw' => by first | go_simp | rfl) ?_
    (intro K k; go_simp; apply k; clear k K)
    refine held_end (by kernel_rfl) ?_
    go_wp2_with fail
    go_meet
    case rel => exact ⟨_, _, _, rfl, rfl, rfl, hn0.out, hT.out, b9.out⟩
  ·have h5 := Lib.hid (s0.out.alloc s0.out.size (.cells Z32 23))
   have bb : Hid (Blk (W.drew.alloc (.cells Z32 23)) W.heap.size 23 Z32) := Blk.new _ _ _
   go_simp
   refine hK _ _ h5.out ?_
   clear hK K
   refine held_only (i := 7) rfl (by kernel_rfl) (by rfl) (fun K hK => ?_)
   refine wp_fn (R := fun v w'' => v = .agg (cells8 lf).toArray ∧ Below W.heap.size W w'' ∧ Below ((W.drew.alloc (.cells Z32 23))).heap.size ((W.drew.alloc (.cells Z32 23))) w'') (args := #[.int .i64 s, .slice A k c]) _ _ rfl rfl Tryd.func61 (by kernel_rfl) (by kernel_rfl) ((hLf.out _ (hb1.out.trans ((h5.out).mono hb1.out.size))).mono fun e w'' ⟨he, hb⟩ => ⟨_, he, rfl, h5.out.trans (hb.mono h5.out.size), hb⟩) ?_
   rintro qq w6 ⟨rfl, h6, kk1⟩
   replace h6 := Lib.hid h6
   replace kk1 := Lib.hid kk1
   replace bb := Lib.hid ((kk1.out.block _ (Blk.lt bb.out)).trans bb.out)
   clear kk1
   go_simp
   refine hK _ _ h6.out ?_
   clear hK K
   refine held_only (i := 10) rfl (by kernel_rfl) (by rfl) (fun K hK => ?_)
   refine wp_fn (R := fun v w'' => ∃ A0 c0, v = .tuple #[.agg (cells8 x).toArray, .slice A0 m c0, .int .i64 kk] ∧ (A0 = none → m = 0 ∧ c0 = 0) ∧ TxP w'' A0 m ts ∧ Below W.heap.size W w'' ∧ Below (w6).heap.size (w6) w'') (args := #[.int .i64 s, .int .i64 x1, .int .i64 x2, .agg (cells8 lf).toArray, .slice A2 n c2]) _ _ rfl rfl Tryd.func92 (by kernel_rfl) (by kernel_rfl) ((hIn.out _ (hb1.out.trans ((h6.out).mono hb1.out.size))).mono fun e w'' ⟨A0, c0, he, hn0, hT, hb⟩ => ⟨_, he, A0, c0, rfl, hn0, hT, h6.out.trans (hb.mono h6.out.size), hb⟩) ?_
   rintro qq w7 ⟨A0, c0, rfl, hn0, hT, h7, kk1⟩
   replace h7 := Lib.hid h7
   replace kk1 := Lib.hid kk1
   replace hn0 := Lib.hid hn0
   replace hT := Lib.hid hT
   replace bb := Lib.hid ((kk1.out.block _ (Blk.lt bb.out)).trans bb.out)
   clear kk1
   go_simp
   refine hK _ _ h7.out ?_
   clear hK K
   refine Held.tk0 (i := 11) (v := .tuple #[.agg (cells8 x).toArray, .slice A0 m c0, .int .i64 kk]) rfl h7.out (fun w' hw' => run_mv (.tmp 21) rfl w') ?_
   (intro K k; go_simp; apply k; clear k K)
   refine Held.tk0 (i := 12) (v := .agg (cells8 x).toArray) rfl h7.out (fun w' hw' => by go_simp) ?_
   (intro K k; go_simp; apply k; clear k K)
   refine Held.tk0 (i := 13) (v := .slice A0 m c0) rfl h7.out (fun w' hw' => by go_simp) ?_
   (intro K k; go_simp; apply k; clear k K)
   refine Held.tk0 (i := 14) (v := .int .i64 kk) rfl h7.out (fun w' hw' => by go_simp) ?_
   (intro K k; go_simp; apply k; clear k K)
   refine held_only (i := 16) rfl (by kernel_rfl) (by rfl) (fun K hK => ?_)
   refine wp_store_whole 23 (.tmp 7) (.tmp 22) rfl (W.heap.size) ((cells8 x).toArray) rfl rfl 23 (Z32) (bb.out) F.out.size F.out.zero F.out.one ?_
   intro w99 B9 k9
   have b9 : Hid (Below W.heap.size W w99) := h7.out.trans (Kept.below_of k9 (s0.out.size) h7.out.size)
   replace hT := Lib.hid (hT.out.keptN bb.out k9)
   go_simp
   refine hK _ _ b9.out ?_
   clear hK K
   refine Held.tk0 (i := 17) (v := .slice A0 m c0) rfl b9.out (fun w' hw' => by first | go_simp | rfl) ?_
   (intro K k; go_simp; apply k; clear k K)
   refine Held.tk0 (i := 18) (v := .int .i64 kk) rfl b9.out (fun w' hw' => by first | go_simp | rfl) ?_
   (intro K k; go_simp; apply k; clear k K)
   refine held_end (by kernel_rfl) ?_
   go_wp2_with fail
   go_meet
   case rel => exact ⟨_, _, _, rfl, rfl, rfl, hn0.out, hT.out, b9.out⟩
 case rest =>
  obtain ⟨mb, A0, c0, rfl, rfl, rfl, hn0, hT, hk4⟩ := hcut
  have hb4 : Hid (Below w.heap.size w wc) := hb1.out.trans (hk4.out.mono hb1.out.size)
  clear hk4
  go_wp2_with fail
  refine (hTe.out wc hb4.out).mono ?_
  rintro e w5 ⟨A5, c5, rfl, hc5, hr5, hk5⟩
  have hb5 : Hid (Below w.heap.size w w5) := hb4.out.trans (hk5.mono hb4.out.size)
  have hT5 := hT.out.below hk5
  obtain ⟨xs, hxn, hxr, hx3⟩ := hT5
  have hO : Hid ((w5.alloc (.cells #[.slice (some ⟨A5, 0, none⟩) (k + 1) c5] 27)).ownsRow w5.heap.size 27 1 (.slice (some ⟨w5.heap.size, 0, none⟩) 1 1) 1 [.slice (some ⟨A5, 0, none⟩) (k + 1) c5]) := owns_new _ _ _
  have hx1 : Hid (∀ u ∈ xs, u.oneCell' = true) := fun u hu => by
   obtain ⟨i, hi, rfl⟩ := List.getElem_of_mem hu
   have hl : xs.length = m := by simpa using hxr.1
   obtain ⟨q, hq⟩ : ∃ q, ts[i]? = some q := ⟨_, List.getElem?_eq_getElem (by omega)⟩
   obtain ⟨-, g, cq, a1, -⟩ := hx3 i q hq
   rw [List.getElem?_eq_getElem hi] at a1
   rw [Option.some.inj a1]
   rfl
  have hS : Hid (Reads (w5.alloc (.cells #[.slice (some ⟨A5, 0, none⟩) (k + 1) c5] 27)) 1 A0 m xs) := hxr.alloc _
  have hm1 : Hid (1 + m ≤ maxLen) := by have := hm300.out; show _ ≤ _; unfold maxLen; omega
  have hm2 : Hid ((1 + m) * 24 ≤ 140737488355328) := by have := hm300.out; show _ ≤ _; omega
  have hs6 : Hid (w5.heap.size ≤ (w5.alloc (.cells #[.slice (some ⟨A5, 0, none⟩) (k + 1) c5] 27)).heap.size) := by show _ ≤ _; simp
  have hTy1 : Hid (Ty (w5.alloc (.cells #[.slice (some ⟨A5, 0, none⟩) (k + 1) c5] 27)) [.slice (some ⟨A5, 0, none⟩) (k + 1) c5] [kb 0 :: ev]) := fun i q hq => by
   match i with
   | 0 =>
    obtain rfl := Option.some.inj hq
    exact ⟨Nat.succ_pos _, A5, c5, by rw [hk1h.out]; rfl, by rw [hk1h.out]; exact hc5, by rw [hk1h.out]; exact hr5.alloc _⟩
   | i + 1 => simp at hq
  have hTy2 : Hid (Ty (w5.alloc (.cells #[.slice (some ⟨A5, 0, none⟩) (k + 1) c5] 27)) xs ts) := fun i q hq => by
   obtain ⟨hl, g, cq, a1, a2, a3⟩ := hx3 i q hq
   exact ⟨by omega, g, cq, a1, a2, a3.alloc _⟩
  replace hr5 := Lib.hid hr5
  replace hx3 := Lib.hid hx3
  replace hc5 := Lib.hid hc5
  clear hk5 hxr hT
  go_wp2_with ((with_reducible change wpList _ _ _ (⟨some 30, _, _, _, _, _⟩ :: _) _ _); refine wpList_append_src _ (o := ⟨some 30, _, _, _, _, _⟩) rfl (.tmp 28) (.tmp 29) 24 rfl w5.heap.size 27 i0 (.slice none 0 0) 1 24 Tryd.underlying24 ii iz0 iz1 iz2 rfl (by decide) (.slice (some ⟨w5.heap.size, 0, none⟩) 1 1) 1 [.slice (some ⟨A5, 0, none⟩) (k + 1) c5] rfl hO.out A0 m c0 xs rfl hS.out hn0.out hx1.out hm1.out hm2.out hs6.out ?_; intro v6 w6 hG; obtain ⟨A6, c6, rfl, -⟩ := Append.Own.reads hG.own; replace hG := Lib.hid hG)
  go_ret
  obtain ⟨a1, a2, -⟩ := ty_cat2 (n := 1) (ts1 := [kb 0 :: ev]) rfl hO.out hTy1.out hTy2.out (fun h => by omega) hG.out
  have hk6 : Kept (· = w5.heap.size) (w5.alloc (.cells #[.slice (some ⟨A5, 0, none⟩) (k + 1) c5] 27)) w6 := hG.out.kept (Kept.refl _ _) (fun k e => by injection e with e; exact .inl e.symm)
  exact ⟨_, _, rfl, own_down a2 hb5.out.size, a1, hb5.out.trans ((kept_fresh hk6).mono hb5.out.size)⟩
end Go.Proofs.YtmdkfhfkdcbpgaaDoorR.WayOwn
