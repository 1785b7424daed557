/-
  Texts of the claim, put into one file: RefSum.
-/
import Derived.Test.YteelanamlhfmgaaDoorZ21
import Derived.StillTailTactics
import Derived.Test.YteelanamlhfmgaaDoorZ1

namespace Go.Proofs.YteelanamlhfmgaaDoor.RefSum
open Go Go.RowKit Go.Proofs.YteelanamlhfmgaaDoor Go.Proofs.YteelanamlhfmgaaDoor.Mem Go.Proofs.YteelanamlhfmgaaDoor.Sha Go.Proofs.YteelanamlhfmgaaDoor.ShaWalk Go.Proofs.YteelanamlhfmgaaDoor.Bytes Go.Proofs.YteelanamlhfmgaaDoor.HashMem Go.Proofs.YteelanamlhfmgaaDoor.Hash Go.Proofs.YteelanamlhfmgaaDoor.HashSum Go.Proofs.YteelanamlhfmgaaDoor.DigestMem Go.Proofs.YteelanamlhfmgaaDoor.Digest Go.Proofs.YteelanamlhfmgaaDoor.DigestOf Go.Proofs.YteelanamlhfmgaaDoor.RefSmall Go.Proofs.YteelanamlhfmgaaDoor.RefWords

def numRow : Array Value := ((List.range 72).map numCell).toArray
theorem numRow_at (j : Nat) (hj : j < 72) : numRow[j]? = some (numCell j) := by
  unfold numRow
  rw [List.getElem?_toArray, List.getElem?_map, List.getElem?_range hj]
  rfl
theorem numbers_row (w : World) : Calls Tryd.prog 97 #[] w fun e w' => e = .returned (.agg numRow) ∧ Below w.heap.size w w' := numbers_any w
theorem refStart {w w1 w2 : World} {ZA old : Array Value} {tA : TypeId} (hb : Below (w.alloc (.cells ZA tA)).heap.size (w.alloc (.cells ZA tA)) w1)
    (hW : (w1.alloc (.cells old 140)).setRow w1.heap.size numRow = w2) :
    Tab w2 w1.heap.size 140 72 numCell ∧ Blk w2 w.heap.size tA ZA ∧ Below w.heap.size w w2 ∧ w2.heap.size = w1.heap.size + 1 ∧ w.heap.size < w1.heap.size := by
  subst hW
  have hs := hb.size
  simp at hs
  refine ⟨⟨numRow, setRow_heap _ _ _ _ _ _ (heap_alloc_new w1 _), by simp [numRow], numRow_at⟩, ?_, ?_, by simp, by omega⟩
  · unfold Blk
    rw [setRow_other _ _ _ _ (by omega), Below.heap_alloc w1 _ _ (by omega), hb.block w.heap.size (by simp)]
    exact heap_alloc_new w _
  · exact below_setRow ((((Below.refl _ w).alloc (Nat.le_refl _) _).trans (hb.mono (by simp))).alloc (by omega) _) (by omega) _

/-- The first state, as it is laid. -/
def begTab (i j : Nat) : Value := if j < i then stTab init j else .int .u32 0
theorem begTab_succ (i j : Nat) : begTab (i + 1) j = if j = i then stTab init i else begTab i j := by
  unfold begTab
  by_cases h : j = i
  · subst h
    rw [if_pos rfl, if_pos (by omega)]
  · rw [if_neg h]
    by_cases h1 : j < i
    · rw [if_pos h1, if_pos (by omega)]
    · rw [if_neg h1, if_neg (by omega)]

theorem zero8 (j : Nat) (hj : j < 8) : (#[Value.int IntKind.u32 0, Value.int IntKind.u32 0, Value.int IntKind.u32 0, Value.int IntKind.u32 0, Value.int IntKind.u32 0, Value.int IntKind.u32 0, Value.int IntKind.u32 0, Value.int IntKind.u32 0] : Array Value)[j]? = some (.int .u32 0) := by
  match j, hj with
  | 0, _ => rfl
  | 1, _ => rfl
  | 2, _ => rfl
  | 3, _ => rfl
  | 4, _ => rfl
  | 5, _ => rfl
  | 6, _ => rfl
  | 7, _ => rfl
theorem zero16 (j : Nat) (hj : j < 16) : (#[Value.int IntKind.u32 0, Value.int IntKind.u32 0, Value.int IntKind.u32 0, Value.int IntKind.u32 0, Value.int IntKind.u32 0, Value.int IntKind.u32 0, Value.int IntKind.u32 0, Value.int IntKind.u32 0, Value.int IntKind.u32 0, Value.int IntKind.u32 0, Value.int IntKind.u32 0, Value.int IntKind.u32 0, Value.int IntKind.u32 0, Value.int IntKind.u32 0, Value.int IntKind.u32 0, Value.int IntKind.u32 0] : Array Value)[j]? = some (.int .u32 0) := by
  have e : (#[Value.int IntKind.u32 0, Value.int IntKind.u32 0, Value.int IntKind.u32 0, Value.int IntKind.u32 0, Value.int IntKind.u32 0, Value.int IntKind.u32 0, Value.int IntKind.u32 0, Value.int IntKind.u32 0, Value.int IntKind.u32 0, Value.int IntKind.u32 0, Value.int IntKind.u32 0, Value.int IntKind.u32 0, Value.int IntKind.u32 0, Value.int IntKind.u32 0, Value.int IntKind.u32 0, Value.int IntKind.u32 0] : Array Value) = Array.replicate 16 (.int .u32 0) := rfl
  rw [e, Array.getElem?_replicate, if_pos hj]
theorem sumTab_succ (S R : St) (i j : Nat) : sumTab S R (i + 1) j = if j = i then .int .u32 (u (S.get i + R.get i)) else sumTab S R i j := by
  unfold sumTab
  by_cases h : j = i
  · subst h
    rw [if_pos rfl, if_pos (by omega)]
  · rw [if_neg h]
    by_cases h1 : j < i
    · rw [if_pos h1, if_pos (by omega)]
    · rw [if_neg h1, if_neg (by omega)]
theorem outTab_next (S : St) (t x : Nat) : outTab S (t + 1) x = if x = t then .int .u8 (b8 (Sha.byteOf (S.get (t / 4)) (24 - 8 * (t % 4)))) else outTab S t x := by
  unfold outTab
  by_cases h : x = t
  · subst h
    rw [if_pos rfl, if_pos (by omega)]
  · rw [if_neg h]
    by_cases h1 : x < t
    · rw [if_pos h1, if_pos (by omega)]
    · rw [if_neg h1, if_neg (by omega)]
theorem size102 : (Tryd.prog.info? 117).map (·.size) = some 8 := by kernel_rfl
theorem stVals_one (S : St) : (stVals S).toArray.all (fun v => v.oneCell') = true := by
  rw [List.all_toArray]
  refine List.all_eq_true.2 fun v hv => ?_
  obtain ⟨x, _, rfl⟩ := List.mem_map.1 hv
  rfl
theorem tabVals {w : World} {g : Nat} {t : TypeId} {S : St} (h : Tab w g t 8 (stTab S)) : ∀ j v, (stVals S)[j]? = some v → w.cell? ⟨g, 0 + j, none⟩ = some v := by
  intro j v hv
  have hj : j < 8 := by
    have := (List.getElem?_eq_some_iff.1 hv).1
    rwa [stVals_len] at this
  rw [Nat.zero_add, h.cell hj, ← hv, stVals_at S j hj]
  rfl
theorem refCopy {w w1 : World} {S : St} {t : TypeId} {old : Array Value} (hW : (w.alloc (.cells old t)).setRow w.heap.size (stVals S).toArray = w1) : Tab w1 w.heap.size t 8 (letTab S 0) ∧ Below w.heap.size w w1 := by
  subst hW
  refine ⟨⟨(stVals S).toArray, setRow_heap _ _ _ _ _ _ (heap_alloc_new w _), by simp [stVals_len], fun j hj => ?_⟩, below_setRow ((Below.refl _ w).alloc (Nat.le_refl _) _) (Nat.le_refl _) _⟩
  rw [List.getElem?_toArray, stVals_at S j hj, let_zero S j hj]
  rfl

set_option maxRecDepth 100000 in
set_option maxHeartbeats 3000000 in
theorem refSum_any (q : Text) (k : Nat) (hk : q.length = k) (A : Option Addr) (c : Nat) (w : World) (hlen : k < 144115188075855872) (hr : Reads w 1 A k (cells8 q)) :
    Calls Tryd.prog 71 #[.slice A k c] w fun e w' => e = .returned (.agg (cells8 (sum q)).toArray) ∧ Below w.heap.size w w' := by
  replace hlen := Lib.hid hlen
  replace hr := Lib.hid hr
  replace hk := Lib.hid hk
  obtain ⟨N, hN⟩ : ∃ N, Hid (N = (k + 72) / 64) := ⟨_, rfl⟩
  have hWN : Hid (whole k = 64 * N) := by show _ = _; rw [hN.out]; unfold whole; omega
  have v0 : IntKind.i64.wrap ((k : Int) + 72) = (k : Int) + 72 := by have := hlen.out; exact IntWalk.i64_in _ (by omega)
  have v1 : ((k : Int) + 72).tdiv 64 = (N : Int) := by have := hN.out; rw [Int.tdiv_eq_ediv_of_nonneg (by omega)]; omega
  have v4 : IntKind.i64.wrap (N : Int) = (N : Int) := by have := hlen.out; have := hN.out; exact IntWalk.i64_in _ (by omega)
  have v2 : IntKind.i64.wrap ((N : Int) * 64) = 64 * (N : Int) := by have := hlen.out; have := hN.out; rw [Int.mul_comm]; exact IntWalk.i64_in _ (by omega)
  have v3 : (0 : Int) ≤ (k : Int) + 72 := by omega
  go_enter Tryd.func71, Tryd.ntmps71
  go_wp2_with (first
    | (go_at_call 97; refine (numbers_row _).mono ?_; rintro e w1 ⟨rfl, hb1⟩; replace hb1 := Lib.hid hb1)
    | ((with_reducible change wpList _ _ _ ({ dst := none, op := Op.store 140 _ _, type := _, pos := _, after := _, guard := _ } :: _) _ _); refine wpList_store_row (o := ⟨none, _, _, _, _, _⟩) rfl 140 (.tmp 3) (.tmp 25) rfl w1.heap.size numRow rfl rfl 140 _ (heap_alloc_new w1 _) (by kernel_rfl) (by kernel_rfl) (by kernel_rfl) ?_; generalize hW : World.setRow _ w1.heap.size numRow = w2; obtain ⟨hT2, hR2, hb2, hz2, hl2⟩ := refStart hb1.out hW; replace hT2 := Lib.hid hT2; replace hR2 := Lib.hid hR2; replace hb2 := Lib.hid hb2; replace hz2 := Lib.hid hz2; replace hl2 := Lib.hid hl2; clear hW hb1))
  obtain ⟨T, hT⟩ : ∃ T, Hid (T = w1.heap.size) := ⟨_, rfl⟩
  obtain ⟨H, hH⟩ : ∃ H, Hid (H = w2.heap.size) := ⟨_, rfl⟩
  obtain ⟨w3, hw3⟩ : ∃ w3, Hid (w3 = w2.alloc (Obj.cells #[Value.int IntKind.u32 0, Value.int IntKind.u32 0, Value.int IntKind.u32 0, Value.int IntKind.u32 0, Value.int IntKind.u32 0, Value.int IntKind.u32 0, Value.int IntKind.u32 0, Value.int IntKind.u32 0] 117)) := ⟨_, rfl⟩
  have hB3 : Hid (Tab w3 H 117 8 (begTab 0)) := by show Tab _ _ _ _ _; rw [hH.out, hw3.out]; exact Tab.new w2 _ _ 8 _ rfl (fun j hj => by unfold begTab; rw [if_neg (by omega)]; exact zero8 j hj)
  have hT3 : Hid (Tab w3 T 140 72 numCell) := by show Tab _ _ _ _ _; rw [hT.out, hw3.out]; exact hT2.out.alloc _
  have hR3 : Hid (Blk w3 w.heap.size 23 Z32) := by show Blk _ _ _ _; rw [hw3.out]; exact hR2.out.alloc _
  have hb3 : Hid (Below w.heap.size w w3) := by show Below _ _ _; rw [hw3.out]; exact hb2.out.alloc hb2.out.size _
  have hz3 : Hid (w.heap.size < T ∧ H = T + 1 ∧ w3.heap.size = H + 1) := by show _ ∧ _ ∧ _; rw [hH.out, hT.out, hw3.out]; refine ⟨hl2.out, hz2.out, by simp⟩
  rw [← hT.out, ← hH.out, ← hw3.out]
  clear hw3 hT hH hT2 hR2 hb2 hz2 hl2
  clear v0 v1 v2 v3 v4
  go_loopw [6] (fun v wr => ∃ i : Nat, v = .int .i64 (i : Int) ∧ i ≤ 8 ∧ Hid (Tab wr H 117 8 (begTab i)) ∧ Hid (Below H w3 wr)) (fun v _ => 8 - (intOf v).toNat)
  case atStart => exact ⟨0, rfl, by omega, hB3.out, Below.refl _ _⟩
  case round =>
    clear hB3
    obtain ⟨i, rfl, hi, ht, hb⟩ := hrel
    by_cases hlt : i < 8
    · have hz : (i : Int) < 8 := by omega
      have c0 : wr.cell? ⟨T, 64 + i, none⟩ = some (.int .u32 (u (init.get i))) := (hb.out.cell (p := ⟨T, 64 + i, none⟩) (by have := hz3.out; show T < H; omega)).trans ((hT3.out.cell (by omega)).trans (congrArg some (num_H i hlt)))
      have s0 : wr.cell? ⟨H, i, none⟩ = some (begTab i i) := ht.out.cell (by omega)
      have s1 : wr.frozen? ⟨H, i, none⟩ = false := ht.out.frozen _
      have x0 : IntKind.i64.wrap (64 + (i : Int)) = 64 + (i : Int) := IntWalk.i64_in _ (by omega)
      have x1 : (0 : Int) ≤ 64 + (i : Int) := by omega
      have x2 : 64 + (i : Int) < 72 := by omega
      have x3 : (64 + (i : Int)).toNat = 64 + i := by omega
      go_wp2_with fail
      go_roundw
      case rel =>
        refine ⟨i + 1, by go_num, by omega, ht.out.set_ i _ (fun j _ => ?_), hb.out.setCell (Nat.le_refl _) _⟩
        rw [begTab_succ]
        rfl
      case measure => clear x0 x3; simp [intOf]; omega
    · have h8 : i = 8 := by omega
      subst h8
      clear hlt hi
      obtain ⟨w4, rfl⟩ : ∃ w4 : World, w4 = wr := ⟨_, rfl⟩
      have hS4 : Hid (Tab w4 H 117 8 (stTab (fold (padded q) 0))) := ht.out.congr (fun j hj => by unfold begTab; rw [if_pos hj]; rfl)
      have hT4 : Hid (Tab w4 T 140 72 numCell) := Tab.below' hT3.out hb.out (by have := hz3.out; omega)
      have hR4 : Hid (Blk w4 w.heap.size 23 Z32) := (hb.out.block w.heap.size (by have := hz3.out; omega)).trans hR3.out
      have hb4 : Hid (Below w.heap.size w w4) := hb3.out.trans (hb.out.mono (by have := hz3.out; omega))
      have hz4 : Hid (w.heap.size < T ∧ H = T + 1 ∧ H < w4.heap.size) := ⟨hz3.out.1, hz3.out.2.1, ht.out.lt⟩
      clear hb ht hT3 hR3 hb3 hz3
      go_wp2_with fail
      simp only [Int.cast_ofNat_Int]
      go_loopw [7] (fun v wr => ∃ b : Nat, v = .int .i64 (64 * (b : Int)) ∧ b ≤ N ∧ Hid (Tab wr H 117 8 (stTab (fold (padded q) b))) ∧ Hid (Tab wr T 140 72 numCell) ∧ Hid (Blk wr w.heap.size 23 Z32) ∧ Hid (Below w.heap.size w wr) ∧ Hid (w.heap.size < T ∧ H = T + 1 ∧ H < wr.heap.size)) (fun v _ => 64 * N - (intOf v).toNat)
      case atStart => exact ⟨0, rfl, by omega, hS4.out, hT4.out, hR4.out, hb4.out, hz4.out⟩
      case round =>
        clear hS4 hT4 hR4 hb4 hz4
        obtain ⟨b, rfl, hbN, hS, hTt, hRr, hbl, hsz⟩ := hrel
        by_cases hlt : b < N
        · have hz : 64 * (b : Int) < 64 * (N : Int) := by omega
          obtain ⟨w5, rfl⟩ : ∃ w5 : World, w5 = wr := ⟨_, rfl⟩
          go_wp2_with fail
          clear hz
          obtain ⟨f, hf⟩ : ∃ f, Hid (f = blockF (padded q) b) := ⟨_, rfl⟩
          obtain ⟨W, hW⟩ : ∃ W, Hid (W = w5.heap.size) := ⟨_, rfl⟩
          obtain ⟨w6, hw6⟩ : ∃ w6, Hid (w6 = w5.alloc (Obj.cells #[Value.int IntKind.u32 0, Value.int IntKind.u32 0, Value.int IntKind.u32 0, Value.int IntKind.u32 0, Value.int IntKind.u32 0, Value.int IntKind.u32 0, Value.int IntKind.u32 0, Value.int IntKind.u32 0, Value.int IntKind.u32 0, Value.int IntKind.u32 0, Value.int IntKind.u32 0, Value.int IntKind.u32 0, Value.int IntKind.u32 0, Value.int IntKind.u32 0, Value.int IntKind.u32 0, Value.int IntKind.u32 0] 142)) := ⟨_, rfl⟩
          have hP6 : Hid (Tab w6 W 142 16 (pushTab f 0)) := by show Tab _ _ _ _ _; rw [hW.out, hw6.out]; exact Tab.new w5 _ _ 16 _ rfl (fun j hj => by rw [pushTab_zero]; exact zero16 j hj)
          have hb6 : Hid (Below W w5 w6) := by show Below _ _ _; rw [hW.out, hw6.out]; exact (Below.refl _ _).alloc (Nat.le_refl _) _
          rw [← hW.out, ← hw6.out]
          clear hw6
          go_loopw [9] (fun v wr => ∃ j : Nat, v = .int .i64 (j : Int) ∧ j ≤ 64 ∧ Hid (Tab wr W 142 16 (pushTab f j)) ∧ Hid (Below W w5 wr)) (fun v _ => 64 - (intOf v).toNat)
          case atStart => exact ⟨0, rfl, by omega, hP6.out, hb6.out⟩
          case round =>
            clear hP6 hb6
            obtain ⟨j, rfl, hj, ht, hb⟩ := hrel
            by_cases hlj : j < 64
            · have hzj : (j : Int) < 64 := by omega
              have hrw : Hid (Reads wr 1 A k (cells8 q)) := (hr.out.below hbl.out).below (by rw [← hW.out]; exact hb.out)
              have hby : ∀ a, Calls Tryd.prog 98 #[.slice A k c, .int .i64 (64 * (b : Int) + (j : Int)), .int .i64 (64 * (N : Int))] (wr.drewN a) fun e w' => e = .returned (.int .u8 (b8 (f j))) ∧ ∃ n, w' = (wr.drewN a).drewN n := by
                intro a
                have h := byteAt_any q k hk.out hlen.out A c (64 * b + j) (by rw [hWN.out]; omega) (wr.drewN a) hrw.out
                have e1 : ((64 * b + j : Nat) : Int) = 64 * (b : Int) + (j : Int) := by omega
                have e2 : ((whole k : Nat) : Int) = 64 * (N : Int) := by have := hWN.out; omega
                rw [e1, e2] at h
                have e3 : padAt q (64 * b + j) = f j := by rw [hf.out]; unfold blockF; rw [padded_getD _ _ (by rw [hk.out, hWN.out]; omega)]
                rw [e3] at h
                exact h
              obtain ⟨g, hg⟩ : ∃ g, Hid (g = j / 4) := ⟨_, rfl⟩
              obtain ⟨p, hp⟩ : ∃ p : BitVec 32, Hid (p = wpart f (j / 4) (j % 4)) := ⟨_, rfl⟩
              have c0 : wr.cell? ⟨W, g, none⟩ = some (.int .u32 (u p)) := by rw [hg.out, hp.out]; exact (ht.out.cell (by omega)).trans (congrArg some (pushTab_at f j))
              have f0 : wr.frozen? ⟨W, g, none⟩ = false := ht.out.frozen _
              have y0 : (j : Int).tdiv 4 = (g : Int) := by have := hg.out; rw [Int.tdiv_eq_ediv_of_nonneg (by omega)]; omega
              have y1 : IntKind.i64.wrap (g : Int) = (g : Int) := by have := hg.out; exact IntWalk.i64_in _ (by omega)
              have y2 : IntKind.i64.wrap (64 * (b : Int) + (j : Int)) = 64 * (b : Int) + (j : Int) := by have := hN.out; have := hlen.out; exact IntWalk.i64_in _ (by omega)
              have y3 : (g : Int) < 16 := by have := hg.out; omega
              have y4 : (0 : Int) ≤ (g : Int) := by omega
              have zz := wrap_b8
              have hpu := push_u
              go_wp2_with fail
              refine QuietTail.wp_region_quiet_tail 16 (by kernel_rfl) (by kernel_rfl) ?_
              simp only [List.take_succ_cons, List.take_zero, List.drop_succ_cons, List.drop_zero]
              repeat (go_big_quiet_step ((go_at_call 98; exact Calls.quiet_of (hby _))))
              refine wpQuiet_nil ?_
              intro _ hw'
              obtain ⟨nr, hw''⟩ := hw'
              subst hw''
              clear hby zz hpu y0 y1 y2
              go_wp2_with fail
              go_roundw
              case rel =>
                refine ⟨j + 1, by go_num, by omega, (ht.out.drewN nr).set_ g _ (fun x _ => ?_), (below_drawn hb.out nr).setCell (Nat.le_refl _) _⟩
                rw [pushTab_succ, ← hg.out, hg.out, ← hp.out]
              case measure => simp [intOf]; omega
            · have h64 : j = 64 := by omega
              subst h64
              clear hlj hj
              obtain ⟨S, hSd⟩ : ∃ S, Hid (S = fold (padded q) b) := ⟨_, rfl⟩
              rw [← hSd.out] at hS
              obtain ⟨w7, rfl⟩ : ∃ w7 : World, w7 = wr := ⟨_, rfl⟩
              have hP7 : Hid (Tab w7 W 142 16 (ringTab (mB f) 0)) := ht.out.congr (fun x hx => ring_zero f x hx)
              have hHW : Hid (w.heap.size < T ∧ H = T + 1 ∧ H < W) := by have := hsz.out; rw [← hW.out] at this; exact this
              have hS7 : Hid (Tab w7 H 117 8 (stTab S)) := Tab.below' hS.out hb.out hHW.out.2.2
              have hT7 : Hid (Tab w7 T 140 72 numCell) := Tab.below' hTt.out hb.out (by have := hHW.out; omega)
              have hR7 : Hid (Blk w7 w.heap.size 23 Z32) := (hb.out.block w.heap.size (by have := hHW.out; omega)).trans hRr.out
              have hb7 : Hid (Below w.heap.size w w7) := hbl.out.trans (hb.out.mono (by have := hHW.out; omega))
              have hW7 : Hid (W < w7.heap.size) := ht.out.lt
              clear ht hb hS hTt hRr hbl hsz
              go_wp2_with (first
                | ((with_reducible change wpList _ _ _ ({ dst := some 66, op := _, type := _, pos := _, after := _, guard := _ } :: _) _ _); refine wpList_load_part (o := ⟨some 66, _, _, _, _, _⟩) rfl 117 (.tmp 5) rfl H 0 rfl (stVals S) _ (tabVals hS7.out) Tryd.underlying117 rfl (size102.trans (congrArg some (stVals_len S).symm)) ?_)
                | ((with_reducible change wpList _ _ _ ({ dst := none, op := Op.store 117 _ _, type := _, pos := _, after := _, guard := _ } :: _) _ _); refine wpList_store_row (o := ⟨none, _, _, _, _, _⟩) rfl 117 (.tmp 10) (.tmp 66) rfl w7.heap.size (stVals S).toArray rfl rfl 117 _ (heap_alloc_new w7 _) (size102.trans (congrArg some (stVals_len S).symm)) (stVals_len S).symm (stVals_one S) ?_))
              obtain ⟨V, hV⟩ : ∃ V, Hid (V = w7.heap.size) := ⟨_, rfl⟩
              generalize hW8 : World.setRow _ w7.heap.size (stVals S).toArray = w8
              obtain ⟨hL8, hB8⟩ := refCopy hW8
              rw [← hV.out] at hL8
              rw [← hV.out]
              have hP8 : Hid (Tab w8 W 142 16 (ringTab (mB f) 0)) := Tab.below' hP7.out hB8 hW7.out
              have hT8 : Hid (Tab w8 T 140 72 numCell) := Tab.below' hT7.out hB8 (by have := hHW.out; have := hW7.out; omega)
              have hS8 : Hid (Tab w8 H 117 8 (stTab S)) := Tab.below' hS7.out hB8 (by have := hHW.out; have := hW7.out; omega)
              have hR8 : Hid (Blk w8 w.heap.size 23 Z32) := (hB8.block w.heap.size (by have := hHW.out; have := hW7.out; omega)).trans hR7.out
              have hb8 : Hid (Below w.heap.size w w8) := hb7.out.trans (hB8.mono (by have := hHW.out; have := hW7.out; omega))
              have hWV : Hid (W < V) := by show W < V; rw [hV.out]; exact hW7.out
              replace hL8 := Lib.hid hL8
              clear hW8 hB8 hP7 hT7 hS7 hR7 hb7 hW7 hV
              go_wp2_with fail
              try simp only [Int.cast_ofNat_Int]
              go_loopw [11] (fun v wr => ∃ t : Nat, v = .int .i64 (t : Int) ∧ t ≤ 64 ∧ Hid (Tab wr W 142 16 (ringTab (mB f) t)) ∧ Hid (Tab wr V 117 8 (letTab (rnd (mB f) S t) t)) ∧ Hid (Below W w8 wr)) (fun v _ => 64 - (intOf v).toNat)
              case atStart => exact ⟨0, rfl, by omega, hP8.out, hL8.out, Below.refl _ _⟩
              case round =>
                clear hP8 hL8
                obtain ⟨t, rfl, ht, hP, hL, hB⟩ := hrel
                by_cases hlt4 : t < 64
                · have hzt : (t : Int) < 64 := by omega
                  repeat (go_not_at_if 72; go_step)
                  go_cut [] from 71 to 115 (fun wc => Hid (Tab wc W 142 16 (ringTab (mB f) (t + 1))) ∧ Hid (Tab wc V 117 8 (letTab (rnd (mB f) S t) t)) ∧ Hid (Below W w8 wc))
                  case first =>
                    by_cases h16 : 16 ≤ t
                    · have h16i : (16 : Int) ≤ (t : Int) := by omega
                      obtain ⟨q0, hq0⟩ : ∃ q0, Hid (q0 = t % 16) := ⟨_, rfl⟩
                      obtain ⟨q1, hq1⟩ : ∃ q1, Hid (q1 = (t + 1) % 16) := ⟨_, rfl⟩
                      obtain ⟨q14, hq14⟩ : ∃ q14, Hid (q14 = (t + 14) % 16) := ⟨_, rfl⟩
                      obtain ⟨q9, hq9⟩ : ∃ q9, Hid (q9 = (t + 9) % 16) := ⟨_, rfl⟩
                      have c0 : wr.cell? ⟨W, q0, none⟩ = some (.int .u32 (u (sched (mB f) (t - 16)))) := by rw [hq0.out]; exact (hP.out.cell (by omega)).trans (congrArg some (ring_at (mB f) t 0 h16 hlt4 (by omega)))
                      have f0 : wr.frozen? ⟨W, q0, none⟩ = false := hP.out.frozen _
                      have c1 : wr.cell? ⟨W, q1, none⟩ = some (.int .u32 (u (sched (mB f) (t - 15)))) := by rw [hq1.out, show t - 15 = t - 16 + 1 by omega]; exact (hP.out.cell (by omega)).trans (congrArg some (ring_at (mB f) t 1 h16 hlt4 (by omega)))
                      have c14 : wr.cell? ⟨W, q14, none⟩ = some (.int .u32 (u (sched (mB f) (t - 2)))) := by rw [hq14.out, show t - 2 = t - 16 + 14 by omega]; exact (hP.out.cell (by omega)).trans (congrArg some (ring_at (mB f) t 14 h16 hlt4 (by omega)))
                      have c9 : wr.cell? ⟨W, q9, none⟩ = some (.int .u32 (u (sched (mB f) (t - 7)))) := by rw [hq9.out, show t - 7 = t - 16 + 9 by omega]; exact (hP.out.cell (by omega)).trans (congrArg some (ring_at (mB f) t 9 h16 hlt4 (by omega)))
                      have x1 : IntKind.i64.wrap ((t : Int) + 1) = (t : Int) + 1 := IntWalk.i64_in _ (by omega)
                      have z1 : ((t : Int) + 1) % 16 = (q1 : Int) := by have := hq1.out; omega
                      have a1 : (q1 : Int) < 16 := by have := hq1.out; omega
                      have b1 : (0 : Int) ≤ (t : Int) + 1 := by omega
                      repeat (go_not_at_region 22; first | go_step)
                      clear x1 z1 a1 b1 c1
                      have x14 : IntKind.i64.wrap ((t : Int) + 14) = (t : Int) + 14 := IntWalk.i64_in _ (by omega)
                      have z14 : ((t : Int) + 14) % 16 = (q14 : Int) := by have := hq14.out; omega
                      have a14 : (q14 : Int) < 16 := by have := hq14.out; omega
                      have b14 : (0 : Int) ≤ (t : Int) + 14 := by omega
                      repeat (go_not_at_region 23; first | go_step)
                      clear x14 z14 a14 b14 c14
                      have hx := xor_u
                      have h3 := shr3
                      have h10 := shr10
                      go_wp2_with (first | (go_at_call_of 99 (Value.int IntKind.i64 7); refine (right7 _ _).mono ?_; rintro e w' ⟨rfl, k', rfl⟩) | (go_at_call_of 99 (Value.int IntKind.i64 18); refine (right18 _ _).mono ?_; rintro e w' ⟨rfl, k', rfl⟩) | (go_at_call_of 99 (Value.int IntKind.i64 17); refine (right17 _ _).mono ?_; rintro e w' ⟨rfl, k', rfl⟩) | (go_at_call_of 99 (Value.int IntKind.i64 19); refine (right19 _ _).mono ?_; rintro e w' ⟨rfl, k', rfl⟩))
                      have ha := wadd_u
                      have x9 : IntKind.i64.wrap ((t : Int) + 9) = (t : Int) + 9 := IntWalk.i64_in _ (by omega)
                      have z9 : ((t : Int) + 9) % 16 = (q9 : Int) := by have := hq9.out; omega
                      have a9 : (q9 : Int) < 16 := by have := hq9.out; omega
                      have b9 : (0 : Int) ≤ (t : Int) + 9 := by omega
                      have z0 : (t : Int) % 16 = (q0 : Int) := by have := hq0.out; omega
                      have a0 : (q0 : Int) < 16 := by have := hq0.out; omega
                      refine QuietTail.wp_region_quiet_tail 17 (by kernel_rfl) (by kernel_rfl) ?_
                      simp only [List.take_succ_cons, List.take_zero, List.drop_succ_cons, List.drop_zero]
                      repeat (go_big_quiet_step (fail))
                      refine wpQuiet_nil ?_
                      intro _ hw'
                      obtain ⟨nr, hw''⟩ := hw'
                      subst hw''
                      clear ha hx h3 h10 x9 z9 a9 b9 z0 a0
                      go_wp2_with fail
                      go_meet
                      case rel =>
                        refine ⟨(hP.out.drewN _).set_ q0 _ (fun x hx => ?_), (hL.out.drewN _).far (by have := hWV.out; show V ≠ W; omega) _, (below_drawn hB.out _).setCell (Nat.le_refl _) _⟩
                        rw [ring_hi _ t x h16 hlt4 hx, ← hq0.out, ← sched_sum _ _ h16]
                    · have h16i : (t : Int) < 16 := by omega
                      go_wp2_with fail
                      go_meet
                      case rel => exact ⟨hP.out.congr (fun x hx => ring_lo _ t x (by omega) hx), hL.out, hB.out⟩
                  case rest =>
                    obtain ⟨hP1, hL1, hB1⟩ := hcut
                    clear hP hL hB
                    obtain ⟨R0, hR0⟩ : ∃ R0, Hid (R0 = rnd (mB f) S t) := ⟨_, rfl⟩
                    obtain ⟨sw, hsw⟩ : ∃ sw, Hid (sw = sched (mB f) t) := ⟨_, rfl⟩
                    obtain ⟨kt, hkt⟩ : ∃ kt, Hid (kt = K t) := ⟨_, rfl⟩
                    have hR : Hid (rnd (mB f) S (t + 1) = Sha.step kt sw R0) := by show _ = _; rw [hR0.out, hsw.out, hkt.out]; rfl
                    rw [← hR0.out] at hL1
                    have ck : wc.cell? ⟨T, t, none⟩ = some (.int .u32 (u kt)) := by rw [hkt.out]; exact (hB1.out.cell (p := ⟨T, t, none⟩) (by have := hHW.out; show T < W; omega)).trans ((hT8.out.cell (by omega)).trans (congrArg some (num_K t hlt4)))
                    obtain ⟨q0, hq0⟩ : ∃ q0, Hid (q0 = t % 16) := ⟨_, rfl⟩
                    have cw : wc.cell? ⟨W, q0, none⟩ = some (.int .u32 (u sw)) := by rw [hq0.out, hsw.out]; exact (hP1.out.cell (by omega)).trans (congrArg some (ring_now (mB f) t hlt4))
                    obtain ⟨w9, rfl⟩ : ∃ w9 : World, w9 = wc := ⟨_, rfl⟩
                    obtain ⟨p0, hp0⟩ : ∃ p0, Hid (p0 = (64 - t) % 8) := ⟨_, rfl⟩
                    have c0 : w9.cell? ⟨V, p0, none⟩ = some (.int .u32 (u R0.a)) := by rw [hp0.out]; exact (hL1.out.cell (by omega)).trans (congrArg some (let_at R0 t 0 hlt4 (by omega)))
                    have x0 : IntKind.i64.wrap (64 - (t : Int)) = 64 - (t : Int) := IntWalk.i64_in _ (by omega)
                    have z0 : (64 - (t : Int)) % 8 = (p0 : Int) := by have := hp0.out; omega
                    have a0 : (p0 : Int) < 8 := by have := hp0.out; omega
                    have b0 : (0 : Int) ≤ 64 - (t : Int) := by omega
                    have d0 : (t : Int) ≤ 64 := by omega
                    go_step
                    repeat (go_not_at_region 27; go_step)
                    clear x0 z0 b0 d0 c0 a0
                    obtain ⟨p4, hp4⟩ : ∃ p4, Hid (p4 = (68 - t) % 8) := ⟨_, rfl⟩
                    have c4 : w9.cell? ⟨V, p4, none⟩ = some (.int .u32 (u R0.e)) := by rw [hp4.out]; exact (hL1.out.cell (by omega)).trans (congrArg some (let_at R0 t 4 hlt4 (by omega)))
                    have x4 : IntKind.i64.wrap (68 - (t : Int)) = 68 - (t : Int) := IntWalk.i64_in _ (by omega)
                    have z4 : (68 - (t : Int)) % 8 = (p4 : Int) := by have := hp4.out; omega
                    have a4 : (p4 : Int) < 8 := by have := hp4.out; omega
                    have b4 : (0 : Int) ≤ 68 - (t : Int) := by omega
                    have d4 : (t : Int) ≤ 68 := by omega
                    repeat (go_not_at_region 28; go_step)
                    clear x4 z4 b4 d4 c4 a4
                    obtain ⟨p5, hp5⟩ : ∃ p5, Hid (p5 = (69 - t) % 8) := ⟨_, rfl⟩
                    have c5 : w9.cell? ⟨V, p5, none⟩ = some (.int .u32 (u R0.f)) := by rw [hp5.out]; exact (hL1.out.cell (by omega)).trans (congrArg some (let_at R0 t 5 hlt4 (by omega)))
                    have x5 : IntKind.i64.wrap (69 - (t : Int)) = 69 - (t : Int) := IntWalk.i64_in _ (by omega)
                    have z5 : (69 - (t : Int)) % 8 = (p5 : Int) := by have := hp5.out; omega
                    have a5 : (p5 : Int) < 8 := by have := hp5.out; omega
                    have b5 : (0 : Int) ≤ 69 - (t : Int) := by omega
                    have d5 : (t : Int) ≤ 69 := by omega
                    repeat (go_not_at_region 29; go_step)
                    clear x5 z5 b5 d5 c5 a5
                    obtain ⟨p6, hp6⟩ : ∃ p6, Hid (p6 = (70 - t) % 8) := ⟨_, rfl⟩
                    have c6 : w9.cell? ⟨V, p6, none⟩ = some (.int .u32 (u R0.g)) := by rw [hp6.out]; exact (hL1.out.cell (by omega)).trans (congrArg some (let_at R0 t 6 hlt4 (by omega)))
                    have x6 : IntKind.i64.wrap (70 - (t : Int)) = 70 - (t : Int) := IntWalk.i64_in _ (by omega)
                    have z6 : (70 - (t : Int)) % 8 = (p6 : Int) := by have := hp6.out; omega
                    have a6 : (p6 : Int) < 8 := by have := hp6.out; omega
                    have b6 : (0 : Int) ≤ 70 - (t : Int) := by omega
                    have d6 : (t : Int) ≤ 70 := by omega
                    repeat (go_not_at_region 30; go_step)
                    clear x6 z6 b6 d6 c6 a6
                    obtain ⟨p7, hp7⟩ : ∃ p7, Hid (p7 = (71 - t) % 8) := ⟨_, rfl⟩
                    have c7 : w9.cell? ⟨V, p7, none⟩ = some (.int .u32 (u R0.h)) := by rw [hp7.out]; exact (hL1.out.cell (by omega)).trans (congrArg some (let_at R0 t 7 hlt4 (by omega)))
                    have x7 : IntKind.i64.wrap (71 - (t : Int)) = 71 - (t : Int) := IntWalk.i64_in _ (by omega)
                    have z7 : (71 - (t : Int)) % 8 = (p7 : Int) := by have := hp7.out; omega
                    have a7 : (p7 : Int) < 8 := by have := hp7.out; omega
                    have b7 : (0 : Int) ≤ 71 - (t : Int) := by omega
                    have d7 : (t : Int) ≤ 71 := by omega
                    repeat (go_not_at_region 31; go_step)
                    simp only [z7]
                    clear x7 z7 b7 d7
                    have z0 : (t : Int) % 16 = (q0 : Int) := by have := hq0.out; omega
                    have a0 : (q0 : Int) < 16 := by have := hq0.out; omega
                    have a00 : (0 : Int) ≤ (t : Int) := by omega
                    have a01 : (t : Int) < 72 := by omega
                    have hx := xor_u
                    have hand := and_u
                    have ha := wadd_u
                    refine wp_region_quiet_lit (by kernel_rfl) (by kernel_rfl) ?_
                    repeat (go_big_quiet_step ((first | (go_at_call_of 99 (Value.int IntKind.i64 6); first | (with_reducible exact Calls.quiet_of (right6 _ _)) | (with_reducible exact QuietTail.quiet_add (right6 _ _))) | (go_at_call_of 99 (Value.int IntKind.i64 11); first | (with_reducible exact Calls.quiet_of (right11 _ _)) | (with_reducible exact QuietTail.quiet_add (right11 _ _))) | (go_at_call_of 99 (Value.int IntKind.i64 25); first | (with_reducible exact Calls.quiet_of (right25 _ _)) | (with_reducible exact QuietTail.quiet_add (right25 _ _))))))
                    refine wpQuiet_nil ?_
                    intro _ hw'
                    obtain ⟨nr, hw''⟩ := hw'
                    subst hw''
                    clear z0 a0 a00 a01
                    have hL2 : Hid (Tab (w9.drewN nr) V 117 8 (letTab R0 t)) := hL1.out.drewN nr
                    have hP2 : Hid (Tab (w9.drewN nr) W 142 16 (ringTab (mB f) (t + 1))) := hP1.out.drewN nr
                    have hB2 : Hid (Below W w8 (w9.drewN nr)) := below_drawn hB1.out nr
                    have c7' : (w9.drewN nr).cell? ⟨V, p7, none⟩ = some (.int .u32 (u R0.h)) := c7
                    clear c7 ck cw hL1 hP1 hB1
                    generalize w9.drewN nr = wd at *
                    obtain ⟨p1, hp1⟩ : ∃ p1, Hid (p1 = (65 - t) % 8) := ⟨_, rfl⟩
                    have c1 : wd.cell? ⟨V, p1, none⟩ = some (.int .u32 (u R0.b)) := by rw [hp1.out]; exact (hL2.out.cell (by omega)).trans (congrArg some (let_at R0 t 1 hlt4 (by omega)))
                    have x1 : IntKind.i64.wrap (65 - (t : Int)) = 65 - (t : Int) := IntWalk.i64_in _ (by omega)
                    have z1 : (65 - (t : Int)) % 8 = (p1 : Int) := by have := hp1.out; omega
                    have a1 : (p1 : Int) < 8 := by have := hp1.out; omega
                    have b1 : (0 : Int) ≤ 65 - (t : Int) := by omega
                    have d1 : (t : Int) ≤ 65 := by omega
                    go_step
                    repeat (go_not_at_region 33; go_step)
                    clear x1 z1 b1 d1 c1 a1
                    obtain ⟨p2, hp2⟩ : ∃ p2, Hid (p2 = (66 - t) % 8) := ⟨_, rfl⟩
                    have c2 : wd.cell? ⟨V, p2, none⟩ = some (.int .u32 (u R0.c)) := by rw [hp2.out]; exact (hL2.out.cell (by omega)).trans (congrArg some (let_at R0 t 2 hlt4 (by omega)))
                    have x2 : IntKind.i64.wrap (66 - (t : Int)) = 66 - (t : Int) := IntWalk.i64_in _ (by omega)
                    have z2 : (66 - (t : Int)) % 8 = (p2 : Int) := by have := hp2.out; omega
                    have a2 : (p2 : Int) < 8 := by have := hp2.out; omega
                    have b2 : (0 : Int) ≤ 66 - (t : Int) := by omega
                    have d2 : (t : Int) ≤ 66 := by omega
                    repeat (go_not_at_region 34; go_step)
                    clear x2 z2 b2 d2 c2 a2
                    obtain ⟨p3, hp3⟩ : ∃ p3, Hid (p3 = (67 - t) % 8) := ⟨_, rfl⟩
                    have c3 : wd.cell? ⟨V, p3, none⟩ = some (.int .u32 (u R0.d)) := by rw [hp3.out]; exact (hL2.out.cell (by omega)).trans (congrArg some (let_at R0 t 3 hlt4 (by omega)))
                    have x3 : IntKind.i64.wrap (67 - (t : Int)) = 67 - (t : Int) := IntWalk.i64_in _ (by omega)
                    have z3 : (67 - (t : Int)) % 8 = (p3 : Int) := by have := hp3.out; omega
                    have a3 : (p3 : Int) < 8 := by have := hp3.out; omega
                    have b3 : (0 : Int) ≤ 67 - (t : Int) := by omega
                    have d3 : (t : Int) ≤ 67 := by omega
                    have f3 : wd.frozen? ⟨V, p3, none⟩ = false := hL2.out.frozen _
                    have f7 : wd.frozen? ⟨V, p7, none⟩ = false := hL2.out.frozen _
                    have hne : p7 ≠ p3 := by have := hp7.out; have := hp3.out; omega
                    have hne2 : p3 ≠ p7 := fun e => hne e.symm
                    repeat (go_not_at_region 35; go_step)
                    clear x3 z3 b3 d3 a3
                    have hor := or_u
                    go_wp2_with (first | (go_at_call_of 99 (Value.int IntKind.i64 2); refine (right2 _ _).mono ?_; rintro e w' ⟨rfl, k', rfl⟩) | (go_at_call_of 99 (Value.int IntKind.i64 13); refine (right13 _ _).mono ?_; rintro e w' ⟨rfl, k', rfl⟩) | (go_at_call_of 99 (Value.int IntKind.i64 22); refine (right22 _ _).mono ?_; rintro e w' ⟨rfl, k', rfl⟩))
                    go_roundw
                    case rel =>
                      have et1 : R0.h + (rot R0.e 6 ^^^ rot R0.e 11 ^^^ rot R0.e 25) + (R0.g ^^^ R0.e &&& (R0.f ^^^ R0.g)) + kt + sw = t1 kt sw R0 := by rw [ch_ref]; rfl
                      have et2 : t1 kt sw R0 + (rot R0.a 2 ^^^ rot R0.a 13 ^^^ rot R0.a 22) + (R0.a &&& R0.b ||| R0.c &&& (R0.a ||| R0.b)) = t1 kt sw R0 + t2 R0 := by rw [maj_ref, BitVec.add_assoc]; rfl
                      have hVW : V ≠ W := by have := hWV.out; omega
                      rw [et1, et2]
                      refine ⟨t + 1, by go_num, by omega, ((hP2.out.far (p := ⟨V, p3, none⟩) (fun e => hVW e.symm) _).drewN _).far (p := ⟨V, p7, none⟩) (fun e => hVW e.symm) _, ?_, (below_drawn (hB2.out.setCell (p := ⟨V, p3, none⟩) (by have := hWV.out; show W ≤ V; omega) _) _).setCell (by have := hWV.out; show W ≤ V; omega) _⟩
                      show Tab _ _ _ _ _
                      rw [hR.out]
                      refine ((hL2.out.set_ p3 _ (f' := fun p => if p = p3 then .int .u32 (u (R0.d + t1 kt sw R0)) else letTab R0 t p) (fun p _ => rfl)).drewN _).set_ p7 _ (fun p hp => ?_)
                      rw [let_step kt sw R0 t p hlt4 hp, ← hp7.out, ← hp3.out]
                    case measure => simp [intOf]; omega
                · have h64 : t = 64 := by omega
                  subst h64
                  obtain ⟨w9, rfl⟩ : ∃ w9 : World, w9 = wr := ⟨_, rfl⟩
                  obtain ⟨R, hRd⟩ : ∃ R, Hid (R = rnd (mB f) S 64) := ⟨_, rfl⟩
                  have hL9 : Hid (Tab w9 V 117 8 (stTab R)) := hL.out.congr (fun p hp => by rw [hRd.out, let_end _ p hp])
                  have hS9 : Hid (Tab w9 H 117 8 (sumTab S R 0)) := (Tab.below' hS8.out hB.out hHW.out.2.2).congr (fun j _ => rfl)
                  have hT9 : Hid (Tab w9 T 140 72 numCell) := Tab.below' hT8.out hB.out (by have := hHW.out; omega)
                  have hR9 : Hid (Blk w9 w.heap.size 23 Z32) := (hB.out.block w.heap.size (by have := hHW.out; omega)).trans hR8.out
                  have hb9 : Hid (Below w.heap.size w w9) := hb8.out.trans (hB.out.mono (by have := hHW.out; omega))
                  have hz9 : Hid (H < V) := by have := hHW.out; have := hWV.out; show H < V; omega
                  clear hP hL hB hS8 hT8 hR8 hb8 hlt4 ht
                  go_wp2_with fail
                  try simp only [Int.cast_ofNat_Int]
                  go_loopw [22] (fun v wr => ∃ i : Nat, v = .int .i64 (i : Int) ∧ i ≤ 8 ∧ Hid (Tab wr H 117 8 (sumTab S R i)) ∧ Hid (Kept (· = H) w9 wr)) (fun v _ => 8 - (intOf v).toNat)
                  case atStart => exact ⟨0, rfl, by omega, hS9.out, Kept.refl _ _⟩
                  case round =>
                    clear hS9
                    obtain ⟨i, rfl, hi, hS, hK⟩ := hrel
                    by_cases hlt5 : i < 8
                    · have hzi : (i : Int) < 8 := by omega
                      have c0 : wr.cell? ⟨H, i, none⟩ = some (.int .u32 (u (S.get i))) := by
                        have := hS.out.cell (j := i) (by omega)
                        unfold sumTab at this
                        rw [if_neg (by omega)] at this
                        exact this
                      have f0 : wr.frozen? ⟨H, i, none⟩ = false := hS.out.frozen _
                      have c1 : wr.cell? ⟨V, i, none⟩ = some (.int .u32 (u (R.get i))) := ((hL9.out.kept hK.out (by have := hz9.out; omega)).cell (by omega))
                      have n0 : (0 : Int) ≤ (i : Int) := by omega
                      have ha := wadd_u
                      go_wp2_with fail
                      refine QuietTail.wp_region_quiet_tail 9 (by kernel_rfl) (by kernel_rfl) ?_
                      simp only [List.take_succ_cons, List.take_zero, List.drop_succ_cons, List.drop_zero]
                      repeat (go_big_quiet_step (fail))
                      refine wpQuiet_nil ?_
                      intro _ hw'
                      obtain ⟨nr, hw''⟩ := hw'
                      subst hw''
                      go_wp2_with fail
                      go_roundw
                      case rel =>
                        exact ⟨i + 1, by go_num, by omega, (hS.out.drewN nr).set_ i _ (fun j hj => sumTab_succ S R i j), (hK.out.drewN nr).setCell (.inl rfl) _⟩
                      case measure => simp [intOf]; omega
                    · have h8 : i = 8 := by omega
                      subst h8
                      have xw : IntKind.i64.wrap (64 * (b : Int) + 64) = 64 * (b : Int) + 64 := by have := hN.out; have := hlen.out; exact IntWalk.i64_in _ (by omega)
                      go_wp2_with fail
                      clear xw
                      go_roundw
                      case rel =>
                        refine ⟨b + 1, congrArg (Value.int .i64) (by omega), by omega, ?_, hT9.out.kept hK.out (by have := hHW.out; omega), hR9.out.kept hK.out (by have := hHW.out; omega), ?_, ?_⟩
                        · show Tab _ _ _ _ _
                          rw [fold_succ, ← hf.out, ← hSd.out]
                          refine hS.out.congr (fun j hj => ?_)
                          rw [sum_state S R j (mB f) hRd.out, if_pos hj]
                        · exact hb9.out.trans (Kept.below_of hK.out (by have := hHW.out; omega) hb9.out.size)
                        · exact ⟨hHW.out.1, hHW.out.2.1, hS.out.lt⟩
                      case measure => have := hN.out; simp [intOf]; omega
        · have hbE : b = N := by omega
          subst hbE
          clear hlt hbN
          obtain ⟨w10, rfl⟩ : ∃ w10 : World, w10 = wr := ⟨_, rfl⟩
          obtain ⟨S, hSd⟩ : ∃ S, Hid (S = fold (padded q) b) := ⟨_, rfl⟩
          rw [← hSd.out] at hS
          have hSE : Hid (S = fold (padded q) (whole q.length / 64)) := by show _ = _; rw [hSd.out, hk.out, hWN.out]; congr 1; omega
          obtain ⟨F, hF⟩ : ∃ F, Hid (F = w10.heap.size) := ⟨_, rfl⟩
          obtain ⟨w11, hw11⟩ : ∃ w11, Hid (w11 = w10.alloc (Obj.cells #[Value.int IntKind.u8 0, Value.int IntKind.u8 0, Value.int IntKind.u8 0, Value.int IntKind.u8 0, Value.int IntKind.u8 0, Value.int IntKind.u8 0, Value.int IntKind.u8 0, Value.int IntKind.u8 0, Value.int IntKind.u8 0, Value.int IntKind.u8 0, Value.int IntKind.u8 0, Value.int IntKind.u8 0, Value.int IntKind.u8 0, Value.int IntKind.u8 0, Value.int IntKind.u8 0, Value.int IntKind.u8 0, Value.int IntKind.u8 0, Value.int IntKind.u8 0, Value.int IntKind.u8 0, Value.int IntKind.u8 0, Value.int IntKind.u8 0, Value.int IntKind.u8 0, Value.int IntKind.u8 0, Value.int IntKind.u8 0, Value.int IntKind.u8 0, Value.int IntKind.u8 0, Value.int IntKind.u8 0, Value.int IntKind.u8 0, Value.int IntKind.u8 0, Value.int IntKind.u8 0, Value.int IntKind.u8 0, Value.int IntKind.u8 0] 23)) := ⟨_, rfl⟩
          have hO : Hid (Tab w11 F 23 32 (outTab S 0)) := by show Tab _ _ _ _ _; rw [hF.out, hw11.out]; exact Tab.new w10 _ _ 32 _ rfl (fun j hj => outTab_zero S j hj)
          have hS11 : Hid (Tab w11 H 117 8 (stTab S)) := by show Tab _ _ _ _ _; rw [hw11.out]; exact hS.out.alloc _
          have hR11 : Hid (Blk w11 w.heap.size 23 Z32) := by show Blk _ _ _ _; rw [hw11.out]; exact hRr.out.alloc _
          have hb11 : Hid (Below w.heap.size w w11) := by show Below _ _ _; rw [hw11.out]; exact hbl.out.alloc hbl.out.size _
          have hz11 : Hid (w.heap.size < F ∧ H < F) := by show _ ∧ _; rw [hF.out]; have := hsz.out; exact ⟨by omega, by omega⟩
          go_wp2_with fail
          rw [← hF.out, ← hw11.out]
          clear hw11 hF hS hTt hRr hbl hsz
          go_loopw [24] (fun v wr => ∃ i : Nat, v = .int .i64 (i : Int) ∧ i ≤ 32 ∧ Hid (Tab wr F 23 32 (outTab S i)) ∧ Hid (Below F w11 wr)) (fun v _ => 32 - (intOf v).toNat)
          case atStart => exact ⟨0, rfl, by omega, hO.out, Below.refl _ _⟩
          case round =>
            clear hO
            obtain ⟨i, rfl, hi, ht, hb⟩ := hrel
            by_cases hlt6 : i < 32
            · have hzi : (i : Int) < 32 := by omega
              obtain ⟨g, hg⟩ : ∃ g, Hid (g = i / 4) := ⟨_, rfl⟩
              obtain ⟨r, hr4⟩ : ∃ r, Hid (r = i % 4) := ⟨_, rfl⟩
              have c0 : wr.cell? ⟨H, g, none⟩ = some (.int .u32 (u (S.get g))) := (hb.out.cell (p := ⟨H, g, none⟩) hz11.out.2).trans (hS11.out.cell (by have := hg.out; omega))
              have s0 : wr.cell? ⟨F, i, none⟩ = some (outTab S i i) := ht.out.cell (by omega)
              have s1 : wr.frozen? ⟨F, i, none⟩ = false := ht.out.frozen _
              have y0 : (i : Int).tdiv 4 = (g : Int) := by have := hg.out; rw [Int.tdiv_eq_ediv_of_nonneg (by omega)]; omega
              have y1 : IntKind.i64.wrap (g : Int) = (g : Int) := by have := hg.out; exact IntWalk.i64_in _ (by omega)
              have y2 : (i : Int) % 4 = (r : Int) := by have := hr4.out; omega
              have y3 : (g : Int) < 8 := by have := hg.out; omega
              have r4 : r < 4 := by have := hr4.out; omega
              have y4 : IntKind.i64.wrap (8 * (r : Int)) = 8 * (r : Int) := IntWalk.i64_in _ (by omega)
              have y5 : IntKind.i64.wrap (24 - 8 * (r : Int)) = 24 - 8 * (r : Int) := IntWalk.i64_in _ (by omega)
              have y6 : IntKind.u64.wrap (24 - 8 * (r : Int)) = 24 - 8 * (r : Int) := u64_in _ (by omega) (by omega)
              have y7 : (24 - 8 * (r : Int)).toNat = 24 - 8 * r := by omega
              have y8 : (0 : Int) ≤ 24 - 8 * (r : Int) := by omega
              go_wp2_with fail
              go_roundw
              case rel =>
                refine ⟨i + 1, by go_num, by omega, ht.out.set_ i _ (fun x _ => ?_), hb.out.setCell (Nat.le_refl _) _⟩
                rw [outTab_next, ← hg.out, ← hr4.out, u_byte]
              case measure => clear y0 y1 y2 y4 y5 y6 y7; simp [intOf]; omega
            · have h32 : i = 32 := by omega
              subst h32
              obtain ⟨w12, rfl⟩ : ∃ w12 : World, w12 = wr := ⟨_, rfl⟩
              obtain ⟨c8, hc8, hs8, hv8⟩ := ht.out
              have hq : c8 = (cells8 (sum q)).toArray := outTab_all q c8 hs8 (by rw [← hSE.out]; exact hv8)
              rw [hq] at hc8
              have hc8h := Lib.hid hc8
              have hs8h : Hid ((Tryd.prog.info? 23).map (·.size) = some (cells8 (sum q)).toArray.size) := dig_size _ (sum_len q)
              have ho8 : Hid ((Z32 : Array Value).size = (cells8 (sum q)).toArray.size) := (by rw [← hq, hs8]; rfl : (Z32 : Array Value).size = (cells8 (sum q)).toArray.size)
              have h18 := Lib.hid (dig_one (sum q))
              have hr7 : Hid (Blk w12 w.heap.size 23 Z32) := (hb.out.block w.heap.size hz11.out.1).trans hR11.out
              clear hc8 hq hv8 hs8
              go_wp2_with (first | ((with_reducible change wpList _ _ _ ({ dst := some 241, op := _, type := _, pos := _, after := _, guard := _ } :: _) _ _); refine wpList_load_row (o := ⟨some 241, _, _, _, _, _⟩) rfl 23 (.tmp 23) rfl F rfl 23 (cells8 (sum q)).toArray (0, 0) _ hc8h.out Tryd.underlying23 rfl hs8h.out ?_) | ((with_reducible change wpList _ _ _ ({ dst := none, op := Op.store 23 _ _, type := _, pos := _, after := _, guard := _ } :: _) _ _); refine wpList_store_row (o := ⟨none, _, _, _, _, _⟩) rfl 23 (.tmp 2) (.tmp 241) rfl w.heap.size (cells8 (sum q)).toArray rfl rfl 23 Z32 hr7.out hs8h.out ho8.out h18.out ?_))
              refine bodyPost_ret (results_cell_row rfl _ _ w.heap.size 23 (cells8 (sum q)).toArray (0, 0) _ rfl (setRow_heap _ _ _ _ _ _ hr7.out) Tryd.underlying23 rfl hs8h.out) rfl ?_
              exact ⟨rfl, below_setRow (hb11.out.trans (hb.out.mono (by have := hz11.out; omega))) (Nat.le_refl _) _⟩
end Go.Proofs.YteelanamlhfmgaaDoor.RefSum
