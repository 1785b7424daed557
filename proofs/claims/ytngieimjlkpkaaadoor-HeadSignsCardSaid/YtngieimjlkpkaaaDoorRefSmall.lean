/-
  The reference's SHA-256, walked: right, byteAt, numbers.
-/
import Derived.Test.YtngieimjlkpkaaaDoorHashSum
import Derived.Great.BuildSlice
namespace Go.Proofs.YtngieimjlkpkaaaDoor.RefSmall
open Go Go.RowKit Go.Proofs.YtngieimjlkpkaaaDoor Go.Proofs.YtngieimjlkpkaaaDoor.Mem Go.Proofs.YtngieimjlkpkaaaDoor.Sha Go.Proofs.YtngieimjlkpkaaaDoor.ShaWalk Go.Proofs.YtngieimjlkpkaaaDoor.Bytes Go.Proofs.YtngieimjlkpkaaaDoor.HashMem Go.Proofs.YtngieimjlkpkaaaDoor.Hash Go.Proofs.YtngieimjlkpkaaaDoor.HashSum

set_option maxRecDepth 100000 in
theorem right_any (x : BitVec 32) (m : Int) (n : Nat) (hm : m = n) (hn : n ≤ 32) (w : World) :
    Calls Tryd.prog 81 #[.int .u32 (u x), .int .i64 m] w fun e w' => e = .returned (.int .u32 (u (rot x n))) ∧ ∃ k, w' = w.drewN k := by
  subst hm
  have b0 := u_nonneg x
  have b1 := u_lt x
  go_enter Tryd.func81, Tryd.ntmps81
  go_wp2_with fail
  go_ret
  exact ⟨by rw [← rot_u]; rfl, 0, rfl⟩
theorem right2 (x : BitVec 32) (w : World) : Calls Tryd.prog 81 #[.int .u32 (u x), .int .i64 2] w fun e w' => e = .returned (.int .u32 (u (rot x 2))) ∧ ∃ k, w' = w.drewN k := right_any x 2 2 rfl (by decide) w
theorem right6 (x : BitVec 32) (w : World) : Calls Tryd.prog 81 #[.int .u32 (u x), .int .i64 6] w fun e w' => e = .returned (.int .u32 (u (rot x 6))) ∧ ∃ k, w' = w.drewN k := right_any x 6 6 rfl (by decide) w
theorem right7 (x : BitVec 32) (w : World) : Calls Tryd.prog 81 #[.int .u32 (u x), .int .i64 7] w fun e w' => e = .returned (.int .u32 (u (rot x 7))) ∧ ∃ k, w' = w.drewN k := right_any x 7 7 rfl (by decide) w
theorem right11 (x : BitVec 32) (w : World) : Calls Tryd.prog 81 #[.int .u32 (u x), .int .i64 11] w fun e w' => e = .returned (.int .u32 (u (rot x 11))) ∧ ∃ k, w' = w.drewN k := right_any x 11 11 rfl (by decide) w
theorem right13 (x : BitVec 32) (w : World) : Calls Tryd.prog 81 #[.int .u32 (u x), .int .i64 13] w fun e w' => e = .returned (.int .u32 (u (rot x 13))) ∧ ∃ k, w' = w.drewN k := right_any x 13 13 rfl (by decide) w
theorem right17 (x : BitVec 32) (w : World) : Calls Tryd.prog 81 #[.int .u32 (u x), .int .i64 17] w fun e w' => e = .returned (.int .u32 (u (rot x 17))) ∧ ∃ k, w' = w.drewN k := right_any x 17 17 rfl (by decide) w
theorem right18 (x : BitVec 32) (w : World) : Calls Tryd.prog 81 #[.int .u32 (u x), .int .i64 18] w fun e w' => e = .returned (.int .u32 (u (rot x 18))) ∧ ∃ k, w' = w.drewN k := right_any x 18 18 rfl (by decide) w
theorem right19 (x : BitVec 32) (w : World) : Calls Tryd.prog 81 #[.int .u32 (u x), .int .i64 19] w fun e w' => e = .returned (.int .u32 (u (rot x 19))) ∧ ∃ k, w' = w.drewN k := right_any x 19 19 rfl (by decide) w
theorem right22 (x : BitVec 32) (w : World) : Calls Tryd.prog 81 #[.int .u32 (u x), .int .i64 22] w fun e w' => e = .returned (.int .u32 (u (rot x 22))) ∧ ∃ k, w' = w.drewN k := right_any x 22 22 rfl (by decide) w
theorem right25 (x : BitVec 32) (w : World) : Calls Tryd.prog 81 #[.int .u32 (u x), .int .i64 25] w fun e w' => e = .returned (.int .u32 (u (rot x 25))) ∧ ∃ k, w' = w.drewN k := right_any x 25 25 rfl (by decide) w

set_option maxRecDepth 100000 in
set_option maxHeartbeats 600000 in
theorem byteAt_any (q : Text) (k : Nat) (hk : q.length = k) (hk2 : k < 144115188075855872) (A : Option Addr) (c i : Nat) (hi : i < whole k) (w : World) (hr : Reads w 1 A k (cells8 q)) :
    Calls Tryd.prog 80 #[.slice A k c, .int .i64 (i : Int), .int .i64 (whole k : Int)] w fun e w' => e = .returned (.int .u8 (b8 (padAt q i))) ∧ ∃ n, w' = w.drewN n := by
  have hw := whole_le k
  obtain ⟨W, hW⟩ : ∃ W, Hid (W = whole k) := ⟨_, rfl⟩
  rw [← hW.out] at hw hi ⊢
  have hp : Hid (padAt q i = if i < k then q.getD i 0 else if i = k then 128 else if W - 8 ≤ i then lenByte k (8 * (W - 1 - i)) else 0) := by
    show _ = _
    unfold padAt
    rw [hk, ← hW.out]
  replace hk2 := Lib.hid hk2
  replace hw := Lib.hid hw
  rw [hp.out]
  clear hp hW
  by_cases c1 : i < k
  · rw [if_pos c1]
    obtain ⟨b, o, rfl, hb, hc⟩ := hr.2 (by omega)
    have c0 : w.cell? ⟨b, o + i, none⟩ = some (.int .u8 (b8 (q.getD i 0))) := hc i _ (cells8_at q i (by omega))
    clear hc hr
    generalize q.getD i 0 = bb at *
    have c1i : (i : Int) < (k : Int) := by omega
    go_enter Tryd.func80, Tryd.ntmps80
    go_wp2_with fail
    go_ret
    exact ⟨rfl, 0, rfl⟩
  · rw [if_neg c1]
    have c1i : (k : Int) ≤ (i : Int) := by omega
    by_cases c2 : i = k
    · rw [if_pos c2]
      subst c2
      go_enter Tryd.func80, Tryd.ntmps80
      go_wp2_with fail
      go_ret
      exact ⟨rfl, 0, rfl⟩
    · rw [if_neg c2]
      have c2i : ¬ ((i : Int) = (k : Int)) := by omega
      have y0 : IntKind.i64.wrap ((W : Int) - 8) = (W : Int) - 8 := by have := hk2.out; have := hw.out; exact IntWalk.i64_in _ (by omega)
      by_cases c3 : W - 8 ≤ i
      · rw [if_pos c3]
        have c3i : (W : Int) - 8 ≤ (i : Int) := by omega
        have y1 : IntKind.i64.wrap (8 * (k : Int)) = 8 * (k : Int) := by have := hk2.out; exact IntWalk.i64_in _ (by omega)
        have y2 : IntKind.u64.wrap (8 * (k : Int)) = 8 * (k : Int) := by have := hk2.out; exact u64_in _ (by omega) (by omega)
        have y3 : IntKind.i64.wrap ((W : Int) - 1) = (W : Int) - 1 := by have := hk2.out; have := hw.out; exact IntWalk.i64_in _ (by omega)
        have y4 : IntKind.i64.wrap ((W : Int) - 1 - (i : Int)) = (W : Int) - 1 - (i : Int) := by have := hk2.out; have := hw.out; exact IntWalk.i64_in _ (by omega)
        have y5 : IntKind.i64.wrap (8 * ((W : Int) - 1 - (i : Int))) = 8 * ((W : Int) - 1 - (i : Int)) := by have := hk2.out; have := hw.out; exact IntWalk.i64_in _ (by omega)
        have y6 : IntKind.u64.wrap (8 * ((W : Int) - 1 - (i : Int))) = 8 * ((W : Int) - 1 - (i : Int)) := by have := hk2.out; have := hw.out; exact u64_in _ (by omega) (by omega)
        have y7 : (8 * ((W : Int) - 1 - (i : Int))).toNat = 8 * (W - 1 - i) := by omega
        have y8 : (0 : Int) ≤ 8 * ((W : Int) - 1 - (i : Int)) := by omega
        go_enter Tryd.func80, Tryd.ntmps80
        go_wp2_with fail
        go_ret
        refine ⟨?_, 0, rfl⟩
        rw [← b8_len k _ (by have := hk2.out; omega)]
        rfl
      · rw [if_neg c3]
        have c3i : (i : Int) < (W : Int) - 8 := by omega
        go_enter Tryd.func80, Tryd.ntmps80
        go_wp2_with fail
        go_ret
        exact ⟨rfl, 0, rfl⟩

/-- The reference's table. -/
def numCell (j : Nat) : Value := .int .u32 (u (BitVec.ofNat 32 ((Ktab ++ Htab).getD j 0)))
theorem numList : ((Ktab ++ Htab).map fun (x : Nat) => Value.int .u32 (x : Int)) = (List.range 72).map numCell := by kernel_rfl
set_option maxRecDepth 100000 in
set_option maxHeartbeats 1000000 in
theorem numbers_any (w : World) : Calls Tryd.prog 79 #[] w fun e w' => e = .returned (.agg ((List.range 72).map numCell).toArray) ∧ Below w.heap.size w w' := by
  go_enter Tryd.func79, Tryd.ntmps79
  go_wp2_with (first
    | ((with_reducible change wpList _ _ _ ({ dst := some 1, op := _, type := _, pos := _, after := _, guard := _ } :: _) _ _); refine wpList_buildFlatArr (o := ⟨some 1, _, _, _, _, _⟩) rfl 100 92 72 _ rfl .u32 ((Ktab ++ Htab).map fun (x : Nat) => (x : Int)) Tryd.underlying100 (by kernel_rfl) (by kernel_rfl) (by rfl) ?_)
    | ((with_reducible change wpList _ _ _ ({ dst := none, op := Op.store 100 _ _, type := _, pos := _, after := _, guard := _ } :: _) _ _); refine wpList_store_row (o := ⟨none, _, _, _, _, _⟩) rfl 100 (.tmp 0) (.tmp 1) rfl w.heap.size (((Ktab ++ Htab).map fun (x : Nat) => (x : Int)).map (Value.int .u32)).toArray rfl rfl 100 _ (heap_alloc_new w _) (by kernel_rfl) (by kernel_rfl) (by kernel_rfl) ?_))
  refine bodyPost_ret (results_cell_row rfl _ _ w.heap.size 100 _ (0, 0) _ rfl (setRow_heap _ _ _ _ _ _ (heap_alloc_new w _)) Tryd.underlying100 rfl (by kernel_rfl)) rfl ?_
  refine ⟨?_, below_setRow ((Below.refl _ _).alloc (Nat.le_refl _) _) (Nat.le_refl _) _⟩
  rw [← numList, List.map_map]
  rfl
end Go.Proofs.YtngieimjlkpkaaaDoor.RefSmall
