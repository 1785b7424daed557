/-
  Texts of the claim, put into one file: ShaWalk.
-/
import Derived.Test.YtgldkfaiofkhbaaDoorZ2
import Derived.Test.YtgldkfaiofkhbaaDoorZ0
import Derived.Test.YtgldkfaiofkhbaaDoorRows
import Derived.Lib.Hide
import Derived.Outline
import Derived.WalkLawsBesides
import Derived.Deep.QuietTactic
import Derived.BigQuiet
import Derived.StillTailTactics
import Derived.Test.YtgldkfaiofkhbaaDoorZ14

namespace Go.Proofs.YtgldkfaiofkhbaaDoor.ShaWalk
open Go Go.RowKit Go.Proofs.YtgldkfaiofkhbaaDoor Go.Proofs.YtgldkfaiofkhbaaDoor.Mem Go.Proofs.YtgldkfaiofkhbaaDoor.Sha

set_option maxRecDepth 100000 in
theorem turn_any (x : BitVec 32) (m : Int) (n : Nat) (hm : m = n) (hn : n ≤ 32) (w : World) :
    Calls Tryd.prog 184 #[.int .u32 (u x), .int .i64 m] w fun e w' => e = .returned (.int .u32 (u (rot x n))) ∧ ∃ k, w' = w.drewN k := by
  subst hm
  have b0 := u_nonneg x
  have b1 := u_lt x
  go_enter Tryd.func184, Tryd.ntmps184
  go_wp2_with fail
  go_quiet (fail)
  go_wp2_with fail
  go_ret
  exact ⟨by rw [← rot_u]; rfl, nq, rfl⟩

theorem turn2 (x : BitVec 32) (w : World) : Calls Tryd.prog 184 #[.int .u32 (u x), .int .i64 2] w fun e w' => e = .returned (.int .u32 (u (rot x 2))) ∧ ∃ k, w' = w.drewN k := turn_any x 2 2 rfl (by decide) w
theorem turn6 (x : BitVec 32) (w : World) : Calls Tryd.prog 184 #[.int .u32 (u x), .int .i64 6] w fun e w' => e = .returned (.int .u32 (u (rot x 6))) ∧ ∃ k, w' = w.drewN k := turn_any x 6 6 rfl (by decide) w
theorem turn7 (x : BitVec 32) (w : World) : Calls Tryd.prog 184 #[.int .u32 (u x), .int .i64 7] w fun e w' => e = .returned (.int .u32 (u (rot x 7))) ∧ ∃ k, w' = w.drewN k := turn_any x 7 7 rfl (by decide) w
theorem turn11 (x : BitVec 32) (w : World) : Calls Tryd.prog 184 #[.int .u32 (u x), .int .i64 11] w fun e w' => e = .returned (.int .u32 (u (rot x 11))) ∧ ∃ k, w' = w.drewN k := turn_any x 11 11 rfl (by decide) w
theorem turn13 (x : BitVec 32) (w : World) : Calls Tryd.prog 184 #[.int .u32 (u x), .int .i64 13] w fun e w' => e = .returned (.int .u32 (u (rot x 13))) ∧ ∃ k, w' = w.drewN k := turn_any x 13 13 rfl (by decide) w
theorem turn17 (x : BitVec 32) (w : World) : Calls Tryd.prog 184 #[.int .u32 (u x), .int .i64 17] w fun e w' => e = .returned (.int .u32 (u (rot x 17))) ∧ ∃ k, w' = w.drewN k := turn_any x 17 17 rfl (by decide) w
theorem turn18 (x : BitVec 32) (w : World) : Calls Tryd.prog 184 #[.int .u32 (u x), .int .i64 18] w fun e w' => e = .returned (.int .u32 (u (rot x 18))) ∧ ∃ k, w' = w.drewN k := turn_any x 18 18 rfl (by decide) w
theorem turn19 (x : BitVec 32) (w : World) : Calls Tryd.prog 184 #[.int .u32 (u x), .int .i64 19] w fun e w' => e = .returned (.int .u32 (u (rot x 19))) ∧ ∃ k, w' = w.drewN k := turn_any x 19 19 rfl (by decide) w
theorem turn22 (x : BitVec 32) (w : World) : Calls Tryd.prog 184 #[.int .u32 (u x), .int .i64 22] w fun e w' => e = .returned (.int .u32 (u (rot x 22))) ∧ ∃ k, w' = w.drewN k := turn_any x 22 22 rfl (by decide) w
theorem turn25 (x : BitVec 32) (w : World) : Calls Tryd.prog 184 #[.int .u32 (u x), .int .i64 25] w fun e w' => e = .returned (.int .u32 (u (rot x 25))) ∧ ∃ k, w' = w.drewN k := turn_any x 25 25 rfl (by decide) w

/-- The schedule's array behind t rounds. -/
def wTab (m : Nat → BitVec 32) (t : Nat) (j : Nat) : Value := .int .u32 (if j < t then u (sched m j) else 0)
theorem wTab_lt {m : Nat → BitVec 32} {t j : Nat} (h : j < t) : wTab m t j = .int .u32 (u (sched m j)) := by unfold wTab; rw [if_pos h]
theorem wTab_succ (m : Nat → BitVec 32) (t j : Nat) : wTab m (t + 1) j = if j = t then .int .u32 (u (sched m t)) else wTab m t j := by
  unfold wTab
  by_cases h : j = t
  · subst h
    rw [if_pos rfl, if_pos (by omega)]
  · rw [if_neg h]
    by_cases h1 : j < t
    · rw [if_pos h1, if_pos (by omega)]
    · rw [if_neg h1, if_neg (by omega)]
theorem wTab_zero (m : Nat → BitVec 32) : ∀ j, j < 64 → (Array.replicate 64 (Value.int .u32 0))[j]? = some (wTab m 0 j) := by
  intro j hj
  rw [Array.getElem?_replicate, if_pos hj]
  unfold wTab
  rw [if_neg (by omega)]
/-- The block's words. -/
def mB (pf : Nat → BitVec 8) (t : Nat) : BitVec 32 := word (pf (4 * t)) (pf (4 * t + 1)) (pf (4 * t + 2)) (pf (4 * t + 3))
theorem shr3 (x : BitVec 32) : u x / (8 : Int) = u (x >>> 3) := shr_u x 3
theorem shr10 (x : BitVec 32) : u x / (1024 : Int) = u (x >>> 10) := shr_u x 10
theorem sched_sum (m : Nat → BitVec 32) (t : Nat) (h : 16 ≤ t) :
    sched m (t - 16) + (rot (sched m (t - 15)) 7 ^^^ rot (sched m (t - 15)) 18 ^^^ sched m (t - 15) >>> 3) + sched m (t - 7) + (rot (sched m (t - 2)) 17 ^^^ rot (sched m (t - 2)) 19 ^^^ sched m (t - 2) >>> 10) = sched m t :=
  (sched_hi m h).symm

/-- The eight numbers of a state as the state's block has them, k of them already summed with R. -/
def sumTab (st R : St) (k j : Nat) : Value := .int .u32 (if j < k then u (st.get j + R.get j) else u (st.get j))
/-- What a state's block is. -/
structure IsSt (w : World) (g : Nat) (T : TypeId) (cs : Array Value) (st R : St) (k : Nat) (w' : World) (cs' : Array Value) : Prop where
  blk : Blk w' g T cs'
  size : cs'.size = cs.size
  low : ∀ j, j < 8 → cs'[j]? = some (sumTab st R k j)
  high : ∀ j, 8 ≤ j → cs'[j]? = cs[j]?
  kept : Kept (· = g) w w'
theorem IsSt.step {w : World} {g : Nat} {T : TypeId} {cs : Array Value} {st R : St} {k : Nat} {w' : World} {cs' : Array Value} (h : IsSt w g T cs st R k w' cs') (hk : k < 8) (n : Nat) :
    ∃ cs'', IsSt w g T cs st R (k + 1) ((w'.drewN n).setCell ⟨g, k, none⟩ (.int .u32 (u (st.get k + R.get k)))) cs'' := by
  refine ⟨cs'.setIfInBounds k (.int .u32 (u (st.get k + R.get k))), ⟨(h.blk.drewN n).set_ k _, by simpa using h.size, fun j hj => ?_, fun j hj => ?_, (h.kept.drewN n).setCell (.inl rfl) _⟩⟩
  · rw [Array.getElem?_setIfInBounds]
    have hs : k < cs'.size := by
      have := h.low k hk
      exact (Array.getElem?_eq_some_iff.1 this).1
    by_cases e : k = j
    · subst e
      rw [if_pos rfl, if_pos hs]
      unfold sumTab
      rw [if_pos (by omega)]
    · rw [if_neg e, h.low j hj]
      unfold sumTab
      by_cases h1 : j < k
      · rw [if_pos h1, if_pos (by omega)]
      · rw [if_neg h1, if_neg (by omega)]
  · rw [Array.getElem?_setIfInBounds, if_neg (by omega)]
    exact h.high j hj

set_option maxRecDepth 100000 in
set_option maxHeartbeats 4000000 in
theorem take_any (g : Nat) (T : TypeId) (cs : Array Value) (st : St) (b o c : Nat) (pf : Nat → BitVec 8) (w : World)
    (hg : Blk w g T cs) (hst : ∀ j, j < 8 → cs[j]? = some (.int .u32 (u (st.get j))))
    (hp : ∀ j, j < 64 → w.cell? ⟨b, o + j, none⟩ = some (.int .u8 (b8 (pf j)))) (hb : b < w.heap.size)
    (hK : ∀ j, j < 64 → w.cell? ⟨1, j, none⟩ = some (.int .u32 (u (K j)))) (hgK : 1 < w.heap.size) :
    Calls Tryd.prog 166 #[.pointer (some ⟨g, 0, none⟩), .slice (some ⟨b, o, none⟩) 64 c] w fun e w' => e = .returned (.tuple #[]) ∧ ∃ cs', IsSt w g T cs st (rnd (mB pf) st 64) 8 w' cs' := by
  obtain ⟨R, hR64⟩ : ∃ R, Hid (rnd (mB pf) st 64 = R) := ⟨_, rfl⟩
  rw [hR64.out]
  have HG := Lib.hid hg
  have HST := Lib.hid hst
  have HP := Lib.hid hp
  have HK := Lib.hid hK
  clear hg hst hp hK
  go_enter Tryd.func166, Tryd.ntmps166
  go_wp2_with fail
  go_loopw [22] (fun i wr => ∃ t : Nat, i = .int .i64 (t : Int) ∧ t ≤ 16 ∧ Hid (Tab wr w.heap.size 259 64 (wTab (mB pf) t)) ∧ Hid (Below w.heap.size w wr)) (fun i _ => 16 - (intOf i).toNat)
  case atStart => exact ⟨0, rfl, by omega, Tab.new w _ _ 64 _ rfl (wTab_zero _), (Below.refl _ _).alloc (Nat.le_refl _) _⟩
  case round =>
    obtain ⟨t, rfl, ht, htab, hbel⟩ := hrel
    by_cases hlt : t < 16
    · have c0 : wr.cell? ⟨b, o + 4 * t, none⟩ = some (.int .u8 (b8 (pf (4 * t)))) := (hbel.out.cell (p := ⟨b, o + 4 * t, none⟩) hb).trans (HP.out _ (by omega))
      have c1 : wr.cell? ⟨b, o + (4 * t + 1), none⟩ = some (.int .u8 (b8 (pf (4 * t + 1)))) := (hbel.out.cell (p := ⟨b, o + (4 * t + 1), none⟩) hb).trans (HP.out _ (by omega))
      have c2 : wr.cell? ⟨b, o + (4 * t + 2), none⟩ = some (.int .u8 (b8 (pf (4 * t + 2)))) := (hbel.out.cell (p := ⟨b, o + (4 * t + 2), none⟩) hb).trans (HP.out _ (by omega))
      have c3 : wr.cell? ⟨b, o + (4 * t + 3), none⟩ = some (.int .u8 (b8 (pf (4 * t + 3)))) := (hbel.out.cell (p := ⟨b, o + (4 * t + 3), none⟩) hb).trans (HP.out _ (by omega))
      have s0 : wr.cell? ⟨w.heap.size, t, none⟩ = some (wTab (mB pf) t t) := htab.out.cell (by omega)
      have s1 : wr.frozen? ⟨w.heap.size, t, none⟩ = false := htab.out.frozen t
      have hz : (t : Int) < 16 := by omega
      go_wp2_with fail
      have n0 : (0 : Int) ≤ 4 * (t : Int) := by omega
      have n1 : (0 : Int) ≤ 4 * (t : Int) + 1 := by omega
      have n2 : (0 : Int) ≤ 4 * (t : Int) + 2 := by omega
      have n3 : (0 : Int) ≤ 4 * (t : Int) + 3 := by omega
      have l0 : 4 * (t : Int) < 64 := by omega
      have l1 : 4 * (t : Int) + 1 < 64 := by omega
      have l2 : 4 * (t : Int) + 2 < 64 := by omega
      have l3 : 4 * (t : Int) + 3 < 64 := by omega
      have n4 : (0 : Int) ≤ (t : Int) := by omega
      have l4 : (t : Int) < 64 := by omega
      have i0 : (4 * (t : Int)).toNat = 4 * t := by omega
      have i1 : (4 * (t : Int) + 1).toNat = 4 * t + 1 := by omega
      have i2 : (4 * (t : Int) + 2).toNat = 4 * t + 2 := by omega
      have i3 : (4 * (t : Int) + 3).toNat = 4 * t + 3 := by omega
      have w0 : IntKind.i64.wrap (4 * (t : Int)) = 4 * (t : Int) := IntWalk.i64_in _ (by omega)
      have w1 : IntKind.i64.wrap (4 * (t : Int) + 1) = 4 * (t : Int) + 1 := IntWalk.i64_in _ (by omega)
      have w2 : IntKind.i64.wrap (4 * (t : Int) + 2) = 4 * (t : Int) + 2 := IntWalk.i64_in _ (by omega)
      have w3 : IntKind.i64.wrap (4 * (t : Int) + 3) = 4 * (t : Int) + 3 := IntWalk.i64_in _ (by omega)
      have z0 := wrap_b8
      have z1 := wrap_b8_24
      have z2 := wrap_b8_16
      have z3 := wrap_b8_8
      have hw := word_u (pf (4 * t)) (pf (4 * t + 1)) (pf (4 * t + 2)) (pf (4 * t + 3))
      go_still_tail 35, (by kernel_rfl)
      change wpList _ _ _ _ _ wr.drew
      clear w0 w1 w2 w3 i0 i1 i2 i3 z0 z1 z2 z3 hw
      go_wp2_with fail
      go_roundw
      case rel =>
        refine ⟨t + 1, by go_num, by omega, ?_, ?_⟩
        · refine htab.out.drew.set_ t _ (fun j _ => ?_)
          rw [wTab_succ, sched_lo _ hlt]
          rfl
        · exact hbel.out.drew.setCell (Nat.le_refl _) _
      case measure => simp [intOf]; omega
    · have ht16 : t = 16 := by omega
      subst ht16
      clear hlt ht
      obtain ⟨w1, rfl⟩ : ∃ w1 : World, w1 = wr := ⟨_, rfl⟩
      go_wp2_with fail
      go_loopw [6] (fun i wr => ∃ t : Nat, i = .int .i64 (t : Int) ∧ 16 ≤ t ∧ t ≤ 64 ∧ Hid (Tab wr w.heap.size 259 64 (wTab (mB pf) t)) ∧ Hid (Below w.heap.size w wr)) (fun i _ => 64 - (intOf i).toNat)
      case atStart => exact ⟨16, rfl, by omega, by omega, htab.out, hbel.out⟩
      case round =>
        clear htab hbel
        obtain ⟨t, rfl, h16, ht, htab, hbel⟩ := hrel
        by_cases hlt : t < 64
        · have c15 : wr.cell? ⟨w.heap.size, t - 15, none⟩ = some (.int .u32 (u (sched (mB pf) (t - 15)))) := (htab.out.cell (by omega)).trans (congrArg some (wTab_lt (by omega)))
          have c2 : wr.cell? ⟨w.heap.size, t - 2, none⟩ = some (.int .u32 (u (sched (mB pf) (t - 2)))) := (htab.out.cell (by omega)).trans (congrArg some (wTab_lt (by omega)))
          have c16 : wr.cell? ⟨w.heap.size, t - 16, none⟩ = some (.int .u32 (u (sched (mB pf) (t - 16)))) := (htab.out.cell (by omega)).trans (congrArg some (wTab_lt (by omega)))
          have c7 : wr.cell? ⟨w.heap.size, t - 7, none⟩ = some (.int .u32 (u (sched (mB pf) (t - 7)))) := (htab.out.cell (by omega)).trans (congrArg some (wTab_lt (by omega)))
          have s0 : wr.cell? ⟨w.heap.size, t, none⟩ = some (wTab (mB pf) t t) := htab.out.cell (by omega)
          have s1 : wr.frozen? ⟨w.heap.size, t, none⟩ = false := htab.out.frozen t
          have hz : (t : Int) < 64 := by omega
          go_wp2_with fail
          have n15 : (0 : Int) ≤ (t : Int) - 15 := by omega
          have n2 : (0 : Int) ≤ (t : Int) - 2 := by omega
          have l15 : (t : Int) - 15 < 64 := by omega
          have l2 : (t : Int) - 2 < 64 := by omega
          have i15 : ((t : Int) - 15).toNat = t - 15 := by omega
          have i2 : ((t : Int) - 2).toNat = t - 2 := by omega
          have w15 : IntKind.i64.wrap ((t : Int) - 15) = (t : Int) - 15 := IntWalk.i64_in _ (by omega)
          have w2 : IntKind.i64.wrap ((t : Int) - 2) = (t : Int) - 2 := IntWalk.i64_in _ (by omega)
          go_quiet (fail)
          go_wp2_with fail
          clear w15 w2 i15 i2
          have n16 : (0 : Int) ≤ (t : Int) - 16 := by omega
          have m16 : (16 : Int) ≤ (t : Int) := by omega
          have m7 : (7 : Int) ≤ (t : Int) := by omega
          have n7 : (0 : Int) ≤ (t : Int) - 7 := by omega
          have n0 : (0 : Int) ≤ (t : Int) := by omega
          have l16 : (t : Int) - 16 < 64 := by omega
          have l7 : (t : Int) - 7 < 64 := by omega
          have i16 : ((t : Int) - 16).toNat = t - 16 := by omega
          have i7 : ((t : Int) - 7).toNat = t - 7 := by omega
          have w16 : IntKind.i64.wrap ((t : Int) - 16) = (t : Int) - 16 := IntWalk.i64_in _ (by omega)
          have w7 : IntKind.i64.wrap ((t : Int) - 7) = (t : Int) - 7 := IntWalk.i64_in _ (by omega)
          have l0 : (t : Int) < 64 := by omega
          have hx := xor_u
          have ha := wadd_u
          have h3 := shr3
          have h10 := shr10
          refine QuietTail.wp_region_quiet_tail 29 (by kernel_rfl) (by kernel_rfl) ?_
          simp only [List.take_succ_cons, List.take_zero, List.drop_succ_cons, List.drop_zero]
          repeat (go_big_quiet_step ((first | (go_at_call_of 184 (Value.int IntKind.i64 7); first | (with_reducible exact Calls.quiet_of (turn7 _ _)) | (with_reducible exact QuietTail.quiet_add (turn7 _ _))) | (go_at_call_of 184 (Value.int IntKind.i64 18); first | (with_reducible exact Calls.quiet_of (turn18 _ _)) | (with_reducible exact QuietTail.quiet_add (turn18 _ _))) | (go_at_call_of 184 (Value.int IntKind.i64 17); first | (with_reducible exact Calls.quiet_of (turn17 _ _)) | (with_reducible exact QuietTail.quiet_add (turn17 _ _))) | (go_at_call_of 184 (Value.int IntKind.i64 19); first | (with_reducible exact Calls.quiet_of (turn19 _ _)) | (with_reducible exact QuietTail.quiet_add (turn19 _ _))))))
          refine wpQuiet_nil ?_
          intro _ hw'
          obtain ⟨nr, hw''⟩ := hw'
          subst hw''
          clear w16 w7 i16 i7 hx ha h3 h10
          go_wp2_with fail
          go_roundw
          case rel =>
            refine ⟨t + 1, by go_num, by omega, by omega, ?_, ?_⟩
            · refine (htab.out.drewN _).set_ t _ (fun j _ => ?_)
              rw [wTab_succ, ← sched_sum _ _ h16]
            · exact (below_drawn hbel.out _).setCell (Nat.le_refl _) _
          case measure => simp [intOf]; omega
        · have ht64 : t = 64 := by omega
          subst ht64
          clear hlt ht h16
          have HGr : Hid (Blk wr g T cs) := (hbel.out.block g HG.out.lt).trans HG.out
          have d0 := HGr.out.cell 0
          have d1 := HGr.out.cell 1
          have d2 := HGr.out.cell 2
          have d3 := HGr.out.cell 3
          have d4 := HGr.out.cell 4
          have d5 := HGr.out.cell 5
          have d6 := HGr.out.cell 6
          have d7 := HGr.out.cell 7
          rw [HST.out 0 (by omega)] at d0
          rw [HST.out 1 (by omega)] at d1
          rw [HST.out 2 (by omega)] at d2
          rw [HST.out 3 (by omega)] at d3
          rw [HST.out 4 (by omega)] at d4
          rw [HST.out 5 (by omega)] at d5
          rw [HST.out 6 (by omega)] at d6
          rw [HST.out 7 (by omega)] at d7
          simp only [St.get] at d0 d1 d2 d3 d4 d5 d6 d7
          obtain ⟨w2, rfl⟩ : ∃ w2 : World, w2 = wr := ⟨_, rfl⟩
          go_wp2_with fail
          go_quiet (fail)
          clear d0 d1 d2 d3 d4 d5 d6 d7
          have htab : Hid (Tab (w2.drewN nq) w.heap.size 259 64 (wTab (mB pf) 64)) := htab.out
          have hbel : Hid (Below w.heap.size w (w2.drewN nq)) := below_drawn hbel.out nq
          have HGr : Hid (Blk (w2.drewN nq) g T cs) := HGr.out
          generalize w2.drewN nq = w3 at *
          go_wp2_with fail
          simp only [Int.cast_ofNat_Int]
          go_loopw [134, 9, 10, 11, 12, 13, 14, 15, 16] (fun i xa xb xc xd xe xf xg xh wr => ∃ t n : Nat, i = .int .i64 (t : Int) ∧ t ≤ 64 ∧ xa = .int .u32 (u (rnd (mB pf) st t).a) ∧ xb = .int .u32 (u (rnd (mB pf) st t).b) ∧ xc = .int .u32 (u (rnd (mB pf) st t).c) ∧ xd = .int .u32 (u (rnd (mB pf) st t).d) ∧ xe = .int .u32 (u (rnd (mB pf) st t).e) ∧ xf = .int .u32 (u (rnd (mB pf) st t).f) ∧ xg = .int .u32 (u (rnd (mB pf) st t).g) ∧ xh = .int .u32 (u (rnd (mB pf) st t).h) ∧ wr = w3.drewN n) (fun i _ _ _ _ _ _ _ _ _ => 64 - (intOf i).toNat)
          case atStart => exact ⟨0, 0, rfl, by omega, rfl, rfl, rfl, rfl, rfl, rfl, rfl, rfl, rfl⟩
          case round =>
            obtain ⟨t, n, rfl, ht, rfl, rfl, rfl, rfl, rfl, rfl, rfl, rfl, rfl⟩ := hrel
            by_cases hlt : t < 64
            · have cw : w3.cell? ⟨w.heap.size, t, none⟩ = some (.int .u32 (u (sched (mB pf) t))) := (htab.out.cell (by omega)).trans (congrArg some (wTab_lt (by omega)))
              have ck : w3.cell? ⟨1, t, none⟩ = some (.int .u32 (u (K t))) := (hbel.out.cell (p := ⟨1, t, none⟩) hgK).trans (HK.out _ (by omega))
              have hR : Hid (rnd (mB pf) st (t + 1) = Sha.step (K t) (sched (mB pf) t) (rnd (mB pf) st t)) := rfl
              generalize rnd (mB pf) st t = R0 at *
              generalize sched (mB pf) t = sw at *
              generalize K t = kt at *
              have hz : (t : Int) < 64 := by omega
              have hz0 : (0 : Int) ≤ (t : Int) := by omega
              go_wp2_with fail
              have hx := xor_u
              have hand := and_u
              have ha := wadd_u
              have hn := not_xor
              refine wp_region_quiet_lit (by kernel_rfl) (by kernel_rfl) ?_
              repeat (go_big_quiet_step ((first | (go_at_call_of 184 (Value.int IntKind.i64 6); first | (with_reducible exact Calls.quiet_of (turn6 _ _)) | (with_reducible exact QuietTail.quiet_add (turn6 _ _))) | (go_at_call_of 184 (Value.int IntKind.i64 11); first | (with_reducible exact Calls.quiet_of (turn11 _ _)) | (with_reducible exact QuietTail.quiet_add (turn11 _ _))) | (go_at_call_of 184 (Value.int IntKind.i64 25); first | (with_reducible exact Calls.quiet_of (turn25 _ _)) | (with_reducible exact QuietTail.quiet_add (turn25 _ _))))))
              refine wpQuiet_nil ?_
              intro _ hw'
              obtain ⟨nr, hw''⟩ := hw'
              subst hw''
              clear hn
              go_wp2_with (first | (go_at_call_of 184 (Value.int IntKind.i64 2); refine (turn2 _ _).mono ?_; rintro e w' ⟨rfl, k, rfl⟩) | (go_at_call_of 184 (Value.int IntKind.i64 13); refine (turn13 _ _).mono ?_; rintro e w' ⟨rfl, k, rfl⟩) | (go_at_call_of 184 (Value.int IntKind.i64 22); refine (turn22 _ _).mono ?_; rintro e w' ⟨rfl, k, rfl⟩))
              go_roundw
              case rel =>
                have e := hR.out
                refine ⟨t + 1, _, by go_num, by omega, ?_, ?_, ?_, ?_, ?_, ?_, ?_, ?_, rfl⟩
                all_goals (rw [e]; rfl)
              case measure => simp [intOf]; omega
            · have ht64 : t = 64 := by omega
              subst ht64
              clear hlt ht
              have hS0 : Hid (∃ cs', IsSt w g T cs st R 0 (w3.drewN n) cs') := ⟨cs, ⟨HGr.out.drewN n, rfl, fun j hj => by rw [HST.out j hj]; unfold sumTab; rw [if_neg (by omega)], fun j _ => rfl, Kept.of_below (below_drawn hbel.out n)⟩⟩
              rw [hR64.out]
              generalize w3.drewN n = w4 at *
              clear htab hbel HGr
              go_wp2_with fail
              simp only [Int.cast_ofNat_Int]
              have hA : ∀ j, j < 8 → (#[Value.int .u32 (u R.a), .int .u32 (u R.b), .int .u32 (u R.c), .int .u32 (u R.d), .int .u32 (u R.e), .int .u32 (u R.f), .int .u32 (u R.g), .int .u32 (u R.h)] : Array Value)[j]? = some (.int .u32 (u (R.get j))) := by
                intro j hj
                match j, hj with
                | 0, _ => rfl
                | 1, _ => rfl
                | 2, _ => rfl
                | 3, _ => rfl
                | 4, _ => rfl
                | 5, _ => rfl
                | 6, _ => rfl
                | 7, _ => rfl
              have HA := Lib.hid hA
              clear hA
              generalize (#[Value.int .u32 (u R.a), .int .u32 (u R.b), .int .u32 (u R.c), .int .u32 (u R.d), .int .u32 (u R.e), .int .u32 (u R.f), .int .u32 (u R.g), .int .u32 (u R.h)] : Array Value) = A at *
              go_loopw [206] (fun i wr => ∃ j : Nat, i = .int .i64 (j : Int) ∧ j ≤ 8 ∧ Hid (∃ cs', IsSt w g T cs st R j wr cs')) (fun i _ => 8 - (intOf i).toNat)
              case atStart => exact ⟨0, rfl, by omega, hS0⟩
              case round =>
                obtain ⟨j, rfl, hj, hI⟩ := hrel
                by_cases hlt : j < 8
                · have hX : ∀ w, (Instr.index 232 (.agg A) (.int .i64 (j : Int))).run Tryd.prog w = .ok (.int .u32 (u (R.get j))) w := fun w => run_index_agg A .i64 (j : Int) (.int .u32 (u (R.get j))) Tryd.underlying232 (fun _ => rfl) (run_isAgg_int Tryd.underlying152) (by omega) (by omega) (HA.out j hlt) w
                  have hI' := hI.out
                  obtain ⟨cs', hI'⟩ := hI'
                  have hIh := Lib.hid hI'
                  clear hI'
                  have l0 := hIh.out.low j hlt
                  have c0 : wr.cell? ⟨g, j, none⟩ = some (.int .u32 (u (st.get j))) := by
                    have := hIh.out.blk.cell j
                    rw [l0] at this
                    unfold sumTab at this
                    rw [if_neg (by omega)] at this
                    exact this
                  have f0 : wr.frozen? ⟨g, j, none⟩ = false := hIh.out.blk.frozen j
                  have hz : (j : Int) < 8 := by omega
                  clear l0
                  go_wp2_with fail
                  have n0 : (0 : Int) ≤ (j : Int) := by omega
                  have ha := wadd_u
                  refine QuietTail.wp_region_quiet_tail 9 (by kernel_rfl) (by kernel_rfl) ?_
                  simp only [List.take_succ_cons, List.take_zero, List.drop_succ_cons, List.drop_zero]
                  repeat (go_big_quiet_step (fail))
                  refine wpQuiet_nil ?_
                  intro _ hw'
                  obtain ⟨nr, hw''⟩ := hw'
                  subst hw''
                  go_wp2_with fail
                  go_roundw
                  case rel =>
                    exact ⟨j + 1, by go_num, by omega, hIh.out.step hlt nr⟩
                  case measure => simp [intOf]; omega
                · have h8 : j = 8 := by omega
                  subst h8
                  go_wp2_with fail
                  go_end0
                  exact ⟨rfl, hI.out⟩
end Go.Proofs.YtgldkfaiofkhbaaDoor.ShaWalk
