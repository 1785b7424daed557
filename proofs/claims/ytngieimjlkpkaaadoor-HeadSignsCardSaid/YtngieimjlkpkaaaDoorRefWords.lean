/-
  Words for the reference's SHA-256: the word that is pushed byte by byte, the ring of the schedule, the ring of the letters. No program in sight.
-/
import Derived.Test.YtngieimjlkpkaaaDoorHashSum
import Derived.Test.YtngieimjlkpkaaaDoorRefSmall
namespace Go.Proofs.YtngieimjlkpkaaaDoor.RefWords
open Go Go.RowKit Go.Proofs.YtngieimjlkpkaaaDoor Go.Proofs.YtngieimjlkpkaaaDoor.Mem Go.Proofs.YtngieimjlkpkaaaDoor.Sha Go.Proofs.YtngieimjlkpkaaaDoor.ShaWalk Go.Proofs.YtngieimjlkpkaaaDoor.Bytes Go.Proofs.YtngieimjlkpkaaaDoor.HashMem Go.Proofs.YtngieimjlkpkaaaDoor.Hash Go.Proofs.YtngieimjlkpkaaaDoor.HashSum Go.Proofs.YtngieimjlkpkaaaDoor.RefSmall

/-- Word x of a block, m of its bytes pushed. -/
def wpart (f : Nat → BitVec 8) (x : Nat) : Nat → BitVec 32
  | 0 => 0
  | m + 1 => pushByte (wpart f x m) (f (4 * x + m))
theorem wpart_four (f : Nat → BitVec 8) (x : Nat) : wpart f x 4 = mB f x := push4 _ _ _ _
def pushTab (f : Nat → BitVec 8) (j x : Nat) : Value := .int .u32 (u (wpart f x (min 4 (j - 4 * x))))
theorem pushTab_zero (f : Nat → BitVec 8) (x : Nat) : pushTab f 0 x = .int .u32 0 := by
  unfold pushTab
  rw [show min 4 (0 - 4 * x) = 0 by omega]
  rfl
theorem pushTab_at (f : Nat → BitVec 8) (j : Nat) : pushTab f j (j / 4) = .int .u32 (u (wpart f (j / 4) (j % 4))) := by
  unfold pushTab
  rw [show min 4 (j - 4 * (j / 4)) = j % 4 by omega]
theorem pushTab_succ (f : Nat → BitVec 8) (j x : Nat) : pushTab f (j + 1) x = if x = j / 4 then .int .u32 (u (pushByte (wpart f (j / 4) (j % 4)) (f j))) else pushTab f j x := by
  unfold pushTab
  by_cases h : x = j / 4
  · subst h
    rw [if_pos rfl, show min 4 (j + 1 - 4 * (j / 4)) = j % 4 + 1 by omega, wpart, show 4 * (j / 4) + j % 4 = j by omega]
  · rw [if_neg h, show min 4 (j + 1 - 4 * x) = min 4 (j - 4 * x) by omega]

/-- Which word of the schedule stands at place q of the ring, t rounds on. -/
def ri (t q : Nat) : Nat := if t < 16 then q else t - 16 + (q + 1024 - t) % 16
def ringTab (m : Nat → BitVec 32) (t q : Nat) : Value := .int .u32 (u (sched m (ri t q)))
theorem ring_zero (f : Nat → BitVec 8) (x : Nat) (hx : x < 16) : ringTab (mB f) 0 x = pushTab f 64 x := by
  unfold ringTab pushTab ri
  rw [if_pos (by omega), sched_lo _ hx, show min 4 (64 - 4 * x) = 4 by omega, wpart_four]
theorem ring_lo (m : Nat → BitVec 32) (t q : Nat) (ht : t < 16) (hq : q < 16) : ringTab m (t + 1) q = ringTab m t q := by
  unfold ringTab ri
  rw [if_pos ht]
  by_cases h : t + 1 < 16
  · rw [if_pos h]
  · rw [if_neg h, show t + 1 - 16 + (q + 1024 - (t + 1)) % 16 = q by omega]
theorem ri_hi {t : Nat} (q : Nat) (h : 16 ≤ t) : ri t q = t - 16 + (q + 1024 - t) % 16 := by unfold ri; rw [if_neg (by omega)]
theorem ring_hi (m : Nat → BitVec 32) (t q : Nat) (h16 : 16 ≤ t) (ht : t < 64) (hq : q < 16) : ringTab m (t + 1) q = if q = t % 16 then .int .u32 (u (sched m t)) else ringTab m t q := by
  unfold ringTab
  rw [ri_hi q h16, ri_hi q (show 16 ≤ t + 1 by omega)]
  by_cases h : q = t % 16
  · rw [if_pos h, show t + 1 - 16 + (q + 1024 - (t + 1)) % 16 = t by omega]
  · rw [if_neg h, show t + 1 - 16 + (q + 1024 - (t + 1)) % 16 = t - 16 + (q + 1024 - t) % 16 by omega]
theorem ring_at (m : Nat → BitVec 32) (t d : Nat) (h16 : 16 ≤ t) (ht : t < 64) (hd : d < 16) : ringTab m t ((t + d) % 16) = .int .u32 (u (sched m (t - 16 + d))) := by
  unfold ringTab ri
  rw [if_neg (by omega), show t - 16 + ((t + d) % 16 + 1024 - t) % 16 = t - 16 + d by omega]
theorem ring_now (m : Nat → BitVec 32) (t : Nat) (ht : t < 64) : ringTab m (t + 1) (t % 16) = .int .u32 (u (sched m t)) := by
  by_cases h : t < 16
  · rw [ring_lo m t _ h (by omega)]
    unfold ringTab ri
    rw [if_pos h, show t % 16 = t by omega]
  · rw [ring_hi m t _ (by omega) ht (by omega), if_pos rfl]

/-- Which letter stands at place p, t rounds on. -/
def letTab (S : St) (t p : Nat) : Value := .int .u32 (u (S.get ((p + t) % 8)))
theorem let_at (S : St) (t k : Nat) (ht : t < 64) (hk : k < 8) : letTab S t ((64 + k - t) % 8) = .int .u32 (u (S.get k)) := by
  unfold letTab
  rw [show ((64 + k - t) % 8 + t) % 8 = k by omega]
theorem let_step (k w : BitVec 32) (S : St) (t p : Nat) (ht : t < 64) (hp : p < 8) :
    letTab (Sha.step k w S) (t + 1) p = if p = (71 - t) % 8 then .int .u32 (u (t1 k w S + t2 S)) else if p = (67 - t) % 8 then .int .u32 (u (S.d + t1 k w S)) else letTab S t p := by
  unfold letTab
  by_cases h7 : p = (71 - t) % 8
  · rw [if_pos h7, show (p + (t + 1)) % 8 = 0 by omega]
    rfl
  · rw [if_neg h7]
    by_cases h3 : p = (67 - t) % 8
    · rw [if_pos h3, show (p + (t + 1)) % 8 = 4 by omega]
      rfl
    · rw [if_neg h3]
      have e : (p + (t + 1)) % 8 = (p + t) % 8 + 1 := by omega
      rw [e]
      have e2 : (p + t) % 8 < 7 := by omega
      have e3 : (p + t) % 8 ≠ 3 := by omega
      generalize (p + t) % 8 = x at *
      match x, e2, e3 with
      | 0, _, _ => rfl
      | 1, _, _ => rfl
      | 2, _, _ => rfl
      | 4, _, _ => rfl
      | 5, _, _ => rfl
      | 6, _, _ => rfl
def stTab (S : St) (j : Nat) : Value := .int .u32 (u (S.get j))
theorem let_zero (S : St) (p : Nat) (hp : p < 8) : letTab S 0 p = stTab S p := by
  unfold letTab stTab
  rw [show (p + 0) % 8 = p by omega]
theorem let_end (S : St) (p : Nat) (hp : p < 8) : letTab S 64 p = stTab S p := by
  unfold letTab stTab
  rw [show (p + 64) % 8 = p by omega]
theorem num_K (t : Nat) (ht : t < 64) : numCell t = .int .u32 (u (K t)) := by
  unfold numCell K
  rw [show (Ktab ++ Htab).getD t 0 = Ktab.getD t 0 by simp only [List.getD]; rw [List.getElem?_append_left (show t < Ktab.length from ht)]]
theorem num_H (j : Nat) (hj : j < 8) : numCell (64 + j) = stTab init j := by
  match j, hj with
  | 0, _ => rfl
  | 1, _ => rfl
  | 2, _ => rfl
  | 3, _ => rfl
  | 4, _ => rfl
  | 5, _ => rfl
  | 6, _ => rfl
  | 7, _ => rfl
theorem padded_getD (l : Text) (i : Nat) (hi : i < whole l.length) : (padded l).getD i 0 = padAt l i := by
  unfold padded
  simp only [List.getD, List.getElem?_map]
  rw [List.getElem?_range hi]
  rfl
theorem sum_state (s R : St) (j : Nat) (m : Nat → BitVec 32) (hR : R = rnd m s 64) : sumTab s R 8 j = if j < 8 then stTab (comp s m) j else .int .u32 (u (s.get j)) := by
  unfold sumTab stTab
  by_cases h : j < 8
  · rw [if_pos h, if_pos h, comp_get, hR]
  · rw [if_neg h, if_neg h]
end Go.Proofs.YtngieimjlkpkaaaDoor.RefWords
