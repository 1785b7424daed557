/-
  Texts of the claim, put into one file: Chain, TreeMem, TreeRoot, TreeFold, Chain2.
-/
import Derived.Test.YtgldkfaiofkhbaaDoorZ28
import Derived.Test.YtgldkfaiofkhbaaDoorZ15
import Derived.Test.YtgldkfaiofkhbaaDoorZ0
import Derived.Test.YtgldkfaiofkhbaaDoorZ3
import Derived.Test.YtgldkfaiofkhbaaDoorZ7

namespace Go.Proofs.YtgldkfaiofkhbaaDoor.Chain
open Go Go.RowKit Go.Proofs.YtgldkfaiofkhbaaDoor Go.Proofs.YtgldkfaiofkhbaaDoor.Mem Go.Proofs.YtgldkfaiofkhbaaDoor.Sha Go.Proofs.YtgldkfaiofkhbaaDoor.ShaWalk Go.Proofs.YtgldkfaiofkhbaaDoor.Bytes Go.Proofs.YtgldkfaiofkhbaaDoor.HashMem Go.Proofs.YtgldkfaiofkhbaaDoor.Hash Go.Proofs.YtgldkfaiofkhbaaDoor.HashSum Go.Proofs.YtgldkfaiofkhbaaDoor.DigestMem Go.Proofs.YtgldkfaiofkhbaaDoor.Digest Go.Proofs.YtgldkfaiofkhbaaDoor.DigestOf Go.Proofs.YtgldkfaiofkhbaaDoor.RefSum Go.Proofs.YtgldkfaiofkhbaaDoor.RefCut Go.Proofs.YtgldkfaiofkhbaaDoor.RefOf Go.Proofs.YtgldkfaiofkhbaaDoor.DigestTop Go.Proofs.YtgldkfaiofkhbaaDoor.RefTop Go.Proofs.YtgldkfaiofkhbaaDoor.QuietTail Go.Proofs.YtgldkfaiofkhbaaDoor.Grown

def leafOf (s : Int) (q : Text) : Text := cutTo (sum (kb 0 :: q)) (clampN s)
def linkOf (s : Int) (a b : Text) : Text := cutTo (sum (kb 2 :: (a ++ b))) (clampN s)
def chainOf (s : Int) (b : Text) (es : List Text) : Text := es.foldl (fun b e => linkOf s b (leafOf s e)) b
theorem leafOf_len (s : Int) (q : Text) : (leafOf s q).length = 32 := cutTo_len _ _ (sum_len _) (clampN_ok s).2
theorem linkOf_len (s : Int) (a b : Text) : (linkOf s a b).length = 32 := cutTo_len _ _ (sum_len _) (clampN_ok s).2
theorem chainOf_len (s : Int) (b : Text) (hb : b.length = 32) : ∀ es : List Text, (chainOf s b es).length = 32
  | [] => hb
  | e :: es => by
    show (chainOf s (linkOf s b (leafOf s e)) es).length = 32
    exact chainOf_len s _ (linkOf_len _ _ _) es
theorem chainOf_step (s : Int) (b : Text) (es : List Text) (i : Nat) (e : Text) (h : es[i]? = some e) : chainOf s b (es.take (i + 1)) = linkOf s (chainOf s b (es.take i)) (leafOf s e) := by
  unfold chainOf
  rw [List.take_add_one, h, List.foldl_append]
  rfl
theorem chainOf_append (s : Int) (b : Text) (xs ys : List Text) : chainOf s b (xs ++ ys) = chainOf s (chainOf s b xs) ys := by
  unfold chainOf
  rw [List.foldl_append]

end Go.Proofs.YtgldkfaiofkhbaaDoor.Chain

namespace Go.Proofs.YtgldkfaiofkhbaaDoor.TreeMem
open Go Go.RowKit Go.Proofs.YtgldkfaiofkhbaaDoor Go.Proofs.YtgldkfaiofkhbaaDoor.Mem Go.Proofs.YtgldkfaiofkhbaaDoor.Sha Go.Proofs.YtgldkfaiofkhbaaDoor.ShaWalk Go.Proofs.YtgldkfaiofkhbaaDoor.Bytes Go.Proofs.YtgldkfaiofkhbaaDoor.HashMem Go.Proofs.YtgldkfaiofkhbaaDoor.DigestMem Go.Proofs.YtgldkfaiofkhbaaDoor.DigestTop Go.Proofs.YtgldkfaiofkhbaaDoor.RefTop Go.Proofs.YtgldkfaiofkhbaaDoor.QuietTail Go.Proofs.YtgldkfaiofkhbaaDoor.Grown Go.Proofs.YtgldkfaiofkhbaaDoor.Chain Go.Proofs.YtgldkfaiofkhbaaDoor.TreeMath Go.Proofs.YtgldkfaiofkhbaaDoor.SpotsWalk Go.Proofs.YtgldkfaiofkhbaaDoor.SpotsMath

end Go.Proofs.YtgldkfaiofkhbaaDoor.TreeMem

namespace Go.Proofs.YtgldkfaiofkhbaaDoor.TreeRoot
open Go Go.RowKit Go.Proofs.YtgldkfaiofkhbaaDoor Go.Proofs.YtgldkfaiofkhbaaDoor.Digest Go.Proofs.YtgldkfaiofkhbaaDoor.Mem Go.Proofs.YtgldkfaiofkhbaaDoor.Sha Go.Proofs.YtgldkfaiofkhbaaDoor.ShaWalk Go.Proofs.YtgldkfaiofkhbaaDoor.Bytes Go.Proofs.YtgldkfaiofkhbaaDoor.HashMem Go.Proofs.YtgldkfaiofkhbaaDoor.DigestMem Go.Proofs.YtgldkfaiofkhbaaDoor.DigestTop Go.Proofs.YtgldkfaiofkhbaaDoor.RefTop Go.Proofs.YtgldkfaiofkhbaaDoor.QuietTail Go.Proofs.YtgldkfaiofkhbaaDoor.Grown Go.Proofs.YtgldkfaiofkhbaaDoor.Chain Go.Proofs.YtgldkfaiofkhbaaDoor.TreeMath Go.Proofs.YtgldkfaiofkhbaaDoor.TreeMem

end Go.Proofs.YtgldkfaiofkhbaaDoor.TreeRoot

namespace Go.Proofs.YtgldkfaiofkhbaaDoor.TreeFold
open Go Go.RowKit Go.Proofs.YtgldkfaiofkhbaaDoor Go.Proofs.YtgldkfaiofkhbaaDoor.Digest Go.Proofs.YtgldkfaiofkhbaaDoor.Mem Go.Proofs.YtgldkfaiofkhbaaDoor.Sha Go.Proofs.YtgldkfaiofkhbaaDoor.ShaWalk Go.Proofs.YtgldkfaiofkhbaaDoor.Bytes Go.Proofs.YtgldkfaiofkhbaaDoor.HashMem Go.Proofs.YtgldkfaiofkhbaaDoor.DigestMem Go.Proofs.YtgldkfaiofkhbaaDoor.DigestTop Go.Proofs.YtgldkfaiofkhbaaDoor.RefTop Go.Proofs.YtgldkfaiofkhbaaDoor.QuietTail Go.Proofs.YtgldkfaiofkhbaaDoor.Grown Go.Proofs.YtgldkfaiofkhbaaDoor.Chain Go.Proofs.YtgldkfaiofkhbaaDoor.TreeMath Go.Proofs.YtgldkfaiofkhbaaDoor.TreeMem Go.Proofs.YtgldkfaiofkhbaaDoor.TreeRoot

end Go.Proofs.YtgldkfaiofkhbaaDoor.TreeFold

namespace Go.Proofs.YtgldkfaiofkhbaaDoor.Chain2
open Go Go.RowKit Go.Proofs.YtgldkfaiofkhbaaDoor Go.Proofs.YtgldkfaiofkhbaaDoor.Mem Go.Proofs.YtgldkfaiofkhbaaDoor.Sha Go.Proofs.YtgldkfaiofkhbaaDoor.ShaWalk Go.Proofs.YtgldkfaiofkhbaaDoor.Bytes Go.Proofs.YtgldkfaiofkhbaaDoor.HashMem Go.Proofs.YtgldkfaiofkhbaaDoor.DigestMem Go.Proofs.YtgldkfaiofkhbaaDoor.DigestTop Go.Proofs.YtgldkfaiofkhbaaDoor.QuietTail Go.Proofs.YtgldkfaiofkhbaaDoor.Grown Go.Proofs.YtgldkfaiofkhbaaDoor.Chain

theorem Pieces.take_ {w : World} {A : Option Addr} {ps : List Text} (h : Pieces w A ps) (k : Nat) : Pieces w A (ps.take k) := by
  intro h0
  obtain ⟨b, o, e, hb, hc⟩ := h (by simp at h0; omega)
  refine ⟨b, o, e, hb, fun i q hq => hc i q ?_⟩
  rw [List.getElem?_take] at hq
  by_cases hi : i < k
  · rw [if_pos hi] at hq; exact hq
  · rw [if_neg hi] at hq; cases hq
theorem Pieces.drop_ {w : World} {A : Option Addr} {ps : List Text} (h : Pieces w A ps) (k c : Nat) (hc : ps.length ≤ c) : Pieces w (cutA A k c) (ps.drop k) := by
  intro h0
  rw [List.length_drop] at h0
  obtain ⟨b, o, e, hb, hcs⟩ := h (by omega)
  subst e
  refine ⟨b, o + k, ?_, hb, fun i q hq => ?_⟩
  · unfold cutA
    rw [if_neg (by omega), Option.map_some, add_at]
  · rw [List.getElem?_drop] at hq
    obtain ⟨Ai, ci, h1, h2⟩ := hcs (k + i) q hq
    exact ⟨Ai, ci, by rw [Nat.add_assoc]; exact h1, h2⟩

theorem ret_int {k : IntKind} {a b : Int} (h : a = b) : Ending.returned (.int k a) = .returned (.int k b) := by rw [h]
theorem tmod_fix (x m : Int) (hm : 0 < m) : (x.tmod m < 0 → x.tmod m + m = x % m) ∧ (0 ≤ x.tmod m → x.tmod m = x % m) := by
  have h := Int.tmod_eq_emod (a := x) (b := m)
  have h1 := Int.emod_nonneg x (show m ≠ 0 by omega)
  have h2 := Int.emod_lt_of_pos x hm
  have hn : ((m.natAbs : Nat) : Int) = m := by omega
  by_cases hc : 0 ≤ x ∨ m ∣ x
  · rw [if_pos hc] at h
    refine ⟨fun hh => by omega, fun _ => by omega⟩
  · rw [if_neg hc] at h
    refine ⟨fun _ => by omega, fun hh => by omega⟩

set_option maxRecDepth 100000 in
set_option maxHeartbeats 1000000 in
theorem within_any (x : Int) (n : Nat) (hn : n < 140737488355328) (w : World) :
    Calls Tryd.prog 39 #[.int .i64 x, .int .i64 0, .int .i64 (n : Int)] w fun e w' => e = .returned (.int .i64 (x % ((n : Int) + 1))) ∧ w = w' := by
  have h := tmod_fix x ((n : Int) + 1) (by omega)
  have h1 := Int.emod_nonneg x (show (n : Int) + 1 ≠ 0 by omega)
  have h2 := Int.emod_lt_of_pos x (show (0 : Int) < (n : Int) + 1 by omega)
  have h3 : -((n : Int) + 1) ≤ x.tmod ((n : Int) + 1) := by
    rcases Int.lt_or_le (x.tmod ((n : Int) + 1)) 0 with hh | hh
    · have := h.1 hh; omega
    · omega
  have h4 : x.tmod ((n : Int) + 1) < (n : Int) + 1 := by
    rcases Int.lt_or_le (x.tmod ((n : Int) + 1)) 0 with hh | hh
    · omega
    · have := h.2 hh; omega
  have hy : Hid ((x.tmod ((n : Int) + 1) < 0 → x.tmod ((n : Int) + 1) + ((n : Int) + 1) = x % ((n : Int) + 1)) ∧ (0 ≤ x.tmod ((n : Int) + 1) → x.tmod ((n : Int) + 1) = x % ((n : Int) + 1))) := h
  clear h
  have k0 : (n : Int) + 1 ≠ 0 := by omega
  have k1 : (((n : Int) + 1) == 0) = false := by simp; omega
  have k2 : (((n : Int) + 1) == -1) = false := by simp; omega
  by_cases hneg : x.tmod ((n : Int) + 1) < 0
  · go_enter Tryd.func39, Tryd.ntmps39
    go_wp2_with fail
    go_ret
    have := hy.out.1 hneg
    exact ⟨ret_int (by omega), rfl⟩
  · go_enter Tryd.func39, Tryd.ntmps39
    go_wp2_with fail
    go_ret
    have := hy.out.2 (by omega)
    exact ⟨ret_int (by omega), rfl⟩

end Go.Proofs.YtgldkfaiofkhbaaDoor.Chain2
