/-
  Rows of digests in memory: parts of them, one of them; tree.left, walked.
-/
import Derived.Test.YtngieimjlkpkaaaDoorTreeMath
import Derived.Test.YtngieimjlkpkaaaDoorSpotsWalk
import Derived.Test.YtngieimjlkpkaaaDoorChain
import Derived.Test.YtngieimjlkpkaaaDoorDigEq
namespace Go.Proofs.YtngieimjlkpkaaaDoor.TreeMem
open Go Go.RowKit Go.Proofs.YtngieimjlkpkaaaDoor Go.Proofs.YtngieimjlkpkaaaDoor.Mem Go.Proofs.YtngieimjlkpkaaaDoor.Sha Go.Proofs.YtngieimjlkpkaaaDoor.ShaWalk Go.Proofs.YtngieimjlkpkaaaDoor.Bytes Go.Proofs.YtngieimjlkpkaaaDoor.HashMem Go.Proofs.YtngieimjlkpkaaaDoor.DigestMem Go.Proofs.YtngieimjlkpkaaaDoor.DigestTop Go.Proofs.YtngieimjlkpkaaaDoor.RefTop Go.Proofs.YtngieimjlkpkaaaDoor.QuietTail Go.Proofs.YtngieimjlkpkaaaDoor.Grown Go.Proofs.YtngieimjlkpkaaaDoor.Chain Go.Proofs.YtngieimjlkpkaaaDoor.TreeMath Go.Proofs.YtngieimjlkpkaaaDoor.SpotsWalk Go.Proofs.YtngieimjlkpkaaaDoor.SpotsMath

/-- Each is 32 bytes long. -/
def Digs (ds : List Text) : Prop := ∀ d ∈ ds, d.length = 32
theorem Digs.take_ {ds : List Text} (h : Digs ds) (k : Nat) : Digs (ds.take k) := fun d hd => h d (List.mem_of_mem_take hd)
theorem Digs.drop_ {ds : List Text} (h : Digs ds) (k : Nat) : Digs (ds.drop k) := fun d hd => h d (List.mem_of_mem_drop hd)
theorem Digs.at_ {ds : List Text} (h : Digs ds) {i : Nat} {d : Text} (hi : ds[i]? = some d) : d.length = 32 := h d (List.mem_of_getElem? hi)
theorem Digs.append_ {xs ys : List Text} (h : Digs xs) (k : Digs ys) : Digs (xs ++ ys) := fun d hd => by
  rcases List.mem_append.1 hd with x | x
  · exact h d x
  · exact k d x
theorem Digs.one {d : Text} (h : d.length = 32) : Digs [d] := fun x hx => by simp only [List.mem_singleton] at hx; rw [hx, h]
/-- A slice of digests in memory. -/
def RdD (w : World) (A : Option Addr) (n : Nat) (ds : List Text) : Prop := ds.length = n ∧ Digs ds ∧ Reads w 32 A n (ds.flatMap cells8)
section
variable {w w' : World} {A : Option Addr} {n : Nat} {ds : List Text}
theorem RdD.below (h : RdD w A n ds) (hb : Below w.heap.size w w') : RdD w' A n ds := ⟨h.1, h.2.1, h.2.2.below hb⟩
theorem RdD.drewN (h : RdD w A n ds) (k : Nat) : RdD (w.drewN k) A n ds := ⟨h.1, h.2.1, h.2.2.drewN k⟩
theorem RdD.nil_ (w : World) (A : Option Addr) : RdD w A 0 [] := ⟨rfl, (fun _ h => by cases h), Reads.nil_ _ _ _⟩
/-- One of the digests, as cells. -/
theorem RdD.at_ (h : RdD w A n ds) {i : Nat} {d : Text} (hi : ds[i]? = some d) : ∃ b o, A = some ⟨b, o, none⟩ ∧ b < w.heap.size ∧ ∀ j v, (cells8 d)[j]? = some v → w.cell? ⟨b, o + i * 32 + j, none⟩ = some v := by
  have hin : i < ds.length := (List.getElem?_eq_some_iff.1 hi).1
  obtain ⟨b, o, e, hb, hc⟩ := h.2.2.2 (by have := h.1; omega)
  refine ⟨b, o, e, hb, fun j v hv => ?_⟩
  rw [Nat.add_assoc]
  exact hc _ v (by have := digs_at ds h.2.1 i d hi j v hv; first | exact this | (rw [Nat.mul_comm 32 i] at this; exact this))
theorem flatMap_take : ∀ (ds : List Text) (k : Nat), Digs ds → (ds.flatMap cells8).take (k * 32) = (ds.take k).flatMap cells8
  | [], k, _ => by simp
  | d :: ds, 0, _ => by simp
  | d :: ds, k + 1, h => by
    have h1 := flatMap_take ds k (fun x hx => h x (List.mem_cons_of_mem _ hx))
    have h2 : (cells8 d).length = 32 := by rw [cells8_len]; exact h d (List.mem_cons_self ..)
    simp only [List.flatMap_cons, List.take_succ_cons]
    rw [List.take_append, h2, List.take_of_length_le (by omega), show (k + 1) * 32 - 32 = k * 32 by omega, h1]
theorem flatMap_drop : ∀ (ds : List Text) (k : Nat), Digs ds → (ds.flatMap cells8).drop (k * 32) = (ds.drop k).flatMap cells8
  | [], k, _ => by simp
  | d :: ds, 0, _ => by simp
  | d :: ds, k + 1, h => by
    have h1 := flatMap_drop ds k (fun x hx => h x (List.mem_cons_of_mem _ hx))
    have h2 : (cells8 d).length = 32 := by rw [cells8_len]; exact h d (List.mem_cons_self ..)
    simp only [List.flatMap_cons, List.drop_succ_cons]
    rw [List.drop_append, h2, List.drop_of_length_le (by omega), show (k + 1) * 32 - 32 = k * 32 by omega, h1, List.nil_append]
theorem flatMap_len (ds : List Text) (h : Digs ds) : (ds.flatMap cells8).length = ds.length * 32 := by rw [(digs_len ds h).2, Nat.mul_comm]
theorem RdD.take_ (h : RdD w A n ds) (k : Nat) (hk : k ≤ n) : RdD w A k (ds.take k) := by
  have hl := h.1
  refine ⟨by rw [List.length_take]; omega, h.2.1.take_ k, ?_⟩
  refine ⟨by rw [flatMap_len _ (h.2.1.take_ k), List.length_take]; congr 1; omega, fun h0 => ?_⟩
  obtain ⟨b, o, e, hb, hc⟩ := h.2.2.2 (by omega)
  refine ⟨b, o, e, hb, fun j u hu => hc j u ?_⟩
  rw [← flatMap_take ds k h.2.1, List.getElem?_take] at hu
  by_cases hj : j < k * 32
  · rw [if_pos hj] at hu; exact hu
  · rw [if_neg hj] at hu; cases hu
/-- Where the rest behind the first k of a row of digests lies. -/
def cutD (A : Option Addr) (k c : Nat) : Option Addr := if c = k then A else A.map (·.add (k * 32))
theorem RdD.drop_ (h : RdD w A n ds) (k c : Nat) (hk : k ≤ n) (hc : n ≤ c) : RdD w (cutD A k c) (n - k) (ds.drop k) := by
  have hl := h.1
  refine ⟨by rw [List.length_drop]; omega, h.2.1.drop_ k, ?_⟩
  refine ⟨by rw [flatMap_len _ (h.2.1.drop_ k), List.length_drop]; congr 1; omega, fun h0 => ?_⟩
  obtain ⟨b, o, e, hb, hcs⟩ := h.2.2.2 (by omega)
  subst e
  refine ⟨b, o + k * 32, by unfold cutD; rw [if_neg (by omega), Option.map_some, add_at], hb, fun j u hu => ?_⟩
  rw [Nat.add_assoc]
  apply hcs
  rw [← flatMap_drop ds k h.2.1, List.getElem?_drop] at hu
  exact hu
end
theorem size32s (w : World) : (sizeOf (Tryd.prog.elem 41)).run Tryd.prog w = .ok 32 w := by kernel_rfl
theorem undD : Tryd.prog.underlying 41 = some (.slice (Tryd.prog.elem 41)) := by kernel_rfl
theorem run_headD {A : Option Addr} {n c k : Nat} (hk : k ≤ c) (x : Int) (hx : x = k) (w : World) :
    (Instr.sliceAt 41 (.slice A n c) none (some (.int .i64 x)) none).run Tryd.prog w = .ok (.slice A k c) w := by
  subst hx
  rw [run_sliceAt_slice w _ _ _ _ _ undD, run_slice_h w _ A n c undD .i64 (k : Int) (by omega) (by omega), size32s]
  simp only [Result.andThen, sliced, Int.toNat_natCast, Nat.zero_mul, Nat.sub_zero]
  cases A with
  | none => simp
  | some a => simp [add_zero]
theorem run_tailD {A : Option Addr} {n c k : Nat} (hk : k ≤ n) (x : Int) (hx : x = k) (w : World) :
    (Instr.sliceAt 41 (.slice A n c) (some (.int .i64 x)) none none).run Tryd.prog w = .ok (.slice (cutD A k c) (n - k) (c - k)) w := by
  subst hx
  rw [run_sliceAt_slice w _ _ _ _ _ undD, run_slice_l w _ A n c undD .i64 (k : Int) (by omega) (by omega), size32s]
  simp [Result.andThen, sliced, cutD]

theorem LB_log (n : Nat) (h : 2 ≤ n) (h64 : n < 18446744073709551616) : LB ((n : Int) - 1) = (Nat.log2 (n - 1) : Int) + 1 := by
  unfold LB
  rw [show ((n : Int) - 1).toNat = n - 1 by omega]
  obtain ⟨q1, q2, q3⟩ := bitLen_bounds (n := n - 1) (by omega) (by have h64' : (2 : Nat) ^ 64 = 18446744073709551616 := by decide
                                                                   omega)
  have : Nat.log2 (n - 1) = Lib.bitLen (n - 1) - 1 := (Nat.log2_eq_iff (by omega)).2 ⟨q2, by rw [show Lib.bitLen (n - 1) - 1 + 1 = Lib.bitLen (n - 1) by omega]; exact q3⟩
  omega

set_option maxRecDepth 100000 in
set_option maxHeartbeats 1000000 in
theorem left_any (n : Nat) (h2 : 2 ≤ n) (hn : n < 140737488355328) (w : World) :
    Calls Tryd.prog 52 #[.int .i64 (n : Int)] w fun e w' => e = .returned (.int .i64 (half n : Nat)) ∧ w = w' := by
  obtain ⟨m, hm⟩ : ∃ m, Hid (Nat.log2 (n - 1) = m) := ⟨_, Lib.hid rfl⟩
  obtain ⟨p, hp⟩ : ∃ p, Hid (half n = p) := ⟨_, Lib.hid rfl⟩
  have hlt := half_lt h2
  have e1 := LB_log n h2 (by omega)
  rw [hm.out] at e1
  have e2 : wrap64 ((2 : Int) ^ m) = (p : Int) := by
    have : ((2 : Int) ^ m) = (p : Int) := by rw [← hp.out, half, hm.out]; simp
    rw [this]
    rw [hp.out] at hlt
    exact IntWalk.wrap64_in _ (by omega)
  have hm47 : (m : Int) < 47 := by
    have : m < 47 := by
      rw [← hm.out]
      exact (Nat.log2_lt (by omega)).2 (by have h47 : (2 : Nat) ^ 47 = 140737488355328 := by decide
                                           omega)
    omega
  have y0 : (2 : Int) ≤ (n : Int) := by omega
  have y1 : (n : Int) < 140737488355328 := by omega
  have y2 : IntKind.u64.wrap ((n : Int) - 1) = (n : Int) - 1 := u64_in _ (by omega) (by omega)
  rw [hp.out]
  clear hlt h2 hn
  go_enter Tryd.func52, Tryd.ntmps52
  go_wp2_with (go_at_call 42; refine (len_any ((n : Int) - 1) _ (by omega) (by omega)).mono ?_; rw [e1]; rintro e w1 ⟨rfl, rfl⟩)
  go_ret
  refine ⟨?_, rfl⟩
  show Ending.returned (.int .i64 (wrap64 (2 ^ m))) = _
  rw [e2]
end Go.Proofs.YtngieimjlkpkaaaDoor.TreeMem
