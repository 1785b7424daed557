/-
  Rows of digests in memory: parts of them, one of them; a digest's cells fit their block.
-/
import Derived.Test.YtngieimjlkpkaaaBytes
namespace Go.Proofs.Ytngieimjlkpkaaa.TreeMem
open Go Go.RowKit Go.Proofs.Ytngieimjlkpkaaa Go.Proofs.Ytngieimjlkpkaaa.Mem Go.Proofs.Ytngieimjlkpkaaa.Sha Go.Proofs.Ytngieimjlkpkaaa.Bytes

/-- Each is 32 bytes long. -/
def Digs (ds : List Text) : Prop := ∀ d ∈ ds, d.length = 32
theorem Digs.take_ {ds : List Text} (h : Digs ds) (k : Nat) : Digs (ds.take k) := fun d hd => h d (List.mem_of_mem_take hd)
theorem Digs.drop_ {ds : List Text} (h : Digs ds) (k : Nat) : Digs (ds.drop k) := fun d hd => h d (List.mem_of_mem_drop hd)
theorem Digs.at_ {ds : List Text} (h : Digs ds) {i : Nat} {d : Text} (hi : ds[i]? = some d) : d.length = 32 := h d (List.mem_of_getElem? hi)
theorem Digs.append_ {xs ys : List Text} (h : Digs xs) (k : Digs ys) : Digs (xs ++ ys) := fun d hd => by
  rcases List.mem_append.1 hd with x | x
  · exact h d x
  · exact k d x
theorem Digs.one {d : Text} (h : d.length = 32) : Digs [d] := fun x hx => by simp only [List.mem_singleton] at hx; rw [hx, h]
/-- A slice of digests in memory. -/
def RdD (w : World) (A : Option Addr) (n : Nat) (ds : List Text) : Prop := ds.length = n ∧ Digs ds ∧ Reads w 32 A n (ds.flatMap cells8)
section
variable {w w' : World} {A : Option Addr} {n : Nat} {ds : List Text}
theorem RdD.below (h : RdD w A n ds) (hb : Below w.heap.size w w') : RdD w' A n ds := ⟨h.1, h.2.1, h.2.2.below hb⟩
theorem RdD.drewN (h : RdD w A n ds) (k : Nat) : RdD (w.drewN k) A n ds := ⟨h.1, h.2.1, h.2.2.drewN k⟩
theorem RdD.nil_ (w : World) (A : Option Addr) : RdD w A 0 [] := ⟨rfl, (fun _ h => by cases h), Reads.nil_ _ _ _⟩
/-- One of the digests, as cells. -/
theorem RdD.at_ (h : RdD w A n ds) {i : Nat} {d : Text} (hi : ds[i]? = some d) : ∃ b o, A = some ⟨b, o, none⟩ ∧ b < w.heap.size ∧ ∀ j v, (cells8 d)[j]? = some v → w.cell? ⟨b, o + i * 32 + j, none⟩ = some v := by
  have hin : i < ds.length := (List.getElem?_eq_some_iff.1 hi).1
  obtain ⟨b, o, e, hb, hc⟩ := h.2.2.2 (by have := h.1; omega)
  refine ⟨b, o, e, hb, fun j v hv => ?_⟩
  rw [Nat.add_assoc]
  exact hc _ v (by have := digs_at ds h.2.1 i d hi j v hv; first | exact this | (rw [Nat.mul_comm 32 i] at this; exact this))
theorem flatMap_take : ∀ (ds : List Text) (k : Nat), Digs ds → (ds.flatMap cells8).take (k * 32) = (ds.take k).flatMap cells8
  | [], k, _ => by simp
  | d :: ds, 0, _ => by simp
  | d :: ds, k + 1, h => by
    have h1 := flatMap_take ds k (fun x hx => h x (List.mem_cons_of_mem _ hx))
    have h2 : (cells8 d).length = 32 := by rw [cells8_len]; exact h d (List.mem_cons_self ..)
    simp only [List.flatMap_cons, List.take_succ_cons]
    rw [List.take_append, h2, List.take_of_length_le (by omega), show (k + 1) * 32 - 32 = k * 32 by omega, h1]
theorem flatMap_drop : ∀ (ds : List Text) (k : Nat), Digs ds → (ds.flatMap cells8).drop (k * 32) = (ds.drop k).flatMap cells8
  | [], k, _ => by simp
  | d :: ds, 0, _ => by simp
  | d :: ds, k + 1, h => by
    have h1 := flatMap_drop ds k (fun x hx => h x (List.mem_cons_of_mem _ hx))
    have h2 : (cells8 d).length = 32 := by rw [cells8_len]; exact h d (List.mem_cons_self ..)
    simp only [List.flatMap_cons, List.drop_succ_cons]
    rw [List.drop_append, h2, List.drop_of_length_le (by omega), show (k + 1) * 32 - 32 = k * 32 by omega, h1, List.nil_append]
theorem flatMap_len (ds : List Text) (h : Digs ds) : (ds.flatMap cells8).length = ds.length * 32 := by rw [(digs_len ds h).2, Nat.mul_comm]
theorem RdD.take_ (h : RdD w A n ds) (k : Nat) (hk : k ≤ n) : RdD w A k (ds.take k) := by
  have hl := h.1
  refine ⟨by rw [List.length_take]; omega, h.2.1.take_ k, ?_⟩
  refine ⟨by rw [flatMap_len _ (h.2.1.take_ k), List.length_take]; congr 1; omega, fun h0 => ?_⟩
  obtain ⟨b, o, e, hb, hc⟩ := h.2.2.2 (by omega)
  refine ⟨b, o, e, hb, fun j u hu => hc j u ?_⟩
  rw [← flatMap_take ds k h.2.1, List.getElem?_take] at hu
  by_cases hj : j < k * 32
  · rw [if_pos hj] at hu; exact hu
  · rw [if_neg hj] at hu; cases hu
/-- Where the rest behind the first k of a row of digests lies. -/
def cutD (A : Option Addr) (k c : Nat) : Option Addr := if c = k then A else A.map (·.add (k * 32))
theorem RdD.drop_ (h : RdD w A n ds) (k c : Nat) (hk : k ≤ n) (hc : n ≤ c) : RdD w (cutD A k c) (n - k) (ds.drop k) := by
  have hl := h.1
  refine ⟨by rw [List.length_drop]; omega, h.2.1.drop_ k, ?_⟩
  refine ⟨by rw [flatMap_len _ (h.2.1.drop_ k), List.length_drop]; congr 1; omega, fun h0 => ?_⟩
  obtain ⟨b, o, e, hb, hcs⟩ := h.2.2.2 (by omega)
  subst e
  refine ⟨b, o + k * 32, by unfold cutD; rw [if_neg (by omega), Option.map_some, add_at], hb, fun j u hu => ?_⟩
  rw [Nat.add_assoc]
  apply hcs
  rw [← flatMap_drop ds k h.2.1, List.getElem?_drop] at hu
  exact hu
end
theorem size32s (w : World) : (sizeOf (Try.prog.elem 32)).run Try.prog w = .ok 32 w := by kernel_rfl
theorem undD : Try.prog.underlying 32 = some (.slice (Try.prog.elem 32)) := by kernel_rfl
theorem run_headD {A : Option Addr} {n c k : Nat} (hk : k ≤ c) (x : Int) (hx : x = k) (w : World) :
    (Instr.sliceAt 32 (.slice A n c) none (some (.int .i64 x)) none).run Try.prog w = .ok (.slice A k c) w := by
  subst hx
  rw [run_sliceAt_slice w _ _ _ _ _ undD, run_slice_h w _ A n c undD .i64 (k : Int) (by omega) (by omega), size32s]
  simp only [Result.andThen, sliced, Int.toNat_natCast, Nat.zero_mul, Nat.sub_zero]
  cases A with
  | none => simp
  | some a => simp [add_zero]
theorem run_tailD {A : Option Addr} {n c k : Nat} (hk : k ≤ n) (x : Int) (hx : x = k) (w : World) :
    (Instr.sliceAt 32 (.slice A n c) (some (.int .i64 x)) none none).run Try.prog w = .ok (.slice (cutD A k c) (n - k) (c - k)) w := by
  subst hx
  rw [run_sliceAt_slice w _ _ _ _ _ undD, run_slice_l w _ A n c undD .i64 (k : Int) (by omega) (by omega), size32s]
  simp [Result.andThen, sliced, cutD]
end Go.Proofs.Ytngieimjlkpkaaa.TreeMem
namespace Go.Proofs.Ytngieimjlkpkaaa.TreeRoot
open Go Go.RowKit Go.Proofs.Ytngieimjlkpkaaa Go.Proofs.Ytngieimjlkpkaaa.Mem Go.Proofs.Ytngieimjlkpkaaa.Sha Go.Proofs.Ytngieimjlkpkaaa.Bytes Go.Proofs.Ytngieimjlkpkaaa.TreeMem

theorem fit_size (x : Text) (hx : x.length = 32) : (Try.prog.info? 28).map (·.size) = some (cells8 x).toArray.size := size31.trans (congrArg some (by simp [cells8_len, hx]))
theorem fit_one (x : Text) : (cells8 x).toArray.all (fun v => v.oneCell') = true := by rw [List.all_toArray]; exact List.all_eq_true.2 (cells8_one x)
structure Fit (x : Text) : Prop where
  size : (Try.prog.info? 28).map (·.size) = some (cells8 x).toArray.size
  same : ∀ y : Text, y.length = 32 → (cells8 y).toArray.size = (cells8 x).toArray.size
  zero : (Z32 : Array Value).size = (cells8 x).toArray.size
  one : ((cells8 x).toArray.all fun v => v.oneCell') = true
  part : (Try.prog.info? 28).map (·.size) = some (cells8 x).length
theorem fit {x : Text} (h : x.length = 32) : Fit x := ⟨fit_size x h, fun y hy => by simp [cells8_len, h, hy], by simp [cells8_len, h, Z32], fit_one x, by rw [cells8_len, h]; exact size31⟩
end Go.Proofs.Ytngieimjlkpkaaa.TreeRoot
