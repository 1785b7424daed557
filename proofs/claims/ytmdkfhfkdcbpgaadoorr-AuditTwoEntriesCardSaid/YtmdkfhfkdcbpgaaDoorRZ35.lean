/-
  Texts of the claim, put into one file: SparseP, SpMem, Formed, LeadM, Lead, SparseMeet.
-/
import Derived.Test.YtmdkfhfkdcbpgaaDoorRZ34
import Derived.Test.YtmdkfhfkdcbpgaaDoorRZ15
import Derived.Test.YtmdkfhfkdcbpgaaDoorRZ5
import Derived.Test.YtmdkfhfkdcbpgaaDoorRZ3
import Derived.Test.YtmdkfhfkdcbpgaaDoorRZ8
import Derived.Test.YtmdkfhfkdcbpgaaDoorRZ12

namespace Go.Proofs.YtmdkfhfkdcbpgaaDoorR.SparseP
open Go Go.RowKit Go.Proofs.YtmdkfhfkdcbpgaaDoorR Mem Sha Bytes TreeMem ProofIdx IdxAny TwiceP DigestMem Octet

def brOf (s : Int) (a b : Text) : Text := sumOf s (kb 4 :: (a ++ b))
theorem brOf_len (s : Int) (a b : Text) : (brOf s a b).length = 32 := sumOf_len _ _
def emp (s : Int) : Nat → Text
 | 0 => sumOf s [kb 5]
 | h + 1 => brOf s (emp s h) (emp s h)
theorem emp_len (s : Int) : ∀ h, (emp s h).length = 32
 | 0 => sumOf_len _ _
 | _ + 1 => brOf_len _ _ _
def emps (s : Int) (n : Nat) : List Text := (List.range n).map (emp s)
theorem emps_len (s : Int) (n : Nat) : (emps s n).length = n := by simp [emps]
theorem emps_succ (s : Int) (n : Nat) : emps s (n + 1) = emps s n ++ [emp s n] := by unfold emps; rw [List.range_succ, List.map_append]; rfl
theorem emps_at (s : Int) {n i : Nat} (h : i < n) : (emps s n)[i]? = some (emp s i) := by unfold emps; rw [List.getElem?_map, List.getElem?_range h]; rfl
theorem emps_digs (s : Int) (n : Nat) : Digs (emps s n) := fun d hd => by
 unfold emps at hd
 obtain ⟨i, -, rfl⟩ := List.mem_map.1 hd
 exact emp_len s i
def hbit (d : Text) (h : Nat) : Bool := (d.getD (h / 8) 0).toNat / 2 ^ (h % 8) % 2 == 1
def kbit (k : Text) (i : Nat) : Nat := (k.getD (i / 8) 0).toNat / 2 ^ (7 - i % 8) % 2
def nbits (d : Text) : Nat → Nat
 | 0 => 0
 | h + 1 => nbits d h + (if hbit d h then 1 else 0)
theorem nbits_le (d : Text) : ∀ h, nbits d h ≤ h
 | 0 => Nat.le_refl _
 | h + 1 => by
  have := nbits_le d h
  show nbits d h + _ ≤ h + 1
  split <;> omega
theorem nbits_mono (d : Text) {a b : Nat} (h : a ≤ b) : nbits d a ≤ nbits d b := by
 induction b with
 | zero => rw [Nat.le_zero.1 h]; exact Nat.le_refl _
 | succ b ih =>
  rcases Nat.lt_or_ge a (b + 1) with h1 | h1
  ·exact Nat.le_trans (ih (by omega)) (Nat.le_add_right _ _)
  ·have : a = b + 1 := by omega
   rw [this]
   exact Nat.le_refl _
theorem nbits_lt (d : Text) {h n : Nat} (hh : hbit d h = true) (hn : h < n) : nbits d h < nbits d n := by
 have := nbits_mono d (show h + 1 ≤ n from hn)
 have e : nbits d (h + 1) = nbits d h + 1 := by show nbits d h + _ = _; rw [hh]; rfl
 omega
def b8F (b : Fin 256) : Nat := (b.val / 2 ^ 0 % 2) + (b.val / 2 ^ 1 % 2) + (b.val / 2 ^ 2 % 2) + (b.val / 2 ^ 3 % 2) + (b.val / 2 ^ 4 % 2) + (b.val / 2 ^ 5 % 2) + (b.val / 2 ^ 6 % 2) + (b.val / 2 ^ 7 % 2)
theorem b8F_ones : ∀ b : Fin 256, Lib.onesCount b.val = b8F b := by decide +kernel
theorem bit01 (x : Nat) : (if (x % 2 == 1) = true then 1 else 0) = x % 2 := by
 rcases Nat.mod_two_eq_zero_or_one x with h | h <;> rw [h] <;> rfl
theorem nbits_step (d : Text) (k j : Nat) (hj : j < 8) : nbits d (8 * k + j + 1) = nbits d (8 * k + j) + (d.getD k 0).toNat / 2 ^ j % 2 := by
 show nbits d (8 * k + j) + (if hbit d (8 * k + j) = true then 1 else 0) = _
 unfold hbit
 rw [show (8 * k + j) / 8 = k by omega, show (8 * k + j) % 8 = j by omega, bit01]
theorem nbits_eight (N : Nat → Nat) (m : Nat) (a : Nat → Nat) (h : ∀ j, j < 8 → N (m + j + 1) = N (m + j) + a j) : N (m + 8) = N m + (a 0 + a 1 + a 2 + a 3 + a 4 + a 5 + a 6 + a 7) := by
 have e0 : N (m + 1) = N m + a 0 := h 0 (by omega)
 have e1 : N (m + 2) = N (m + 1) + a 1 := h 1 (by omega)
 have e2 : N (m + 3) = N (m + 2) + a 2 := h 2 (by omega)
 have e3 : N (m + 4) = N (m + 3) + a 3 := h 3 (by omega)
 have e4 : N (m + 5) = N (m + 4) + a 4 := h 4 (by omega)
 have e5 : N (m + 6) = N (m + 5) + a 5 := h 5 (by omega)
 have e6 : N (m + 7) = N (m + 6) + a 6 := h 6 (by omega)
 have e7 : N (m + 8) = N (m + 7) + a 7 := h 7 (by omega)
 omega
theorem nbits_byte (d : Text) (k : Nat) : nbits d (8 * (k + 1)) = nbits d (8 * k) + Lib.onesCount (d.getD k 0).toNat := by
 have h := b8F_ones ⟨(d.getD k 0).toNat, (d.getD k 0).isLt⟩
 have g := nbits_eight (nbits d) (8 * k) (fun j => (d.getD k 0).toNat / 2 ^ j % 2) (nbits_step d k)
 exact (congrArg (nbits d) (show 8 * (k + 1) = 8 * k + 8 by omega)).trans (g.trans (congrArg (nbits d (8 * k) + ·) h.symm))
theorem nbits_ones (d : Text) : ∀ k, k ≤ d.length → nbits d (8 * k) = onesOf (d.take k)
 | 0, _ => rfl
 | k + 1, h => by
  have hk : d[k]? = some (d.getD k 0) := by rw [List.getD_eq_getElem?_getD, List.getElem?_eq_getElem (show k < d.length by omega)]; rfl
  rw [nbits_byte, nbits_ones d k (by omega), onesOf_step d k _ hk]
theorem nbits_all (d : Text) (h : d.length = 32) : nbits d 256 = onesOf d := by
 have := nbits_ones d 32 (by omega)
 rw [List.take_of_length_le (by omega)] at this
 exact this
def nbr (s : Int) (d : Text) (ds : List Text) (h : Nat) : Option Text :=
 if hbit d h then (let x := ds.getD (nbits d h) []; if x = emp s h ∨ cutTo x (clampN s) ≠ x then none else some x) else some (emp s h)
def nbrs (s : Int) (d : Text) (ds : List Text) : Nat → Option (List Text)
 | 0 => some []
 | h + 1 => match nbrs s d ds h with
  | none => none
  | some l => match nbr s d ds h with
   | none => none
   | some x => some (l ++ [x])
theorem nbrs_len {s : Int} {d : Text} {ds : List Text} : ∀ {h : Nat} {l : List Text}, nbrs s d ds h = some l → l.length = h
 | 0, l, e => by cases e; rfl
 | h + 1, l, e => by
  unfold nbrs at e
  split at e
  ·cases e
  ·rename_i l' h1
   split at e
   ·cases e
   ·cases e
    rw [List.length_append, nbrs_len h1]
    rfl
theorem nbrs_none {s : Int} {d : Text} {ds : List Text} {h : Nat} (e : nbrs s d ds h = none) : ∀ k, nbrs s d ds (h + k) = none
 | 0 => e
 | k + 1 => by
  show (match nbrs s d ds (h + k) with | none => none | some l => _) = none
  rw [nbrs_none e k]
theorem nbr_len {s : Int} {d : Text} {ds : List Text} {h : Nat} {x : Text} (hd : Digs ds) (hn : hbit d h = true → nbits d h < ds.length) (e : nbr s d ds h = some x) : x.length = 32 := by
 unfold nbr at e
 split at e
 ·rename_i hb
  dsimp only at e
  split at e
  ·cases e
  ·cases e
   have := hn hb
   rw [List.getD_eq_getElem?_getD, List.getElem?_eq_getElem this]
   exact hd _ (List.getElem_mem this)
 ·cases e
  exact emp_len s h
theorem nbrs_digs {s : Int} {d : Text} {ds : List Text} (hd : Digs ds) {m : Nat} (hm : nbits d m ≤ ds.length) : ∀ {h : Nat} {l : List Text}, h ≤ m → nbrs s d ds h = some l → Digs l
 | 0, l, _, e => by cases e; exact fun _ h => by cases h
 | h + 1, l, hh, e => by
  unfold nbrs at e
  split at e
  ·cases e
  ·rename_i l' h1
   split at e
   ·cases e
   ·rename_i x h2
    cases e
    exact (nbrs_digs hd hm (by omega) h1).append_ (Digs.one (nbr_len hd (fun hb => Nat.lt_of_lt_of_le (nbits_lt d hb (show h < m by omega)) hm) h2))
def upT (k : Text) (h : Nat) (x n : Text) : Text := kb 4 :: (if kbit k (255 - h) = 0 then x ++ n else n ++ x)
def lead (s : Int) (k t0 : Text) (l : List Text) : Nat → List Text × Text
 | 0 => ([t0], sumOf s t0)
 | h + 1 => let p := lead s k t0 l h; let t := upT k h p.2 (l.getD h []); (p.1 ++ [t], sumOf s t)
theorem lead_len (s : Int) (k t0 : Text) (l : List Text) : ∀ h, (lead s k t0 l h).1.length = h + 1
 | 0 => rfl
 | h + 1 => by
  show (_ ++ [_]).length = _
  rw [List.length_append, lead_len s k t0 l h]
  rfl
theorem lead_dig (s : Int) (k t0 : Text) (l : List Text) : ∀ h, (lead s k t0 l h).2.length = 32
 | 0 => sumOf_len _ _
 | _ + 1 => sumOf_len _ _
def txt0 (k : Text) (f : Bool) (cnt : Int) (ch : Text) : Text := if f then kb 3 :: (k ++ (be8 cnt.toNat ++ ch)) else [kb 5]
def checkOf (s : Int) (root k : Text) (f : Bool) (cnt : Int) (ch d : Text) (ds : List Text) : Int :=
 match nbrs s d ds 256 with
 | none => 170
 | some l => if (lead s k (txt0 k f cnt ch) l 256).2 = root then 0 else 171
def climbTs (s : Int) (k : Text) (f : Bool) (cnt : Int) (ch d : Text) (ds : List Text) : List Text :=
 match nbrs s d ds 256 with
 | none => []
 | some l => (lead s k (txt0 k f cnt ch) l 256).1
def ixKey (nm : Text) : Text := sum (kb 6 :: nm)
theorem ixKey_len (nm : Text) : (ixKey nm).length = 32 := sum_len _
end Go.Proofs.YtmdkfhfkdcbpgaaDoorR.SparseP

namespace Go.Proofs.YtmdkfhfkdcbpgaaDoorR.SpMem
open Go Go.RowKit Go.Proofs.YtmdkfhfkdcbpgaaDoorR Mem Sha Bytes ProofIdx ProofIdx3 StructEq IdxAny SparseP

def spCells (f : Bool) (ent : List Value) (d : Text) (A : Option Addr) (n c : Nat) : List Value := [.bool f] ++ ent ++ cells8 d ++ [.slice A n c]
section
variable {f : Bool} {ent : List Value} {d : Text} {A : Option Addr} {n c : Nat}
theorem sp_found : (spCells f ent d A n c)[0]? = some (.bool f) := rfl
theorem sp_ent (j : Nat) (v : Value) (hv : ent[j]? = some v) : (spCells f ent d A n c)[1 + j]? = some v := by
 have hj : j < ent.length := (List.getElem?_eq_some_iff.1 hv).1
 unfold spCells
 rw [List.append_assoc, List.append_assoc, List.getElem?_append_right (by simp), show 1 + j - [Value.bool f].length = j by simp, List.getElem?_append_left hj]
 exact hv
theorem sp_bits (he : ent.length = 33) (j : Nat) (v : Value) (hv : (cells8 d)[j]? = some v) : (spCells f ent d A n c)[34 + j]? = some v := by
 have hj : j < (cells8 d).length := (List.getElem?_eq_some_iff.1 hv).1
 unfold spCells
 rw [List.append_assoc, List.getElem?_append_right (by simp [he]), show 34 + j - ([Value.bool f] ++ ent).length = j by simp [he], List.getElem?_append_left hj]
 exact hv
theorem sp_sums (he : ent.length = 33) (hd : d.length = 32) : (spCells f ent d A n c)[66]? = some (.slice A n c) := by
 unfold spCells
 rw [List.getElem?_append_right (by simp [he, cells8_len, hd])]
 simp [he, cells8_len, hd]
theorem sp_len (he : ent.length = 33) (hd : d.length = 32) : (spCells f ent d A n c).length = 67 := by simp [spCells, he, cells8_len, hd]
end
structure Sp (cs : Array Value) (f : Bool) (cnt : Int) (ch d : Text) (A : Option Addr) (n c : Nat) : Prop where
 size : cs.size = 67
 found : cs[0]? = some (.bool f)
 count : cs[1]? = some (.int .i64 cnt)
 chain : ∀ j v, (cells8 ch)[j]? = some v → cs[2 + j]? = some v
 ent : ∀ j v, (entC cnt ch)[j]? = some v → cs[1 + j]? = some v
 bits : ∀ j v, (cells8 d)[j]? = some v → cs[34 + j]? = some v
 sums : cs[66]? = some (.slice A n c)
theorem Sp.of (f : Bool) (cnt : Int) {ch d : Text} (hch : ch.length = 32) (hd : d.length = 32) (A : Option Addr) (n c : Nat) : Sp (spCells f (entC cnt ch) d A n c).toArray f cnt ch d A n c where
 size := by rw [List.size_toArray, sp_len (entC_len hch) hd]
 found := by rw [List.getElem?_toArray]; exact sp_found
 count := by rw [List.getElem?_toArray]; exact sp_ent 0 _ rfl
 chain := fun j v hv => by
  rw [List.getElem?_toArray, show 2 + j = 1 + (j + 1) by omega]
  exact sp_ent (j + 1) v hv
 ent := fun j v hv => by rw [List.getElem?_toArray]; exact sp_ent j v hv
 bits := fun j v hv => by rw [List.getElem?_toArray]; exact sp_bits (entC_len hch) j v hv
 sums := by rw [List.getElem?_toArray]; exact sp_sums (entC_len hch) hd
theorem sizeSp : (Tryd.prog.info? 135).map (·.size) = some 67 := by kernel_rfl
theorem sizeEnt : (Tryd.prog.info? 68).map (·.size) = some 33 := by kernel_rfl
theorem sizeB32 : (Tryd.prog.info? 22).map (·.size) = some 32 := by kernel_rfl
def okSp (f : Bool) (cnt : Int) (ch d : Text) (n : Nat) : Bool := decide (onesOf d = n) && okEnt f cnt ch
end Go.Proofs.YtmdkfhfkdcbpgaaDoorR.SpMem

namespace Go.Proofs.YtmdkfhfkdcbpgaaDoorR.Formed
open Go Go.RowKit Go.Proofs.YtmdkfhfkdcbpgaaDoorR Mem Sha Bytes QuietTail Grown ProofIdx ProofIdx3 StructEq IdxAny SparseP SpMem Want Plain

set_option maxRecDepth 100000 in
set_option maxHeartbeats 1000000 in
theorem counted_any (cs : Array Value) (cnt : Int) (h0 : cs[0]? = some (.int .i64 cnt)) (w : World) :
  Calls Tryd.prog 172 #[.agg cs] w fun e w' => e = .returned (.bool (decide (1 ≤ cnt ∧ cnt ≤ 1099511627776))) ∧ Below w.heap.size w w' := by
 have hb0 : Hid (Below w.heap.size w (w.alloc (.cells cs 68))) := Below.heap_below w _
 have c0 : (w.alloc (.cells cs 68)).cell? ⟨w.heap.size, 0, none⟩ = some (.int .i64 cnt) := by rw [(Blk.new w _ _).cell 0]; exact h0
 clear h0
 by_cases a : 1 ≤ cnt
 ·by_cases b : cnt ≤ 1099511627776
  ·rw [decide_eq_true ⟨a, b⟩]
   go_enter Tryd.func172, Tryd.ntmps172
   go_wp2_with fail
   go_ret
   exact ⟨rfl, hb0.out⟩
  ·rw [decide_eq_false (fun h => b h.2)]
   go_enter Tryd.func172, Tryd.ntmps172
   go_wp2_with fail
   go_ret
   exact ⟨rfl, hb0.out⟩
 ·rw [decide_eq_false (fun h => a h.1)]
  go_enter Tryd.func172, Tryd.ntmps172
  go_wp2_with fail
  go_ret
  exact ⟨rfl, hb0.out⟩

set_option maxRecDepth 100000 in
set_option maxHeartbeats 1000000 in
theorem right_any (cs : Array Value) (cnt : Int) (h0 : cs[0]? = some (.int .i64 cnt)) (w : World) :
  Calls Tryd.prog 142 #[.agg cs] w fun e w' => e = .returned (.bool (decide (1 ≤ cnt ∧ cnt ≤ 1099511627776))) ∧ Below w.heap.size w w' := by
 have hb0 : Hid (Below w.heap.size w (w.alloc (.cells cs 68))) := Below.heap_below w _
 have c0 : (w.alloc (.cells cs 68)).cell? ⟨w.heap.size, 0, none⟩ = some (.int .i64 cnt) := by rw [(Blk.new w _ _).cell 0]; exact h0
 clear h0
 by_cases a : 1 ≤ cnt
 ·by_cases b : cnt ≤ 1099511627776
  ·rw [decide_eq_true ⟨a, b⟩]
   go_enter Tryd.func142, Tryd.ntmps142
   go_wp2_with fail
   go_ret
   exact ⟨rfl, hb0.out⟩
  ·rw [decide_eq_false (fun h => b h.2)]
   go_enter Tryd.func142, Tryd.ntmps142
   go_wp2_with fail
   go_ret
   exact ⟨rfl, hb0.out⟩
 ·rw [decide_eq_false (fun h => a h.1)]
  go_enter Tryd.func142, Tryd.ntmps142
  go_wp2_with fail
  go_ret
  exact ⟨rfl, hb0.out⟩

theorem bit_parts (x : BitVec 8) (r : Nat) (hr : r < 8) : ∃ V p U : Nat, x.toNat / 2 ^ r = V ∧ V % 2 = U ∧ (b8 x).tdiv (p : Int) = (V : Int) ∧ (V : Int).tmod 2 = (U : Int) ∧ (2 : Int) ^ r = (p : Int) ∧ IntKind.i64.wrap (p : Int) = (p : Int) ∧ IntKind.i64.wrap (b8 x) = b8 x ∧ wrap64 (b8 x) = b8 x ∧ ¬ p = 0 ∧ wrap64 (p : Int) = (p : Int) ∧ IntKind.i64.wrap (V : Int) = (V : Int) ∧ wrap64 (V : Int) = (V : Int) ∧ IntKind.i64.wrap (U : Int) = (U : Int) := by
 have hV : x.toNat / 2 ^ r < 256 := Nat.lt_of_le_of_lt (Nat.div_le_self _ _) x.isLt
 have hp0 : 0 < 2 ^ r := Nat.two_pow_pos r
 have hp : 2 ^ r < 256 := Nat.pow_lt_pow_right (by decide) hr
 have h1 : (b8 x).tdiv ((2 ^ r : Nat) : Int) = ((x.toNat / 2 ^ r : Nat) : Int) := by
  rw [Int.tdiv_eq_ediv_of_nonneg (b8_nonneg x)]
  unfold b8
  simp
 have h2 : (2 : Int) ^ r = ((2 ^ r : Nat) : Int) := by simp
 have hb0 := b8_nonneg x
 have hb1 := b8_lt x
 generalize x.toNat / 2 ^ r = V at *
 generalize 2 ^ r = p at *
 exact ⟨V, p, V % 2, rfl, rfl, h1, by rw [Int.tmod_eq_emod_of_nonneg (by omega)]; omega, h2, IntWalk.i64_in _ (by omega), IntWalk.i64_in _ (by omega), IntWalk.wrap64_in _ (by omega), by omega, IntWalk.wrap64_in _ (by omega), IntWalk.i64_in _ (by omega), IntWalk.wrap64_in _ (by omega), IntWalk.i64_in _ (by omega)⟩
theorem and_one : ∀ b : Fin 256, bits .and .u8 (b.val : Int) 1 = ((b.val % 2 : Nat) : Int) ∧ bits .and .i64 (b.val : Int) 1 = ((b.val % 2 : Nat) : Int) := by decide +kernel
theorem b8_div (x : BitVec 8) (m : Nat) : b8 x / 2 ^ m = ((x.toNat / 2 ^ m : Nat) : Int) := by
 unfold b8
 simp
theorem div_lt (x : BitVec 8) (m : Nat) : x.toNat / 2 ^ m < 256 := Nat.lt_of_le_of_lt (Nat.div_le_self _ _) x.isLt
set_option maxRecDepth 100000 in
set_option maxHeartbeats 1000000 in
theorem bit_any (k : Text) (hk : k.length = 32) (i : Nat) (hi : i < 256) (w : World) :
  Calls Tryd.prog 162 #[.agg (cells8 k).toArray, .int .i64 (i : Int)] w fun e w' => e = .returned (.int .i64 (kbit k i : Nat)) ∧ Below w.heap.size w w' := by
 obtain ⟨q, hq⟩ : ∃ q, i / 8 = q := ⟨_, rfl⟩
 obtain ⟨m, hm⟩ : ∃ m, i % 8 = m := ⟨_, rfl⟩
 have hq32 : q < 32 := by omega
 have hm8 : m < 8 := by omega
 obtain ⟨x, hx⟩ : ∃ x, k[q]? = some x := ⟨_, List.getElem?_eq_getElem (by omega)⟩
 have hb0 : Hid (Below w.heap.size w (w.alloc (.cells (cells8 k).toArray 23))) := Below.heap_below w _
 have c0 : (w.alloc (.cells (cells8 k).toArray 23)).cell? ⟨w.heap.size, q, none⟩ = some (.int .u8 (b8 x)) := by rw [(Blk.new w _ _).cell q, List.getElem?_toArray]; show (cells8 k)[q]? = _; unfold cells8; rw [List.getElem?_map, hx]; rfl
 obtain ⟨r, hr⟩ : ∃ r, 7 - m = r := ⟨_, rfl⟩
 obtain ⟨V, hV⟩ : ∃ V, x.toNat / 2 ^ r = V := ⟨_, rfl⟩
 have hV256 : V < 256 := by rw [← hV]; exact div_lt x r
 have e1 : (i : Int).tdiv 8 = (q : Int) := by rw [Int.tdiv_eq_ediv_of_nonneg (by omega)]; omega
 have e2 : (i : Int).tmod 8 = (m : Int) := by rw [Int.tmod_eq_emod_of_nonneg (by omega)]; omega
 have e3 : IntKind.i64.wrap (7 - (m : Int)) = (r : Int) := by rw [IntWalk.i64_in _ (by omega)]; omega
 have e4 : b8 x / 2 ^ r = (V : Int) := by rw [b8_div, hV]
 have e5 : bits .and .i64 (V : Int) 1 = ((V % 2 : Nat) : Int) := (and_one ⟨V, hV256⟩).2
 obtain ⟨U, hU⟩ : ∃ U, V % 2 = U := ⟨_, rfl⟩
 rw [hU] at e5
 have hans : kbit k i = U := by
  unfold kbit
  rw [hq, hm, hr, List.getD_eq_getElem?_getD, hx]
  show x.toNat / 2 ^ r % 2 = _
  rw [hV, hU]
 rw [hans]
 have z1 : (0 : Int) ≤ (q : Int) := by omega
 have z2 : (q : Int) < 32 := by omega
 have z3 : (r : Int) < 8 := by omega
 have z4 : (0 : Int) ≤ (r : Int) := by omega
 have z8 : IntKind.i64.wrap (q : Int) = (q : Int) := IntWalk.i64_in _ (by omega)
 have z9 : wrap64 (q : Int) = (q : Int) := IntWalk.wrap64_in _ (by omega)
 have z5 : (V : Int) < 256 := by omega
 have z6 : IntKind.i64.wrap (V : Int) = (V : Int) := IntWalk.i64_in _ (by omega)
 have z7 : wrap64 (V : Int) = (V : Int) := IntWalk.wrap64_in _ (by omega)
 have hrr : r < 8 := by omega
 clear hq hm hr hV hU hans hx hk hi
 go_enter Tryd.func162, Tryd.ntmps162
 go_wp2_with fail
 go_ret
 exact ⟨rfl, hb0.out⟩

set_option maxRecDepth 100000 in
set_option maxHeartbeats 1000000 in
theorem refbit_any (k : Text) (hk : k.length = 32) (i : Nat) (hi : i < 256) (w : World) :
  Calls Tryd.prog 144 #[.agg (cells8 k).toArray, .int .i64 (i : Int)] w fun e w' => e = .returned (.int .i64 (kbit k i : Nat)) ∧ Below w.heap.size w w' := by
 obtain ⟨q, hq⟩ : ∃ q, i / 8 = q := ⟨_, rfl⟩
 obtain ⟨m, hm⟩ : ∃ m, i % 8 = m := ⟨_, rfl⟩
 have hq32 : q < 32 := by omega
 have hm8 : m < 8 := by omega
 obtain ⟨x, hx⟩ : ∃ x, k[q]? = some x := ⟨_, List.getElem?_eq_getElem (by omega)⟩
 obtain ⟨w1, hw1⟩ : ∃ w1, Hid (w1 = w.alloc (.cells (cells8 k).toArray 23)) := ⟨_, rfl⟩
 have hb0 : Hid (Below w.heap.size w w1) := by show Below _ _ _; rw [hw1.out]; exact Below.heap_below w _
 have hlt1 : Hid (w.heap.size < w1.heap.size) := by show _ < _; rw [hw1.out]; simp
 have c0 : Hid (w1.cell? ⟨w.heap.size, q, none⟩ = some (.int .u8 (b8 x))) := by show _ = _; rw [hw1.out, (Blk.new w _ _).cell (q)]; exact (by rw [List.getElem?_toArray]; show (cells8 k)[q]? = _; unfold cells8; rw [List.getElem?_map, hx]; rfl)
 obtain ⟨r, hr⟩ : ∃ r, 7 - m = r := ⟨_, rfl⟩
 have e3 : IntKind.i64.wrap (7 - (m : Int)) = (r : Int) := by rw [IntWalk.i64_in _ (by omega)]; omega
 have hr8 : r < 8 := by omega
 have z1 : (0 : Int) ≤ (q : Int) := by omega
 have z2 : (q : Int) < 32 := by omega
 have z3 : (r : Int) < 8 := by omega
 have z4 : (0 : Int) ≤ (r : Int) := by omega
 have z8 : IntKind.i64.wrap (q : Int) = (q : Int) := IntWalk.i64_in _ (by omega)
 have z9 : wrap64 (q : Int) = (q : Int) := IntWalk.wrap64_in _ (by omega)
 have z10 : IntKind.i64.wrap (r : Int) = (r : Int) := IntWalk.i64_in _ (by omega)
 have e1 : (i : Int).tdiv 8 = (q : Int) := by rw [Int.tdiv_eq_ediv_of_nonneg (by omega)]; omega
 have e2 : (i : Int).tmod 8 = (m : Int) := by rw [Int.tmod_eq_emod_of_nonneg (by omega)]; omega
 obtain ⟨V, p, U, hV, hU, e4, e5, e6, e7, e8, e9, e10, e11, e12, e13, e14⟩ := bit_parts x r hr8
 replace hV := Lib.hid hV
 replace hU := Lib.hid hU
 have hans : kbit k i = U := by
  unfold kbit
  rw [hq, hm, hr, List.getD_eq_getElem?_getD, hx]
  show x.toNat / 2 ^ r % 2 = _
  rw [hV.out, hU.out]
 rw [hans]
 clear hans
 clear hV hU hq hi hx hr8 hm hk hr
 go_enter Tryd.func144, Tryd.ntmps144
 go_upto_region 1 with fail
 change Code.wp _ _ _ _ (w.alloc (.cells (cells8 k).toArray 23))
 rw [← hw1.out]
 have hc := Lib.hid (fun w' (h : Below w1.heap.size w1 w') => (h.cell (p := ⟨w.heap.size, q, none⟩) hlt1.out).trans c0.out)
 refine q_region (Class w1) (by kernel_rfl) (by kernel_rfl) (Class.mk_ ((Below.refl _ _).drew)) ?_
 refine q_move rfl (.tmp 1) rfl ?_
 (intro K k; go_simp; apply k; clear k K)
 refine Want.qv0 (.int .i64 (q : Int)) ?_
 (intro K k; go_simp; apply k; clear k K)
 refine Want.qv0 (.pointer (some ⟨w.heap.size, q, none⟩)) ?_
 (intro K k; go_simp; apply k; clear k K)
 refine q_val (v := .int .u8 (b8 x)) rfl (fun w' hw' => by have h := hc.out w' hw'.below; go_simp) ?_
 (intro K k; go_simp; apply k; clear k K)
 refine Want.qv0 (.int .i64 (b8 x)) ?_
 (intro K k; go_simp; apply k; clear k K)
 refine q_move rfl (.tmp 1) rfl ?_
 (intro K k; go_simp; apply k; clear k K)
 refine Want.qv0 (.int .i64 (m : Int)) ?_
 (intro K k; go_simp; apply k; clear k K)
 refine Want.qv0 (.int .i64 (r : Int)) ?_
 (intro K k; go_simp; apply k; clear k K)
 refine Want.qv0 (.int .i64 (p : Int)) ?_
 (intro K k; go_simp; apply k; clear k K)
 refine Want.qv0 (.int .i64 (V : Int)) ?_
 (intro K k; go_simp; apply k; clear k K)
 refine Want.qv0 (.int .i64 (U : Int)) ?_
 (intro K k; go_simp; apply k; clear k K)
 refine Want.qv0 (.int .i64 (U : Int)) ?_
 (intro K k; go_simp; apply k; clear k K)
 refine q_nil ?_
 intro w7 hw7
 have h7 : Hid (Below w.heap.size w w7) := hb0.out.trans (hw7.below.mono hb0.out.size)
 go_wp2_with fail
 go_ret
 exact ⟨rfl, h7.out⟩

set_option maxRecDepth 100000 in
set_option maxHeartbeats 1000000 in
theorem set_any (cs : Array Value) (f : Bool) (cnt : Int) (ch k : Text) (hk : k.length = 32) (A : Option Addr) (n c : Nat) (hs : Sp cs f cnt ch k A n c) (i : Nat) (hi : i < 256) (w : World) :
  Calls Tryd.prog 141 #[.agg cs, .int .i64 (i : Int)] w fun e w' => e = .returned (.bool (hbit k i)) ∧ Below w.heap.size w w' := by
 obtain ⟨q, hq⟩ : ∃ q, i / 8 = q := ⟨_, rfl⟩
 obtain ⟨m, hm⟩ : ∃ m, i % 8 = m := ⟨_, rfl⟩
 have hq32 : q < 32 := by omega
 have hm8 : m < 8 := by omega
 obtain ⟨x, hx⟩ : ∃ x, k[q]? = some x := ⟨_, List.getElem?_eq_getElem (by omega)⟩
 obtain ⟨w1, hw1⟩ : ∃ w1, Hid (w1 = w.alloc (.cells cs 135)) := ⟨_, rfl⟩
 have hb0 : Hid (Below w.heap.size w w1) := by show Below _ _ _; rw [hw1.out]; exact Below.heap_below w _
 have hlt1 : Hid (w.heap.size < w1.heap.size) := by show _ < _; rw [hw1.out]; simp
 have c0 : Hid (w1.cell? ⟨w.heap.size, 34 + q, none⟩ = some (.int .u8 (b8 x))) := by show _ = _; rw [hw1.out, (Blk.new w _ _).cell (34 + q)]; exact (hs.bits q _ (by unfold cells8; rw [List.getElem?_map, hx]; rfl))
 obtain ⟨r, hr⟩ : ∃ r, m = r := ⟨_, rfl⟩
 have hr8 : r < 8 := by omega
 have z1 : (0 : Int) ≤ (q : Int) := by omega
 have z2 : (q : Int) < 32 := by omega
 have z3 : (r : Int) < 8 := by omega
 have z4 : (0 : Int) ≤ (r : Int) := by omega
 have z8 : IntKind.i64.wrap (q : Int) = (q : Int) := IntWalk.i64_in _ (by omega)
 have z9 : wrap64 (q : Int) = (q : Int) := IntWalk.wrap64_in _ (by omega)
 have z10 : IntKind.i64.wrap (r : Int) = (r : Int) := IntWalk.i64_in _ (by omega)
 have e1 : (i : Int).tdiv 8 = (q : Int) := by rw [Int.tdiv_eq_ediv_of_nonneg (by omega)]; omega
 have e2 : (i : Int).tmod 8 = (m : Int) := by rw [Int.tmod_eq_emod_of_nonneg (by omega)]; omega
 obtain ⟨V, p, U, hV, hU, e4, e5, e6, e7, e8, e9, e10, e11, e12, e13, e14⟩ := bit_parts x r hr8
 replace hV := Lib.hid hV
 replace hU := Lib.hid hU
 have hans : hbit k i = (U == 1) := by
  unfold hbit
  rw [hq, hm, List.getD_eq_getElem?_getD, hx]
  show (x.toNat / 2 ^ m % 2 == 1) = _
  rw [hr, hV.out, hU.out]
 rw [hans]
 clear hans
 obtain ⟨b, hb⟩ : ∃ b, (U == 1) = b := ⟨_, rfl⟩
 rw [hb]
 have hb2 : ((U : Int) == 1) = b := by
  rw [← hb]
  rcases Nat.decEq U 1 with h | h
  ·rw [beq_eq_false_iff_ne.2 (by omega), beq_eq_false_iff_ne.2 h]
  ·subst h; rfl
 obtain rfl : m = r := hr
 clear hV hU hq hi hx hr8 hm hk hs hb
 go_enter Tryd.func141, Tryd.ntmps141
 go_upto_region 1 with fail
 change Code.wp _ _ _ _ (w.alloc (.cells cs 135))
 rw [← hw1.out]
 have hc := Lib.hid (fun w' (h : Below w1.heap.size w1 w') => (h.cell (p := ⟨w.heap.size, 34 + q, none⟩) hlt1.out).trans c0.out)
 refine q_region (Class w1) (by kernel_rfl) (by kernel_rfl) (Class.mk_ ((Below.refl _ _).drew)) ?_
 refine q_move rfl (.tmp 1) rfl ?_
 (intro K k; go_simp; apply k; clear k K)
 refine Want.qv0 (.int .i64 (q : Int)) ?_
 (intro K k; go_simp; apply k; clear k K)
 refine Want.qv0 (.pointer (some ⟨w.heap.size, 34, none⟩)) ?_
 (intro K k; go_simp; apply k; clear k K)
 refine Want.qv0 (.pointer (some ⟨w.heap.size, 34 + q, none⟩)) ?_
 (intro K k; go_simp; apply k; clear k K)
 refine q_val (v := .int .u8 (b8 x)) rfl (fun w' hw' => by have h := hc.out w' hw'.below; go_simp) ?_
 (intro K k; go_simp; apply k; clear k K)
 refine Want.qv0 (.int .i64 (b8 x)) ?_
 (intro K k; go_simp; apply k; clear k K)
 refine q_move rfl (.tmp 1) rfl ?_
 (intro K k; go_simp; apply k; clear k K)
 refine Want.qv0 (.int .i64 (m : Int)) ?_
 (intro K k; go_simp; apply k; clear k K)
 refine Want.qv0 (.int .i64 (p : Int)) ?_
 (intro K k; go_simp; apply k; clear k K)
 refine Want.qv0 (.int .i64 (V : Int)) ?_
 (intro K k; go_simp; apply k; clear k K)
 refine Want.qv0 (.int .i64 (U : Int)) ?_
 (intro K k; go_simp; apply k; clear k K)
 refine Want.qv0 (.bool b) ?_
 (intro K k; go_simp; apply k; clear k K)
 refine Want.qv0 (.bool b) ?_
 (intro K k; go_simp; apply k; clear k K)
 refine q_nil ?_
 intro w7 hw7
 have h7 : Hid (Below w.heap.size w w7) := hb0.out.trans (hw7.below.mono hb0.out.size)
 go_wp2_with fail
 go_ret
 exact ⟨rfl, h7.out⟩

theorem eqlZ (cnt : Int) (ch : Text) (hch : ch.length = 32) (w : World) : (binOp .eql 68 (.agg (entC cnt ch).toArray) (.agg #[.int .i64 0, .int .u8 0, .int .u8 0, .int .u8 0, .int .u8 0, .int .u8 0, .int .u8 0, .int .u8 0, .int .u8 0, .int .u8 0, .int .u8 0, .int .u8 0, .int .u8 0, .int .u8 0, .int .u8 0, .int .u8 0, .int .u8 0, .int .u8 0, .int .u8 0, .int .u8 0, .int .u8 0, .int .u8 0, .int .u8 0, .int .u8 0, .int .u8 0, .int .u8 0, .int .u8 0, .int .u8 0, .int .u8 0, .int .u8 0, .int .u8 0, .int .u8 0, .int .u8 0])).run Tryd.prog w = .ok (.bool (decide (cnt = 0 ∧ ch = z32))) w := by
 have := eql_entry cnt 0 ch z32 hch z32_len w
 rwa [show (entC 0 z32).toArray = #[.int .i64 0, .int .u8 0, .int .u8 0, .int .u8 0, .int .u8 0, .int .u8 0, .int .u8 0, .int .u8 0, .int .u8 0, .int .u8 0, .int .u8 0, .int .u8 0, .int .u8 0, .int .u8 0, .int .u8 0, .int .u8 0, .int .u8 0, .int .u8 0, .int .u8 0, .int .u8 0, .int .u8 0, .int .u8 0, .int .u8 0, .int .u8 0, .int .u8 0, .int .u8 0, .int .u8 0, .int .u8 0, .int .u8 0, .int .u8 0, .int .u8 0, .int .u8 0, .int .u8 0] by kernel_rfl] at this
theorem qE : Tryd.prog.eqGuardType Tryd.prog.depth 68 = false := by kernel_rfl
theorem okSp_no {f : Bool} {cnt : Int} {ch d : Text} {n : Nat} (h : ¬ onesOf d = n) : okSp f cnt ch d n = false := by unfold okSp; rw [decide_eq_false h]; rfl
theorem okSp_yes {f : Bool} {cnt : Int} {ch d : Text} {n : Nat} (h : onesOf d = n) : okSp f cnt ch d n = okEnt f cnt ch := by unfold okSp; rw [decide_eq_true h]; rfl

set_option maxRecDepth 100000 in
set_option maxHeartbeats 1000000 in
theorem formed_any (cs : Array Value) (f : Bool) (cnt : Int) (ch d : Text) (hch : ch.length = 32) (hd : d.length = 32) (A : Option Addr) (n c : Nat) (hs : Sp cs f cnt ch d A n c) (w : World) :
  Calls Tryd.prog 158 #[.agg cs] w fun e w' => e = .returned (.bool (okSp f cnt ch d n)) ∧ Below w.heap.size w w' := by
 obtain ⟨w1, hw1⟩ : ∃ w1, Hid (w1 = w.alloc (.cells cs 135)) := ⟨_, rfl⟩
 have hb0 : Hid (Below w.heap.size w w1) := by show Below _ _ _; rw [hw1.out]; exact Below.heap_below w _
 have hP : Hid (Blk w1 w.heap.size 135 cs) := by show Blk _ _ _ _; rw [hw1.out]; exact Blk.new w _ _
 have hC : Hid (∀ w', Below w1.heap.size w1 w' → ∀ j v, cs[j]? = some v → w'.cell? ⟨w.heap.size, j, none⟩ = some v) := fun w' hb j v hv => ((show Blk w' w.heap.size 135 cs from (hb.block _ hP.out.lt).trans hP.out).cell j).trans hv
 have hbits : Hid (∀ j v, (cells8 d)[j]? = some v → w1.cell? ⟨w.heap.size, 34 + j, none⟩ = some v) := fun j v hv => hC.out w1 (Below.refl _ _) (34 + j) v (hs.bits j v hv)
 have c0 : w1.cell? ⟨w.heap.size, 0, none⟩ = some (.bool f) := hC.out w1 (Below.refl _ _) 0 _ hs.found
 have i66 : Hid (cs[66]? = some (.slice A n c)) := hs.sums
 have ient := Lib.hid hs.ent
 have sE : Hid ((Tryd.prog.info? 68).map (·.size) = some (entC cnt ch).length) := by show _ = _; rw [entC_len hch]; exact sizeEnt
 have sB : Hid ((Tryd.prog.info? 22).map (·.size) = some (cells8 d).length) := by show _ = _; rw [cells8_len, hd]; exact sizeB32
 have hz := Lib.hid (eqlZ cnt ch hch)
 have hX : Hid (∀ (k : Nat) (x : BitVec 8), d[k]? = some x → k < 32 → ∀ w, (Instr.index 22 (.agg (cells8 d).toArray) (.int .i64 (k : Int))).run Tryd.prog w = .ok (.int .u8 (b8 x)) w) := fun k x h hk w =>
  run_index_agg (cells8 d).toArray .i64 (k : Int) (.int .u8 (b8 x)) Tryd.underlying22 (fun _ => rfl) (run_isAgg_int Tryd.underlying5) (by omega) (by omega) (by rw [List.getElem?_toArray]; show (cells8 d)[k]? = _; unfold cells8; rw [List.getElem?_map, h]; rfl) w
 replace hd := Lib.hid hd
 clear hP hs hch
 obtain ⟨D8, hD8⟩ : ∃ D8, Hid ((cells8 d).toArray = D8) := ⟨_, Lib.hid rfl⟩
 rw [hD8.out] at hX
 go_enter Tryd.func158, Tryd.ntmps158
 go_upto_region 1 with fail
 change Code.wp _ _ _ _ (w.alloc (.cells cs 135))
 rw [← hw1.out]
 go_wp2_with (((with_reducible change wpList _ _ _ (⟨some 7, _, _, _, _, _⟩ :: _) _ _); refine wpList_load_part (o := ⟨some 7, _, _, _, _, _⟩) rfl 22 (.tmp 6) rfl (w.heap.size) (34) rfl (cells8 d) _ hbits.out Tryd.underlying22 rfl sB.out ?_); rw [hD8.out])
 go_loop [3, 8] (fun n v => ∃ k : Nat, v = .int .i64 (k : Int) ∧ n = .int .i64 (onesOf (d.take k) : Nat) ∧ k ≤ 32) (fun _ v => 32 - (intOf v).toNat)
 case atStart => exact ⟨0, rfl, rfl, by omega⟩
 case round =>
  obtain ⟨k, rfl, rfl, hk⟩ := hrel
  by_cases hlt : k < 32
  ·obtain ⟨x, hx⟩ : ∃ x, Hid (d[k]? = some x) := ⟨_, List.getElem?_eq_getElem (by rw [hd.out]; exact hlt)⟩
   have hi := hX.out k x hx.out hlt
   have hst := Lib.hid (onesOf_step d k x hx.out)
   have hb := onesOf_le (d.take k)
   have hc := onesCount_le x
   rw [List.length_take, hd.out] at hb
   obtain ⟨N, hN⟩ : ∃ N, Hid (onesOf (d.take k) = N) := ⟨_, Lib.hid rfl⟩
   rw [hN.out] at hb hst
   rw [hN.out]
   have hN256 : (N : Int) ≤ 256 := by omega
   have hx0 := b8_nonneg x
   have hx1 := b8_lt x
   have hM : Hid ((b8 x).toNat = x.toNat) := by show _ = _; unfold b8; simp
   obtain ⟨M, hM2⟩ : ∃ M, Hid (Lib.onesCount x.toNat = M) := ⟨_, Lib.hid rfl⟩
   rw [hM2.out] at hc hst
   have hM8 : (M : Int) ≤ 8 := by omega
   have hz1 : (k : Int) < 32 := by omega
   have hz0 : (0 : Int) ≤ (k : Int) := by omega
   have hk1 : Hid (k + 1 ≤ 32) := by show _ ≤ _; omega
   clear hk hlt hX hc hb
   go_wp2_with (go_at_call 171; refine (Tryd.bits_OnesCount8 (b8 x) _ hx0 (by omega)).mono ?_; rw [hM.out, hM2.out]; rintro e w1 ⟨rfl, rfl⟩)
   go_round
   case rel => exact ⟨k + 1, by go_num, by rw [hst.out]; go_num, hk1.out⟩
   case measure => (have := hk1.out; simp [intOf]; omega)
  ·have hT : Hid (onesOf (d.take k) = onesOf d) := by show _ = _; rw [List.take_of_length_le (by rw [hd.out]; omega)]
   have hk32 : (32 : Int) ≤ (k : Int) := by omega
   rw [hT.out]
   obtain ⟨N, hN⟩ : ∃ N, Hid (onesOf d = N) := ⟨_, Lib.hid rfl⟩
   have hno := Lib.hid (fun (h : ¬ N = n) => okSp_no (f := f) (cnt := cnt) (ch := ch) (d := d) (n := n) (by rw [hN.out]; exact h))
   have hyes := Lib.hid (fun (h : N = n) => okSp_yes (f := f) (cnt := cnt) (ch := ch) (d := d) (n := n) (by rw [hN.out]; exact h))
   rw [hN.out]
   obtain ⟨be, hbe0⟩ : ∃ b, okEnt f cnt ch = b := ⟨_, rfl⟩
   rw [hbe0] at hyes
   clear hlt hk hT hN hX hbits sB hD8
   by_cases hNn : N = n
   ·have hans := Lib.hid (hyes.out hNn)
    have hyn : Hid (((N : Int) == (n : Int)) = true) := by show _ = _; subst hNn; exact beq_self_eq_true _
    clear hno hyes hNn
    cases f with
    | true =>
     have hbe : Hid (decide (1 ≤ cnt ∧ cnt ≤ 1099511627776) = be) := hbe0
     clear hbe0 hz
     go_upto_region 8 with fail
     refine q_plain (Class w1) (Class.mk_ (Below.refl _ _)) ?_
     refine q_move rfl (.tmp 3) rfl ?_
     (intro K k; go_simp; apply k; clear k K)
     refine Want.qv0 (.pointer (some ⟨w.heap.size, 66, none⟩)) ?_
     (intro K k; go_simp; apply k; clear k K)
     refine q_val (v := .slice A n c) rfl (fun w' hw' => by have h := hC.out w' hw'.below 66 _ i66.out; go_simp) ?_
     (intro K k; go_simp; apply k; clear k K)
     refine Want.qv0 (.int .i64 (n : Int)) ?_
     (intro K k; go_simp; apply k; clear k K)
     refine q_val (v := .bool true) rfl (fun w' hw' => by have h := hyn.out; go_simp) ?_
     (intro K k; go_simp; apply k; clear k K)
     refine q_move rfl (.tmp 22) rfl ?_
     (intro K k; go_simp; apply k; clear k K)
     refine Want.qv0 (.pointer (some ⟨w.heap.size, 1, none⟩)) ?_
     (intro K k; go_simp; apply k; clear k K)
     refine q_part rfl 68 (.tmp 24) rfl w.heap.size (1) rfl (entC cnt ch) _ (fun w' hw' => fun j v hv => hC.out w' hw'.below (1 + j) v (ient.out j v hv)) Tryd.underlying68 rfl sE.out ?_
     (intro K k; go_simp; apply k; clear k K)
     refine q_fn (v := .bool be) (args := #[.agg (entC cnt ch).toArray]) rfl _ _ rfl rfl Tryd.func172 (by kernel_rfl) (by kernel_rfl) (fun w' hw' => (counted_any (entC cnt ch).toArray cnt rfl w').mono (fun e w'' ⟨he, hb⟩ => ⟨by rw [he, hbe.out], hw'.next hb⟩)) ?_
     (intro K k; go_simp; apply k; clear k K)
     refine Want.qv0 (.bool be) ?_
     (intro K k; go_simp; apply k; clear k K)
     refine Want.qv0 (.bool be) ?_
     (intro K k; go_simp; apply k; clear k K)
     refine q_nil ?_
     intro w7 hw7
     have h7 : Hid (Below w.heap.size w w7) := hb0.out.trans (hw7.below.mono hb0.out.size)
     go_wp2_with fail
     go_ret
     exact ⟨by rw [hans.out]; rfl, h7.out⟩
    | false =>
     have hbe : decide (cnt = 0 ∧ ch = z32) = be := hbe0
     rw [hbe] at hz
     clear hbe0 hbe
     go_upto_region 9 with fail
     refine q_plain (Class w1) (Class.mk_ (Below.refl _ _)) ?_
     refine q_move rfl (.tmp 3) rfl ?_
     (intro K k; go_simp; apply k; clear k K)
     refine Want.qv0 (.pointer (some ⟨w.heap.size, 66, none⟩)) ?_
     (intro K k; go_simp; apply k; clear k K)
     refine q_val (v := .slice A n c) rfl (fun w' hw' => by have h := hC.out w' hw'.below 66 _ i66.out; go_simp) ?_
     (intro K k; go_simp; apply k; clear k K)
     refine Want.qv0 (.int .i64 (n : Int)) ?_
     (intro K k; go_simp; apply k; clear k K)
     refine q_val (v := .bool true) rfl (fun w' hw' => by have h := hyn.out; go_simp) ?_
     (intro K k; go_simp; apply k; clear k K)
     refine q_move rfl (.tmp 32) rfl ?_
     (intro K k; go_simp; apply k; clear k K)
     refine Want.qv0 (.pointer (some ⟨w.heap.size, 1, none⟩)) ?_
     (intro K k; go_simp; apply k; clear k K)
     refine q_part rfl 68 (.tmp 34) rfl w.heap.size (1) rfl (entC cnt ch) _ (fun w' hw' => fun j v hv => hC.out w' hw'.below (1 + j) v (ient.out j v hv)) Tryd.underlying68 rfl sE.out ?_
     (intro K k; go_simp; apply k; clear k K)
     refine Want.qv0 (.agg #[.int .i64 0, .int .u8 0, .int .u8 0, .int .u8 0, .int .u8 0, .int .u8 0, .int .u8 0, .int .u8 0, .int .u8 0, .int .u8 0, .int .u8 0, .int .u8 0, .int .u8 0, .int .u8 0, .int .u8 0, .int .u8 0, .int .u8 0, .int .u8 0, .int .u8 0, .int .u8 0, .int .u8 0, .int .u8 0, .int .u8 0, .int .u8 0, .int .u8 0, .int .u8 0, .int .u8 0, .int .u8 0, .int .u8 0, .int .u8 0, .int .u8 0, .int .u8 0, .int .u8 0]) ?_
     (intro K k; go_simp; apply k; clear k K)
     refine q_val (v := .bool be) rfl (fun w' hw' => run_cmp rfl rfl rfl qE (hz.out w')) ?_
     (intro K k; go_simp; apply k; clear k K)
     refine Want.qv0 (.bool be) ?_
     (intro K k; go_simp; apply k; clear k K)
     refine Want.qv0 (.bool be) ?_
     (intro K k; go_simp; apply k; clear k K)
     refine q_nil ?_
     intro w7 hw7
     have h7 : Hid (Below w.heap.size w w7) := hb0.out.trans (hw7.below.mono hb0.out.size)
     go_wp2_with fail
     go_ret
     exact ⟨by rw [hans.out]; rfl, h7.out⟩
   ·have hans := Lib.hid (hno.out hNn)
    have hyn : Hid (((N : Int) == (n : Int)) = false) := by show _ = _; exact beq_eq_false_iff_ne.2 (by omega)
    clear hno hyes hNn
    cases f with
    | true =>
     go_upto_region 8 with fail
     refine q_plain (Class w1) (Class.mk_ (Below.refl _ _)) ?_
     refine q_move rfl (.tmp 3) rfl ?_
     (intro K k; go_simp; apply k; clear k K)
     refine Want.qv0 (.pointer (some ⟨w.heap.size, 66, none⟩)) ?_
     (intro K k; go_simp; apply k; clear k K)
     refine q_val (v := .slice A n c) rfl (fun w' hw' => by have h := hC.out w' hw'.below 66 _ i66.out; go_simp) ?_
     (intro K k; go_simp; apply k; clear k K)
     refine Want.qv0 (.int .i64 (n : Int)) ?_
     (intro K k; go_simp; apply k; clear k K)
     refine q_val (v := .bool false) rfl (fun w' hw' => by have h := hyn.out; go_simp) ?_
     (intro K k; go_simp; apply k; clear k K)
     refine q_move rfl (.tmp 22) rfl ?_
     (intro K k; go_simp; apply k; clear k K)
     refine q_skip rfl ?_
     (intro K k; go_simp; apply k; clear k K)
     refine q_skip rfl ?_
     (intro K k; go_simp; apply k; clear k K)
     refine q_skip rfl ?_
     (intro K k; go_simp; apply k; clear k K)
     refine Want.qv0 (.bool false) ?_
     (intro K k; go_simp; apply k; clear k K)
     refine Want.qv0 (.bool false) ?_
     (intro K k; go_simp; apply k; clear k K)
     refine q_nil ?_
     intro w7 hw7
     have h7 : Hid (Below w.heap.size w w7) := hb0.out.trans (hw7.below.mono hb0.out.size)
     go_wp2_with fail
     go_ret
     exact ⟨by rw [hans.out]; rfl, h7.out⟩
    | false =>
     go_upto_region 9 with fail
     refine q_plain (Class w1) (Class.mk_ (Below.refl _ _)) ?_
     refine q_move rfl (.tmp 3) rfl ?_
     (intro K k; go_simp; apply k; clear k K)
     refine Want.qv0 (.pointer (some ⟨w.heap.size, 66, none⟩)) ?_
     (intro K k; go_simp; apply k; clear k K)
     refine q_val (v := .slice A n c) rfl (fun w' hw' => by have h := hC.out w' hw'.below 66 _ i66.out; go_simp) ?_
     (intro K k; go_simp; apply k; clear k K)
     refine Want.qv0 (.int .i64 (n : Int)) ?_
     (intro K k; go_simp; apply k; clear k K)
     refine q_val (v := .bool false) rfl (fun w' hw' => by have h := hyn.out; go_simp) ?_
     (intro K k; go_simp; apply k; clear k K)
     refine q_move rfl (.tmp 32) rfl ?_
     (intro K k; go_simp; apply k; clear k K)
     refine q_skip rfl ?_
     (intro K k; go_simp; apply k; clear k K)
     refine q_skip rfl ?_
     (intro K k; go_simp; apply k; clear k K)
     refine q_skip rfl ?_
     (intro K k; go_simp; apply k; clear k K)
     refine q_skip rfl ?_
     (intro K k; go_simp; apply k; clear k K)
     refine Want.qv0 (.bool false) ?_
     (intro K k; go_simp; apply k; clear k K)
     refine Want.qv0 (.bool false) ?_
     (intro K k; go_simp; apply k; clear k K)
     refine q_nil ?_
     intro w7 hw7
     have h7 : Hid (Below w.heap.size w w7) := hb0.out.trans (hw7.below.mono hb0.out.size)
     go_wp2_with fail
     go_ret
     exact ⟨by rw [hans.out]; rfl, h7.out⟩
end Go.Proofs.YtmdkfhfkdcbpgaaDoorR.Formed

namespace Go.Proofs.YtmdkfhfkdcbpgaaDoorR.LeadM
open Go Go.RowKit Go.Proofs.YtmdkfhfkdcbpgaaDoorR Mem Sha Bytes QuietTail Grown Go.Proofs.YtmdkfhfkdcbpgaaDoorR.Append Held TreeRefRoot DigestText Node Texts RefIncl0 RowsY Octet SparseP

structure CAt (w0 wr : World) (br : Nat) (st : Text × List Text) (v : Value) (xs : List Value) : Prop where
 dig : Blk wr br 23 (cells8 st.1).toArray
 own : wr.ownsRow w0.heap.size 27 1 v st.2.length xs
 ne : v.ownBlock ≠ some br
 txs : Txs (fun k => k < w0.heap.size) wr br v.ownBlock xs st.2
 low : Below w0.heap.size w0 wr
 le : w0.heap.size ≤ br
theorem CAt.step {w0 wr w1 w3 w4 w5 w6 : World} {br gt ct n : Nat} {st st' : Text × List Text} {v v4 : Value} {xs : List Value} {q : Text} (h : CAt w0 wr br st v xs) (hn : st.2.length = n)
  (hb1 : Below wr.heap.size wr w1) (hb3 : Below w1.heap.size w1 w3) (hq : Reads w3 1 (some ⟨gt, 0, none⟩) q.length (cells8 q)) (hgt : w1.heap.size ≤ gt ∧ gt < w3.heap.size) (hct : q.length ≤ ct)
  (hG : Grew (w3.alloc (.cells #[.slice (some ⟨gt, 0, none⟩) q.length ct] 27)) w0.heap.size 27 1 v n 1 xs [.slice (some ⟨gt, 0, none⟩) q.length ct] v4 w4)
  (hb5 : Below w4.heap.size w4 w5) (hB6 : Blk w6 br 23 (cells8 st'.1).toArray) (hk6 : Kept (· = br) w5 w6) (hst : st'.2 = st.2 ++ [q]) : CAt w0 w6 br st' v4 (xs ++ [.slice (some ⟨gt, 0, none⟩) q.length ct]) := by
 have hlt := h.dig.lt
 have hz1 := hb1.size
 have hz0 := h.low.size
 have hz3 := hb3.size
 obtain ⟨p1, p2, -⟩ := Txs.push (M := fun k => k < w0.heap.size) (by omega) hn (Txs.keep (S := fun _ => False) h.txs (Kept.of_below hb1) (fun _ h => h.elim)) (hn ▸ own_below h.own hb1) hb3 hq hgt (by omega) hct hG
 have hne4 : v4.ownBlock ≠ some br := fun e => by
  rcases hG.at_ with h1 | h1
  ·rw [h1] at e; exact h.ne e
  ·rw [h1] at e
   have := Option.some.inj e
   simp at this
   omega
 have b1 := h.low.trans (hb1.mono h.low.size)
 have b3 := b1.trans (hb3.mono b1.size)
 have b3a := b3.alloc b3.size (.cells #[.slice (some ⟨gt, 0, none⟩) q.length ct] 27)
 have b4 := hG.below b3a b3a.size (fun k e => (h.own.lt k e).1)
 have b5 := b4.trans (hb5.mono b4.size)
 refine ⟨hB6, ?_, hne4, ?_, b5.trans (Kept.below_of hk6 h.le b5.size), h.le⟩
 ·rw [hst, List.length_append, hn]
  exact own_kept (own_below p2 hb5) hk6 (fun k e h => hne4 (by rw [e, h]))
 ·rw [hst]
  exact Txs.keep (Txs.keep (S := fun _ => False) p1 (Kept.of_below hb5) (fun _ h => h.elim)) hk6 (fun k h => .inl h)
theorem own_low {w : World} {B B' e size n : Nat} {v : Value} {xs : List Value} (h : w.ownsRow B e size v n xs) (hB : B' ≤ B) : w.ownsRow B' e size v n xs :=
 ⟨h.1, h.2.imp id fun ⟨g, cap, cur, h1, h2, h3⟩ => ⟨g, cap, cur, h1, Nat.le_trans hB h2, h3⟩⟩
theorem CAt.start {w0 w1 wB wC : World} {gt ct : Nat} {q z : Text} {o : Obj} (hb1 : Below w0.heap.size w0 w1) (hq : Reads w1 1 (some ⟨gt, 0, none⟩) q.length (cells8 q)) (hgt : w0.heap.size ≤ gt ∧ gt < w1.heap.size) (hct : q.length ≤ ct)
  (hbB : Below (w1.alloc (.cells #[.slice (some ⟨gt, 0, none⟩) q.length ct] 27)).heap.size (w1.alloc (.cells #[.slice (some ⟨gt, 0, none⟩) q.length ct] 27)) wB) (hC : Blk wC wB.heap.size 23 (cells8 z).toArray) (hkC : Kept (· = wB.heap.size) (wB.alloc o) wC) :
  CAt w0 wC wB.heap.size (z, [q]) (.slice (some ⟨w1.heap.size, 0, none⟩) 1 1) [.slice (some ⟨gt, 0, none⟩) q.length ct] := by
 have hz : (w1.alloc (.cells #[.slice (some ⟨gt, 0, none⟩) q.length ct] 27)).heap.size = w1.heap.size + 1 := by simp
 have kC := kept_fresh hkC
 have hz1 := hb1.size
 have hzB := hbB.size
 have hzC := kC.size
 have h1 := RefCut.owns_new w1 27 (.slice (some ⟨gt, 0, none⟩) q.length ct)
 have hba : Below w1.heap.size w1 (w1.alloc (.cells #[.slice (some ⟨gt, 0, none⟩) q.length ct] 27)) := Below.heap_below _ _
 have b2 := hb1.trans (hba.mono hz1)
 have b3 := b2.trans (hbB.mono b2.size)
 refine ⟨hC, own_below (own_below (own_low h1 hz1) hbB) kC, fun e => ?_, fun i p hp => ?_, b3.trans (kC.mono b3.size), by omega⟩
 ·have := Option.some.inj (show some w1.heap.size = some wB.heap.size from e)
  omega
 ·match i with
  | 0 =>
   obtain rfl := Option.some.inj hp
   refine ⟨gt, ct, rfl, hct, ((hq.below hba).below hbB).below kC, by omega, by omega, fun e => ?_, by omega⟩
   have := Option.some.inj (show some gt = some w1.heap.size from e)
   omega
  | i + 1 => cases hp
theorem CAt.end_ {w0 wr w6 : World} {br R : Nat} {st : Text × List Text} {v : Value} {xs : List Value} (h : CAt w0 wr br st v xs) (hR : R < w0.heap.size) (hk : Kept (· = R) wr w6) (hpos : ∀ q ∈ st.2, 0 < q.length) : w6.ownsRow w0.heap.size 27 1 v st.2.length xs ∧ Ty w6 xs st.2 := by
 refine ⟨own_kept h.own hk (fun k e hk => ?_), fun i q hq => ?_⟩
 ·have := (h.own.lt k e).1
  omega
 ·obtain ⟨g, c, a1, a2, a3, -⟩ := Txs.keep h.txs hk (fun k hk => .inr (.inr (by omega))) i q hq
  exact ⟨hpos q (List.mem_of_getElem? hq), g, c, a1, a2, a3⟩
theorem tW_lt (w : World) {a b : Nat} (ha : a < w.heap.size) (hb : b < w.heap.size) (x y : Text) : AllLt (tW w a b) (tW w a b).heap.size (some ⟨w.heap.size, 0, none⟩) [x, y] := by
 have hP : Blk (tW w a b) w.heap.size 27 #[.slice (some ⟨a, 0, none⟩) 32 32, .slice (some ⟨b, 0, none⟩) 32 32] := Blk.new w.drew 27 _
 have hs := tW_size w a b
 refine ⟨fun c e => ?_, fun i q hq b' o e Ai ci hc _ c ec => ?_⟩
 ·obtain rfl := Option.some.inj e
  show w.heap.size < _
  omega
 ·injection e with e
  injection e with e1 e2
  subst e1 e2
  rw [hP.cell] at hc
  match i with
  | 0 =>
   have h1 := Option.some.inj hc
   injection h1 with h1
   rw [ec] at h1
   have := Option.some.inj h1
   rw [← this]
   show a < _
   omega
  | 1 =>
   have h1 := Option.some.inj hc
   injection h1 with h1
   rw [ec] at h1
   have := Option.some.inj h1
   rw [← this]
   show b < _
   omega
  | i + 2 => simp at hq
/-! ### The first text of an entry: a key, a count, a chain -/
def tW3 (w : World) (a b c : Addr) : World := w.drew.alloc (.cells #[.slice (some a) 32 32, .slice (some b) 8 8, .slice (some c) 32 32] 27)
theorem tW3_size (w : World) (a b c : Addr) : (tW3 w a b c).heap.size = w.heap.size + 1 := by unfold tW3; simp
theorem tW3_below (w : World) (a b c : Addr) : Below w.heap.size w (tW3 w a b c) := ((Below.refl _ w).drew).alloc (Nat.le_refl _) _
theorem tW3_pieces {w : World} {a b c : Addr} {x y z : Text} (ha : Reads w 1 (some a) 32 (cells8 x)) (hb : Reads w 1 (some b) 8 (cells8 y)) (hc : Reads w 1 (some c) 32 (cells8 z)) (hx : x.length = 32) (hy : y.length = 8) (hz : z.length = 32) : Pieces (tW3 w a b c) (some ⟨w.heap.size, 0, none⟩) [x, y, z] := fun _ => by
 have hP : Blk (tW3 w a b c) w.heap.size 27 #[.slice (some a) 32 32, .slice (some b) 8 8, .slice (some c) 32 32] := Blk.new w.drew 27 _
 have hbl := tW3_below w a b c
 refine ⟨w.heap.size, 0, rfl, hP.lt, fun i q hq => ?_⟩
 match i with
 | 0 =>
  obtain rfl := Option.some.inj hq
  exact ⟨some a, 32, by rw [hP.cell, hx]; rfl, by omega, by rw [hx]; exact ha.below hbl, fun h => by cases h⟩
 | 1 =>
  obtain rfl := Option.some.inj hq
  exact ⟨some b, 8, by rw [hP.cell, hy]; rfl, by omega, by rw [hy]; exact hb.below hbl, fun h => by cases h⟩
 | 2 =>
  obtain rfl := Option.some.inj hq
  exact ⟨some c, 32, by rw [hP.cell, hz]; rfl, by omega, by rw [hz]; exact hc.below hbl, fun h => by cases h⟩
 | i + 3 => simp at hq
theorem tW3_lt (w : World) {a b c : Addr} (ha : a.block < w.heap.size) (hb : b.block < w.heap.size) (hc : c.block < w.heap.size) (x y z : Text) : AllLt (tW3 w a b c) (tW3 w a b c).heap.size (some ⟨w.heap.size, 0, none⟩) [x, y, z] := by
 have hP : Blk (tW3 w a b c) w.heap.size 27 #[.slice (some a) 32 32, .slice (some b) 8 8, .slice (some c) 32 32] := Blk.new w.drew 27 _
 have hs := tW3_size w a b c
 refine ⟨fun d e => ?_, fun i q hq b' o e Ai ci hcc _ d ed => ?_⟩
 ·obtain rfl := Option.some.inj e
  show w.heap.size < _
  omega
 ·injection e with e
  injection e with e1 e2
  subst e1 e2
  rw [hP.cell] at hcc
  match i with
  | 0 =>
   have h1 := Option.some.inj hcc
   injection h1 with h1
   rw [ed] at h1
   obtain rfl := Option.some.inj h1
   omega
  | 1 =>
   have h1 := Option.some.inj hcc
   injection h1 with h1
   rw [ed] at h1
   obtain rfl := Option.some.inj h1
   omega
  | 2 =>
   have h1 := Option.some.inj hcc
   injection h1 with h1
   rw [ed] at h1
   obtain rfl := Option.some.inj h1
   omega
  | i + 3 => simp at hq
/-! ### Lengths -/
theorem txt0_len {k ch : Text} {f : Bool} {cnt : Int} (hk : k.length = 32) (hch : ch.length = 32) : (txt0 k f cnt ch).length = if f then 73 else 1 := by
 unfold txt0
 cases f
 ·rfl
 ·show (kb 3 :: (k ++ (be8 cnt.toNat ++ ch))).length = 73
  simp [hk, hch, be8_len]
theorem upT_len {k x n : Text} {h : Nat} (hx : x.length = 32) (hn : n.length = 32) : (upT k h x n).length = 65 := by
 unfold upT
 split <;> simp [hx, hn]
theorem upT_pos {k x n : Text} {h : Nat} : 0 < (upT k h x n).length := by unfold upT; simp
theorem lead_pos {s : Int} {k t0 : Text} {l : List Text} (h0 : 0 < t0.length) : ∀ h, ∀ q ∈ (lead s k t0 l h).1, 0 < q.length
 | 0, q, hq => by
  obtain rfl := List.mem_singleton.1 hq
  exact h0
 | h + 1, q, hq => by
  rcases List.mem_append.1 hq with hq | hq
  ·exact lead_pos h0 h q hq
  ·obtain rfl := List.mem_singleton.1 hq
   exact upT_pos
theorem lead_succ (s : Int) (k t0 : Text) (l : List Text) (h : Nat) {x n q : Text} {ts : List Text} (e : lead s k t0 l h = (ts, x)) (hn : l[h]? = some n) (hq : upT k h x n = q) : lead s k t0 l (h + 1) = (ts ++ [q], TwiceP.sumOf s q) := by
 show (let p := lead s k t0 l h; let t := upT k h p.2 (l.getD h []); (p.1 ++ [t], TwiceP.sumOf s t)) = _
 rw [e]
 dsimp only
 rw [List.getD_eq_getElem?_getD, hn]
 show (ts ++ [upT k h x n], TwiceP.sumOf s (upT k h x n)) = _
 rw [hq]
end Go.Proofs.YtmdkfhfkdcbpgaaDoorR.LeadM

namespace Go.Proofs.YtmdkfhfkdcbpgaaDoorR.Lead
open Go Go.RowKit Go.Proofs.YtmdkfhfkdcbpgaaDoorR Mem Sha Bytes HashMem DigestMem Digest TreeMem TreeRoot QuietTail Grown Go.Proofs.YtmdkfhfkdcbpgaaDoorR.Append Octet Book Held Own Want DigestText Node Texts RowsY TreeRefRoot RefIncl0 Ref17 StructEq TwiceP SparseP SpMem Formed LeadM

theorem results_tc {P : Program} {fn : Func} {p u : Tmp} {ty : TypeId} (h : fn.results = #[.tmp u, .cell p ty]) (tmps : Array Value) (w : World) (g : Nat) (t : TypeId) (cs : Array Value) (fr : Nat × Nat) (d : TypeDesc)
  (hp : tmps.getD p undef = .pointer (some ⟨g, 0, none⟩)) (hg : w.heap[g]? = some (.cells cs t fr))
  (hu : P.underlying ty = some d) (hd : (match d with | .struct _ | .array _ _ => true | _ => false) = true) (hi : (P.info? ty).map (·.size) = some cs.size) :
  (results fn tmps).run P w = .ok (.tuple #[tmps.getD u undef, .agg cs]) w := by
 have hp' : tmps[p]?.getD undef = .pointer (some ⟨g, 0, none⟩) := by simpa using hp
 simp [results, h, hp', asAddr, run_loadVar_row w g t ty cs fr d hg hu hd hi, Result.andThen]
theorem txt_form {w : World} {B n : Nat} {v : Value} {q : Text} (ho : w.ownsRow B 5 1 v n (cells8 q)) (hn : 0 < n) : ∃ g c, v = .slice (some ⟨g, 0, none⟩) n c ∧ n ≤ c ∧ Reads w 1 (some ⟨g, 0, none⟩) n (cells8 q) ∧ B ≤ g ∧ g < w.heap.size := by
 obtain ⟨g, c, rfl, h1, h2⟩ := ho.form hn
 obtain ⟨A, c', e, hc, -, hr, -⟩ := own_reads ho
 injection e with e1 _ e3
 subst e1 e3
 exact ⟨g, c, rfl, hc, hr, h1, h2⟩

set_option maxRecDepth 100000 in
set_option maxHeartbeats 4000000 in
theorem lead_any (cs : Array Value) (f : Bool) (cnt : Int) (ch d : Text) (hch : ch.length = 32) (A : Option Addr) (n c : Nat) (hs : Sp cs f cnt ch d A n c) (hcnt : f = true → 0 ≤ cnt ∧ cnt ≤ 1099511627776) (s : Int) (k : Text) (hk : k.length = 32) (l : List Text) (m : Nat) (hm : m ≤ 256) (A2 : Option Addr) (c2 : Nat) (w : World) (hB : Base w) (hr : RdD w A2 m l) :
  Calls Tryd.prog 136 #[.agg cs, .int .i64 s, .agg (cells8 k).toArray, .slice A2 m c2] w fun e w' => ∃ v xs, e = .returned (.tuple #[v, .agg (cells8 (lead s k (txt0 k f cnt ch) l m).2).toArray]) ∧ w'.ownsRow w.heap.size 27 1 v (m + 1) xs ∧ Ty w' xs (lead s k (txt0 k f cnt ch) l m).1 ∧ Below w.heap.size w w' := by
 obtain ⟨i0, ii, iz0, iz1, iz2⟩ := info_partsN infoT
 obtain ⟨w0, hw0⟩ : ∃ w0, Hid (w0 = (((w.alloc (.cells cs 135)).alloc (.cells (cells8 k).toArray 23)).alloc (.cells Z32 23))) := ⟨_, rfl⟩
 have hb0 : Hid (Below w.heap.size w w0) := by show Below _ _ _; rw [hw0.out]; exact (((Below.refl _ w).alloc (Nat.le_refl _) _).alloc (by simp) _).alloc (by simp; omega) _
 have hs0 : Hid (w0.heap.size = w.heap.size + 3) := by show _ = _; rw [hw0.out]; simp
 have hP0 : Hid (Blk w0 w.heap.size 135 cs) := by show Blk _ _ _ _; rw [hw0.out]; exact ((Blk.new w _ _).alloc _).alloc _
 have hK0 : Hid (Blk w0 (w.heap.size + 1) 23 (cells8 k).toArray) := by
  show Blk _ _ _ _
  rw [hw0.out]
  have := Blk.new (w.alloc (.cells cs 135)) 23 (cells8 k).toArray
  rw [show (w.alloc (.cells cs 135)).heap.size = w.heap.size + 1 by simp] at this
  exact this.alloc _
 have hR0 : Hid (Blk w0 (w.heap.size + 2) 23 Z32) := by
  show Blk _ _ _ _
  rw [hw0.out]
  have := Blk.new ((w.alloc (.cells cs 135)).alloc (.cells (cells8 k).toArray 23)) 23 Z32
  rwa [show ((w.alloc (.cells cs 135)).alloc (.cells (cells8 k).toArray 23)).heap.size = w.heap.size + 2 by simp] at this
 obtain ⟨t0, ht0⟩ : ∃ t0, Hid (txt0 k f cnt ch = t0) := ⟨_, Lib.hid rfl⟩
 have ht0l := txt0_len (k := k) (f := f) (cnt := cnt) hk hch
 rw [ht0.out] at ht0l ⊢
 obtain ⟨n0, hn0⟩ : ∃ n0, Hid (t0.length = n0) := ⟨_, Lib.hid rfl⟩
 have hn0b : Hid (1 ≤ n0 ∧ n0 ≤ 73) := by
  show _ ∧ _
  rw [← hn0.out, ht0l]
  cases f <;> decide
 have hpos : Hid (∀ h, ∀ q ∈ (lead s k t0 l h).1, 0 < q.length) := lead_pos (by rw [hn0.out]; exact hn0b.out.1)
 obtain ⟨z0, hz0⟩ : ∃ z0, Hid (sumOf s t0 = z0) := ⟨_, Lib.hid rfl⟩
 have hz0l : Hid (z0.length = 32) := by show _ = _; rw [← hz0.out]; exact sumOf_len _ _
 have Fz0 := Lib.hid (fit (x := z0) hz0l.out)
 have hlead0 : Hid (lead s k t0 l 0 = ([t0], z0)) := by show ([t0], sumOf s t0) = _; rw [hz0.out]
 have hT5 : Hid (Calls Tryd.prog 160 #[.int .i64 5, .slice none 0 0] w0 fun e w' => ∃ v, e = .returned v ∧ Below w0.heap.size w0 w' ∧ w'.ownsRow w0.heap.size 5 1 v 1 (cells8 [kb 5])) :=
  text_any 5 [] 0 rfl none 0 w0 (by decide) 0 rfl (by omega) (fun h => absurd h (Nat.lt_irrefl 0)) ⟨(fun a e => by cases e), (fun i q hq => by simp at hq)⟩
 have ic0 : Hid (cs[0]? = some (.bool f)) := hs.found
 have ic1 : Hid (cs[1]? = some (.int .i64 cnt)) := hs.count
 have ich : Hid (∀ j v, (cells8 ch)[j]? = some v → cs[2 + j]? = some v) := hs.chain
 have hSum : Hid (∀ (q : Text) (kq : Nat), q.length = kq → kq ≤ 73 → ∀ g cq w', kq ≤ cq → Below w.heap.size w w' → Reads w' 1 (some ⟨g, 0, none⟩) kq (cells8 q) → Calls Tryd.prog 161 #[.slice (some ⟨g, 0, none⟩) kq cq] w' fun e w'' => e = .returned (.agg (cells8 (sum q)).toArray) ∧ Below w'.heap.size w' w'') := fun q kq hq h73 g cq w' hc hb hr => sumOf_any q kq hq _ cq w' (hB.below hb hB.1) (by omega) hr hc
 have hCut : Hid (∀ (q : Text) w', Calls Tryd.prog 120 #[.agg (cells8 (sum q)).toArray, .int .i64 s] w' fun e w'' => e = .returned (.agg (cells8 (sumOf s q)).toArray) ∧ Below w'.heap.size w' w'') := fun q w' => cut_any (sum q) (sum_len _) s w'
 have Fk := Lib.hid (fit (x := k) hk)
 have hkh := Lib.hid hk
 have hchh := Lib.hid hch
 have hmh := Lib.hid hm
 replace hr := Lib.hid hr
 clear hs hk hch hm ht0l hB
 go_enter Tryd.func136, Tryd.ntmps136
 go_upto_region 1 with fail
 change Code.wp _ _ _ _ (((w.alloc (.cells cs 135)).alloc (.cells (cells8 k).toArray 23)).alloc (.cells Z32 23))
 rw [← hw0.out]
 go_upto_region 2 with (go_at_call 160; refine hT5.out.mono ?_; rintro e w1 ⟨v1, rfl, hk1, ho1⟩; obtain ⟨g1, c1, rfl, hc1, hr1, hg1, hg1'⟩ := txt_form ho1 (by decide); have hb1 : Hid (Below w0.heap.size w0 w1) := hk1; have hx1 : Hid (1 ≤ c1 ∧ w0.heap.size ≤ g1 ∧ g1 < w1.heap.size) := ⟨hc1, hg1, hg1'⟩; replace hr1 := Lib.hid hr1; clear hk1 ho1 hc1 hg1 hg1' hT5)
 have hP1 : Hid (Blk w1 w.heap.size 135 cs) := (hb1.out.block _ hP0.out.lt).trans hP0.out
 have hK1 : Hid (Blk w1 (w.heap.size + 1) 23 (cells8 k).toArray) := (hb1.out.block _ hK0.out.lt).trans hK0.out
 have d0 : w1.cell? ⟨w.heap.size, 0, none⟩ = some (.bool f) := (hP1.out.cell 0).trans ic0.out
 go_upto_if 22 with fail
 go_cut [10] from 21 to 43 (fun v wr => ∃ gt ct, v = .slice (some ⟨gt, 0, none⟩) n0 ct ∧ Hid (n0 ≤ ct ∧ w0.heap.size ≤ gt ∧ gt < wr.heap.size) ∧ Hid (Reads wr 1 (some ⟨gt, 0, none⟩) n0 (cells8 t0)) ∧ Hid (Below w0.heap.size w0 wr))
 case first =>
  cases f with
  | false =>
   obtain rfl : [kb 5] = t0 := ht0.out
   obtain rfl : 1 = n0 := hn0.out
   go_wp2_with fail
   go_meet
   case rel => exact ⟨g1, c1, rfl, hx1.out, hr1.out, hb1.out⟩
  | true =>
   obtain ⟨N, rfl⟩ := Int.eq_ofNat_of_zero_le (hcnt rfl).1
   have hN40 : N ≤ 1099511627776 := by have := (hcnt rfl).2; omega
   have ht3 : Hid (kb 3 :: (k ++ (be8 N ++ ch)) = t0) := by show _ = _; rw [← ht0.out]; rfl
   have hn73 : n0 = 73 := by rw [← hn0.out, ← ht3.out]; simp [hkh.out, hchh.out, be8_len]
   subst hn73
   have hN1 : (0 : Int) ≤ (N : Int) := by omega
   have hT0 : Hid (Tab (w1.alloc (.cells #[.int .u8 0, .int .u8 0, .int .u8 0, .int .u8 0, .int .u8 0, .int .u8 0, .int .u8 0, .int .u8 0] 223)) w1.heap.size 223 8 (eightTab N 0)) := Tab.new w1 _ _ 8 _ rfl (fun j hj => by
    match j, hj with
    | 0, _ => rfl
    | 1, _ => rfl
    | 2, _ => rfl
    | 3, _ => rfl
    | 4, _ => rfl
    | 5, _ => rfl
    | 6, _ => rfl
    | 7, _ => rfl
    | j + 8, h => omega)
   clear hcnt hN40 ht0 hn0 hr1 hx1
   go_wp2_with fail
   go_loopw [23] (fun v wr => ∃ i : Nat, v = .int .i64 (i : Int) ∧ i ≤ 8 ∧ Hid (Tab wr w1.heap.size 223 8 (eightTab N i)) ∧ Hid (Below w1.heap.size w1 wr)) (fun v _ => 8 - (intOf v).toNat)
   case atStart => exact ⟨0, rfl, by omega, hT0.out, Below.heap_below w1 _⟩
   case round =>
    clear hT0
    obtain ⟨i, rfl, hi, hT, hW⟩ := hrel
    by_cases hlt : i < 8
    ·have hz : (i : Int) < 8 := by omega
     have hzi : (0 : Int) ≤ (i : Int) := by omega
     obtain ⟨x, hx⟩ : ∃ x, Hid (x = byteAt N (56 - 8 * i)) := ⟨_, rfl⟩
     have z1 : IntKind.i64.wrap (7 - (i : Int)) = 7 - (i : Int) := IntWalk.i64_in _ (by omega)
     have z2 : IntKind.i64.wrap (8 * (7 - (i : Int))) = 8 * (7 - (i : Int)) := IntWalk.i64_in _ (by omega)
     have y4 : (8 * (7 - (i : Int))).toNat = 56 - 8 * i := by omega
     have y3 : IntKind.u8.wrap ((N : Int) / 2 ^ (56 - 8 * i)) = b8 x := by
      rw [hx.out, ← b8_at]
      simp [IntKind.wrap, IntKind.bits, IntKind.signed]
     have y5 : (8 * (7 - (i : Int))) < 64 := by omega
     have y6 : 0 ≤ (8 * (7 - (i : Int))) := by omega
     have y7 : (0 : Int) ≤ (N : Int) / 2 ^ (56 - 8 * i) := Int.ediv_nonneg (by omega) (by exact Int.le_of_lt (Int.pow_pos (by decide)))
     have hgd : Hid ((be8 N).getD i 0 = x) := by show _ = _; rw [List.getD, be8_at N i hlt, hx.out]; rfl
     have f0 : wr.frozen? ⟨w1.heap.size, i, none⟩ = false := hT.out.frozen _
     have e0 : wr.cell? ⟨w1.heap.size, i, none⟩ = some (eightTab N i i) := hT.out.cell hlt
     have e1 : wr.cell? ⟨w.heap.size, 1, none⟩ = some (.int .i64 (N : Int)) := (hW.out.cell (p := ⟨w.heap.size, 1, none⟩) hP1.out.lt).trans ((hP1.out.cell 1).trans ic1.out)
     have hi8 : Hid (i < 8) := hlt
     clear hlt
     go_wp2_with fail
     go_roundw
     case rel => exact ⟨i + 1, by go_num, hi8.out, hT.out.set_ i _ (fun j _ => by rw [eightTab_succ, hgd.out]; rfl), hW.out.trans (Kept.below_of ((Kept.refl (· = w1.heap.size) wr).setCell (.inl rfl) _) (Nat.le_refl _) hW.out.size)⟩
     case measure => (have := hi8.out; simp [intOf]; omega)
    ·obtain rfl : i = 8 := by omega
     have hRk : Hid (Reads wr 1 (some ⟨w.heap.size + 1, 0, none⟩) 32 (cells8 k)) := by
      have h := Blk.reads (size := 1) (n := 32) (((hW.out.block _ hK1.out.lt).trans hK1.out : Blk wr (w.heap.size + 1) 23 (cells8 k).toArray)) 0 (cells8 k) (by rw [cells8_len, hkh.out]) (fun j u hu => by rw [Nat.zero_add, List.getElem?_toArray]; exact hu)
      exact (h : Reads wr 1 (some ⟨w.heap.size + 1, 0, none⟩) 32 (cells8 k))
     have hRc : Hid (Reads wr 1 (some ⟨w.heap.size, 2, none⟩) 32 (cells8 ch)) := by
      have h := Blk.reads (size := 1) (n := 32) (((hW.out.block _ hP1.out.lt).trans hP1.out : Blk wr w.heap.size 135 cs)) 2 (cells8 ch) (by rw [cells8_len, hchh.out]) (fun j u hu => ich.out j u hu)
      exact (h : Reads wr 1 (some ⟨w.heap.size, 2, none⟩) 32 (cells8 ch))
     have hR8 : Hid (Reads wr 1 (some ⟨w1.heap.size, 0, none⟩) 8 (cells8 (be8 N))) := by
      have h := hT.out.reads 0 8 1 (by omega)
      have e : ((List.range (8 * 1)).map fun j => eightTab N 8 (0 + j)) = cells8 (be8 N) := by
       apply List.ext_getElem?
       intro j
       rw [List.getElem?_map]
       by_cases hj : j < 8
       ·rw [List.getElem?_range (by omega), cells8_at _ _ (by rw [be8_len]; exact hj)]
        show some (eightTab N 8 (0 + j)) = _
        unfold eightTab
        rw [Nat.zero_add, if_pos hj]
       ·rw [List.getElem?_eq_none (by simp; omega), List.getElem?_eq_none (by rw [cells8_len, be8_len]; omega)]
        rfl
      rw [e] at h
      exact h
     have hlt3 : Hid (w.heap.size < wr.heap.size ∧ w.heap.size + 1 < wr.heap.size ∧ w1.heap.size < wr.heap.size) := by
      have h1 := hT.out.lt
      have h2 := hb1.out.size
      have h3 := hs0.out
      exact ⟨by omega, by omega, by omega⟩
     obtain ⟨wq, hwq⟩ : ∃ wq, Hid (tW3 wr ⟨w.heap.size + 1, 0, none⟩ ⟨w1.heap.size, 0, none⟩ ⟨w.heap.size, 2, none⟩ = wq) := ⟨_, Lib.hid rfl⟩
     have hbq : Hid (Below wr.heap.size wr wq) := by show Below _ _ _; rw [← hwq.out]; exact tW3_below _ _ _ _
     have hsq : Hid (wq.heap.size = wr.heap.size + 1) := by show _ = _; rw [← hwq.out]; exact tW3_size _ _ _ _
     have hT3 : Hid (Calls Tryd.prog 160 #[.int .i64 3, .slice (some ⟨wr.heap.size, 0, none⟩) 3 3] wq fun e w' => ∃ v, e = .returned v ∧ Below wq.heap.size wq w' ∧ w'.ownsRow wq.heap.size 5 1 v 73 (cells8 t0)) := by
      have hp := tW3_pieces hRk.out hR8.out hRc.out hkh.out (be8_len N) hchh.out
      have hl := tW3_lt wr (a := ⟨w.heap.size + 1, 0, none⟩) (b := ⟨w1.heap.size, 0, none⟩) (c := ⟨w.heap.size, 2, none⟩) hlt3.out.2.1 hlt3.out.2.2 hlt3.out.1 k (be8 N) ch
      rw [hwq.out] at hp hl
      have := text_any 3 [k, be8 N, ch] 3 rfl (some ⟨wr.heap.size, 0, none⟩) 3 wq (by decide) 72 (by simp [hkh.out, hchh.out, be8_len]) (by decide) hp hl
      rw [show kb 3 :: [k, be8 N, ch].flatten = t0 by rw [← ht3.out]; simp] at this
      exact this
     clear hT hRk hRc hR8 hi hlt
     go_wp2_with fail
     refine held_start (fun _ => True) 8 rfl (by kernel_rfl) ?_
     refine Held.tk0 (i := 0) (v := .slice (some ⟨w.heap.size + 1, 0, none⟩) 32 32) rfl trivial (fun w' hw' => by go_simp) ?_
     (intro K k; go_simp; apply k; clear k K)
     refine Held.tk0 (i := 1) (v := .slice (some ⟨w1.heap.size, 0, none⟩) 8 8) rfl trivial (fun w' hw' => by go_simp) ?_
     (intro K k; go_simp; apply k; clear k K)
     refine Held.tk0 (i := 2) (v := .pointer (some ⟨w.heap.size, 1, none⟩)) rfl trivial (fun w' hw' => by go_simp) ?_
     (intro K k; go_simp; apply k; clear k K)
     refine Held.tk0 (i := 3) (v := .pointer (some ⟨w.heap.size, 2, none⟩)) rfl trivial (fun w' hw' => by go_simp) ?_
     (intro K k; go_simp; apply k; clear k K)
     refine Held.tk0 (i := 4) (v := .slice (some ⟨w.heap.size, 2, none⟩) 32 32) rfl trivial (fun w' hw' => by go_simp) ?_
     (intro K k; go_simp; apply k; clear k K)
     refine held_only (i := 5) rfl (by kernel_rfl) (by rfl) (fun K hK => ?_)
     go_simp
     refine hK _ _ trivial ?_
     clear hK K
     change wpAnyH _ _ _ _ _ _ _ _ (tW3 wr ⟨w.heap.size + 1, 0, none⟩ ⟨w1.heap.size, 0, none⟩ ⟨w.heap.size, 2, none⟩)
     rw [hwq.out]
     refine held_only (i := 6) rfl (by kernel_rfl) (by rfl) (fun K hK => ?_)
     refine wp_fn (R := fun v w'' => Below wq.heap.size wq w'' ∧ w''.ownsRow wq.heap.size 5 1 v 73 (cells8 t0)) (args := #[.int .i64 3, .slice (some ⟨wr.heap.size, 0, none⟩) 3 3]) _ _ rfl rfl Tryd.func160 (by kernel_rfl) (by kernel_rfl) (hT3.out.mono fun e w'' ⟨v, he, hb, ho⟩ => ⟨_, he, hb, ho⟩) ?_
     rintro v9 w9 ⟨hk9, ho9⟩
     obtain ⟨g9, c9, rfl, hc9, hr9, hg9, hg9'⟩ := txt_form ho9 (by decide)
     go_simp
     refine hK _ _ trivial ?_
     clear hK K
     refine Held.tk0 (i := 7) (v := .slice (some ⟨g9, 0, none⟩) 73 c9) rfl trivial (fun w' hw' => by go_simp) ?_
     (intro K k; go_simp; apply k; clear k K)
     refine held_end (by kernel_rfl) ?_
     go_wp2_with fail
     have hbx : Hid (Below w0.heap.size w0 w9) := hb1.out.trans ((hW.out.trans ((hbq.out.trans (hk9.mono (by have := hsq.out; omega))).mono hW.out.size)).mono hb1.out.size)
     go_meet
     case rel => exact ⟨g9, c9, rfl, ⟨hc9, by have := hsq.out; have := hW.out.size; have := hb1.out.size; omega, hg9'⟩, hr9, hbx.out⟩
 case rest =>
  obtain ⟨gt, ct, rfl, hgt, hq0, hb2⟩ := hcut
  obtain ⟨w2, rfl⟩ : ∃ w2 : World, w2 = wc := ⟨_, rfl⟩
  clear hr1 hx1 hP1 hK1 hb1 d0 hcnt
  have hbw2 : Hid (Below w.heap.size w w2) := hb0.out.trans (hb2.out.mono hb0.out.size)
  obtain ⟨wa, hwa⟩ : ∃ wa, Hid (wa = w2.alloc (.cells #[.slice (some ⟨gt, 0, none⟩) n0 ct] 27)) := ⟨_, Lib.hid rfl⟩
  have hba : Hid (Below w2.heap.size w2 wa) := by show Below _ _ _; rw [hwa.out]; exact Below.heap_below _ _
  have hbwa : Hid (Below w.heap.size w wa) := hbw2.out.trans (hba.out.mono hbw2.out.size)
  have hqa : Hid (Reads wa 1 (some ⟨gt, 0, none⟩) n0 (cells8 t0)) := hq0.out.below hba.out
  go_upto_region 11 with fail
  change Code.wp _ _ _ _ (w2.alloc (.cells #[.slice (some ⟨gt, 0, none⟩) n0 ct] 27))
  rw [← hwa.out]
  go_wp2_with (first
   | (go_at_call 161; refine (hSum.out t0 n0 hn0.out hn0b.out.2 gt ct wa hgt.out.1 hbwa.out hqa.out).mono ?_; rintro e w3 ⟨rfl, hk⟩; have hb3 : Hid (Below wa.heap.size wa w3) := hk; clear hk)
   | (go_at_call 120; refine (hCut.out t0 w3).mono ?_; rw [hz0.out]; rintro e w4 ⟨rfl, hk⟩; have hb4 : Hid (Below wa.heap.size wa w4) := hb3.out.trans (hk.mono hb3.out.size); clear hk hb3)
   | ((with_reducible change wpList _ _ _ ({ dst := none, op := Op.store 23 (.tmp 14) _, type := _, pos := _, after := _, guard := _ } :: _) _ _); refine wpList_store_whole (o := ⟨none, _, _, _, _, _⟩) rfl 23 (.tmp 14) (.tmp 49) rfl (w4.heap.size) ((cells8 z0).toArray) rfl rfl 23 (Z32) (Blk.new w4 _ _) Fz0.out.size Fz0.out.zero Fz0.out.one ?_; intro w5 hB5 hk5; replace hB5 := Lib.hid hB5; replace hk5 := Lib.hid hk5))
  have hC0 : Hid (CAt w0 w5 w4.heap.size (z0, [t0]) (.slice (some ⟨w2.heap.size, 0, none⟩) 1 1) [.slice (some ⟨gt, 0, none⟩) n0 ct]) := by
   have h4 := hb4.out
   rw [hwa.out] at h4
   have := CAt.start (q := t0) (z := z0) (gt := gt) (ct := ct) hb2.out (by rw [hn0.out]; exact hq0.out) ⟨hgt.out.2.1, hgt.out.2.2⟩ (by rw [hn0.out]; exact hgt.out.1) (by rw [hn0.out]; exact h4) hB5.out hk5.out
   rwa [hn0.out] at this
  obtain ⟨br, hbr⟩ : ∃ br, w4.heap.size = br := ⟨_, rfl⟩
  rw [hbr] at hC0 ⊢
  clear hbr hB5 hk5 hb4 hqa hba hbwa hwa hgt hq0 hb2 hbw2
  go_loopw [13, 52] (fun v u wr => ∃ (h j : Nat) (ts : List Text) (x : Text) (Av : Option Addr) (cv : Nat) (xs : List Value), v = .slice Av j cv ∧ u = .int .i64 (h : Int) ∧ Hid (j = h + 1) ∧ Hid (h ≤ m) ∧ Hid (lead s k t0 l h = (ts, x)) ∧ Hid (CAt w0 wr br (x, ts) (.slice Av j cv) xs)) (fun _ v _ => m - (intOf v).toNat)
  case atStart => exact ⟨0, 1, _, _, _, _, _, rfl, rfl, rfl, Nat.zero_le _, hlead0.out, hC0.out⟩
  case round =>
   clear hC0 hlead0
   obtain ⟨h, j, ts, x, Av, cv, xs, rfl, rfl, hj, hh, hL, hC⟩ := hrel
   have hbw : Hid (Below w.heap.size w wr) := hb0.out.trans (hC.out.low.mono hb0.out.size)
   have hKr : Hid (Blk wr (w.heap.size + 1) 23 (cells8 k).toArray) := (hC.out.low.block _ (by have := hs0.out; omega)).trans hK0.out
   have hxl : Hid (x.length = 32) := by
    show _ = _
    have := lead_dig s k t0 l h
    rwa [hL.out] at this
   have Fx := Lib.hid (fit (x := x) hxl.out)
   have hDr : Hid (Blk wr br 23 (cells8 x).toArray) := hC.out.dig
   by_cases hlt : h < m
   ·obtain ⟨nd, hnd⟩ : ∃ nd, l[h]? = some nd := ⟨_, List.getElem?_eq_getElem (by rw [hr.out.1]; exact hlt)⟩
    have hndl := Lib.hid (hr.out.2.1.at_ hnd)
    have Fn := Lib.hid (fit (x := nd) hndl.out)
    obtain ⟨b, o, rfl, hbl, hdc0⟩ := hr.out.at_ hnd
    have hdc : Hid (∀ i v, (cells8 nd)[i]? = some v → wr.cell? ⟨b, o + h * 32 + i, none⟩ = some v) := fun i v hv => (hbw.out.cell (p := ⟨b, o + h * 32 + i, none⟩) hbl).trans (hdc0 i v hv)
    have hlen : Hid (ts.length = j) := by
     show _ = _
     have := lead_len s k t0 l h
     rw [hL.out] at this
     rw [this, hj.out]
    obtain ⟨r255, hr255⟩ : ∃ r, 255 - h = r := ⟨_, rfl⟩
    have hm6 := hmh.out
    have z1 : (h : Int) < (m : Int) := by omega
    have z2 : (0 : Int) ≤ (h : Int) := by omega
    have z3 : IntKind.i64.wrap (255 - (h : Int)) = (r255 : Int) := by rw [IntWalk.i64_in _ (by omega)]; omega
    have z4 : IntKind.i64.wrap ((h : Int) + 1) = (h : Int) + 1 := IntWalk.i64_in _ (by omega)
    have z5 : IntKind.i64.wrap (h : Int) = (h : Int) := IntWalk.i64_in _ (by omega)
    have hbit : Hid (∀ w', Calls Tryd.prog 162 #[.agg (cells8 k).toArray, .int .i64 (r255 : Int)] w' fun e w'' => e = .returned (.int .i64 (kbit k r255 : Nat)) ∧ Below w'.heap.size w' w'') := fun w' => bit_any k hkh.out r255 (by omega) w'
    obtain ⟨kv, hkv⟩ : ∃ kv, kbit k r255 = kv := ⟨_, rfl⟩
    have hkv2 : kv < 2 := by rw [← hkv]; unfold kbit; omega
    have hc1 : Hid (j + 1 ≤ maxLen) := by have := hj.out; show _ ≤ _; unfold maxLen; omega
    have hc3 : Hid ((j + 1) * 24 ≤ 140737488355328) := by have := hj.out; show _ ≤ _; omega
    rw [hkv] at hbit
    have hqe : Hid (kv = 0 → upT k h x nd = kb 4 :: (x ++ nd)) := fun e => by unfold upT; rw [hr255, hkv, if_pos e]
    have hqo : Hid (kv = 1 → upT k h x nd = kb 4 :: (nd ++ x)) := fun e => by unfold upT; rw [hr255, hkv, if_neg (by omega)]
    have hlth : Hid (h < m) := hlt
    have hndh := Lib.hid hnd
    clear hdc0 hbl hnd hlt hr255 hkv hm6
    go_wp2_with (first
     | ((with_reducible change wpList _ _ _ (⟨some 56, _, _, _, _, _⟩ :: _) _ _); refine wpList_load_part (o := ⟨some 56, _, _, _, _, _⟩) rfl 23 (.tmp 55) rfl (b) (o + h * 32) rfl (cells8 nd) _ hdc.out Tryd.underlying23 rfl Fn.out.part ?_)
     | ((with_reducible change wpList _ _ _ ({ dst := none, op := Op.store 23 (.tmp 16) _, type := _, pos := _, after := _, guard := _ } :: _) _ _); refine wpList_store_whole0 rfl rfl 23 (.tmp 16) (.tmp 56) rfl (wr.heap.size) ((cells8 nd).toArray) rfl rfl 23 (Z32) (Blk.new wr _ _) Fn.out.size Fn.out.zero Fn.out.one ?_; intro w4 hB4 hk4; have hb4 := Lib.hid (kept_fresh hk4); replace hB4 := Lib.hid hB4; clear hk4))
    have hX4 : Hid (Blk w4 br 23 (cells8 x).toArray) := (hb4.out.block _ hDr.out.lt).trans hDr.out
    go_cut [17, 18] from 57 to 58 (fun v u wr' => ∃ m17 m18 : Nat, v = .pointer (some ⟨m17, 0, none⟩) ∧ u = .pointer (some ⟨m18, 0, none⟩) ∧ Hid (m17 ≠ m18) ∧ Hid (w4.heap.size ≤ m17) ∧ Hid (w4.heap.size ≤ m18) ∧ Hid (Blk wr' m17 23 (cells8 x).toArray) ∧ Hid (Blk wr' m18 23 (cells8 nd).toArray) ∧ Hid (Below w4.heap.size w4 wr'))
    case first =>
     have s0 : Hid (Below w4.heap.size w4 w4.drew) := (Below.refl _ _).drew
     refine held_start (fun w' => Below w4.heap.size w4 w') 6 rfl (by kernel_rfl) ?_
     refine Held.tk0 (i := 0) (v := .agg ((cells8 x).toArray)) rfl s0.out (fun w' hw' => exec_row 23 (.tmp 14) rfl (br) rfl 23 ((cells8 x).toArray) (0, 0) _ ((hw'.block _ hX4.out.lt).trans hX4.out) Tryd.underlying23 rfl Fx.out.size) ?_
     (intro K k; go_simp; apply k; clear k K)
     refine Held.tk0 (i := 1) (v := .agg ((cells8 nd).toArray)) rfl s0.out (fun w' hw' => exec_row 23 (.tmp 16) rfl (wr.heap.size) rfl 23 ((cells8 nd).toArray) (0, 0) _ ((hw'.block _ hB4.out.lt).trans hB4.out) Tryd.underlying23 rfl Fn.out.size) ?_
     (intro K k; go_simp; apply k; clear k K)
     refine held_two (i := 2) (j := 3) rfl rfl (by kernel_rfl) (by rfl) (by rfl) (fun K hK => ?_) (fun K hK => ?_)
     ·have h5 : Hid (Below w4.heap.size w4 (w4.drew.alloc (.cells Z32 23))) := s0.out.alloc s0.out.size _
      have bA : Hid (Blk (w4.drew.alloc (.cells Z32 23)) w4.drew.heap.size 23 Z32) := Blk.new _ _ _
      go_simp
      refine hK _ _ h5.out ?_
      clear hK K
      refine held_only (i := 3) rfl (by kernel_rfl) (by rfl) (fun K hK => ?_)
      have h6 : Hid (Below w4.heap.size w4 ((w4.drew.alloc (.cells Z32 23)).alloc (.cells Z32 23))) := h5.out.alloc h5.out.size _
      have bB : Hid (Blk ((w4.drew.alloc (.cells Z32 23)).alloc (.cells Z32 23)) (w4.drew.alloc (.cells Z32 23)).heap.size 23 Z32) := Blk.new _ _ _
      go_simp
      refine hK _ _ h6.out ?_
      clear hK K
      have hzA : Hid ((w4.drew.alloc (.cells Z32 23)).heap.size = w4.heap.size + 1) := by show _ = _; simp
      replace bA : Hid (Blk ((w4.drew.alloc (.cells Z32 23)).alloc (.cells Z32 23)) w4.heap.size 23 Z32) := bA.out.alloc _
      replace bB : Hid (Blk ((w4.drew.alloc (.cells Z32 23)).alloc (.cells Z32 23)) (w4.heap.size + 1) 23 Z32) := by have := bB.out; rw [hzA.out] at this; exact this
      refine held_only (i := 4) rfl (by kernel_rfl) (by rfl) (fun K hK => ?_)
      refine wp_store_whole 23 (.tmp 17) (.tmp 57) rfl (w4.heap.size) ((cells8 x).toArray) rfl rfl 23 Z32 bA.out Fx.out.size Fx.out.zero Fx.out.one ?_
      intro w7 q7 k7
      have h7 : Hid (Below w4.heap.size w4 w7) := h6.out.trans (Kept.below_of k7 (by omega) h6.out.size)
      have o7 : Hid (Blk w7 (w4.heap.size + 1) 23 Z32) := bB.out.kept k7 (by omega)
      go_simp
      refine hK _ _ h7.out ?_
      clear hK K
      refine held_only (i := 5) rfl (by kernel_rfl) (by rfl) (fun K hK => ?_)
      refine wp_store_whole 23 (.tmp 18) (.tmp 58) rfl (w4.heap.size + 1) ((cells8 nd).toArray) rfl rfl 23 Z32 o7.out Fn.out.size Fn.out.zero Fn.out.one ?_
      intro w8 q8 k8
      have h8 : Hid (Below w4.heap.size w4 w8) := h7.out.trans (Kept.below_of k8 (by omega) h7.out.size)
      have o8 : Hid (Blk w8 (w4.heap.size) 23 (cells8 x).toArray) := q7.kept k8 (by omega)
      go_simp
      refine hK _ _ h8.out ?_
      clear hK K
      refine held_end (by kernel_rfl) ?_
      go_wp2_with fail
      go_meet
      case rel => exact ⟨w4.heap.size, w4.heap.size + 1, rfl, rfl, (by show _ ≠ _; omega), (by show _ ≤ _; omega), (by show _ ≤ _; omega), o8.out, q8, h8.out⟩
     ·have h5 : Hid (Below w4.heap.size w4 (w4.drew.alloc (.cells Z32 23))) := s0.out.alloc s0.out.size _
      have bA : Hid (Blk (w4.drew.alloc (.cells Z32 23)) w4.drew.heap.size 23 Z32) := Blk.new _ _ _
      go_simp
      refine hK _ _ h5.out ?_
      clear hK K
      refine held_only (i := 2) rfl (by kernel_rfl) (by rfl) (fun K hK => ?_)
      have h6 : Hid (Below w4.heap.size w4 ((w4.drew.alloc (.cells Z32 23)).alloc (.cells Z32 23))) := h5.out.alloc h5.out.size _
      have bB : Hid (Blk ((w4.drew.alloc (.cells Z32 23)).alloc (.cells Z32 23)) (w4.drew.alloc (.cells Z32 23)).heap.size 23 Z32) := Blk.new _ _ _
      go_simp
      refine hK _ _ h6.out ?_
      clear hK K
      have hzA : Hid ((w4.drew.alloc (.cells Z32 23)).heap.size = w4.heap.size + 1) := by show _ = _; simp
      replace bA : Hid (Blk ((w4.drew.alloc (.cells Z32 23)).alloc (.cells Z32 23)) w4.heap.size 23 Z32) := bA.out.alloc _
      replace bB : Hid (Blk ((w4.drew.alloc (.cells Z32 23)).alloc (.cells Z32 23)) (w4.heap.size + 1) 23 Z32) := by have := bB.out; rw [hzA.out] at this; exact this
      refine held_only (i := 4) rfl (by kernel_rfl) (by rfl) (fun K hK => ?_)
      refine wp_store_whole 23 (.tmp 17) (.tmp 57) rfl (w4.heap.size + 1) ((cells8 x).toArray) rfl rfl 23 Z32 bB.out Fx.out.size Fx.out.zero Fx.out.one ?_
      intro w7 q7 k7
      have h7 : Hid (Below w4.heap.size w4 w7) := h6.out.trans (Kept.below_of k7 (by omega) h6.out.size)
      have o7 : Hid (Blk w7 (w4.heap.size) 23 Z32) := bA.out.kept k7 (by omega)
      go_simp
      refine hK _ _ h7.out ?_
      clear hK K
      refine held_only (i := 5) rfl (by kernel_rfl) (by rfl) (fun K hK => ?_)
      refine wp_store_whole 23 (.tmp 18) (.tmp 58) rfl (w4.heap.size) ((cells8 nd).toArray) rfl rfl 23 Z32 o7.out Fn.out.size Fn.out.zero Fn.out.one ?_
      intro w8 q8 k8
      have h8 : Hid (Below w4.heap.size w4 w8) := h7.out.trans (Kept.below_of k8 (by omega) h7.out.size)
      have o8 : Hid (Blk w8 (w4.heap.size + 1) 23 (cells8 x).toArray) := q7.kept k8 (by omega)
      go_simp
      refine hK _ _ h8.out ?_
      clear hK K
      refine held_end (by kernel_rfl) ?_
      go_wp2_with fail
      go_meet
      case rel => exact ⟨w4.heap.size + 1, w4.heap.size, rfl, rfl, (by show _ ≠ _; omega), (by show _ ≤ _; omega), (by show _ ≤ _; omega), o8.out, q8, h8.out⟩
    case rest =>
     obtain ⟨m17, m18, rfl, rfl, hne, hl17, hl18, hM17, hM18, hk5⟩ := hcut
     obtain ⟨w5, rfl⟩ : ∃ w5 : World, w5 = wc := ⟨_, rfl⟩
     have hb5 : Hid (Below wr.heap.size wr w5) := hb4.out.trans (hk5.out.mono hb4.out.size)
     have hK5 : Hid (Blk w5 (w.heap.size + 1) 23 (cells8 k).toArray) := (hb5.out.block _ hKr.out.lt).trans hKr.out
     have hX5 : Hid (Blk w5 br 23 (cells8 x).toArray) := (hb5.out.block _ hDr.out.lt).trans hDr.out
     have hN5 : Hid (Blk w5 wr.heap.size 23 (cells8 nd).toArray) := (hk5.out.block _ hB4.out.lt).trans hB4.out
     have hl4 : Hid (w4.heap.size ≤ w5.heap.size) := hk5.out.size
     by_cases hkv0 : kv = 0
     ·subst hkv0
      have hq := hqe.out rfl
      clear hqo hqe hkv2
      go_wp2_with (first
       | ((with_reducible change wpList _ _ _ (⟨some 59, _, _, _, _, _⟩ :: _) _ _); refine wpList_load_row (o := ⟨some 59, _, _, _, _, _⟩) rfl 23 (.tmp 6) rfl (w.heap.size + 1) rfl 23 ((cells8 k).toArray) (0, 0) _ hK5.out Tryd.underlying23 rfl Fk.out.size ?_)
       | (go_at_call 162; refine (hbit.out w5).mono ?_; rintro e w6 ⟨rfl, hk⟩; have hk56 : Hid (Below w5.heap.size w5 w6) := hk; clear hk hbit))
      have hk6 : Hid (Below w4.heap.size w4 w6) := hk5.out.trans (hk56.out.mono hk5.out.size)
      have hM17b : Hid (Blk w6 m17 23 (cells8 x).toArray) := (hk56.out.block _ hM17.out.lt).trans hM17.out
      have hM18b : Hid (Blk w6 m18 23 (cells8 nd).toArray) := (hk56.out.block _ hM18.out.lt).trans hM18.out
      clear hk56 hM17 hM18 hX5 hN5 hb5 hK5
      obtain ⟨wx, rfl⟩ : ∃ wx : World, wx = w6 := ⟨_, rfl⟩
      have hMa := hM17b
      have hMb := hM18b
      have h6x : Hid (Below wr.heap.size wr wx) := hb4.out.trans (hk6.out.mono hb4.out.size)
      have hXx : Hid (Blk wx br 23 (cells8 x).toArray) := (h6x.out.block _ hDr.out.lt).trans hDr.out
      obtain ⟨q, hqq⟩ : ∃ q : Text, Hid (kb 4 :: (x ++ nd) = q) := ⟨_, Lib.hid rfl⟩
      have hql : Hid (q.length = 65) := by show _ = _; rw [← hqq.out]; simp [hxl.out, hndl.out]
      rw [hqq.out] at hq
      have hLs : Hid (lead s k t0 l (h + 1) = (ts ++ [q], sumOf s q)) := lead_succ s k t0 l h hL.out hndh.out hq
      obtain ⟨wq, hwq⟩ : ∃ wq, Hid (tW wx m17 m18 = wq) := ⟨_, Lib.hid rfl⟩
      have hbq : Hid (Below wx.heap.size wx wq) := by show Below _ _ _; rw [← hwq.out]; exact tW_below _ _ _
      have hsq : Hid (wq.heap.size = wx.heap.size + 1) := by show _ = _; rw [← hwq.out]; exact tW_size _ _ _
      have hT4 : Hid (Calls Tryd.prog 160 #[.int .i64 4, .slice (some ⟨wx.heap.size, 0, none⟩) 2 2] wq fun e w' => ∃ v, e = .returned v ∧ Below wq.heap.size wq w' ∧ w'.ownsRow wq.heap.size 5 1 v 65 (cells8 q)) := by
       have hp := tW_pieces hMa.out hMb.out hxl.out hndl.out
       have hl := tW_lt wx hMa.out.lt hMb.out.lt x nd
       rw [hwq.out] at hp hl
       have := text_any 4 [x, nd] 2 rfl (some ⟨wx.heap.size, 0, none⟩) 2 wq (by decide) 64 (by simp [hxl.out, hndl.out]) (by decide) hp hl
       rw [show kb 4 :: [x, nd].flatten = q by rw [← hqq.out]; simp] at this
       exact this
      obtain ⟨zq, hzq⟩ : ∃ zq, Hid (sumOf s q = zq) := ⟨_, Lib.hid rfl⟩
      have hzql : Hid (zq.length = 32) := by show _ = _; rw [← hzq.out]; exact sumOf_len _ _
      have Fq := Lib.hid (fit (x := zq) hzql.out)
      have hsame : Hid ((cells8 x).toArray.size = (cells8 zq).toArray.size) := Fq.out.same _ hxl.out
      rw [hzq.out] at hLs
      clear hq
      refine held_start (fun _ => True) 5 rfl (by kernel_rfl) ?_
      refine Held.tk0 (i := 0) (v := .slice (some ⟨m17, 0, none⟩) 32 32) rfl trivial (fun w' hw' => by go_simp) ?_
      (intro K k; go_simp; apply k; clear k K)
      refine Held.tk0 (i := 1) (v := .slice (some ⟨m18, 0, none⟩) 32 32) rfl trivial (fun w' hw' => by go_simp) ?_
      (intro K k; go_simp; apply k; clear k K)
      refine held_only (i := 2) rfl (by kernel_rfl) (by rfl) (fun K hK => ?_)
      go_simp
      refine hK _ _ trivial ?_
      clear hK K
      change wpAnyH _ _ _ _ _ _ _ _ (tW wx m17 m18)
      rw [hwq.out]
      refine held_only (i := 3) rfl (by kernel_rfl) (by rfl) (fun K hK => ?_)
      refine wp_fn (R := fun v w'' => Below wq.heap.size wq w'' ∧ w''.ownsRow wq.heap.size 5 1 v 65 (cells8 q)) (args := #[.int .i64 4, .slice (some ⟨wx.heap.size, 0, none⟩) 2 2]) _ _ rfl rfl Tryd.func160 (by kernel_rfl) (by kernel_rfl) (hT4.out.mono fun e w'' ⟨v, he, hb, ho⟩ => ⟨_, he, hb, ho⟩) ?_
      rintro v7 w7 ⟨hk7, ho7⟩
      obtain ⟨gq, cq, rfl, hcq, hrq, hgq, hgq'⟩ := txt_form ho7 (by decide)
      go_simp
      refine hK _ _ trivial ?_
      clear hK K
      refine Held.tk0 (i := 4) (v := .slice (some ⟨gq, 0, none⟩) 65 cq) rfl trivial (fun w' hw' => by go_simp) ?_
      (intro K k; go_simp; apply k; clear k K)
      refine held_end (by kernel_rfl) ?_
      have hb7 : Hid (Below wx.heap.size wx w7) := hbq.out.trans (hk7.mono (by have := hsq.out; omega))
      have hgqh : Hid (wx.heap.size ≤ gq ∧ gq < w7.heap.size ∧ 65 ≤ cq) := ⟨by have := hsq.out; omega, hgq', hcq⟩
      replace hrq := Lib.hid hrq
      have hOw : Hid ((w7.alloc (.cells #[.slice (some ⟨gq, 0, none⟩) 65 cq] 27)).ownsRow w0.heap.size 27 1 (.slice Av j cv) j xs) := by
       have := hC.out.own
       rw [hlen.out] at this
       exact TreeRefRoot.own_below (TreeRefRoot.own_below (TreeRefRoot.own_below this h6x.out) hb7.out) (Below.heap_below w7 _)
      have hNw : Hid (Reads (w7.alloc (.cells #[.slice (some ⟨gq, 0, none⟩) 65 cq] 27)) 1 (some ⟨w7.heap.size, 0, none⟩) 1 [.slice (some ⟨gq, 0, none⟩) 65 cq]) := Blk.reads (Blk.new w7 27 #[.slice (some ⟨gq, 0, none⟩) 65 cq]) 0 _ rfl (fun j u hu => by rw [Nat.zero_add]; simpa using hu)
      have hbw7 : Hid (Below w0.heap.size w0 (w7.alloc (.cells #[.slice (some ⟨gq, 0, none⟩) 65 cq] 27))) := by
       have h1 := hC.out.low.trans (h6x.out.mono hC.out.low.size)
       have h2 := h1.trans (hb7.out.mono h1.size)
       exact h2.alloc h2.size _
      clear hk7 ho7 hcq hgq hgq' hT4
      go_upto_region 20 with ((with_reducible change wpList _ _ _ (⟨some 73, _, _, _, _, _⟩ :: _) _ _); refine wpList_append_src _ (o := ⟨some 73, _, _, _, _, _⟩) rfl (.tmp 70) (.tmp 72) 24 rfl w0.heap.size 27 i0 (.slice none 0 0) 1 24 Tryd.underlying24 ii iz0 iz1 iz2 rfl (by decide) (.slice Av j cv) j xs rfl hOw.out (some ⟨w7.heap.size, 0, none⟩) 1 1 [.slice (some ⟨gq, 0, none⟩) 65 cq] rfl hNw.out (fun e => by cases e) (one_one rfl) hc1.out hc3.out hbw7.out.size ?_; intro v8 w8 hG; obtain ⟨A8, c8, rfl, -⟩ := Append.Own.reads hG.own; have hb8 : Hid (Below w0.heap.size w0 w8) := hG.below hbw7.out hbw7.out.size (fun k e => (hOw.out.lt k e).1); replace hG := Lib.hid hG)
      have hq8 : Hid (Reads w8 1 (some ⟨gq, 0, none⟩) 65 (cells8 q)) := (hrq.out.alloc (.cells #[.slice (some ⟨gq, 0, none⟩) 65 cq] 27)).keep hG.out.grow.size (fun b o e hb => by
       injection e with e
       injection e with e1 e2
       subst e1
       exact hG.out.grow.block _ hb (fun e => by have := (hC.out.own.lt _ e.symm).2; have := hgqh.out; have := h6x.out.size; omega))
      have hX7 : Hid (Blk w7 br 23 (cells8 x).toArray) := (hb7.out.block _ hXx.out.lt).trans hXx.out
      have hX8 : Hid (Blk w8 br 23 (cells8 x).toArray) := Blk.grown (hX7.out.alloc _) hG.out.grow (fun e => hC.out.ne e.symm)
      have hbw8 : Hid (Below w.heap.size w w8) := hb0.out.trans (hb8.out.mono hb0.out.size)
      go_wp2_with (first
       | (go_at_call 161; refine (hSum.out q 65 hql.out (by omega) gq cq w8 hgqh.out.2.2 hbw8.out hq8.out).mono ?_; rintro e w9 ⟨rfl, hk⟩; have hb9 : Hid (Below w8.heap.size w8 w9) := hk; clear hk)
       | (go_at_call 120; refine (hCut.out q w9).mono ?_; rw [hzq.out]; rintro e w10 ⟨rfl, hk⟩; have hb10 : Hid (Below w8.heap.size w8 w10) := hb9.out.trans (hk.mono hb9.out.size); have hX10 : Hid (Blk w10 br 23 (cells8 x).toArray) := (hb10.out.block _ hX8.out.lt).trans hX8.out; clear hk hb9)
       | ((with_reducible change wpList _ _ _ ({ dst := none, op := Op.store 23 (.tmp 14) _, type := _, pos := _, after := _, guard := _ } :: _) _ _); refine wpList_store_whole0 rfl rfl 23 (.tmp 14) (.tmp 77) rfl br ((cells8 zq).toArray) rfl rfl 23 (cells8 x).toArray hX10.out Fq.out.size hsame.out Fq.out.one ?_; intro w11 q11 k11))
      go_roundw
      case rel => exact ⟨h + 1, j + 1, _, zq, A8, c8, _, rfl, by go_num, (show j + 1 = h + 1 + 1 by have := hj.out; omega), hlth.out, hLs.out, by
       have hh := hC.out.step (q := q) (gt := gq) (ct := cq) (st' := (zq, ts ++ [q])) hlen.out h6x.out hb7.out (by rw [hql.out]; exact hrq.out) ⟨hgqh.out.1, hgqh.out.2.1⟩ (by rw [hql.out]; exact hgqh.out.2.2) (by rw [hql.out]; exact hG.out) hb10.out q11 k11 rfl
       exact hh⟩
      case measure => (have := hlth.out; simp [intOf]; omega)
     ·obtain rfl : kv = 1 := by omega
      have hq := hqo.out rfl
      clear hqo hqe hkv2 hkv0
      go_wp2_with (first
       | ((with_reducible change wpList _ _ _ (⟨some 59, _, _, _, _, _⟩ :: _) _ _); refine wpList_load_row (o := ⟨some 59, _, _, _, _, _⟩) rfl 23 (.tmp 6) rfl (w.heap.size + 1) rfl 23 ((cells8 k).toArray) (0, 0) _ hK5.out Tryd.underlying23 rfl Fk.out.size ?_)
       | (go_at_call 162; refine (hbit.out w5).mono ?_; rintro e w6 ⟨rfl, hk⟩; have hk56 : Hid (Below w5.heap.size w5 w6) := hk; clear hk hbit))
      have hk6 : Hid (Below w4.heap.size w4 w6) := hk5.out.trans (hk56.out.mono hk5.out.size)
      have hM17b : Hid (Blk w6 m17 23 (cells8 x).toArray) := (hk56.out.block _ hM17.out.lt).trans hM17.out
      have hM18b : Hid (Blk w6 m18 23 (cells8 nd).toArray) := (hk56.out.block _ hM18.out.lt).trans hM18.out
      clear hk56 hM17 hM18 hX5 hN5 hb5 hK5
      go_cut [17, 18] from 64 to 65 (fun v u wr' => v = .pointer (some ⟨m17, 0, none⟩) ∧ u = .pointer (some ⟨m18, 0, none⟩) ∧ Hid (Blk wr' m17 23 (cells8 nd).toArray) ∧ Hid (Blk wr' m18 23 (cells8 x).toArray) ∧ Hid (Below w4.heap.size w4 wr'))
      case first =>
       have s0 : Hid (Below w4.heap.size w4 w6.drew) := hk6.out.drew
       refine held_start (fun w' => Below w4.heap.size w4 w') 4 rfl (by kernel_rfl) ?_
       refine Held.tk0 (i := 0) (v := .agg ((cells8 nd).toArray)) rfl s0.out (fun w' hw' => exec_row 23 (.tmp 16) rfl (wr.heap.size) rfl 23 ((cells8 nd).toArray) (0, 0) _ ((hw'.block _ hB4.out.lt).trans hB4.out) Tryd.underlying23 rfl Fn.out.size) ?_
       (intro K k; go_simp; apply k; clear k K)
       refine Held.tk0 (i := 1) (v := .agg ((cells8 x).toArray)) rfl s0.out (fun w' hw' => exec_row 23 (.tmp 14) rfl (br) rfl 23 ((cells8 x).toArray) (0, 0) _ ((hw'.block _ hX4.out.lt).trans hX4.out) Tryd.underlying23 rfl Fx.out.size) ?_
       (intro K k; go_simp; apply k; clear k K)
       have hM17d : Blk w6.drew m17 23 (cells8 x).toArray := hM17b.out
       have hM18d : Blk w6.drew m18 23 (cells8 nd).toArray := hM18b.out
       refine held_only (i := 2) rfl (by kernel_rfl) (by rfl) (fun K hK => ?_)
       refine wp_store_whole 23 (.tmp 17) (.tmp 64) rfl m17 ((cells8 nd).toArray) rfl rfl 23 (cells8 x).toArray hM17d Fn.out.size (Fn.out.same _ hxl.out) Fn.out.one ?_
       intro w7 q7 k7
       have h7 : Hid (Below w4.heap.size w4 w7) := s0.out.trans (Kept.below_of k7 hl17.out s0.out.size)
       have o7 : Hid (Blk w7 m18 23 (cells8 nd).toArray) := Blk.kept hM18d k7 (fun h => hne.out h.symm)
       go_simp
       refine hK _ _ h7.out ?_
       clear hK K
       refine held_only (i := 3) rfl (by kernel_rfl) (by rfl) (fun K hK => ?_)
       refine wp_store_whole 23 (.tmp 18) (.tmp 65) rfl m18 ((cells8 x).toArray) rfl rfl 23 (cells8 nd).toArray o7.out Fx.out.size (Fx.out.same _ hndl.out) Fx.out.one ?_
       intro w8 q8 k8
       have h8 : Hid (Below w4.heap.size w4 w8) := h7.out.trans (Kept.below_of k8 hl18.out h7.out.size)
       have o8 : Hid (Blk w8 m17 23 (cells8 nd).toArray) := Blk.kept q7 k8 (fun h => hne.out h)
       go_simp
       refine hK _ _ h8.out ?_
       clear hK K
       refine held_end (by kernel_rfl) ?_
       go_wp2_with fail
       go_meet
       case rel => exact ⟨rfl, rfl, o8.out, q8, h8.out⟩
      case rest =>
       obtain ⟨rfl, rfl, hMa, hMb, hkx⟩ := hcut
       obtain ⟨wx, rfl⟩ : ∃ wx : World, wx = wc := ⟨_, rfl⟩
       have h6x : Hid (Below wr.heap.size wr wx) := hb4.out.trans (hkx.out.mono hb4.out.size)
       have hXx : Hid (Blk wx br 23 (cells8 x).toArray) := (h6x.out.block _ hDr.out.lt).trans hDr.out
       go_wp2_with fail
       obtain ⟨q, hqq⟩ : ∃ q : Text, Hid (kb 4 :: (nd ++ x) = q) := ⟨_, Lib.hid rfl⟩
       have hql : Hid (q.length = 65) := by show _ = _; rw [← hqq.out]; simp [hxl.out, hndl.out]
       rw [hqq.out] at hq
       have hLs : Hid (lead s k t0 l (h + 1) = (ts ++ [q], sumOf s q)) := lead_succ s k t0 l h hL.out hndh.out hq
       obtain ⟨wq, hwq⟩ : ∃ wq, Hid (tW wx m17 m18 = wq) := ⟨_, Lib.hid rfl⟩
       have hbq : Hid (Below wx.heap.size wx wq) := by show Below _ _ _; rw [← hwq.out]; exact tW_below _ _ _
       have hsq : Hid (wq.heap.size = wx.heap.size + 1) := by show _ = _; rw [← hwq.out]; exact tW_size _ _ _
       have hT4 : Hid (Calls Tryd.prog 160 #[.int .i64 4, .slice (some ⟨wx.heap.size, 0, none⟩) 2 2] wq fun e w' => ∃ v, e = .returned v ∧ Below wq.heap.size wq w' ∧ w'.ownsRow wq.heap.size 5 1 v 65 (cells8 q)) := by
        have hp := tW_pieces hMa.out hMb.out hndl.out hxl.out
        have hl := tW_lt wx hMa.out.lt hMb.out.lt nd x
        rw [hwq.out] at hp hl
        have := text_any 4 [nd, x] 2 rfl (some ⟨wx.heap.size, 0, none⟩) 2 wq (by decide) 64 (by simp [hxl.out, hndl.out]) (by decide) hp hl
        rw [show kb 4 :: [nd, x].flatten = q by rw [← hqq.out]; simp] at this
        exact this
       obtain ⟨zq, hzq⟩ : ∃ zq, Hid (sumOf s q = zq) := ⟨_, Lib.hid rfl⟩
       have hzql : Hid (zq.length = 32) := by show _ = _; rw [← hzq.out]; exact sumOf_len _ _
       have Fq := Lib.hid (fit (x := zq) hzql.out)
       have hsame : Hid ((cells8 x).toArray.size = (cells8 zq).toArray.size) := Fq.out.same _ hxl.out
       rw [hzq.out] at hLs
       clear hq
       refine held_start (fun _ => True) 5 rfl (by kernel_rfl) ?_
       refine Held.tk0 (i := 0) (v := .slice (some ⟨m17, 0, none⟩) 32 32) rfl trivial (fun w' hw' => by go_simp) ?_
       (intro K k; go_simp; apply k; clear k K)
       refine Held.tk0 (i := 1) (v := .slice (some ⟨m18, 0, none⟩) 32 32) rfl trivial (fun w' hw' => by go_simp) ?_
       (intro K k; go_simp; apply k; clear k K)
       refine held_only (i := 2) rfl (by kernel_rfl) (by rfl) (fun K hK => ?_)
       go_simp
       refine hK _ _ trivial ?_
       clear hK K
       change wpAnyH _ _ _ _ _ _ _ _ (tW wx m17 m18)
       rw [hwq.out]
       refine held_only (i := 3) rfl (by kernel_rfl) (by rfl) (fun K hK => ?_)
       refine wp_fn (R := fun v w'' => Below wq.heap.size wq w'' ∧ w''.ownsRow wq.heap.size 5 1 v 65 (cells8 q)) (args := #[.int .i64 4, .slice (some ⟨wx.heap.size, 0, none⟩) 2 2]) _ _ rfl rfl Tryd.func160 (by kernel_rfl) (by kernel_rfl) (hT4.out.mono fun e w'' ⟨v, he, hb, ho⟩ => ⟨_, he, hb, ho⟩) ?_
       rintro v7 w7 ⟨hk7, ho7⟩
       obtain ⟨gq, cq, rfl, hcq, hrq, hgq, hgq'⟩ := txt_form ho7 (by decide)
       go_simp
       refine hK _ _ trivial ?_
       clear hK K
       refine Held.tk0 (i := 4) (v := .slice (some ⟨gq, 0, none⟩) 65 cq) rfl trivial (fun w' hw' => by go_simp) ?_
       (intro K k; go_simp; apply k; clear k K)
       refine held_end (by kernel_rfl) ?_
       have hb7 : Hid (Below wx.heap.size wx w7) := hbq.out.trans (hk7.mono (by have := hsq.out; omega))
       have hgqh : Hid (wx.heap.size ≤ gq ∧ gq < w7.heap.size ∧ 65 ≤ cq) := ⟨by have := hsq.out; omega, hgq', hcq⟩
       replace hrq := Lib.hid hrq
       have hOw : Hid ((w7.alloc (.cells #[.slice (some ⟨gq, 0, none⟩) 65 cq] 27)).ownsRow w0.heap.size 27 1 (.slice Av j cv) j xs) := by
        have := hC.out.own
        rw [hlen.out] at this
        exact TreeRefRoot.own_below (TreeRefRoot.own_below (TreeRefRoot.own_below this h6x.out) hb7.out) (Below.heap_below w7 _)
       have hNw : Hid (Reads (w7.alloc (.cells #[.slice (some ⟨gq, 0, none⟩) 65 cq] 27)) 1 (some ⟨w7.heap.size, 0, none⟩) 1 [.slice (some ⟨gq, 0, none⟩) 65 cq]) := Blk.reads (Blk.new w7 27 #[.slice (some ⟨gq, 0, none⟩) 65 cq]) 0 _ rfl (fun j u hu => by rw [Nat.zero_add]; simpa using hu)
       have hbw7 : Hid (Below w0.heap.size w0 (w7.alloc (.cells #[.slice (some ⟨gq, 0, none⟩) 65 cq] 27))) := by
        have h1 := hC.out.low.trans (h6x.out.mono hC.out.low.size)
        have h2 := h1.trans (hb7.out.mono h1.size)
        exact h2.alloc h2.size _
       clear hk7 ho7 hcq hgq hgq' hT4
       go_upto_region 20 with ((with_reducible change wpList _ _ _ (⟨some 73, _, _, _, _, _⟩ :: _) _ _); refine wpList_append_src _ (o := ⟨some 73, _, _, _, _, _⟩) rfl (.tmp 70) (.tmp 72) 24 rfl w0.heap.size 27 i0 (.slice none 0 0) 1 24 Tryd.underlying24 ii iz0 iz1 iz2 rfl (by decide) (.slice Av j cv) j xs rfl hOw.out (some ⟨w7.heap.size, 0, none⟩) 1 1 [.slice (some ⟨gq, 0, none⟩) 65 cq] rfl hNw.out (fun e => by cases e) (one_one rfl) hc1.out hc3.out hbw7.out.size ?_; intro v8 w8 hG; obtain ⟨A8, c8, rfl, -⟩ := Append.Own.reads hG.own; have hb8 : Hid (Below w0.heap.size w0 w8) := hG.below hbw7.out hbw7.out.size (fun k e => (hOw.out.lt k e).1); replace hG := Lib.hid hG)
       have hq8 : Hid (Reads w8 1 (some ⟨gq, 0, none⟩) 65 (cells8 q)) := (hrq.out.alloc (.cells #[.slice (some ⟨gq, 0, none⟩) 65 cq] 27)).keep hG.out.grow.size (fun b o e hb => by
        injection e with e
        injection e with e1 e2
        subst e1
        exact hG.out.grow.block _ hb (fun e => by have := (hC.out.own.lt _ e.symm).2; have := hgqh.out; have := h6x.out.size; omega))
       have hX7 : Hid (Blk w7 br 23 (cells8 x).toArray) := (hb7.out.block _ hXx.out.lt).trans hXx.out
       have hX8 : Hid (Blk w8 br 23 (cells8 x).toArray) := Blk.grown (hX7.out.alloc _) hG.out.grow (fun e => hC.out.ne e.symm)
       have hbw8 : Hid (Below w.heap.size w w8) := hb0.out.trans (hb8.out.mono hb0.out.size)
       go_wp2_with (first
        | (go_at_call 161; refine (hSum.out q 65 hql.out (by omega) gq cq w8 hgqh.out.2.2 hbw8.out hq8.out).mono ?_; rintro e w9 ⟨rfl, hk⟩; have hb9 : Hid (Below w8.heap.size w8 w9) := hk; clear hk)
        | (go_at_call 120; refine (hCut.out q w9).mono ?_; rw [hzq.out]; rintro e w10 ⟨rfl, hk⟩; have hb10 : Hid (Below w8.heap.size w8 w10) := hb9.out.trans (hk.mono hb9.out.size); have hX10 : Hid (Blk w10 br 23 (cells8 x).toArray) := (hb10.out.block _ hX8.out.lt).trans hX8.out; clear hk hb9)
        | ((with_reducible change wpList _ _ _ ({ dst := none, op := Op.store 23 (.tmp 14) _, type := _, pos := _, after := _, guard := _ } :: _) _ _); refine wpList_store_whole0 rfl rfl 23 (.tmp 14) (.tmp 77) rfl br ((cells8 zq).toArray) rfl rfl 23 (cells8 x).toArray hX10.out Fq.out.size hsame.out Fq.out.one ?_; intro w11 q11 k11))
       go_roundw
       case rel => exact ⟨h + 1, j + 1, _, zq, A8, c8, _, rfl, by go_num, (show j + 1 = h + 1 + 1 by have := hj.out; omega), hlth.out, hLs.out, by
        have hh := hC.out.step (q := q) (gt := gq) (ct := cq) (st' := (zq, ts ++ [q])) hlen.out h6x.out hb7.out (by rw [hql.out]; exact hrq.out) ⟨hgqh.out.1, hgqh.out.2.1⟩ (by rw [hql.out]; exact hgqh.out.2.2) (by rw [hql.out]; exact hG.out) hb10.out q11 k11 rfl
        exact hh⟩
       case measure => (have := hlth.out; simp [intOf]; omega)
   ·obtain rfl : h = m := by have := hh.out; omega
    have z1 : (h : Int) ≤ (h : Int) := by omega
    have hlen : Hid (ts.length = j) := by
     show _ = _
     have := lead_len s k t0 l h
     rw [hL.out] at this
     rw [this, hj.out]
    have hRr : Hid (Blk wr (w.heap.size + 2) 23 Z32) := (hC.out.low.block _ (by have := hs0.out; omega)).trans hR0.out
    clear hlt
    go_wp2_with fail
    refine wp_region_class_tail 3 (Class wr) (by kernel_rfl) (by kernel_rfl) (Class.mk_ ((Below.refl _ _).drew)) ?_
    refine wpQuiet_move rfl (.tmp 13) rfl ?_
    (intro K k; go_simp; apply k; clear k K)
    refine wpQuiet_load_row rfl 23 (.tmp 14) rfl br rfl 23 ((cells8 x).toArray) (0, 0) _ (fun w' hw' => (hw'.below.block _ hDr.out.lt).trans hDr.out) Tryd.underlying23 rfl Fx.out.size ?_
    (intro K k; go_simp; apply k; clear k K)
    refine wpQuiet_val (v := .slice Av j cv) rfl (fun w' hw' => by first | go_simp | rfl) ?_
    (intro K k; go_simp; apply k; clear k K)
    refine wpQuiet_nil ?_
    intro w6 hw6
    have h6 : Hid (Below wr.heap.size wr w6) := hw6.below
    clear hw6
    simp only [List.drop]
    have hR6 : Hid (Blk w6 (w.heap.size + 2) 23 Z32) := (h6.out.block _ hRr.out.lt).trans hRr.out
    have hC6 := hC.out
    go_wp2_with ((with_reducible change wpList _ _ _ ({ dst := none, op := Op.store 23 _ _, type := _, pos := _, after := _, guard := _ } :: _) _ _); refine wpList_store_row (o := ⟨none, _, _, _, _, _⟩) rfl 23 (.tmp 9) (.tmp 80) rfl (w.heap.size + 2) ((cells8 x).toArray) rfl rfl 23 (Z32) hR6.out Fx.out.size Fx.out.zero Fx.out.one ?_)
    refine bodyPost_ret (results_tc rfl _ _ (w.heap.size + 2) 23 (cells8 x).toArray (0, 0) _ rfl (setRow_heap _ _ _ _ _ _ hR6.out) Tryd.underlying23 rfl Fx.out.size) rfl ?_
    have hk7 : Kept (· = w.heap.size + 2) wr (w6.setRow (w.heap.size + 2) (cells8 x).toArray) := Bytes.Kept.setRow (S := fun i => i = w.heap.size + 2) (Kept.of_below h6.out) rfl _
    obtain ⟨a1, a2⟩ := hC.out.end_ (by have := hs0.out; omega) hk7 (by have := hpos.out h; rw [hL.out] at this; exact this)
    have hj2 : j = h + 1 := hj.out
    rw [hlen.out, hj2] at a1
    subst hj2
    exact ⟨_, _, by rw [hL.out]; rfl, own_low a1 (by have := hs0.out; omega), by rw [hL.out]; exact a2, hbw.out.trans (Kept.below_of hk7 (by omega) hbw.out.size)⟩
end Go.Proofs.YtmdkfhfkdcbpgaaDoorR.Lead

namespace Go.Proofs.YtmdkfhfkdcbpgaaDoorR.SparseMeet
open Go Go.RowKit Go.Proofs.YtmdkfhfkdcbpgaaDoorR Mem Sha Bytes TreeMem Octet ProofIdx IdxAny TwiceP SparseP

theorem upT_inj {k : Text} {h : Nat} {x y n m : Text} (hl : x.length = y.length) (e : upT k h x n = upT k h y m) : x = y := by
 unfold upT at e
 have e := (List.cons.inj e).2
 split at e
 ·exact (List.append_inj e hl).1
 ·exact (List.append_inj' e hl).2
theorem lead_meet {s : Int} {k t0 t1 : Text} {l m : List Text} (hne : t0 ≠ t1) : ∀ h, (lead s k t0 l h).2 = (lead s k t1 m h).2 → TwiceP.Met s ((lead s k t0 l h).1 ++ (lead s k t1 m h).1)
 | 0, e => ⟨t0, t1, List.mem_append_left _ (List.mem_singleton_self _), List.mem_append_right _ (List.mem_singleton_self _), hne, e⟩
 | h + 1, e => by
  by_cases ht : upT k h (lead s k t0 l h).2 (l.getD h []) = upT k h (lead s k t1 m h).2 (m.getD h [])
  ·have hd := upT_inj (by rw [lead_dig, lead_dig]) ht
   refine (lead_meet hne h hd).mono fun p hp => ?_
   rcases List.mem_append.1 hp with hp | hp
   ·exact List.mem_append_left _ (List.mem_append_left _ hp)
   ·exact List.mem_append_right _ (List.mem_append_left _ hp)
  ·exact ⟨_, _, List.mem_append_left _ (List.mem_append_right _ (List.mem_singleton_self _)), List.mem_append_right _ (List.mem_append_right _ (List.mem_singleton_self _)), ht, e⟩
theorem be8_inj {N M : Nat} (hN : N < 18446744073709551616) (hM : M < 18446744073709551616) (e : be8 N = be8 M) : N = M := by
 have h : ∀ j, j < 8 → N / 2 ^ (56 - 8 * j) % 256 = M / 2 ^ (56 - 8 * j) % 256 := fun j hj => by
  have h1 := be8_at N j hj
  rw [e, be8_at M j hj] at h1
  have h2 := congrArg BitVec.toNat (Option.some.inj h1)
  unfold byteAt at h2
  rw [BitVec.toNat_ofNat, BitVec.toNat_ofNat] at h2
  exact h2.symm
 have h0 := h 0 (by omega)
 have h1 := h 1 (by omega)
 have h2 := h 2 (by omega)
 have h3 := h 3 (by omega)
 have h4 := h 4 (by omega)
 have h5 := h 5 (by omega)
 have h6 := h 6 (by omega)
 have h7 := h 7 (by omega)
 clear h e
 omega
theorem txt0_ne {k ch dh : Text} {f g : Bool} {cnt dnt : Int} (h1 : okEnt f cnt ch = true) (h2 : okEnt g dnt dh = true) (hne : ¬ (f = g ∧ cnt = dnt ∧ ch = dh)) : txt0 k f cnt ch ≠ txt0 k g dnt dh := by
 intro e
 apply hne
 unfold okEnt at h1 h2
 unfold txt0 at e
 cases f <;> cases g
 ·have a := of_decide_eq_true (show decide (cnt = 0 ∧ ch = z32) = true from h1)
  have b := of_decide_eq_true (show decide (dnt = 0 ∧ dh = z32) = true from h2)
  exact ⟨rfl, a.1.trans b.1.symm, a.2.trans b.2.symm⟩
 ·have := (List.cons.inj (show [kb 5] = kb 3 :: _ from e)).1
  exact absurd this (by decide)
 ·have := (List.cons.inj (show kb 3 :: _ = [kb 5] from e)).1
  exact absurd this (by decide)
 ·have a := of_decide_eq_true (show decide (1 ≤ cnt ∧ cnt ≤ 1099511627776) = true from h1)
  have b := of_decide_eq_true (show decide (1 ≤ dnt ∧ dnt ≤ 1099511627776) = true from h2)
  have e1 := List.append_cancel_left (List.cons.inj (show kb 3 :: (k ++ (be8 cnt.toNat ++ ch)) = kb 3 :: (k ++ (be8 dnt.toNat ++ dh)) from e)).2
  have e2 := List.append_inj e1 (by rw [be8_len, be8_len])
  have e3 := be8_inj (by omega) (by omega) e2.1
  exact ⟨rfl, by omega, e2.2⟩
theorem entries_meet {s : Int} {root k ch dh d1 d2 : Text} {f g : Bool} {cnt dnt : Int} {ds es : List Text} (h1 : okEnt f cnt ch = true) (h2 : okEnt g dnt dh = true) (hne : ¬ (f = g ∧ cnt = dnt ∧ ch = dh))
  (c1 : checkOf s root k f cnt ch d1 ds = 0) (c2 : checkOf s root k g dnt dh d2 es = 0) : TwiceP.Met s (climbTs s k f cnt ch d1 ds ++ climbTs s k g dnt dh d2 es) := by
 unfold checkOf at c1 c2
 unfold climbTs
 cases e1 : nbrs s d1 ds 256 with
 | none => rw [e1] at c1; cases c1
 | some l =>
  cases e2 : nbrs s d2 es 256 with
  | none => rw [e2] at c2; cases c2
  | some m =>
   rw [e1] at c1
   rw [e2] at c2
   dsimp only at c1 c2 ⊢
   split at c1
   ·split at c2
    ·rename_i a b
     exact lead_meet (txt0_ne h1 h2 hne) 256 (a.trans b.symm)
    ·cases c2
   ·cases c1
end Go.Proofs.YtmdkfhfkdcbpgaaDoorR.SparseMeet
