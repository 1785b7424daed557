/-
  Texts of the claim, put into one file: Bytes, RdD, DigEq, StructEq, CutP, JoinP.
-/
import Derived.Test.YtgldkfaiofkhbaaDoorZ2
import Derived.Test.YtgldkfaiofkhbaaDoorZ0
import Derived.Test.YtgldkfaiofkhbaaDoorRows
import Derived.Great.BuildSlice
import Derived.ChangeKeysEq
import Derived.Laws.StructEq
import Derived.Test.YtgldkfaiofkhbaaDoorZ1

namespace Go.Proofs.YtgldkfaiofkhbaaDoor.Bytes
open Go Go.RowKit Go.Proofs.YtgldkfaiofkhbaaDoor Go.Proofs.YtgldkfaiofkhbaaDoor.Mem Go.Proofs.YtgldkfaiofkhbaaDoor.Sha

def cell8 (x : BitVec 8) : Value := .int .u8 (b8 x)
def cells8 (l : Text) : List Value := l.map cell8
theorem cells8_len (l : Text) : (cells8 l).length = l.length := by simp [cells8]
theorem cells8_at (l : Text) (j : Nat) (h : j < l.length) : (cells8 l)[j]? = some (cell8 (l.getD j 0)) := by
  simp [cells8, List.getD, h]
theorem splice_get {α : Type} (L : List α) (off : Nat) (cs : List α) (h : off + cs.length ≤ L.length) (i : Nat) :
    (splice L off cs)[i]? = if i < off then L[i]? else if i < off + cs.length then cs[i - off]? else L[i]? := by
  unfold splice
  by_cases h1 : i < off
  · rw [if_pos h1, List.getElem?_append_left (by simp; omega), List.getElem?_take, if_pos h1]
  · rw [if_neg h1, List.getElem?_append_right (by simp; omega)]
    have e : (L.take off).length = off := by simp; omega
    rw [e]
    by_cases h2 : i < off + cs.length
    · rw [if_pos h2, List.getElem?_append_left (by omega)]
    · rw [if_neg h2, List.getElem?_append_right (by omega), List.getElem?_drop]
      congr 1
      omega
theorem cells8_one (l : Text) : ∀ v ∈ cells8 l, v.oneCell' = true := by
  intro v hv
  obtain ⟨x, _, rfl⟩ := List.mem_map.1 hv
  rfl
theorem Reads.src {w : World} {A : Option Addr} {n : Nat} {q : Text} (h : Reads w 1 A n (cells8 q)) (m : Nat) (hm : m ≤ n) (h0 : 0 < m) : ∃ ad, A = some ad ∧ ∀ j v, (cells8 (q.take m))[j]? = some v → w.cell? (ad.add j) = some v := by
  obtain ⟨b, o, e, hb, hc⟩ := h.2 (by omega)
  refine ⟨_, e, fun j v hv => ?_⟩
  rw [add_at]
  refine hc j v ?_
  have hl := h.1
  rw [cells8_len] at hl
  simp only [cells8, List.getElem?_map, List.getElem?_take] at hv ⊢
  by_cases hj : j < m
  · rw [if_pos hj] at hv
    exact hv
  · rw [if_neg hj] at hv
    cases hv
theorem Reads.blk8 {w : World} {b o r d : Nat} {q : Text} (h : Reads w 1 (some ⟨b, o, none⟩) r (cells8 (q.drop d))) (j : Nat) (hj : j < r) : w.cell? ⟨b, o + j, none⟩ = some (.int .u8 (b8 (q.getD (d + j) 0))) := by
  obtain ⟨b', o', e, hb, hc⟩ := h.2 (by omega)
  injection e with e
  injection e with e1 e2
  subst e1
  subst e2
  refine hc j _ ?_
  have hl := h.1
  rw [cells8_len] at hl
  rw [cells8_at _ _ (by omega)]
  unfold cell8
  congr 3
  simp [List.getD]
theorem one_set {cs : Array Value} (h : ∀ (j : Nat) (v : Value), cs[j]? = some v → v.oneCell' = true) (k : Nat) (u : Value) (hu : u.oneCell' = true) : ∀ (j : Nat) (v : Value), (cs.setIfInBounds k u)[j]? = some v → v.oneCell' = true := by
  intro j v hv
  rw [Array.getElem?_setIfInBounds] at hv
  by_cases e : k = j
  · rw [if_pos e] at hv
    by_cases e2 : j < cs.size
    · subst e
      rw [if_pos e2] at hv
      obtain rfl := Option.some.inj hv
      exact hu
    · subst e
      rw [if_neg e2] at hv
      cases hv
  · rw [if_neg e] at hv
    exact h j v hv
/-- copy(dst, src) into a block that is known whole: the other blocks stay. -/
theorem Kept.setRow {S : Nat → Prop} {a w : World} (h : Kept S a w) {g : Nat} (hg : S g) (cs : Array Value) : Kept S a (w.setRow g cs) :=
  ⟨h.os, h.tape, h.output, by have := h.size; simpa [World.setRow] using this, fun k hk hs => (setRow_other w g k cs (by rintro rfl; exact hs hg)).trans (h.block k hk hs)⟩
theorem wpList_copy_into {P : Program} {w : World} {ops : Array Oper} {rest : List Oper} {o : Oper} {a : Act} {Q : Exit → Act → World → Prop} (hgd : o.guard = none) (d s : Operand) (dT sT : TypeId)
    (ho : o.op = .call { callee := .builtin .copy, args := #[d, s], argTypes := #[dT, sT] }) (elem : TypeId) (hu : P.underlying dT = some (.slice elem)) (hsz : (P.info? elem).map (·.size) = some 1)
    (dp sp : Option Addr) (dLen dCap sLen sCap : Nat) (hd : a.eval d = .slice dp dLen dCap) (hs : a.eval s = .slice sp sLen sCap)
    (g off : Nat) (cur : Array Value) (t : TypeId) (hg : Blk w g t cur) (cs : List Value) (hn : cs.length = Nat.min sLen dLen)
    (hpos : 0 < cs.length → dp = some ⟨g, off, none⟩ ∧ ∃ ad, sp = some ad ∧ ∀ j v, cs[j]? = some v → w.cell? (ad.add j) = some v)
    (hfit : off + cs.length ≤ cur.size) (h1 : ∀ v ∈ cs, v.oneCell' = true) (w0 : World) (hb : Kept (· = g) w0 w) (m : Nat) (hm : cs.length = m)
    (h : ∀ w', Hid (Blk w' g t (splice cur.toList off cs).toArray) → Kept (· = g) w0 w' → wpList P ops Q rest (a.put o.dst (goInt m)) w') :
    wpList P ops Q (o :: rest) a w := by
  subst hm
  by_cases h0 : cs.length = 0
  · obtain rfl : cs = [] := List.eq_nil_of_length_eq_zero h0
    refine wpList_copy_nothing hgd d s dT sT ho elem hu hsz dp sp dLen dCap sLen sCap hd hs (by simpa using hn.symm) ?_
    exact h w (show _ = _ by unfold Blk at hg; simpa [splice] using hg) hb
  · obtain ⟨rfl, ad, rfl, hsrc⟩ := hpos (by omega)
    refine wpList_copy_own hgd d s dT sT ho elem hu hsz g off dLen dCap ad sLen sCap hd hs cur t hg cs hn hsrc (by simpa using hfit) h1 ?_
    exact h _ (show _ = _ by simpa [splice] using setRow_heap w g _ _ t _ hg) (Kept.setRow hb rfl _)
theorem step_copy_into {P : Program} {ops : Array Oper} {o : Oper} {a : Act} {w : World} {K : Act → World → Prop} {Q : Exit → Act → World → Prop} {E : Prop} (hgd : o.guard = none) (d s : Operand) (dT sT : TypeId)
    (ho : o.op = .call { callee := .builtin .copy, args := #[d, s], argTypes := #[dT, sT] }) (elem : TypeId) (hu : P.underlying dT = some (.slice elem)) (hsz : (P.info? elem).map (·.size) = some 1)
    (dp sp : Option Addr) (dLen dCap sLen sCap : Nat) (hd : a.eval d = .slice dp dLen dCap) (hs : a.eval s = .slice sp sLen sCap)
    (g off : Nat) (cur : Array Value) (t : TypeId) (hg : Blk w g t cur) (cs : List Value) (hn : cs.length = Nat.min sLen dLen)
    (hpos : 0 < cs.length → dp = some ⟨g, off, none⟩ ∧ ∃ ad, sp = some ad ∧ ∀ j v, cs[j]? = some v → w.cell? (ad.add j) = some v)
    (hfit : off + cs.length ≤ cur.size) (h1 : ∀ v ∈ cs, v.oneCell' = true) (w0 : World) (hb : Kept (· = g) w0 w) (m : Nat) (hm : cs.length = m)
    (h : ∀ w', Hid (Blk w' g t (splice cur.toList off cs).toArray) → Kept (· = g) w0 w' → K (a.put o.dst (goInt m)) w') :
    if Region.wanted o (yielded ops a.tmps) = true then Oper.wp P o a w K Q else E := by
  subst hm
  have hw : Region.wanted o (yielded ops a.tmps) = true := by simp [Region.wanted, hgd]
  rw [if_pos hw]
  by_cases h0 : cs.length = 0
  · obtain rfl : cs = [] := List.eq_nil_of_length_eq_zero h0
    have hrun := run_copy_none (P := P) w dT sT o.type elem dp sp dLen dCap sLen sCap hu hsz (by simpa using hn.symm)
    unfold Oper.wp
    simp [execOp, ho, resolve, invoke, builtin, hd, hs, hrun, Result.andThen]
    exact h w (show _ = _ by unfold Blk at hg; simpa [splice] using hg) hb
  · obtain ⟨rfl, ad, rfl, hsrc⟩ := hpos (by omega)
    have hrun := run_copy_row (P := P) w dT sT o.type elem g off dLen dCap ad sLen sCap cur t cs hu hsz hg hn hsrc (by simpa using hfit) h1
    unfold Oper.wp
    simp [execOp, ho, resolve, invoke, builtin, hd, hs, hrun, Result.andThen]
    exact h _ (show _ = _ by simpa [splice] using setRow_heap w g _ _ t _ hg) (Kept.setRow hb rfl _)
theorem u64_in (x : Int) (h0 : 0 ≤ x) (h1 : x < 18446744073709551616) : IntKind.u64.wrap x = x := by
  simp only [IntKind.wrap, IntKind.bits, IntKind.signed]
  simp
  omega
/-- The address of 'A[m:]', cap c. -/
def cutA (A : Option Addr) (m c : Nat) : Option Addr := if c = m then A else A.map (·.add m)
theorem run_cut {P : Program} {t : TypeId} {A : Option Addr} {n c m : Nat} (h : P.underlying t = some (.slice (P.elem t))) (hs : ∀ w, (sizeOf (P.elem t)).run P w = .ok 1 w) (hm : m ≤ n) (w : World) :
    (Instr.sliceAt t (.slice A n c) (some (.int .i64 (m : Int))) none none).run P w = .ok (.slice (cutA A m c) (n - m) (c - m)) w := by
  rw [run_sliceAt_slice w t _ _ _ _ h, run_slice_l w t A n c h .i64 (m : Int) (by omega) (by omega), hs]
  simp [Result.andThen, sliced, cutA]
theorem run_cutArr {P : Program} {t : TypeId} {g o N m : Nat} (h : P.underlying t = some (.array (P.arrayLen t) (P.elem t))) (hN : P.arrayLen t = N) (hs : ∀ w, (sizeOf (P.elem t)).run P w = .ok 1 w) (hm : m < N) (w : World) :
    (Instr.sliceAt t (.pointer (some ⟨g, o, none⟩)) (some (.int .i64 (m : Int))) none none).run P w = .ok (.slice (some ⟨g, o + m, none⟩) (N - m) (N - m)) w := by
  rw [run_sliceAt_array_l w t _ h .i64 (m : Int) (by omega) (by omega), hs]
  simp only [Result.andThen, slicedAt, hN, Int.toNat_natCast, Nat.mul_one]
  rw [if_neg (by omega), add_at]
theorem run_cutH {P : Program} {t : TypeId} {b o n c m : Nat} (h : P.underlying t = some (.slice (P.elem t))) (hs : ∀ w, (sizeOf (P.elem t)).run P w = .ok 1 w) (hm : m ≤ c) (w : World) :
    (Instr.sliceAt t (.slice (some ⟨b, o, none⟩) n c) none (some (.int .i64 (m : Int))) none).run P w = .ok (.slice (some ⟨b, o, none⟩) m c) w := by
  rw [run_sliceAt_slice w t _ _ _ _ h, run_slice_h w t _ n c h .i64 (m : Int) (by omega) (by omega), hs]
  simp only [Result.andThen, sliced, Int.toNat_natCast, Nat.zero_mul, Nat.sub_zero, Option.map_some, add_at, Nat.add_zero, ite_self]
theorem run_cutArrH {P : Program} {t : TypeId} {g o N m : Nat} (h : P.underlying t = some (.array (P.arrayLen t) (P.elem t))) (hN : P.arrayLen t = N) (hs : ∀ w, (sizeOf (P.elem t)).run P w = .ok 1 w) (hm : m ≤ N) (x : Int) (hx : x = m) (w : World) :
    (Instr.sliceAt t (.pointer (some ⟨g, o, none⟩)) none (some (.int .i64 x)) none).run P w = .ok (.slice (some ⟨g, o, none⟩) m N) w := by
  subst hx
  rw [run_sliceAt_array_h w t _ h .i64 (m : Int) (by omega) (by omega), hs]
  simp only [Result.andThen, slicedAt, hN, Int.toNat_natCast, Nat.zero_mul, Nat.sub_zero, add_at, Nat.add_zero, ite_self]
/-- No address into block g. -/
def Off (A : Option Addr) (g : Nat) : Prop := ∀ a, A = some a → a.block ≠ g
theorem cutA_off {A : Option Addr} {m c g : Nat} (h : Off A g) : Off (cutA A m c) g := by
  intro x hx
  unfold cutA at hx
  by_cases e : c = m
  · rw [if_pos e] at hx
    exact h x hx
  · rw [if_neg e] at hx
    cases A with
    | none => cases hx
    | some a =>
      simp only [Option.map_some, Option.some.injEq] at hx
      subst hx
      have := h a rfl
      unfold Addr.add
      split <;> exact this
theorem Reads.cut {w : World} {A : Option Addr} {n c : Nat} {xs : List Value} (h : Reads w 1 A n xs) (m : Nat) (hm : m ≤ n) (hc : n ≤ c) : Reads w 1 (cutA A m c) (n - m) (xs.drop m) := by
  refine ⟨by rw [List.length_drop, h.1]; omega, fun hn => ?_⟩
  obtain ⟨b, o, e, hb, hcell⟩ := h.2 (by omega)
  subst e
  refine ⟨b, o + m, ?_, hb, fun j v hv => ?_⟩
  · unfold cutA
    rw [if_neg (by omega), Option.map_some, add_at]
  · rw [List.getElem?_drop] at hv
    have := hcell (m + j) v hv
    rw [Nat.add_assoc]
    exact this
/-- A list of texts, as it lies: a slice of slices. -/
def Pieces (w : World) (A : Option Addr) (ps : List Text) : Prop :=
  0 < ps.length → ∃ b o, A = some ⟨b, o, none⟩ ∧ b < w.heap.size ∧
    ∀ i q, ps[i]? = some q → ∃ Ai ci, w.cell? ⟨b, o + i, none⟩ = some (.slice Ai q.length ci) ∧ q.length ≤ ci ∧ Reads w 1 Ai q.length (cells8 q) ∧ (Ai = none → q.length = 0 ∧ ci = 0)
theorem Pieces.below {w w' : World} {A : Option Addr} {ps : List Text} (h : Pieces w A ps) (hb : Below w.heap.size w w') : Pieces w' A ps := by
  intro h0
  obtain ⟨b, o, e, hlt, hc⟩ := h h0
  refine ⟨b, o, e, by have := hb.size; omega, fun i q hq => ?_⟩
  obtain ⟨Ai, ci, h1, h2, h3, h4⟩ := hc i q hq
  exact ⟨Ai, ci, (hb.cell (p := ⟨b, o + i, none⟩) hlt).trans h1, h2, h3.below hb, h4⟩
theorem Kept.below_of {w w' : World} {g B : Nat} (h : Kept (· = g) w w') (hg : B ≤ g) (hB : B ≤ w.heap.size) : Below B w w' := ⟨h.os, h.tape, h.output, h.size, fun k hk => h.block k (by omega) (by omega)⟩
theorem Below.heap_below (w : World) (o : Obj) : Below w.heap.size w (w.alloc o) := (Below.refl _ w).alloc (Nat.le_refl _) o
theorem one_at (k : BitVec 8) (j : Nat) (u : Value) (hu : (cells8 [k])[j]? = some u) : (#[Value.int .u8 (b8 k)] : Array Value)[j]? = some u := by
  match j with
  | 0 => exact hu
  | j + 1 => simp [cells8] at hu
/-- A kind, as a byte. -/
def kb (k : Int) : BitVec 8 := BitVec.ofInt 8 k
theorem kb_b8 (k : Int) : k % 256 = b8 (kb k) := by
  unfold b8 kb
  rw [BitVec.toNat_ofInt]
  omega
theorem kb_wrap (k : Int) : IntKind.u8.wrap k = b8 (kb k) := by
  rw [← kb_b8]
  simp [IntKind.wrap, IntKind.bits, IntKind.signed]
theorem storeCells_row {P : Program} {w : World} {g : Nat} {t : TypeId} {Z : Array Value} {vs : List Value} (hg : Blk w g t Z) (hs : Z.size = vs.length) (h1 : ∀ v ∈ vs, v.oneCell' = true) : (storeCells ⟨g, 0, none⟩ vs).run P w = .ok () (w.setRow g vs.toArray) := by
  have h := run_storeCells_at (P := P) g 0 t vs 0 Z w hg (by omega) h1
  have e : Z.toList.take (0 + 0) ++ vs ++ Z.toList.drop (0 + 0 + vs.length) = vs := by
    rw [List.drop_eq_nil_of_le (by simp; omega)]
    simp
  rw [e] at h
  exact h
theorem rowReads {W : World} {g : Nat} {q : Text} {t : TypeId} (h : W.heap[g]? = some (.cells (cells8 q).toArray t (0, 0))) : Reads W 1 (some ⟨g, 0, none⟩) q.length (cells8 q) :=
  Blk.reads (cs := (cells8 q).toArray) h 0 (cells8 q) (by rw [cells8_len, Nat.mul_one]) (fun j u hu => by rw [Nat.zero_add, List.getElem?_toArray]; exact hu)
theorem add_zero (a : Addr) : a.add 0 = a := by unfold Addr.add; rw [if_pos rfl]
/-- 's[:m]', s whatever. -/
theorem run_headOf {P : Program} {t : TypeId} {A : Option Addr} {n c m : Nat} (h : P.underlying t = some (.slice (P.elem t))) (hs : ∀ w, (sizeOf (P.elem t)).run P w = .ok 1 w) (hm : m ≤ c) (x : Int) (hx : x = m) (w : World) :
    (Instr.sliceAt t (.slice A n c) none (some (.int .i64 x)) none).run P w = .ok (.slice A m c) w := by
  subst hx
  rw [run_sliceAt_slice w t _ _ _ _ h, run_slice_h w t A n c h .i64 (m : Int) (by omega) (by omega), hs]
  have e : A.map (·.add (0 * 1)) = A := by
    cases A with
    | none => rfl
    | some a => simp [add_zero]
  simp only [Result.andThen, sliced, Int.toNat_natCast, Nat.sub_zero, e, ite_self]
theorem Reads.front {w : World} {A : Option Addr} {q : Text} (h : Reads w 1 A q.length (cells8 q)) (m : Nat) (hm : m ≤ q.length) : Reads w 1 A m (cells8 (q.take m)) := by
  refine ⟨by rw [cells8_len, List.length_take]; omega, fun h0 => ?_⟩
  obtain ⟨b, o, e, hb, hc⟩ := h.2 (by omega)
  refine ⟨b, o, e, hb, fun j u hu => hc j u ?_⟩
  simp only [cells8, List.getElem?_map, List.getElem?_take] at hu ⊢
  by_cases hj : j < m
  · rw [if_pos hj] at hu
    exact hu
  · rw [if_neg hj] at hu
    cases hu
theorem Tab.below' {w w' : World} {g n B : Nat} {t : TypeId} {f : Nat → Value} (h : Tab w g t n f) (hb : Below B w w') (hB : g < B) : Tab w' g t n f := by
  obtain ⟨cs, hc, r⟩ := h
  exact ⟨cs, (hb.block g hB).trans hc, r⟩
theorem info8 : (Tryd.prog.info? 5).map (fun i => (i.zero, i.size, i.bytes)) = some (some (.int .u8 0), 1, 1) := by kernel_rfl
theorem info_parts8 {P : Program} {e : TypeId} {z : Value} {s b : Nat} (h : (P.info? e).map (fun i => (i.zero, i.size, i.bytes)) = some (some z, s, b)) : ∃ i : TypeInfo, P.info? e = some i ∧ i.zero = some z ∧ i.size = s ∧ i.bytes = b := by
  cases hq : P.info? e with
  | none => simp [hq] at h
  | some i =>
    simp [hq] at h
    exact ⟨i, rfl, h.1, h.2.1, h.2.2⟩
theorem size8 : (Tryd.prog.info? 5).map (·.size) = some 1 := by kernel_rfl
/-- A part of a row, read as a whole. -/
theorem run_loadVar_part {P : Program} (w : World) (g o : Nat) (ty : TypeId) (xs : List Value) (d : TypeDesc) (hc : ∀ j v, xs[j]? = some v → w.cell? ⟨g, o + j, none⟩ = some v)
    (hu : P.underlying ty = some d) (hd : (match d with | .struct _ | .array _ _ => true | _ => false) = true) (hi : (P.info? ty).map (·.size) = some xs.length) :
    (loadVar ty ⟨g, o, none⟩).run P w = .ok (.agg xs.toArray) w := by
  have hl := run_loadCells_list (P := P) w ⟨g, o, none⟩ xs (fun j v hv => by rw [add_at]; exact hc j v hv)
  cases hq : P.info? ty with
  | none => simp [hq] at hi
  | some i =>
    have hs : i.size = xs.length := by simpa [hq] using hi
    have hagg : (isAgg ty).run P w = .ok true w := by
      unfold isAgg
      rw [Sem.run_bind, run_underlying hu w]
      cases d <;> simp_all
    simp [loadVar, Sem.run_bind, hagg, sizeOf, typeInfo, hq, hs, hl]
theorem wpList_load_part {P : Program} {ops : Array Oper} {rest : List Oper} {o : Oper} {a : Act} {w : World} {Q : Exit → Act → World → Prop} (hgd : o.guard = none) (ty : TypeId) (x : Operand) (ho : o.op = .load ty x)
    (g i : Nat) (hx : a.eval x = .pointer (some ⟨g, i, none⟩)) (xs : List Value) (d : TypeDesc) (hc : ∀ j v, xs[j]? = some v → w.cell? ⟨g, i + j, none⟩ = some v)
    (hu : P.underlying ty = some d) (hd : (match d with | .struct _ | .array _ _ => true | _ => false) = true) (hi : (P.info? ty).map (·.size) = some xs.length)
    (h : wpList P ops Q rest (a.put o.dst (.agg xs.toArray)) w) : wpList P ops Q (o :: rest) a w := by
  refine wpList_plain hgd fun K hK => ?_
  unfold Oper.wp execOp
  simp only [ho, hx, Instr.loadAt, Instr.sureAddr, Sem.run_bind, Sem.run_pure, Result.andThen_ok, run_loadVar_part w g i ty xs d hc hu hd hi]
  exact hK _ _ h
def Z32 : Array Value := #[Value.int IntKind.u8 0, Value.int IntKind.u8 0, Value.int IntKind.u8 0, Value.int IntKind.u8 0, Value.int IntKind.u8 0, Value.int IntKind.u8 0, Value.int IntKind.u8 0, Value.int IntKind.u8 0, Value.int IntKind.u8 0, Value.int IntKind.u8 0, Value.int IntKind.u8 0, Value.int IntKind.u8 0, Value.int IntKind.u8 0, Value.int IntKind.u8 0, Value.int IntKind.u8 0, Value.int IntKind.u8 0, Value.int IntKind.u8 0, Value.int IntKind.u8 0, Value.int IntKind.u8 0, Value.int IntKind.u8 0, Value.int IntKind.u8 0, Value.int IntKind.u8 0, Value.int IntKind.u8 0, Value.int IntKind.u8 0, Value.int IntKind.u8 0, Value.int IntKind.u8 0, Value.int IntKind.u8 0, Value.int IntKind.u8 0, Value.int IntKind.u8 0, Value.int IntKind.u8 0, Value.int IntKind.u8 0, Value.int IntKind.u8 0]
theorem size31 : (Tryd.prog.info? 23).map (·.size) = some 32 := by kernel_rfl
theorem alloc_setRow (w : World) (Z cs : Array Value) (T : TypeId) : (w.alloc (.cells Z T)).setRow w.heap.size cs = w.alloc (.cells cs T) := by
  have h : ((w.heap.push (Obj.cells Z T)).modify w.heap.size fun x => match x with
      | .cells _ elem frozen => .cells cs elem frozen
      | o => o) = w.heap.push (Obj.cells cs T) := by
    apply Array.ext_getElem?
    intro i
    rw [Array.getElem?_modify, Array.getElem?_push, Array.getElem?_push]
    by_cases hi : i = w.heap.size
    · subst hi
      simp
    · rw [if_neg (fun e => hi e.symm), if_neg hi, if_neg hi]
  unfold World.setRow World.alloc
  exact congrArg (fun h => ({ w with heap := h } : World)) h
/-- Sums behind one another: the i-th one's cells. -/
theorem digs_at (ds : List Text) (hd : ∀ d ∈ ds, d.length = 32) (i : Nat) (d : Text) (hi : ds[i]? = some d) (j : Nat) (v : Value) (hv : (cells8 d)[j]? = some v) : (ds.flatMap cells8)[i * 32 + j]? = some v := by
  induction ds generalizing i with
  | nil => simp at hi
  | cons x xs ih =>
    have hx : x.length = 32 := hd x (by simp)
    cases i with
    | zero =>
      simp only [List.getElem?_cons_zero, Option.some.injEq] at hi
      subst hi
      have hj : j < (cells8 x).length := (List.getElem?_eq_some_iff.1 hv).1
      rw [List.flatMap_cons, Nat.zero_mul, Nat.zero_add, List.getElem?_append_left hj, hv]
    | succ i =>
      have h := ih (fun d hd' => hd d (by simp [hd'])) i (by simpa using hi)
      rw [List.flatMap_cons, List.getElem?_append_right (by rw [cells8_len, hx]; omega), cells8_len, hx, show (i + 1) * 32 + j - 32 = i * 32 + j by omega, h]
theorem digs_len (ds : List Text) (hd : ∀ d ∈ ds, d.length = 32) : ds.flatten.length = 32 * ds.length ∧ (ds.flatMap cells8).length = 32 * ds.length := by
  induction ds with
  | nil => exact ⟨rfl, rfl⟩
  | cons x xs ih =>
    obtain ⟨h1, h2⟩ := ih (fun d hd' => hd d (by simp [hd']))
    have hx : x.length = 32 := hd x (by simp)
    refine ⟨by rw [List.flatten_cons, List.length_append, h1, hx, List.length_cons]; omega, by rw [List.flatMap_cons, List.length_append, h2, cells8_len, hx, List.length_cons]; omega⟩
theorem cells8_all1 (q : Text) : (cells8 q).toArray.all (·.oneCell') = true := by
  rw [Array.all_eq_true]
  intro i h
  have := cells8_one q
  exact this _ (by simp)

theorem pieces_sum (ps : List Text) (i : Nat) (q : Text) (h : ps[i]? = some q) : (ps.take (i + 1)).flatten = (ps.take i).flatten ++ q ∧ (ps.take i).flatten.length + q.length ≤ ps.flatten.length := by
  have e : ps.take (i + 1) = ps.take i ++ [q] := by rw [List.take_add_one, h]; rfl
  have e1 : (ps.take (i + 1)).flatten = (ps.take i).flatten ++ q := by rw [e]; simp
  refine ⟨e1, ?_⟩
  have e2 : ps.flatten = (ps.take (i + 1)).flatten ++ (ps.drop (i + 1)).flatten := by rw [← List.flatten_append, List.take_append_drop]
  rw [e2, e1]
  simp
/-- A slice literal of aggregates of s cells each. -/
theorem wpList_buildAggs {P : Program} {ops : Array Oper} {rest : List Oper} {o : Oper} {a : Act} {w : World} {Q : Exit → Act → World → Prop} (hg : o.guard = none) (t e : TypeId) (n : Nat) (parts : Array (Nat × Operand)) (ho : o.op = .buildSlice t n parts)
    (s : Nat) (hs : 0 < s) (vs : List (List Value)) (hu : P.underlying t = some (.slice e)) (hsz : (P.info? e).map (·.size) = some s) (hz : ((P.info? e).bind (·.zero)).isSome = true)
    (hn : vs.length = n) (hpos : 0 < n) (hsmall : n * s ≤ 2 ^ 24) (hl : ∀ v ∈ vs, v.length = s)
    (hparts : (parts.toList.map fun (i, x) => (i, a.eval x)) = ((vs.map fun v => Value.agg v.toArray).zipIdx 0).map fun x => (x.2, x.1))
    (h : wpList P ops Q rest (a.put o.dst (.slice (some ⟨w.heap.size, 0, none⟩) n n)) (w.alloc (.cells (vs.flatten).toArray e))) : wpList P ops Q (o :: rest) a w := by
  cases hie : P.info? e with
  | none => simp [hie] at hsz
  | some ie =>
    simp only [hie, Option.map_some, Option.some.injEq, Option.bind_some] at hsz hz
    obtain ⟨z, hzz⟩ := Option.isSome_iff_exists.1 hz
    refine wpList_buildSlice hg t e n parts ho _ ie z hu hie hzz (by rw [hsz]; omega) (by rw [hsz]; have := Nat.mul_pos hpos hs; omega) ?_ h
    rw [Array.toList_map, hparts, hsz]
    have := Great.fill_whole hs (vs.map fun v => Value.agg v.toArray) ((Array.range (n * s)).map (z.cells[· % z.cells.size]!)) (by
      intro v hv
      obtain ⟨x, hx, rfl⟩ := List.mem_map.1 hv
      show x.toArray.size = s
      simp [hl x hx]) (by simp [hn])
    rw [this]
    congr 2
    rw [List.flatMap_map]
    simp [List.flatMap_def, Value.cells]

end Go.Proofs.YtgldkfaiofkhbaaDoor.Bytes

namespace Go.Proofs.YtgldkfaiofkhbaaDoor.TreeMem
open Go Go.RowKit Go.Proofs.YtgldkfaiofkhbaaDoor Go.Proofs.YtgldkfaiofkhbaaDoor.Mem Go.Proofs.YtgldkfaiofkhbaaDoor.Sha Go.Proofs.YtgldkfaiofkhbaaDoor.Bytes

/-- Each is 32 bytes long. -/
def Digs (ds : List Text) : Prop := ∀ d ∈ ds, d.length = 32
theorem Digs.take_ {ds : List Text} (h : Digs ds) (k : Nat) : Digs (ds.take k) := fun d hd => h d (List.mem_of_mem_take hd)
theorem Digs.drop_ {ds : List Text} (h : Digs ds) (k : Nat) : Digs (ds.drop k) := fun d hd => h d (List.mem_of_mem_drop hd)
theorem Digs.at_ {ds : List Text} (h : Digs ds) {i : Nat} {d : Text} (hi : ds[i]? = some d) : d.length = 32 := h d (List.mem_of_getElem? hi)
theorem Digs.append_ {xs ys : List Text} (h : Digs xs) (k : Digs ys) : Digs (xs ++ ys) := fun d hd => by
  rcases List.mem_append.1 hd with x | x
  · exact h d x
  · exact k d x
theorem Digs.one {d : Text} (h : d.length = 32) : Digs [d] := fun x hx => by simp only [List.mem_singleton] at hx; rw [hx, h]
/-- A slice of digests in memory. -/
def RdD (w : World) (A : Option Addr) (n : Nat) (ds : List Text) : Prop := ds.length = n ∧ Digs ds ∧ Reads w 32 A n (ds.flatMap cells8)
section
variable {w w' : World} {A : Option Addr} {n : Nat} {ds : List Text}
theorem RdD.below (h : RdD w A n ds) (hb : Below w.heap.size w w') : RdD w' A n ds := ⟨h.1, h.2.1, h.2.2.below hb⟩
theorem RdD.drewN (h : RdD w A n ds) (k : Nat) : RdD (w.drewN k) A n ds := ⟨h.1, h.2.1, h.2.2.drewN k⟩
theorem RdD.nil_ (w : World) (A : Option Addr) : RdD w A 0 [] := ⟨rfl, (fun _ h => by cases h), Reads.nil_ _ _ _⟩
/-- One of the digests, as cells. -/
theorem RdD.at_ (h : RdD w A n ds) {i : Nat} {d : Text} (hi : ds[i]? = some d) : ∃ b o, A = some ⟨b, o, none⟩ ∧ b < w.heap.size ∧ ∀ j v, (cells8 d)[j]? = some v → w.cell? ⟨b, o + i * 32 + j, none⟩ = some v := by
  have hin : i < ds.length := (List.getElem?_eq_some_iff.1 hi).1
  obtain ⟨b, o, e, hb, hc⟩ := h.2.2.2 (by have := h.1; omega)
  refine ⟨b, o, e, hb, fun j v hv => ?_⟩
  rw [Nat.add_assoc]
  exact hc _ v (by have := digs_at ds h.2.1 i d hi j v hv; first | exact this | (rw [Nat.mul_comm 32 i] at this; exact this))
theorem flatMap_take : ∀ (ds : List Text) (k : Nat), Digs ds → (ds.flatMap cells8).take (k * 32) = (ds.take k).flatMap cells8
  | [], k, _ => by simp
  | d :: ds, 0, _ => by simp
  | d :: ds, k + 1, h => by
    have h1 := flatMap_take ds k (fun x hx => h x (List.mem_cons_of_mem _ hx))
    have h2 : (cells8 d).length = 32 := by rw [cells8_len]; exact h d (List.mem_cons_self ..)
    simp only [List.flatMap_cons, List.take_succ_cons]
    rw [List.take_append, h2, List.take_of_length_le (by omega), show (k + 1) * 32 - 32 = k * 32 by omega, h1]
theorem flatMap_drop : ∀ (ds : List Text) (k : Nat), Digs ds → (ds.flatMap cells8).drop (k * 32) = (ds.drop k).flatMap cells8
  | [], k, _ => by simp
  | d :: ds, 0, _ => by simp
  | d :: ds, k + 1, h => by
    have h1 := flatMap_drop ds k (fun x hx => h x (List.mem_cons_of_mem _ hx))
    have h2 : (cells8 d).length = 32 := by rw [cells8_len]; exact h d (List.mem_cons_self ..)
    simp only [List.flatMap_cons, List.drop_succ_cons]
    rw [List.drop_append, h2, List.drop_of_length_le (by omega), show (k + 1) * 32 - 32 = k * 32 by omega, h1, List.nil_append]
theorem flatMap_len (ds : List Text) (h : Digs ds) : (ds.flatMap cells8).length = ds.length * 32 := by rw [(digs_len ds h).2, Nat.mul_comm]
theorem RdD.take_ (h : RdD w A n ds) (k : Nat) (hk : k ≤ n) : RdD w A k (ds.take k) := by
  have hl := h.1
  refine ⟨by rw [List.length_take]; omega, h.2.1.take_ k, ?_⟩
  refine ⟨by rw [flatMap_len _ (h.2.1.take_ k), List.length_take]; congr 1; omega, fun h0 => ?_⟩
  obtain ⟨b, o, e, hb, hc⟩ := h.2.2.2 (by omega)
  refine ⟨b, o, e, hb, fun j u hu => hc j u ?_⟩
  rw [← flatMap_take ds k h.2.1, List.getElem?_take] at hu
  by_cases hj : j < k * 32
  · rw [if_pos hj] at hu; exact hu
  · rw [if_neg hj] at hu; cases hu
/-- Where the rest behind the first k of a row of digests lies. -/
def cutD (A : Option Addr) (k c : Nat) : Option Addr := if c = k then A else A.map (·.add (k * 32))
theorem RdD.drop_ (h : RdD w A n ds) (k c : Nat) (hk : k ≤ n) (hc : n ≤ c) : RdD w (cutD A k c) (n - k) (ds.drop k) := by
  have hl := h.1
  refine ⟨by rw [List.length_drop]; omega, h.2.1.drop_ k, ?_⟩
  refine ⟨by rw [flatMap_len _ (h.2.1.drop_ k), List.length_drop]; congr 1; omega, fun h0 => ?_⟩
  obtain ⟨b, o, e, hb, hcs⟩ := h.2.2.2 (by omega)
  subst e
  refine ⟨b, o + k * 32, by unfold cutD; rw [if_neg (by omega), Option.map_some, add_at], hb, fun j u hu => ?_⟩
  rw [Nat.add_assoc]
  apply hcs
  rw [← flatMap_drop ds k h.2.1, List.getElem?_drop] at hu
  exact hu
end
theorem size32s (w : World) : (sizeOf (Tryd.prog.elem 42)).run Tryd.prog w = .ok 32 w := by kernel_rfl
theorem undD : Tryd.prog.underlying 42 = some (.slice (Tryd.prog.elem 42)) := by kernel_rfl
end Go.Proofs.YtgldkfaiofkhbaaDoor.TreeMem
namespace Go.Proofs.YtgldkfaiofkhbaaDoor.TreeRoot
open Go Go.RowKit Go.Proofs.YtgldkfaiofkhbaaDoor Go.Proofs.YtgldkfaiofkhbaaDoor.Mem Go.Proofs.YtgldkfaiofkhbaaDoor.Sha Go.Proofs.YtgldkfaiofkhbaaDoor.Bytes Go.Proofs.YtgldkfaiofkhbaaDoor.TreeMem

theorem fit_size (x : Text) (hx : x.length = 32) : (Tryd.prog.info? 23).map (·.size) = some (cells8 x).toArray.size := size31.trans (congrArg some (by simp [cells8_len, hx]))
theorem fit_one (x : Text) : (cells8 x).toArray.all (fun v => v.oneCell') = true := by rw [List.all_toArray]; exact List.all_eq_true.2 (cells8_one x)
structure Fit (x : Text) : Prop where
  size : (Tryd.prog.info? 23).map (·.size) = some (cells8 x).toArray.size
  same : ∀ y : Text, y.length = 32 → (cells8 y).toArray.size = (cells8 x).toArray.size
  zero : (Z32 : Array Value).size = (cells8 x).toArray.size
  one : ((cells8 x).toArray.all fun v => v.oneCell') = true
  part : (Tryd.prog.info? 23).map (·.size) = some (cells8 x).length
theorem fit {x : Text} (h : x.length = 32) : Fit x := ⟨fit_size x h, fun y hy => by simp [cells8_len, h, hy], by simp [cells8_len, h, Z32], fit_one x, by rw [cells8_len, h]; exact size31⟩
end Go.Proofs.YtgldkfaiofkhbaaDoor.TreeRoot

namespace Go.Proofs.YtgldkfaiofkhbaaDoor.DigEq
open Go Go.RowKit Go.Proofs.YtgldkfaiofkhbaaDoor Go.Proofs.YtgldkfaiofkhbaaDoor.Mem Go.Proofs.YtgldkfaiofkhbaaDoor.Sha Go.Proofs.YtgldkfaiofkhbaaDoor.Bytes

theorem info8' : (Tryd.prog.info? 5).map (fun i => (i.zero, i.size, i.bytes)) = some (some (.int .u8 0), 1, 1) := by kernel_rfl
theorem info_parts' {P : Program} {e : TypeId} {z : Value} {s b : Nat} (h : (P.info? e).map (fun i => (i.zero, i.size, i.bytes)) = some (some z, s, b)) : ∃ i : TypeInfo, P.info? e = some i ∧ i.zero = some z ∧ i.size = s ∧ i.bytes = b := by
  cases hq : P.info? e with
  | none => simp [hq] at h
  | some i =>
    simp [hq] at h
    exact ⟨i, rfl, h.1, h.2.1, h.2.2⟩
theorem part8 (cs : Array Value) (i : Nat) (v : Value) (hv : cs[i]? = some v) (w : World) : (part 5 cs i).run Tryd.prog w = .ok v w := by
  have hg := run_isAgg_int (P := Tryd.prog) Tryd.underlying5 w
  simp [part, hg, hv, Result.andThen]
theorem items8 (x y : Text) (w : World) : ∀ is : List Nat, (∀ i ∈ is, i < x.length ∧ i < y.length) →
    (Op.eqItems 9999 5 1 (cells8 x).toArray (cells8 y).toArray is).run Tryd.prog w = .ok (is.all fun i => x.getD i 0 == y.getD i 0) w
  | [], _ => rfl
  | i :: is, h => by
    have hi := h i (by simp)
    have e1 : (cells8 x).toArray[i * 1]? = some (cell8 (x.getD i 0)) := by rw [Nat.mul_one, List.getElem?_toArray]; exact cells8_at x i hi.1
    have e2 : (cells8 y).toArray[i * 1]? = some (cell8 (y.getD i 0)) := by rw [Nat.mul_one, List.getElem?_toArray]; exact cells8_at y i hi.2
    have ih := items8 x y w is (fun j hj => h j (by simp [hj]))
    have e3 : (Op.equalIn 9999 5 (cell8 (x.getD i 0)) (cell8 (y.getD i 0))).run Tryd.prog w = .ok (b8 (x.getD i 0) == b8 (y.getD i 0)) w := run_equalIn_int w 9998 _ .u8 .u8 _ _ Tryd.underlying5
    have e4 : (b8 (x.getD i 0) == b8 (y.getD i 0)) = (x.getD i 0 == y.getD i 0) := by
      by_cases hxy : x.getD i 0 = y.getD i 0
      · rw [hxy]; simp
      · have : b8 (x.getD i 0) ≠ b8 (y.getD i 0) := fun e => hxy (b8_inj e)
        rw [beq_eq_false_iff_ne.2 hxy, beq_eq_false_iff_ne.2 this]
    rw [e4] at e3
    simp only [Op.eqItems, Sem.run_bind, part8 _ _ _ e1, part8 _ _ _ e2, e3, Result.andThen_ok, List.all_cons]
    cases hb : (x.getD i 0 == y.getD i 0)
    · simp
    · simpa using ih
theorem all_eq (x y : Text) (hx : x.length = 32) (hy : y.length = 32) : ((List.range 32).all fun i => x.getD i 0 == y.getD i 0) = decide (x = y) := by
  by_cases h : x = y
  · subst h
    simp
  · rw [decide_eq_false h]
    refine Bool.eq_false_iff.2 fun ha => h ?_
    apply List.ext_getElem (by omega)
    intro i h1 h2
    have := List.all_eq_true.1 ha i (List.mem_range.2 (by omega))
    simpa [List.getD, h1, h2] using this
theorem equal_dig (x y : Text) (hx : x.length = 32) (hy : y.length = 32) (w : World) : (Op.equalIn 10000 23 (.agg (cells8 x).toArray) (.agg (cells8 y).toArray)).run Tryd.prog w = .ok (decide (x = y)) w := by
  obtain ⟨i0, hi, _, hs, _⟩ := info_parts' info8'
  have hc : Tryd.prog.cellsOf 5 = 1 := by kernel_rfl
  rw [run_equalIn_array w 9999 _ _ Tryd.underlying23 hi, hc, items8 x y w _ (fun i hi => by have := List.mem_range.1 hi; omega), all_eq x y hx hy]
theorem eql_dig (x y : Text) (hx : x.length = 32) (hy : y.length = 32) (w : World) : (binOp .eql 23 (.agg (cells8 x).toArray) (.agg (cells8 y).toArray)).run Tryd.prog w = .ok (.bool (decide (x = y))) w := by
  rw [run_eql_struct w, equal_dig x y hx hy]
  rfl
theorem neq_dig (x y : Text) (hx : x.length = 32) (hy : y.length = 32) (w : World) : (binOp .neq 23 (.agg (cells8 x).toArray) (.agg (cells8 y).toArray)).run Tryd.prog w = .ok (.bool (!decide (x = y))) w := by
  rw [run_neq_struct w, equal_dig x y hx hy]
  rfl
end Go.Proofs.YtgldkfaiofkhbaaDoor.DigEq

namespace Go.Proofs.YtgldkfaiofkhbaaDoor.StructEq
open Go Go.RowKit Go.Proofs.YtgldkfaiofkhbaaDoor Go.Proofs.YtgldkfaiofkhbaaDoor.Mem Go.Proofs.YtgldkfaiofkhbaaDoor.Sha Go.Proofs.YtgldkfaiofkhbaaDoor.Bytes Go.Proofs.YtgldkfaiofkhbaaDoor.DigEq

end Go.Proofs.YtgldkfaiofkhbaaDoor.StructEq

namespace Go.Proofs.YtgldkfaiofkhbaaDoor.CutP
open Go Go.Proofs.YtgldkfaiofkhbaaDoor Go.Proofs.YtgldkfaiofkhbaaDoor.Sha Go.Proofs.YtgldkfaiofkhbaaDoor.Bytes Go.Proofs.YtgldkfaiofkhbaaDoor.PieceP

/-- One piece: its first number, the chain ahead of it, where its events begin, and how many they are. -/
structure Cut where
  F : Int
  b : Text
  lo : Nat
  n : Nat
section
variable (sz : Int) (nb : Nat) (ch : Text → List Text → Text) (es : List Text) (its : List PieceP.Item)
def cuts : Nat → Int → Text → Nat → Option (List Cut)
  | 0, _, _, lo => if es.length ≤ lo then some [] else none
  | k + 1, F, b, lo => if es.length ≤ lo then some [] else if reachFrom F sz 0 nb none (its.drop lo) = 0 then none
      else (cuts k (F + (reachFrom F sz 0 nb none (its.drop lo) : Nat)) (ch b ((es.drop lo).take (reachFrom F sz 0 nb none (its.drop lo)))) (lo + reachFrom F sz 0 nb none (its.drop lo))).map (⟨F, b, lo, reachFrom F sz 0 nb none (its.drop lo)⟩ :: ·)
def Inv (W : Option (List Cut)) (acc : List Cut) (F : Int) (b : Text) (lo : Nat) : Prop := ∃ k, es.length ≤ lo + k ∧ W = (cuts sz nb ch es its k F b lo).map (acc ++ ·)
end
section
variable {sz : Int} {nb : Nat} {ch : Text → List Text → Text} {es : List Text} {its : List PieceP.Item} {W : Option (List Cut)} {acc : List Cut} {F : Int} {b : Text} {lo : Nat}
theorem Inv.start (F : Int) (b : Text) : Inv sz nb ch es its (cuts sz nb ch es its es.length F b 0) [] F b 0 := ⟨es.length, by omega, by simp⟩
theorem Inv.done (h : Inv sz nb ch es its W acc F b lo) (hl : es.length ≤ lo) : W = some acc := by
  obtain ⟨k, -, rfl⟩ := h
  cases k with
  | zero => simp [cuts, hl]
  | succ k => simp [cuts, hl]
theorem Inv.stuck (h : Inv sz nb ch es its W acc F b lo) (hl : ¬ es.length ≤ lo) (hr : reachFrom F sz 0 nb none (its.drop lo) = 0) : W = none := by
  obtain ⟨k, -, rfl⟩ := h
  cases k with
  | zero => simp [cuts, hl]
  | succ k => simp [cuts, hl, hr]
theorem Inv.step (h : Inv sz nb ch es its W acc F b lo) (hl : ¬ es.length ≤ lo) {n : Nat} (hr : reachFrom F sz 0 nb none (its.drop lo) = n) (hn : n ≠ 0) : Inv sz nb ch es its W (acc ++ [⟨F, b, lo, n⟩]) (F + (n : Nat)) (ch b ((es.drop lo).take n)) (lo + n) := by
  obtain ⟨k, hk, rfl⟩ := h
  cases k with
  | zero => omega
  | succ k =>
    refine ⟨k, by omega, ?_⟩
    have e : cuts sz nb ch es its (k + 1) F b lo = (cuts sz nb ch es its k (F + (n : Nat)) (ch b ((es.drop lo).take n)) (lo + n)).map (⟨F, b, lo, n⟩ :: ·) := by
      rw [cuts, if_neg hl, hr, if_neg hn]
    rw [e]
    cases cuts sz nb ch es its k (F + (n : Nat)) (ch b ((es.drop lo).take n)) (lo + n) with
    | none => rfl
    | some l => simp
end
/-- The numbers stay within the size. -/
theorem reach_sum (F sz : Int) : ∀ (l : List PieceP.Item) (i b : Nat) (p : Option Int), i < reachFrom F sz i b p l → F + (reachFrom F sz i b p l : Nat) ≤ sz := by
  intro l
  induction l with
  | nil => intro i b p h; exact absurd h (Nat.lt_irrefl _)
  | cons x l ih =>
    intro i b p h
    by_cases h1 : i = 1000 ∨ 2097152 < b + (12 + x.len + 32 * x.ways) ∨ x.fit = false ∨ x.size ≠ sz ∨ sz - i - 1 < F
    · rw [reach_stop h1] at h; omega
    · cases h2 : low p x.num with
      | true => rw [reach_low h2] at h; omega
      | false =>
        rw [reach_on h1 h2] at h ⊢
        by_cases h3 : i + 1 < reachFrom F sz (i + 1) (b + (12 + x.len + 32 * x.ways)) (some x.num) l
        · exact ih _ _ _ h3
        · have := reach_ge F sz l (i + 1) (b + (12 + x.len + 32 * x.ways)) (some x.num)
          have h5 : ¬ (sz - i - 1 < F) := fun hh => h1 (.inr (.inr (.inr (.inr hh))))
          omega
/-- Where something is cut off, the first item fits and is of the size. -/
theorem reach_fit {F sz : Int} {b : Nat} {p : Option Int} {l : List PieceP.Item} (h : reachFrom F sz 0 b p l ≠ 0) : ∃ x, l[0]? = some x ∧ x.fit = true ∧ x.size = sz := by
  cases l with
  | nil => exact absurd rfl h
  | cons x l =>
    refine ⟨x, rfl, ?_, ?_⟩
    · cases hx : x.fit with
      | true => rfl
      | false => exact absurd (reach_stop (.inr (.inr (.inl hx)))) h
    · exact Classical.byContradiction fun hx => h (reach_stop (.inr (.inr (.inr (.inl hx)))))
theorem reach_lt {F sz : Int} {b : Nat} {p : Option Int} {l : List PieceP.Item} {lo n m : Nat} (h : reachFrom F sz 0 b p (l.drop lo) = n) (hm : l.length = m) : n ≤ m - lo := by
  have := reach_le F sz (l.drop lo) 0 b p
  rw [List.length_drop] at this
  omega
theorem rises_step (sz : Int) (p : Option Int) {l : List PieceP.Item} {i : Nat} {x : PieceP.Item} (h : l[i]? = some x) : rises sz p (l.drop i) = (decide (x.size = sz) && (!low p x.num && rises sz (some x.num) (l.drop (i + 1)))) := by
  obtain ⟨hi, hx⟩ := List.getElem?_eq_some_iff.1 h
  rw [List.drop_eq_getElem_cons hi, hx]
  rfl
theorem rises_end (sz : Int) (p : Option Int) {l : List PieceP.Item} {i : Nat} (h : l.length ≤ i) : rises sz p (l.drop i) = true := by
  rw [List.drop_of_length_le h]
  cases p <;> rfl
end Go.Proofs.YtgldkfaiofkhbaaDoor.CutP

namespace Go.Proofs.YtgldkfaiofkhbaaDoor.JoinP
open Go Go.Proofs.YtgldkfaiofkhbaaDoor Go.Proofs.YtgldkfaiofkhbaaDoor.Sha Go.Proofs.YtgldkfaiofkhbaaDoor.Bytes Go.Proofs.YtgldkfaiofkhbaaDoor.PieceP Go.Proofs.YtgldkfaiofkhbaaDoor.CutP

/-- What reach asks of an item where it begins a piece. -/
def good (sz : Int) (nb : Nat) (F : Int) (x : PieceP.Item) : Prop := nb + (12 + x.len + 32 * x.ways) ≤ 2097152 ∧ x.fit = true ∧ x.size = sz ∧ F ≤ sz - 1
/-- Each item that a piece takes might begin one. -/
theorem reach_good (F sz : Int) (nb : Nat) : ∀ (l : List PieceP.Item) (i b : Nat) (p : Option Int), nb ≤ b → ∀ (j : Nat) (x : PieceP.Item), l[j]? = some x → i + j < reachFrom F sz i b p l → good sz nb (F + i + j) x
  | [], i, b, p, _, j, x, hx, _ => by cases hx
  | y :: l, i, b, p, hb, j, x, hx, hr => by
    by_cases h1 : i = 1000 ∨ 2097152 < b + (12 + y.len + 32 * y.ways) ∨ y.fit = false ∨ y.size ≠ sz ∨ sz - i - 1 < F
    · rw [reach_stop h1] at hr; omega
    · cases h2 : low p y.num with
      | true => rw [reach_low h2] at hr; omega
      | false =>
        rw [reach_on h1 h2] at hr
        cases j with
        | zero =>
          obtain rfl := Option.some.inj hx
          refine ⟨?_, ?_, ?_, ?_⟩
          · have : ¬ 2097152 < b + (12 + y.len + 32 * y.ways) := fun h => h1 (.inr (.inl h))
            omega
          · cases hf : y.fit with
            | true => rfl
            | false => exact absurd (.inr (.inr (.inl hf))) h1
          · exact Classical.byContradiction fun h => h1 (.inr (.inr (.inr (.inl h))))
          · have : ¬ (sz - i - 1 < F) := fun h => h1 (.inr (.inr (.inr (.inr h))))
            omega
        | succ j =>
          have := reach_good F sz nb l (i + 1) (b + (12 + y.len + 32 * y.ways)) (some y.num) (by omega) j x hx (by omega)
          have e : F + ((i + 1 : Nat) : Int) + (j : Int) = F + (i : Int) + ((j + 1 : Nat) : Int) := by omega
          rwa [e] at this
/-- A good item begins a piece. -/
theorem good_reach {F sz : Int} {nb : Nat} {x : PieceP.Item} {l : List PieceP.Item} (h : good sz nb F x) : reachFrom F sz 0 nb none (x :: l) ≠ 0 := by
  obtain ⟨h1, h2, h3, h4⟩ := h
  rw [reach_on (by
    rintro (h | h | h | h | h)
    · omega
    · omega
    · rw [h2] at h; cases h
    · exact h h3
    · omega) rfl]
  have := reach_ge F sz l (0 + 1) (nb + (12 + x.len + 32 * x.ways)) (some x.num)
  omega
/-- What is taken of it is taken without the rest too. -/
theorem reach_take (F sz : Int) : ∀ (l : List PieceP.Item) (i b : Nat) (p : Option Int) (m : Nat), i + m ≤ reachFrom F sz i b p l → reachFrom F sz i b p (l.take m) = i + m
  | [], i, b, p, m, h => by
    have : reachFrom F sz i b p [] = i := rfl
    rw [this] at h
    rw [List.take_nil, this]
    omega
  | x :: l, i, b, p, 0, _ => rfl
  | x :: l, i, b, p, m + 1, h => by
    by_cases h1 : i = 1000 ∨ 2097152 < b + (12 + x.len + 32 * x.ways) ∨ x.fit = false ∨ x.size ≠ sz ∨ sz - i - 1 < F
    · rw [reach_stop h1] at h; omega
    · cases h2 : low p x.num with
      | true => rw [reach_low h2] at h; omega
      | false =>
        rw [reach_on h1 h2] at h
        rw [List.take_succ_cons, reach_on h1 h2, reach_take F sz l _ _ _ m (by omega)]
        omega
/-- More than what is taken changes nothing. -/
theorem reach_more (F sz : Int) : ∀ (l : List PieceP.Item) (i b : Nat) (p : Option Int) (m : Nat), reachFrom F sz i b p l < i + m → reachFrom F sz i b p (l.take m) = reachFrom F sz i b p l
  | [], i, b, p, m, _ => by rw [List.take_nil]
  | x :: l, i, b, p, 0, h => by have := reach_ge F sz (x :: l) i b p; omega
  | x :: l, i, b, p, m + 1, h => by
    by_cases h1 : i = 1000 ∨ 2097152 < b + (12 + x.len + 32 * x.ways) ∨ x.fit = false ∨ x.size ≠ sz ∨ sz - i - 1 < F
    · rw [List.take_succ_cons, reach_stop h1, reach_stop h1]
    · cases h2 : low p x.num with
      | true => rw [List.take_succ_cons, reach_low h2, reach_low h2]
      | false =>
        rw [reach_on h1 h2] at h
        rw [List.take_succ_cons, reach_on h1 h2, reach_on h1 h2]
        exact reach_more F sz l _ _ _ m (by omega)
/-- How the cuts lie: each goes on where the one ahead ended; they end at the list's end. -/
inductive Chn (sz : Int) (nb : Nat) (ch : Text → List Text → Text) (es : List Text) (its : List PieceP.Item) : Int → Text → Nat → List Cut → Prop
  | done {F : Int} {b : Text} {lo : Nat} (h : es.length ≤ lo) : Chn sz nb ch es its F b lo []
  | more {F : Int} {b : Text} {lo n : Nat} {l : List Cut} (hlt : lo < es.length) (hr : reachFrom F sz 0 nb none (its.drop lo) = n) (hn : n ≠ 0) (h : Chn sz nb ch es its (F + (n : Nat)) (ch b ((es.drop lo).take n)) (lo + n) l) : Chn sz nb ch es its F b lo (⟨F, b, lo, n⟩ :: l)
section
variable {sz : Int} {nb : Nat} {ch : Text → List Text → Text} {es : List Text} {its : List PieceP.Item}
theorem cuts_chn : ∀ (k : Nat) (F : Int) (b : Text) (lo : Nat) (ks : List Cut), cuts sz nb ch es its k F b lo = some ks → Chn sz nb ch es its F b lo ks
  | 0, F, b, lo, ks, h => by
    unfold cuts at h
    split at h
    · rename_i hl; rw [← Option.some.inj h]; exact .done hl
    · cases h
  | k + 1, F, b, lo, ks, h => by
    unfold cuts at h
    split at h
    · rename_i hl; rw [← Option.some.inj h]; exact .done hl
    · rename_i hl
      split at h
      · cases h
      · rename_i hr
        obtain ⟨l, hl2, rfl⟩ := Option.map_eq_some_iff.1 h
        exact .more (by omega) rfl hr (cuts_chn k _ _ _ l hl2)
/-- Every item from a place on is good, if it can be cut. -/
theorem Chn.good {F : Int} {b : Text} {lo : Nat} {ks : List Cut} (hlen : its.length = es.length) (h : Chn sz nb ch es its F b lo ks) : ∀ (j : Nat) (x : PieceP.Item), lo ≤ j → its[j]? = some x → good sz nb (F + ((j - lo : Nat) : Int)) x := by
  induction h with
  | done hl => intro j x hj hx; have := (List.getElem?_eq_some_iff.1 hx).1; omega
  | @more F b lo n l hlt hr hn h ih =>
    intro j x hj hx
    by_cases hc : j < lo + n
    · have := reach_good F sz nb (its.drop lo) 0 nb none (Nat.le_refl _) (j - lo) x (by rw [List.getElem?_drop, show lo + (j - lo) = j by omega]; exact hx) (by rw [hr]; omega)
      simpa using this
    · have := ih j x (by omega) hx
      have e : F + (n : Int) + ((j - (lo + n) : Nat) : Int) = F + ((j - lo : Nat) : Int) := by omega
      rwa [e] at this
/-- If every item is good, all is cut. -/
theorem good_cuts (hlen : its.length = es.length) : ∀ (k : Nat) (F : Int) (b : Text) (lo : Nat), es.length ≤ lo + k → (∀ (j : Nat) (x : PieceP.Item), lo ≤ j → its[j]? = some x → good sz nb (F + ((j - lo : Nat) : Int)) x) → ∃ ks, cuts sz nb ch es its k F b lo = some ks
  | 0, F, b, lo, hk, _ => ⟨[], by unfold cuts; rw [if_pos (by omega)]⟩
  | k + 1, F, b, lo, hk, hg => by
    unfold cuts
    by_cases hl : es.length ≤ lo
    · exact ⟨[], if_pos hl⟩
    · rw [if_neg hl]
      have hx : its[lo]? = some (its[lo]'(by omega)) := List.getElem?_eq_getElem (by omega)
      have hd : its.drop lo = its[lo]'(by omega) :: its.drop (lo + 1) := List.drop_eq_getElem_cons (by omega)
      have h0 := hg lo _ (Nat.le_refl _) hx
      simp only [Nat.sub_self, Int.add_zero, Int.cast_ofNat_Int] at h0
      have hr : reachFrom F sz 0 nb none (its.drop lo) ≠ 0 := by
        rw [hd]
        refine good_reach ?_
        simpa using h0
      rw [if_neg hr]
      obtain ⟨ks, hks⟩ := good_cuts hlen k (F + (reachFrom F sz 0 nb none (its.drop lo) : Nat)) (ch b ((es.drop lo).take (reachFrom F sz 0 nb none (its.drop lo)))) (lo + reachFrom F sz 0 nb none (its.drop lo)) (by omega) (fun j x hj hx => by
        have := hg j x (by omega) hx
        have e : F + ((j - lo : Nat) : Int) = F + (reachFrom F sz 0 nb none (its.drop lo) : Nat) + ((j - (lo + reachFrom F sz 0 nb none (its.drop lo)) : Nat) : Int) := by omega
        rwa [e] at this)
      exact ⟨_, by rw [hks]; rfl⟩
/-- The chain behind all cuts is the chain of all events. -/
theorem Chn.last {F : Int} {b : Text} {lo : Nat} {ks : List Cut} (hlen : its.length = es.length) (happ : ∀ b x y, ch (ch b x) y = ch b (x ++ y)) (h : Chn sz nb ch es its F b lo ks) : ∀ c, ks.getLast? = some c → ch c.b ((es.drop c.lo).take c.n) = ch b (es.drop lo) ∧ c.lo + c.n = es.length := by
  induction h with
  | done hl => intro c hc; cases hc
  | @more F b lo n l hlt hr hn h ih =>
    intro c hc
    cases h with
    | done hl =>
      have hc' : (⟨F, b, lo, n⟩ : Cut) = c := by simpa using hc
      subst hc'
      have hle : n ≤ its.length - lo := by
        have := reach_le F sz (its.drop lo) 0 nb none
        rw [hr, List.length_drop] at this
        omega
      exact ⟨by rw [List.take_of_length_le (by rw [List.length_drop]; simp only; omega)], by simp only; omega⟩
    | more hlt2 hr2 hn2 h2 =>
      rw [List.getLast?_cons_cons] at hc
      obtain ⟨i1, i2⟩ := ih c hc
      refine ⟨?_, i2⟩
      rw [i1, happ]
      congr 1
      rw [← List.drop_drop, List.take_append_drop]
end
end Go.Proofs.YtgldkfaiofkhbaaDoor.JoinP
