/-
  Texts of the claim, put into one file: HashMem, DigestMem.
-/
import Derived.Test.YtfbhjoejffagjaaGreatDoorZ1
import Derived.Test.YtfbhjoejffagjaaGreatDoorZ2
import Derived.Test.YtfbhjoejffagjaaGreatDoorZ16
import Derived.Test.YtfbhjoejffagjaaGreatDoorZ3

namespace Go.Proofs.YtfbhjoejffagjaaGreatDoor.HashMem
open Go Go.RowKit Go.Proofs.YtfbhjoejffagjaaGreatDoor Go.Proofs.YtfbhjoejffagjaaGreatDoor.Mem Go.Proofs.YtfbhjoejffagjaaGreatDoor.Sha Go.Proofs.YtfbhjoejffagjaaGreatDoor.ShaWalk Go.Proofs.YtfbhjoejffagjaaGreatDoor.Bytes

/-- The memory of a hasher: the state s, k bytes of the buffer, the count n. -/
structure HC (w : World) (g : Nat) (s : St) (k : Nat) (f : Nat → BitVec 8) (n : Nat) (cs : Array Value) : Prop where
  blk : Blk w g 176 cs
  size : cs.size = 73
  one : ∀ (j : Nat) (v : Value), cs[j]? = some v → v.oneCell' = true
  st : ∀ j, j < 8 → cs[j]? = some (.int .u32 (u (s.get j)))
  buf : ∀ j, j < k → cs[8 + j]? = some (cell8 (f j))
  cnt : cs[72]? = some (.int .u64 (n : Int))

section
variable {w w' : World} {g k n : Nat} {s : St} {f : Nat → BitVec 8} {cs cs' : Array Value}
theorem HC.kept {S : Nat → Prop} (h : HC w g s k f n cs) (hk : Kept S w w') (hS : ¬ S g) : HC w' g s k f n cs := ⟨h.blk.kept hk hS, h.size, h.one, h.st, h.buf, h.cnt⟩
theorem HC.below {B : Nat} (h : HC w g s k f n cs) (hb : Below B w w') (hB : g < B) : HC w' g s k f n cs := ⟨(hb.block g hB).trans h.blk, h.size, h.one, h.st, h.buf, h.cnt⟩
theorem HC.alloc (h : HC w g s k f n cs) (o : Obj) : HC (w.alloc o) g s k f n cs := ⟨h.blk.alloc o, h.size, h.one, h.st, h.buf, h.cnt⟩
theorem HC.drewN (h : HC w g s k f n cs) (m : Nat) : HC (w.drewN m) g s k f n cs := ⟨h.blk, h.size, h.one, h.st, h.buf, h.cnt⟩
theorem HC.less {k' : Nat} {f' : Nat → BitVec 8} (h : HC w g s k f n cs) (hk : k' ≤ k) (hf : ∀ j, j < k' → f' j = f j) : HC w g s k' f' n cs :=
  ⟨h.blk, h.size, h.one, h.st, fun j hj => by rw [hf j hj]; exact h.buf j (by omega), h.cnt⟩
theorem HC.count (h : HC w g s k f n cs) (hk : k ≤ 64) (n' : Nat) : HC (w.setCell ⟨g, 72, none⟩ (.int .u64 (n' : Int))) g s k f n' (cs.setIfInBounds 72 (.int .u64 (n' : Int))) := by
  refine ⟨h.blk.set_ 72 _, by simpa using h.size, fun j v hv => ?_, fun j hj => ?_, fun j hj => ?_, ?_⟩
  · rw [Array.getElem?_setIfInBounds] at hv
    by_cases e : 72 = j
    · rw [if_pos e, if_pos (by have := h.size; omega)] at hv
      obtain rfl := (Option.some.inj hv).symm
      rfl
    · rw [if_neg e] at hv
      exact h.one j v hv
  · rw [Array.getElem?_setIfInBounds, if_neg (by omega)]
    exact h.st j hj
  · rw [Array.getElem?_setIfInBounds, if_neg (by omega)]
    exact h.buf j hj
  · rw [Array.getElem?_setIfInBounds, if_pos rfl, if_pos (by have := h.size; omega)]
theorem HC.took {f' : Nat → BitVec 8} (h : HC w g s k f n cs) (hi : IsSt w g 176 cs s (rnd (mB f') s 64) 8 w' cs') : HC w' g (comp s (mB f')) k f n cs' := by
  refine ⟨hi.blk, by rw [hi.size, h.size], fun j v hv => ?_, fun j hj => ?_, fun j hj => ?_, ?_⟩
  · by_cases hj : j < 8
    · rw [hi.low j hj] at hv
      obtain rfl := (Option.some.inj hv).symm
      rfl
    · rw [hi.high j (by omega)] at hv
      exact h.one j v hv
  · rw [hi.low j hj, comp_get]
    unfold sumTab
    rw [if_pos hj]
  · rw [hi.high _ (by omega)]
    exact h.buf j hj
  · rw [hi.high _ (by omega)]
    exact h.cnt
/-- Behind a copy of bytes to the buffer's free place. -/
theorem HC.copied (h : HC w g s k f n cs) (q : Text) (m : Nat) (hm : m ≤ q.length) (hk : k + m ≤ 64) (hb : Blk w' g 176 (splice cs.toList (8 + k) (cells8 (q.take m))).toArray) :
    HC w' g s (k + m) (fun j => if j < k then f j else q.getD (j - k) 0) n (splice cs.toList (8 + k) (cells8 (q.take m))).toArray := by
  have hl : (cells8 (q.take m)).length = m := by rw [cells8_len]; simp; omega
  have hs : cs.toList.length = 73 := by simpa using h.size
  have hg : ∀ i, (splice cs.toList (8 + k) (cells8 (q.take m))).toArray[i]? = if i < 8 + k then cs[i]? else if i < 8 + k + m then (cells8 (q.take m))[i - (8 + k)]? else cs[i]? := by
    intro i
    rw [List.getElem?_toArray, splice_get _ _ _ (by omega), hl, Array.getElem?_toList]
  refine ⟨hb, by simp [length_splice _ _ _ (show 8 + k + (cells8 (q.take m)).length ≤ cs.toList.length by omega)]; exact h.size, fun j v hv => ?_, fun j hj => ?_, fun j hj => ?_, ?_⟩
  · rw [hg] at hv
    by_cases h1 : j < 8 + k
    · rw [if_pos h1] at hv
      exact h.one j v hv
    · rw [if_neg h1] at hv
      by_cases h2 : j < 8 + k + m
      · rw [if_pos h2, cells8_at _ _ (by simp; omega)] at hv
        obtain rfl := (Option.some.inj hv).symm
        rfl
      · rw [if_neg h2] at hv
        exact h.one j v hv
  · rw [hg, if_pos (by omega)]
    exact h.st j hj
  · rw [hg]
    by_cases h1 : j < k
    · rw [if_pos (by omega), if_pos h1]
      exact h.buf j h1
    · rw [if_neg (by omega), if_pos (by omega), if_neg h1, cells8_at _ _ (by simp; omega)]
      congr 2
      have e : 8 + j - (8 + k) = j - k := by omega
      rw [e]
      simp only [List.getD, List.getElem?_take]
      rw [if_pos (by omega)]
  · rw [hg, if_neg (by omega), if_neg (by omega)]
    exact h.cnt
end

/-- The i-th block's bytes of a text. -/
def blockF (L : Text) (i j : Nat) : BitVec 8 := L.getD (64 * i + j) 0
theorem mOf_eq (L : Text) (i : Nat) : mOf L i = mB (blockF L i) := by
  funext t
  rfl
theorem fold_succ (L : Text) (i : Nat) : fold L (i + 1) = comp (fold L i) (mB (blockF L i)) := by rw [fold, mOf_eq]

/-- A hasher that has taken the text l. -/
def Hh (w : World) (g : Nat) (l : Text) : Prop := ∃ cs, HC w g (fold l (l.length / 64)) (l.length % 64) (blockF l (l.length / 64)) l.length cs
theorem Hh.kept {S : Nat → Prop} {w w' : World} {g : Nat} {l : Text} (h : Hh w g l) (hk : Kept S w w') (hS : ¬ S g) : Hh w' g l := by
  obtain ⟨cs, h⟩ := h
  exact ⟨cs, h.kept hk hS⟩
theorem Hh.lt {w : World} {g : Nat} {l : Text} (h : Hh w g l) : g < w.heap.size := by
  obtain ⟨cs, h⟩ := h
  exact h.blk.lt
/-- The same, seen from the whole text that is to go in. -/
theorem HC.lift {w : World} {g : Nat} {l : Text} {cs : Array Value} (h : HC w g (fold l (l.length / 64)) (l.length % 64) (blockF l (l.length / 64)) l.length cs) (q : Text) :
    HC w g (fold (l ++ q) (l.length / 64)) (l.length % 64) (blockF (l ++ q) (l.length / 64)) l.length cs := by
  rw [fold_append l q _ (by omega)]
  refine h.less (Nat.le_refl _) fun j hj => ?_
  unfold blockF
  exact getD_left _ _ _ (by omega)

theorem blockF_right (l q : Text) (i a j : Nat) (h : l.length = 64 * i + a) : (if j < a then blockF (l ++ q) i j else q.getD (j - a) 0) = blockF (l ++ q) i j := by
  by_cases hj : j < a
  · rw [if_pos hj]
  · rw [if_neg hj]
    unfold blockF
    rw [getD_right _ _ _ (by omega)]
    congr 1
    omega
theorem Hh.mk_ {w : World} {g i r : Nat} {L : Text} {cs : Array Value} (hr : r < 64) (hl : L.length = 64 * i + r) (h : HC w g (fold L i) r (blockF L i) L.length cs) : Hh w g L := by
  have e1 : L.length / 64 = i := by omega
  have e2 : L.length % 64 = r := by omega
  refine ⟨cs, ?_⟩
  rw [e1, e2]
  exact h
theorem blockF_q (l q : Text) (i d j : Nat) (h : l.length + d = 64 * i) : blockF (l ++ q) i j = q.getD (d + j) 0 := by
  unfold blockF
  rw [getD_right _ _ _ (by omega)]
  congr 1
  omega
/-- A fresh hasher's cells. -/
def initCells (Z : Array Value) : Array Value := (((((((Z.setIfInBounds 0 (.int .u32 (u init.a))).setIfInBounds 1 (.int .u32 (u init.b))).setIfInBounds 2 (.int .u32 (u init.c))).setIfInBounds 3 (.int .u32 (u init.d))).setIfInBounds 4 (.int .u32 (u init.e))).setIfInBounds 5 (.int .u32 (u init.f))).setIfInBounds 6 (.int .u32 (u init.g))).setIfInBounds 7 (.int .u32 (u init.h))
theorem HC.init_ {w : World} {g : Nat} {f : Nat → BitVec 8} {Z : Array Value} (hs : Z.size = 73) (h1 : Z.all (fun v => v.oneCell') = true) (hc : Z[72]? = some (.int .u64 0)) (hb : Blk w g 176 (initCells Z)) : HC w g init 0 f 0 (initCells Z) := by
  have one : ∀ (j : Nat) (v : Value), Z[j]? = some v → v.oneCell' = true := by
    intro j v hv
    obtain ⟨hj, rfl⟩ := Array.getElem?_eq_some_iff.1 hv
    exact Array.all_eq_true.1 h1 j hj
  refine ⟨hb, by simp [initCells, hs], ?_, fun j hj => ?_, fun j hj => absurd hj (by omega), ?_⟩
  · unfold initCells
    exact one_set (one_set (one_set (one_set (one_set (one_set (one_set (one_set one _ _ rfl) _ _ rfl) _ _ rfl) _ _ rfl) _ _ rfl) _ _ rfl) _ _ rfl) _ _ rfl
  · unfold initCells
    match j, hj with
    | 0, _ => simp [hs, St.get]
    | 1, _ => simp [hs, St.get]
    | 2, _ => simp [hs, St.get]
    | 3, _ => simp [hs, St.get]
    | 4, _ => simp [hs, St.get]
    | 5, _ => simp [hs, St.get]
    | 6, _ => simp [hs, St.get]
    | 7, _ => simp [hs, St.get]
  · unfold initCells
    simpa [Array.getElem?_setIfInBounds, hs] using hc
theorem Hh.init_ {w : World} {g : Nat} {Z : Array Value} (hs : Z.size = 73) (h1 : Z.all (fun v => v.oneCell') = true) (hc : Z[72]? = some (.int .u64 0)) (hb : Blk w g 176 (initCells Z)) : Hh w g [] :=
  Hh.mk_ (i := 0) (r := 0) (by omega) rfl (HC.init_ hs h1 hc hb)

/-- The round table, where it lies. -/
def Base (w : World) : Prop := 1 < w.heap.size ∧ ∀ j, j < 64 → w.cell? ⟨1, j, none⟩ = some (.int .u32 (u (K j)))
theorem Base.kept {S : Nat → Prop} {w w' : World} (h : Base w) (hk : Kept S w w') (hS : ¬ S 1) : Base w' :=
  ⟨Nat.lt_of_lt_of_le h.1 hk.size, fun j hj => (hk.cell (p := ⟨1, j, none⟩) h.1 hS).trans (h.2 j hj)⟩
theorem Base.below {w w' : World} {B : Nat} (h : Base w) (hb : Below B w w') (hB : 1 < B) : Base w' :=
  ⟨by have := hb.size; have := h.1; omega, fun j hj => (hb.cell (p := ⟨1, j, none⟩) hB).trans (h.2 j hj)⟩

end Go.Proofs.YtfbhjoejffagjaaGreatDoor.HashMem

namespace Go.Proofs.YtfbhjoejffagjaaGreatDoor.DigestMem
open Go Go.RowKit Go.Proofs.YtfbhjoejffagjaaGreatDoor Go.Proofs.YtfbhjoejffagjaaGreatDoor.Mem Go.Proofs.YtfbhjoejffagjaaGreatDoor.Sha Go.Proofs.YtfbhjoejffagjaaGreatDoor.ShaWalk Go.Proofs.YtfbhjoejffagjaaGreatDoor.Bytes Go.Proofs.YtfbhjoejffagjaaGreatDoor.HashMem

/-- clear(s), s a part of a row that is known whole. -/
theorem run_clear_row {P : Program} (w : World) (t e ty : TypeId) (z : Value) (ht : P.underlying t = some (.slice e)) (hv : ∀ w, (zeroValue e).run P w = .ok z w) (hz : z.cells = #[z]) (h1 : z.oneCell' = true) (g o n c : Nat) (hn : 0 < n)
    (cur : Array Value) (T : TypeId) (hg : Blk w g T cur) (hfit : o + n ≤ cur.size) :
    (Builtin.clear_ #[t] ty #[.slice (some ⟨g, o, none⟩) n c]).run P w = .ok (.tuple #[]) (w.setRow g (splice cur.toList o (List.replicate n z)).toArray) := by
  have hzc : (Builtin.zeroCells z.cells n).toList = List.replicate n z := by
    rw [hz]
    simp [Builtin.zeroCells]
    apply List.ext_getElem
    · simp
    · intro i h1 h2
      simp [Nat.mod_one]
  have hst := run_storeCells_at (P := P) g o T (List.replicate n z) 0 cur w hg (by simpa using hfit) (by intro v hv'; rw [List.eq_of_mem_replicate hv']; exact h1)
  obtain ⟨m, rfl⟩ : ∃ m, n = m + 1 := ⟨n - 1, by omega⟩
  simp only [Nat.add_zero] at hst
  simp [Builtin.clear_, run_underlying ht, hv, hzc, hst, splice, Result.andThen]
theorem wpList_clear_row {P : Program} {w : World} {ops : Array Oper} {rest : List Oper} {o : Oper} {a : Act} {Q : Exit → Act → World → Prop} (hgd : o.guard = none) (d : Operand) (dT : TypeId)
    (ho : o.op = .call { callee := .builtin .clear, args := #[d], argTypes := #[dT] }) (e : TypeId) (hu : P.underlying dT = some (.slice e)) (z : Value) (hv : ∀ w, (zeroValue e).run P w = .ok z w) (hz : z.cells = #[z]) (h1 : z.oneCell' = true)
    (g off n c : Nat) (hd : a.eval d = .slice (some ⟨g, off, none⟩) n c) (off' : Nat) (hoff : 0 < n → off = off') (cur : Array Value) (T : TypeId) (hg : Blk w g T cur) (hfit : off' + n ≤ cur.size)
    (h : wpList P ops Q rest (a.put o.dst (.tuple #[])) (w.setRow g (splice cur.toList off' (List.replicate n z)).toArray)) : wpList P ops Q (o :: rest) a w := by
  refine wpList_plain hgd fun K hK => ?_
  have hrun : (Builtin.clear_ #[dT] o.type #[.slice (some ⟨g, off, none⟩) n c]).run P w = .ok (.tuple #[]) (w.setRow g (splice cur.toList off' (List.replicate n z)).toArray) := by
    by_cases hn : 0 < n
    · rw [hoff hn]
      exact run_clear_row w dT e o.type z hu hv hz h1 g off' n c hn cur T hg hfit
    · obtain rfl : n = 0 := by omega
      have e1 : (splice cur.toList off' (List.replicate 0 z)).toArray = cur := by simp [splice]
      rw [e1, setRow_self w g cur T (0, 0) hg]
      simp [Builtin.clear_, run_underlying hu, Result.andThen]
  unfold Oper.wp
  simp [execOp, ho, resolve, invoke, builtin, hd, hrun, Result.andThen]
  exact hK _ _ h

/-- A sum, cut. -/
def clampN (s : Int) : Nat := if s < 1 then 1 else if 32 < s then 32 else s.toNat
theorem clampN_ok (s : Int) : 1 ≤ clampN s ∧ clampN s ≤ 32 := by
  unfold clampN
  split
  · omega
  · split <;> omega
def cutTo (x : Text) (m : Nat) : Text := splice x m (List.replicate (32 - m) 0)
theorem cells8_splice (x r : Text) (m : Nat) : cells8 (splice x m r) = splice (cells8 x) m (cells8 r) := by simp [cells8, splice]
theorem cutTo_len (x : Text) (m : Nat) (hx : x.length = 32) (hm : m ≤ 32) : (cutTo x m).length = 32 := by
  unfold cutTo
  rw [length_splice _ _ _ (by simp; omega), hx]
theorem cutTo_cells (x : Text) (m : Nat) : (splice (cells8 x) m (List.replicate (32 - m) (.int .u8 0))) = cells8 (cutTo x m) := by
  unfold cutTo
  rw [cells8_splice]
  congr 1
  simp [cells8, cell8, b8]
def offC (m : Nat) : Nat := if 32 = m then 0 else m
theorem offC_lt {m : Nat} (h : 0 < 32 - m) : offC m = m := by unfold offC; rw [if_neg (by omega)]
theorem run_cutC {P : Program} {t : TypeId} {g m : Nat} (h : P.underlying t = some (.array (P.arrayLen t) (P.elem t))) (hN : P.arrayLen t = 32) (hs : ∀ w, (sizeOf (P.elem t)).run P w = .ok 1 w) (hm : m ≤ 32) (x : Int) (hx : x = m) (w : World) :
    (Instr.sliceAt t (.pointer (some ⟨g, 0, none⟩)) (some (.int .i64 x)) none none).run P w = .ok (.slice (some ⟨g, offC m, none⟩) (32 - m) (32 - m)) w := by
  subst hx
  rw [run_sliceAt_array_l w t _ h .i64 (m : Int) (by omega) (by omega), hs]
  simp only [Result.andThen, slicedAt, hN, Int.toNat_natCast, Nat.mul_one]
  unfold offC
  by_cases e : 32 = m
  · rw [if_pos e, if_pos e]
  · rw [if_neg e, if_neg e, add_at, Nat.zero_add]
end Go.Proofs.YtfbhjoejffagjaaGreatDoor.DigestMem
