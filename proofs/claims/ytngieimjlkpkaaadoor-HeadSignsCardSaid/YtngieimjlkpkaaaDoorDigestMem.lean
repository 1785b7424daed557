/-
  Words for clear and for cut sums. No program in sight.
-/
import Derived.Test.YtngieimjlkpkaaaDoorHashMem
namespace Go.Proofs.YtngieimjlkpkaaaDoor.DigestMem
open Go Go.RowKit Go.Proofs.YtngieimjlkpkaaaDoor Go.Proofs.YtngieimjlkpkaaaDoor.Mem Go.Proofs.YtngieimjlkpkaaaDoor.Sha Go.Proofs.YtngieimjlkpkaaaDoor.ShaWalk Go.Proofs.YtngieimjlkpkaaaDoor.Bytes Go.Proofs.YtngieimjlkpkaaaDoor.HashMem

/-- clear(s), s a part of a row that is known whole. -/
theorem run_clear_row {P : Program} (w : World) (t e ty : TypeId) (z : Value) (ht : P.underlying t = some (.slice e)) (hv : ∀ w, (zeroValue e).run P w = .ok z w) (hz : z.cells = #[z]) (h1 : z.oneCell' = true) (g o n c : Nat) (hn : 0 < n)
    (cur : Array Value) (T : TypeId) (hg : Blk w g T cur) (hfit : o + n ≤ cur.size) :
    (Builtin.clear_ #[t] ty #[.slice (some ⟨g, o, none⟩) n c]).run P w = .ok (.tuple #[]) (w.setRow g (splice cur.toList o (List.replicate n z)).toArray) := by
  have hzc : (Builtin.zeroCells z.cells n).toList = List.replicate n z := by
    rw [hz]
    simp [Builtin.zeroCells]
    apply List.ext_getElem
    · simp
    · intro i h1 h2
      simp [Nat.mod_one]
  have hst := run_storeCells_at (P := P) g o T (List.replicate n z) 0 cur w hg (by simpa using hfit) (by intro v hv'; rw [List.eq_of_mem_replicate hv']; exact h1)
  obtain ⟨m, rfl⟩ : ∃ m, n = m + 1 := ⟨n - 1, by omega⟩
  simp only [Nat.add_zero] at hst
  simp [Builtin.clear_, run_underlying ht, hv, hzc, hst, splice, Result.andThen]
theorem wpList_clear_row {P : Program} {w : World} {ops : Array Oper} {rest : List Oper} {o : Oper} {a : Act} {Q : Exit → Act → World → Prop} (hgd : o.guard = none) (d : Operand) (dT : TypeId)
    (ho : o.op = .call { callee := .builtin .clear, args := #[d], argTypes := #[dT] }) (e : TypeId) (hu : P.underlying dT = some (.slice e)) (z : Value) (hv : ∀ w, (zeroValue e).run P w = .ok z w) (hz : z.cells = #[z]) (h1 : z.oneCell' = true)
    (g off n c : Nat) (hd : a.eval d = .slice (some ⟨g, off, none⟩) n c) (off' : Nat) (hoff : 0 < n → off = off') (cur : Array Value) (T : TypeId) (hg : Blk w g T cur) (hfit : off' + n ≤ cur.size)
    (h : wpList P ops Q rest (a.put o.dst (.tuple #[])) (w.setRow g (splice cur.toList off' (List.replicate n z)).toArray)) : wpList P ops Q (o :: rest) a w := by
  refine wpList_plain hgd fun K hK => ?_
  have hrun : (Builtin.clear_ #[dT] o.type #[.slice (some ⟨g, off, none⟩) n c]).run P w = .ok (.tuple #[]) (w.setRow g (splice cur.toList off' (List.replicate n z)).toArray) := by
    by_cases hn : 0 < n
    · rw [hoff hn]
      exact run_clear_row w dT e o.type z hu hv hz h1 g off' n c hn cur T hg hfit
    · obtain rfl : n = 0 := by omega
      have e1 : (splice cur.toList off' (List.replicate 0 z)).toArray = cur := by simp [splice]
      rw [e1, setRow_self w g cur T (0, 0) hg]
      simp [Builtin.clear_, run_underlying hu, Result.andThen]
  unfold Oper.wp
  simp [execOp, ho, resolve, invoke, builtin, hd, hrun, Result.andThen]
  exact hK _ _ h

/-- A sum, cut. -/
def clampN (s : Int) : Nat := if s < 1 then 1 else if 32 < s then 32 else s.toNat
theorem clampN_ok (s : Int) : 1 ≤ clampN s ∧ clampN s ≤ 32 := by
  unfold clampN
  split
  · omega
  · split <;> omega
def cutTo (x : Text) (m : Nat) : Text := splice x m (List.replicate (32 - m) 0)
theorem cells8_splice (x r : Text) (m : Nat) : cells8 (splice x m r) = splice (cells8 x) m (cells8 r) := by simp [cells8, splice]
theorem cutTo_len (x : Text) (m : Nat) (hx : x.length = 32) (hm : m ≤ 32) : (cutTo x m).length = 32 := by
  unfold cutTo
  rw [length_splice _ _ _ (by simp; omega), hx]
theorem cutTo_cells (x : Text) (m : Nat) : (splice (cells8 x) m (List.replicate (32 - m) (.int .u8 0))) = cells8 (cutTo x m) := by
  unfold cutTo
  rw [cells8_splice]
  congr 1
  simp [cells8, cell8, b8]
def offC (m : Nat) : Nat := if 32 = m then 0 else m
theorem offC_lt {m : Nat} (h : 0 < 32 - m) : offC m = m := by unfold offC; rw [if_neg (by omega)]
theorem run_cutC {P : Program} {t : TypeId} {g m : Nat} (h : P.underlying t = some (.array (P.arrayLen t) (P.elem t))) (hN : P.arrayLen t = 32) (hs : ∀ w, (sizeOf (P.elem t)).run P w = .ok 1 w) (hm : m ≤ 32) (x : Int) (hx : x = m) (w : World) :
    (Instr.sliceAt t (.pointer (some ⟨g, 0, none⟩)) (some (.int .i64 x)) none none).run P w = .ok (.slice (some ⟨g, offC m, none⟩) (32 - m) (32 - m)) w := by
  subst hx
  rw [run_sliceAt_array_l w t _ h .i64 (m : Int) (by omega) (by omega), hs]
  simp only [Result.andThen, slicedAt, hN, Int.toNat_natCast, Nat.mul_one]
  unfold offC
  by_cases e : 32 = m
  · rw [if_pos e, if_pos e]
  · rw [if_neg e, if_neg e, add_at, Nat.zero_add]
end Go.Proofs.YtngieimjlkpkaaaDoor.DigestMem
