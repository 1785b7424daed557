/-
  Texts of the claim, put into one file: Book, Book2.
-/
import Derived.Test.YtgldkfaiofkhbaaGreatDoorZ3
import Derived.Test.YtgldkfaiofkhbaaGreatDoorZ10
import Derived.Lib.Hide
import Derived.Outline
import Derived.WalkLawsBesides
import Derived.StillTailTactics
import Derived.OwnWalk
import Derived.IntWalk

namespace Go.Proofs.YtgldkfaiofkhbaaGreatDoor.Book
open Go Go.RowKit Go.Proofs.YtgldkfaiofkhbaaGreatDoor Mem Sha Bytes QuietTail Grown TreeMem TreeRoot

/-! ### Laws that the kit lacks: a copy of elements of any size, a store into the middle of a row -/
theorem run_storeVar_part {P : Program} (w : World) (g off : Nat) (t ty : TypeId) (cur cells : Array Value) (hg : Blk w g t cur) (hi : (P.info? ty).map (·.size) = some cells.size)
  (hfit : off + cells.size ≤ cur.size) (h1 : cells.all (·.oneCell') = true) :
  (storeVar ty ⟨g, off, none⟩ (.agg cells)).run P w = .ok () (w.setRow g (cur.toList.take off ++ cells.toList ++ cur.toList.drop (off + cells.size)).toArray) := by
 have := run_storeCells_at P g off t cells.toList 0 cur w hg (by simpa using hfit) (fun v hv => (Array.all_eq_true_iff_forall_mem.1 h1) v (by simpa using hv))
 cases hq : P.info? ty with
 | none => simp [hq] at hi
 | some i =>
  have hs : cells.size = i.size := by simp [hq] at hi; omega
  simp [storeVar, sizeOf, typeInfo, hq, Value.cells, hs, this]
theorem wp_store_part {P : Program} {o : Oper} {a : Act} {w : World} {K : Act → World → Prop} {Q : Exit → Act → World → Prop} (ty : TypeId) (x y : Operand) (ho : o.op = .store ty x y)
  (g off : Nat) (cells : Array Value) (hx : a.eval x = .pointer (some ⟨g, off, none⟩)) (hy : a.eval y = .agg cells)
  (t : TypeId) (cur : Array Value) (hg : Blk w g t cur) (hi : (P.info? ty).map (·.size) = some cells.size)
  (hfit : off + cells.size ≤ cur.size) (h1 : cells.all (·.oneCell') = true)
  (h : K (a.put o.dst undef) (w.setRow g (cur.toList.take off ++ cells.toList ++ cur.toList.drop (off + cells.size)).toArray)) : o.wp P a w K Q := by
 have hrun := run_storeVar_part (P := P) w g off t ty cur cells hg hi hfit h1
 unfold Oper.wp execOp
 simp only [ho, hx, hy, Instr.storeAt, Instr.sureAddr, Sem.run_bind, Sem.run_pure, Result.andThen_ok, hrun]
 exact h
theorem wpList_store_part {P : Program} {ops : Array Oper} {rest : List Oper} {o : Oper} {a : Act} {w : World} {Q : Exit → Act → World → Prop} (hgd : o.guard = none) (ty : TypeId) (x y : Operand) (ho : o.op = .store ty x y)
  (g off : Nat) (cells : Array Value) (hx : a.eval x = .pointer (some ⟨g, off, none⟩)) (hy : a.eval y = .agg cells)
  (t : TypeId) (cur : Array Value) (hg : Blk w g t cur) (hi : (P.info? ty).map (·.size) = some cells.size)
  (hfit : off + cells.size ≤ cur.size) (h1 : cells.all (·.oneCell') = true)
  (h : wpList P ops Q rest (a.put o.dst undef) (w.setRow g (cur.toList.take off ++ cells.toList ++ cur.toList.drop (off + cells.size)).toArray)) : wpList P ops Q (o :: rest) a w := by
 refine wpList_plain hgd fun K hK => ?_
 have hrun := run_storeVar_part (P := P) w g off t ty cur cells hg hi hfit h1
 unfold Oper.wp execOp
 simp only [ho, hx, hy, Instr.storeAt, Instr.sureAddr, Sem.run_bind, Sem.run_pure, Result.andThen_ok, hrun]
 exact hK _ _ h

/-! ### Rows of digests that are known whole -/
def zt : Text := List.replicate 32 0
def RowD (w : World) (g : Nat) (ds : List Text) : Prop := Blk w g 23 (ds.flatMap cells8).toArray
theorem Digs.set_ {ds : List Text} (h : Digs ds) (i : Nat) {x : Text} (hx : x.length = 32) : Digs (ds.set i x) := fun d hd => by
 rcases List.mem_or_eq_of_mem_set hd with h1 | h1
 ·exact h d h1
 ·rw [h1]; exact hx
theorem RowD.rd {w : World} {g : Nat} {ds : List Text} (h : RowD w g ds) (hd : Digs ds) : RdD w (some ⟨g, 0, none⟩) ds.length ds :=
 ⟨rfl, hd, Blk.reads h 0 _ (flatMap_len ds hd) (fun j u hu => by rw [Nat.zero_add, List.getElem?_toArray]; exact hu)⟩
theorem RowD.below {w w' : World} {g : Nat} {ds : List Text} (h : RowD w g ds) (hb : Below w.heap.size w w') : RowD w' g ds := (hb.block g (Blk.lt h)).trans h

theorem info_partsN {P : Program} {e : TypeId} {z : Value} {s b : Nat} (h : (P.info? e).map (fun i => (i.zero, i.size, i.bytes)) = some (some z, s, b)) : ∃ i : TypeInfo, P.info? e = some i ∧ i.zero = some z ∧ i.size = s ∧ i.bytes = b := by
 cases hq : P.info? e with
 | none => simp [hq] at h
 | some i =>
  simp [hq] at h
  exact ⟨i, rfl, h.1, h.2.1, h.2.2⟩
end Go.Proofs.YtgldkfaiofkhbaaGreatDoor.Book

namespace Go.Proofs.YtgldkfaiofkhbaaGreatDoor.Book2
open Go Go.RowKit Go.Proofs.YtgldkfaiofkhbaaGreatDoor Mem Sha Bytes QuietTail Grown TreeMem TreeRoot Book DigEq

end Go.Proofs.YtgldkfaiofkhbaaGreatDoor.Book2
