/-
  Texts of the claim, put into one file: Book.
-/
import Derived.Test.YtfbhjoejffagjaaGreatDoorZ4
import Derived.Test.YtfbhjoejffagjaaGreatDoorZ7
import Derived.Test.YtfbhjoejffagjaaGreatDoorZ8
import Derived.Lib.Hide
import Derived.Outline
import Derived.WalkLawsBesides
import Derived.StillTailTactics
import Derived.OwnWalk
import Derived.IntWalk

namespace Go.Proofs.YtfbhjoejffagjaaGreatDoor.Book
open Go Go.RowKit Go.Proofs.YtfbhjoejffagjaaGreatDoor Mem Sha Bytes QuietTail Grown TreeMem TreeRoot

/-! ### Laws that the kit lacks: a copy of elements of any size, a store into the middle of a row -/
theorem run_copy_rowN {P : Program} (w : World) (dT sT ty elem : TypeId) (sz g o dLen dCap : Nat) (a : Addr) (sLen sCap : Nat) (cur : Array Value) (t : TypeId) (cs : List Value)
  (hu : P.underlying dT = some (.slice elem)) (hs : (P.info? elem).map (·.size) = some sz)
  (hg : w.heap[g]? = some (.cells cur t (0, 0))) (hn : cs.length = Nat.min sLen dLen * sz)
  (hsrc : ∀ j v, cs[j]? = some v → w.cell? (a.add j) = some v) (hfit : o + cs.length ≤ cur.size) (h1 : ∀ v ∈ cs, v.oneCell' = true) :
  (Builtin.copy_ #[dT, sT] ty #[.slice (some ⟨g, o, none⟩) dLen dCap, .slice (some a) sLen sCap]).run P w =
   .ok (goInt (Nat.min sLen dLen)) (w.setRow g (cur.toList.take o ++ cs ++ cur.toList.drop (o + cs.length)).toArray) := by
 have hl := run_loadCells_list (P := P) w a cs hsrc
 have hst := run_storeCells_at P g o t cs 0 cur w hg (by simpa using hfit) h1
 cases hq : P.info? elem with
 | none => simp [hq] at hs
 | some i =>
  have hi : i.size = sz := by simpa [hq] using hs
  rw [hn] at hl
  simp [Builtin.copy_, run_underlying hu, Builtin.lenOf, Builtin.firstCells, sizeOf, typeInfo, hq, hi, hl, hst]
theorem run_copy_noneN {P : Program} (w : World) (dT sT ty elem : TypeId) (sz : Nat) (d a : Option Addr) (dLen dCap sLen sCap : Nat) (hu : P.underlying dT = some (.slice elem)) (hs : (P.info? elem).map (·.size) = some sz) (hn : Nat.min sLen dLen = 0) :
  (Builtin.copy_ #[dT, sT] ty #[.slice d dLen dCap, .slice a sLen sCap]).run P w = .ok (goInt 0) w := by
 cases hq : P.info? elem with
 | none => simp [hq] at hs
 | some i =>
  have hl : ∀ (x : Addr), (loadCells x 0).run P w = .ok #[] w := fun x => by simpa using run_loadCells_list (P := P) w x [] (by simp)
  cases d <;> cases a <;> simp [Builtin.copy_, run_underlying hu, Builtin.lenOf, Builtin.firstCells, sizeOf, typeInfo, hq, hn, storeCells, hl]
theorem wpList_copy_intoN {P : Program} {w : World} {ops : Array Oper} {rest : List Oper} {o : Oper} {a : Act} {Q : Exit → Act → World → Prop} (hgd : o.guard = none) (d s : Operand) (dT sT : TypeId)
  (ho : o.op = .call { callee := .builtin .copy, args := #[d, s], argTypes := #[dT, sT] }) (elem : TypeId) (sz : Nat) (hu : P.underlying dT = some (.slice elem)) (hsz : (P.info? elem).map (·.size) = some sz)
  (sp : Option Addr) (dLen dCap sLen sCap : Nat) (g off : Nat) (hd : a.eval d = .slice (some ⟨g, off, none⟩) dLen dCap) (hs : a.eval s = .slice sp sLen sCap)
  (cur : Array Value) (t : TypeId) (hg : Blk w g t cur) (m : Nat) (hm : Nat.min sLen dLen = m) (cs : List Value) (hn : cs.length = m * sz) (hrd : Reads w sz sp sLen cs) (hml : m = sLen) (hsz0 : 0 < sz)
  (hfit : off + cs.length ≤ cur.size) (h1 : ∀ v ∈ cs, v.oneCell' = true)
  (h : ∀ w', Hid (Blk w' g t (cur.toList.take off ++ cs ++ cur.toList.drop (off + cs.length)).toArray) → Kept (· = g) w w' → wpList P ops Q rest (a.put o.dst (goInt m)) w') :
  wpList P ops Q (o :: rest) a w := by
 refine wpList_plain hgd fun K hK => ?_
 subst hml
 by_cases h0 : m = 0
 ·subst h0
  obtain rfl : cs = [] := List.eq_nil_of_length_eq_zero (by simpa using hn)
  have hrun := run_copy_noneN (P := P) w dT sT o.type elem sz (some ⟨g, off, none⟩) sp dLen dCap 0 sCap hu hsz hm
  unfold Oper.wp
  simp [execOp, ho, resolve, invoke, builtin, hd, hs, hrun, Result.andThen]
  exact hK _ _ (h w (show Blk _ _ _ _ by simpa using hg) (Kept.refl _ w))
 ·obtain ⟨b, o', rfl, hb, hc⟩ := hrd.2 (Nat.mul_pos (by omega) hsz0)
  have hrun := run_copy_rowN (P := P) w dT sT o.type elem sz g off dLen dCap ⟨b, o', none⟩ m sCap cur t cs hu hsz hg (by rw [hm]; exact hn) (fun j v hv => by rw [add_at]; exact hc j v hv) hfit h1
  rw [hm] at hrun
  unfold Oper.wp
  simp [execOp, ho, resolve, invoke, builtin, hd, hs, hrun, Result.andThen]
  exact hK _ _ (h _ (by show Blk _ _ _ _; unfold Blk; simpa using setRow_heap w g cur (cur.toList.take off ++ cs ++ cur.toList.drop (off + cs.length)).toArray t (0, 0) hg) (Bytes.Kept.setRow (S := (· = g)) (Kept.refl _ w) rfl _))
/-! ### Rows of digests that are known whole -/
def RowD (w : World) (g : Nat) (ds : List Text) : Prop := Blk w g 34 (ds.flatMap cells8).toArray
theorem Digs.set_ {ds : List Text} (h : Digs ds) (i : Nat) {x : Text} (hx : x.length = 32) : Digs (ds.set i x) := fun d hd => by
 rcases List.mem_or_eq_of_mem_set hd with h1 | h1
 ·exact h d h1
 ·rw [h1]; exact hx
theorem Digs.rep (m : Nat) {x : Text} (hx : x.length = 32) : Digs (List.replicate m x) := fun d hd => by rw [List.eq_of_mem_replicate hd, hx]
theorem RowD.rd {w : World} {g : Nat} {ds : List Text} (h : RowD w g ds) (hd : Digs ds) : RdD w (some ⟨g, 0, none⟩) ds.length ds :=
 ⟨rfl, hd, Blk.reads h 0 _ (flatMap_len ds hd) (fun j u hu => by rw [Nat.zero_add, List.getElem?_toArray]; exact hu)⟩
theorem RowD.below {w w' : World} {g : Nat} {ds : List Text} (h : RowD w g ds) (hb : Below w.heap.size w w') : RowD w' g ds := (hb.block g (Blk.lt h)).trans h

theorem info_partsN {P : Program} {e : TypeId} {z : Value} {s b : Nat} (h : (P.info? e).map (fun i => (i.zero, i.size, i.bytes)) = some (some z, s, b)) : ∃ i : TypeInfo, P.info? e = some i ∧ i.zero = some z ∧ i.size = s ∧ i.bytes = b := by
 cases hq : P.info? e with
 | none => simp [hq] at h
 | some i =>
  simp [hq] at h
  exact ⟨i, rfl, h.1, h.2.1, h.2.2⟩
end Go.Proofs.YtfbhjoejffagjaaGreatDoor.Book
