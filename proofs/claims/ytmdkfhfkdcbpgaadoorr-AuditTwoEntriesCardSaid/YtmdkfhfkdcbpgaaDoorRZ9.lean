/-
  Texts of the claim, put into one file: Book, Book2, RowE.
-/
import Derived.Test.YtmdkfhfkdcbpgaaDoorRZ3
import Derived.Test.YtmdkfhfkdcbpgaaDoorRZ8
import Derived.Test.YtmdkfhfkdcbpgaaDoorRZ5
import Derived.Lib.Hide
import Derived.Outline
import Derived.WalkLawsBesides
import Derived.StillTailTactics
import Derived.OwnWalk
import Derived.IntWalk

namespace Go.Proofs.YtmdkfhfkdcbpgaaDoorR.Book
open Go Go.RowKit Go.Proofs.YtmdkfhfkdcbpgaaDoorR Mem Sha Bytes QuietTail Grown TreeMem TreeRoot

/-! ### Laws that the kit lacks: a copy of elements of any size, a store into the middle of a row -/
theorem run_storeVar_part {P : Program} (w : World) (g off : Nat) (t ty : TypeId) (cur cells : Array Value) (hg : Blk w g t cur) (hi : (P.info? ty).map (·.size) = some cells.size)
  (hfit : off + cells.size ≤ cur.size) (h1 : cells.all (·.oneCell') = true) :
  (storeVar ty ⟨g, off, none⟩ (.agg cells)).run P w = .ok () (w.setRow g (cur.toList.take off ++ cells.toList ++ cur.toList.drop (off + cells.size)).toArray) := by
 have := run_storeCells_at P g off t cells.toList 0 cur w hg (by simpa using hfit) (fun v hv => (Array.all_eq_true_iff_forall_mem.1 h1) v (by simpa using hv))
 cases hq : P.info? ty with
 | none => simp [hq] at hi
 | some i =>
  have hs : cells.size = i.size := by simp [hq] at hi; omega
  simp [storeVar, sizeOf, typeInfo, hq, Value.cells, hs, this]
theorem wp_store_part {P : Program} {o : Oper} {a : Act} {w : World} {K : Act → World → Prop} {Q : Exit → Act → World → Prop} (ty : TypeId) (x y : Operand) (ho : o.op = .store ty x y)
  (g off : Nat) (cells : Array Value) (hx : a.eval x = .pointer (some ⟨g, off, none⟩)) (hy : a.eval y = .agg cells)
  (t : TypeId) (cur : Array Value) (hg : Blk w g t cur) (hi : (P.info? ty).map (·.size) = some cells.size)
  (hfit : off + cells.size ≤ cur.size) (h1 : cells.all (·.oneCell') = true)
  (h : K (a.put o.dst undef) (w.setRow g (cur.toList.take off ++ cells.toList ++ cur.toList.drop (off + cells.size)).toArray)) : o.wp P a w K Q := by
 have hrun := run_storeVar_part (P := P) w g off t ty cur cells hg hi hfit h1
 unfold Oper.wp execOp
 simp only [ho, hx, hy, Instr.storeAt, Instr.sureAddr, Sem.run_bind, Sem.run_pure, Result.andThen_ok, hrun]
 exact h
theorem wpList_store_part {P : Program} {ops : Array Oper} {rest : List Oper} {o : Oper} {a : Act} {w : World} {Q : Exit → Act → World → Prop} (hgd : o.guard = none) (ty : TypeId) (x y : Operand) (ho : o.op = .store ty x y)
  (g off : Nat) (cells : Array Value) (hx : a.eval x = .pointer (some ⟨g, off, none⟩)) (hy : a.eval y = .agg cells)
  (t : TypeId) (cur : Array Value) (hg : Blk w g t cur) (hi : (P.info? ty).map (·.size) = some cells.size)
  (hfit : off + cells.size ≤ cur.size) (h1 : cells.all (·.oneCell') = true)
  (h : wpList P ops Q rest (a.put o.dst undef) (w.setRow g (cur.toList.take off ++ cells.toList ++ cur.toList.drop (off + cells.size)).toArray)) : wpList P ops Q (o :: rest) a w := by
 refine wpList_plain hgd fun K hK => ?_
 have hrun := run_storeVar_part (P := P) w g off t ty cur cells hg hi hfit h1
 unfold Oper.wp execOp
 simp only [ho, hx, hy, Instr.storeAt, Instr.sureAddr, Sem.run_bind, Sem.run_pure, Result.andThen_ok, hrun]
 exact hK _ _ h

/-! ### Rows of digests that are known whole -/
def zt : Text := List.replicate 32 0
def RowD (w : World) (g : Nat) (ds : List Text) : Prop := Blk w g 23 (ds.flatMap cells8).toArray
theorem Digs.set_ {ds : List Text} (h : Digs ds) (i : Nat) {x : Text} (hx : x.length = 32) : Digs (ds.set i x) := fun d hd => by
 rcases List.mem_or_eq_of_mem_set hd with h1 | h1
 ·exact h d h1
 ·rw [h1]; exact hx
theorem RowD.rd {w : World} {g : Nat} {ds : List Text} (h : RowD w g ds) (hd : Digs ds) : RdD w (some ⟨g, 0, none⟩) ds.length ds :=
 ⟨rfl, hd, Blk.reads h 0 _ (flatMap_len ds hd) (fun j u hu => by rw [Nat.zero_add, List.getElem?_toArray]; exact hu)⟩
theorem RowD.below {w w' : World} {g : Nat} {ds : List Text} (h : RowD w g ds) (hb : Below w.heap.size w w') : RowD w' g ds := (hb.block g (Blk.lt h)).trans h

theorem info32 : (Tryd.prog.info? 23).map (fun i => (i.zero, i.size, i.bytes)) = some (some (.agg Z32), 32, 32) := by kernel_rfl
theorem info_partsN {P : Program} {e : TypeId} {z : Value} {s b : Nat} (h : (P.info? e).map (fun i => (i.zero, i.size, i.bytes)) = some (some z, s, b)) : ∃ i : TypeInfo, P.info? e = some i ∧ i.zero = some z ∧ i.size = s ∧ i.bytes = b := by
 cases hq : P.info? e with
 | none => simp [hq] at h
 | some i =>
  simp [hq] at h
  exact ⟨i, rfl, h.1, h.2.1, h.2.2⟩
end Go.Proofs.YtmdkfhfkdcbpgaaDoorR.Book

namespace Go.Proofs.YtmdkfhfkdcbpgaaDoorR.Book2
open Go Go.RowKit Go.Proofs.YtmdkfhfkdcbpgaaDoorR Mem Sha Bytes QuietTail Grown TreeMem TreeRoot Book DigEq

end Go.Proofs.YtmdkfhfkdcbpgaaDoorR.Book2

namespace Go.Proofs.YtmdkfhfkdcbpgaaDoorR.RowE
open Go Go.RowKit Go.Proofs.YtmdkfhfkdcbpgaaDoorR Mem Sha Bytes TreeMem Book

def Holds (cur : Array Value) (L : List Text) : Prop := L.length * 32 ≤ cur.size ∧ ∀ (i : Nat) (d : Text), L[i]? = some d → ∀ k v, (cells8 d)[k]? = some v → cur[i * 32 + k]? = some v
theorem holds_of {cur : Array Value} {L : List Text} {n : Nat} (hd : Digs L) (hn : L.length = n) (h : cur.toList.take (n * 32) = L.flatMap cells8) : Holds cur L := by
 have hl : n * 32 ≤ cur.size := by
  have := congrArg List.length h
  rw [flatMap_len L hd, List.length_take, hn, Array.length_toList] at this
  omega
 refine ⟨by rw [hn]; exact hl, fun i d hi k v hv => ?_⟩
 have h1 := digs_at L hd i d hi k v hv
 rw [← h, List.getElem?_take] at h1
 split at h1
 ·rw [Array.getElem?_toList] at h1
  exact h1
 ·cases h1
theorem Holds.set_ {cur : Array Value} {L : List Text} (h : Holds cur L) (hd : Digs L) (i : Nat) (hi : i < L.length) (y : Text) (hy : y.length = 32) :
  Holds (cur.toList.take (i * 32) ++ (cells8 y).toArray.toList ++ cur.toList.drop (i * 32 + (cells8 y).toArray.size)).toArray (L.set i y) := by
 have hyl : (cells8 y).length = 32 := by rw [cells8_len, hy]
 have hc := h.1
 have e : cur.toList.take (i * 32) ++ (cells8 y).toArray.toList ++ cur.toList.drop (i * 32 + (cells8 y).toArray.size) = splice cur.toList (i * 32) (cells8 y) := by simp [splice]
 have hfit : i * 32 + (cells8 y).length ≤ cur.toList.length := by rw [hyl, Array.length_toList]; omega
 rw [e]
 refine ⟨?_, fun j d hj k v hv => ?_⟩
 ·rw [List.length_set, List.size_toArray]
  have : (splice cur.toList (i * 32) (cells8 y)).length = cur.size := by rw [length_splice _ _ _ hfit, Array.length_toList]
  omega
 ·have hkl := (List.getElem?_eq_some_iff.1 hv).1
  rw [cells8_len] at hkl
  rw [List.getElem?_toArray, splice_get _ _ _ hfit, hyl]
  by_cases hij : i = j
  ·subst hij
   rw [List.getElem?_set_self hi] at hj
   obtain rfl := Option.some.inj hj
   rw [if_neg (by omega), if_pos (by omega), show i * 32 + k - i * 32 = k by omega]
   exact hv
  ·rw [List.getElem?_set_ne hij] at hj
   have hd2 := hd.at_ hj
   have := h.2 j d hj k v hv
   rw [Array.getElem?_toList]
   by_cases hlt : j < i
   ·rw [if_pos (by omega)]; exact this
   ·rw [if_neg (by omega), if_neg (by omega)]; exact this
def RowE (w : World) (g : Nat) (L : List Text) : Prop := Digs L ∧ ∃ cur : Array Value, Blk w g 23 cur ∧ Holds cur L
section
variable {w w' : World} {g : Nat} {L : List Text}
theorem RowE.lt (h : RowE w g L) : g < w.heap.size := by obtain ⟨-, cur, h1, -⟩ := h; exact h1.lt
theorem RowE.below (h : RowE w g L) (hb : Below w.heap.size w w') : RowE w' g L := by
 obtain ⟨h0, cur, h1, h2⟩ := h
 exact ⟨h0, cur, (hb.block g h1.lt).trans h1, h2⟩
theorem RowE.cell (h : RowE w g L) {i : Nat} {d : Text} (hi : L[i]? = some d) : ∀ k v, (cells8 d)[k]? = some v → w.cell? ⟨g, i * 32 + k, none⟩ = some v := by
 obtain ⟨-, cur, h1, h2⟩ := h
 exact fun k v hv => (h1.cell _).trans (h2.2 i d hi k v hv)
theorem RowE.rd (h : RowE w g L) : RdD w (some ⟨g, 0, none⟩) L.length L := by
 obtain ⟨h0, cur, h1, h2⟩ := h
 refine ⟨rfl, h0, Blk.reads h1 0 _ (flatMap_len L h0) (fun j u hu => ?_)⟩
 have hj := (List.getElem?_eq_some_iff.1 hu).1
 rw [flatMap_len L h0] at hj
 obtain ⟨d, hd⟩ : ∃ d, L[j / 32]? = some d := ⟨_, List.getElem?_eq_getElem (by omega)⟩
 have hdl := h0.at_ hd
 obtain ⟨v, hv⟩ : ∃ v, (cells8 d)[j % 32]? = some v := ⟨_, List.getElem?_eq_getElem (by rw [cells8_len, hdl]; omega)⟩
 have e : j / 32 * 32 + j % 32 = j := by omega
 have h3 := digs_at L h0 _ d hd _ v hv
 rw [e, hu] at h3
 have h4 := h2.2 _ d hd _ v hv
 rw [e] at h4
 rw [Nat.zero_add, h4, Option.some.inj h3]
theorem RowE.rd_take (h : RowE w g L) (k : Nat) (hk : k ≤ L.length) : RdD w (some ⟨g, 0, none⟩) k (L.take k) := h.rd.take_ k hk
theorem RowE.of_own {B n c : Nat} (ho : w.ownsRow B 23 32 (.slice (some ⟨g, 0, none⟩) n c) n (L.flatMap cells8)) (hd : Digs L) (hn : L.length = n) : RowE w g L ∧ n ≤ c ∧ B ≤ g := by
 rcases ho.2 with ⟨e, -⟩ | ⟨g', cap, cur, e, hbg, hg, hnc, -, -, h4⟩
 ·cases e
 ·injection e with e1 _ e3
  injection e1 with e1
  injection e1 with e1
  subst e1 e3
  exact ⟨⟨hd, cur, hg, holds_of hd hn h4⟩, hnc, hbg⟩
end
theorem set_mix (l E : List Text) (h : Nat) (x : Text) (hl : l.length = h) (hE : h < E.length) : (l ++ E.drop h).set h x = (l ++ [x]) ++ E.drop (h + 1) := by
 subst hl
 rw [List.set_append_right _ _ (Nat.le_refl _), Nat.sub_self, List.drop_eq_getElem_cons hE, List.set_cons_zero]
 simp
theorem mix_at (l E : List Text) (h : Nat) (y : Text) (hl : l.length = h) (hy : E[h]? = some y) : (l ++ E.drop h)[h]? = some y := by
 subst hl
 rw [List.getElem?_append_right (Nat.le_refl _), Nat.sub_self, List.getElem?_drop, Nat.add_zero]
 exact hy
theorem mix_same (l E : List Text) (h : Nat) (y : Text) (hy : E[h]? = some y) : l ++ E.drop h = (l ++ [y]) ++ E.drop (h + 1) := by
 obtain ⟨hE, rfl⟩ := List.getElem?_eq_some_iff.1 hy
 rw [List.drop_eq_getElem_cons hE]
 simp
theorem mix_len (l E : List Text) (h : Nat) (hl : l.length = h) (hE : h ≤ E.length) : (l ++ E.drop h).length = E.length := by
 rw [List.length_append, List.length_drop]
 omega
end Go.Proofs.YtmdkfhfkdcbpgaaDoorR.RowE
