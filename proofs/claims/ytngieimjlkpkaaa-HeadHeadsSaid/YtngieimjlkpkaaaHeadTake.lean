/-
  head.take, walked: a head's cells filled one after another.
-/
import Derived.Test.YtngieimjlkpkaaaReader3
import Derived.Test.YtngieimjlkpkaaaHeadMem
namespace Go.Proofs.Ytngieimjlkpkaaa.HeadTake
open Go Go.RowKit Go.Proofs.Ytngieimjlkpkaaa Go.Proofs.Ytngieimjlkpkaaa.Mem Go.Proofs.Ytngieimjlkpkaaa.Sha Go.Proofs.Ytngieimjlkpkaaa.Bytes Go.Proofs.Ytngieimjlkpkaaa.Append Go.Proofs.Ytngieimjlkpkaaa.Octet Go.Proofs.Ytngieimjlkpkaaa.QuietTail Go.Proofs.Ytngieimjlkpkaaa.Grown Go.Proofs.Ytngieimjlkpkaaa.Reader Go.Proofs.Ytngieimjlkpkaaa.Reader2 Go.Proofs.Ytngieimjlkpkaaa.Reader3 Go.Proofs.Ytngieimjlkpkaaa.HeadMem

/-- A row's cells from an offset on, stored. -/
theorem wpList_store_at {P : Program} {ops : Array Oper} {rest : List Oper} {o : Oper} {a : Act} {w : World} {Q : Exit → Act → World → Prop} (hgd : o.guard = none) (ty : TypeId) (x y : Operand) (ho : o.op = .store ty x y)
    (g off : Nat) (cs : List Value) (hx : a.eval x = .pointer (some ⟨g, off, none⟩)) (hy : a.eval y = .agg cs.toArray)
    (t : TypeId) (cur : Array Value) (hg : Blk w g t cur) (hi : (P.info? ty).map (·.size) = some cs.length)
    (hfit : off + cs.length ≤ cur.size) (h1 : ∀ v ∈ cs, v.oneCell' = true)
    (h : ∀ w', Hid (Blk w' g t (splice cur.toList off cs).toArray) → Kept (· = g) w w' → wpList P ops Q rest (a.put o.dst undef) w') : wpList P ops Q (o :: rest) a w := by
  have hrun : (storeVar ty ⟨g, off, none⟩ (.agg cs.toArray)).run P w = .ok () (w.setRow g (splice cur.toList off cs).toArray) := by
    have := run_storeCells_at (P := P) g off t cs 0 cur w hg (by simpa using hfit) h1
    cases hq : P.info? ty with
    | none => simp [hq] at hi
    | some i =>
      have hs : cs.length = i.size := by simp [hq] at hi; omega
      simp [storeVar, sizeOf, typeInfo, hq, Value.cells, hs]
      simpa [splice, hs] using this
  refine wpList_plain hgd fun K hK => ?_
  unfold Oper.wp execOp
  simp only [ho, hx, hy, Instr.storeAt, Instr.sureAddr, Sem.run_bind, Sem.run_pure, Result.andThen_ok, hrun]
  exact hK _ _ (h _ (setRow_heap w g _ _ t _ hg) (Bytes.Kept.setRow (S := (· = g)) (Kept.refl _ w) rfl _))

def Z98 : Array Value := #[Value.int IntKind.u8 0, Value.int IntKind.u8 0, Value.int IntKind.u8 0, Value.int IntKind.u8 0, Value.int IntKind.u8 0, Value.int IntKind.u8 0, Value.int IntKind.u8 0, Value.int IntKind.u8 0, Value.int IntKind.u8 0, Value.int IntKind.u8 0, Value.int IntKind.u8 0, Value.int IntKind.u8 0, Value.int IntKind.u8 0, Value.int IntKind.u8 0, Value.int IntKind.u8 0, Value.int IntKind.u8 0, Value.int IntKind.u8 0, Value.int IntKind.u8 0, Value.int IntKind.u8 0, Value.int IntKind.u8 0, Value.int IntKind.u8 0, Value.int IntKind.u8 0, Value.int IntKind.u8 0, Value.int IntKind.u8 0, Value.int IntKind.u8 0, Value.int IntKind.u8 0, Value.int IntKind.u8 0, Value.int IntKind.u8 0, Value.int IntKind.u8 0, Value.int IntKind.u8 0, Value.int IntKind.u8 0, Value.int IntKind.u8 0, Value.int IntKind.i64 0, Value.int IntKind.u8 0, Value.int IntKind.u8 0, Value.int IntKind.u8 0, Value.int IntKind.u8 0, Value.int IntKind.u8 0, Value.int IntKind.u8 0, Value.int IntKind.u8 0, Value.int IntKind.u8 0, Value.int IntKind.u8 0, Value.int IntKind.u8 0, Value.int IntKind.u8 0, Value.int IntKind.u8 0, Value.int IntKind.u8 0, Value.int IntKind.u8 0, Value.int IntKind.u8 0, Value.int IntKind.u8 0, Value.int IntKind.u8 0, Value.int IntKind.u8 0, Value.int IntKind.u8 0, Value.int IntKind.u8 0, Value.int IntKind.u8 0, Value.int IntKind.u8 0, Value.int IntKind.u8 0, Value.int IntKind.u8 0, Value.int IntKind.u8 0, Value.int IntKind.u8 0, Value.int IntKind.u8 0, Value.int IntKind.u8 0, Value.int IntKind.u8 0, Value.int IntKind.u8 0, Value.int IntKind.u8 0, Value.int IntKind.u8 0, Value.int IntKind.u8 0, Value.int IntKind.u8 0, Value.int IntKind.u8 0, Value.int IntKind.u8 0, Value.int IntKind.u8 0, Value.int IntKind.u8 0, Value.int IntKind.u8 0, Value.int IntKind.u8 0, Value.int IntKind.u8 0, Value.int IntKind.u8 0, Value.int IntKind.u8 0, Value.int IntKind.u8 0, Value.int IntKind.u8 0, Value.int IntKind.u8 0, Value.int IntKind.u8 0, Value.int IntKind.u8 0, Value.int IntKind.u8 0, Value.int IntKind.u8 0, Value.int IntKind.u8 0, Value.int IntKind.u8 0, Value.int IntKind.u8 0, Value.int IntKind.u8 0, Value.int IntKind.u8 0, Value.int IntKind.u8 0, Value.int IntKind.u8 0, Value.int IntKind.u8 0, Value.int IntKind.u8 0, Value.int IntKind.u8 0, Value.int IntKind.u8 0, Value.int IntKind.u8 0, Value.int IntKind.u8 0, Value.int IntKind.u8 0, Value.int IntKind.i64 0]
theorem z98_size : Z98.size = 98 := by kernel_rfl
theorem z98_get (j : Nat) (h : j < 98) : ∃ v, Z98.toList[j]? = some v := ⟨_, List.getElem?_eq_getElem (by simpa [Z98] using h)⟩

/-- A head's cells, one field after another. -/
def filled (l r i : Text) : Array Value := (splice (splice (splice Z98.toList 0 (cells8 l)) 33 (cells8 r)) 65 (cells8 i)).toArray
theorem len_splice (L : List Value) (off : Nat) (cs : List Value) (h : off + cs.length ≤ L.length) : (splice L off cs).length = L.length := length_splice _ _ _ h
theorem filled_head (h : HeadD) (ok : h.Ok) : ((filled h.log h.root h.index).setIfInBounds 32 (.int .i64 h.size)).setIfInBounds 97 (.int .i64 h.clock) = (headCells h).toArray := by
  have e1 := ok.log
  have e2 := ok.root
  have e3 := ok.index
  have l0 : Z98.toList.length = 98 := by simpa using z98_size
  have l1 := len_splice Z98.toList 0 (cells8 h.log) (by rw [cells8_len]; omega)
  have l2 := len_splice (splice Z98.toList 0 (cells8 h.log)) 33 (cells8 h.root) (by rw [cells8_len]; omega)
  have l3 := len_splice (splice (splice Z98.toList 0 (cells8 h.log)) 33 (cells8 h.root)) 65 (cells8 h.index) (by rw [cells8_len]; omega)
  apply Array.ext_getElem?
  intro j
  rw [Array.getElem?_setIfInBounds, Array.getElem?_setIfInBounds]
  by_cases h97 : 97 = j
  · subst h97
    rw [if_pos rfl, if_pos (by simp [filled]; omega), List.getElem?_toArray, headCells_clock ok]
  rw [if_neg h97]
  by_cases h32 : 32 = j
  · subst h32
    rw [if_pos rfl, if_pos (by simp [filled]; omega), List.getElem?_toArray, headCells_size ok]
  rw [if_neg h32]
  unfold filled
  rw [List.getElem?_toArray, List.getElem?_toArray, splice_get _ _ _ (by rw [cells8_len]; omega), cells8_len]
  by_cases h65 : j < 65
  · rw [if_pos h65, splice_get _ _ _ (by rw [cells8_len]; omega), cells8_len]
    by_cases h33 : j < 33
    · rw [if_pos h33, splice_get _ _ _ (by rw [cells8_len]; omega), cells8_len, if_neg (by omega), if_pos (by omega)]
      have hj : (cells8 h.log)[j]? = some _ := List.getElem?_eq_getElem (by rw [cells8_len]; omega)
      have := headCells_log _ _ hj
      rw [Nat.zero_add] at this
      rw [Nat.sub_zero, hj, this]
    · rw [if_neg h33, if_pos (by omega)]
      have hj : (cells8 h.root)[j - 33]? = some _ := List.getElem?_eq_getElem (by rw [cells8_len]; omega)
      rw [hj, ← headCells_root ok _ _ hj, show 33 + (j - 33) = j by omega]
  · rw [if_neg h65]
    by_cases h97' : j < 97
    · rw [if_pos (by omega)]
      have hj : (cells8 h.index)[j - 65]? = some _ := List.getElem?_eq_getElem (by rw [cells8_len]; omega)
      rw [hj, ← headCells_index ok _ _ hj, show 65 + (j - 65) = j by omega]
    · rw [if_neg (by omega), List.getElem?_eq_none (by omega), List.getElem?_eq_none (by rw [headCells_len ok]; omega)]

/-- What a reader's bytes say as a head, and whether they may. -/
def headOf (q : Text) : HeadD := ⟨(q.drop 1).take 32, (num ((q.drop 33).take 8) : Nat), (q.drop 41).take 32, (q.drop 73).take 32, (num ((q.drop 105).take 8) : Nat)⟩
def okH (q : Text) : Bool := decide (q.getD 0 0 = 32) && decide (num ((q.drop 33).take 8) ≤ 1099511627776) && decide (num ((q.drop 105).take 8) ≤ 4611686018427387904)
theorem headOf_ok (q : Text) (hl : 113 ≤ q.length) (h : okH q = true) : (headOf q).Ok := by
  simp only [okH, Bool.and_eq_true, decide_eq_true_eq] at h
  obtain ⟨⟨_, h1⟩, h2⟩ := h
  exact ⟨by simp [headOf]; omega, by simp [headOf]; omega, by simp [headOf]; omega, by simp only [headOf]; omega, by simp only [headOf]; omega⟩

/-- take's state: the reader, the result's cell, the head that is filled. -/
structure St (w0 w : World) (g n m : Nat) (q : Text) (A : Option Addr) (c need : Nat) (cs : Array Value) : Prop where
  rd : Rd w g q A c need
  res : Blk w n 30 Z98
  head : Blk w m 30 cs
  kept : Kept (· = g) w0 w
  hn : w0.heap.size ≤ n
  hm : w0.heap.size ≤ m
  ne : n ≠ m
  hg : g < w0.heap.size
  old : 0 < q.length → ∀ a, A = some a → a.block < w0.heap.size
section
variable {w0 w w' : World} {g n m c need need' : Nat} {q : Text} {A : Option Addr} {cs cs' : Array Value}
theorem St.call (h : St w0 w g n m q A c need cs) (hr : Rd w' g q A c need') (hk : Kept (· = g) w w') : St w0 w' g n m q A c need' cs :=
  ⟨hr, h.res.kept hk (by have := h.hn; have := h.hg; omega), h.head.kept hk (by have := h.hm; have := h.hg; omega), h.kept.trans hk (fun _ _ x => x), h.hn, h.hm, h.ne, h.hg, h.old⟩
theorem St.store (h : St w0 w g n m q A c need cs) (hb : Blk w' m 30 cs') (hk : Kept (· = m) w w') : St w0 w' g n m q A c need cs' :=
  ⟨h.rd.keptOff hk (by have := h.hm; have := h.hg; omega) (fun h0 a ea e => by have := h.old h0 a ea; have := h.hm; omega), h.res.kept hk h.ne, hb, h.kept.trans hk (fun i h1 h2 => by have := h.hm; omega), h.hn, h.hm, h.ne, h.hg, h.old⟩
theorem St.set_ (h : St w0 w g n m q A c need cs) (i : Nat) (u : Value) : St w0 (w.setCell ⟨m, i, none⟩ u) g n m q A c need (cs.setIfInBounds i u) :=
  h.store (h.head.set_ i u) ((Kept.refl (· = m) w).setCell (p := ⟨m, i, none⟩) (.inl rfl) u)
theorem St.begin (hR : Rd w g q A c need) (hg : g < w0.heap.size) (ho : 0 < q.length → ∀ a, A = some a → a.block < w0.heap.size) (hk : Kept (· = g) w0 w) (hn : w0.heap.size ≤ n) (hr : Blk w n 30 Z98) : St w0 (w.alloc (.cells Z98 30)) g n w.heap.size q A c need Z98 :=
  ⟨hR.alloc _, hr.alloc _, Blk.new _ _ _, hk.alloc _, hn, hk.size, by have := hr.lt; omega, hg, ho⟩
end
end Go.Proofs.Ytngieimjlkpkaaa.HeadTake
