/-
  Texts of the claim, put into one file: Reader, Reader2, Reader3, HeadTake, HeadTake2, NoteP, Decode, High, ReadHead, HeadTake3.
-/
import Derived.Test.YteelanamlhfmgaaDoorZ19
import Derived.Test.YteelanamlhfmgaaDoorZ6
import Derived.Test.YteelanamlhfmgaaDoorZ0

namespace Go.Proofs.YteelanamlhfmgaaDoor.Reader
open Go Go.RowKit Go.Proofs.YteelanamlhfmgaaDoor Go.Proofs.YteelanamlhfmgaaDoor.Mem Go.Proofs.YteelanamlhfmgaaDoor.Sha Go.Proofs.YteelanamlhfmgaaDoor.Bytes Go.Proofs.YteelanamlhfmgaaDoor.Append Go.Proofs.YteelanamlhfmgaaDoor.Octet Go.Proofs.YteelanamlhfmgaaDoor.QuietTail Go.Proofs.YteelanamlhfmgaaDoor.Grown

/-- The number that bytes are, the highest first. -/
def num (l : Text) : Nat := l.foldl (fun a c => a * 256 + c.toNat) 0
section
variable {w w' : World} {g need c : Nat} {q : Text} {A : Option Addr}
end

end Go.Proofs.YteelanamlhfmgaaDoor.Reader

namespace Go.Proofs.YteelanamlhfmgaaDoor.Reader2
open Go Go.RowKit Go.Proofs.YteelanamlhfmgaaDoor Go.Proofs.YteelanamlhfmgaaDoor.Mem Go.Proofs.YteelanamlhfmgaaDoor.Sha Go.Proofs.YteelanamlhfmgaaDoor.Bytes Go.Proofs.YteelanamlhfmgaaDoor.Append Go.Proofs.YteelanamlhfmgaaDoor.Octet Go.Proofs.YteelanamlhfmgaaDoor.QuietTail Go.Proofs.YteelanamlhfmgaaDoor.Grown Go.Proofs.YteelanamlhfmgaaDoor.Reader

section
variable {w : World} {g c at_ : Nat} {q : Text} {A : Option Addr}
end
end Go.Proofs.YteelanamlhfmgaaDoor.Reader2

namespace Go.Proofs.YteelanamlhfmgaaDoor.Reader3
open Go Go.RowKit Go.Proofs.YteelanamlhfmgaaDoor Go.Proofs.YteelanamlhfmgaaDoor.Mem Go.Proofs.YteelanamlhfmgaaDoor.Sha Go.Proofs.YteelanamlhfmgaaDoor.Bytes Go.Proofs.YteelanamlhfmgaaDoor.Append Go.Proofs.YteelanamlhfmgaaDoor.Octet Go.Proofs.YteelanamlhfmgaaDoor.QuietTail Go.Proofs.YteelanamlhfmgaaDoor.Grown Go.Proofs.YteelanamlhfmgaaDoor.Reader Go.Proofs.YteelanamlhfmgaaDoor.Reader2

theorem Reads.mid {w : World} {A : Option Addr} {c at_ n : Nat} {q : Text} (h : Reads w 1 A q.length (cells8 q)) (hn : at_ + n ≤ q.length) (hc : q.length ≤ c) : Reads w 1 (cutA A at_ c) n (cells8 ((q.drop at_).take n)) := by
  have h1 := Reads.cut h at_ (by omega) hc
  have e : (cells8 q).drop at_ = cells8 (q.drop at_) := by simp [cells8]
  rw [e] at h1
  have h2 : Reads w 1 (cutA A at_ c) (q.drop at_).length (cells8 (q.drop at_)) := by rw [List.length_drop]; exact h1
  exact Reads.front h2 n (by rw [List.length_drop]; omega)
theorem dig_size (x : Text) (hx : x.length = 32) : (Tryd.prog.info? 23).map (·.size) = some (cells8 x).toArray.size := size31.trans (congrArg some (by simp [cells8_len, hx]))
theorem dig_one (x : Text) : (cells8 x).toArray.all (fun v => v.oneCell') = true := by rw [List.all_toArray]; exact List.all_eq_true.2 (cells8_one x)
end Go.Proofs.YteelanamlhfmgaaDoor.Reader3

namespace Go.Proofs.YteelanamlhfmgaaDoor.HeadTake
open Go Go.RowKit Go.Proofs.YteelanamlhfmgaaDoor Go.Proofs.YteelanamlhfmgaaDoor.Mem Go.Proofs.YteelanamlhfmgaaDoor.Sha Go.Proofs.YteelanamlhfmgaaDoor.Bytes Go.Proofs.YteelanamlhfmgaaDoor.Append Go.Proofs.YteelanamlhfmgaaDoor.Octet Go.Proofs.YteelanamlhfmgaaDoor.QuietTail Go.Proofs.YteelanamlhfmgaaDoor.Grown Go.Proofs.YteelanamlhfmgaaDoor.Reader Go.Proofs.YteelanamlhfmgaaDoor.Reader2 Go.Proofs.YteelanamlhfmgaaDoor.Reader3 Go.Proofs.YteelanamlhfmgaaDoor.HeadMem

/-- A row's cells from an offset on, stored. -/
theorem wpList_store_at {P : Program} {ops : Array Oper} {rest : List Oper} {o : Oper} {a : Act} {w : World} {Q : Exit → Act → World → Prop} (hgd : o.guard = none) (ty : TypeId) (x y : Operand) (ho : o.op = .store ty x y)
    (g off : Nat) (cs : List Value) (hx : a.eval x = .pointer (some ⟨g, off, none⟩)) (hy : a.eval y = .agg cs.toArray)
    (t : TypeId) (cur : Array Value) (hg : Blk w g t cur) (hi : (P.info? ty).map (·.size) = some cs.length)
    (hfit : off + cs.length ≤ cur.size) (h1 : ∀ v ∈ cs, v.oneCell' = true)
    (h : ∀ w', Hid (Blk w' g t (splice cur.toList off cs).toArray) → Kept (· = g) w w' → wpList P ops Q rest (a.put o.dst undef) w') : wpList P ops Q (o :: rest) a w := by
  have hrun : (storeVar ty ⟨g, off, none⟩ (.agg cs.toArray)).run P w = .ok () (w.setRow g (splice cur.toList off cs).toArray) := by
    have := run_storeCells_at (P := P) g off t cs 0 cur w hg (by simpa using hfit) h1
    cases hq : P.info? ty with
    | none => simp [hq] at hi
    | some i =>
      have hs : cs.length = i.size := by simp [hq] at hi; omega
      simp [storeVar, sizeOf, typeInfo, hq, Value.cells, hs]
      simpa [splice, hs] using this
  refine wpList_plain hgd fun K hK => ?_
  unfold Oper.wp execOp
  simp only [ho, hx, hy, Instr.storeAt, Instr.sureAddr, Sem.run_bind, Sem.run_pure, Result.andThen_ok, hrun]
  exact hK _ _ (h _ (setRow_heap w g _ _ t _ hg) (Bytes.Kept.setRow (S := (· = g)) (Kept.refl _ w) rfl _))

def Z98 : Array Value := #[Value.int IntKind.u8 0, Value.int IntKind.u8 0, Value.int IntKind.u8 0, Value.int IntKind.u8 0, Value.int IntKind.u8 0, Value.int IntKind.u8 0, Value.int IntKind.u8 0, Value.int IntKind.u8 0, Value.int IntKind.u8 0, Value.int IntKind.u8 0, Value.int IntKind.u8 0, Value.int IntKind.u8 0, Value.int IntKind.u8 0, Value.int IntKind.u8 0, Value.int IntKind.u8 0, Value.int IntKind.u8 0, Value.int IntKind.u8 0, Value.int IntKind.u8 0, Value.int IntKind.u8 0, Value.int IntKind.u8 0, Value.int IntKind.u8 0, Value.int IntKind.u8 0, Value.int IntKind.u8 0, Value.int IntKind.u8 0, Value.int IntKind.u8 0, Value.int IntKind.u8 0, Value.int IntKind.u8 0, Value.int IntKind.u8 0, Value.int IntKind.u8 0, Value.int IntKind.u8 0, Value.int IntKind.u8 0, Value.int IntKind.u8 0, Value.int IntKind.i64 0, Value.int IntKind.u8 0, Value.int IntKind.u8 0, Value.int IntKind.u8 0, Value.int IntKind.u8 0, Value.int IntKind.u8 0, Value.int IntKind.u8 0, Value.int IntKind.u8 0, Value.int IntKind.u8 0, Value.int IntKind.u8 0, Value.int IntKind.u8 0, Value.int IntKind.u8 0, Value.int IntKind.u8 0, Value.int IntKind.u8 0, Value.int IntKind.u8 0, Value.int IntKind.u8 0, Value.int IntKind.u8 0, Value.int IntKind.u8 0, Value.int IntKind.u8 0, Value.int IntKind.u8 0, Value.int IntKind.u8 0, Value.int IntKind.u8 0, Value.int IntKind.u8 0, Value.int IntKind.u8 0, Value.int IntKind.u8 0, Value.int IntKind.u8 0, Value.int IntKind.u8 0, Value.int IntKind.u8 0, Value.int IntKind.u8 0, Value.int IntKind.u8 0, Value.int IntKind.u8 0, Value.int IntKind.u8 0, Value.int IntKind.u8 0, Value.int IntKind.u8 0, Value.int IntKind.u8 0, Value.int IntKind.u8 0, Value.int IntKind.u8 0, Value.int IntKind.u8 0, Value.int IntKind.u8 0, Value.int IntKind.u8 0, Value.int IntKind.u8 0, Value.int IntKind.u8 0, Value.int IntKind.u8 0, Value.int IntKind.u8 0, Value.int IntKind.u8 0, Value.int IntKind.u8 0, Value.int IntKind.u8 0, Value.int IntKind.u8 0, Value.int IntKind.u8 0, Value.int IntKind.u8 0, Value.int IntKind.u8 0, Value.int IntKind.u8 0, Value.int IntKind.u8 0, Value.int IntKind.u8 0, Value.int IntKind.u8 0, Value.int IntKind.u8 0, Value.int IntKind.u8 0, Value.int IntKind.u8 0, Value.int IntKind.u8 0, Value.int IntKind.u8 0, Value.int IntKind.u8 0, Value.int IntKind.u8 0, Value.int IntKind.u8 0, Value.int IntKind.u8 0, Value.int IntKind.u8 0, Value.int IntKind.i64 0]
theorem z98_size : Z98.size = 98 := by kernel_rfl
/-- A head's cells, one field after another. -/
def filled (l r i : Text) : Array Value := (splice (splice (splice Z98.toList 0 (cells8 l)) 33 (cells8 r)) 65 (cells8 i)).toArray
def okH (q : Text) : Bool := decide (q.getD 0 0 = 32) && decide (num ((q.drop 33).take 8) ≤ 1099511627776) && decide (num ((q.drop 105).take 8) ≤ 4611686018427387904)
section
variable {w0 w w' : World} {g n m c need need' : Nat} {q : Text} {A : Option Addr} {cs cs' : Array Value}
end
end Go.Proofs.YteelanamlhfmgaaDoor.HeadTake

namespace Go.Proofs.YteelanamlhfmgaaDoor.HeadTake2
open Go Go.RowKit Go.Proofs.YteelanamlhfmgaaDoor Go.Proofs.YteelanamlhfmgaaDoor.Mem Go.Proofs.YteelanamlhfmgaaDoor.Sha Go.Proofs.YteelanamlhfmgaaDoor.Bytes Go.Proofs.YteelanamlhfmgaaDoor.Append Go.Proofs.YteelanamlhfmgaaDoor.Octet Go.Proofs.YteelanamlhfmgaaDoor.QuietTail Go.Proofs.YteelanamlhfmgaaDoor.Grown Go.Proofs.YteelanamlhfmgaaDoor.Reader Go.Proofs.YteelanamlhfmgaaDoor.Reader2 Go.Proofs.YteelanamlhfmgaaDoor.Reader3 Go.Proofs.YteelanamlhfmgaaDoor.HeadMem Go.Proofs.YteelanamlhfmgaaDoor.HeadTake

theorem results_cell_row2 {P : Program} {fn : Func} {p u : Tmp} {ty : TypeId} (h : fn.results = #[.cell p ty, .tmp u]) (tmps : Array Value) (w : World) (g : Nat) (t : TypeId) (cs : Array Value) (fr : Nat × Nat) (d : TypeDesc)
    (hp : tmps.getD p undef = .pointer (some ⟨g, 0, none⟩)) (hg : w.heap[g]? = some (.cells cs t fr))
    (hu : P.underlying ty = some d) (hd : (match d with | .struct _ | .array _ _ => true | _ => false) = true) (hi : (P.info? ty).map (·.size) = some cs.size) :
    (results fn tmps).run P w = .ok (.tuple #[.agg cs, tmps.getD u undef]) w := by
  have hp' : tmps[p]?.getD undef = .pointer (some ⟨g, 0, none⟩) := by simpa using hp
  simp [results, h, hp', asAddr, run_loadVar_row w g t ty cs fr d hg hu hd hi, Result.andThen]

end Go.Proofs.YteelanamlhfmgaaDoor.HeadTake2

namespace Go.Proofs.YteelanamlhfmgaaDoor.NoteP
open Go Go.RowKit Go.Proofs.YteelanamlhfmgaaDoor Go.Proofs.YteelanamlhfmgaaDoor.Mem Go.Proofs.YteelanamlhfmgaaDoor.Sha Go.Proofs.YteelanamlhfmgaaDoor.Bytes Go.Proofs.YteelanamlhfmgaaDoor.HeadMem Go.Proofs.YteelanamlhfmgaaDoor.HeadTake Go.Proofs.YteelanamlhfmgaaDoor.HeadTake2 Go.Proofs.YteelanamlhfmgaaDoor.SortP

/-- A sign's key: its first 32 bytes. -/
def kyS (t : Text) : Text := t.take 32
/-- The bytes of a head and of signs that stand in order. -/
def noteB (h : HeadD) (r : List Text) : Text := 33 :: (headBytes h ++ (BitVec.ofNat 8 r.length :: r.flatten))
/-- What laying a note down answers: the bytes, or the refusal. -/
def noteAns (h : HeadD) (ss : List Text) : Option Text × Int :=
  if rightB h = false then (none, 1) else if ss.length = 0 ∨ 16 < ss.length then (none, 7) else match rising kyS ss with
    | none => (none, 92)
    | some r => (some (noteB h r), 0)
theorem flatten_len : ∀ {r : List Text}, (∀ t ∈ r, t.length = 64) → r.flatten.length = 64 * r.length
  | [], _ => rfl
  | t :: r, h => by
    rw [List.flatten_cons, List.length_append, h t (by simp), flatten_len (fun t ht => h t (by simp [ht])), List.length_cons]
    omega
theorem noteB_len {h : HeadD} (ok : h.Ok) {r : List Text} (hr : ∀ t ∈ r, t.length = 64) : (noteB h r).length = 115 + 64 * r.length := by
  unfold noteB
  rw [List.length_cons, List.length_append, headBytes_len ok, List.length_cons, flatten_len hr]
  omega
/-- The neighbours' order, one step on. -/
theorem rise_drop {l : List Text} {i : Nat} {a b : Text} (ha : l[i]? = some a) (hb : l[i + 1]? = some b) : riseB (ky := kyS) (l.drop i) = (lex (kyS a) (kyS b) && riseB (ky := kyS) (l.drop (i + 1))) := by
  obtain ⟨h1, rfl⟩ := List.getElem?_eq_some_iff.1 ha
  obtain ⟨h2, rfl⟩ := List.getElem?_eq_some_iff.1 hb
  rw [List.drop_eq_getElem_cons h1, List.drop_eq_getElem_cons h2]
  rfl
theorem rise_last {l : List Text} {i : Nat} (h : l.length ≤ i + 1) : riseB (ky := kyS) (l.drop i) = true := by
  have hl : (l.drop i).length ≤ 1 := by rw [List.length_drop]; omega
  match hd : l.drop i, hl with
  | [], _ => rfl
  | [a], _ => rfl
  | a :: b :: r, hl => simp at hl
end Go.Proofs.YteelanamlhfmgaaDoor.NoteP

namespace Go.Proofs.YteelanamlhfmgaaDoor.Decode
open Go Go.RowKit Go.Proofs.YteelanamlhfmgaaDoor Go.Proofs.YteelanamlhfmgaaDoor.Mem Go.Proofs.YteelanamlhfmgaaDoor.Sha Go.Proofs.YteelanamlhfmgaaDoor.Bytes Go.Proofs.YteelanamlhfmgaaDoor.Append Go.Proofs.YteelanamlhfmgaaDoor.Octet Go.Proofs.YteelanamlhfmgaaDoor.QuietTail Go.Proofs.YteelanamlhfmgaaDoor.Grown Go.Proofs.YteelanamlhfmgaaDoor.Reader Go.Proofs.YteelanamlhfmgaaDoor.Reader2 Go.Proofs.YteelanamlhfmgaaDoor.Reader3 Go.Proofs.YteelanamlhfmgaaDoor.HeadMem Go.Proofs.YteelanamlhfmgaaDoor.HeadTake Go.Proofs.YteelanamlhfmgaaDoor.HeadTake2

theorem wpList_store_all {P : Program} {ops : Array Oper} {rest : List Oper} {o : Oper} {a : Act} {w : World} {Q : Exit → Act → World → Prop} (hgd : o.guard = none) (ty : TypeId) (x y : Operand) (ho : o.op = .store ty x y)
    (g : Nat) (cells : Array Value) (hx : a.eval x = .pointer (some ⟨g, 0, none⟩)) (hy : a.eval y = .agg cells)
    (t : TypeId) (old : Array Value) (hg : Blk w g t old) (hi : (P.info? ty).map (·.size) = some cells.size)
    (hold : old.size = cells.size) (h1 : cells.all (·.oneCell') = true)
    (h : ∀ w', Hid (Blk w' g t cells) → Kept (· = g) w w' → wpList P ops Q rest (a.put o.dst undef) w') : wpList P ops Q (o :: rest) a w :=
  wpList_store_row hgd ty x y ho g cells hx hy t old hg hi hold h1 (h _ (setRow_heap _ _ _ _ _ _ hg) (Bytes.Kept.setRow (S := (· = g)) (Kept.refl _ w) rfl _))

section
variable {w0 w w' : World} {g c need need' : Nat} {q : Text} {A : Option Addr}
end
theorem below_new {w w' : World} {o : Obj} (hk : Kept (· = w.heap.size) (w.alloc o) w') : Below w.heap.size w w' :=
  (Below.heap_below w o).trans (Kept.below_of hk (Nat.le_refl _) (by simp))

end Go.Proofs.YteelanamlhfmgaaDoor.Decode

namespace Go.Proofs.YteelanamlhfmgaaDoor.High
open Go Go.RowKit Go.Proofs.YteelanamlhfmgaaDoor Go.Proofs.YteelanamlhfmgaaDoor.Mem Go.Proofs.YteelanamlhfmgaaDoor.Sha Go.Proofs.YteelanamlhfmgaaDoor.Bytes Go.Proofs.YteelanamlhfmgaaDoor.Append Go.Proofs.YteelanamlhfmgaaDoor.Octet Go.Proofs.YteelanamlhfmgaaDoor.QuietTail Go.Proofs.YteelanamlhfmgaaDoor.Grown Go.Proofs.YteelanamlhfmgaaDoor.Reader Go.Proofs.YteelanamlhfmgaaDoor.Reader2 Go.Proofs.YteelanamlhfmgaaDoor.Reader3 Go.Proofs.YteelanamlhfmgaaDoor.HeadMem Go.Proofs.YteelanamlhfmgaaDoor.HeadTake Go.Proofs.YteelanamlhfmgaaDoor.HeadTake2 Go.Proofs.YteelanamlhfmgaaDoor.Decode

end Go.Proofs.YteelanamlhfmgaaDoor.High

namespace Go.Proofs.YteelanamlhfmgaaDoor.ReadHead
open Go Go.RowKit Go.Proofs.YteelanamlhfmgaaDoor Go.Proofs.YteelanamlhfmgaaDoor.Mem Go.Proofs.YteelanamlhfmgaaDoor.Sha Go.Proofs.YteelanamlhfmgaaDoor.Bytes Go.Proofs.YteelanamlhfmgaaDoor.Append Go.Proofs.YteelanamlhfmgaaDoor.Octet Go.Proofs.YteelanamlhfmgaaDoor.QuietTail Go.Proofs.YteelanamlhfmgaaDoor.Grown Go.Proofs.YteelanamlhfmgaaDoor.Reader Go.Proofs.YteelanamlhfmgaaDoor.Reader2 Go.Proofs.YteelanamlhfmgaaDoor.Reader3 Go.Proofs.YteelanamlhfmgaaDoor.HeadMem Go.Proofs.YteelanamlhfmgaaDoor.HeadTake Go.Proofs.YteelanamlhfmgaaDoor.HeadTake2 Go.Proofs.YteelanamlhfmgaaDoor.Decode Go.Proofs.YteelanamlhfmgaaDoor.High

/-- The result's cell and the head that is filled. -/
structure Rs (w0 w : World) (cs : Array Value) : Prop where
  res : Blk w w0.heap.size 25 Z98
  head : Blk w (w0.heap.size + 1) 25 cs
  below : Below w0.heap.size w0 w
section
variable {w0 w w' : World} {cs cs' : Array Value}
theorem Rs.store (h : Rs w0 w cs) (hb : Blk w' (w0.heap.size + 1) 25 cs') (hk : Kept (· = w0.heap.size + 1) w w') : Rs w0 w' cs' :=
  ⟨h.res.kept hk (by omega), hb, h.below.trans (Kept.below_of hk (Nat.le_succ _) h.below.size)⟩
theorem Rs.drewN (h : Rs w0 w cs) (n : Nat) : Rs w0 (w.drewN n) cs := ⟨h.res, h.head, below_drawn h.below n⟩
theorem Rs.set_ (h : Rs w0 w cs) (i : Nat) (u : Value) : Rs w0 (w.setCell ⟨w0.heap.size + 1, i, none⟩ u) (cs.setIfInBounds i u) :=
  h.store (h.head.set_ i u) ((Kept.refl (· = w0.heap.size + 1) w).setCell (p := ⟨w0.heap.size + 1, i, none⟩) (.inl rfl) u)
theorem Rs.new (w : World) : Rs w ((w.alloc (.cells Z98 25)).alloc (.cells Z98 25)) Z98 := by
  have e : (w.alloc (.cells Z98 25)).heap.size = w.heap.size + 1 := by simp
  have hN := Blk.new (w.alloc (.cells Z98 25)) 25 Z98
  rw [e] at hN
  exact ⟨(Blk.new w _ _).alloc _, hN, (Below.heap_below w _).alloc (by rw [e]; omega) _⟩
end

end Go.Proofs.YteelanamlhfmgaaDoor.ReadHead

namespace Go.Proofs.YteelanamlhfmgaaDoor.HeadTake3
open Go Go.RowKit Go.Proofs.YteelanamlhfmgaaDoor Go.Proofs.YteelanamlhfmgaaDoor.Mem Go.Proofs.YteelanamlhfmgaaDoor.Sha Go.Proofs.YteelanamlhfmgaaDoor.Bytes Go.Proofs.YteelanamlhfmgaaDoor.Append Go.Proofs.YteelanamlhfmgaaDoor.Octet Go.Proofs.YteelanamlhfmgaaDoor.QuietTail Go.Proofs.YteelanamlhfmgaaDoor.Grown Go.Proofs.YteelanamlhfmgaaDoor.Reader Go.Proofs.YteelanamlhfmgaaDoor.Reader2 Go.Proofs.YteelanamlhfmgaaDoor.Reader3 Go.Proofs.YteelanamlhfmgaaDoor.HeadMem Go.Proofs.YteelanamlhfmgaaDoor.HeadTake Go.Proofs.YteelanamlhfmgaaDoor.HeadTake2

theorem len0 {q q1 : Text} (e : q.drop 1 = q1) (h : 113 ≤ q1.length) : 114 ≤ q.length := by rw [← e, List.length_drop] at h; omega
end Go.Proofs.YteelanamlhfmgaaDoor.HeadTake3
