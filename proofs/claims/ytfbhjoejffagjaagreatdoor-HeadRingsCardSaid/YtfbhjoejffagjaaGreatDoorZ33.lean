/-
  Texts of the claim, put into one file: NoteM, DecNote.
-/
import Derived.Test.YtfbhjoejffagjaaGreatDoorZ32
import Derived.Test.YtfbhjoejffagjaaGreatDoorZ31
import Derived.Test.YtfbhjoejffagjaaGreatDoorZ13
import Derived.Test.YtfbhjoejffagjaaGreatDoorZ10
import Derived.Deep.Cut

namespace Go.Proofs.YtfbhjoejffagjaaGreatDoor.NoteM
open Go Go.RowKit Go.Proofs.YtfbhjoejffagjaaGreatDoor Go.Proofs.YtfbhjoejffagjaaGreatDoor.Mem Go.Proofs.YtfbhjoejffagjaaGreatDoor.Sha Go.Proofs.YtfbhjoejffagjaaGreatDoor.Bytes Go.Proofs.YtfbhjoejffagjaaGreatDoor.SortP Go.Proofs.YtfbhjoejffagjaaGreatDoor.NoteP Go.Proofs.YtfbhjoejffagjaaGreatDoor.Reader Go.Proofs.YtfbhjoejffagjaaGreatDoor.Reader2 Go.Proofs.YtfbhjoejffagjaaGreatDoor.Reader3 Go.Proofs.YtfbhjoejffagjaaGreatDoor.Rise Go.Proofs.YtfbhjoejffagjaaGreatDoor.SortM Go.Proofs.YtfbhjoejffagjaaGreatDoor.SgM Go.Proofs.YtfbhjoejffagjaaGreatDoor.HeadMem Go.Proofs.YtfbhjoejffagjaaGreatDoor.HeadTake Go.Proofs.YtfbhjoejffagjaaGreatDoor.EncNoteP Go.Proofs.YtfbhjoejffagjaaGreatDoor.EncNote Go.Proofs.YtfbhjoejffagjaaGreatDoor.RowS Go.Proofs.YtfbhjoejffagjaaGreatDoor.Fill

/-- The zero head. -/
def h0 : HeadD := ⟨List.replicate 32 0, 0, List.replicate 32 0, List.replicate 32 0, 0⟩
def Z99 : Array Value := #[Value.int IntKind.u8 0, Value.int IntKind.u8 0, Value.int IntKind.u8 0, Value.int IntKind.u8 0, Value.int IntKind.u8 0, Value.int IntKind.u8 0, Value.int IntKind.u8 0, Value.int IntKind.u8 0, Value.int IntKind.u8 0, Value.int IntKind.u8 0, Value.int IntKind.u8 0, Value.int IntKind.u8 0, Value.int IntKind.u8 0, Value.int IntKind.u8 0, Value.int IntKind.u8 0, Value.int IntKind.u8 0, Value.int IntKind.u8 0, Value.int IntKind.u8 0, Value.int IntKind.u8 0, Value.int IntKind.u8 0, Value.int IntKind.u8 0, Value.int IntKind.u8 0, Value.int IntKind.u8 0, Value.int IntKind.u8 0, Value.int IntKind.u8 0, Value.int IntKind.u8 0, Value.int IntKind.u8 0, Value.int IntKind.u8 0, Value.int IntKind.u8 0, Value.int IntKind.u8 0, Value.int IntKind.u8 0, Value.int IntKind.u8 0, Value.int IntKind.i64 0, Value.int IntKind.u8 0, Value.int IntKind.u8 0, Value.int IntKind.u8 0, Value.int IntKind.u8 0, Value.int IntKind.u8 0, Value.int IntKind.u8 0, Value.int IntKind.u8 0, Value.int IntKind.u8 0, Value.int IntKind.u8 0, Value.int IntKind.u8 0, Value.int IntKind.u8 0, Value.int IntKind.u8 0, Value.int IntKind.u8 0, Value.int IntKind.u8 0, Value.int IntKind.u8 0, Value.int IntKind.u8 0, Value.int IntKind.u8 0, Value.int IntKind.u8 0, Value.int IntKind.u8 0, Value.int IntKind.u8 0, Value.int IntKind.u8 0, Value.int IntKind.u8 0, Value.int IntKind.u8 0, Value.int IntKind.u8 0, Value.int IntKind.u8 0, Value.int IntKind.u8 0, Value.int IntKind.u8 0, Value.int IntKind.u8 0, Value.int IntKind.u8 0, Value.int IntKind.u8 0, Value.int IntKind.u8 0, Value.int IntKind.u8 0, Value.int IntKind.u8 0, Value.int IntKind.u8 0, Value.int IntKind.u8 0, Value.int IntKind.u8 0, Value.int IntKind.u8 0, Value.int IntKind.u8 0, Value.int IntKind.u8 0, Value.int IntKind.u8 0, Value.int IntKind.u8 0, Value.int IntKind.u8 0, Value.int IntKind.u8 0, Value.int IntKind.u8 0, Value.int IntKind.u8 0, Value.int IntKind.u8 0, Value.int IntKind.u8 0, Value.int IntKind.u8 0, Value.int IntKind.u8 0, Value.int IntKind.u8 0, Value.int IntKind.u8 0, Value.int IntKind.u8 0, Value.int IntKind.u8 0, Value.int IntKind.u8 0, Value.int IntKind.u8 0, Value.int IntKind.u8 0, Value.int IntKind.u8 0, Value.int IntKind.u8 0, Value.int IntKind.u8 0, Value.int IntKind.u8 0, Value.int IntKind.u8 0, Value.int IntKind.u8 0, Value.int IntKind.u8 0, Value.int IntKind.u8 0, Value.int IntKind.i64 0, Value.slice none 0 0]
theorem z99_size : Z99.size = 99 := by kernel_rfl
theorem size99 : (Tryz.prog.info? 39).map (·.size) = some 99 := by kernel_rfl
theorem built_note (parts : List (Nat × Value)) : Tryz.prog.built 39 parts = Instr.fill (#[((0 : Nat), (98 : Nat)), (98, 1)][·]?) (Z98.toList ++ [Value.slice none 0 0]).toArray parts := by kernel_rfl
theorem run_note {h : HeadD} (ok : h.Ok) (A : Option Addr) (n c : Nat) (w : World) : (Instr.build 39 #[(0, .agg (headCells h).toArray), (1, .slice A n c)]).run Tryz.prog w = .ok (.agg (noteCells h (.slice A n c)).toArray) w := by
  refine run_build w _ _ _ ?_
  rw [built_note]
  have e1 := fill_one (place := (#[((0 : Nat), (98 : Nat)), (98, 1)][·]?)) (i := 0) (v := .agg (headCells h).toArray) (xs := headCells h) (old := Z98.toList) (pre := []) (post := [.slice none 0 0]) (rest := [(1, .slice A n c)]) rfl rfl (headCells_len ok) rfl (by rw [Array.length_toList]; exact z98_size)
  have e2 := fill_one (place := (#[((0 : Nat), (98 : Nat)), (98, 1)][·]?)) (i := 1) (v := .slice A n c) (xs := [.slice A n c]) (old := [.slice none 0 0]) (pre := headCells h) (post := []) (rest := []) rfl rfl rfl (headCells_len ok) rfl
  rw [List.nil_append, List.nil_append] at e1
  rw [List.append_nil, List.append_nil, fill_nil] at e2
  exact e1.trans e2
theorem note_size {h : HeadD} (ok : h.Ok) (v : Value) : (Tryz.prog.info? 39).map (·.size) = some (noteCells h v).toArray.size := by rw [List.size_toArray, noteCells_len ok]; exact size99
theorem note_one {h : HeadD} (A : Option Addr) (n c : Nat) : (noteCells h (.slice A n c)).toArray.all (fun v => v.oneCell') = true := by
  rw [List.all_toArray]
  refine List.all_eq_true.2 fun v hv => ?_
  rcases List.mem_append.1 hv with hv | hv
  · exact headCells_one h v hv
  · simp only [List.mem_singleton] at hv
    subst hv
    rfl
theorem note_zero {h : HeadD} (ok : h.Ok) (v : Value) : Z99.size = (noteCells h v).toArray.size := z99_size.trans (show 99 = (noteCells h v).length from (noteCells_len ok v).symm)
theorem sign_fill (z : Array Value) (hz : z.size = 64) (xs ys : List Value) (hx : xs.length = 32) (hy : ys.length = 32) :
    Instr.fill (#[((0 : Nat), (32 : Nat)), (32, 32)][·]?) z [(0, .agg xs.toArray), (1, .agg ys.toArray)] = some (xs ++ ys).toArray := by
  have h := Great.fill_whole (s := 32) (by omega) [.agg xs.toArray, .agg ys.toArray] z (fun v hv => by
    rcases List.mem_cons.1 hv with rfl | hv
    · exact hx
    · rcases List.mem_cons.1 hv with rfl | hv
      · exact hy
      · cases hv) (by rw [hz]; rfl)
  have e : ([Value.agg xs.toArray, .agg ys.toArray].flatMap fun v => v.cells.toList) = xs ++ ys := by
    simp [Value.cells]
  rw [e] at h
  exact h
theorem built_any (parts : List (Nat × Value)) : Tryz.prog.built 56 parts = Instr.fill (#[((0 : Nat), (32 : Nat)), (32, 32)][·]?) (Array.replicate 64 (.int .u8 0)) parts := by kernel_rfl
/-- What stands while a note is read: the reader, the result's cell, the head. -/
structure DN (w0 w : World) (g gh : Nat) (q : Text) (A : Option Addr) (c need : Nat) (hc : Array Value) : Prop where
  rd : Rd w g q A c need
  res : Blk w w0.heap.size 39 Z99
  head : Blk w gh 36 hc
  below : Below w0.heap.size w0 w
  hg : w0.heap.size < g
  hh : w0.heap.size < gh
  ne : g ≠ gh
section
variable {w0 w w' : World} {g gh c need need' : Nat} {q : Text} {A : Option Addr} {hc : Array Value}
theorem DN.call (h : DN w0 w g gh q A c need hc) (hr : Rd w' g q A c need') (hk : Kept (· = g) w w') : DN w0 w' g gh q A c need' hc :=
  ⟨hr, h.res.kept hk (by have := h.hg; omega), h.head.kept hk (fun e => h.ne e.symm), h.below.trans (Kept.below_of hk (by have := h.hg; omega) h.below.size), h.hg, h.hh, h.ne⟩
theorem DN.far (h : DN w0 w g gh q A c need hc) (hk : Below w.heap.size w w') : DN w0 w' g gh q A c need hc :=
  ⟨h.rd.below hk, h.res.kept (S := fun _ => False) (Kept.of_below hk) (fun x => x), h.head.kept (S := fun _ => False) (Kept.of_below hk) (fun x => x), h.below.trans (hk.mono h.below.size), h.hg, h.hh, h.ne⟩
theorem DN.off {gs : Nat} (h : DN w0 w g gh q A c need hc) (hk : Kept (· = gs) w w') (h1 : w0.heap.size < gs) (h2 : g ≠ gs) (h3 : gh ≠ gs) (h4 : 0 < q.length → ∀ a, A = some a → a.block < gs) : DN w0 w' g gh q A c need hc :=
  ⟨h.rd.keptOff hk h2 (fun h0 a ea e => by have := h4 h0 a ea; omega), h.res.kept hk (by omega), h.head.kept hk h3, h.below.trans (Kept.below_of hk (by omega) h.below.size), h.hg, h.hh, h.ne⟩
end
/-- .. before the head was taken. -/
structure DN0 (w0 w : World) (g : Nat) (q : Text) (A : Option Addr) (c need : Nat) : Prop where
  rd : Rd w g q A c need
  res : Blk w w0.heap.size 39 Z99
  below : Below w0.heap.size w0 w
  hg : w0.heap.size < g
section
variable {w0 w w' : World} {g c need need' : Nat} {q : Text} {A : Option Addr} {hc : Array Value}
theorem DN0.call (h : DN0 w0 w g q A c need) (hr : Rd w' g q A c need') (hk : Kept (· = g) w w') : DN0 w0 w' g q A c need' :=
  ⟨hr, h.res.kept hk (by have := h.hg; omega), h.below.trans (Kept.below_of hk (by have := h.hg; omega) h.below.size), h.hg⟩
theorem DN0.head (h : DN0 w0 w g q A c need) {o : Obj} (hk : Kept (· = w.heap.size) (w.alloc o) w') (hb : Blk w' w.heap.size 36 hc) : DN w0 w' g w.heap.size q A c need hc := by
  have hbb := Decode.below_new hk
  have hlt := h.rd.lt
  exact ⟨h.rd.below hbb, h.res.kept (S := fun _ => False) (Kept.of_below hbb) (fun x => x), hb, h.below.trans (hbb.mono h.below.size), h.hg, by have := h.res.lt; exact this, by omega⟩
end
end Go.Proofs.YtfbhjoejffagjaaGreatDoor.NoteM

namespace Go.Proofs.YtfbhjoejffagjaaGreatDoor.DecNote
open Go Go.RowKit Go.Proofs.YtfbhjoejffagjaaGreatDoor Go.Proofs.YtfbhjoejffagjaaGreatDoor.Mem Go.Proofs.YtfbhjoejffagjaaGreatDoor.Sha Go.Proofs.YtfbhjoejffagjaaGreatDoor.Bytes Go.Proofs.YtfbhjoejffagjaaGreatDoor.SortP Go.Proofs.YtfbhjoejffagjaaGreatDoor.NoteP Go.Proofs.YtfbhjoejffagjaaGreatDoor.Reader Go.Proofs.YtfbhjoejffagjaaGreatDoor.Reader2 Go.Proofs.YtfbhjoejffagjaaGreatDoor.Reader3 Go.Proofs.YtfbhjoejffagjaaGreatDoor.Rise Go.Proofs.YtfbhjoejffagjaaGreatDoor.SortM Go.Proofs.YtfbhjoejffagjaaGreatDoor.SgM Go.Proofs.YtfbhjoejffagjaaGreatDoor.HeadMem Go.Proofs.YtfbhjoejffagjaaGreatDoor.HeadTake Go.Proofs.YtfbhjoejffagjaaGreatDoor.HeadTake2 Go.Proofs.YtfbhjoejffagjaaGreatDoor.HeadTake3 Go.Proofs.YtfbhjoejffagjaaGreatDoor.EncNoteP Go.Proofs.YtfbhjoejffagjaaGreatDoor.EncNote Go.Proofs.YtfbhjoejffagjaaGreatDoor.RowS Go.Proofs.YtfbhjoejffagjaaGreatDoor.Fill Go.Proofs.YtfbhjoejffagjaaGreatDoor.NoteM Go.Proofs.YtfbhjoejffagjaaGreatDoor.Decode

theorem splice_set (ds : List Text) (h : Sns ds) (i : Nat) (hi : i < ds.length) (x : Text) (hx : x.length = 64) : (splice (ds.flatMap cells8).toArray.toList (i * 64) (cells8 x)).toArray = ((ds.set i x).flatMap cells8).toArray := by
  unfold splice
  rw [List.toList_toArray, cells8_len, hx, ← List.append_assoc, flat_set ds h i hi x]
theorem row_fit {ds : List Text} (h : Sns ds) {i n : Nat} (hl : ds.length = n) (hi : i < n) {x : Text} (hx : x.length = 64) : i * 64 + (cells8 x).length ≤ (ds.flatMap cells8).toArray.size := by
  rw [List.size_toArray, flat_len ds h, cells8_len, hx, hl]
  omega

end Go.Proofs.YtfbhjoejffagjaaGreatDoor.DecNote
