/-
  Texts of the claim, put into one file: NoteM, DecNote.
-/
import Derived.Test.YteelanamlhfmgaaDoorZ27
import Derived.Test.YteelanamlhfmgaaDoorZ26
import Derived.Test.YteelanamlhfmgaaDoorZ20
import Derived.Test.YteelanamlhfmgaaDoorZ21
import Derived.Deep.Cut

namespace Go.Proofs.YteelanamlhfmgaaDoor.NoteM
open Go Go.RowKit Go.Proofs.YteelanamlhfmgaaDoor Go.Proofs.YteelanamlhfmgaaDoor.Mem Go.Proofs.YteelanamlhfmgaaDoor.Sha Go.Proofs.YteelanamlhfmgaaDoor.Bytes Go.Proofs.YteelanamlhfmgaaDoor.SortP Go.Proofs.YteelanamlhfmgaaDoor.NoteP Go.Proofs.YteelanamlhfmgaaDoor.Reader Go.Proofs.YteelanamlhfmgaaDoor.Reader2 Go.Proofs.YteelanamlhfmgaaDoor.Reader3 Go.Proofs.YteelanamlhfmgaaDoor.Rise Go.Proofs.YteelanamlhfmgaaDoor.SortM Go.Proofs.YteelanamlhfmgaaDoor.SgM Go.Proofs.YteelanamlhfmgaaDoor.HeadMem Go.Proofs.YteelanamlhfmgaaDoor.HeadTake Go.Proofs.YteelanamlhfmgaaDoor.EncNoteP Go.Proofs.YteelanamlhfmgaaDoor.EncNote Go.Proofs.YteelanamlhfmgaaDoor.RowS Go.Proofs.YteelanamlhfmgaaDoor.Fill

/-- The zero head. -/
def h0 : HeadD := ⟨List.replicate 32 0, 0, List.replicate 32 0, List.replicate 32 0, 0⟩
theorem h0_ok : h0.Ok := ⟨by simp [h0], by simp [h0], by simp [h0], ⟨by decide, by decide⟩, ⟨by decide, by decide⟩⟩
theorem h0_cells : headCells h0 = Z98.toList := by kernel_rfl
def Z99 : Array Value := #[Value.int IntKind.u8 0, Value.int IntKind.u8 0, Value.int IntKind.u8 0, Value.int IntKind.u8 0, Value.int IntKind.u8 0, Value.int IntKind.u8 0, Value.int IntKind.u8 0, Value.int IntKind.u8 0, Value.int IntKind.u8 0, Value.int IntKind.u8 0, Value.int IntKind.u8 0, Value.int IntKind.u8 0, Value.int IntKind.u8 0, Value.int IntKind.u8 0, Value.int IntKind.u8 0, Value.int IntKind.u8 0, Value.int IntKind.u8 0, Value.int IntKind.u8 0, Value.int IntKind.u8 0, Value.int IntKind.u8 0, Value.int IntKind.u8 0, Value.int IntKind.u8 0, Value.int IntKind.u8 0, Value.int IntKind.u8 0, Value.int IntKind.u8 0, Value.int IntKind.u8 0, Value.int IntKind.u8 0, Value.int IntKind.u8 0, Value.int IntKind.u8 0, Value.int IntKind.u8 0, Value.int IntKind.u8 0, Value.int IntKind.u8 0, Value.int IntKind.i64 0, Value.int IntKind.u8 0, Value.int IntKind.u8 0, Value.int IntKind.u8 0, Value.int IntKind.u8 0, Value.int IntKind.u8 0, Value.int IntKind.u8 0, Value.int IntKind.u8 0, Value.int IntKind.u8 0, Value.int IntKind.u8 0, Value.int IntKind.u8 0, Value.int IntKind.u8 0, Value.int IntKind.u8 0, Value.int IntKind.u8 0, Value.int IntKind.u8 0, Value.int IntKind.u8 0, Value.int IntKind.u8 0, Value.int IntKind.u8 0, Value.int IntKind.u8 0, Value.int IntKind.u8 0, Value.int IntKind.u8 0, Value.int IntKind.u8 0, Value.int IntKind.u8 0, Value.int IntKind.u8 0, Value.int IntKind.u8 0, Value.int IntKind.u8 0, Value.int IntKind.u8 0, Value.int IntKind.u8 0, Value.int IntKind.u8 0, Value.int IntKind.u8 0, Value.int IntKind.u8 0, Value.int IntKind.u8 0, Value.int IntKind.u8 0, Value.int IntKind.u8 0, Value.int IntKind.u8 0, Value.int IntKind.u8 0, Value.int IntKind.u8 0, Value.int IntKind.u8 0, Value.int IntKind.u8 0, Value.int IntKind.u8 0, Value.int IntKind.u8 0, Value.int IntKind.u8 0, Value.int IntKind.u8 0, Value.int IntKind.u8 0, Value.int IntKind.u8 0, Value.int IntKind.u8 0, Value.int IntKind.u8 0, Value.int IntKind.u8 0, Value.int IntKind.u8 0, Value.int IntKind.u8 0, Value.int IntKind.u8 0, Value.int IntKind.u8 0, Value.int IntKind.u8 0, Value.int IntKind.u8 0, Value.int IntKind.u8 0, Value.int IntKind.u8 0, Value.int IntKind.u8 0, Value.int IntKind.u8 0, Value.int IntKind.u8 0, Value.int IntKind.u8 0, Value.int IntKind.u8 0, Value.int IntKind.u8 0, Value.int IntKind.u8 0, Value.int IntKind.u8 0, Value.int IntKind.u8 0, Value.int IntKind.i64 0, Value.slice none 0 0]
theorem z99_eq : (noteCells h0 (.slice none 0 0)).toArray = Z99 := by kernel_rfl
theorem z99_size : Z99.size = 99 := by kernel_rfl
theorem size99 : (Tryd.prog.info? 28).map (·.size) = some 99 := by kernel_rfl
theorem size99' : (Tryd.prog.info? 28).map (·.size) = some Z99.size := by rw [z99_size]; exact size99
theorem one99 : Z99.all (fun v => v.oneCell') = true := by kernel_rfl
theorem built_note (parts : List (Nat × Value)) : Tryd.prog.built 28 parts = Instr.fill (#[((0 : Nat), (98 : Nat)), (98, 1)][·]?) (Z98.toList ++ [Value.slice none 0 0]).toArray parts := by kernel_rfl
theorem run_note {h : HeadD} (ok : h.Ok) (A : Option Addr) (n c : Nat) (w : World) : (Instr.build 28 #[(0, .agg (headCells h).toArray), (1, .slice A n c)]).run Tryd.prog w = .ok (.agg (noteCells h (.slice A n c)).toArray) w := by
  refine run_build w _ _ _ ?_
  rw [built_note]
  have e1 := fill_one (place := (#[((0 : Nat), (98 : Nat)), (98, 1)][·]?)) (i := 0) (v := .agg (headCells h).toArray) (xs := headCells h) (old := Z98.toList) (pre := []) (post := [.slice none 0 0]) (rest := [(1, .slice A n c)]) rfl rfl (headCells_len ok) rfl (by rw [Array.length_toList]; exact z98_size)
  have e2 := fill_one (place := (#[((0 : Nat), (98 : Nat)), (98, 1)][·]?)) (i := 1) (v := .slice A n c) (xs := [.slice A n c]) (old := [.slice none 0 0]) (pre := headCells h) (post := []) (rest := []) rfl rfl rfl (headCells_len ok) rfl
  rw [List.nil_append, List.nil_append] at e1
  rw [List.append_nil, List.append_nil, fill_nil] at e2
  exact e1.trans e2
theorem note_size {h : HeadD} (ok : h.Ok) (v : Value) : (Tryd.prog.info? 28).map (·.size) = some (noteCells h v).toArray.size := by rw [List.size_toArray, noteCells_len ok]; exact size99
theorem note_one {h : HeadD} (A : Option Addr) (n c : Nat) : (noteCells h (.slice A n c)).toArray.all (fun v => v.oneCell') = true := by
  rw [List.all_toArray]
  refine List.all_eq_true.2 fun v hv => ?_
  rcases List.mem_append.1 hv with hv | hv
  · exact headCells_one h v hv
  · simp only [List.mem_singleton] at hv
    subst hv
    rfl
theorem note_zero {h : HeadD} (ok : h.Ok) (v : Value) : Z99.size = (noteCells h v).toArray.size := z99_size.trans (show 99 = (noteCells h v).length from (noteCells_len ok v).symm)
theorem sign_fill (z : Array Value) (hz : z.size = 64) (xs ys : List Value) (hx : xs.length = 32) (hy : ys.length = 32) :
    Instr.fill (#[((0 : Nat), (32 : Nat)), (32, 32)][·]?) z [(0, .agg xs.toArray), (1, .agg ys.toArray)] = some (xs ++ ys).toArray := by
  have h := Great.fill_whole (s := 32) (by omega) [.agg xs.toArray, .agg ys.toArray] z (fun v hv => by
    rcases List.mem_cons.1 hv with rfl | hv
    · exact hx
    · rcases List.mem_cons.1 hv with rfl | hv
      · exact hy
      · cases hv) (by rw [hz]; rfl)
  have e : ([Value.agg xs.toArray, .agg ys.toArray].flatMap fun v => v.cells.toList) = xs ++ ys := by
    simp [Value.cells]
  rw [e] at h
  exact h
theorem built_any (parts : List (Nat × Value)) : Tryd.prog.built 43 parts = Instr.fill (#[((0 : Nat), (32 : Nat)), (32, 32)][·]?) (Array.replicate 64 (.int .u8 0)) parts := by kernel_rfl
section
variable {w0 w w' : World} {g gh c need need' : Nat} {q : Text} {A : Option Addr} {hc : Array Value}
end
section
variable {w0 w w' : World} {g c need need' : Nat} {q : Text} {A : Option Addr} {hc : Array Value}
end
end Go.Proofs.YteelanamlhfmgaaDoor.NoteM

namespace Go.Proofs.YteelanamlhfmgaaDoor.DecNote
open Go Go.RowKit Go.Proofs.YteelanamlhfmgaaDoor Go.Proofs.YteelanamlhfmgaaDoor.Mem Go.Proofs.YteelanamlhfmgaaDoor.Sha Go.Proofs.YteelanamlhfmgaaDoor.Bytes Go.Proofs.YteelanamlhfmgaaDoor.SortP Go.Proofs.YteelanamlhfmgaaDoor.NoteP Go.Proofs.YteelanamlhfmgaaDoor.Reader Go.Proofs.YteelanamlhfmgaaDoor.Reader2 Go.Proofs.YteelanamlhfmgaaDoor.Reader3 Go.Proofs.YteelanamlhfmgaaDoor.Rise Go.Proofs.YteelanamlhfmgaaDoor.SortM Go.Proofs.YteelanamlhfmgaaDoor.SgM Go.Proofs.YteelanamlhfmgaaDoor.HeadMem Go.Proofs.YteelanamlhfmgaaDoor.HeadTake Go.Proofs.YteelanamlhfmgaaDoor.HeadTake2 Go.Proofs.YteelanamlhfmgaaDoor.HeadTake3 Go.Proofs.YteelanamlhfmgaaDoor.EncNoteP Go.Proofs.YteelanamlhfmgaaDoor.EncNote Go.Proofs.YteelanamlhfmgaaDoor.RowS Go.Proofs.YteelanamlhfmgaaDoor.Fill Go.Proofs.YteelanamlhfmgaaDoor.NoteM Go.Proofs.YteelanamlhfmgaaDoor.Decode

end Go.Proofs.YteelanamlhfmgaaDoor.DecNote
