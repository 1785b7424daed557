/-
  Texts of the claim, put into one file: ProofIdx2, ProofFlag, ProofIdx3, ProofIdx4.
-/
import Derived.Test.YtmdkfhfkdcbpgaaZ19
import Derived.Laws.IdiomStrings

namespace Go.Proofs.Ytmdkfhfkdcbpgaa.ProofIdx2
open Go Go.RowKit Go.Proofs.Ytmdkfhfkdcbpgaa Go.Proofs.Ytmdkfhfkdcbpgaa.Mem Go.Proofs.Ytmdkfhfkdcbpgaa.Sha Go.Proofs.Ytmdkfhfkdcbpgaa.Bytes Go.Proofs.Ytmdkfhfkdcbpgaa.Append Go.Proofs.Ytmdkfhfkdcbpgaa.Octet Go.Proofs.Ytmdkfhfkdcbpgaa.Octet2 Go.Proofs.Ytmdkfhfkdcbpgaa.HeadMem Go.Proofs.Ytmdkfhfkdcbpgaa.ProofBeside Go.Proofs.Ytmdkfhfkdcbpgaa.ProofEnc Go.Proofs.Ytmdkfhfkdcbpgaa.ProofIdx

/-- A string's bytes. -/
def nm (s : ByteArray) : Text := s.data.toList.map fun b => b.toBitVec
theorem nm_len (t : ByteArray) : (nm t).length = t.size := by simp [nm]
theorem bytesRow_reads {W : World} {g C : Nat} {T : TypeId} {fz : Nat × Nat} {t : ByteArray} (h : W.heap[g]? = some (.cells (bytesRow t C) T fz)) : Reads W 1 (some ⟨g, 0, none⟩) (nm t).length (cells8 (nm t)) := by
  refine ⟨by rw [cells8_len, Nat.mul_one], fun _ => ⟨g, 0, rfl, (Array.getElem?_eq_some_iff.1 h).1, fun j u hu => ?_⟩⟩
  have hj : j < t.size := by
    have := (List.getElem?_eq_some_iff.1 hu).1
    rwa [cells8_len, nm_len] at this
  rw [Nat.zero_add, cell_of_row _ _ _ _ _ _ h, ← hu]
  unfold bytesRow cells8 nm
  have hd : j < t.data.size := hj
  rw [Array.getElem?_append_left (by simpa using hd)]
  simp
  have hb : (fun b : UInt8 => Value.int .u8 (b.toNat : Int)) = (cell8 ∘ fun b : UInt8 => b.toBitVec) := rfl
  rw [hb]

section
variable {w0 w : World} {g : Nat} {r : Option Nat} {l : Text}
/-- A string's bytes laid down: the string's copy and the row of one slice were made just now. -/
theorem raw_str (s : ByteArray) (C : Nat) (fr : Nat × Nat) {w1 W : World} (T1 T2 : TypeId) (hW : ((w1.alloc (.cells (bytesRow s C) T1 fr)).alloc (.cells #[.slice (some ⟨w1.heap.size, 0, none⟩) s.size C] T2)).drew = W) (hl : l.length + s.size ≤ 140737488355328) (hWr : Wrote w0 g r l w1) :
    Calls Try.prog 50 #[.pointer (some ⟨g, 0, none⟩), .slice (some ⟨w1.heap.size + 1, 0, none⟩) 1 1] W fun e w' => e = .returned (.tuple #[]) ∧ Wrote w0 g r (l ++ nm s) w' := by
  subst hW
  have hW2 : Wrote w0 g r l (((w1.alloc (.cells (bytesRow s C) T1 fr)).alloc (.cells #[.slice (some ⟨w1.heap.size, 0, none⟩) s.size C] T2)).drew) := ((hWr.alloc _).alloc _).drew
  obtain ⟨r0, h0, k0, c0⟩ := hWr
  have hg := h0.lt
  have hr0 : ∀ k, r0 = some k → k < w1.heap.size := by
    obtain ⟨v, _, _, _, h⟩ := h0
    exact fun k e => (h k e).2
  have hsz : (w1.alloc (.cells (bytesRow s C) T1 fr)).heap.size = w1.heap.size + 1 := by simp
  have b1 : (((w1.alloc (.cells (bytesRow s C) T1 fr)).alloc (.cells #[.slice (some ⟨w1.heap.size, 0, none⟩) s.size C] T2)).drew).heap[w1.heap.size]? = some (.cells (bytesRow s C) T1 fr) := by
    show ((w1.alloc (.cells (bytesRow s C) T1 fr)).alloc _).heap[w1.heap.size]? = _
    rw [Below.heap_alloc _ _ _ (by rw [hsz]; omega)]
    exact heap_alloc_new w1 _
  have b2 : Blk (((w1.alloc (.cells (bytesRow s C) T1 fr)).alloc (.cells #[.slice (some ⟨w1.heap.size, 0, none⟩) s.size C] T2)).drew) (w1.heap.size + 1) T2 #[.slice (some ⟨w1.heap.size, 0, none⟩) s.size C] := by
    have := Blk.new (w1.alloc (.cells (bytesRow s C) T1 fr)) T2 #[.slice (some ⟨w1.heap.size, 0, none⟩) s.size C]
    rw [hsz] at this
    exact this.drew
  have h3 : WrAt (((w1.alloc (.cells (bytesRow s C) T1 fr)).alloc (.cells #[.slice (some ⟨w1.heap.size, 0, none⟩) s.size C] T2)).drew) g r0 l := ((h0.alloc _).alloc _).drew
  have k3 : Kept (fun k => k = g ∨ some k = r) w0 (((w1.alloc (.cells (bytesRow s C) T1 fr)).alloc (.cells #[.slice (some ⟨w1.heap.size, 0, none⟩) s.size C] T2)).drew) := ((k0.alloc _).alloc _).drew
  generalize (((w1.alloc (.cells (bytesRow s C) T1 fr)).alloc (.cells #[.slice (some ⟨w1.heap.size, 0, none⟩) s.size C] T2)).drew) = W at *
  refine (raw_any g r0 l [nm s] 1 rfl (some ⟨w1.heap.size + 1, 0, none⟩) 1 W (by simp [nm_len]; omega) (by omega) h3 (fun _ => ⟨w1.heap.size + 1, 0, rfl, b2.lt, by omega, (fun e => by have := hr0 _ e.symm; omega), fun i q hq => ?_⟩)).mono fun e w' ⟨he, hx⟩ => ⟨he, ?_⟩
  · match i, hq with
    | 0, hq =>
      obtain rfl := Option.some.inj hq
      refine ⟨some ⟨w1.heap.size, 0, none⟩, C, (b2.cell 0).trans (by rw [nm_len]; rfl), bytesRow_reads b1, (fun h => by cases h), fun _ a e => ?_⟩
      obtain rfl := Option.some.inj e
      exact ⟨fun e => by simp at e; omega, fun e => by have := hr0 _ e.symm; simp at this⟩
    | i + 1, hq => simp at hq
  · have := Wrote.trans1 k3 c0 hx
    simpa using this

set_option maxRecDepth 100000 in
set_option maxHeartbeats 1000000 in
theorem name_from (s : ByteArray) (hs : s.size ≤ 64) (hl : l.length + 1 + s.size ≤ 140737488355328) (hW : Wrote w0 g r l w) :
    Calls Try.prog 23 #[.pointer (some ⟨g, 0, none⟩), .string s] w fun e w' => e = .returned (.tuple #[]) ∧ Wrote w0 g r (l ++ [kb s.size] ++ nm s) w' := by
  have hs' : (s.size : Int) ≤ 64 := by omega
  have e256 : (s.size : Int) % 256 = (s.size : Int) := by omega
  have hk : Hid (b8 (kb s.size) = (s.size : Int)) := by
    show _ = _
    unfold b8 kb
    rw [BitVec.toNat_ofInt]
    omega
  have hcv : ∀ w', (convert 9 29 (.string s)).run Try.prog w' = .ok (.slice (some ⟨w'.heap.size, 0, none⟩) s.size (grownCap w' s.size 0 5)) (w'.drew.alloc (.cells (bytesRow s (grownCap w' s.size 0 5)) 5 ((bytesRow s (grownCap w' s.size 0 5)).size, (bytesRow s (grownCap w' s.size 0 5)).size + 1))) := fun w' => run_bytes_of_string w' _ _ _ s Try.underlying9 Try.underlying29 Try.underlying5
  replace hW := Lib.hid hW
  replace hl := Lib.hid hl
  replace hs := Lib.hid hs
  go_enter Try.func23, Try.ntmps23
  go_wp2_with (first
    | (go_at_call 22; refine (put1_from (s.size : Int) (kb s.size) hk.out (by have := hl.out; omega) hW.out).mono ?_; rintro e w1 ⟨rfl, hW1⟩; replace hW1 := Lib.hid hW1; clear hW)
    | (go_at_call 50; generalize hCg : grownCap _ s.size 0 5 = C; generalize hX : World.drew _ = X; refine (raw_str s C _ _ _ hX (by have := hl.out; simp; omega) hW1.out).mono ?_; rintro e w2 ⟨rfl, hW2⟩; replace hW2 := Lib.hid hW2; clear hX hCg))
  go_end0
  exact ⟨rfl, hW2.out⟩

end
end Go.Proofs.Ytmdkfhfkdcbpgaa.ProofIdx2

namespace Go.Proofs.Ytmdkfhfkdcbpgaa.ProofIdx2
open Go Go.RowKit Go.Proofs.Ytmdkfhfkdcbpgaa Go.Proofs.Ytmdkfhfkdcbpgaa.Mem Go.Proofs.Ytmdkfhfkdcbpgaa.Sha Go.Proofs.Ytmdkfhfkdcbpgaa.Bytes Go.Proofs.Ytmdkfhfkdcbpgaa.Append Go.Proofs.Ytmdkfhfkdcbpgaa.Octet Go.Proofs.Ytmdkfhfkdcbpgaa.Octet2 Go.Proofs.Ytmdkfhfkdcbpgaa.HeadMem Go.Proofs.Ytmdkfhfkdcbpgaa.ProofBeside Go.Proofs.Ytmdkfhfkdcbpgaa.ProofEnc Go.Proofs.Ytmdkfhfkdcbpgaa.ProofIdx
section
variable {w0 w : World} {g : Nat} {r : Option Nat} {l : Text}
end
end Go.Proofs.Ytmdkfhfkdcbpgaa.ProofIdx2

namespace Go.Proofs.Ytmdkfhfkdcbpgaa.ProofIdx3
open Go Go.RowKit Go.Proofs.Ytmdkfhfkdcbpgaa Go.Proofs.Ytmdkfhfkdcbpgaa.Mem Go.Proofs.Ytmdkfhfkdcbpgaa.Sha Go.Proofs.Ytmdkfhfkdcbpgaa.Bytes Go.Proofs.Ytmdkfhfkdcbpgaa.Append Go.Proofs.Ytmdkfhfkdcbpgaa.Octet Go.Proofs.Ytmdkfhfkdcbpgaa.Octet2 Go.Proofs.Ytmdkfhfkdcbpgaa.HeadMem Go.Proofs.Ytmdkfhfkdcbpgaa.ProofBeside Go.Proofs.Ytmdkfhfkdcbpgaa.ProofEnc Go.Proofs.Ytmdkfhfkdcbpgaa.ProofIdx Go.Proofs.Ytmdkfhfkdcbpgaa.ProofIdx2 Go.Proofs.Ytmdkfhfkdcbpgaa.QuietTail Go.Proofs.Ytmdkfhfkdcbpgaa.Grown

/-- What an index says of a name, as cells: the name, whether it is found, the entry, the bitmap, the way. -/
def idxCells (s : ByteArray) (f : Bool) (ent : List Value) (d : Text) (A : Option Addr) (n c : Nat) : List Value := [.string s, .bool f] ++ ent ++ cells8 d ++ [.slice A n c]
section
variable {s : ByteArray} {f : Bool} {ent : List Value} {d : Text} {A : Option Addr} {n c : Nat}
theorem idx_name : (idxCells s f ent d A n c)[0]? = some (.string s) := rfl
theorem idx_found : (idxCells s f ent d A n c)[1]? = some (.bool f) := rfl
theorem idx_ent (j : Nat) (v : Value) (hv : ent[j]? = some v) : (idxCells s f ent d A n c)[2 + j]? = some v := by
  have hj : j < ent.length := (List.getElem?_eq_some_iff.1 hv).1
  unfold idxCells
  rw [List.append_assoc, List.append_assoc, List.getElem?_append_right (by simp), List.getElem?_append_left (by simp; omega)]
  simpa using hv
theorem idx_bitmap (he : ent.length = 33) (j : Nat) (v : Value) (hv : (cells8 d)[j]? = some v) : (idxCells s f ent d A n c)[35 + j]? = some v := by
  have hj : j < (cells8 d).length := (List.getElem?_eq_some_iff.1 hv).1
  unfold idxCells
  rw [List.append_assoc, List.getElem?_append_right (by simp [he]), List.getElem?_append_left (by simp [he]; omega)]
  simpa [he] using hv
theorem idx_way (he : ent.length = 33) (hd : d.length = 32) : (idxCells s f ent d A n c)[67]? = some (.slice A n c) := by
  unfold idxCells
  rw [List.getElem?_append_right (by simp [he, cells8_len, hd])]
  simp [he, cells8_len, hd]
end

end Go.Proofs.Ytmdkfhfkdcbpgaa.ProofIdx3

namespace Go.Proofs.Ytmdkfhfkdcbpgaa.ProofIdx4
open Go Go.RowKit Go.Proofs.Ytmdkfhfkdcbpgaa Go.Proofs.Ytmdkfhfkdcbpgaa.Mem Go.Proofs.Ytmdkfhfkdcbpgaa.Sha Go.Proofs.Ytmdkfhfkdcbpgaa.Bytes Go.Proofs.Ytmdkfhfkdcbpgaa.Append Go.Proofs.Ytmdkfhfkdcbpgaa.Octet Go.Proofs.Ytmdkfhfkdcbpgaa.Octet2 Go.Proofs.Ytmdkfhfkdcbpgaa.HeadMem Go.Proofs.Ytmdkfhfkdcbpgaa.ProofBeside Go.Proofs.Ytmdkfhfkdcbpgaa.ProofEnc Go.Proofs.Ytmdkfhfkdcbpgaa.ProofIdx Go.Proofs.Ytmdkfhfkdcbpgaa.ProofIdx2 Go.Proofs.Ytmdkfhfkdcbpgaa.ProofIdx3

end Go.Proofs.Ytmdkfhfkdcbpgaa.ProofIdx4
