/-
  Texts of the claim, put into one file: StrAppend.
-/
import Derived.Test.YtmdkfhfkdcbpgaaZ20
import Derived.Test.YtmdkfhfkdcbpgaaZ10
import Derived.Lib.AppendStr

namespace Go.Proofs.Ytmdkfhfkdcbpgaa.IdxRef2
open Go Go.RowKit Go.Proofs.Ytmdkfhfkdcbpgaa Go.Proofs.Ytmdkfhfkdcbpgaa.Mem Go.Proofs.Ytmdkfhfkdcbpgaa.Sha Go.Proofs.Ytmdkfhfkdcbpgaa.Bytes Go.Proofs.Ytmdkfhfkdcbpgaa.Append Go.Proofs.Ytmdkfhfkdcbpgaa.Octet Go.Proofs.Ytmdkfhfkdcbpgaa.Own Go.Proofs.Ytmdkfhfkdcbpgaa.ProofIdx2

theorem strCells_nm (s : ByteArray) : Lib.strCells s = cells8 (nm s) := by
  unfold Lib.strCells nm cells8
  rw [List.map_map]
  rfl
theorem cell_kb {n : Nat} (h : n ≤ 64) : cell8 (kb (n : Int)) = .int .u8 (n : Int) := by
  unfold cell8 b8 kb
  congr 1
  rw [BitVec.toNat_ofInt]
  omega
/-- What an append of a string leaves. -/
theorem grew_string {w w' : World} {B n : Nat} {A : Option Addr} {c : Nat} {q : Text} {s : ByteArray} {v' : Value} (ho : w'.ownsRow B 5 1 v' (n + s.size) (cells8 q ++ Lib.strCells s)) (hg : w.grownBy w' (Value.ownBlock (.slice A n c))) {w0 : World} (hb : Below B w0 w) (hB : B ≤ w.heap.size) (hown : w.ownsRow B 5 1 (.slice A n c) n (cells8 q)) :
    ∃ A' c', v' = .slice A' (n + s.size) c' ∧ Hid (w'.ownsRow B 5 1 (.slice A' (n + s.size) c') (n + s.size) (cells8 (q ++ nm s))) ∧ Hid (Below B w0 w') := by
  rw [strCells_nm] at ho
  obtain ⟨A', c', rfl, -⟩ := Go.Proofs.Ytmdkfhfkdcbpgaa.Append.Own.reads ho
  refine ⟨A', c', rfl, ?_, hb.grown hg hB (own_block hown)⟩
  show w'.ownsRow _ _ _ _ _ _
  simpa [cells8] using ho
end Go.Proofs.Ytmdkfhfkdcbpgaa.IdxRef2
