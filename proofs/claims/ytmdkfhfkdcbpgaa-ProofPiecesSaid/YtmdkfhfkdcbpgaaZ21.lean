/-
  Texts of the claim, put into one file: IdxAny, IdxEnc.
-/
import Derived.Test.YtmdkfhfkdcbpgaaZ20
import Derived.Test.YtmdkfhfkdcbpgaaZ8
import Derived.Test.YtmdkfhfkdcbpgaaZ4
import Derived.Test.YtmdkfhfkdcbpgaaZ14

namespace Go.Proofs.Ytmdkfhfkdcbpgaa.IdxAny
open Go Go.RowKit Go.Proofs.Ytmdkfhfkdcbpgaa Go.Proofs.Ytmdkfhfkdcbpgaa.Mem Go.Proofs.Ytmdkfhfkdcbpgaa.Sha Go.Proofs.Ytmdkfhfkdcbpgaa.Bytes Go.Proofs.Ytmdkfhfkdcbpgaa.Append Go.Proofs.Ytmdkfhfkdcbpgaa.Octet Go.Proofs.Ytmdkfhfkdcbpgaa.Octet2 Go.Proofs.Ytmdkfhfkdcbpgaa.HeadMem Go.Proofs.Ytmdkfhfkdcbpgaa.ProofBeside Go.Proofs.Ytmdkfhfkdcbpgaa.ProofEnc Go.Proofs.Ytmdkfhfkdcbpgaa.ProofIdx Go.Proofs.Ytmdkfhfkdcbpgaa.ProofIdx2 Go.Proofs.Ytmdkfhfkdcbpgaa.ProofIdx3 Go.Proofs.Ytmdkfhfkdcbpgaa.StructEq Go.Proofs.Ytmdkfhfkdcbpgaa.QuietTail Go.Proofs.Ytmdkfhfkdcbpgaa.Grown

def z32 : Text := List.replicate 32 0
theorem z32_len : z32.length = 32 := rfl
/-- May it be, by its entry? -/
def okEnt (f : Bool) (cnt : Int) (ch : Text) : Bool := if f then decide (1 ≤ cnt ∧ cnt ≤ 1099511627776) else decide (cnt = 0 ∧ ch = z32)
/-- May it be, by its form? -/
def okIx (s : ByteArray) (f : Bool) (cnt : Int) (ch d : Text) (n : Nat) : Bool := okEnt f cnt ch && (namedB s.data.toList && ((onesOf d : Int) == (n : Int)))
end Go.Proofs.Ytmdkfhfkdcbpgaa.IdxAny

namespace Go.Proofs.Ytmdkfhfkdcbpgaa.IdxEnc
open Go Go.RowKit Go.Proofs.Ytmdkfhfkdcbpgaa Go.Proofs.Ytmdkfhfkdcbpgaa.Mem Go.Proofs.Ytmdkfhfkdcbpgaa.Sha Go.Proofs.Ytmdkfhfkdcbpgaa.Bytes Go.Proofs.Ytmdkfhfkdcbpgaa.Append Go.Proofs.Ytmdkfhfkdcbpgaa.Octet Go.Proofs.Ytmdkfhfkdcbpgaa.Octet2 Go.Proofs.Ytmdkfhfkdcbpgaa.HeadMem Go.Proofs.Ytmdkfhfkdcbpgaa.ProofBeside Go.Proofs.Ytmdkfhfkdcbpgaa.ProofEnc Go.Proofs.Ytmdkfhfkdcbpgaa.ProofIdx Go.Proofs.Ytmdkfhfkdcbpgaa.ProofIdx2 Go.Proofs.Ytmdkfhfkdcbpgaa.ProofIdx3 Go.Proofs.Ytmdkfhfkdcbpgaa.ProofIdx4 Go.Proofs.Ytmdkfhfkdcbpgaa.StructEq Go.Proofs.Ytmdkfhfkdcbpgaa.IdxAny Go.Proofs.Ytmdkfhfkdcbpgaa.TreeMem Go.Proofs.Ytmdkfhfkdcbpgaa.NumberNew

/-- The bytes of what an index says of a name. -/
def idxB (s : ByteArray) (f : Bool) (cnt : Int) (ch d : Text) (ds : List Text) : Text := [50] ++ [kb s.size] ++ nm s ++ (if f then [1] ++ be8 cnt.toNat ++ ch else [0]) ++ d ++ ds.flatten
def idxWant (s : ByteArray) (f : Bool) (cnt : Int) (ch d : Text) (ds : List Text) : Option Text := if okIx s f cnt ch d ds.length = true then some (idxB s f cnt ch d ds) else none
theorem idxB_len {s : ByteArray} {f : Bool} {cnt : Int} {ch d : Text} {ds : List Text} (hch : ch.length = 32) (hd : d.length = 32) (hds : ∀ d ∈ ds, d.length = 32) : (idxB s f cnt ch d ds).length = (if f then 75 else 35) + s.size + 32 * ds.length := by
  cases f <;> simp only [idxB, List.length_append, List.length_cons, List.length_nil, nm_len, hd, hch, flat32_len ds hds, be8_len, Bool.false_eq_true, if_true, if_false] <;> omega
theorem okIx_ones {s : ByteArray} {f : Bool} {cnt : Int} {ch d : Text} {n : Nat} (h : okIx s f cnt ch d n = true) : onesOf d = n := by
  unfold okIx at h
  simp only [Bool.and_eq_true, beq_iff_eq] at h
  omega
theorem okIx_name {s : ByteArray} {f : Bool} {cnt : Int} {ch d : Text} {n : Nat} (h : okIx s f cnt ch d n = true) : namedB s.data.toList = true := by
  unfold okIx at h
  simp only [Bool.and_eq_true] at h
  exact h.2.1
theorem okIx_64 {s : ByteArray} {f : Bool} {cnt : Int} {ch d : Text} {n : Nat} (h : okIx s f cnt ch d n = true) : s.size ≤ 64 := by
  have := okIx_name h
  unfold namedB at this
  simp only [Bool.and_eq_true, decide_eq_true_eq] at this
  simpa using this.1

end Go.Proofs.Ytmdkfhfkdcbpgaa.IdxEnc
