/-
  Texts of the claim, put into one file: Hash, HashSum, Digest, DigestOf.
-/
import Derived.Test.YtmdkfhfkdcbpgaaZ28
import Derived.Test.YtmdkfhfkdcbpgaaZ27
import Derived.Test.YtmdkfhfkdcbpgaaRows
import Derived.Deep.Cut
import Derived.Deep.CutRange

namespace Go.Proofs.Ytmdkfhfkdcbpgaa.Hash
open Go Go.RowKit Go.Proofs.Ytmdkfhfkdcbpgaa Go.Proofs.Ytmdkfhfkdcbpgaa.Mem Go.Proofs.Ytmdkfhfkdcbpgaa.Sha Go.Proofs.Ytmdkfhfkdcbpgaa.ShaWalk Go.Proofs.Ytmdkfhfkdcbpgaa.Bytes Go.Proofs.Ytmdkfhfkdcbpgaa.HashMem

end Go.Proofs.Ytmdkfhfkdcbpgaa.Hash

namespace Go.Proofs.Ytmdkfhfkdcbpgaa.HashSum
open Go Go.RowKit Go.Proofs.Ytmdkfhfkdcbpgaa Go.Proofs.Ytmdkfhfkdcbpgaa.Mem Go.Proofs.Ytmdkfhfkdcbpgaa.Sha Go.Proofs.Ytmdkfhfkdcbpgaa.ShaWalk Go.Proofs.Ytmdkfhfkdcbpgaa.Bytes Go.Proofs.Ytmdkfhfkdcbpgaa.HashMem Go.Proofs.Ytmdkfhfkdcbpgaa.Hash

end Go.Proofs.Ytmdkfhfkdcbpgaa.HashSum

namespace Go.Proofs.Ytmdkfhfkdcbpgaa.Digest
open Go Go.RowKit Go.Proofs.Ytmdkfhfkdcbpgaa Go.Proofs.Ytmdkfhfkdcbpgaa.Mem Go.Proofs.Ytmdkfhfkdcbpgaa.Sha Go.Proofs.Ytmdkfhfkdcbpgaa.ShaWalk Go.Proofs.Ytmdkfhfkdcbpgaa.Bytes Go.Proofs.Ytmdkfhfkdcbpgaa.HashMem Go.Proofs.Ytmdkfhfkdcbpgaa.Hash Go.Proofs.Ytmdkfhfkdcbpgaa.HashSum Go.Proofs.Ytmdkfhfkdcbpgaa.DigestMem

theorem dig_size (x : Text) (hx : x.length = 32) : (Try.prog.info? 23).map (·.size) = some (cells8 x).toArray.size := size31.trans (congrArg some (by simp [cells8_len, hx]))
theorem dig_one (x : Text) : (cells8 x).toArray.all (fun v => v.oneCell') = true := by rw [List.all_toArray]; exact List.all_eq_true.2 (cells8_one x)

theorem Reads.off {w : World} {A : Option Addr} {k g : Nat} {xs : List Value} (h : Reads w 1 A k xs) (hg : w.heap.size ≤ g) : 0 < k → Off A g := by
  intro hk a ha
  obtain ⟨b, o, e, hb, _⟩ := h.2 (by omega)
  rw [e] at ha
  obtain rfl := Option.some.inj ha
  show b ≠ g
  omega

end Go.Proofs.Ytmdkfhfkdcbpgaa.Digest

namespace Go.Proofs.Ytmdkfhfkdcbpgaa.DigestOf
open Go Go.RowKit Go.Proofs.Ytmdkfhfkdcbpgaa Go.Proofs.Ytmdkfhfkdcbpgaa.Mem Go.Proofs.Ytmdkfhfkdcbpgaa.Sha Go.Proofs.Ytmdkfhfkdcbpgaa.ShaWalk Go.Proofs.Ytmdkfhfkdcbpgaa.Bytes Go.Proofs.Ytmdkfhfkdcbpgaa.HashMem Go.Proofs.Ytmdkfhfkdcbpgaa.Hash Go.Proofs.Ytmdkfhfkdcbpgaa.HashSum Go.Proofs.Ytmdkfhfkdcbpgaa.DigestMem Go.Proofs.Ytmdkfhfkdcbpgaa.Digest

end Go.Proofs.Ytmdkfhfkdcbpgaa.DigestOf
