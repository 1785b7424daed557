/-
  Texts of the claim, put into one file: Reader, Reader2, Reader3, Flag, Reader7, OctetBytes.
-/
import Derived.Test.YthkdlaohaekilaaDoorZ10
import Derived.Test.YthkdlaohaekilaaDoorZ12

namespace Go.Proofs.YthkdlaohaekilaaDoor.Reader
open Go Go.RowKit Go.Proofs.YthkdlaohaekilaaDoor Go.Proofs.YthkdlaohaekilaaDoor.Mem Go.Proofs.YthkdlaohaekilaaDoor.Sha Go.Proofs.YthkdlaohaekilaaDoor.Bytes Go.Proofs.YthkdlaohaekilaaDoor.Append Go.Proofs.YthkdlaohaekilaaDoor.Octet Go.Proofs.YthkdlaohaekilaaDoor.QuietTail Go.Proofs.YthkdlaohaekilaaDoor.Grown

/-- The number that bytes are, the highest first. -/
def num (l : Text) : Nat := l.foldl (fun a c => a * 256 + c.toNat) 0
section
variable {w w' : World} {g need c : Nat} {q : Text} {A : Option Addr}
end

end Go.Proofs.YthkdlaohaekilaaDoor.Reader

namespace Go.Proofs.YthkdlaohaekilaaDoor.Reader2
open Go Go.RowKit Go.Proofs.YthkdlaohaekilaaDoor Go.Proofs.YthkdlaohaekilaaDoor.Mem Go.Proofs.YthkdlaohaekilaaDoor.Sha Go.Proofs.YthkdlaohaekilaaDoor.Bytes Go.Proofs.YthkdlaohaekilaaDoor.Append Go.Proofs.YthkdlaohaekilaaDoor.Octet Go.Proofs.YthkdlaohaekilaaDoor.QuietTail Go.Proofs.YthkdlaohaekilaaDoor.Grown Go.Proofs.YthkdlaohaekilaaDoor.Reader

section
variable {w : World} {g c at_ : Nat} {q : Text} {A : Option Addr}
end
end Go.Proofs.YthkdlaohaekilaaDoor.Reader2

namespace Go.Proofs.YthkdlaohaekilaaDoor.Reader3
open Go Go.RowKit Go.Proofs.YthkdlaohaekilaaDoor Go.Proofs.YthkdlaohaekilaaDoor.Mem Go.Proofs.YthkdlaohaekilaaDoor.Sha Go.Proofs.YthkdlaohaekilaaDoor.Bytes Go.Proofs.YthkdlaohaekilaaDoor.Append Go.Proofs.YthkdlaohaekilaaDoor.Octet Go.Proofs.YthkdlaohaekilaaDoor.QuietTail Go.Proofs.YthkdlaohaekilaaDoor.Grown Go.Proofs.YthkdlaohaekilaaDoor.Reader Go.Proofs.YthkdlaohaekilaaDoor.Reader2

/-- What Raw hands out: bytes in memory of their own. -/
def Out (w w' : World) (A : Option Addr) (c : Nat) (p : Text) : Prop :=
  Reads w' 1 A p.length (cells8 p) ∧ (A = none → p.length = 0 ∧ c = 0) ∧ p.length ≤ c ∧ ∀ a, A = some a → w.heap.size ≤ a.block

theorem dig_size (x : Text) (hx : x.length = 32) : (Tryd.prog.info? 23).map (·.size) = some (cells8 x).toArray.size := size31.trans (congrArg some (by simp [cells8_len, hx]))
theorem dig_one (x : Text) : (cells8 x).toArray.all (fun v => v.oneCell') = true := by rw [List.all_toArray]; exact List.all_eq_true.2 (cells8_one x)
end Go.Proofs.YthkdlaohaekilaaDoor.Reader3

namespace Go.Proofs.YthkdlaohaekilaaDoor.Flag
open Go Go.RowKit Go.Proofs.YthkdlaohaekilaaDoor Go.Proofs.YthkdlaohaekilaaDoor.Mem Go.Proofs.YthkdlaohaekilaaDoor.Sha Go.Proofs.YthkdlaohaekilaaDoor.Bytes Go.Proofs.YthkdlaohaekilaaDoor.Append Go.Proofs.YthkdlaohaekilaaDoor.Octet Go.Proofs.YthkdlaohaekilaaDoor.QuietTail Go.Proofs.YthkdlaohaekilaaDoor.Grown Go.Proofs.YthkdlaohaekilaaDoor.Reader Go.Proofs.YthkdlaohaekilaaDoor.Reader2

end Go.Proofs.YthkdlaohaekilaaDoor.Flag

namespace Go.Proofs.YthkdlaohaekilaaDoor.Reader7
open Go Go.RowKit Go.Proofs.YthkdlaohaekilaaDoor Go.Proofs.YthkdlaohaekilaaDoor.Mem Go.Proofs.YthkdlaohaekilaaDoor.Sha Go.Proofs.YthkdlaohaekilaaDoor.Bytes Go.Proofs.YthkdlaohaekilaaDoor.Append Go.Proofs.YthkdlaohaekilaaDoor.Octet Go.Proofs.YthkdlaohaekilaaDoor.QuietTail Go.Proofs.YthkdlaohaekilaaDoor.Grown Go.Proofs.YthkdlaohaekilaaDoor.Reader Go.Proofs.YthkdlaohaekilaaDoor.Reader2 Go.Proofs.YthkdlaohaekilaaDoor.Octet4

end Go.Proofs.YthkdlaohaekilaaDoor.Reader7

namespace Go.Proofs.YthkdlaohaekilaaDoor.OctetBytes
open Go Go.RowKit Go.Proofs.YthkdlaohaekilaaDoor Go.Proofs.YthkdlaohaekilaaDoor.Mem Go.Proofs.YthkdlaohaekilaaDoor.Sha Go.Proofs.YthkdlaohaekilaaDoor.Bytes Go.Proofs.YthkdlaohaekilaaDoor.Append Go.Proofs.YthkdlaohaekilaaDoor.Octet Go.Proofs.YthkdlaohaekilaaDoor.Octet2 Go.Proofs.YthkdlaohaekilaaDoor.Octet4 Go.Proofs.YthkdlaohaekilaaDoor.Reader Go.Proofs.YthkdlaohaekilaaDoor.Reader2 Go.Proofs.YthkdlaohaekilaaDoor.Reader3 Go.Proofs.YthkdlaohaekilaaDoor.Reader7

theorem Out.since {S : Nat → Prop} {w w1 w2 : World} {A : Option Addr} {c : Nat} {p : Text} (h : Out w1 w2 A c p) (hk : Kept S w w1) : Out w w2 A c p := ⟨h.1, h.2.1, h.2.2.1, fun a e => Nat.le_trans hk.size (h.2.2.2 a e)⟩
end Go.Proofs.YthkdlaohaekilaaDoor.OctetBytes
