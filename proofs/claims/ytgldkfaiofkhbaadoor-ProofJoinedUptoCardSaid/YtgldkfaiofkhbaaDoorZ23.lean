/-
  Texts of the claim, put into one file: IdxDec, DecIdx, DecIdx2, ReadIdx0, ReadIdx.
-/
import Derived.Test.YtgldkfaiofkhbaaDoorZ22
import Derived.Test.YtgldkfaiofkhbaaDoorZ16
import Derived.Test.YtgldkfaiofkhbaaDoorZ21
import Derived.Test.YtgldkfaiofkhbaaDoorZ20
import Derived.Test.YtgldkfaiofkhbaaDoorZ19
import Derived.Test.YtgldkfaiofkhbaaDoorZ17
import Derived.Test.YtgldkfaiofkhbaaDoorZ18
import Derived.Test.YtgldkfaiofkhbaaDoorZ4

namespace Go.Proofs.YtgldkfaiofkhbaaDoor.IdxDec
open Go Go.RowKit Go.Proofs.YtgldkfaiofkhbaaDoor Go.Proofs.YtgldkfaiofkhbaaDoor.Mem Go.Proofs.YtgldkfaiofkhbaaDoor.Sha Go.Proofs.YtgldkfaiofkhbaaDoor.Bytes Go.Proofs.YtgldkfaiofkhbaaDoor.Append Go.Proofs.YtgldkfaiofkhbaaDoor.Octet Go.Proofs.YtgldkfaiofkhbaaDoor.TreeMath Go.Proofs.YtgldkfaiofkhbaaDoor.TreeMem Go.Proofs.YtgldkfaiofkhbaaDoor.Reader Go.Proofs.YtgldkfaiofkhbaaDoor.Reader2 Go.Proofs.YtgldkfaiofkhbaaDoor.Reader4 Go.Proofs.YtgldkfaiofkhbaaDoor.ProofBeside Go.Proofs.YtgldkfaiofkhbaaDoor.ProofEnc Go.Proofs.YtgldkfaiofkhbaaDoor.ProofIdx Go.Proofs.YtgldkfaiofkhbaaDoor.ProofIdx2 Go.Proofs.YtgldkfaiofkhbaaDoor.ProofIdx3 Go.Proofs.YtgldkfaiofkhbaaDoor.DecIncl Go.Proofs.YtgldkfaiofkhbaaDoor.StructEq Go.Proofs.YtgldkfaiofkhbaaDoor.IdxAny Go.Proofs.YtgldkfaiofkhbaaDoor.IdxEnc Go.Proofs.YtgldkfaiofkhbaaDoor.IdxMem Go.Proofs.YtgldkfaiofkhbaaDoor.Flag Go.Proofs.YtgldkfaiofkhbaaDoor.ReadIncl

/-- The name's length, the name, the flag, the count, the chain, where the bitmap begins, the bitmap. -/
def ixL (q : Text) : Nat := (q.getD 1 0).toNat
def ixS (q : Text) : Text := (q.drop 2).take (ixL q)
def ixF (q : Text) : Bool := b8 (q.getD (2 + ixL q) 0) == 1
def ixC (q : Text) : Nat := if ixF q = true then num ((q.drop (3 + ixL q)).take 8) else 0
def ixH (q : Text) : Text := if ixF q = true then (q.drop (11 + ixL q)).take 32 else z32
def ixO (q : Text) : Nat := if ixF q = true then 43 + ixL q else 3 + ixL q
def ixD (q : Text) : Text := (q.drop (ixO q)).take 32
def ixN (q : Text) : Nat := onesOf (ixD q)
/-- Are these bytes what an index says of a name? -/
def ixOk (q : Text) : Prop := q.getD 0 0 = 50 ∧ b8 (q.getD (2 + ixL q) 0) ≤ 1 ∧ q.length = ixO q + 32 + 32 * ixN q ∧ okIx (strT (ixS q)) (ixF q) (ixC q : Int) (ixH q) (ixD q) (ixN q) = true
instance (q : Text) : Decidable (ixOk q) := by unfold ixOk; infer_instance
abbrev Ans := ByteArray × Bool × Int × Text × Text × List Text × Int
theorem ixO_ge (q : Text) : 3 + ixL q ≤ ixO q := by unfold ixO; split <;> omega

section
variable {q : Text}
end

/-! ### The document's reader: it reads whatever there is, lays it down and compares -/
/-- What it read. -/
structure Got (q : Text) (x : Nat) (p : Text) (f : Bool) (cnt : Int) (ch d : Text) (l : List Text) : Prop where
  x1 : 2 ≤ q.length → x = (q.getD 1 0).toNat
  p1 : 2 ≤ q.length → 2 + x ≤ q.length → p = (q.drop 2).take x
  p2 : 2 ≤ q.length → q.length < 2 + x → p = []
  f1 : 3 + x ≤ q.length → f = (b8 (q.getD (2 + x) 0) == 1)
  c1 : f = true → 11 + x ≤ q.length → cnt = lgInt (num ((q.drop (3 + x)).take 8))
  h1 : f = true → 43 + x ≤ q.length → ch = (q.drop (11 + x)).take 32
  c0 : f = false → cnt = 0
  h0 : f = false → ch = z32
  d1 : (if f = true then 43 + x else 3 + x) + 32 ≤ q.length → d = (q.drop (if f = true then 43 + x else 3 + x)).take 32
  l1 : (if f = true then 43 + x else 3 + x) + 32 + 32 * onesOf d ≤ q.length → l = chunks (q.drop ((if f = true then 43 + x else 3 + x) + 32)) (onesOf d)
  lh : ch.length = 32
  ld : d.length = 32
  ll : Digs l
section
variable {q p ch d : Text} {x : Nat} {f : Bool} {cnt : Int} {l : List Text}
/-- In range: what was read is what the plain word says. -/
theorem Got.all (g : Got q x p f cnt ch d l) (h : ixO q + 32 + 32 * ixN q ≤ q.length) : x = ixL q ∧ p = ixS q ∧ f = ixF q ∧ cnt = lgInt (ixC q) ∧ ch = ixH q ∧ d = ixD q ∧ l = chunks (q.drop (ixO q + 32)) (ixN q) := by
  have hO := ixO_ge q
  have ex : x = ixL q := g.x1 (by omega)
  subst ex
  have ep : p = ixS q := g.p1 (by omega) (by omega)
  have ef : f = ixF q := g.f1 (by omega)
  subst ef
  have eo : (if ixF q = true then 43 + ixL q else 3 + ixL q) = ixO q := rfl
  have ed : d = ixD q := by rw [g.d1 (by rw [eo]; omega)]; rfl
  have hc : cnt = lgInt (ixC q) := by
    unfold ixC
    by_cases hf : ixF q = true
    · rw [if_pos hf]
      exact g.c1 hf (by rw [if_pos hf] at eo; omega)
    · rw [if_neg hf, g.c0 (by simpa using hf), lgInt_le (by omega)]; rfl
  have hh : ch = ixH q := by
    unfold ixH
    by_cases hf : ixF q = true
    · rw [if_pos hf]
      exact g.h1 hf (by rw [if_pos hf] at eo; omega)
    · rw [if_neg hf, g.h0 (by simpa using hf)]
  have en : onesOf d = ixN q := by rw [ed]; rfl
  refine ⟨rfl, ep, rfl, hc, hh, ed, ?_⟩
  have := g.l1 (by rw [eo, en]; omega)
  rw [eo, en] at this
  exact this
end
end Go.Proofs.YtgldkfaiofkhbaaDoor.IdxDec

namespace Go.Proofs.YtgldkfaiofkhbaaDoor.DecIdx
open Go Go.RowKit Go.Proofs.YtgldkfaiofkhbaaDoor Go.Proofs.YtgldkfaiofkhbaaDoor.Mem Go.Proofs.YtgldkfaiofkhbaaDoor.Sha Go.Proofs.YtgldkfaiofkhbaaDoor.Bytes Go.Proofs.YtgldkfaiofkhbaaDoor.TreeMath Go.Proofs.YtgldkfaiofkhbaaDoor.Sides Go.Proofs.YtgldkfaiofkhbaaDoor.TreeMem Go.Proofs.YtgldkfaiofkhbaaDoor.TreeRoot Go.Proofs.YtgldkfaiofkhbaaDoor.Held Go.Proofs.YtgldkfaiofkhbaaDoor.Reader Go.Proofs.YtgldkfaiofkhbaaDoor.Reader2 Go.Proofs.YtgldkfaiofkhbaaDoor.Reader3 Go.Proofs.YtgldkfaiofkhbaaDoor.Reader4 Go.Proofs.YtgldkfaiofkhbaaDoor.ProofIdx3 Go.Proofs.YtgldkfaiofkhbaaDoor.StructEq Go.Proofs.YtgldkfaiofkhbaaDoor.DecIdx0 Go.Proofs.YtgldkfaiofkhbaaDoor.IdxMem

end Go.Proofs.YtgldkfaiofkhbaaDoor.DecIdx

namespace Go.Proofs.YtgldkfaiofkhbaaDoor.DecIdx2
open Go Go.RowKit Go.Proofs.YtgldkfaiofkhbaaDoor Go.Proofs.YtgldkfaiofkhbaaDoor.Mem Go.Proofs.YtgldkfaiofkhbaaDoor.Sha Go.Proofs.YtgldkfaiofkhbaaDoor.Bytes Go.Proofs.YtgldkfaiofkhbaaDoor.TreeMath Go.Proofs.YtgldkfaiofkhbaaDoor.Sides Go.Proofs.YtgldkfaiofkhbaaDoor.TreeMem Go.Proofs.YtgldkfaiofkhbaaDoor.TreeRoot Go.Proofs.YtgldkfaiofkhbaaDoor.Held Go.Proofs.YtgldkfaiofkhbaaDoor.Reader Go.Proofs.YtgldkfaiofkhbaaDoor.Reader2 Go.Proofs.YtgldkfaiofkhbaaDoor.Reader3 Go.Proofs.YtgldkfaiofkhbaaDoor.Reader4 Go.Proofs.YtgldkfaiofkhbaaDoor.ProofIdx3 Go.Proofs.YtgldkfaiofkhbaaDoor.StructEq Go.Proofs.YtgldkfaiofkhbaaDoor.DecIdx0 Go.Proofs.YtgldkfaiofkhbaaDoor.IdxMem Go.Proofs.YtgldkfaiofkhbaaDoor.DecIdx Go.Proofs.YtgldkfaiofkhbaaDoor.Flag Go.Proofs.YtgldkfaiofkhbaaDoor.Reader5 Go.Proofs.YtgldkfaiofkhbaaDoor.DecIncl Go.Proofs.YtgldkfaiofkhbaaDoor.IdxBuild Go.Proofs.YtgldkfaiofkhbaaDoor.Book Go.Proofs.YtgldkfaiofkhbaaDoor.Guard Go.Proofs.YtgldkfaiofkhbaaDoor.ProofIdx Go.Proofs.YtgldkfaiofkhbaaDoor.IdxAny Go.Proofs.YtgldkfaiofkhbaaDoor.Reader6 Go.Proofs.YtgldkfaiofkhbaaDoor.IdxDec

theorem cells8_one {t : Text} (v : Value) (hv : v ∈ cells8 t) : v.oneCell' = true := by
  unfold cells8 at hv
  obtain ⟨x, -, rfl⟩ := List.mem_map.1 hv
  rfl
theorem Rd.apart {w : World} {g need c : Nat} {q : Text} {A : Option Addr} (h : Rd w g q A c need) : 0 < q.length → ∀ b o, A = some ⟨b, o, none⟩ → b < w.heap.size := by
  obtain ⟨at_, why, hb, hr, h1⟩ := h
  intro hp b o e
  obtain ⟨b', o', e', hlt, _⟩ := hr.2 (by omega)
  rw [e] at e'
  injection e' with e'
  injection e' with e1
  subst e1
  exact hlt
end Go.Proofs.YtgldkfaiofkhbaaDoor.DecIdx2

namespace Go.Proofs.YtgldkfaiofkhbaaDoor.ReadIdx0
open Go Go.RowKit Go.Proofs.YtgldkfaiofkhbaaDoor Go.Proofs.YtgldkfaiofkhbaaDoor.Mem Go.Proofs.YtgldkfaiofkhbaaDoor.Sha Go.Proofs.YtgldkfaiofkhbaaDoor.Bytes Go.Proofs.YtgldkfaiofkhbaaDoor.Append Go.Proofs.YtgldkfaiofkhbaaDoor.Octet Go.Proofs.YtgldkfaiofkhbaaDoor.TreeMath Go.Proofs.YtgldkfaiofkhbaaDoor.TreeMem Go.Proofs.YtgldkfaiofkhbaaDoor.TreeRoot Go.Proofs.YtgldkfaiofkhbaaDoor.Held Go.Proofs.YtgldkfaiofkhbaaDoor.Own Go.Proofs.YtgldkfaiofkhbaaDoor.Reader Go.Proofs.YtgldkfaiofkhbaaDoor.Reader4 Go.Proofs.YtgldkfaiofkhbaaDoor.DecIncl Go.Proofs.YtgldkfaiofkhbaaDoor.DecIncl2 Go.Proofs.YtgldkfaiofkhbaaDoor.Bytes17 Go.Proofs.YtgldkfaiofkhbaaDoor.Way17 Go.Proofs.YtgldkfaiofkhbaaDoor.ReadIncl

end Go.Proofs.YtgldkfaiofkhbaaDoor.ReadIdx0

namespace Go.Proofs.YtgldkfaiofkhbaaDoor.ReadIdx
open Go Go.RowKit Go.Proofs.YtgldkfaiofkhbaaDoor Go.Proofs.YtgldkfaiofkhbaaDoor.Mem Go.Proofs.YtgldkfaiofkhbaaDoor.Sha Go.Proofs.YtgldkfaiofkhbaaDoor.Bytes Go.Proofs.YtgldkfaiofkhbaaDoor.Append Go.Proofs.YtgldkfaiofkhbaaDoor.Octet Go.Proofs.YtgldkfaiofkhbaaDoor.TreeMath Go.Proofs.YtgldkfaiofkhbaaDoor.TreeMem Go.Proofs.YtgldkfaiofkhbaaDoor.TreeRoot Go.Proofs.YtgldkfaiofkhbaaDoor.Held Go.Proofs.YtgldkfaiofkhbaaDoor.Own Go.Proofs.YtgldkfaiofkhbaaDoor.Reader Go.Proofs.YtgldkfaiofkhbaaDoor.Reader4 Go.Proofs.YtgldkfaiofkhbaaDoor.ProofBeside Go.Proofs.YtgldkfaiofkhbaaDoor.ProofEnc Go.Proofs.YtgldkfaiofkhbaaDoor.ProofIdx Go.Proofs.YtgldkfaiofkhbaaDoor.ProofIdx2 Go.Proofs.YtgldkfaiofkhbaaDoor.ProofIdx3 Go.Proofs.YtgldkfaiofkhbaaDoor.StructEq Go.Proofs.YtgldkfaiofkhbaaDoor.IdxAny Go.Proofs.YtgldkfaiofkhbaaDoor.IdxEnc Go.Proofs.YtgldkfaiofkhbaaDoor.IdxRef0 Go.Proofs.YtgldkfaiofkhbaaDoor.IdxRef Go.Proofs.YtgldkfaiofkhbaaDoor.IdxRef2 Go.Proofs.YtgldkfaiofkhbaaDoor.IdxMem Go.Proofs.YtgldkfaiofkhbaaDoor.IdxDec Go.Proofs.YtgldkfaiofkhbaaDoor.Flag Go.Proofs.YtgldkfaiofkhbaaDoor.DecIncl Go.Proofs.YtgldkfaiofkhbaaDoor.Bytes17 Go.Proofs.YtgldkfaiofkhbaaDoor.Way17 Go.Proofs.YtgldkfaiofkhbaaDoor.Same17 Go.Proofs.YtgldkfaiofkhbaaDoor.Book Go.Proofs.YtgldkfaiofkhbaaDoor.Guard Go.Proofs.YtgldkfaiofkhbaaDoor.ReadIncl Go.Proofs.YtgldkfaiofkhbaaDoor.ReadIdx0 Go.Proofs.YtgldkfaiofkhbaaDoor.DecIdx Go.Proofs.YtgldkfaiofkhbaaDoor.DecIdx2

end Go.Proofs.YtgldkfaiofkhbaaDoor.ReadIdx
