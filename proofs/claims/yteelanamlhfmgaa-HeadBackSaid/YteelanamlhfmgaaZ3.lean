/-
  Texts of the claim, put into one file: Sha.
-/
import Derived.Laws.BitsAll
import Derived.Laws.Bits64

namespace Go.Proofs.Yteelanamlhfmgaa.Sha
open Go

/-- A word, and a byte, as the numbers that stand in memory. -/
def u (x : BitVec 32) : Int := (x.toNat : Int)
def b8 (x : BitVec 8) : Int := (x.toNat : Int)
theorem b8_nonneg (x : BitVec 8) : 0 ≤ b8 x := by unfold b8; omega
theorem b8_lt (x : BitVec 8) : b8 x < 256 := by unfold b8; have := x.isLt; omega
/-- A turn to the right. -/
def rot (x : BitVec 32) (n : Nat) : BitVec 32 := x >>> n ||| x <<< (32 - n)
/-- A byte as a word. -/
def z (c : BitVec 8) : BitVec 32 := BitVec.ofNat 32 c.toNat
/-- A byte out of a word. -/
def byteOf (x : BitVec 32) (n : Nat) : BitVec 8 := BitVec.ofNat 8 (x.toNat / 2 ^ n)
/-- Four bytes as a word. -/
def word (c0 c1 c2 c3 : BitVec 8) : BitVec 32 := z c0 <<< 24 ||| z c1 <<< 16 ||| z c2 <<< 8 ||| z c3
/-! ### The schedule and the rounds -/
def s1 (x : BitVec 32) : BitVec 32 := rot x 17 ^^^ rot x 19 ^^^ x >>> 10
structure St where
  a : BitVec 32
  b : BitVec 32
  c : BitVec 32
  d : BitVec 32
  e : BitVec 32
  f : BitVec 32
  g : BitVec 32
  h : BitVec 32

def St.get (s : St) : Nat → BitVec 32
  | 0 => s.a
  | 1 => s.b
  | 2 => s.c
  | 3 => s.d
  | 4 => s.e
  | 5 => s.f
  | 6 => s.g
  | _ => s.h

def big1 (e : BitVec 32) : BitVec 32 := rot e 6 ^^^ rot e 11 ^^^ rot e 25
def big0 (a : BitVec 32) : BitVec 32 := rot a 2 ^^^ rot a 13 ^^^ rot a 22
def ch (e f g : BitVec 32) : BitVec 32 := e &&& f ^^^ ~~~e &&& g
def maj (a b c : BitVec 32) : BitVec 32 := a &&& b ^^^ a &&& c ^^^ b &&& c
def t1 (k w : BitVec 32) (s : St) : BitVec 32 := s.h + big1 s.e + ch s.e s.f s.g + k + w
def t2 (s : St) : BitVec 32 := big0 s.a + maj s.a s.b s.c
def step (k w : BitVec 32) (s : St) : St := ⟨t1 k w s + t2 s, s.a, s.b, s.c, s.d + t1 k w s, s.e, s.f, s.g⟩

/-- The numbers k(0) to k(63), and the first state. -/
def Ktab : List Nat := [1116352408, 1899447441, 3049323471, 3921009573, 961987163, 1508970993, 2453635748, 2870763221, 3624381080, 310598401, 607225278, 1426881987, 1925078388, 2162078206, 2614888103, 3248222580, 3835390401, 4022224774, 264347078, 604807628, 770255983, 1249150122, 1555081692, 1996064986, 2554220882, 2821834349, 2952996808, 3210313671, 3336571891, 3584528711, 113926993, 338241895, 666307205, 773529912, 1294757372, 1396182291, 1695183700, 1986661051, 2177026350, 2456956037, 2730485921, 2820302411, 3259730800, 3345764771, 3516065817, 3600352804, 4094571909, 275423344, 430227734, 506948616, 659060556, 883997877, 958139571, 1322822218, 1537002063, 1747873779, 1955562222, 2024104815, 2227730452, 2361852424, 2428436474, 2756734187, 3204031479, 3329325298]
def K (t : Nat) : BitVec 32 := BitVec.ofNat 32 (Ktab.getD t 0)
/-! ### A text, block by block -/
abbrev Text := List (BitVec 8)
def whole (n : Nat) : Nat := (n + 72) / 64 * 64
/-- A state as bytes. -/
def bytesOf (s : St) : Text := (List.range 32).map fun i => byteOf (s.get (i / 4)) (24 - 8 * (i % 4))
end Go.Proofs.Yteelanamlhfmgaa.Sha
