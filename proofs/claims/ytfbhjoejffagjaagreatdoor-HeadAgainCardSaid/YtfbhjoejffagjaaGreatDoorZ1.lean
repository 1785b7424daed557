/-
  Texts of the claim, put into one file: Sha.
-/
import Derived.Laws.BitsAll
import Derived.Laws.Bits64

namespace Go.Proofs.YtfbhjoejffagjaaGreatDoor.Sha
open Go

def u (x : BitVec 32) : Int := (x.toNat : Int)
def b8 (x : BitVec 8) : Int := (x.toNat : Int)
theorem u_nonneg (x : BitVec 32) : 0 ≤ u x := by unfold u; omega
theorem u_lt (x : BitVec 32) : u x < 4294967296 := by unfold u; have := x.isLt; omega
theorem b8_nonneg (x : BitVec 8) : 0 ≤ b8 x := by unfold b8; omega
theorem b8_lt (x : BitVec 8) : b8 x < 256 := by unfold b8; have := x.isLt; omega
theorem b8_inj {x y : BitVec 8} (h : b8 x = b8 y) : x = y := by unfold b8 at h; exact BitVec.eq_of_toNat_eq (by omega)

theorem ofInt_u (x : BitVec 32) : BitVec.ofInt 32 (u x) = x := by
 unfold u
 apply BitVec.eq_of_toNat_eq
 rw [BitVec.ofInt_natCast, BitVec.toNat_ofNat]
 exact Nat.mod_eq_of_lt x.isLt
theorem wrap_u32 (n : Int) : IntKind.u32.wrap n = n % 4294967296 := by simp [IntKind.wrap, IntKind.bits, IntKind.signed]
theorem wrap_u (x : BitVec 32) : IntKind.u32.wrap ((x.toNat : Nat) : Int) = u x := by
 rw [wrap_u32]
 unfold u
 have := x.isLt
 omega
theorem or_u (x y : BitVec 32) : bits .or .u32 (u x) (u y) = u (x ||| y) := by
 show IntKind.u32.wrap ((BitVec.ofInt 32 (u x) ||| BitVec.ofInt 32 (u y)).toNat : Int) = _
 rw [ofInt_u, ofInt_u, wrap_u]
theorem and_u (x y : BitVec 32) : bits .and .u32 (u x) (u y) = u (x &&& y) := by
 show IntKind.u32.wrap ((BitVec.ofInt 32 (u x) &&& BitVec.ofInt 32 (u y)).toNat : Int) = _
 rw [ofInt_u, ofInt_u, wrap_u]
theorem xor_u (x y : BitVec 32) : bits .xor .u32 (u x) (u y) = u (x ^^^ y) := by
 show IntKind.u32.wrap ((BitVec.ofInt 32 (u x) ^^^ BitVec.ofInt 32 (u y)).toNat : Int) = _
 rw [ofInt_u, ofInt_u, wrap_u]
theorem add_u (x y : BitVec 32) : (u x + u y) % 4294967296 = u (x + y) := by
 unfold u
 rw [BitVec.toNat_add]
 omega
theorem shr_u (x : BitVec 32) (n : Nat) : u x / 2 ^ n = u (x >>> n) := by
 unfold u
 rw [BitVec.toNat_ushiftRight, Nat.shiftRight_eq_div_pow]
 simp
theorem shl_u (x : BitVec 32) (n : Nat) : u x * 2 ^ n % 4294967296 = u (x <<< n) := by
 unfold u
 rw [BitVec.toNat_shiftLeft, Nat.shiftLeft_eq]
 simp
theorem not_xor (x : BitVec 32) : bits .xor .u32 (if IntKind.u32.signed = true then -1 else IntKind.u32.max) (u x) = u (~~~x) := by
 have h : (if IntKind.u32.signed = true then (-1 : Int) else IntKind.u32.max) = u (BitVec.allOnes 32) := by decide
 rw [h, xor_u, BitVec.allOnes_xor]

def rot (x : BitVec 32) (n : Nat) : BitVec 32 := x >>> n ||| x <<< (32 - n)
theorem rot_u (x : BitVec 32) (n : Nat) : bits .or .u32 (u x / 2 ^ n) (u x * 2 ^ (32 - n) % 4294967296) = u (rot x n) := by
 rw [shr_u, shl_u, or_u]
 rfl

def z (c : BitVec 8) : BitVec 32 := BitVec.ofNat 32 c.toNat
theorem u_z (c : BitVec 8) : u (z c) = b8 c := by
 unfold u z b8
 rw [BitVec.toNat_ofNat]
 have := c.isLt
 omega
def byteOf (x : BitVec 32) (n : Nat) : BitVec 8 := BitVec.ofNat 8 (x.toNat / 2 ^ n)
theorem u_byte (x : BitVec 32) (n : Nat) : u x / 2 ^ n % 256 = b8 (byteOf x n) := by
 unfold u b8 byteOf
 rw [BitVec.toNat_ofNat]
 simp

def word (c0 c1 c2 c3 : BitVec 8) : BitVec 32 := z c0 <<< 24 ||| z c1 <<< 16 ||| z c2 <<< 8 ||| z c3
theorem word_u (c0 c1 c2 c3 : BitVec 8) :
  bits .or .u32 (bits .or .u32 (bits .or .u32 (b8 c0 * 16777216) (b8 c1 * 65536)) (b8 c2 * 256)) (b8 c3) = u (word c0 c1 c2 c3) := by
 have hm : ∀ (c : BitVec 8) (n : Nat), n ≤ 24 → b8 c * 2 ^ n = u (z c <<< n) := by
  intro c n hn
  rw [← shl_u, u_z]
  have h0 := b8_nonneg c
  have h1 := b8_lt c
  have h2 : (2 : Int) ^ n ≤ 16777216 := by
   have : (2 : Nat) ^ n ≤ 2 ^ 24 := Nat.pow_le_pow_right (by decide) hn
   have h24 : (2 : Nat) ^ 24 = 16777216 := by decide
   have : ((2 ^ n : Nat) : Int) ≤ 16777216 := by omega
   simpa using this
  have h3 : (0 : Int) < 2 ^ n := by
   have := Nat.two_pow_pos n
   have : (0 : Int) < ((2 ^ n : Nat) : Int) := by omega
   simpa using this
  rw [Int.emod_eq_of_lt]
  ·exact Int.mul_nonneg h0 (by omega)
  ·have : b8 c * 2 ^ n ≤ 255 * 16777216 := Int.mul_le_mul (by omega) h2 (by omega) (by omega)
   omega
 have e0 := hm c0 24 (by omega)
 have e1 := hm c1 16 (by omega)
 have e2 := hm c2 8 (by omega)
 have p24 : (2 : Int) ^ 24 = 16777216 := by decide
 have p16 : (2 : Int) ^ 16 = 65536 := by decide
 have p8 : (2 : Int) ^ 8 = 256 := by decide
 rw [p24] at e0
 rw [p16] at e1
 rw [p8] at e2
 rw [e0, e1, e2, ← u_z c3, or_u, or_u, or_u]
 rfl

theorem wrap_b8 (c : BitVec 8) : IntKind.u32.wrap (b8 c) = b8 c := by
 rw [wrap_u32]; have := b8_nonneg c; have := b8_lt c; omega
theorem wrap_b8_24 (c : BitVec 8) : IntKind.u32.wrap (b8 c * 16777216) = b8 c * 16777216 := by
 rw [wrap_u32]; have := b8_nonneg c; have := b8_lt c; omega
theorem wrap_b8_16 (c : BitVec 8) : IntKind.u32.wrap (b8 c * 65536) = b8 c * 65536 := by
 rw [wrap_u32]; have := b8_nonneg c; have := b8_lt c; omega
theorem wrap_b8_8 (c : BitVec 8) : IntKind.u32.wrap (b8 c * 256) = b8 c * 256 := by
 rw [wrap_u32]; have := b8_nonneg c; have := b8_lt c; omega
theorem wadd_u (x y : BitVec 32) : IntKind.u32.wrap (u x + u y) = u (x + y) := by rw [wrap_u32, add_u]

def pushByte (x : BitVec 32) (c : BitVec 8) : BitVec 32 := x <<< 8 ||| z c
theorem push_u (x : BitVec 32) (c : BitVec 8) : bits .or .u32 (u x * 256 % 4294967296) (b8 c) = u (pushByte x c) := by
 have e := shl_u x 8
 have p8 : (2 : Int) ^ 8 = 256 := by decide
 rw [p8] at e
 rw [e, ← u_z c, or_u]
 rfl
theorem push4 (c0 c1 c2 c3 : BitVec 8) : pushByte (pushByte (pushByte (pushByte 0 c0) c1) c2) c3 = word c0 c1 c2 c3 := by
 have h0 : ∀ n : Nat, (0 : BitVec 32) <<< n = 0 := by
  intro n
  apply BitVec.eq_of_toNat_eq
  simp
 have h1 : ∀ x : BitVec 32, 0 ||| x = x := by
  intro x
  apply BitVec.eq_of_toNat_eq
  simp
 unfold pushByte word
 simp only [BitVec.shiftLeft_or_distrib, ← BitVec.shiftLeft_add, h0, h1]

/-! ### The schedule and the rounds -/
def s0 (x : BitVec 32) : BitVec 32 := rot x 7 ^^^ rot x 18 ^^^ x >>> 3
def s1 (x : BitVec 32) : BitVec 32 := rot x 17 ^^^ rot x 19 ^^^ x >>> 10
def sched (m : Nat → BitVec 32) (t : Nat) : BitVec 32 :=
 if _h : t < 16 then m t else sched m (t - 16) + s0 (sched m (t - 15)) + sched m (t - 7) + s1 (sched m (t - 2))
termination_by t
decreasing_by all_goals omega
theorem sched_lo (m : Nat → BitVec 32) {t : Nat} (h : t < 16) : sched m t = m t := by rw [sched, dif_pos h]
theorem sched_hi (m : Nat → BitVec 32) {t : Nat} (h : 16 ≤ t) : sched m t = sched m (t - 16) + s0 (sched m (t - 15)) + sched m (t - 7) + s1 (sched m (t - 2)) := by rw [sched, dif_neg (by omega)]

structure St where
 a : BitVec 32
 b : BitVec 32
 c : BitVec 32
 d : BitVec 32
 e : BitVec 32
 f : BitVec 32
 g : BitVec 32
 h : BitVec 32

def St.get (s : St) : Nat → BitVec 32
 | 0 => s.a
 | 1 => s.b
 | 2 => s.c
 | 3 => s.d
 | 4 => s.e
 | 5 => s.f
 | 6 => s.g
 | _ => s.h

def big1 (e : BitVec 32) : BitVec 32 := rot e 6 ^^^ rot e 11 ^^^ rot e 25
def big0 (a : BitVec 32) : BitVec 32 := rot a 2 ^^^ rot a 13 ^^^ rot a 22
def ch (e f g : BitVec 32) : BitVec 32 := e &&& f ^^^ ~~~e &&& g
def maj (a b c : BitVec 32) : BitVec 32 := a &&& b ^^^ a &&& c ^^^ b &&& c
theorem ch_eq (e f g : BitVec 32) : ch e f g = (e &&& f) ^^^ (~~~e &&& g) := rfl
theorem maj_eq (a b c : BitVec 32) : maj a b c = ((a &&& b) ^^^ (a &&& c)) ^^^ (b &&& c) := rfl
theorem ch_ref (e f g : BitVec 32) : g ^^^ (e &&& (f ^^^ g)) = ch e f g := by
 rw [ch_eq]
 ext i hi
 simp only [BitVec.getElem_xor, BitVec.getElem_and, BitVec.getElem_not]
 cases e[i] <;> cases f[i] <;> cases g[i] <;> rfl
theorem maj_ref (a b c : BitVec 32) : (a &&& b) ||| (c &&& (a ||| b)) = maj a b c := by
 rw [maj_eq]
 ext i hi
 simp only [BitVec.getElem_xor, BitVec.getElem_and, BitVec.getElem_or]
 cases a[i] <;> cases b[i] <;> cases c[i] <;> rfl

def t1 (k w : BitVec 32) (s : St) : BitVec 32 := s.h + big1 s.e + ch s.e s.f s.g + k + w
def t2 (s : St) : BitVec 32 := big0 s.a + maj s.a s.b s.c
def step (k w : BitVec 32) (s : St) : St := ⟨t1 k w s + t2 s, s.a, s.b, s.c, s.d + t1 k w s, s.e, s.f, s.g⟩

def Ktab : List Nat := [1116352408, 1899447441, 3049323471, 3921009573, 961987163, 1508970993, 2453635748, 2870763221, 3624381080, 310598401, 607225278, 1426881987, 1925078388, 2162078206, 2614888103, 3248222580, 3835390401, 4022224774, 264347078, 604807628, 770255983, 1249150122, 1555081692, 1996064986, 2554220882, 2821834349, 2952996808, 3210313671, 3336571891, 3584528711, 113926993, 338241895, 666307205, 773529912, 1294757372, 1396182291, 1695183700, 1986661051, 2177026350, 2456956037, 2730485921, 2820302411, 3259730800, 3345764771, 3516065817, 3600352804, 4094571909, 275423344, 430227734, 506948616, 659060556, 883997877, 958139571, 1322822218, 1537002063, 1747873779, 1955562222, 2024104815, 2227730452, 2361852424, 2428436474, 2756734187, 3204031479, 3329325298]
def Htab : List Nat := [1779033703, 3144134277, 1013904242, 2773480762, 1359893119, 2600822924, 528734635, 1541459225]
def K (t : Nat) : BitVec 32 := BitVec.ofNat 32 (Ktab.getD t 0)
def init : St := ⟨BitVec.ofNat 32 1779033703, BitVec.ofNat 32 3144134277, BitVec.ofNat 32 1013904242, BitVec.ofNat 32 2773480762, BitVec.ofNat 32 1359893119, BitVec.ofNat 32 2600822924, BitVec.ofNat 32 528734635, BitVec.ofNat 32 1541459225⟩

def rnd (m : Nat → BitVec 32) (s : St) : Nat → St
 | 0 => s
 | t + 1 => step (K t) (sched m t) (rnd m s t)
def comp (s : St) (m : Nat → BitVec 32) : St :=
 ⟨s.a + (rnd m s 64).a, s.b + (rnd m s 64).b, s.c + (rnd m s 64).c, s.d + (rnd m s 64).d, s.e + (rnd m s 64).e, s.f + (rnd m s 64).f, s.g + (rnd m s 64).g, s.h + (rnd m s 64).h⟩
theorem comp_get (s : St) (m : Nat → BitVec 32) (i : Nat) : (comp s m).get i = s.get i + (rnd m s 64).get i := by
 unfold comp St.get
 split <;> rfl

/-! ### A text, block by block -/
abbrev Text := List (BitVec 8)
def mOf (l : Text) (k t : Nat) : BitVec 32 := word (l.getD (64 * k + 4 * t) 0) (l.getD (64 * k + 4 * t + 1) 0) (l.getD (64 * k + 4 * t + 2) 0) (l.getD (64 * k + 4 * t + 3) 0)
def fold (l : Text) : Nat → St
 | 0 => init
 | n + 1 => comp (fold l n) (mOf l n)
theorem sched_congr {m m' : Nat → BitVec 32} (h : ∀ t, t < 16 → m t = m' t) (t : Nat) : sched m t = sched m' t := by
 induction t using Nat.strongRecOn with
 | _ t ih =>
  by_cases ht : t < 16
  ·rw [sched_lo m ht, sched_lo m' ht, h t ht]
  ·rw [sched_hi m (by omega), sched_hi m' (by omega), ih (t - 16) (by omega), ih (t - 15) (by omega), ih (t - 7) (by omega), ih (t - 2) (by omega)]
theorem rnd_congr {m m' : Nat → BitVec 32} (h : ∀ t, t < 16 → m t = m' t) (s : St) (t : Nat) : rnd m s t = rnd m' s t := by
 induction t with
 | zero => rfl
 | succ t ih => rw [rnd, rnd, ih, sched_congr h]
theorem comp_congr {m m' : Nat → BitVec 32} (h : ∀ t, t < 16 → m t = m' t) (s : St) : comp s m = comp s m' := by
 unfold comp
 rw [rnd_congr h]
theorem getD_left (l r : Text) (i : Nat) (h : i < l.length) : (l ++ r).getD i 0 = l.getD i 0 := by
 simp only [List.getD, List.getElem?_append_left h]
theorem getD_right (l r : Text) (i : Nat) (h : l.length ≤ i) : (l ++ r).getD i 0 = r.getD (i - l.length) 0 := by
 simp only [List.getD, List.getElem?_append_right h]
theorem fold_append (l r : Text) : ∀ n, 64 * n ≤ l.length → fold (l ++ r) n = fold l n
 | 0, _ => rfl
 | n + 1, h => by
  rw [fold, fold, fold_append l r n (by omega)]
  refine comp_congr (fun t ht => ?_) _
  unfold mOf
  rw [getD_left _ _ _ (by omega), getD_left _ _ _ (by omega), getD_left _ _ _ (by omega), getD_left _ _ _ (by omega)]

def lenByte (n s : Nat) : BitVec 8 := BitVec.ofNat 8 (8 * n % 18446744073709551616 / 2 ^ s)
def whole (n : Nat) : Nat := (n + 72) / 64 * 64
def padAt (l : Text) (i : Nat) : BitVec 8 :=
 if i < l.length then l.getD i 0 else if i = l.length then 128 else if whole l.length - 8 ≤ i then lenByte l.length (8 * (whole l.length - 1 - i)) else 0
def padded (l : Text) : Text := (List.range (whole l.length)).map (padAt l)
def bytesOf (s : St) : Text := (List.range 32).map fun i => byteOf (s.get (i / 4)) (24 - 8 * (i % 4))
def sum (l : Text) : Text := bytesOf (fold (padded l) (whole l.length / 64))
theorem sum_len (l : Text) : (sum l).length = 32 := by simp [sum, bytesOf]
theorem whole_le (n : Nat) : n + 9 ≤ whole n ∧ whole n ≤ n + 72 ∧ whole n % 64 = 0 := by unfold whole; omega

def endOf (n k : Nat) : Text := [128] ++ List.replicate (k - 1) 0 ++ (List.range 8).map fun i => lenByte n (56 - 8 * i)
theorem endOf_len (n k : Nat) (hk : 1 ≤ k) : (endOf n k).length = k + 8 := by simp [endOf]; omega
theorem endOf_eq (l : Text) (k : Nat) (h1 : 1 ≤ k) (h2 : k ≤ 64) (h3 : (l.length + k) % 64 = 56) : l ++ endOf l.length k = padded l := by
 have hw : whole l.length = l.length + k + 8 := by unfold whole; omega
 apply List.ext_getElem?
 intro i
 unfold padded
 by_cases hi : i < whole l.length
 ·rw [List.getElem?_map, List.getElem?_range hi]
  simp only [Option.map_some]
  unfold padAt
  by_cases c1 : i < l.length
  ·rw [if_pos c1, List.getElem?_append_left c1]
   simp [List.getD, c1]
  ·rw [if_neg c1, List.getElem?_append_right (by omega)]
   unfold endOf
   by_cases c2 : i = l.length
   ·rw [if_pos c2]
    subst c2
    simp
   ·rw [if_neg c2]
    by_cases c3 : whole l.length - 8 ≤ i
    ·rw [if_pos c3, List.getElem?_append_right (by simp; omega)]
     simp only [List.length_append, List.length_singleton, List.length_replicate]
     rw [List.getElem?_map, List.getElem?_range (by omega)]
     simp only [Option.map_some, Option.some.injEq]
     congr 1
     omega
    ·rw [if_neg c3, List.getElem?_append_left (by simp; omega), List.getElem?_append_right (by simp; omega)]
     rw [List.getElem?_replicate, if_pos (by simp; omega)]
 ·rw [List.getElem?_eq_none (by simp [endOf]; omega), List.getElem?_eq_none (by simp; omega)]
end Go.Proofs.YtfbhjoejffagjaaGreatDoor.Sha
