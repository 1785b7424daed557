/-
  Texts of the claim, put into one file: Sha, TreeMath, Sides, RefSides, Subs.
-/
import Derived.Laws.BitsAll
import Derived.Laws.Bits64

namespace Go.Proofs.YtgldkfaiofkhbaaDoor.Sha
open Go

/-- A word, and a byte, as the numbers that stand in memory. -/
def u (x : BitVec 32) : Int := (x.toNat : Int)
def b8 (x : BitVec 8) : Int := (x.toNat : Int)
theorem u_nonneg (x : BitVec 32) : 0 ≤ u x := by unfold u; omega
theorem u_lt (x : BitVec 32) : u x < 4294967296 := by unfold u; have := x.isLt; omega
theorem b8_nonneg (x : BitVec 8) : 0 ≤ b8 x := by unfold b8; omega
theorem b8_lt (x : BitVec 8) : b8 x < 256 := by unfold b8; have := x.isLt; omega
theorem b8_inj {x y : BitVec 8} (h : b8 x = b8 y) : x = y := by unfold b8 at h; exact BitVec.eq_of_toNat_eq (by omega)

theorem ofInt_u (x : BitVec 32) : BitVec.ofInt 32 (u x) = x := by
  unfold u
  apply BitVec.eq_of_toNat_eq
  rw [BitVec.ofInt_natCast, BitVec.toNat_ofNat]
  exact Nat.mod_eq_of_lt x.isLt
theorem wrap_u32 (n : Int) : IntKind.u32.wrap n = n % 4294967296 := by simp [IntKind.wrap, IntKind.bits, IntKind.signed]
theorem wrap_u (x : BitVec 32) : IntKind.u32.wrap ((x.toNat : Nat) : Int) = u x := by
  rw [wrap_u32]
  unfold u
  have := x.isLt
  omega
theorem or_u (x y : BitVec 32) : bits .or .u32 (u x) (u y) = u (x ||| y) := by
  show IntKind.u32.wrap ((BitVec.ofInt 32 (u x) ||| BitVec.ofInt 32 (u y)).toNat : Int) = _
  rw [ofInt_u, ofInt_u, wrap_u]
theorem and_u (x y : BitVec 32) : bits .and .u32 (u x) (u y) = u (x &&& y) := by
  show IntKind.u32.wrap ((BitVec.ofInt 32 (u x) &&& BitVec.ofInt 32 (u y)).toNat : Int) = _
  rw [ofInt_u, ofInt_u, wrap_u]
theorem xor_u (x y : BitVec 32) : bits .xor .u32 (u x) (u y) = u (x ^^^ y) := by
  show IntKind.u32.wrap ((BitVec.ofInt 32 (u x) ^^^ BitVec.ofInt 32 (u y)).toNat : Int) = _
  rw [ofInt_u, ofInt_u, wrap_u]
theorem add_u (x y : BitVec 32) : (u x + u y) % 4294967296 = u (x + y) := by
  unfold u
  rw [BitVec.toNat_add]
  omega
theorem shr_u (x : BitVec 32) (n : Nat) : u x / 2 ^ n = u (x >>> n) := by
  unfold u
  rw [BitVec.toNat_ushiftRight, Nat.shiftRight_eq_div_pow]
  simp
theorem shl_u (x : BitVec 32) (n : Nat) : u x * 2 ^ n % 4294967296 = u (x <<< n) := by
  unfold u
  rw [BitVec.toNat_shiftLeft, Nat.shiftLeft_eq]
  simp
theorem not_xor (x : BitVec 32) : bits .xor .u32 (if IntKind.u32.signed = true then -1 else IntKind.u32.max) (u x) = u (~~~x) := by
  have h : (if IntKind.u32.signed = true then (-1 : Int) else IntKind.u32.max) = u (BitVec.allOnes 32) := by decide
  rw [h, xor_u, BitVec.allOnes_xor]

/-- A turn to the right. -/
def rot (x : BitVec 32) (n : Nat) : BitVec 32 := x >>> n ||| x <<< (32 - n)
theorem rot_u (x : BitVec 32) (n : Nat) : bits .or .u32 (u x / 2 ^ n) (u x * 2 ^ (32 - n) % 4294967296) = u (rot x n) := by
  rw [shr_u, shl_u, or_u]
  rfl

/-- A byte as a word. -/
def z (c : BitVec 8) : BitVec 32 := BitVec.ofNat 32 c.toNat
theorem u_z (c : BitVec 8) : u (z c) = b8 c := by
  unfold u z b8
  rw [BitVec.toNat_ofNat]
  have := c.isLt
  omega
/-- A byte out of a word. -/
def byteOf (x : BitVec 32) (n : Nat) : BitVec 8 := BitVec.ofNat 8 (x.toNat / 2 ^ n)
theorem u_byte (x : BitVec 32) (n : Nat) : u x / 2 ^ n % 256 = b8 (byteOf x n) := by
  unfold u b8 byteOf
  rw [BitVec.toNat_ofNat]
  simp

/-- Four bytes as a word. -/
def word (c0 c1 c2 c3 : BitVec 8) : BitVec 32 := z c0 <<< 24 ||| z c1 <<< 16 ||| z c2 <<< 8 ||| z c3
theorem word_u (c0 c1 c2 c3 : BitVec 8) :
    bits .or .u32 (bits .or .u32 (bits .or .u32 (b8 c0 * 16777216) (b8 c1 * 65536)) (b8 c2 * 256)) (b8 c3) = u (word c0 c1 c2 c3) := by
  have hm : ∀ (c : BitVec 8) (n : Nat), n ≤ 24 → b8 c * 2 ^ n = u (z c <<< n) := by
    intro c n hn
    rw [← shl_u, u_z]
    have h0 := b8_nonneg c
    have h1 := b8_lt c
    have h2 : (2 : Int) ^ n ≤ 16777216 := by
      have : (2 : Nat) ^ n ≤ 2 ^ 24 := Nat.pow_le_pow_right (by decide) hn
      have h24 : (2 : Nat) ^ 24 = 16777216 := by decide
      have : ((2 ^ n : Nat) : Int) ≤ 16777216 := by omega
      simpa using this
    have h3 : (0 : Int) < 2 ^ n := by
      have := Nat.two_pow_pos n
      have : (0 : Int) < ((2 ^ n : Nat) : Int) := by omega
      simpa using this
    rw [Int.emod_eq_of_lt]
    · exact Int.mul_nonneg h0 (by omega)
    · have : b8 c * 2 ^ n ≤ 255 * 16777216 := Int.mul_le_mul (by omega) h2 (by omega) (by omega)
      omega
  have e0 := hm c0 24 (by omega)
  have e1 := hm c1 16 (by omega)
  have e2 := hm c2 8 (by omega)
  have p24 : (2 : Int) ^ 24 = 16777216 := by decide
  have p16 : (2 : Int) ^ 16 = 65536 := by decide
  have p8 : (2 : Int) ^ 8 = 256 := by decide
  rw [p24] at e0
  rw [p16] at e1
  rw [p8] at e2
  rw [e0, e1, e2, ← u_z c3, or_u, or_u, or_u]
  rfl

theorem wrap_b8 (c : BitVec 8) : IntKind.u32.wrap (b8 c) = b8 c := by
  rw [wrap_u32]; have := b8_nonneg c; have := b8_lt c; omega
theorem wrap_b8_24 (c : BitVec 8) : IntKind.u32.wrap (b8 c * 16777216) = b8 c * 16777216 := by
  rw [wrap_u32]; have := b8_nonneg c; have := b8_lt c; omega
theorem wrap_b8_16 (c : BitVec 8) : IntKind.u32.wrap (b8 c * 65536) = b8 c * 65536 := by
  rw [wrap_u32]; have := b8_nonneg c; have := b8_lt c; omega
theorem wrap_b8_8 (c : BitVec 8) : IntKind.u32.wrap (b8 c * 256) = b8 c * 256 := by
  rw [wrap_u32]; have := b8_nonneg c; have := b8_lt c; omega
theorem wadd_u (x y : BitVec 32) : IntKind.u32.wrap (u x + u y) = u (x + y) := by rw [wrap_u32, add_u]

/-! ### The schedule and the rounds -/
def s0 (x : BitVec 32) : BitVec 32 := rot x 7 ^^^ rot x 18 ^^^ x >>> 3
def s1 (x : BitVec 32) : BitVec 32 := rot x 17 ^^^ rot x 19 ^^^ x >>> 10
/-- The words of the schedule, of the block's sixteen words m. -/
def sched (m : Nat → BitVec 32) (t : Nat) : BitVec 32 :=
  if _h : t < 16 then m t else sched m (t - 16) + s0 (sched m (t - 15)) + sched m (t - 7) + s1 (sched m (t - 2))
termination_by t
decreasing_by all_goals omega
theorem sched_lo (m : Nat → BitVec 32) {t : Nat} (h : t < 16) : sched m t = m t := by rw [sched, dif_pos h]
theorem sched_hi (m : Nat → BitVec 32) {t : Nat} (h : 16 ≤ t) : sched m t = sched m (t - 16) + s0 (sched m (t - 15)) + sched m (t - 7) + s1 (sched m (t - 2)) := by rw [sched, dif_neg (by omega)]

structure St where
  a : BitVec 32
  b : BitVec 32
  c : BitVec 32
  d : BitVec 32
  e : BitVec 32
  f : BitVec 32
  g : BitVec 32
  h : BitVec 32

def St.get (s : St) : Nat → BitVec 32
  | 0 => s.a
  | 1 => s.b
  | 2 => s.c
  | 3 => s.d
  | 4 => s.e
  | 5 => s.f
  | 6 => s.g
  | _ => s.h

def big1 (e : BitVec 32) : BitVec 32 := rot e 6 ^^^ rot e 11 ^^^ rot e 25
def big0 (a : BitVec 32) : BitVec 32 := rot a 2 ^^^ rot a 13 ^^^ rot a 22
def ch (e f g : BitVec 32) : BitVec 32 := e &&& f ^^^ ~~~e &&& g
def maj (a b c : BitVec 32) : BitVec 32 := a &&& b ^^^ a &&& c ^^^ b &&& c
def t1 (k w : BitVec 32) (s : St) : BitVec 32 := s.h + big1 s.e + ch s.e s.f s.g + k + w
def t2 (s : St) : BitVec 32 := big0 s.a + maj s.a s.b s.c
def step (k w : BitVec 32) (s : St) : St := ⟨t1 k w s + t2 s, s.a, s.b, s.c, s.d + t1 k w s, s.e, s.f, s.g⟩

/-- The numbers k(0) to k(63), and the first state. -/
def Ktab : List Nat := [1116352408, 1899447441, 3049323471, 3921009573, 961987163, 1508970993, 2453635748, 2870763221, 3624381080, 310598401, 607225278, 1426881987, 1925078388, 2162078206, 2614888103, 3248222580, 3835390401, 4022224774, 264347078, 604807628, 770255983, 1249150122, 1555081692, 1996064986, 2554220882, 2821834349, 2952996808, 3210313671, 3336571891, 3584528711, 113926993, 338241895, 666307205, 773529912, 1294757372, 1396182291, 1695183700, 1986661051, 2177026350, 2456956037, 2730485921, 2820302411, 3259730800, 3345764771, 3516065817, 3600352804, 4094571909, 275423344, 430227734, 506948616, 659060556, 883997877, 958139571, 1322822218, 1537002063, 1747873779, 1955562222, 2024104815, 2227730452, 2361852424, 2428436474, 2756734187, 3204031479, 3329325298]
def K (t : Nat) : BitVec 32 := BitVec.ofNat 32 (Ktab.getD t 0)
def init : St := ⟨BitVec.ofNat 32 1779033703, BitVec.ofNat 32 3144134277, BitVec.ofNat 32 1013904242, BitVec.ofNat 32 2773480762, BitVec.ofNat 32 1359893119, BitVec.ofNat 32 2600822924, BitVec.ofNat 32 528734635, BitVec.ofNat 32 1541459225⟩

def rnd (m : Nat → BitVec 32) (s : St) : Nat → St
  | 0 => s
  | t + 1 => step (K t) (sched m t) (rnd m s t)
def comp (s : St) (m : Nat → BitVec 32) : St :=
  ⟨s.a + (rnd m s 64).a, s.b + (rnd m s 64).b, s.c + (rnd m s 64).c, s.d + (rnd m s 64).d, s.e + (rnd m s 64).e, s.f + (rnd m s 64).f, s.g + (rnd m s 64).g, s.h + (rnd m s 64).h⟩
theorem comp_get (s : St) (m : Nat → BitVec 32) (i : Nat) : (comp s m).get i = s.get i + (rnd m s 64).get i := by
  unfold comp St.get
  split <;> rfl

/-! ### A text, block by block -/
abbrev Text := List (BitVec 8)
def mOf (l : Text) (k t : Nat) : BitVec 32 := word (l.getD (64 * k + 4 * t) 0) (l.getD (64 * k + 4 * t + 1) 0) (l.getD (64 * k + 4 * t + 2) 0) (l.getD (64 * k + 4 * t + 3) 0)
def fold (l : Text) : Nat → St
  | 0 => init
  | n + 1 => comp (fold l n) (mOf l n)
theorem sched_congr {m m' : Nat → BitVec 32} (h : ∀ t, t < 16 → m t = m' t) (t : Nat) : sched m t = sched m' t := by
  induction t using Nat.strongRecOn with
  | _ t ih =>
    by_cases ht : t < 16
    · rw [sched_lo m ht, sched_lo m' ht, h t ht]
    · rw [sched_hi m (by omega), sched_hi m' (by omega), ih (t - 16) (by omega), ih (t - 15) (by omega), ih (t - 7) (by omega), ih (t - 2) (by omega)]
theorem rnd_congr {m m' : Nat → BitVec 32} (h : ∀ t, t < 16 → m t = m' t) (s : St) (t : Nat) : rnd m s t = rnd m' s t := by
  induction t with
  | zero => rfl
  | succ t ih => rw [rnd, rnd, ih, sched_congr h]
theorem comp_congr {m m' : Nat → BitVec 32} (h : ∀ t, t < 16 → m t = m' t) (s : St) : comp s m = comp s m' := by
  unfold comp
  rw [rnd_congr h]
theorem getD_left (l r : Text) (i : Nat) (h : i < l.length) : (l ++ r).getD i 0 = l.getD i 0 := by
  simp only [List.getD, List.getElem?_append_left h]
theorem getD_right (l r : Text) (i : Nat) (h : l.length ≤ i) : (l ++ r).getD i 0 = r.getD (i - l.length) 0 := by
  simp only [List.getD, List.getElem?_append_right h]
theorem fold_append (l r : Text) : ∀ n, 64 * n ≤ l.length → fold (l ++ r) n = fold l n
  | 0, _ => rfl
  | n + 1, h => by
    rw [fold, fold, fold_append l r n (by omega)]
    refine comp_congr (fun t ht => ?_) _
    unfold mOf
    rw [getD_left _ _ _ (by omega), getD_left _ _ _ (by omega), getD_left _ _ _ (by omega), getD_left _ _ _ (by omega)]

/-- A byte of the length's eight. -/
def lenByte (n s : Nat) : BitVec 8 := BitVec.ofNat 8 (8 * n % 18446744073709551616 / 2 ^ s)
def whole (n : Nat) : Nat := (n + 72) / 64 * 64
/-- The i-th byte of the text that is filled up. -/
def padAt (l : Text) (i : Nat) : BitVec 8 :=
  if i < l.length then l.getD i 0 else if i = l.length then 128 else if whole l.length - 8 ≤ i then lenByte l.length (8 * (whole l.length - 1 - i)) else 0
def padded (l : Text) : Text := (List.range (whole l.length)).map (padAt l)
/-- A state as bytes. -/
def bytesOf (s : St) : Text := (List.range 32).map fun i => byteOf (s.get (i / 4)) (24 - 8 * (i % 4))
def sum (l : Text) : Text := bytesOf (fold (padded l) (whole l.length / 64))
theorem sum_len (l : Text) : (sum l).length = 32 := by simp [sum, bytesOf]
/-- The end that the program lays behind a text. -/
def endOf (n k : Nat) : Text := [128] ++ List.replicate (k - 1) 0 ++ (List.range 8).map fun i => lenByte n (56 - 8 * i)
theorem endOf_len (n k : Nat) (hk : 1 ≤ k) : (endOf n k).length = k + 8 := by simp [endOf]; omega
theorem endOf_eq (l : Text) (k : Nat) (h1 : 1 ≤ k) (h2 : k ≤ 64) (h3 : (l.length + k) % 64 = 56) : l ++ endOf l.length k = padded l := by
  have hw : whole l.length = l.length + k + 8 := by unfold whole; omega
  apply List.ext_getElem?
  intro i
  unfold padded
  by_cases hi : i < whole l.length
  · rw [List.getElem?_map, List.getElem?_range hi]
    simp only [Option.map_some]
    unfold padAt
    by_cases c1 : i < l.length
    · rw [if_pos c1, List.getElem?_append_left c1]
      simp [List.getD, c1]
    · rw [if_neg c1, List.getElem?_append_right (by omega)]
      unfold endOf
      by_cases c2 : i = l.length
      · rw [if_pos c2]
        subst c2
        simp
      · rw [if_neg c2]
        by_cases c3 : whole l.length - 8 ≤ i
        · rw [if_pos c3, List.getElem?_append_right (by simp; omega)]
          simp only [List.length_append, List.length_singleton, List.length_replicate]
          rw [List.getElem?_map, List.getElem?_range (by omega)]
          simp only [Option.map_some, Option.some.injEq]
          congr 1
          omega
        · rw [if_neg c3, List.getElem?_append_left (by simp; omega), List.getElem?_append_right (by simp; omega)]
          rw [List.getElem?_replicate, if_pos (by simp; omega)]
  · rw [List.getElem?_eq_none (by simp [endOf]; omega), List.getElem?_eq_none (by simp; omega)]
end Go.Proofs.YtgldkfaiofkhbaaDoor.Sha

namespace Go.Proofs.YtgldkfaiofkhbaaDoor.TreeMath
open Go Go.Proofs.YtgldkfaiofkhbaaDoor Go.Proofs.YtgldkfaiofkhbaaDoor.Sha

/-- The left subtree's leaves, of n. -/
def half (n : Nat) : Nat := 2 ^ Nat.log2 (n - 1)
theorem half_lt {n : Nat} (h : 2 ≤ n) : half n < n := by
  have := Nat.log2_self_le (n := n - 1) (by omega)
  unfold half
  omega
theorem half_ge (n : Nat) : n ≤ 2 * half n := by
  have : n - 1 < 2 ^ (Nat.log2 (n - 1) + 1) := Nat.lt_log2_self
  unfold half
  rw [Nat.pow_succ] at this
  omega
theorem half_pos (n : Nat) : 0 < half n := Nat.two_pow_pos _
section
variable {α : Type} (nd : α → α → α) (e : α)
/-- The root, the first argument at least the number of leaves. -/
def rootN : Nat → List α → α
  | 0, _ => e
  | f + 1, l => match l with
    | [] => e
    | [x] => x
    | x :: y :: r => nd (rootN f ((x :: y :: r).take (half (x :: y :: r).length))) (rootN f ((x :: y :: r).drop (half (x :: y :: r).length)))
def root (l : List α) : α := rootN nd e l.length l
/-- Neighbours summed in pairs; a last one without a neighbour goes up as it is. -/
def up : List α → List α
  | [] => []
  | [x] => [x]
  | x :: y :: r => nd x y :: up r
/-- The fold from the right. -/
def fold : List α → α
  | [] => e
  | [x] => x
  | x :: y :: r => nd x (fold (y :: r))
end
end Go.Proofs.YtgldkfaiofkhbaaDoor.TreeMath

namespace Go.Proofs.YtgldkfaiofkhbaaDoor.Sides
open Go.Proofs.YtgldkfaiofkhbaaDoor Go.Proofs.YtgldkfaiofkhbaaDoor.TreeMath

/-- From the leaf upwards: does the neighbour stand to the right? The first argument is at least the size. -/
def sidesN : Nat → Nat → Nat → List Bool
  | 0, _, _ => []
  | f + 1, n, j => if n ≤ 1 then [] else if j < half n then sidesN f (half n) j ++ [true] else sidesN f (n - half n) (j - half n) ++ [false]
/-- The neighbour at one level. -/
def lvl (n j l : Nat) : List Bool := if j / 2 ^ l % 2 = 1 then [false] else if (j / 2 ^ l + 1) * 2 ^ l < n then [true] else []
def lv (n j L : Nat) : List Bool := (List.range L).flatMap (lvl n j)
theorem lv_succ (n j L : Nat) : lv n j (L + 1) = lv n j L ++ lvl n j L := by simp [lv, List.range_succ]
theorem lv_more (n j : Nat) (hj : j < n) (M : Nat) (h : n ≤ 2 ^ M) : ∀ d, lv n j (M + d) = lv n j M
  | 0 => rfl
  | d + 1 => by
    have hp : 2 ^ M ≤ 2 ^ (M + d) := Nat.pow_le_pow_right (by omega) (by omega)
    have hz : j / 2 ^ (M + d) = 0 := Nat.div_eq_of_lt (by omega)
    rw [show M + (d + 1) = (M + d) + 1 by omega, lv_succ, lv_more n j hj M h d]
    unfold lvl
    rw [hz, if_neg (by omega), if_neg (by omega), List.append_nil]
theorem lv_congr {n j n' j' : Nat} : ∀ L, (∀ l, l < L → lvl n j l = lvl n' j' l) → lv n j L = lv n' j' L
  | 0, _ => rfl
  | L + 1, h => by rw [lv_succ, lv_succ, lv_congr L (fun l hl => h l (by omega)), h L (by omega)]
theorem lvl_low {n k j m l : Nat} (hk : k = 2 ^ m) (hl : l < m) (hj : j < k) (hn : k < n) : lvl n j l = lvl k j l := by
  unfold lvl
  by_cases h1 : j / 2 ^ l % 2 = 1
  · rw [if_pos h1, if_pos h1]
  · rw [if_neg h1, if_neg h1]
    obtain ⟨c, hc⟩ : ∃ c, m = l + 1 + c := ⟨m - l - 1, by omega⟩
    have hk2 : k = 2 ^ l * (2 * 2 ^ c) := by rw [hk, hc, Nat.pow_add, Nat.pow_succ, Nat.mul_assoc]
    have hp := Nat.two_pow_pos l
    have hq : j / 2 ^ l < 2 * 2 ^ c := Nat.div_lt_of_lt_mul (by rw [← hk2]; exact hj)
    have hlt : j / 2 ^ l + 1 < 2 * 2 ^ c := by omega
    have hm : (j / 2 ^ l + 1) * 2 ^ l < k := by rw [hk2, Nat.mul_comm]; exact Nat.mul_lt_mul_of_pos_left hlt hp
    rw [if_pos hm, if_pos (by omega)]
theorem lvl_high {n k j m l : Nat} (hk : k = 2 ^ m) (hl : l < m) (hn : k < n) : lvl n (k + j) l = lvl (n - k) j l := by
  obtain ⟨c, hc⟩ : ∃ c, m = l + 1 + c := ⟨m - l - 1, by omega⟩
  have hk2 : k = 2 ^ l * (2 * 2 ^ c) := by rw [hk, hc, Nat.pow_add, Nat.pow_succ, Nat.mul_assoc]
  have hp := Nat.two_pow_pos l
  have hd : (k + j) / 2 ^ l = 2 * 2 ^ c + j / 2 ^ l := by rw [hk2, Nat.mul_add_div hp]
  have hmul : (2 * 2 ^ c + j / 2 ^ l + 1) * 2 ^ l = k + (j / 2 ^ l + 1) * 2 ^ l := by
    rw [hk2, Nat.mul_comm (2 ^ l), ← Nat.add_mul, Nat.add_assoc]
  unfold lvl
  rw [hd, hmul]
  by_cases h1 : j / 2 ^ l % 2 = 1
  · rw [if_pos (by omega), if_pos h1]
  · rw [if_neg (by omega), if_neg h1]
    by_cases h2 : (j / 2 ^ l + 1) * 2 ^ l < n - k
    · rw [if_pos (by omega), if_pos h2]
    · rw [if_neg (by omega), if_neg h2]
theorem half_log {n : Nat} : half n = 2 ^ Nat.log2 (n - 1) := rfl
/-- The two tell the same. -/
theorem sides_lv : ∀ (f n j L : Nat), n ≤ f → j < n → n ≤ 2 ^ L → sidesN f n j = lv n j L
  | 0, n, j, L, h, hj, _ => by omega
  | f + 1, n, j, L, hf, hj, hL => by
    unfold sidesN
    by_cases h1 : n ≤ 1
    · rw [if_pos h1]
      obtain rfl : n = 1 := by omega
      obtain rfl : j = 0 := by omega
      have := lv_more 1 0 (by omega) 0 (by simp) L
      rw [Nat.zero_add] at this
      rw [this]
      rfl
    · rw [if_neg h1]
      have hlt := half_lt (n := n) (by omega)
      have hge := half_ge n
      have hpos := half_pos n
      obtain ⟨m, hm⟩ : ∃ m, Nat.log2 (n - 1) = m := ⟨_, rfl⟩
      have hk : half n = 2 ^ m := by rw [half_log, hm]
      have hmL : m < L := by
        rcases Nat.lt_or_ge m L with h | h
        · exact h
        · have := Nat.pow_le_pow_right (show 0 < 2 by omega) h
          omega
      have hn2 : n ≤ 2 ^ (m + 1) := by rw [Nat.pow_succ]; omega
      obtain ⟨d, rfl⟩ : ∃ d, L = m + 1 + d := ⟨L - (m + 1), by omega⟩
      rw [lv_more n j hj (m + 1) hn2 d, lv_succ]
      by_cases hc : j < half n
      · rw [if_pos hc, sides_lv f (half n) j m (by omega) hc (by omega), lv_congr m (fun l hl => (lvl_low (n := n) hk hl hc hlt).symm)]
        congr 1
        unfold lvl
        have hz : j / 2 ^ m = 0 := Nat.div_eq_of_lt (by omega)
        rw [hz, if_neg (by omega), if_pos (by omega)]
      · rw [if_neg hc]
        obtain ⟨j', rfl⟩ : ∃ j', j = half n + j' := ⟨j - half n, by omega⟩
        rw [Nat.add_sub_cancel_left, sides_lv f (n - half n) j' m (by omega) (by omega) (by omega), lv_congr m (fun l hl => (lvl_high (n := n) hk hl hlt).symm)]
        congr 1
        unfold lvl
        have ho : (half n + j') / 2 ^ m = 1 := by
          rw [hk] at hge hlt ⊢
          exact Nat.div_eq_of_lt_le (by omega) (by omega)
        rw [ho, if_pos (by omega)]
def sides (n j : Nat) : List Bool := sidesN n n j
theorem sides_eq {n j L : Nat} (hj : j < n) (hL : n ≤ 2 ^ L) : sides n j = lv n j L := sides_lv n n j L (Nat.le_refl _) hj hL
end Go.Proofs.YtgldkfaiofkhbaaDoor.Sides

namespace Go.Proofs.YtgldkfaiofkhbaaDoor.RefSides
open Go.Proofs.YtgldkfaiofkhbaaDoor Go.Proofs.YtgldkfaiofkhbaaDoor.TreeMath Go.Proofs.YtgldkfaiofkhbaaDoor.Sides

theorem lv_add (n j L : Nat) : ∀ d, ∃ r, lv n j (L + d) = lv n j L ++ r
  | 0 => ⟨[], by simp⟩
  | d + 1 => by
    obtain ⟨r, hr⟩ := lv_add n j L d
    exact ⟨r ++ lvl n j (L + d), by rw [show L + (d + 1) = (L + d) + 1 by omega, lv_succ, hr, List.append_assoc]⟩
/-- All levels below L tell the beginning of the sides. -/
theorem sides_pre {n j : Nat} (hj : j < n) (L : Nat) : ∃ r, sides n j = lv n j L ++ r := by
  obtain ⟨M, hM1, hM2⟩ : ∃ M, n ≤ 2 ^ M ∧ L ≤ M := ⟨n + L, Nat.le_trans (Nat.le_of_lt Nat.lt_two_pow_self) (Nat.pow_le_pow_right (by omega) (by omega)), by omega⟩
  obtain ⟨r, hr⟩ := lv_add n j L (M - L)
  rw [show L + (M - L) = M by omega] at hr
  exact ⟨r, by rw [sides_eq hj hM1, hr]⟩
theorem sides_at {n j L k : Nat} {b : Bool} (hj : j < n) (hk : (lv n j L).length = k) (hl : lvl n j L = [b]) : (sides n j)[k]? = some b ∧ (lv n j (L + 1)).length = k + 1 := by
  obtain ⟨r, hr⟩ := sides_pre hj (L + 1)
  rw [lv_succ, hl] at hr
  refine ⟨?_, by rw [lv_succ, hl, List.length_append, hk]; rfl⟩
  rw [hr, List.append_assoc, List.getElem?_append_right (by omega), hk, Nat.sub_self]
  rfl
/-- Where the loop stands behind k sides: at a level. -/
def At (n j k fn sn : Nat) : Prop := ∃ l, fn = j / 2 ^ l ∧ sn = (n - 1) / 2 ^ l ∧ (lv n j l).length = k
theorem At.zero (n j : Nat) : At n j 0 j (n - 1) := ⟨0, by simp, by simp, rfl⟩
theorem At.le {n j k fn sn : Nat} (h : At n j k fn sn) : fn ≤ j ∧ sn ≤ n - 1 := by
  obtain ⟨l, rfl, rfl, -⟩ := h
  exact ⟨Nat.div_le_self _ _, Nat.div_le_self _ _⟩
theorem lvl_eq {n j l : Nat} (hj : j < n) : lvl n j l = if j / 2 ^ l % 2 = 1 then [false] else if j / 2 ^ l = (n - 1) / 2 ^ l then [] else [true] := by
  unfold lvl
  by_cases h1 : j / 2 ^ l % 2 = 1
  · rw [if_pos h1, if_pos h1]
  · rw [if_neg h1, if_neg h1]
    have hp := Nat.two_pow_pos l
    have hle : j / 2 ^ l ≤ (n - 1) / 2 ^ l := Nat.div_le_div_right (by omega)
    by_cases h2 : j / 2 ^ l = (n - 1) / 2 ^ l
    · rw [if_pos h2, if_neg]
      rw [h2]
      have := Nat.lt_div_mul_add (a := n - 1) hp
      rw [Nat.add_mul, Nat.one_mul]
      omega
    · rw [if_neg h2, if_pos]
      have h3 : j / 2 ^ l + 1 ≤ (n - 1) / 2 ^ l := by omega
      have := Nat.mul_le_mul_right (2 ^ l) h3
      have h4 := Nat.div_mul_le_self (n - 1) (2 ^ l)
      omega
theorem half2 (j l : Nat) : j / 2 ^ (l + 1) = j / 2 ^ l / 2 := by rw [Nat.pow_succ, Nat.div_div_eq_div_mul]
theorem At.odd {n j k fn sn : Nat} (h : At n j k fn sn) (hj : j < n) (ho : fn % 2 = 1) : (sides n j)[k]? = some false ∧ At n j (k + 1) (fn / 2) (sn / 2) := by
  obtain ⟨l, rfl, rfl, hk⟩ := h
  have hl : lvl n j l = [false] := by rw [lvl_eq hj, if_pos ho]
  obtain ⟨a, b⟩ := sides_at hj hk hl
  exact ⟨a, l + 1, (half2 _ _).symm, (half2 _ _).symm, b⟩
theorem At.right {n j k fn sn : Nat} (h : At n j k fn sn) (hj : j < n) (ho : ¬ fn % 2 = 1) (hne : ¬ fn = sn) : (sides n j)[k]? = some true ∧ At n j (k + 1) (fn / 2) (sn / 2) := by
  obtain ⟨l, rfl, rfl, hk⟩ := h
  have hl : lvl n j l = [true] := by rw [lvl_eq hj, if_neg ho, if_neg hne]
  obtain ⟨a, b⟩ := sides_at hj hk hl
  exact ⟨a, l + 1, (half2 _ _).symm, (half2 _ _).symm, b⟩
theorem At.skip {n j k fn sn : Nat} (h : At n j k fn sn) (hj : j < n) (ho : ¬ fn % 2 = 1) (he : fn = sn) : At n j k (fn / 2) (sn / 2) := by
  obtain ⟨l, rfl, rfl, hk⟩ := h
  have hl : lvl n j l = [] := by rw [lvl_eq hj, if_neg ho, if_pos he]
  exact ⟨l + 1, (half2 _ _).symm, (half2 _ _).symm, by rw [lv_succ, hl, List.append_nil, hk]⟩
/-- At zero no side is left. -/
theorem At.done {n j k sn : Nat} (h : At n j k 0 sn) (hj : j < n) (he : sn = 0) : k = (sides n j).length := by
  obtain ⟨l, h1, h2, hk⟩ := h
  have hp := Nat.two_pow_pos l
  have hn : n ≤ 2 ^ l := by
    have := (Nat.div_eq_zero_iff_lt hp).1 (h2.symm.trans he)
    omega
  rw [sides_eq hj hn, hk]
/-- Where the neighbour stands on the left. -/
theorem At.left {n j k : Nat} (hj : j < n) : ∀ (fn sn : Nat), At n j k fn sn → (fn % 2 = 1 ∨ fn = sn) → k < (sides n j).length → (sides n j)[k]? = some false := by
  intro fn
  induction fn using Nat.strongRecOn with
  | _ fn ih =>
    intro sn h ho hk
    by_cases h1 : fn % 2 = 1
    · exact (h.odd hj h1).1
    · have he : fn = sn := by omega
      by_cases h0 : fn = 0
      · have hs : sn = 0 := by omega
        rw [h0] at h
        have := h.done hj hs
        omega
      · exact ih (fn / 2) (by omega) (sn / 2) (h.skip hj h1 he) (.inr (by rw [he])) hk
end Go.Proofs.YtgldkfaiofkhbaaDoor.RefSides

namespace Go.Proofs.YtgldkfaiofkhbaaDoor.Subs
open Go.Proofs.YtgldkfaiofkhbaaDoor Go.Proofs.YtgldkfaiofkhbaaDoor.TreeMath Go.Proofs.YtgldkfaiofkhbaaDoor.Sides

end Go.Proofs.YtgldkfaiofkhbaaDoor.Subs
