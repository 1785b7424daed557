/-
  docketref17.ReadInclusion, walked (printed by wip/gen_readincl.py).
-/
import Derived.Test.YtngieimjlkpkaaaWay17
import Derived.Test.YtngieimjlkpkaaaSame17
import Derived.Test.YtngieimjlkpkaaaGuard
namespace Go.Proofs.Ytngieimjlkpkaaa.ReadIncl
open Go Go.RowKit Go.Proofs.Ytngieimjlkpkaaa Go.Proofs.Ytngieimjlkpkaaa.Mem Go.Proofs.Ytngieimjlkpkaaa.Sha Go.Proofs.Ytngieimjlkpkaaa.Bytes Go.Proofs.Ytngieimjlkpkaaa.Append Go.Proofs.Ytngieimjlkpkaaa.Octet Go.Proofs.Ytngieimjlkpkaaa.TreeMath Go.Proofs.Ytngieimjlkpkaaa.Sides Go.Proofs.Ytngieimjlkpkaaa.TreeMem Go.Proofs.Ytngieimjlkpkaaa.TreeRoot Go.Proofs.Ytngieimjlkpkaaa.Held Go.Proofs.Ytngieimjlkpkaaa.Own Go.Proofs.Ytngieimjlkpkaaa.Reader Go.Proofs.Ytngieimjlkpkaaa.Reader4 Go.Proofs.Ytngieimjlkpkaaa.ProofBeside Go.Proofs.Ytngieimjlkpkaaa.ProofEnc Go.Proofs.Ytngieimjlkpkaaa.Beside17 Go.Proofs.Ytngieimjlkpkaaa.Ref17 Go.Proofs.Ytngieimjlkpkaaa.Ref17b Go.Proofs.Ytngieimjlkpkaaa.DecIncl Go.Proofs.Ytngieimjlkpkaaa.DecIncl2 Go.Proofs.Ytngieimjlkpkaaa.Bytes17 Go.Proofs.Ytngieimjlkpkaaa.Way17 Go.Proofs.Ytngieimjlkpkaaa.Same17 Go.Proofs.Ytngieimjlkpkaaa.Guard

/-! ### The plain law -/
theorem be8_num (a : Text) (h : a.length = 8) : be8 (num a) = a := by
  match a, h with
  | [a0, a1, a2, a3, a4, a5, a6, a7], _ =>
    have e : num [a0, a1, a2, a3, a4, a5, a6, a7] = ((((((a0.toNat * 256 + a1.toNat) * 256 + a2.toNat) * 256 + a3.toNat) * 256 + a4.toNat) * 256 + a5.toNat) * 256 + a6.toNat) * 256 + a7.toNat := by simp [num]
    have b0 := a0.isLt
    have b1 := a1.isLt
    have b2 := a2.isLt
    have b3 := a3.isLt
    have b4 := a4.isLt
    have b5 := a5.isLt
    have b6 := a6.isLt
    have b7 := a7.isLt
    rw [e]
    have hb : ∀ (N n : Nat) (x : BitVec 8), N / 2 ^ n % 256 = x.toNat → byteAt N n = x := fun N n x h => by
      unfold byteAt
      apply BitVec.eq_of_toNat_eq
      rw [BitVec.toNat_ofNat]
      exact h
    show [byteAt _ 56, byteAt _ 48, byteAt _ 40, byteAt _ 32, byteAt _ 24, byteAt _ 16, byteAt _ 8, byteAt _ 0] = _
    rw [hb _ 56 a0 (by omega), hb _ 48 a1 (by omega), hb _ 40 a2 (by omega), hb _ 32 a3 (by omega), hb _ 24 a4 (by omega), hb _ 16 a5 (by omega), hb _ 8 a6 (by omega), hb _ 0 a7 (by omega)]
theorem chunks_flat : ∀ (n : Nat) (p : Text), p.length = 32 * n → (chunks p n).flatten = p
  | 0, p, h => by
    obtain rfl := List.eq_nil_of_length_eq_zero h
    rfl
  | n + 1, p, h => by
    have e : chunks p (n + 1) = p.take 32 :: chunks (p.drop 32) n := by
      unfold chunks
      rw [List.range_succ_eq_map, List.map_cons, List.map_map]
      congr 1
      apply List.map_congr_left
      intro j _
      show chunk p (j + 1) = chunk (p.drop 32) j
      unfold chunk
      rw [List.drop_drop, show 32 * (j + 1) = 32 + 32 * j by omega]
    rw [e, List.flatten_cons, chunks_flat n (p.drop 32) (by rw [List.length_drop]; omega), List.take_append_drop]
/-- What was read ahead of the last test. -/
def Got (q : Text) (x1 x2 : Int) (l : List Text) : Prop :=
  (17 ≤ q.length → x1 = lgInt (num ((q.drop 1).take 8)) ∧ x2 = lgInt (num ((q.drop 9).take 8)) ∧ l.length ≤ (bsOf x1 x2).toNat ∧ (32 * (bsOf x1 x2).toNat ≤ (q.drop 17).length → l = chunks (q.drop 17) (bsOf x1 x2).toNat)) ∧ (q.length < 17 → l = []) ∧ Digs l
theorem lg_inside {a b : Nat} (ha : a < 18446744073709551616) (hb : b < 18446744073709551616) (h : insideB (lgInt a) (lgInt b) = true) : lgInt a = (a : Int) ∧ lgInt b = (b : Int) := by
  simp only [insideB, Bool.and_eq_true, decide_eq_true_eq] at h
  unfold lgInt wrap64 at *
  omega
theorem bsOf_in {x y : Int} (h : insideB x y = true) : bsOf x y = ((sides x.toNat y.toNat).length : Int) := by unfold bsOf; rw [if_pos h]
theorem num8 (q : Text) (m : Nat) : num ((q.drop m).take 8) < 18446744073709551616 := Reader2.num_lt8 _ (by rw [List.length_take]; omega)
theorem want_len {x1 x2 : Int} {l : List Text} {b : Text} (hd : Digs l) (h : inclWant x1 x2 l = some b) : b.length = 17 + 32 * l.length := by
  unfold inclWant at h
  split at h
  · rw [← Option.some.inj h]; exact inclBytes_len _ _ _ hd
  · cases h
theorem three {q : Text} (h : 17 ≤ q.length) : q = [q.getD 0 0] ++ (q.drop 1).take 8 ++ (q.drop 9).take 8 ++ q.drop 17 := by
  have e0 : q = q.take 1 ++ q.drop 1 := (List.take_append_drop 1 q).symm
  have e1 : q.drop 1 = (q.drop 1).take 8 ++ q.drop 9 := by
    have := (List.take_append_drop 8 (q.drop 1)).symm
    rwa [List.drop_drop] at this
  have e2 : q.drop 9 = (q.drop 9).take 8 ++ q.drop 17 := by
    have := (List.take_append_drop 8 (q.drop 9)).symm
    rwa [List.drop_drop] at this
  have e3 : q.take 1 = [q.getD 0 0] := by
    match q, h with
    | a :: r, _ => rfl
  rw [List.append_assoc, List.append_assoc, ← e2, ← e1, ← e3, ← e0]
theorem read_ok {q : Text} {x1 x2 : Int} {l : List Text} (hq : ¬ 9000 < q.length) (hg : Got q x1 x2 l) (h : inclWant x1 x2 l = some q) : decAns q = (x1, x2, l, 0) := by
  obtain ⟨g1, g2, hd⟩ := hg
  have hlen := want_len hd h
  obtain ⟨rfl, rfl, -, hc⟩ := g1 (by omega)
  unfold inclWant at h
  split at h
  · rename_i hin
    obtain ⟨hin, hsl⟩ := hin
    have hbs := bsOf_in hin
    obtain ⟨e1, e2⟩ := lg_inside (num8 q 1) (num8 q 9) hin
    rw [e1, e2] at hin hsl hbs hc h ⊢
    rw [Int.toNat_natCast, Int.toNat_natCast] at hsl hbs h
    have hh := Option.some.inj h
    have h0 : q.getD 0 0 = 48 := by rw [← hh]; rfl
    rw [decAns_ok hq ⟨by omega, h0, hin, by rw [hsl]; exact hlen⟩]
    have hl := hc (by rw [hbs, Int.toNat_natCast, hsl, List.length_drop]; omega)
    rw [hbs, Int.toNat_natCast] at hl
    rw [← hl]
  · cases h
theorem read_no {q : Text} {x1 x2 : Int} {l : List Text} (hq : ¬ 9000 < q.length) (hg : Got q x1 x2 l) (h : inclWant x1 x2 l ≠ some q) : decAns q = (0, 0, [], 8) := by
  obtain ⟨g1, g2, hd⟩ := hg
  refine decAns_fail hq (fun hh => h ?_)
  obtain ⟨h17, h0, hin, hlen⟩ := hh
  obtain ⟨rfl, rfl, -, hc⟩ := g1 h17
  have hin2 := hin
  simp only [insideB, Bool.and_eq_true, decide_eq_true_eq] at hin2
  rw [lgInt_le (by omega), lgInt_le (by omega)] at hc ⊢
  have hbs := bsOf_in hin
  rw [Int.toNat_natCast, Int.toNat_natCast] at hbs
  rw [hbs, Int.toNat_natCast] at hc
  have hl := hc (by rw [List.length_drop]; omega)
  unfold inclWant
  rw [Int.toNat_natCast, Int.toNat_natCast, if_pos ⟨hin, by rw [hl, chunks_len]⟩]
  congr 1
  unfold inclBytes
  rw [be8_num _ (by rw [List.length_take, List.length_drop]; omega), be8_num _ (by rw [List.length_take, List.length_drop]; omega), hl, chunks_flat _ _ (by rw [List.length_drop]; omega)]
  conv => rhs; rw [three h17, h0]

/-! ### The reader's states -/
/-- The reader behind so many bytes. -/
def RQ (w : World) (g B : Nat) (q : Text) (m : Nat) : Prop := ∃ p s, RB w g B p s ∧ (m ≤ q.length → p = q.drop m ∧ s = false) ∧ (q.length < m → s = true) ∧ p.length ≤ q.length
theorem RQ.num {w w' : World} {g B : Nat} {q : Text} {m n : Nat} {p : Text} {s : Bool} {x : Int} (h1 : m ≤ q.length → p = q.drop m ∧ s = false) (h2 : q.length < m → s = true) (h3 : p.length ≤ q.length) (ho : NumOut w g B p s n x w') : RQ w' g B q (m + n) ∧ (m + n ≤ q.length → x = lgInt (num ((q.drop m).take n))) := by
  obtain ⟨o1, o2, -, -⟩ := ho
  by_cases hn : n ≤ p.length
  · obtain ⟨e, hr⟩ := o1 hn
    refine ⟨⟨p.drop n, s, hr, fun h => ?_, fun h => ?_, by rw [List.length_drop]; omega⟩, fun h => ?_⟩
    · obtain ⟨rfl, rfl⟩ := h1 (by omega)
      exact ⟨by rw [List.drop_drop], rfl⟩
    · by_cases hm : m ≤ q.length
      · obtain ⟨rfl, rfl⟩ := h1 hm
        rw [List.length_drop] at hn
        omega
      · exact h2 (by omega)
    · obtain ⟨rfl, rfl⟩ := h1 (by omega)
      exact e
  · obtain ⟨e, hr⟩ := o2 (by omega)
    refine ⟨⟨p, true, hr, fun h => ?_, fun _ => rfl, h3⟩, fun h => ?_⟩
    · obtain ⟨rfl, -⟩ := h1 (by omega)
      rw [List.length_drop] at hn
      omega
    · obtain ⟨rfl, -⟩ := h1 (by omega)
      rw [List.length_drop] at hn
      omega
theorem RQ.kept {S : Nat → Prop} {w w' : World} {g B m : Nat} {q : Text} (h : RQ w g B q m) (hk : Kept S w w') (hg : ¬ S g) (hS : ∀ a, a < B → ¬ S a) : RQ w' g B q m := by
  obtain ⟨p, s, h1, h2⟩ := h
  exact ⟨p, s, h1.kept hk hg hS, h2⟩
end Go.Proofs.Ytngieimjlkpkaaa.ReadIncl
