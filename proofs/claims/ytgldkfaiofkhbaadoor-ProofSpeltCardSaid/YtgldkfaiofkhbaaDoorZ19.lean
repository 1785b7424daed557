/-
  Texts of the claim, put into one file: IdxDec, DecIdx, DecIdx2.
-/
import Derived.Test.YtgldkfaiofkhbaaDoorZ18
import Derived.Test.YtgldkfaiofkhbaaDoorZ14
import Derived.Test.YtgldkfaiofkhbaaDoorZ17
import Derived.Test.YtgldkfaiofkhbaaDoorZ16
import Derived.Test.YtgldkfaiofkhbaaDoorZ8
import Derived.Test.YtgldkfaiofkhbaaDoorZ11

namespace Go.Proofs.YtgldkfaiofkhbaaDoor.IdxDec
open Go Go.RowKit Go.Proofs.YtgldkfaiofkhbaaDoor Go.Proofs.YtgldkfaiofkhbaaDoor.Mem Go.Proofs.YtgldkfaiofkhbaaDoor.Sha Go.Proofs.YtgldkfaiofkhbaaDoor.Bytes Go.Proofs.YtgldkfaiofkhbaaDoor.Append Go.Proofs.YtgldkfaiofkhbaaDoor.Octet Go.Proofs.YtgldkfaiofkhbaaDoor.TreeMath Go.Proofs.YtgldkfaiofkhbaaDoor.TreeMem Go.Proofs.YtgldkfaiofkhbaaDoor.Reader Go.Proofs.YtgldkfaiofkhbaaDoor.Reader2 Go.Proofs.YtgldkfaiofkhbaaDoor.Reader4 Go.Proofs.YtgldkfaiofkhbaaDoor.ProofBeside Go.Proofs.YtgldkfaiofkhbaaDoor.ProofEnc Go.Proofs.YtgldkfaiofkhbaaDoor.ProofIdx Go.Proofs.YtgldkfaiofkhbaaDoor.ProofIdx2 Go.Proofs.YtgldkfaiofkhbaaDoor.ProofIdx3 Go.Proofs.YtgldkfaiofkhbaaDoor.DecIncl Go.Proofs.YtgldkfaiofkhbaaDoor.StructEq Go.Proofs.YtgldkfaiofkhbaaDoor.IdxAny Go.Proofs.YtgldkfaiofkhbaaDoor.IdxEnc Go.Proofs.YtgldkfaiofkhbaaDoor.IdxMem Go.Proofs.YtgldkfaiofkhbaaDoor.Flag Go.Proofs.YtgldkfaiofkhbaaDoor.ReadIncl

/-- The name's length, the name, the flag, the count, the chain, where the bitmap begins, the bitmap. -/
def ixL (q : Text) : Nat := (q.getD 1 0).toNat
def ixS (q : Text) : Text := (q.drop 2).take (ixL q)
def ixF (q : Text) : Bool := b8 (q.getD (2 + ixL q) 0) == 1
def ixC (q : Text) : Nat := if ixF q = true then num ((q.drop (3 + ixL q)).take 8) else 0
def ixH (q : Text) : Text := if ixF q = true then (q.drop (11 + ixL q)).take 32 else z32
def ixO (q : Text) : Nat := if ixF q = true then 43 + ixL q else 3 + ixL q
def ixD (q : Text) : Text := (q.drop (ixO q)).take 32
def ixN (q : Text) : Nat := onesOf (ixD q)
/-- Are these bytes what an index says of a name? -/
def ixOk (q : Text) : Prop := q.getD 0 0 = 50 ∧ b8 (q.getD (2 + ixL q) 0) ≤ 1 ∧ q.length = ixO q + 32 + 32 * ixN q ∧ okIx (strT (ixS q)) (ixF q) (ixC q : Int) (ixH q) (ixD q) (ixN q) = true
instance (q : Text) : Decidable (ixOk q) := by unfold ixOk; infer_instance
abbrev Ans := ByteArray × Bool × Int × Text × Text × List Text × Int
def zAns (en : Int) : Ans := (ByteArray.empty, false, 0, z32, z32, [], en)
def ixAns (q : Text) : Ans := if 9000 < q.length then zAns 170 else if ixOk q then (strT (ixS q), ixF q, (ixC q : Int), ixH q, ixD q, chunks (q.drop (ixO q + 32)) (ixN q), 0) else zAns 8
theorem ixAns_long {q : Text} (h : 9000 < q.length) : ixAns q = zAns 170 := by unfold ixAns; rw [if_pos h]
theorem ixAns_no {q : Text} (h : ¬ 9000 < q.length) (h2 : ¬ ixOk q) : ixAns q = zAns 8 := by unfold ixAns; rw [if_neg h, if_neg h2]
theorem ixAns_yes {q : Text} (h : ¬ 9000 < q.length) (h2 : ixOk q) : ixAns q = (strT (ixS q), ixF q, (ixC q : Int), ixH q, ixD q, chunks (q.drop (ixO q + 32)) (ixN q), 0) := by unfold ixAns; rw [if_neg h, if_pos h2]
theorem ixAns_not50 {q : Text} (h : ¬ 9000 < q.length) (h2 : ¬ (1 ≤ q.length ∧ q.getD 0 0 = 50)) : ixAns q = zAns 8 := ixAns_no h fun hh => h2 ⟨by have := hh.2.2.1; omega, hh.1⟩
theorem ixAns_len (q : Text) : (ixAns q).2.2.2.1.length = 32 ∧ (ixAns q).2.2.2.2.1.length = 32 := by
  unfold ixAns
  split
  · exact ⟨rfl, rfl⟩
  · split
    · rename_i hok
      have h := hok.2.2.1
      refine ⟨?_, ?_⟩
      · show (ixH q).length = 32
        unfold ixH
        unfold ixO at h
        split
        · rename_i hf
          rw [if_pos hf] at h
          rw [List.length_take, List.length_drop]
          omega
        · rfl
      · show (ixD q).length = 32
        unfold ixD
        rw [List.length_take, List.length_drop]
        omega
    · exact ⟨rfl, rfl⟩
theorem ixO_ge (q : Text) : 3 + ixL q ≤ ixO q := by unfold ixO; split <;> omega

section
variable {q : Text}
/-- The program's reader, not found. -/
theorem ans_nf (h9 : ¬ 9000 < q.length) (h50 : q.getD 0 0 = 50) {y : BitVec 8} {p d : Text} (hy : 2 ≤ q.length → y = q.getD 1 0) (hp : 2 + y.toNat ≤ q.length → p = (q.drop 2).take y.toNat)
    (hf : (flagB q (2 + y.toNat) && (b8 (q.getD (2 + y.toNat) 0) == 1)) = false) (hd : flagN q (2 + y.toNat) + 32 ≤ q.length → d = (q.drop (flagN q (2 + y.toNat))).take 32) :
    (flagN q (2 + y.toNat) + 32 + 32 * onesOf d = q.length → okIx (strT p) false 0 (List.replicate 32 0) d (onesOf d) = true → ixAns q = (strT p, false, 0, List.replicate 32 0, d, chunks (q.drop (flagN q (2 + y.toNat) + 32)) (onesOf d), 0))
    ∧ (¬ (flagN q (2 + y.toNat) + 32 + 32 * onesOf d = q.length ∧ okIx (strT p) false 0 (List.replicate 32 0) d (onesOf d) = true) → ixAns q = zAns 8) := by
  have key : flagB q (2 + y.toNat) = true → flagN q (2 + y.toNat) + 32 ≤ q.length → ixL q = y.toNat ∧ ixS q = p ∧ ixF q = false ∧ ixC q = 0 ∧ ixH q = z32 ∧ ixO q = flagN q (2 + y.toNat) ∧ ixD q = d ∧ ixN q = onesOf d := fun hb hl => by
    have hn : flagN q (2 + y.toNat) = 3 + y.toNat := by unfold flagN; rw [if_pos hb]; omega
    have e1 : ixL q = y.toNat := by unfold ixL; rw [hy (by omega)]
    have e2 : ixS q = p := by unfold ixS; rw [hp (by omega), e1]
    have e3 : ixF q = false := by unfold ixF; rw [e1]; rw [hb, Bool.true_and] at hf; exact hf
    have e4 : ixO q = flagN q (2 + y.toNat) := by unfold ixO; rw [e3, e1, hn]; rfl
    have e5 : ixD q = d := by unfold ixD; rw [e4, hd hl]
    exact ⟨e1, e2, e3, by unfold ixC; rw [e3]; rfl, by unfold ixH; rw [e3]; rfl, e4, e5, by unfold ixN; rw [e5]⟩
  refine ⟨fun h1 h2 => ?_, fun h => ixAns_no h9 fun hh => h ?_⟩
  · have hb : flagB q (2 + y.toNat) = true := by
      by_cases hb : flagB q (2 + y.toNat) = true
      · exact hb
      · have : flagN q (2 + y.toNat) = q.length + 1 := by unfold flagN; rw [if_neg hb]
        omega
    obtain ⟨e1, e2, e3, e4, e5, e6, e7, e8⟩ := key hb (by omega)
    have hok : ixOk q := ⟨h50, by
        have := hb
        unfold flagB at this
        simp only [Bool.and_eq_true, decide_eq_true_eq] at this
        rw [e1]; exact this.2, by rw [e6, e8]; omega, by rw [e2, e3, e4, e5, e7, e8]; exact h2⟩
    rw [ixAns_yes h9 hok, e2, e3, e4, e5, e6, e7, e8]
    rfl
  · obtain ⟨-, h1, h2, h3⟩ := hh
    have hO := ixO_ge q
    have hy' := hy (by omega)
    have eL : ixL q = y.toNat := by unfold ixL; rw [hy']
    rw [eL] at h1 hO
    have hb : flagB q (2 + y.toNat) = true := by
      unfold flagB
      rw [decide_eq_true (show 2 + y.toNat + 1 ≤ q.length by omega), decide_eq_true h1]
      rfl
    have hn : flagN q (2 + y.toNat) = 3 + y.toNat := by unfold flagN; rw [if_pos hb]; omega
    obtain ⟨e1, e2, e3, e4, e5, e6, e7, e8⟩ := key hb (by rw [hn]; omega)
    rw [e6, e8] at h2
    rw [e2, e3, e4, e5, e7, e8] at h3
    exact ⟨by omega, h3⟩
/-- The program's reader, found. -/
theorem ans_f (h9 : ¬ 9000 < q.length) (h50 : q.getD 0 0 = 50) {y : BitVec 8} {p d ch : Text} {N : Nat} {xn : Int} (hy : 2 ≤ q.length → y = q.getD 1 0) (hp : 2 + y.toNat ≤ q.length → p = (q.drop 2).take y.toNat)
    (hf : (flagB q (2 + y.toNat) && (b8 (q.getD (2 + y.toNat) 0) == 1)) = true) (hN : flagN q (2 + y.toNat) + 8 ≤ q.length → N = num ((q.drop (flagN q (2 + y.toNat))).take 8)) (hbig : N ≤ 1099511627776) (hxn : lgInt N = xn)
    (hch : flagN q (2 + y.toNat) + 8 + 32 ≤ q.length → ch = (q.drop (flagN q (2 + y.toNat) + 8)).take 32) (hd : flagN q (2 + y.toNat) + 8 + 32 + 32 ≤ q.length → d = (q.drop (flagN q (2 + y.toNat) + 8 + 32)).take 32) :
    (flagN q (2 + y.toNat) + 8 + 32 + 32 + 32 * onesOf d = q.length → okIx (strT p) true xn ch d (onesOf d) = true → ixAns q = (strT p, true, xn, ch, d, chunks (q.drop (flagN q (2 + y.toNat) + 8 + 32 + 32)) (onesOf d), 0))
    ∧ (¬ (flagN q (2 + y.toNat) + 8 + 32 + 32 + 32 * onesOf d = q.length ∧ okIx (strT p) true xn ch d (onesOf d) = true) → ixAns q = zAns 8) := by
  rw [lgInt_le hbig] at hxn
  subst hxn
  have hb : flagB q (2 + y.toNat) = true := by
    rw [Bool.and_eq_true] at hf
    exact hf.1
  have hn : flagN q (2 + y.toNat) = 3 + y.toNat := by unfold flagN; rw [if_pos hb]; omega
  rw [hb, Bool.true_and] at hf
  rw [hn] at hN hch hd ⊢
  have hb2 := hb
  unfold flagB at hb2
  simp only [Bool.and_eq_true, decide_eq_true_eq] at hb2
  have eL : ixL q = y.toNat := by unfold ixL; rw [hy (by omega)]
  have e3 : ixF q = true := by unfold ixF; rw [eL]; exact hf
  have e6 : ixO q = 43 + y.toNat := by unfold ixO; rw [e3, eL]; rfl
  have key : 3 + y.toNat + 8 + 32 + 32 ≤ q.length → ixS q = p ∧ ixC q = N ∧ ixH q = ch ∧ ixD q = d ∧ ixN q = onesOf d := fun hl => by
    have e2 : ixS q = p := by unfold ixS; rw [hp (by omega), eL]
    have e5 : ixD q = d := by unfold ixD; rw [e6, hd hl]; congr 2; omega
    exact ⟨e2, by unfold ixC; rw [if_pos e3, hN (by omega), eL], by unfold ixH; rw [if_pos e3, hch (by omega), eL]; congr 2; omega, e5, by unfold ixN; rw [e5]⟩
  refine ⟨fun h1 h2 => ?_, fun h => ixAns_no h9 fun hh => h ?_⟩
  · obtain ⟨e2, e4, e5, e7, e8⟩ := key (by omega)
    have hok : ixOk q := ⟨h50, by rw [eL]; exact hb2.2, by rw [e6, e8]; omega, by rw [e2, e3, e4, e5, e7, e8]; exact h2⟩
    rw [ixAns_yes h9 hok, e2, e3, e4, e5, e6, e7, e8, show 43 + y.toNat + 32 = 3 + y.toNat + 8 + 32 + 32 by omega]
  · obtain ⟨-, h1, h2, h3⟩ := hh
    rw [e6] at h2
    obtain ⟨e2, e4, e5, e7, e8⟩ := key (by omega)
    rw [e8] at h2
    rw [e2, e3, e4, e5, e7, e8] at h3
    exact ⟨by omega, h3⟩
/-- The program's reader: the count is above all sizes. -/
theorem ans_big (h9 : ¬ 9000 < q.length) {y : BitVec 8} {N : Nat} (hy : 2 ≤ q.length → y = q.getD 1 0)
    (hf : (flagB q (2 + y.toNat) && (b8 (q.getD (2 + y.toNat) 0) == 1)) = true) (hN : flagN q (2 + y.toNat) + 8 ≤ q.length → N = num ((q.drop (flagN q (2 + y.toNat))).take 8)) (hbig : ¬ N ≤ 1099511627776) : ixAns q = zAns 8 := by
  have hb : flagB q (2 + y.toNat) = true := by
    rw [Bool.and_eq_true] at hf
    exact hf.1
  have hn : flagN q (2 + y.toNat) = 3 + y.toNat := by unfold flagN; rw [if_pos hb]; omega
  rw [hb, Bool.true_and] at hf
  rw [hn] at hN
  have hb2 := hb
  unfold flagB at hb2
  simp only [Bool.and_eq_true, decide_eq_true_eq] at hb2
  have eL : ixL q = y.toNat := by unfold ixL; rw [hy (by omega)]
  have e3 : ixF q = true := by unfold ixF; rw [eL]; exact hf
  have e6 : ixO q = 43 + y.toNat := by unfold ixO; rw [e3, eL]; rfl
  refine ixAns_no h9 fun hh => ?_
  obtain ⟨-, h1, h2, h3⟩ := hh
  rw [e6] at h2
  have e4 : ixC q = N := by unfold ixC; rw [if_pos e3, hN (by omega), eL]
  rw [e3, e4] at h3
  unfold okIx okEnt at h3
  simp only [Bool.and_eq_true, if_true, decide_eq_true_eq] at h3
  omega
end

/-! ### The document's reader: it reads whatever there is, lays it down and compares -/
/-- What it read. -/
structure Got (q : Text) (x : Nat) (p : Text) (f : Bool) (cnt : Int) (ch d : Text) (l : List Text) : Prop where
  x1 : 2 ≤ q.length → x = (q.getD 1 0).toNat
  p1 : 2 ≤ q.length → 2 + x ≤ q.length → p = (q.drop 2).take x
  p2 : 2 ≤ q.length → q.length < 2 + x → p = []
  f1 : 3 + x ≤ q.length → f = (b8 (q.getD (2 + x) 0) == 1)
  c1 : f = true → 11 + x ≤ q.length → cnt = lgInt (num ((q.drop (3 + x)).take 8))
  h1 : f = true → 43 + x ≤ q.length → ch = (q.drop (11 + x)).take 32
  c0 : f = false → cnt = 0
  h0 : f = false → ch = z32
  d1 : (if f = true then 43 + x else 3 + x) + 32 ≤ q.length → d = (q.drop (if f = true then 43 + x else 3 + x)).take 32
  l1 : (if f = true then 43 + x else 3 + x) + 32 + 32 * onesOf d ≤ q.length → l = chunks (q.drop ((if f = true then 43 + x else 3 + x) + 32)) (onesOf d)
  lh : ch.length = 32
  ld : d.length = 32
  ll : Digs l
theorem kb_toNat (x : BitVec 8) : kb x.toNat = x := by
  apply BitVec.eq_of_toNat_eq
  unfold kb
  rw [BitVec.toNat_ofInt]
  have := x.isLt
  omega
theorem cut3 {q : Text} {x : Nat} (h : 3 + x ≤ q.length) : q = [q.getD 0 0] ++ [q.getD 1 0] ++ (q.drop 2).take x ++ [q.getD (2 + x) 0] ++ q.drop (3 + x) := by
  have e1 : q.take 2 = [q.getD 0 0] ++ [q.getD 1 0] := by
    match q, h with
    | a :: b :: r, _ => rfl
    | [_], h => simp at h; omega
    | [], h => simp at h
  have e2 : (q.drop (2 + x)).take 1 = [q.getD (2 + x) 0] := by
    rw [List.getD_eq_getElem?_getD, List.getElem?_eq_getElem (show 2 + x < q.length by omega), List.drop_eq_getElem_cons (show 2 + x < q.length by omega)]
    rfl
  rw [← e1, ← e2, List.append_assoc, List.append_assoc, show q.drop (3 + x) = (q.drop (2 + x)).drop 1 by rw [List.drop_drop]; congr 1; omega, List.take_append_drop, show q.drop (2 + x) = (q.drop 2).drop x by rw [List.drop_drop], List.take_append_drop, List.take_append_drop]
theorem idxB_parts (s : ByteArray) (f : Bool) (cnt : Int) (ch d : Text) (ds : List Text) : (idxB s f cnt ch d ds).getD 0 0 = 50 ∧ (idxB s f cnt ch d ds).getD 1 0 = kb s.size ∧ (idxB s f cnt ch d ds).getD (2 + s.size) 0 = (if f = true then 1 else 0) := by
  refine ⟨rfl, rfl, ?_⟩
  have e : idxB s f cnt ch d ds = ([50] ++ [kb s.size] ++ nm s) ++ ((if f then [1] ++ be8 cnt.toNat ++ ch else [0]) ++ d ++ ds.flatten) := by unfold idxB; simp only [List.append_assoc]
  rw [e, List.getD_eq_getElem?_getD, List.getElem?_append_right (by simp [nm_len]; omega)]
  have : 2 + s.size - ([50] ++ [kb s.size] ++ nm s).length = 0 := by simp [nm_len]; omega
  rw [this]
  cases f <;> rfl
section
variable {q p ch d : Text} {x : Nat} {f : Bool} {cnt : Int} {l : List Text}
theorem b8_1 {y : BitVec 8} : (b8 y == 1) = decide (y = 1) := by
  have : b8 y = 1 ↔ y = 1 := by
    constructor
    · intro h
      apply BitVec.eq_of_toNat_eq
      unfold b8 at h
      have : y.toNat = 1 := by omega
      rw [this]; rfl
    · rintro rfl; rfl
  by_cases h : y = 1
  · rw [decide_eq_true h, this.2 h]; rfl
  · rw [decide_eq_false h]
    exact Bool.eq_false_iff.2 fun hh => h (this.1 (by simpa using hh))
/-- In range: what was read is what the plain word says. -/
theorem Got.all (g : Got q x p f cnt ch d l) (h : ixO q + 32 + 32 * ixN q ≤ q.length) : x = ixL q ∧ p = ixS q ∧ f = ixF q ∧ cnt = lgInt (ixC q) ∧ ch = ixH q ∧ d = ixD q ∧ l = chunks (q.drop (ixO q + 32)) (ixN q) := by
  have hO := ixO_ge q
  have ex : x = ixL q := g.x1 (by omega)
  subst ex
  have ep : p = ixS q := g.p1 (by omega) (by omega)
  have ef : f = ixF q := g.f1 (by omega)
  subst ef
  have eo : (if ixF q = true then 43 + ixL q else 3 + ixL q) = ixO q := rfl
  have ed : d = ixD q := by rw [g.d1 (by rw [eo]; omega)]; rfl
  have hc : cnt = lgInt (ixC q) := by
    unfold ixC
    by_cases hf : ixF q = true
    · rw [if_pos hf]
      exact g.c1 hf (by rw [if_pos hf] at eo; omega)
    · rw [if_neg hf, g.c0 (by simpa using hf), lgInt_le (by omega)]; rfl
  have hh : ch = ixH q := by
    unfold ixH
    by_cases hf : ixF q = true
    · rw [if_pos hf]
      exact g.h1 hf (by rw [if_pos hf] at eo; omega)
    · rw [if_neg hf, g.h0 (by simpa using hf)]
  have en : onesOf d = ixN q := by rw [ed]; rfl
  refine ⟨rfl, ep, rfl, hc, hh, ed, ?_⟩
  have := g.l1 (by rw [eo, en]; omega)
  rw [eo, en] at this
  exact this
theorem read_no (h9 : ¬ 9000 < q.length) (g : Got q x p f cnt ch d l) (h : idxWant (strT p) f cnt ch d l ≠ some q) : ixAns q = zAns 8 := by
  refine ixAns_no h9 fun hh => h ?_
  obtain ⟨h0, h1, h2, h3⟩ := hh
  obtain ⟨ex, ep, ef, ec, eh, ed, el⟩ := g.all (by omega)
  have hll : l.length = ixN q := by rw [el, chunks_len]
  have h64 := okIx_64 h3
  have hO := ixO_ge q
  have ecc : cnt = (ixC q : Int) := by
    rw [ec]
    refine lgInt_le ?_
    unfold okIx okEnt at h3
    simp only [Bool.and_eq_true] at h3
    have h1 := h3.1
    by_cases hft : ixF q = true
    · rw [if_pos hft, decide_eq_true_eq] at h1; omega
    · unfold ixC; rw [if_neg hft]; omega
  unfold idxWant
  rw [hll, ep, ef, ecc, eh, ed, if_pos h3]
  congr 1
  unfold idxB
  have hsl : (ixS q).length = ixL q := by unfold ixS; rw [List.length_take, List.length_drop]; omega
  rw [nm_strT, strT_size, hsl, Int.toNat_natCast]
  have hf : l.flatten = q.drop (ixO q + 32) := by rw [el]; exact chunks_flat _ _ (by rw [List.length_drop]; omega)
  rw [hf]
  have e1 : ixD q ++ q.drop (ixO q + 32) = q.drop (ixO q) := by
    unfold ixD
    rw [← List.drop_drop, List.take_append_drop]
  have hc3 := cut3 (q := q) (x := ixL q) (by omega)
  have hkb : kb (ixL q) = q.getD 1 0 := kb_toNat _
  rw [hkb, List.append_assoc, e1]
  conv => rhs; rw [hc3, h0]
  show _ = [50] ++ [q.getD 1 0] ++ ixS q ++ [q.getD (2 + ixL q) 0] ++ q.drop (3 + ixL q)
  rw [List.append_assoc ([50] ++ [q.getD 1 0] ++ ixS q), List.append_assoc ([50] ++ [q.getD 1 0] ++ ixS q)]
  congr 1
  by_cases hft : ixF q = true
  · have hy : q.getD (2 + ixL q) 0 = 1 := by
      have := hft
      unfold ixF at this
      rw [b8_1] at this
      exact of_decide_eq_true this
    have h8 : ((q.drop (3 + ixL q)).take 8).length = 8 := by
      have : ixO q = 43 + ixL q := by unfold ixO; rw [if_pos hft]
      rw [List.length_take, List.length_drop]
      omega
    rw [if_pos hft, hy]
    unfold ixO ixC ixH
    rw [if_pos hft, if_pos hft, if_pos hft, be8_num _ h8]
    rw [List.append_assoc, List.append_assoc]
    congr 1
    rw [show q.drop (43 + ixL q) = (q.drop (11 + ixL q)).drop 32 by rw [List.drop_drop]; congr 1; omega, List.take_append_drop, show q.drop (11 + ixL q) = (q.drop (3 + ixL q)).drop 8 by rw [List.drop_drop]; congr 1; omega, List.take_append_drop]
  · have hy : q.getD (2 + ixL q) 0 = 0 := by
      have hne : ¬ q.getD (2 + ixL q) 0 = 1 := fun e => hft (by unfold ixF; rw [b8_1]; exact decide_eq_true e)
      generalize q.getD (2 + ixL q) 0 = y at *
      apply BitVec.eq_of_toNat_eq
      have : y.toNat ≠ 1 := fun e => hne (BitVec.eq_of_toNat_eq (by rw [e]; rfl))
      unfold b8 at h1
      show y.toNat = 0
      omega
    rw [if_neg hft, hy]
    unfold ixO
    rw [if_neg hft]
end
end Go.Proofs.YtgldkfaiofkhbaaDoor.IdxDec

namespace Go.Proofs.YtgldkfaiofkhbaaDoor.DecIdx
open Go Go.RowKit Go.Proofs.YtgldkfaiofkhbaaDoor Go.Proofs.YtgldkfaiofkhbaaDoor.Mem Go.Proofs.YtgldkfaiofkhbaaDoor.Sha Go.Proofs.YtgldkfaiofkhbaaDoor.Bytes Go.Proofs.YtgldkfaiofkhbaaDoor.TreeMath Go.Proofs.YtgldkfaiofkhbaaDoor.Sides Go.Proofs.YtgldkfaiofkhbaaDoor.TreeMem Go.Proofs.YtgldkfaiofkhbaaDoor.TreeRoot Go.Proofs.YtgldkfaiofkhbaaDoor.Held Go.Proofs.YtgldkfaiofkhbaaDoor.Reader Go.Proofs.YtgldkfaiofkhbaaDoor.Reader2 Go.Proofs.YtgldkfaiofkhbaaDoor.Reader3 Go.Proofs.YtgldkfaiofkhbaaDoor.Reader4 Go.Proofs.YtgldkfaiofkhbaaDoor.ProofIdx3 Go.Proofs.YtgldkfaiofkhbaaDoor.StructEq Go.Proofs.YtgldkfaiofkhbaaDoor.DecIdx0 Go.Proofs.YtgldkfaiofkhbaaDoor.IdxMem

theorem results_cell_row2 {P : Program} {fn : Func} {p u : Tmp} {ty : TypeId} (h : fn.results = #[.cell p ty, .tmp u]) (tmps : Array Value) (w : World) (g : Nat) (t : TypeId) (cs : Array Value) (fr : Nat × Nat) (d : TypeDesc)
    (hp : tmps.getD p undef = .pointer (some ⟨g, 0, none⟩)) (hg : w.heap[g]? = some (.cells cs t fr))
    (hu : P.underlying ty = some d) (hd : (match d with | .struct _ | .array _ _ => true | _ => false) = true) (hi : (P.info? ty).map (·.size) = some cs.size) :
    (results fn tmps).run P w = .ok (.tuple #[.agg cs, tmps.getD u undef]) w := by
  have hp' : tmps[p]?.getD undef = .pointer (some ⟨g, 0, none⟩) := by simpa using hp
  simp [results, h, hp', asAddr, run_loadVar_row w g t ty cs fr d hg hu hd hi, Result.andThen]
/-- An api.Indexed at rest. -/
abbrev zI : Array Value := #[Value.string ByteArray.empty, Value.bool false, Value.int .i64 0, Value.int .u8 0, Value.int .u8 0, Value.int .u8 0, Value.int .u8 0, Value.int .u8 0, Value.int .u8 0, Value.int .u8 0, Value.int .u8 0, Value.int .u8 0, Value.int .u8 0, Value.int .u8 0, Value.int .u8 0, Value.int .u8 0, Value.int .u8 0, Value.int .u8 0, Value.int .u8 0, Value.int .u8 0, Value.int .u8 0, Value.int .u8 0, Value.int .u8 0, Value.int .u8 0, Value.int .u8 0, Value.int .u8 0, Value.int .u8 0, Value.int .u8 0, Value.int .u8 0, Value.int .u8 0, Value.int .u8 0, Value.int .u8 0, Value.int .u8 0, Value.int .u8 0, Value.int .u8 0, Value.int .u8 0, Value.int .u8 0, Value.int .u8 0, Value.int .u8 0, Value.int .u8 0, Value.int .u8 0, Value.int .u8 0, Value.int .u8 0, Value.int .u8 0, Value.int .u8 0, Value.int .u8 0, Value.int .u8 0, Value.int .u8 0, Value.int .u8 0, Value.int .u8 0, Value.int .u8 0, Value.int .u8 0, Value.int .u8 0, Value.int .u8 0, Value.int .u8 0, Value.int .u8 0, Value.int .u8 0, Value.int .u8 0, Value.int .u8 0, Value.int .u8 0, Value.int .u8 0, Value.int .u8 0, Value.int .u8 0, Value.int .u8 0, Value.int .u8 0, Value.int .u8 0, Value.int .u8 0, Value.slice none 0 0]
theorem zI_eq : zI = (idxCells ByteArray.empty false (entC 0 (List.replicate 32 0)) (List.replicate 32 0) none 0 0).toArray := by rfl
theorem sizeX : (Tryd.prog.info? 55).map (·.size) = some 68 := by kernel_rfl
theorem oneX : (zI.all fun v => v.oneCell') = true := by rw [List.all_toArray]; rfl
/-- What an answer of DecodeIndexed is, in memory. -/
def DPost (w : World) (s : ByteArray) (f : Bool) (cnt : Int) (ch d : Text) (ds : List Text) (en : Int) (e : Ending) (w' : World) : Prop := ∃ A n c, e = .returned (.tuple #[.agg (idxCells s f (entC cnt ch) d A n c).toArray, .int .i64 en]) ∧ RdD w' A n ds ∧ (A = none → n = 0 ∧ c = 0) ∧ n ≤ c ∧ n ≤ 256 ∧ Below w.heap.size w w'
abbrev ZPost (w : World) (en : Int) : Ending → World → Prop := DPost w ByteArray.empty false 0 (List.replicate 32 0) (List.replicate 32 0) [] en

set_option maxRecDepth 100000 in
set_option maxHeartbeats 1000000 in
theorem dix_long (k : Nat) (h9 : 9000 < k) (A : Option Addr) (c : Nat) (w : World) :
    Calls Tryd.prog 29 #[.slice A k c] w (ZPost w 170) := by
  have hB1 : Hid (Blk (w.alloc (.cells zI 55)) w.heap.size 55 zI) := Blk.new w _ _
  have hb1 : Hid (Below w.heap.size w (w.alloc (.cells zI 55))) := Below.heap_below w _
  have hT := Lib.hid (fun w' => begun_long k h9 A c w')
  clear h9
  go_enter Tryd.func29, Tryd.ntmps29
  go_wp2_with (first
    | (go_at_call 64; refine (hT.out _).mono ?_; rintro e w' ⟨rfl, rfl⟩)
    | ((with_reducible change wpList _ _ _ ({ dst := none, op := Op.store 55 _ _, type := _, pos := _, after := _, guard := _ } :: _) _ _); refine wpList_store_row (o := ⟨none, _, _, _, _, _⟩) rfl 55 (.tmp 2) (.tmp 16) rfl (w.heap.size) zI rfl rfl 55 zI hB1.out sizeX rfl oneX ?_))
  refine bodyPost_ret (results_cell_row2 rfl _ _ w.heap.size 55 zI (0, 0) _ rfl (setRow_heap _ _ _ _ _ _ hB1.out) Tryd.underlying55 rfl sizeX) rfl ?_
  exact ⟨none, 0, 0, by rw [← zI_eq]; rfl, RdD.nil_ _ _, fun _ => ⟨rfl, rfl⟩, Nat.le_refl _, by omega, below_setRow hb1.out (Nat.le_refl _) _⟩

set_option maxRecDepth 100000 in
set_option maxHeartbeats 1000000 in
theorem dix_no (q : Text) (k : Nat) (hk : q.length = k) (h9 : ¬ 9000 < k) (hn : ¬ (1 ≤ k ∧ q.getD 0 0 = 50)) (A : Option Addr) (c : Nat) (w : World) (hr : Reads w 1 A k (cells8 q)) (hnil : A = none → k = 0 ∧ c = 0) :
    Calls Tryd.prog 29 #[.slice A k c] w (ZPost w 8) := by
  have hB1 : Hid (Blk (w.alloc (.cells zI 55)) w.heap.size 55 zI) := Blk.new w _ _
  have hb1 : Hid (Below w.heap.size w (w.alloc (.cells zI 55))) := Below.heap_below w _
  have hT := Lib.hid (begun_no q k hk h9 hn A c (w.alloc (.cells zI 55)) (hr.alloc _) hnil)
  clear hk h9 hn hr hnil
  go_enter Tryd.func29, Tryd.ntmps29
  go_wp2_with (first
    | (go_at_call 64; refine hT.out.mono ?_; rintro e w2 ⟨rfl, hb⟩; have hB2 : Hid (Blk w2 w.heap.size 55 zI) := (hb.block _ hB1.out.lt).trans hB1.out; have hb2 : Hid (Below w.heap.size w w2) := hb1.out.trans (hb.mono hb1.out.size); clear hb)
    | ((with_reducible change wpList _ _ _ ({ dst := none, op := Op.store 55 _ _, type := _, pos := _, after := _, guard := _ } :: _) _ _); refine wpList_store_row (o := ⟨none, _, _, _, _, _⟩) rfl 55 (.tmp 2) (.tmp 16) rfl (w.heap.size) zI rfl rfl 55 zI hB2.out sizeX rfl oneX ?_))
  refine bodyPost_ret (results_cell_row2 rfl _ _ w.heap.size 55 zI (0, 0) _ rfl (setRow_heap _ _ _ _ _ _ hB2.out) Tryd.underlying55 rfl sizeX) rfl ?_
  exact ⟨none, 0, 0, by rw [← zI_eq]; rfl, RdD.nil_ _ _, fun _ => ⟨rfl, rfl⟩, Nat.le_refl _, by omega, below_setRow hb2.out (Nat.le_refl _) _⟩
end Go.Proofs.YtgldkfaiofkhbaaDoor.DecIdx

namespace Go.Proofs.YtgldkfaiofkhbaaDoor.DecIdx2
open Go Go.RowKit Go.Proofs.YtgldkfaiofkhbaaDoor Go.Proofs.YtgldkfaiofkhbaaDoor.Mem Go.Proofs.YtgldkfaiofkhbaaDoor.Sha Go.Proofs.YtgldkfaiofkhbaaDoor.Bytes Go.Proofs.YtgldkfaiofkhbaaDoor.TreeMath Go.Proofs.YtgldkfaiofkhbaaDoor.Sides Go.Proofs.YtgldkfaiofkhbaaDoor.TreeMem Go.Proofs.YtgldkfaiofkhbaaDoor.TreeRoot Go.Proofs.YtgldkfaiofkhbaaDoor.Held Go.Proofs.YtgldkfaiofkhbaaDoor.Reader Go.Proofs.YtgldkfaiofkhbaaDoor.Reader2 Go.Proofs.YtgldkfaiofkhbaaDoor.Reader3 Go.Proofs.YtgldkfaiofkhbaaDoor.Reader4 Go.Proofs.YtgldkfaiofkhbaaDoor.ProofIdx3 Go.Proofs.YtgldkfaiofkhbaaDoor.StructEq Go.Proofs.YtgldkfaiofkhbaaDoor.DecIdx0 Go.Proofs.YtgldkfaiofkhbaaDoor.IdxMem Go.Proofs.YtgldkfaiofkhbaaDoor.DecIdx Go.Proofs.YtgldkfaiofkhbaaDoor.Flag Go.Proofs.YtgldkfaiofkhbaaDoor.Reader5 Go.Proofs.YtgldkfaiofkhbaaDoor.DecIncl Go.Proofs.YtgldkfaiofkhbaaDoor.IdxBuild Go.Proofs.YtgldkfaiofkhbaaDoor.Book Go.Proofs.YtgldkfaiofkhbaaDoor.Guard Go.Proofs.YtgldkfaiofkhbaaDoor.ProofIdx Go.Proofs.YtgldkfaiofkhbaaDoor.IdxAny Go.Proofs.YtgldkfaiofkhbaaDoor.Reader6 Go.Proofs.YtgldkfaiofkhbaaDoor.IdxDec

theorem unhid {p : Prop} (h : Hid p) : p := h.out
theorem sizeE : (Tryd.prog.info? 53).map (·.size) = some 33 := by kernel_rfl
theorem fit33 {nm : ByteArray} {f : Bool} : 2 + 33 ≤ (idxCells nm f (entC 0 (List.replicate 32 0)) (List.replicate 32 0) none 0 0).toArray.size := by
  simp [idxCells, entC, cells8_len]
theorem cells8_one {t : Text} (v : Value) (hv : v ∈ cells8 t) : v.oneCell' = true := by
  unfold cells8 at hv
  obtain ⟨x, -, rfl⟩ := List.mem_map.1 hv
  rfl
theorem Rd.apart {w : World} {g need c : Nat} {q : Text} {A : Option Addr} (h : Rd w g q A c need) : 0 < q.length → ∀ b o, A = some ⟨b, o, none⟩ → b < w.heap.size := by
  obtain ⟨at_, why, hb, hr, h1⟩ := h
  intro hp b o e
  obtain ⟨b', o', e', hlt, _⟩ := hr.2 (by omega)
  rw [e] at e'
  injection e' with e'
  injection e' with e1
  subst e1
  exact hlt
theorem Rd.far_ {w w' : World} {g need c gp : Nat} {q : Text} {A : Option Addr} (h : Rd w g q A c need) (hgp : g ≠ gp) (hA : 0 < q.length → ∀ b o, A = some ⟨b, o, none⟩ → b ≠ gp) (hk : Kept (· = gp) w w') : Rd w' g q A c need := by
  obtain ⟨at_, why, hb, hr, h1⟩ := h
  exact ⟨at_, why, hb.kept hk hgp, hr.kept0 hk (fun hp b o e => hA (by omega) b o e), h1⟩
theorem wpList_conv {P : Program} {ops : Array Oper} {rest : List Oper} {o : Oper} {a : Act} {w : World} {Q : Exit → Act → World → Prop} (hgd : o.guard = none) (ta tb : TypeId) (x : Operand) (ho : o.op = .convert ta tb x) (v v' : Value) (hx : a.eval x = v) (hr : (convert ta tb v).run P w = .ok v' w)
    (h : wpList P ops Q rest (a.put o.dst v') w) : wpList P ops Q (o :: rest) a w := by
  refine wpList_plain hgd fun K hK => ?_
  unfold Oper.wp execOp
  simp only [ho, hx, Sem.run_bind, Sem.run_pure, Result.andThen_ok, hr]
  exact hK _ _ h
/-- An answer, as it lies in memory. -/
def APostX (w : World) (X : Ans) : Ending → World → Prop := DPost w X.1 X.2.1 X.2.2.1 X.2.2.2.1 X.2.2.2.2.1 X.2.2.2.2.2.1 X.2.2.2.2.2.2
theorem zpostX {w w' : World} {en : Int} {e : Ending} (he : e = .returned (.tuple #[.agg zI, .int .i64 en])) (hb : Below w.heap.size w w') : APostX w (zAns en) e w' :=
  ⟨none, 0, 0, by rw [he, zI_eq]; rfl, RdD.nil_ _ _, fun _ => ⟨rfl, rfl⟩, Nat.le_refl _, by omega, hb⟩
theorem fit32 {nm : ByteArray} {f : Bool} {ent : List Value} {d : Text} {A : Option Addr} {n c : Nat} (he : ent.length = 33) (hd : d.length = 32) : 35 + 32 ≤ (idxCells nm f ent d A n c).toArray.size := by
  simp [idxCells, cells8_len, he, hd]
theorem one_idx {nm : ByteArray} {f : Bool} {cnt : Int} {ch d : Text} {A : Option Addr} {n c : Nat} : ((idxCells nm f (entC cnt ch) d A n c).toArray.all fun v => v.oneCell') = true := by
  rw [List.all_toArray]
  refine List.all_eq_true.2 fun v hv => ?_
  simp only [idxCells, entC, List.mem_append, List.mem_cons, List.not_mem_nil, or_false] at hv
  rcases hv with ((((rfl | rfl) | (rfl | h)) | h) | rfl)
  · rfl
  · rfl
  · rfl
  · exact cells8_one v h
  · exact cells8_one v h
  · rfl
theorem size_idx {nm : ByteArray} {f : Bool} {cnt : Int} {ch d : Text} {A : Option Addr} {n c : Nat} (hch : ch.length = 32) (hd : d.length = 32) : (Tryd.prog.info? 55).map (·.size) = some (idxCells nm f (entC cnt ch) d A n c).toArray.size := by
  have : (idxCells nm f (entC cnt ch) d A n c).toArray.size = 68 := by simp [idxCells, entC_len hch, cells8_len, hd]
  rw [this]
  exact sizeX
set_option maxRecDepth 100000 in
set_option maxHeartbeats 4000000 in
theorem dix_main (q : Text) (k : Nat) (hk : q.length = k) (h9 : ¬ 9000 < k) (h1 : 1 ≤ k) (hy : q.getD 0 0 = 50) (A : Option Addr) (c : Nat) (w : World) (hr : Reads w 1 A k (cells8 q)) (hnil : A = none → k = 0 ∧ c = 0) :
    Calls Tryd.prog 29 #[.slice A k c] w (APostX w (ixAns q)) := by
  obtain ⟨X, hX⟩ : ∃ X, Hid (ixAns q = X) := ⟨_, Lib.hid rfl⟩
  rw [hX.out]
  have hqk : Hid (¬ 9000 < q.length) := by show ¬ _; omega
  have hyy := Lib.hid hy
  have hB1 : Hid (Blk (w.alloc (.cells zI 55)) w.heap.size 55 zI) := Blk.new w _ _
  have hb1 : Hid (Below w.heap.size w (w.alloc (.cells zI 55))) := Below.heap_below w _
  have hz1 : Hid ((w.alloc (.cells zI 55)).heap.size = w.heap.size + 1) := by show _ = _; simp
  have hT := Lib.hid (begun_yes q k hk h9 h1 hy A c (w.alloc (.cells zI 55)) (hr.alloc _) hnil)
  have hq47 : Hid (q.length < 140737488355328) := by show _ < _; omega
  clear hk h9 h1 hy hr hnil
  go_enter Tryd.func29, Tryd.ntmps29
  go_wp2_with fail
  refine hT.out.mono ?_
  rintro e w2 ⟨g, A', c', rfl, hg, hR2, hb⟩
  have hB2 : Hid (Blk w2 w.heap.size 55 zI) := (hb.block _ hB1.out.lt).trans hB1.out
  have hb2 : Hid (Below w.heap.size w w2) := hb1.out.trans (hb.mono hb1.out.size)
  have hgw : Hid (w.heap.size < g) := by have := hz1.out; show _ < _; omega
  replace hR2 := Lib.hid hR2
  clear hb hg hT hB1 hb1 hz1
  go_wp2_with fail
  have hB3 : Hid (Blk (w2.alloc (.cells zI 55)) w.heap.size 55 zI) := hB2.out.alloc _
  have hP3 : Hid (Blk (w2.alloc (.cells zI 55)) w2.heap.size 55 zI) := Blk.new w2 _ _
  have hb3 : Hid (Below w.heap.size w (w2.alloc (.cells zI 55))) := hb2.out.alloc hb2.out.size _
  have hR3 : Hid (Rd (w2.alloc (.cells zI 55)) g q A' c' 1) := hR2.out.alloc _
  have hgp : Hid (g < w2.heap.size) := hR2.out.lt
  have hAp : Hid (0 < q.length → ∀ b o, A' = some ⟨b, o, none⟩ → b < w2.heap.size) := Rd.apart hR2.out
  refine (take1_any q hq47.out g 1 A' c' _ hR3.out).mono ?_
  rintro e w4 ⟨y, rfl, hy4, hR4, hk4⟩
  have hB4 : Hid (Blk w4 w.heap.size 55 zI) := hB3.out.kept hk4 (by have := hgw.out; omega)
  have hP4 : Hid (Blk w4 w2.heap.size 55 zI) := hP3.out.kept hk4 (by have := hgp.out; omega)
  have hb4 : Hid (Below w.heap.size w w4) := hb3.out.trans (Kept.below_of hk4 (Nat.le_of_lt hgw.out) hb3.out.size)
  replace hR4 : Hid (Rd w4 g q A' c' 2) := hR4
  replace hy4 := Lib.hid hy4
  clear hk4 hB3 hP3 hb3 hR3 hR2 hB2 hb2
  generalize w2.heap.size = gp at *
  have ey : b8 y = ((y.toNat : Nat) : Int) := rfl
  have ylt := y.isLt
  go_wp2_with fail
  refine (raw_any q hq47.out g 2 y.toNat (by omega) A' c' w4 hR4.out).mono ?_
  rintro e w5 ⟨Ap, cp, p, rfl, hp1, hp2, hO5, hR5, hk5⟩
  have hB5 : Hid (Blk w5 w.heap.size 55 zI) := hB4.out.kept hk5 (by have := hgw.out; omega)
  have hP5 : Hid (Blk w5 gp 55 zI) := hP4.out.kept hk5 (by have := hgp.out; omega)
  have hb5 : Hid (Below w.heap.size w w5) := hb4.out.trans (Kept.below_of hk5 (Nat.le_of_lt hgw.out) hb4.out.size)
  replace hR5 := Lib.hid hR5
  have hpl : Hid (p.length ≤ q.length) := by
    show _ ≤ _
    by_cases h : 2 + y.toNat ≤ q.length
    · rw [hp1 h, List.length_take, List.length_drop]; omega
    · rw [hp2 (by omega)]; exact Nat.zero_le _
  replace hp1 := Lib.hid hp1
  replace hp2 := Lib.hid hp2
  have hcv := Lib.hid (convAny p Ap cp w5 hO5.1)
  have c5 : w5.cell? ⟨gp, 0, none⟩ = some (.string ByteArray.empty) := hP5.out.cell 0
  have f5 := hP5.out.frozen 0
  clear hk5 hO5 hB4 hP4 hb4 hR4
  go_wp2_with ((with_reducible change wpList _ _ _ ({ dst := some 23, op := _, type := _, pos := _, after := _, guard := _ } :: _) _ _); refine wpList_conv (o := ⟨some 23, _, _, _, _, _⟩) rfl 31 9 (.tmp 22) rfl _ _ rfl hcv.out ?_)
  have hB6 : Hid (Blk (w5.setCell ⟨gp, 0, none⟩ (.string (strT p))) w.heap.size 55 zI) := hB5.out.far (by show w.heap.size ≠ gp; have := hgw.out; have := hgp.out; omega) _
  have hP6 : Hid (Blk (w5.setCell ⟨gp, 0, none⟩ (.string (strT p))) gp 55 (idxCells (strT p) false (entC 0 (List.replicate 32 0)) (List.replicate 32 0) none 0 0).toArray) := by
    have := hP5.out.set_ 0 (.string (strT p))
    rw [zI_eq, set_name] at this
    exact this
  have hb6 : Hid (Below w.heap.size w (w5.setCell ⟨gp, 0, none⟩ (.string (strT p)))) := hb5.out.setCell (by show w.heap.size ≤ gp; have := hgw.out; have := hgp.out; omega) _
  have hR6 : Hid (Rd (w5.setCell ⟨gp, 0, none⟩ (.string (strT p))) g q A' c' (2 + y.toNat)) := Rd.far_ (gp := gp) hR5.out (by have := hgp.out; omega) (fun h b o e => by have := hAp.out h b o e; omega) (Kept.setCell (S := (· = gp)) (p := ⟨gp, 0, none⟩) (Kept.refl (· = gp) _) (.inl rfl) _)
  clear hB5 hP5 hb5 hR5 c5 f5 hcv
  refine (flag_any q hq47.out g (2 + y.toNat) A' c' _ hR6.out).mono ?_
  rintro e w7 ⟨rfl, hR7, hk7⟩
  have hB7 : Hid (Blk w7 w.heap.size 55 zI) := hB6.out.kept hk7 (by have := hgw.out; omega)
  have hP7 : Hid (Blk w7 gp 55 (idxCells (strT p) false (entC 0 (List.replicate 32 0)) (List.replicate 32 0) none 0 0).toArray) := hP6.out.kept hk7 (by have := hgp.out; omega)
  have hb7 : Hid (Below w.heap.size w w7) := hb6.out.trans (Kept.below_of hk7 (Nat.le_of_lt hgw.out) hb6.out.size)
  replace hR7 := Lib.hid hR7
  clear hk7 hB6 hP6 hb6 hR6
  obtain ⟨fb, hfb⟩ : ∃ fb, Hid ((flagB q (2 + y.toNat) && (b8 (q.getD (2 + y.toNat) 0) == 1)) = fb) := ⟨_, Lib.hid rfl⟩
  rw [hfb.out]
  have c7 : w7.cell? ⟨gp, 1, none⟩ = some (.bool false) := hP7.out.cell 1
  have f7 := hP7.out.frozen 1
  have hP8 : Hid (Blk (w7.setCell ⟨gp, 1, none⟩ (.bool fb)) gp 55 (idxCells (strT p) fb (entC 0 (List.replicate 32 0)) (List.replicate 32 0) none 0 0).toArray) := by
    have := hP7.out.set_ 1 (.bool fb)
    rw [set_found] at this
    exact this
  have c8 : (w7.setCell ⟨gp, 1, none⟩ (.bool fb)).cell? ⟨gp, 1, none⟩ = some (.bool fb) := hP8.out.cell 1
  have hB8 : Hid (Blk (w7.setCell ⟨gp, 1, none⟩ (.bool fb)) w.heap.size 55 zI) := hB7.out.far (by show w.heap.size ≠ gp; have := hgw.out; have := hgp.out; omega) _
  have hb8 : Hid (Below w.heap.size w (w7.setCell ⟨gp, 1, none⟩ (.bool fb))) := hb7.out.setCell (by show w.heap.size ≤ gp; have := hgw.out; have := hgp.out; omega) _
  have hR8 : Hid (Rd (w7.setCell ⟨gp, 1, none⟩ (.bool fb)) g q A' c' (flagN q (2 + y.toNat))) := Rd.far_ (gp := gp) hR7.out (by have := hgp.out; omega) (fun h b o e => by have := hAp.out h b o e; omega) (Kept.setCell (S := (· = gp)) (p := ⟨gp, 1, none⟩) (Kept.refl (· = gp) _) (.inl rfl) _)
  obtain ⟨w8, hw8⟩ : ∃ w8, Hid ((w7.setCell ⟨gp, 1, none⟩ (.bool fb)) = w8) := ⟨_, Lib.hid rfl⟩
  cases fb with
  | false =>
    go_wp2_with fail
    clear c7 f7 c8
    generalize w7.setCell ⟨gp, 1, none⟩ (.bool false) = wt at *
    refine (digest_any q hq47.out g (flagN q (2 + y.toNat)) A' c' wt hR8.out).mono ?_
    rintro e w12 ⟨d, rfl, hdl, hdd, hR12, hk12⟩
    have hB12 : Hid (Blk w12 w.heap.size 55 zI) := hB8.out.kept hk12 (by have := hgw.out; omega)
    have hP12 : Hid (Blk w12 gp 55 (idxCells (strT p) false (entC 0 (List.replicate 32 0)) (List.replicate 32 0) none 0 0).toArray) := hP8.out.kept hk12 (by have := hgp.out; omega)
    have hb12 : Hid (Below w.heap.size w w12) := hb8.out.trans (Kept.below_of hk12 (Nat.le_of_lt hgw.out) hb8.out.size)
    replace hR12 := Lib.hid hR12
    replace hdd := Lib.hid hdd
    replace hdl := Lib.hid hdl
    clear hk12 hB8 hP8 hb8 hR8 hR7 hP7 hb7 hB7 hw8
    have zd1 : (cells8 d).length = 32 := by rw [cells8_len, hdl.out]
    have zd2 : (cells8 d).toArray.size = 32 := by rw [List.size_toArray, cells8_len, hdl.out]
    have hdall : Hid (((cells8 d).toArray.all fun v => v.oneCell') = true) := by
      show _ = _
      rw [List.all_toArray]
      exact List.all_eq_true.2 fun v hv => cells8_one v hv
    have hdsz : Hid ((Tryd.prog.info? 23).map (·.size) = some (cells8 d).toArray.size) := by show _ = _; rw [zd2]; exact size31
    go_wp2_with ((with_reducible change wpList _ _ _ ({ dst := none, op := Op.store 23 _ _, type := _, pos := _, after := _, guard := _ } :: _) _ _); refine unhid ?_)
    refine Lib.hid ?_
    with_reducible change wpList _ _ _ ({ dst := none, op := Op.store 23 _ _, type := _, pos := _, after := _, guard := _ } :: _) _ _
    refine wpList_store_part (o := ⟨none, _, _, _, _, _⟩) rfl 23 (.tmp 45) (.tmp 44) rfl gp 35 (cells8 d).toArray rfl rfl 55 (idxCells (strT p) false (entC 0 (List.replicate 32 0)) (List.replicate 32 0) none 0 0).toArray hP12.out hdsz.out (by rw [zd2]; exact fit32 (entC_len (by rfl)) (by rfl)) hdall.out ?_
    rw [set_bm (entC_len (by rfl)) (by rfl) hdl.out]
    have hP13 : Hid (Blk (w12.setRow gp (idxCells (strT p) false (entC 0 (List.replicate 32 0)) d none 0 0).toArray) gp 55 (idxCells (strT p) false (entC 0 (List.replicate 32 0)) d none 0 0).toArray) := setRow_heap _ _ _ _ _ _ hP12.out
    have hk13 : Kept (· = gp) w12 (w12.setRow gp (idxCells (strT p) false (entC 0 (List.replicate 32 0)) d none 0 0).toArray) := Bytes.Kept.setRow (S := (· = gp)) (Kept.refl _ _) rfl _
    have hB13 : Hid (Blk (w12.setRow gp (idxCells (strT p) false (entC 0 (List.replicate 32 0)) d none 0 0).toArray) w.heap.size 55 zI) := hB12.out.kept hk13 (by have := hgw.out; have := hgp.out; omega)
    have hb13 : Hid (Below w.heap.size w (w12.setRow gp (idxCells (strT p) false (entC 0 (List.replicate 32 0)) d none 0 0).toArray)) := below_setRow hb12.out (by have := hgw.out; have := hgp.out; omega) _
    have hR13 : Hid (Rd (w12.setRow gp (idxCells (strT p) false (entC 0 (List.replicate 32 0)) d none 0 0).toArray) g q A' c' (flagN q (2 + y.toNat) + 32)) := Rd.far_ (gp := gp) hR12.out (by have := hgp.out; omega) (fun h b o e => by have := hAp.out h b o e; omega) hk13
    generalize w12.setRow gp (idxCells (strT p) false (entC 0 (List.replicate 32 0)) d none 0 0).toArray = w13 at *
    clear hk13 hP12 hB12 hb12 hR12 hdall hdsz
    go_wp2_with ((with_reducible change wpList _ _ _ ({ dst := some 48, op := _, type := _, pos := _, after := _, guard := _ } :: _) _ _); refine wpList_load_part (o := ⟨some 48, _, _, _, _, _⟩) rfl 23 (.tmp 47) rfl gp 35 rfl (cells8 d) _ (fun j v h => by rw [hP13.out.cell (35 + j), List.getElem?_toArray]; exact idx_bitmap (entC_len (by rfl)) j v h) Tryd.underlying23 rfl (by rw [zd1]; exact size31) ?_)
    refine (ones_any d hdl.out w13).mono ?_
    rintro e w14 ⟨rfl, hk14⟩
    have hB14 : Hid (Blk w14 w.heap.size 55 zI) := (hk14.block _ hB13.out.lt).trans hB13.out
    have hP14 : Hid (Blk w14 gp 55 (idxCells (strT p) false (entC 0 (List.replicate 32 0)) d none 0 0).toArray) := (hk14.block _ hP13.out.lt).trans hP13.out
    have hb14 : Hid (Below w.heap.size w w14) := hb13.out.trans (hk14.mono hb13.out.size)
    have hR14 : Hid (Rd w14 g q A' c' (flagN q (2 + y.toNat) + 32)) := hR13.out.below hk14
    clear hk14 hB13 hP13 hb13 hR13 zd2
    obtain ⟨n, hn⟩ : ∃ n, Hid (onesOf d = n) := ⟨_, Lib.hid rfl⟩
    have hn256 : Hid (n ≤ 256) := by have := onesOf_le d; have h1 := hn.out; have h2 := hdl.out; show _ ≤ _; omega
    rw [hn.out]
    go_wp2_with fail
    refine (digestsR_any q hq47.out g (flagN q (2 + y.toNat) + 32) n (by have := hn256.out; omega) A' c' w14 hR14.out).mono ?_
    rintro e w15 ⟨A1, m, ds, rfl, hL15, hnil15, hm15, hfit15, hnew15, hR15, hk15⟩
    have hP15 : Hid (Blk w15 gp 55 (idxCells (strT p) false (entC 0 (List.replicate 32 0)) d none 0 0).toArray) := hP14.out.kept hk15 (by have := hgp.out; omega)
    have hB15 : Hid (Blk w15 w.heap.size 55 zI) := hB14.out.kept hk15 (by have := hgw.out; omega)
    have hb15 : Hid (Below w.heap.size w w15) := hb14.out.trans (Kept.below_of hk15 (Nat.le_of_lt hgw.out) hb14.out.size)
    have hnewg : Hid (∀ b o x, A1 = some ⟨b, o, x⟩ → gp < b) := fun b o x e => Nat.lt_of_lt_of_le hP14.out.lt (hnew15 b o x e)
    replace hR15 := Lib.hid hR15
    replace hL15 := Lib.hid hL15
    replace hnil15 := Lib.hid hnil15
    replace hm15 := Lib.hid hm15
    replace hfit15 := Lib.hid hfit15
    clear hnew15 hk15 hB14 hP14 hb14 hR14
    have c15 : w15.cell? ⟨gp, 67, none⟩ = some (.slice none 0 0) := by rw [hP15.out.cell 67, List.getElem?_toArray]; exact idx_way (entC_len (by rfl)) hdl.out
    have f15 := hP15.out.frozen 67
    have hk16 : Kept (· = gp) w15 (w15.setCell ⟨gp, 67, none⟩ (.slice A1 m m)) := Kept.setCell (S := (· = gp)) (p := ⟨gp, 67, none⟩) (Kept.refl (· = gp) _) (.inl rfl) _
    have hP16 : Hid (Blk (w15.setCell ⟨gp, 67, none⟩ (.slice A1 m m)) gp 55 (idxCells (strT p) false (entC 0 (List.replicate 32 0)) d A1 m m).toArray) := by
      have := hP15.out.set_ 67 (.slice A1 m m)
      rw [set_way (entC_len (by rfl)) hdl.out] at this
      exact this
    have hB16 : Hid (Blk (w15.setCell ⟨gp, 67, none⟩ (.slice A1 m m)) w.heap.size 55 zI) := hB15.out.kept hk16 (by have := hgw.out; have := hgp.out; omega)
    have hb16 : Hid (Below w.heap.size w (w15.setCell ⟨gp, 67, none⟩ (.slice A1 m m))) := hb15.out.trans (Kept.below_of hk16 (by have := hgw.out; have := hgp.out; omega) hb15.out.size)
    have hR16 : Hid (Rd (w15.setCell ⟨gp, 67, none⟩ (.slice A1 m m)) g q A' c' (flagN q (2 + y.toNat) + 32 + 32 * n)) := Rd.far_ (gp := gp) hR15.out (by have := hgp.out; omega) (fun h b o e => by have := hAp.out h b o e; omega) hk16
    have hL16 : Hid (RdD (w15.setCell ⟨gp, 67, none⟩ (.slice A1 m m)) A1 m ds) := ⟨hL15.out.1, hL15.out.2.1, hL15.out.2.2.kept hk16 (fun b o e h => by have h3 := hnewg.out _ _ _ e; have h : b = gp := h; omega)⟩
    obtain ⟨w16, hw16⟩ : ∃ w16, Hid ((w15.setCell ⟨gp, 67, none⟩ (.slice A1 m m)) = w16) := ⟨_, Lib.hid rfl⟩
    clear hk16 hB15 hP15 hb15 hR15 hL15
    go_wp2_with fail
    clear c15 f15 hw16
    generalize w15.setCell ⟨gp, 67, none⟩ (.slice A1 m m) = w17 at *
    refine (done_any q hq47.out g (flagN q (2 + y.toNat) + 32 + 32 * n) A' c' w17 hR16.out).mono ?_
    rintro e w18 ⟨rfl, k18, rfl⟩
    have hB18 : Hid (Blk (w17.drewN k18) w.heap.size 55 zI) := hB16.out.drewN k18
    have hP18 : Hid (Blk (w17.drewN k18) gp 55 (idxCells (strT p) false (entC 0 (List.replicate 32 0)) d A1 m m).toArray) := hP16.out.drewN k18
    have hb18 : Hid (Below w.heap.size w (w17.drewN k18)) := below_drawn hb16.out k18
    have hL18 : Hid (RdD (w17.drewN k18) A1 m ds) := hL16.out.drewN k18
    generalize w17.drewN k18 = w18 at *
    clear hB16 hP16 hb16 hL16 hR16
    have hAns := Lib.hid (ans_nf hqk.out hyy.out hy4.out hp1.out hfb.out hdd.out)
    rw [hn.out] at hAns
    by_cases hend : flagN q (2 + y.toNat) + 32 + 32 * n = q.length
    · have hdone : doneOf (flagN q (2 + y.toNat) + 32 + 32 * n) q.length = 0 := if_pos hend
      rw [hdone]
      obtain ⟨rfl, rfl⟩ := hfit15.out (by omega)
      obtain ⟨b, hb⟩ : ∃ b, Hid (okIx (strT p) false 0 (List.replicate 32 0) d m = b) := ⟨_, Lib.hid rfl⟩
      have hI := Lib.hid (fun w' => indexed_any (strT p) (by rw [strT_size]; have := hpl.out; have := hq47.out; omega) false 0 (List.replicate 32 0) (by rfl) d hdl.out A1 m m w')
      rw [hb.out] at hI
      have hszc : Hid ((Tryd.prog.info? 55).map (·.size) = some (idxCells (strT p) false (entC 0 (List.replicate 32 0)) d A1 m m).toArray.size) := size_idx (by rfl) hdl.out
      have honec : Hid (((idxCells (strT p) false (entC 0 (List.replicate 32 0)) d A1 m m).toArray.all fun v => v.oneCell') = true) := one_idx
      have hzc : Hid ((idxCells (strT p) false (entC 0 (List.replicate 32 0)) d A1 m m).toArray.size = zI.size) := by show _ = _; rw [List.size_toArray, idx_len (entC_len (by rfl)) hdl.out]; rfl
      obtain ⟨cs, hcs⟩ : ∃ cs, Hid ((idxCells (strT p) false (entC 0 (List.replicate 32 0)) d A1 m m).toArray = cs) := ⟨_, Lib.hid rfl⟩
      rw [hcs.out] at hI hP18 hszc honec hzc
      cases b with
      | false =>
        have hXX : X = zAns 8 := by
          rw [← hX.out]
          exact hAns.out.2 (fun h => by rw [hb.out] at h; cases h.2)
        clear hAns hend hdone
        go_wp2_with (first
          | ((with_reducible change wpList _ _ _ ({ dst := some 56, op := _, type := _, pos := _, after := _, guard := _ } :: _) _ _); refine wpList_load_rowG (o := ⟨some 56, _, _, _, _, _⟩) rfl 55 (.tmp 6) rfl gp rfl 55 _ (0, 0) _ hP18.out Tryd.underlying55 rfl hszc.out ?_)
          | (go_at_call 72; refine (hI.out _).mono ?_; rintro e w19 ⟨rfl, hk19⟩; have hB19 : Hid (Blk w19 w.heap.size 55 zI) := (hk19.block _ hB18.out.lt).trans hB18.out; have hb19 : Hid (Below w.heap.size w w19) := hb18.out.trans (hk19.mono hb18.out.size); clear hk19)
          | ((with_reducible change wpList _ _ _ ({ dst := none, op := Op.store 55 _ _, type := _, pos := _, after := _, guard := _ } :: _) _ _); refine wpList_store_row (o := ⟨none, _, _, _, _, _⟩) rfl 55 (.tmp 2) (.tmp 60) rfl (w.heap.size) zI rfl rfl 55 zI hB19.out sizeX rfl oneX ?_))
        refine bodyPost_ret (results_cell_row2 rfl _ _ w.heap.size 55 zI (0, 0) _ rfl (setRow_heap _ _ _ _ _ _ hB19.out) Tryd.underlying55 rfl sizeX) rfl ?_
        rw [hXX]
        exact zpostX rfl (below_setRow hb19.out (Nat.le_refl _) _)
      | true =>
        have hXX : X = (strT p, false, 0, (List.replicate 32 0), d, chunks (q.drop (flagN q (2 + y.toNat) + 32)) m, 0) := by
          rw [← hX.out]
          exact hAns.out.1 hend hb.out
        clear hAns hend hdone
        go_wp2_with (first
          | ((with_reducible change wpList _ _ _ ({ dst := some 56, op := _, type := _, pos := _, after := _, guard := _ } :: _) _ _); refine wpList_load_rowG (o := ⟨some 56, _, _, _, _, _⟩) rfl 55 (.tmp 6) rfl gp rfl 55 _ (0, 0) _ hP18.out Tryd.underlying55 rfl hszc.out ?_)
          | (go_at_call 72; refine (hI.out _).mono ?_; rintro e w19 ⟨rfl, hk19⟩; have hB19 : Hid (Blk w19 w.heap.size 55 zI) := (hk19.block _ hB18.out.lt).trans hB18.out; have hP19 : Hid (Blk w19 gp 55 cs) := (hk19.block _ hP18.out.lt).trans hP18.out; have hb19 : Hid (Below w.heap.size w w19) := hb18.out.trans (hk19.mono hb18.out.size); have hL19 : Hid (RdD w19 A1 m (chunks (q.drop (flagN q (2 + y.toNat) + 32)) m)) := hL18.out.below hk19; clear hk19)
          | ((with_reducible change wpList _ _ _ ({ dst := some 61, op := _, type := _, pos := _, after := _, guard := _ } :: _) _ _); refine wpList_load_row (o := ⟨some 61, _, _, _, _, _⟩) rfl 55 (.tmp 6) rfl gp rfl 55 _ (0, 0) _ hP19.out Tryd.underlying55 rfl hszc.out ?_)
          | ((with_reducible change wpList _ _ _ ({ dst := none, op := Op.store 55 _ _, type := _, pos := _, after := _, guard := _ } :: _) _ _); refine wpList_store_row (o := ⟨none, _, _, _, _, _⟩) rfl 55 (.tmp 2) (.tmp 61) rfl (w.heap.size) cs rfl rfl 55 zI hB19.out hszc.out hzc.out.symm honec.out ?_))
        refine bodyPost_ret (results_cell_row2 rfl _ _ w.heap.size 55 cs (0, 0) _ rfl (setRow_heap _ _ _ _ _ _ hB19.out) Tryd.underlying55 rfl hszc.out) rfl ?_
        rw [hXX]
        exact ⟨A1, m, m, by rw [← hcs.out]; rfl, ⟨hL19.out.1, hL19.out.2.1, hL19.out.2.2.kept (Bytes.Kept.setRow (S := (· = w.heap.size)) (Kept.refl _ _) rfl _) (fun b o e h => by have h3 := hnewg.out _ _ _ e; have := hgw.out; have := hgp.out; have h : b = w.heap.size := h; omega)⟩, hnil15.out, Nat.le_refl _, hn256.out, below_setRow hb19.out (Nat.le_refl _) _⟩
    · have hdone : doneOf (flagN q (2 + y.toNat) + 32 + 32 * n) q.length = 8 := if_neg hend
      rw [hdone]
      have hXX : X = zAns 8 := by
        rw [← hX.out]
        exact hAns.out.2 (fun h => hend h.1)
      clear hAns hend hdone
      go_wp2_with ((with_reducible change wpList _ _ _ ({ dst := none, op := Op.store 55 _ _, type := _, pos := _, after := _, guard := _ } :: _) _ _); refine wpList_store_row (o := ⟨none, _, _, _, _, _⟩) rfl 55 (.tmp 2) (.tmp 60) rfl (w.heap.size) zI rfl rfl 55 zI hB18.out sizeX rfl oneX ?_)
      refine bodyPost_ret (results_cell_row2 rfl _ _ w.heap.size 55 zI (0, 0) _ rfl (setRow_heap _ _ _ _ _ _ hB18.out) Tryd.underlying55 rfl sizeX) rfl ?_
      rw [hXX]
      exact zpostX rfl (below_setRow hb18.out (Nat.le_refl _) _)
  | true =>
    go_wp2_with fail
    refine (ptake_any q hq47.out g (flagN q (2 + y.toNat)) A' c' _ hR8.out).mono ?_
    rintro e w9 ⟨N, rfl, hN, hR9, hk9⟩
    have hB9 : Hid (Blk w9 w.heap.size 55 zI) := hB8.out.kept hk9 (by have := hgw.out; omega)
    have hP9 : Hid (Blk w9 gp 55 (idxCells (strT p) true (entC 0 (List.replicate 32 0)) (List.replicate 32 0) none 0 0).toArray) := hP8.out.kept hk9 (by have := hgp.out; omega)
    have hb9 : Hid (Below w.heap.size w w9) := hb8.out.trans (Kept.below_of hk9 (Nat.le_of_lt hgw.out) hb8.out.size)
    replace hR9 := Lib.hid hR9
    replace hN := Lib.hid hN
    clear hk9 hB8 hP8 hb8 hR8 c8 c7 f7 hB7 hP7 hb7 hR7 hw8
    obtain ⟨xn, hxn⟩ : ∃ x, Hid (lgInt N = x) := ⟨_, Lib.hid rfl⟩
    rw [hxn.out]
    by_cases hbig : N ≤ 1099511627776
    · rw [decide_eq_true hbig]
      go_wp2_with fail
      refine (digest_any q hq47.out g (flagN q (2 + y.toNat) + 8) A' c' w9 hR9.out).mono ?_
      rintro e w10 ⟨ch, rfl, hchl, hch, hR10, hk10⟩
      have hB10 : Hid (Blk w10 w.heap.size 55 zI) := hB9.out.kept hk10 (by have := hgw.out; omega)
      have hP10 : Hid (Blk w10 gp 55 (idxCells (strT p) true (entC 0 (List.replicate 32 0)) (List.replicate 32 0) none 0 0).toArray) := hP9.out.kept hk10 (by have := hgp.out; omega)
      have hb10 : Hid (Below w.heap.size w w10) := hb9.out.trans (Kept.below_of hk10 (Nat.le_of_lt hgw.out) hb9.out.size)
      replace hR10 := Lib.hid hR10
      replace hch := Lib.hid hch
      replace hchl := Lib.hid hchl
      clear hk10 hB9 hP9 hb9 hR9
      have zc1 : (cells8 ch).length = 32 := by rw [cells8_len, hchl.out]
      have zc2 : (cells8 ch).toArray.size = 32 := by rw [List.size_toArray, cells8_len, hchl.out]
      have hent : Hid (((entC xn ch).toArray.all fun v => v.oneCell') = true) := by
        show _ = _
        rw [List.all_toArray, entC, List.all_cons, Bool.and_eq_true]
        exact ⟨rfl, List.all_eq_true.2 fun v hv => cells8_one v hv⟩
      have hsz : Hid ((Tryd.prog.info? 53).map (·.size) = some (entC xn ch).toArray.size) := by show _ = _; rw [List.size_toArray, entC_len hchl.out]; exact sizeE
      go_wp2_with ((with_reducible change wpList _ _ _ ({ dst := none, op := Op.store 53 _ _, type := _, pos := _, after := _, guard := _ } :: _) _ _); refine unhid ?_)
      refine Lib.hid ?_
      with_reducible change wpList _ _ _ ({ dst := none, op := Op.store 53 _ _, type := _, pos := _, after := _, guard := _ } :: _) _ _
      refine wpList_store_part (o := ⟨none, _, _, _, _, _⟩) rfl 53 (.tmp 42) (.tmp 41) rfl gp 2 (entC xn ch).toArray rfl (by show Value.agg _ = Value.agg _; refine congrArg Value.agg ?_; refine Eq.trans ?_ (build_ent xn ch hchl.out); rfl) 55 (idxCells (strT p) true (entC 0 (List.replicate 32 0)) (List.replicate 32 0) none 0 0).toArray hP10.out hsz.out (by rw [List.size_toArray, entC_len hchl.out]; exact fit33) hent.out ?_
      rw [set_ent (entC_len (by rfl)) (entC_len hchl.out)]
      have hP11 : Hid (Blk (w10.setRow gp (idxCells (strT p) true (entC xn ch) (List.replicate 32 0) none 0 0).toArray) gp 55 (idxCells (strT p) true (entC xn ch) (List.replicate 32 0) none 0 0).toArray) := setRow_heap _ _ _ _ _ _ hP10.out
      have hB11 : Hid (Blk (w10.setRow gp (idxCells (strT p) true (entC xn ch) (List.replicate 32 0) none 0 0).toArray) w.heap.size 55 zI) := hB10.out.kept (Bytes.Kept.setRow (S := (· = gp)) (Kept.refl _ _) rfl _) (by have := hgw.out; have := hgp.out; omega)
      have hb11 : Hid (Below w.heap.size w (w10.setRow gp (idxCells (strT p) true (entC xn ch) (List.replicate 32 0) none 0 0).toArray)) := below_setRow hb10.out (by have := hgw.out; have := hgp.out; omega) _
      have hR11 : Hid (Rd (w10.setRow gp (idxCells (strT p) true (entC xn ch) (List.replicate 32 0) none 0 0).toArray) g q A' c' (flagN q (2 + y.toNat) + 8 + 32)) := Rd.far_ (gp := gp) hR10.out (by have := hgp.out; omega) (fun h b o e => by have := hAp.out h b o e; omega) (Bytes.Kept.setRow (S := (· = gp)) (Kept.refl _ _) rfl _)
      generalize w10.setRow gp (idxCells (strT p) true (entC xn ch) (List.replicate 32 0) none 0 0).toArray = wt at *
      go_wp2_with fail
      refine (digest_any q hq47.out g (flagN q (2 + y.toNat) + 8 + 32) A' c' wt hR11.out).mono ?_
      rintro e w12 ⟨d, rfl, hdl, hdd, hR12, hk12⟩
      have hB12 : Hid (Blk w12 w.heap.size 55 zI) := hB11.out.kept hk12 (by have := hgw.out; omega)
      have hP12 : Hid (Blk w12 gp 55 (idxCells (strT p) true (entC xn ch) (List.replicate 32 0) none 0 0).toArray) := hP11.out.kept hk12 (by have := hgp.out; omega)
      have hb12 : Hid (Below w.heap.size w w12) := hb11.out.trans (Kept.below_of hk12 (Nat.le_of_lt hgw.out) hb11.out.size)
      replace hR12 := Lib.hid hR12
      replace hdd := Lib.hid hdd
      replace hdl := Lib.hid hdl
      clear hk12 hB11 hP11 hb11 hR11 hR10 hP10 hb10 hB10 hent hsz
      have zd1 : (cells8 d).length = 32 := by rw [cells8_len, hdl.out]
      have zd2 : (cells8 d).toArray.size = 32 := by rw [List.size_toArray, cells8_len, hdl.out]
      have hdall : Hid (((cells8 d).toArray.all fun v => v.oneCell') = true) := by
        show _ = _
        rw [List.all_toArray]
        exact List.all_eq_true.2 fun v hv => cells8_one v hv
      have hdsz : Hid ((Tryd.prog.info? 23).map (·.size) = some (cells8 d).toArray.size) := by show _ = _; rw [zd2]; exact size31
      go_wp2_with ((with_reducible change wpList _ _ _ ({ dst := none, op := Op.store 23 _ _, type := _, pos := _, after := _, guard := _ } :: _) _ _); refine unhid ?_)
      refine Lib.hid ?_
      with_reducible change wpList _ _ _ ({ dst := none, op := Op.store 23 _ _, type := _, pos := _, after := _, guard := _ } :: _) _ _
      refine wpList_store_part (o := ⟨none, _, _, _, _, _⟩) rfl 23 (.tmp 45) (.tmp 44) rfl gp 35 (cells8 d).toArray rfl rfl 55 (idxCells (strT p) true (entC xn ch) (List.replicate 32 0) none 0 0).toArray hP12.out hdsz.out (by rw [zd2]; exact fit32 (entC_len hchl.out) (by rfl)) hdall.out ?_
      rw [set_bm (entC_len hchl.out) (by rfl) hdl.out]
      have hP13 : Hid (Blk (w12.setRow gp (idxCells (strT p) true (entC xn ch) d none 0 0).toArray) gp 55 (idxCells (strT p) true (entC xn ch) d none 0 0).toArray) := setRow_heap _ _ _ _ _ _ hP12.out
      have hk13 : Kept (· = gp) w12 (w12.setRow gp (idxCells (strT p) true (entC xn ch) d none 0 0).toArray) := Bytes.Kept.setRow (S := (· = gp)) (Kept.refl _ _) rfl _
      have hB13 : Hid (Blk (w12.setRow gp (idxCells (strT p) true (entC xn ch) d none 0 0).toArray) w.heap.size 55 zI) := hB12.out.kept hk13 (by have := hgw.out; have := hgp.out; omega)
      have hb13 : Hid (Below w.heap.size w (w12.setRow gp (idxCells (strT p) true (entC xn ch) d none 0 0).toArray)) := below_setRow hb12.out (by have := hgw.out; have := hgp.out; omega) _
      have hR13 : Hid (Rd (w12.setRow gp (idxCells (strT p) true (entC xn ch) d none 0 0).toArray) g q A' c' (flagN q (2 + y.toNat) + 8 + 32 + 32)) := Rd.far_ (gp := gp) hR12.out (by have := hgp.out; omega) (fun h b o e => by have := hAp.out h b o e; omega) hk13
      generalize w12.setRow gp (idxCells (strT p) true (entC xn ch) d none 0 0).toArray = w13 at *
      clear hk13 hP12 hB12 hb12 hR12 hdall hdsz
      go_wp2_with ((with_reducible change wpList _ _ _ ({ dst := some 48, op := _, type := _, pos := _, after := _, guard := _ } :: _) _ _); refine wpList_load_part (o := ⟨some 48, _, _, _, _, _⟩) rfl 23 (.tmp 47) rfl gp 35 rfl (cells8 d) _ (fun j v h => by rw [hP13.out.cell (35 + j), List.getElem?_toArray]; exact idx_bitmap (entC_len hchl.out) j v h) Tryd.underlying23 rfl (by rw [zd1]; exact size31) ?_)
      refine (ones_any d hdl.out w13).mono ?_
      rintro e w14 ⟨rfl, hk14⟩
      have hB14 : Hid (Blk w14 w.heap.size 55 zI) := (hk14.block _ hB13.out.lt).trans hB13.out
      have hP14 : Hid (Blk w14 gp 55 (idxCells (strT p) true (entC xn ch) d none 0 0).toArray) := (hk14.block _ hP13.out.lt).trans hP13.out
      have hb14 : Hid (Below w.heap.size w w14) := hb13.out.trans (hk14.mono hb13.out.size)
      have hR14 : Hid (Rd w14 g q A' c' (flagN q (2 + y.toNat) + 8 + 32 + 32)) := hR13.out.below hk14
      clear hk14 hB13 hP13 hb13 hR13 zd2
      obtain ⟨n, hn⟩ : ∃ n, Hid (onesOf d = n) := ⟨_, Lib.hid rfl⟩
      have hn256 : Hid (n ≤ 256) := by have := onesOf_le d; have h1 := hn.out; have h2 := hdl.out; show _ ≤ _; omega
      rw [hn.out]
      go_wp2_with fail
      refine (digestsR_any q hq47.out g (flagN q (2 + y.toNat) + 8 + 32 + 32) n (by have := hn256.out; omega) A' c' w14 hR14.out).mono ?_
      rintro e w15 ⟨A1, m, ds, rfl, hL15, hnil15, hm15, hfit15, hnew15, hR15, hk15⟩
      have hP15 : Hid (Blk w15 gp 55 (idxCells (strT p) true (entC xn ch) d none 0 0).toArray) := hP14.out.kept hk15 (by have := hgp.out; omega)
      have hB15 : Hid (Blk w15 w.heap.size 55 zI) := hB14.out.kept hk15 (by have := hgw.out; omega)
      have hb15 : Hid (Below w.heap.size w w15) := hb14.out.trans (Kept.below_of hk15 (Nat.le_of_lt hgw.out) hb14.out.size)
      have hnewg : Hid (∀ b o x, A1 = some ⟨b, o, x⟩ → gp < b) := fun b o x e => Nat.lt_of_lt_of_le hP14.out.lt (hnew15 b o x e)
      replace hR15 := Lib.hid hR15
      replace hL15 := Lib.hid hL15
      replace hnil15 := Lib.hid hnil15
      replace hm15 := Lib.hid hm15
      replace hfit15 := Lib.hid hfit15
      clear hnew15 hk15 hB14 hP14 hb14 hR14
      have c15 : w15.cell? ⟨gp, 67, none⟩ = some (.slice none 0 0) := by rw [hP15.out.cell 67, List.getElem?_toArray]; exact idx_way (entC_len hchl.out) hdl.out
      have f15 := hP15.out.frozen 67
      have hk16 : Kept (· = gp) w15 (w15.setCell ⟨gp, 67, none⟩ (.slice A1 m m)) := Kept.setCell (S := (· = gp)) (p := ⟨gp, 67, none⟩) (Kept.refl (· = gp) _) (.inl rfl) _
      have hP16 : Hid (Blk (w15.setCell ⟨gp, 67, none⟩ (.slice A1 m m)) gp 55 (idxCells (strT p) true (entC xn ch) d A1 m m).toArray) := by
        have := hP15.out.set_ 67 (.slice A1 m m)
        rw [set_way (entC_len hchl.out) hdl.out] at this
        exact this
      have hB16 : Hid (Blk (w15.setCell ⟨gp, 67, none⟩ (.slice A1 m m)) w.heap.size 55 zI) := hB15.out.kept hk16 (by have := hgw.out; have := hgp.out; omega)
      have hb16 : Hid (Below w.heap.size w (w15.setCell ⟨gp, 67, none⟩ (.slice A1 m m))) := hb15.out.trans (Kept.below_of hk16 (by have := hgw.out; have := hgp.out; omega) hb15.out.size)
      have hR16 : Hid (Rd (w15.setCell ⟨gp, 67, none⟩ (.slice A1 m m)) g q A' c' (flagN q (2 + y.toNat) + 8 + 32 + 32 + 32 * n)) := Rd.far_ (gp := gp) hR15.out (by have := hgp.out; omega) (fun h b o e => by have := hAp.out h b o e; omega) hk16
      have hL16 : Hid (RdD (w15.setCell ⟨gp, 67, none⟩ (.slice A1 m m)) A1 m ds) := ⟨hL15.out.1, hL15.out.2.1, hL15.out.2.2.kept hk16 (fun b o e h => by have h3 := hnewg.out _ _ _ e; have h : b = gp := h; omega)⟩
      obtain ⟨w16, hw16⟩ : ∃ w16, Hid ((w15.setCell ⟨gp, 67, none⟩ (.slice A1 m m)) = w16) := ⟨_, Lib.hid rfl⟩
      clear hk16 hB15 hP15 hb15 hR15 hL15
      go_wp2_with fail
      clear c15 f15 hw16
      generalize w15.setCell ⟨gp, 67, none⟩ (.slice A1 m m) = w17 at *
      refine (done_any q hq47.out g (flagN q (2 + y.toNat) + 8 + 32 + 32 + 32 * n) A' c' w17 hR16.out).mono ?_
      rintro e w18 ⟨rfl, k18, rfl⟩
      have hB18 : Hid (Blk (w17.drewN k18) w.heap.size 55 zI) := hB16.out.drewN k18
      have hP18 : Hid (Blk (w17.drewN k18) gp 55 (idxCells (strT p) true (entC xn ch) d A1 m m).toArray) := hP16.out.drewN k18
      have hb18 : Hid (Below w.heap.size w (w17.drewN k18)) := below_drawn hb16.out k18
      have hL18 : Hid (RdD (w17.drewN k18) A1 m ds) := hL16.out.drewN k18
      generalize w17.drewN k18 = w18 at *
      clear hB16 hP16 hb16 hL16 hR16
      have hAns := Lib.hid (ans_f hqk.out hyy.out hy4.out hp1.out hfb.out hN.out hbig hxn.out hch.out hdd.out)
      rw [hn.out] at hAns
      by_cases hend : flagN q (2 + y.toNat) + 8 + 32 + 32 + 32 * n = q.length
      · have hdone : doneOf (flagN q (2 + y.toNat) + 8 + 32 + 32 + 32 * n) q.length = 0 := if_pos hend
        rw [hdone]
        obtain ⟨rfl, rfl⟩ := hfit15.out (by omega)
        obtain ⟨b, hb⟩ : ∃ b, Hid (okIx (strT p) true xn ch d m = b) := ⟨_, Lib.hid rfl⟩
        have hI := Lib.hid (fun w' => indexed_any (strT p) (by rw [strT_size]; have := hpl.out; have := hq47.out; omega) true xn ch hchl.out d hdl.out A1 m m w')
        rw [hb.out] at hI
        have hszc : Hid ((Tryd.prog.info? 55).map (·.size) = some (idxCells (strT p) true (entC xn ch) d A1 m m).toArray.size) := size_idx hchl.out hdl.out
        have honec : Hid (((idxCells (strT p) true (entC xn ch) d A1 m m).toArray.all fun v => v.oneCell') = true) := one_idx
        have hzc : Hid ((idxCells (strT p) true (entC xn ch) d A1 m m).toArray.size = zI.size) := by show _ = _; rw [List.size_toArray, idx_len (entC_len hchl.out) hdl.out]; rfl
        obtain ⟨cs, hcs⟩ : ∃ cs, Hid ((idxCells (strT p) true (entC xn ch) d A1 m m).toArray = cs) := ⟨_, Lib.hid rfl⟩
        rw [hcs.out] at hI hP18 hszc honec hzc
        cases b with
        | false =>
          have hXX : X = zAns 8 := by
            rw [← hX.out]
            exact hAns.out.2 (fun h => by rw [hb.out] at h; cases h.2)
          clear hAns hend hdone
          go_wp2_with (first
            | ((with_reducible change wpList _ _ _ ({ dst := some 56, op := _, type := _, pos := _, after := _, guard := _ } :: _) _ _); refine wpList_load_rowG (o := ⟨some 56, _, _, _, _, _⟩) rfl 55 (.tmp 6) rfl gp rfl 55 _ (0, 0) _ hP18.out Tryd.underlying55 rfl hszc.out ?_)
            | (go_at_call 72; refine (hI.out _).mono ?_; rintro e w19 ⟨rfl, hk19⟩; have hB19 : Hid (Blk w19 w.heap.size 55 zI) := (hk19.block _ hB18.out.lt).trans hB18.out; have hb19 : Hid (Below w.heap.size w w19) := hb18.out.trans (hk19.mono hb18.out.size); clear hk19)
            | ((with_reducible change wpList _ _ _ ({ dst := none, op := Op.store 55 _ _, type := _, pos := _, after := _, guard := _ } :: _) _ _); refine wpList_store_row (o := ⟨none, _, _, _, _, _⟩) rfl 55 (.tmp 2) (.tmp 60) rfl (w.heap.size) zI rfl rfl 55 zI hB19.out sizeX rfl oneX ?_))
          refine bodyPost_ret (results_cell_row2 rfl _ _ w.heap.size 55 zI (0, 0) _ rfl (setRow_heap _ _ _ _ _ _ hB19.out) Tryd.underlying55 rfl sizeX) rfl ?_
          rw [hXX]
          exact zpostX rfl (below_setRow hb19.out (Nat.le_refl _) _)
        | true =>
          have hXX : X = (strT p, true, xn, ch, d, chunks (q.drop (flagN q (2 + y.toNat) + 8 + 32 + 32)) m, 0) := by
            rw [← hX.out]
            exact hAns.out.1 hend hb.out
          clear hAns hend hdone
          go_wp2_with (first
            | ((with_reducible change wpList _ _ _ ({ dst := some 56, op := _, type := _, pos := _, after := _, guard := _ } :: _) _ _); refine wpList_load_rowG (o := ⟨some 56, _, _, _, _, _⟩) rfl 55 (.tmp 6) rfl gp rfl 55 _ (0, 0) _ hP18.out Tryd.underlying55 rfl hszc.out ?_)
            | (go_at_call 72; refine (hI.out _).mono ?_; rintro e w19 ⟨rfl, hk19⟩; have hB19 : Hid (Blk w19 w.heap.size 55 zI) := (hk19.block _ hB18.out.lt).trans hB18.out; have hP19 : Hid (Blk w19 gp 55 cs) := (hk19.block _ hP18.out.lt).trans hP18.out; have hb19 : Hid (Below w.heap.size w w19) := hb18.out.trans (hk19.mono hb18.out.size); have hL19 : Hid (RdD w19 A1 m (chunks (q.drop (flagN q (2 + y.toNat) + 8 + 32 + 32)) m)) := hL18.out.below hk19; clear hk19)
            | ((with_reducible change wpList _ _ _ ({ dst := some 61, op := _, type := _, pos := _, after := _, guard := _ } :: _) _ _); refine wpList_load_row (o := ⟨some 61, _, _, _, _, _⟩) rfl 55 (.tmp 6) rfl gp rfl 55 _ (0, 0) _ hP19.out Tryd.underlying55 rfl hszc.out ?_)
            | ((with_reducible change wpList _ _ _ ({ dst := none, op := Op.store 55 _ _, type := _, pos := _, after := _, guard := _ } :: _) _ _); refine wpList_store_row (o := ⟨none, _, _, _, _, _⟩) rfl 55 (.tmp 2) (.tmp 61) rfl (w.heap.size) cs rfl rfl 55 zI hB19.out hszc.out hzc.out.symm honec.out ?_))
          refine bodyPost_ret (results_cell_row2 rfl _ _ w.heap.size 55 cs (0, 0) _ rfl (setRow_heap _ _ _ _ _ _ hB19.out) Tryd.underlying55 rfl hszc.out) rfl ?_
          rw [hXX]
          exact ⟨A1, m, m, by rw [← hcs.out]; rfl, ⟨hL19.out.1, hL19.out.2.1, hL19.out.2.2.kept (Bytes.Kept.setRow (S := (· = w.heap.size)) (Kept.refl _ _) rfl _) (fun b o e h => by have h3 := hnewg.out _ _ _ e; have := hgw.out; have := hgp.out; have h : b = w.heap.size := h; omega)⟩, hnil15.out, Nat.le_refl _, hn256.out, below_setRow hb19.out (Nat.le_refl _) _⟩
      · have hdone : doneOf (flagN q (2 + y.toNat) + 8 + 32 + 32 + 32 * n) q.length = 8 := if_neg hend
        rw [hdone]
        have hXX : X = zAns 8 := by
          rw [← hX.out]
          exact hAns.out.2 (fun h => hend h.1)
        clear hAns hend hdone
        go_wp2_with ((with_reducible change wpList _ _ _ ({ dst := none, op := Op.store 55 _ _, type := _, pos := _, after := _, guard := _ } :: _) _ _); refine wpList_store_row (o := ⟨none, _, _, _, _, _⟩) rfl 55 (.tmp 2) (.tmp 60) rfl (w.heap.size) zI rfl rfl 55 zI hB18.out sizeX rfl oneX ?_)
        refine bodyPost_ret (results_cell_row2 rfl _ _ w.heap.size 55 zI (0, 0) _ rfl (setRow_heap _ _ _ _ _ _ hB18.out) Tryd.underlying55 rfl sizeX) rfl ?_
        rw [hXX]
        exact zpostX rfl (below_setRow hb18.out (Nat.le_refl _) _)
    · rw [decide_eq_false hbig]
      go_wp2_with ((with_reducible change wpList _ _ _ ({ dst := none, op := Op.store 55 _ _, type := _, pos := _, after := _, guard := _ } :: _) _ _); refine wpList_store_row (o := ⟨none, _, _, _, _, _⟩) rfl 55 (.tmp 2) (.tmp 37) rfl (w.heap.size) zI rfl rfl 55 zI hB9.out sizeX rfl oneX ?_)
      refine bodyPost_ret (results_cell_row2 rfl _ _ w.heap.size 55 zI (0, 0) _ rfl (setRow_heap _ _ _ _ _ _ hB9.out) Tryd.underlying55 rfl sizeX) rfl ?_
      have hXX : X = zAns 8 := by
        rw [← hX.out]
        exact ans_big hqk.out hy4.out hfb.out hN.out hbig
      rw [hXX]
      exact zpostX rfl (below_setRow hb9.out (Nat.le_refl _) _)
theorem decodeIndexed_any (q : Text) (k : Nat) (hk : q.length = k) (A : Option Addr) (c : Nat) (w : World) (hr : Reads w 1 A k (cells8 q)) (hnil : A = none → k = 0 ∧ c = 0) :
    Calls Tryd.prog 29 #[.slice A k c] w (APostX w (ixAns q)) := by
  by_cases h9 : 9000 < k
  · rw [ixAns_long (by omega)]
    exact dix_long k h9 A c w
  · by_cases h1 : 1 ≤ k ∧ q.getD 0 0 = 50
    · exact dix_main q k hk h9 h1.1 h1.2 A c w hr hnil
    · rw [ixAns_not50 (by omega) (by rw [hk]; exact h1)]
      exact dix_no q k hk h9 h1 A c w hr hnil
end Go.Proofs.YtgldkfaiofkhbaaDoor.DecIdx2
