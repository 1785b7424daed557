/-
  Texts of the claim, put into one file: IdxDec, DecIdx, DecIdx2, ReadIdx0.
-/
import Derived.Test.YtmdkfhfkdcbpgaaZ23
import Derived.Test.YtmdkfhfkdcbpgaaZ15
import Derived.Test.YtmdkfhfkdcbpgaaZ18
import Derived.Test.YtmdkfhfkdcbpgaaZ17
import Derived.Test.YtmdkfhfkdcbpgaaZ9
import Derived.Test.YtmdkfhfkdcbpgaaZ7

namespace Go.Proofs.Ytmdkfhfkdcbpgaa.IdxDec
open Go Go.RowKit Go.Proofs.Ytmdkfhfkdcbpgaa Go.Proofs.Ytmdkfhfkdcbpgaa.Mem Go.Proofs.Ytmdkfhfkdcbpgaa.Sha Go.Proofs.Ytmdkfhfkdcbpgaa.Bytes Go.Proofs.Ytmdkfhfkdcbpgaa.Append Go.Proofs.Ytmdkfhfkdcbpgaa.Octet Go.Proofs.Ytmdkfhfkdcbpgaa.TreeMath Go.Proofs.Ytmdkfhfkdcbpgaa.TreeMem Go.Proofs.Ytmdkfhfkdcbpgaa.Reader Go.Proofs.Ytmdkfhfkdcbpgaa.Reader2 Go.Proofs.Ytmdkfhfkdcbpgaa.Reader4 Go.Proofs.Ytmdkfhfkdcbpgaa.ProofBeside Go.Proofs.Ytmdkfhfkdcbpgaa.ProofEnc Go.Proofs.Ytmdkfhfkdcbpgaa.ProofIdx Go.Proofs.Ytmdkfhfkdcbpgaa.ProofIdx2 Go.Proofs.Ytmdkfhfkdcbpgaa.ProofIdx3 Go.Proofs.Ytmdkfhfkdcbpgaa.DecIncl Go.Proofs.Ytmdkfhfkdcbpgaa.StructEq Go.Proofs.Ytmdkfhfkdcbpgaa.IdxAny Go.Proofs.Ytmdkfhfkdcbpgaa.IdxEnc Go.Proofs.Ytmdkfhfkdcbpgaa.IdxMem Go.Proofs.Ytmdkfhfkdcbpgaa.Flag Go.Proofs.Ytmdkfhfkdcbpgaa.ReadIncl

/-- The name's length, the name, the flag, the count, the chain, where the bitmap begins, the bitmap. -/
def ixL (q : Text) : Nat := (q.getD 1 0).toNat
def ixS (q : Text) : Text := (q.drop 2).take (ixL q)
def ixF (q : Text) : Bool := b8 (q.getD (2 + ixL q) 0) == 1
def ixC (q : Text) : Nat := if ixF q = true then num ((q.drop (3 + ixL q)).take 8) else 0
def ixH (q : Text) : Text := if ixF q = true then (q.drop (11 + ixL q)).take 32 else z32
def ixO (q : Text) : Nat := if ixF q = true then 43 + ixL q else 3 + ixL q
def ixD (q : Text) : Text := (q.drop (ixO q)).take 32
def ixN (q : Text) : Nat := onesOf (ixD q)
/-- Are these bytes what an index says of a name? -/
def ixOk (q : Text) : Prop := q.getD 0 0 = 50 ∧ b8 (q.getD (2 + ixL q) 0) ≤ 1 ∧ q.length = ixO q + 32 + 32 * ixN q ∧ okIx (strT (ixS q)) (ixF q) (ixC q : Int) (ixH q) (ixD q) (ixN q) = true
instance (q : Text) : Decidable (ixOk q) := by unfold ixOk; infer_instance
abbrev Ans := ByteArray × Bool × Int × Text × Text × List Text × Int
def zAns (en : Int) : Ans := (ByteArray.empty, false, 0, z32, z32, [], en)
def ixAns (q : Text) : Ans := if 9000 < q.length then zAns 170 else if ixOk q then (strT (ixS q), ixF q, (ixC q : Int), ixH q, ixD q, chunks (q.drop (ixO q + 32)) (ixN q), 0) else zAns 8
theorem ixAns_long {q : Text} (h : 9000 < q.length) : ixAns q = zAns 170 := by unfold ixAns; rw [if_pos h]
theorem ixAns_no {q : Text} (h : ¬ 9000 < q.length) (h2 : ¬ ixOk q) : ixAns q = zAns 8 := by unfold ixAns; rw [if_neg h, if_neg h2]
theorem ixAns_yes {q : Text} (h : ¬ 9000 < q.length) (h2 : ixOk q) : ixAns q = (strT (ixS q), ixF q, (ixC q : Int), ixH q, ixD q, chunks (q.drop (ixO q + 32)) (ixN q), 0) := by unfold ixAns; rw [if_neg h, if_pos h2]
theorem ixO_ge (q : Text) : 3 + ixL q ≤ ixO q := by unfold ixO; split <;> omega

section
variable {q : Text}
end

/-! ### The document's reader: it reads whatever there is, lays it down and compares -/
/-- What it read. -/
structure Got (q : Text) (x : Nat) (p : Text) (f : Bool) (cnt : Int) (ch d : Text) (l : List Text) : Prop where
  x1 : 2 ≤ q.length → x = (q.getD 1 0).toNat
  p1 : 2 ≤ q.length → 2 + x ≤ q.length → p = (q.drop 2).take x
  p2 : 2 ≤ q.length → q.length < 2 + x → p = []
  f1 : 3 + x ≤ q.length → f = (b8 (q.getD (2 + x) 0) == 1)
  c1 : f = true → 11 + x ≤ q.length → cnt = lgInt (num ((q.drop (3 + x)).take 8))
  h1 : f = true → 43 + x ≤ q.length → ch = (q.drop (11 + x)).take 32
  c0 : f = false → cnt = 0
  h0 : f = false → ch = z32
  d1 : (if f = true then 43 + x else 3 + x) + 32 ≤ q.length → d = (q.drop (if f = true then 43 + x else 3 + x)).take 32
  l1 : (if f = true then 43 + x else 3 + x) + 32 + 32 * onesOf d ≤ q.length → l = chunks (q.drop ((if f = true then 43 + x else 3 + x) + 32)) (onesOf d)
  lh : ch.length = 32
  ld : d.length = 32
  ll : Digs l
theorem kb_toNat (x : BitVec 8) : kb x.toNat = x := by
  apply BitVec.eq_of_toNat_eq
  unfold kb
  rw [BitVec.toNat_ofInt]
  have := x.isLt
  omega
theorem cut3 {q : Text} {x : Nat} (h : 3 + x ≤ q.length) : q = [q.getD 0 0] ++ [q.getD 1 0] ++ (q.drop 2).take x ++ [q.getD (2 + x) 0] ++ q.drop (3 + x) := by
  have e1 : q.take 2 = [q.getD 0 0] ++ [q.getD 1 0] := by
    match q, h with
    | a :: b :: r, _ => rfl
    | [_], h => simp at h; omega
    | [], h => simp at h
  have e2 : (q.drop (2 + x)).take 1 = [q.getD (2 + x) 0] := by
    rw [List.getD_eq_getElem?_getD, List.getElem?_eq_getElem (show 2 + x < q.length by omega), List.drop_eq_getElem_cons (show 2 + x < q.length by omega)]
    rfl
  rw [← e1, ← e2, List.append_assoc, List.append_assoc, show q.drop (3 + x) = (q.drop (2 + x)).drop 1 by rw [List.drop_drop]; congr 1; omega, List.take_append_drop, show q.drop (2 + x) = (q.drop 2).drop x by rw [List.drop_drop], List.take_append_drop, List.take_append_drop]
theorem idxB_parts (s : ByteArray) (f : Bool) (cnt : Int) (ch d : Text) (ds : List Text) : (idxB s f cnt ch d ds).getD 0 0 = 50 ∧ (idxB s f cnt ch d ds).getD 1 0 = kb s.size ∧ (idxB s f cnt ch d ds).getD (2 + s.size) 0 = (if f = true then 1 else 0) := by
  refine ⟨rfl, rfl, ?_⟩
  have e : idxB s f cnt ch d ds = ([50] ++ [kb s.size] ++ nm s) ++ ((if f then [1] ++ be8 cnt.toNat ++ ch else [0]) ++ d ++ ds.flatten) := by unfold idxB; simp only [List.append_assoc]
  rw [e, List.getD_eq_getElem?_getD, List.getElem?_append_right (by simp [nm_len]; omega)]
  have : 2 + s.size - ([50] ++ [kb s.size] ++ nm s).length = 0 := by simp [nm_len]; omega
  rw [this]
  cases f <;> rfl
section
variable {q p ch d : Text} {x : Nat} {f : Bool} {cnt : Int} {l : List Text}
theorem b8_1 {y : BitVec 8} : (b8 y == 1) = decide (y = 1) := by
  have : b8 y = 1 ↔ y = 1 := by
    constructor
    · intro h
      apply BitVec.eq_of_toNat_eq
      unfold b8 at h
      have : y.toNat = 1 := by omega
      rw [this]; rfl
    · rintro rfl; rfl
  by_cases h : y = 1
  · rw [decide_eq_true h, this.2 h]; rfl
  · rw [decide_eq_false h]
    exact Bool.eq_false_iff.2 fun hh => h (this.1 (by simpa using hh))
/-- In range: what was read is what the plain word says. -/
theorem Got.all (g : Got q x p f cnt ch d l) (h : ixO q + 32 + 32 * ixN q ≤ q.length) : x = ixL q ∧ p = ixS q ∧ f = ixF q ∧ cnt = lgInt (ixC q) ∧ ch = ixH q ∧ d = ixD q ∧ l = chunks (q.drop (ixO q + 32)) (ixN q) := by
  have hO := ixO_ge q
  have ex : x = ixL q := g.x1 (by omega)
  subst ex
  have ep : p = ixS q := g.p1 (by omega) (by omega)
  have ef : f = ixF q := g.f1 (by omega)
  subst ef
  have eo : (if ixF q = true then 43 + ixL q else 3 + ixL q) = ixO q := rfl
  have ed : d = ixD q := by rw [g.d1 (by rw [eo]; omega)]; rfl
  have hc : cnt = lgInt (ixC q) := by
    unfold ixC
    by_cases hf : ixF q = true
    · rw [if_pos hf]
      exact g.c1 hf (by rw [if_pos hf] at eo; omega)
    · rw [if_neg hf, g.c0 (by simpa using hf), lgInt_le (by omega)]; rfl
  have hh : ch = ixH q := by
    unfold ixH
    by_cases hf : ixF q = true
    · rw [if_pos hf]
      exact g.h1 hf (by rw [if_pos hf] at eo; omega)
    · rw [if_neg hf, g.h0 (by simpa using hf)]
  have en : onesOf d = ixN q := by rw [ed]; rfl
  refine ⟨rfl, ep, rfl, hc, hh, ed, ?_⟩
  have := g.l1 (by rw [eo, en]; omega)
  rw [eo, en] at this
  exact this
theorem read_ok (h9 : ¬ 9000 < q.length) (g : Got q x p f cnt ch d l) (h : idxWant (strT p) f cnt ch d l = some q) : ixAns q = (strT p, f, cnt, ch, d, l, 0) := by
  unfold idxWant at h
  split at h
  · rename_i hok
    have hh := Option.some.inj h
    have hs := okIx_64 hok
    have hn := okIx_ones hok
    have hlen := idxB_len (s := strT p) (f := f) (cnt := cnt) g.lh g.ld g.ll
    rw [hh, strT_size] at hlen
    rw [strT_size] at hs
    obtain ⟨b0, b1, b2⟩ := idxB_parts (strT p) f cnt ch d l
    rw [hh, strT_size] at b1 b2
    rw [hh] at b0
    have h35 : 35 ≤ q.length := by rw [hlen]; split <;> omega
    have hx := g.x1 (by omega)
    have hxp : x = p.length := by
      rw [hx, b1]
      unfold kb
      rw [BitVec.toNat_ofInt]
      omega
    subst hxp
    have hf := g.f1 (by rw [hlen]; split <;> omega)
    have eL : ixL q = p.length := hx.symm
    have eF : ixF q = f := by unfold ixF; rw [eL, ← hf]
    have eO : ixO q = (if f = true then 43 + p.length else 3 + p.length) := by unfold ixO; rw [eF, eL]
    have ed := g.d1 (by rw [hlen]; split <;> omega)
    rw [← eO] at ed
    have eN : ixN q = onesOf d := by unfold ixN ixD; rw [← ed]
    have hfit : q.length = ixO q + 32 + 32 * ixN q := by rw [eN, hn, eO, hlen]; split <;> omega
    obtain ⟨-, ep, -, ec, eh, ed', el⟩ := g.all (by omega)
    have ecc : cnt = (ixC q : Int) := by
      unfold okIx okEnt at hok
      simp only [Bool.and_eq_true] at hok
      have h1 := hok.1
      by_cases hft : f = true
      · rw [if_pos hft, decide_eq_true_eq] at h1
        rw [ec] at h1 ⊢
        have hlt : ixC q < 18446744073709551616 := by unfold ixC; split; exact num8 q _; omega
        unfold lgInt wrap64 at *
        omega
      · rw [g.c0 (by simpa using hft)]
        unfold ixC
        rw [eF, if_neg hft]
        rfl
    have hok2 : ixOk q := ⟨b0, by rw [eL, b2]; cases f <;> decide, hfit, by rw [← ep, eF, ← ecc, ← eh, ← ed', eN, hn]; exact hok⟩
    rw [ixAns_yes h9 hok2, ← ep, eF, ← ecc, ← eh, ← ed', ← el]
  · cases h
theorem read_no (h9 : ¬ 9000 < q.length) (g : Got q x p f cnt ch d l) (h : idxWant (strT p) f cnt ch d l ≠ some q) : ixAns q = zAns 8 := by
  refine ixAns_no h9 fun hh => h ?_
  obtain ⟨h0, h1, h2, h3⟩ := hh
  obtain ⟨ex, ep, ef, ec, eh, ed, el⟩ := g.all (by omega)
  have hll : l.length = ixN q := by rw [el, chunks_len]
  have h64 := okIx_64 h3
  have hO := ixO_ge q
  have ecc : cnt = (ixC q : Int) := by
    rw [ec]
    refine lgInt_le ?_
    unfold okIx okEnt at h3
    simp only [Bool.and_eq_true] at h3
    have h1 := h3.1
    by_cases hft : ixF q = true
    · rw [if_pos hft, decide_eq_true_eq] at h1; omega
    · unfold ixC; rw [if_neg hft]; omega
  unfold idxWant
  rw [hll, ep, ef, ecc, eh, ed, if_pos h3]
  congr 1
  unfold idxB
  have hsl : (ixS q).length = ixL q := by unfold ixS; rw [List.length_take, List.length_drop]; omega
  rw [nm_strT, strT_size, hsl, Int.toNat_natCast]
  have hf : l.flatten = q.drop (ixO q + 32) := by rw [el]; exact chunks_flat _ _ (by rw [List.length_drop]; omega)
  rw [hf]
  have e1 : ixD q ++ q.drop (ixO q + 32) = q.drop (ixO q) := by
    unfold ixD
    rw [← List.drop_drop, List.take_append_drop]
  have hc3 := cut3 (q := q) (x := ixL q) (by omega)
  have hkb : kb (ixL q) = q.getD 1 0 := kb_toNat _
  rw [hkb, List.append_assoc, e1]
  conv => rhs; rw [hc3, h0]
  show _ = [50] ++ [q.getD 1 0] ++ ixS q ++ [q.getD (2 + ixL q) 0] ++ q.drop (3 + ixL q)
  rw [List.append_assoc ([50] ++ [q.getD 1 0] ++ ixS q), List.append_assoc ([50] ++ [q.getD 1 0] ++ ixS q)]
  congr 1
  by_cases hft : ixF q = true
  · have hy : q.getD (2 + ixL q) 0 = 1 := by
      have := hft
      unfold ixF at this
      rw [b8_1] at this
      exact of_decide_eq_true this
    have h8 : ((q.drop (3 + ixL q)).take 8).length = 8 := by
      have : ixO q = 43 + ixL q := by unfold ixO; rw [if_pos hft]
      rw [List.length_take, List.length_drop]
      omega
    rw [if_pos hft, hy]
    unfold ixO ixC ixH
    rw [if_pos hft, if_pos hft, if_pos hft, be8_num _ h8]
    rw [List.append_assoc, List.append_assoc]
    congr 1
    rw [show q.drop (43 + ixL q) = (q.drop (11 + ixL q)).drop 32 by rw [List.drop_drop]; congr 1; omega, List.take_append_drop, show q.drop (11 + ixL q) = (q.drop (3 + ixL q)).drop 8 by rw [List.drop_drop]; congr 1; omega, List.take_append_drop]
  · have hy : q.getD (2 + ixL q) 0 = 0 := by
      have hne : ¬ q.getD (2 + ixL q) 0 = 1 := fun e => hft (by unfold ixF; rw [b8_1]; exact decide_eq_true e)
      generalize q.getD (2 + ixL q) 0 = y at *
      apply BitVec.eq_of_toNat_eq
      have : y.toNat ≠ 1 := fun e => hne (BitVec.eq_of_toNat_eq (by rw [e]; rfl))
      unfold b8 at h1
      show y.toNat = 0
      omega
    rw [if_neg hft, hy]
    unfold ixO
    rw [if_neg hft]
end
end Go.Proofs.Ytmdkfhfkdcbpgaa.IdxDec

namespace Go.Proofs.Ytmdkfhfkdcbpgaa.DecIdx
open Go Go.RowKit Go.Proofs.Ytmdkfhfkdcbpgaa Go.Proofs.Ytmdkfhfkdcbpgaa.Mem Go.Proofs.Ytmdkfhfkdcbpgaa.Sha Go.Proofs.Ytmdkfhfkdcbpgaa.Bytes Go.Proofs.Ytmdkfhfkdcbpgaa.TreeMath Go.Proofs.Ytmdkfhfkdcbpgaa.Sides Go.Proofs.Ytmdkfhfkdcbpgaa.TreeMem Go.Proofs.Ytmdkfhfkdcbpgaa.TreeRoot Go.Proofs.Ytmdkfhfkdcbpgaa.Held Go.Proofs.Ytmdkfhfkdcbpgaa.Reader Go.Proofs.Ytmdkfhfkdcbpgaa.Reader2 Go.Proofs.Ytmdkfhfkdcbpgaa.Reader3 Go.Proofs.Ytmdkfhfkdcbpgaa.Reader4 Go.Proofs.Ytmdkfhfkdcbpgaa.ProofIdx3 Go.Proofs.Ytmdkfhfkdcbpgaa.StructEq Go.Proofs.Ytmdkfhfkdcbpgaa.DecIdx0 Go.Proofs.Ytmdkfhfkdcbpgaa.IdxMem

theorem results_cell_row2 {P : Program} {fn : Func} {p u : Tmp} {ty : TypeId} (h : fn.results = #[.cell p ty, .tmp u]) (tmps : Array Value) (w : World) (g : Nat) (t : TypeId) (cs : Array Value) (fr : Nat × Nat) (d : TypeDesc)
    (hp : tmps.getD p undef = .pointer (some ⟨g, 0, none⟩)) (hg : w.heap[g]? = some (.cells cs t fr))
    (hu : P.underlying ty = some d) (hd : (match d with | .struct _ | .array _ _ => true | _ => false) = true) (hi : (P.info? ty).map (·.size) = some cs.size) :
    (results fn tmps).run P w = .ok (.tuple #[.agg cs, tmps.getD u undef]) w := by
  have hp' : tmps[p]?.getD undef = .pointer (some ⟨g, 0, none⟩) := by simpa using hp
  simp [results, h, hp', asAddr, run_loadVar_row w g t ty cs fr d hg hu hd hi, Result.andThen]
/-- An api.Indexed at rest. -/
abbrev zI : Array Value := #[Value.string ByteArray.empty, Value.bool false, Value.int .i64 0, Value.int .u8 0, Value.int .u8 0, Value.int .u8 0, Value.int .u8 0, Value.int .u8 0, Value.int .u8 0, Value.int .u8 0, Value.int .u8 0, Value.int .u8 0, Value.int .u8 0, Value.int .u8 0, Value.int .u8 0, Value.int .u8 0, Value.int .u8 0, Value.int .u8 0, Value.int .u8 0, Value.int .u8 0, Value.int .u8 0, Value.int .u8 0, Value.int .u8 0, Value.int .u8 0, Value.int .u8 0, Value.int .u8 0, Value.int .u8 0, Value.int .u8 0, Value.int .u8 0, Value.int .u8 0, Value.int .u8 0, Value.int .u8 0, Value.int .u8 0, Value.int .u8 0, Value.int .u8 0, Value.int .u8 0, Value.int .u8 0, Value.int .u8 0, Value.int .u8 0, Value.int .u8 0, Value.int .u8 0, Value.int .u8 0, Value.int .u8 0, Value.int .u8 0, Value.int .u8 0, Value.int .u8 0, Value.int .u8 0, Value.int .u8 0, Value.int .u8 0, Value.int .u8 0, Value.int .u8 0, Value.int .u8 0, Value.int .u8 0, Value.int .u8 0, Value.int .u8 0, Value.int .u8 0, Value.int .u8 0, Value.int .u8 0, Value.int .u8 0, Value.int .u8 0, Value.int .u8 0, Value.int .u8 0, Value.int .u8 0, Value.int .u8 0, Value.int .u8 0, Value.int .u8 0, Value.int .u8 0, Value.slice none 0 0]
theorem zI_eq : zI = (idxCells ByteArray.empty false (entC 0 (List.replicate 32 0)) (List.replicate 32 0) none 0 0).toArray := by rfl
theorem sizeX : (Try.prog.info? 28).map (·.size) = some 68 := by kernel_rfl
theorem oneX : (zI.all fun v => v.oneCell') = true := by rw [List.all_toArray]; rfl
/-- What an answer of DecodeIndexed is, in memory. -/
def DPost (w : World) (s : ByteArray) (f : Bool) (cnt : Int) (ch d : Text) (ds : List Text) (en : Int) (e : Ending) (w' : World) : Prop := ∃ A n c, e = .returned (.tuple #[.agg (idxCells s f (entC cnt ch) d A n c).toArray, .int .i64 en]) ∧ RdD w' A n ds ∧ (A = none → n = 0 ∧ c = 0) ∧ n ≤ c ∧ n ≤ 256 ∧ Below w.heap.size w w'
end Go.Proofs.Ytmdkfhfkdcbpgaa.DecIdx

namespace Go.Proofs.Ytmdkfhfkdcbpgaa.DecIdx2
open Go Go.RowKit Go.Proofs.Ytmdkfhfkdcbpgaa Go.Proofs.Ytmdkfhfkdcbpgaa.Mem Go.Proofs.Ytmdkfhfkdcbpgaa.Sha Go.Proofs.Ytmdkfhfkdcbpgaa.Bytes Go.Proofs.Ytmdkfhfkdcbpgaa.TreeMath Go.Proofs.Ytmdkfhfkdcbpgaa.Sides Go.Proofs.Ytmdkfhfkdcbpgaa.TreeMem Go.Proofs.Ytmdkfhfkdcbpgaa.TreeRoot Go.Proofs.Ytmdkfhfkdcbpgaa.Held Go.Proofs.Ytmdkfhfkdcbpgaa.Reader Go.Proofs.Ytmdkfhfkdcbpgaa.Reader2 Go.Proofs.Ytmdkfhfkdcbpgaa.Reader3 Go.Proofs.Ytmdkfhfkdcbpgaa.Reader4 Go.Proofs.Ytmdkfhfkdcbpgaa.ProofIdx3 Go.Proofs.Ytmdkfhfkdcbpgaa.StructEq Go.Proofs.Ytmdkfhfkdcbpgaa.DecIdx0 Go.Proofs.Ytmdkfhfkdcbpgaa.IdxMem Go.Proofs.Ytmdkfhfkdcbpgaa.DecIdx Go.Proofs.Ytmdkfhfkdcbpgaa.Flag Go.Proofs.Ytmdkfhfkdcbpgaa.Reader5 Go.Proofs.Ytmdkfhfkdcbpgaa.DecIncl Go.Proofs.Ytmdkfhfkdcbpgaa.IdxBuild Go.Proofs.Ytmdkfhfkdcbpgaa.Book Go.Proofs.Ytmdkfhfkdcbpgaa.Guard Go.Proofs.Ytmdkfhfkdcbpgaa.ProofIdx Go.Proofs.Ytmdkfhfkdcbpgaa.IdxAny Go.Proofs.Ytmdkfhfkdcbpgaa.Reader6 Go.Proofs.Ytmdkfhfkdcbpgaa.IdxDec

theorem unhid {p : Prop} (h : Hid p) : p := h.out
theorem sizeE : (Try.prog.info? 25).map (·.size) = some 33 := by kernel_rfl
theorem cells8_one {t : Text} (v : Value) (hv : v ∈ cells8 t) : v.oneCell' = true := by
  unfold cells8 at hv
  obtain ⟨x, -, rfl⟩ := List.mem_map.1 hv
  rfl
theorem Rd.apart {w : World} {g need c : Nat} {q : Text} {A : Option Addr} (h : Rd w g q A c need) : 0 < q.length → ∀ b o, A = some ⟨b, o, none⟩ → b < w.heap.size := by
  obtain ⟨at_, why, hb, hr, h1⟩ := h
  intro hp b o e
  obtain ⟨b', o', e', hlt, _⟩ := hr.2 (by omega)
  rw [e] at e'
  injection e' with e'
  injection e' with e1
  subst e1
  exact hlt
theorem wpList_conv {P : Program} {ops : Array Oper} {rest : List Oper} {o : Oper} {a : Act} {w : World} {Q : Exit → Act → World → Prop} (hgd : o.guard = none) (ta tb : TypeId) (x : Operand) (ho : o.op = .convert ta tb x) (v v' : Value) (hx : a.eval x = v) (hr : (convert ta tb v).run P w = .ok v' w)
    (h : wpList P ops Q rest (a.put o.dst v') w) : wpList P ops Q (o :: rest) a w := by
  refine wpList_plain hgd fun K hK => ?_
  unfold Oper.wp execOp
  simp only [ho, hx, Sem.run_bind, Sem.run_pure, Result.andThen_ok, hr]
  exact hK _ _ h
/-- An answer, as it lies in memory. -/
def APostX (w : World) (X : Ans) : Ending → World → Prop := DPost w X.1 X.2.1 X.2.2.1 X.2.2.2.1 X.2.2.2.2.1 X.2.2.2.2.2.1 X.2.2.2.2.2.2
theorem zpostX {w w' : World} {en : Int} {e : Ending} (he : e = .returned (.tuple #[.agg zI, .int .i64 en])) (hb : Below w.heap.size w w') : APostX w (zAns en) e w' :=
  ⟨none, 0, 0, by rw [he, zI_eq]; rfl, RdD.nil_ _ _, fun _ => ⟨rfl, rfl⟩, Nat.le_refl _, by omega, hb⟩
theorem fit32 {nm : ByteArray} {f : Bool} {ent : List Value} {d : Text} {A : Option Addr} {n c : Nat} (he : ent.length = 33) (hd : d.length = 32) : 35 + 32 ≤ (idxCells nm f ent d A n c).toArray.size := by
  simp [idxCells, cells8_len, he, hd]
theorem one_idx {nm : ByteArray} {f : Bool} {cnt : Int} {ch d : Text} {A : Option Addr} {n c : Nat} : ((idxCells nm f (entC cnt ch) d A n c).toArray.all fun v => v.oneCell') = true := by
  rw [List.all_toArray]
  refine List.all_eq_true.2 fun v hv => ?_
  simp only [idxCells, entC, List.mem_append, List.mem_cons, List.not_mem_nil, or_false] at hv
  rcases hv with ((((rfl | rfl) | (rfl | h)) | h) | rfl)
  · rfl
  · rfl
  · rfl
  · exact cells8_one v h
  · exact cells8_one v h
  · rfl
theorem size_idx {nm : ByteArray} {f : Bool} {cnt : Int} {ch d : Text} {A : Option Addr} {n c : Nat} (hch : ch.length = 32) (hd : d.length = 32) : (Try.prog.info? 28).map (·.size) = some (idxCells nm f (entC cnt ch) d A n c).toArray.size := by
  have : (idxCells nm f (entC cnt ch) d A n c).toArray.size = 68 := by simp [idxCells, entC_len hch, cells8_len, hd]
  rw [this]
  exact sizeX
theorem eq_idx {nm : ByteArray} {f : Bool} {cnt : Int} {ch d : Text} {A : Option Addr} {n c : Nat} (hch : ch.length = 32) (hd : d.length = 32) : zI.size = (idxCells nm f (entC cnt ch) d A n c).toArray.size := by
  have : (idxCells nm f (entC cnt ch) d A n c).toArray.size = 68 := by simp [idxCells, entC_len hch, cells8_len, hd]
  rw [this]
  rfl
end Go.Proofs.Ytmdkfhfkdcbpgaa.DecIdx2

namespace Go.Proofs.Ytmdkfhfkdcbpgaa.ReadIdx0
open Go Go.RowKit Go.Proofs.Ytmdkfhfkdcbpgaa Go.Proofs.Ytmdkfhfkdcbpgaa.Mem Go.Proofs.Ytmdkfhfkdcbpgaa.Sha Go.Proofs.Ytmdkfhfkdcbpgaa.Bytes Go.Proofs.Ytmdkfhfkdcbpgaa.Append Go.Proofs.Ytmdkfhfkdcbpgaa.Octet Go.Proofs.Ytmdkfhfkdcbpgaa.TreeMath Go.Proofs.Ytmdkfhfkdcbpgaa.TreeMem Go.Proofs.Ytmdkfhfkdcbpgaa.TreeRoot Go.Proofs.Ytmdkfhfkdcbpgaa.Held Go.Proofs.Ytmdkfhfkdcbpgaa.Own Go.Proofs.Ytmdkfhfkdcbpgaa.Reader Go.Proofs.Ytmdkfhfkdcbpgaa.Reader4 Go.Proofs.Ytmdkfhfkdcbpgaa.DecIncl Go.Proofs.Ytmdkfhfkdcbpgaa.DecIncl2 Go.Proofs.Ytmdkfhfkdcbpgaa.Bytes17 Go.Proofs.Ytmdkfhfkdcbpgaa.Way17 Go.Proofs.Ytmdkfhfkdcbpgaa.ReadIncl

theorem number_rq (q : Text) (hq : q.length < 140737488355328) (g B m n : Nat) (hn : n < 140737488355328) (w : World) (h : RQ w g B q m) :
    Calls Try.prog 61 #[.pointer (some ⟨g, 0, none⟩), .int .i64 (n : Int)] w fun e w' => ∃ x, e = .returned (.int .i64 x) ∧ (m + n ≤ q.length → x = lgInt (num ((q.drop m).take n))) ∧ (∃ r : Text, r.length ≤ n ∧ x = lgInt (num r)) ∧ RQ w' g B q (m + n) ∧ Kept (· = g) w w' ∧ w'.heap.size = w.heap.size := by
  obtain ⟨p, s, n1, n2, n3, n4⟩ := h
  refine (number_any p (by omega) g B n hn s w n1).mono ?_
  rintro e w' ⟨x, rfl, ho⟩
  obtain ⟨h1, h2⟩ := RQ.num n2 n3 n4 ho
  refine ⟨x, rfl, h2, ?_, h1, ho.2.2.1, ho.2.2.2⟩
  by_cases hp : n ≤ p.length
  · exact ⟨p.take n, by rw [List.length_take]; omega, (ho.1 hp).1⟩
  · exact ⟨[], Nat.zero_le _, by rw [(ho.2.1 (by omega)).1, lg_nil]⟩
theorem next_rq (q : Text) (hq : q.length < 140737488355328) (g B m n : Nat) (hn : n < 140737488355328) (w : World) (h : RQ w g B q m) :
    Calls Try.prog 60 #[.pointer (some ⟨g, 0, none⟩), .int .i64 (n : Int)] w fun e w' => ∃ A' c' r, e = .returned (.slice A' r.length c') ∧ Reads w' 1 A' r.length (cells8 r) ∧ r.length ≤ q.length ∧ (m + n ≤ q.length → r = (q.drop m).take n) ∧ (m ≤ q.length → q.length < m + n → r = []) ∧ RQ w' g B q (m + n) ∧ Kept (· = g) w w' ∧ w'.heap.size = w.heap.size := by
  obtain ⟨p, s, n1, n2, n3, n4⟩ := h
  refine (next_any p (by omega) g B n hn s w n1).mono ?_
  rintro e w' ⟨A', c', r, rfl, hr, -, -, -, o5, o6, hk, hz⟩
  refine ⟨A', c', r, rfl, hr, ?_, fun hl => ?_, fun h1 h2 => ?_, ?_, hk, hz⟩
  · by_cases hp : n ≤ p.length
    · rw [(o5 hp).1, List.length_take]; omega
    · rw [(o6 (by omega)).1]; exact Nat.zero_le _
  · obtain ⟨rfl, rfl⟩ := n2 (by omega)
    exact (o5 (by rw [List.length_drop]; omega)).1
  · obtain ⟨rfl, rfl⟩ := n2 h1
    exact (o6 (by rw [List.length_drop]; omega)).1
  · by_cases hp : n ≤ p.length
    · refine ⟨p.drop n, s, (o5 hp).2, fun h => ?_, fun h => ?_, by rw [List.length_drop]; omega⟩
      · obtain ⟨rfl, rfl⟩ := n2 (by omega)
        exact ⟨by rw [List.drop_drop], rfl⟩
      · by_cases hm : m ≤ q.length
        · obtain ⟨rfl, rfl⟩ := n2 hm
          rw [List.length_drop] at hp
          omega
        · exact n3 (by omega)
    · refine ⟨p, true, (o6 (by omega)).2, fun h => ?_, fun _ => rfl, n4⟩
      obtain ⟨rfl, -⟩ := n2 (by omega)
      rw [List.length_drop] at hp
      omega
theorem digest_rq (q : Text) (hq : q.length < 140737488355328) (g B m : Nat) (w : World) (h : RQ w g B q m) :
    Calls Try.prog 62 #[.pointer (some ⟨g, 0, none⟩)] w fun e w' => ∃ d : Text, e = .returned (.agg (cells8 d).toArray) ∧ d.length = 32 ∧ (m + 32 ≤ q.length → d = (q.drop m).take 32) ∧ RQ w' g B q (m + 32) ∧ Kept (· = g) w w' := by
  obtain ⟨p, s, n1, n2, n3, n4⟩ := h
  refine (digest17_any p (by omega) g B s w n1).mono ?_
  rintro e w' ⟨d, rfl, hd, o5, o6, hk⟩
  refine ⟨d, rfl, hd, fun hl => ?_, ?_, hk⟩
  · obtain ⟨rfl, rfl⟩ := n2 (by omega)
    exact (o5 (by rw [List.length_drop]; omega)).1
  · by_cases hp : 32 ≤ p.length
    · refine ⟨p.drop 32, s, (o5 hp).2, fun h => ?_, fun h => ?_, by rw [List.length_drop]; omega⟩
      · obtain ⟨rfl, rfl⟩ := n2 (by omega)
        exact ⟨by rw [List.drop_drop], rfl⟩
      · by_cases hm : m ≤ q.length
        · obtain ⟨rfl, rfl⟩ := n2 hm
          rw [List.length_drop] at hp
          omega
        · exact n3 (by omega)
    · refine ⟨p, true, o6 (by omega), fun h => ?_, fun _ => rfl, n4⟩
      obtain ⟨rfl, -⟩ := n2 (by omega)
      rw [List.length_drop] at hp
      omega
theorem way_rq (q : Text) (hq : q.length < 140737488355328) (g B m n : Nat) (hn : n ≤ 1099511627776) (w : World) (h : RQ w g B q m) :
    Calls Try.prog 63 #[.pointer (some ⟨g, 0, none⟩), .int .i64 (n : Int)] w fun e w' => ∃ (l : List Text) (A : Option Addr) (c : Nat), e = .returned (.slice A l.length c) ∧ RdD w' A l.length l ∧ (A = none → l.length = 0 ∧ c = 0) ∧ l.length ≤ c ∧ l.length ≤ n ∧ (m + 32 * n ≤ q.length → l = chunks (q.drop m) n) ∧ (∀ a, A = some a → w.heap.size ≤ a.block) ∧ Kept (· = g) w w' := by
  obtain ⟨p, s, n1, n2, n3, n4⟩ := h
  cases s with
  | true =>
    refine (way_short _ _ _ _ _ n1).mono ?_
    rintro e w' ⟨rfl, rfl⟩
    refine ⟨[], none, 0, rfl, RdD.nil_ _ _, fun _ => ⟨rfl, rfl⟩, Nat.le_refl _, Nat.zero_le _, fun hl => ?_, (fun a h => by cases h), Kept.refl _ _⟩
    have := (n2 (by omega)).2
    cases this
  | false =>
    refine (way_any _ _ _ (by omega) _ (by omega) _ n1).mono ?_
    rintro e w' ⟨l, A3, c3, rfl, hrd, hn3, hc3, hlN, hfull, hnew, hkk3⟩
    rw [Int.toNat_natCast] at hlN hfull
    refine ⟨l, A3, c3, rfl, hrd, hn3, hc3, hlN, fun hl => ?_, hnew, hkk3⟩
    obtain ⟨rfl, -⟩ := n2 (by omega)
    exact hfull (by rw [List.length_drop]; omega)
end Go.Proofs.Ytmdkfhfkdcbpgaa.ReadIdx0
