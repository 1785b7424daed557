/-
  Texts of the claim, put into one file: PieceRead, PieceMem, PieceMem2, HandM, Hand.
-/
import Derived.Test.YtmdkfhfkdcbpgaaZ31
import Derived.Test.YtmdkfhfkdcbpgaaZ24
import Derived.Test.YtmdkfhfkdcbpgaaZ10
import Derived.Test.YtmdkfhfkdcbpgaaZ9
import Derived.Test.YtmdkfhfkdcbpgaaZ5
import Derived.Test.YtmdkfhfkdcbpgaaZ18
import Derived.Test.YtmdkfhfkdcbpgaaZ7

namespace Go.Proofs.Ytmdkfhfkdcbpgaa.PieceRead
open Go Go.RowKit Go.Proofs.Ytmdkfhfkdcbpgaa Go.Proofs.Ytmdkfhfkdcbpgaa.Mem Go.Proofs.Ytmdkfhfkdcbpgaa.Sha Go.Proofs.Ytmdkfhfkdcbpgaa.Bytes Go.Proofs.Ytmdkfhfkdcbpgaa.Octet Go.Proofs.Ytmdkfhfkdcbpgaa.Octet4 Go.Proofs.Ytmdkfhfkdcbpgaa.TreeMem Go.Proofs.Ytmdkfhfkdcbpgaa.Reader Go.Proofs.Ytmdkfhfkdcbpgaa.Reader4 Go.Proofs.Ytmdkfhfkdcbpgaa.ProofBeside Go.Proofs.Ytmdkfhfkdcbpgaa.ProofEnc Go.Proofs.Ytmdkfhfkdcbpgaa.ProofIdx Go.Proofs.Ytmdkfhfkdcbpgaa.ProofIdx2 Go.Proofs.Ytmdkfhfkdcbpgaa.PieceP Go.Proofs.Ytmdkfhfkdcbpgaa.PieceRow Go.Proofs.Ytmdkfhfkdcbpgaa.PieceBegins Go.Proofs.Ytmdkfhfkdcbpgaa.Prs Go.Proofs.Ytmdkfhfkdcbpgaa.Reach Go.Proofs.Ytmdkfhfkdcbpgaa.PieceB Go.Proofs.Ytmdkfhfkdcbpgaa.PieceLay Go.Proofs.Ytmdkfhfkdcbpgaa.IdxMem

/-- How many digests the way of a number has. -/
def cz (Z y : Nat) : Nat := (PieceRow.bsNum (Z : Int) (y : Int)).toNat
def pcL (q : Text) : Nat := (q.getD 1 0).toNat
def pcS (q : Text) : Text := (q.drop 2).take (pcL q)
def pcF (q : Text) : Nat := n8 q (2 + pcL q)
def pcB (q : Text) : Text := (q.drop (10 + pcL q)).take 32
def pcZ (q : Text) : Nat := n8 q (42 + pcL q)
def pcN (q : Text) : Nat := n4 q (50 + pcL q)
def pcRows (q : Text) : List Row := rowsAt (cz (pcZ q)) q (54 + pcL q) (pcN q)
def pcEnd (q : Text) : Nat := endAt (cz (pcZ q)) q (54 + pcL q) (pcN q)
/-- A row as the count sees it. -/
def itemR (Z : Int) (r : Row) : PieceP.Item := ⟨r.e.length, Z, r.y, r.ds.length, fitB Z r.y r.ds.length r.e.length⟩
/-- May the rows be a piece? -/
def okR (s : ByteArray) (F : Int) (b : Text) (Z : Int) (rows : List Row) : Prop := begB s.data.toList F b = true ∧ 0 < rows.length ∧ rows.length ≤ 1000 ∧ goodFrom Z (54 + s.size) none (rows.map (itemR Z)) = true ∧ F ≤ Z - rows.length
instance (s : ByteArray) (F : Int) (b : Text) (Z : Int) (rows : List Row) : Decidable (okR s F b Z rows) := by unfold okR; infer_instance
/-- The rows, as proofs in memory. -/
def PsOf (Z : Int) (rows : List Row) (ps : List Pr) : Prop := ps.map (fun p => (p.x, p.y, p.n, p.ds)) = rows.map (fun r => (Z, (r.y : Int), r.ds.length, r.ds))
def pieceR (s : ByteArray) (F : Int) (b : Text) (Z : Int) (rows : List Row) : Text := [51] ++ [kb s.size] ++ nm s ++ be8 F.toNat ++ b ++ be8 Z.toNat ++ be4 rows.length ++ rowsB rows

theorem PsOf.len {Z : Int} {rows : List Row} {ps : List Pr} (h : PsOf Z rows ps) : ps.length = rows.length := by
  have := congrArg List.length h
  simpa using this
theorem PsOf.at_ {Z : Int} {rows : List Row} {ps : List Pr} (h : PsOf Z rows ps) {i : Nat} {p : Pr} {r : Row} (hp : ps[i]? = some p) (hr : rows[i]? = some r) : p.x = Z ∧ p.y = (r.y : Int) ∧ p.n = r.ds.length ∧ p.ds = r.ds := by
  have e := congrArg (fun l => l[i]?) h
  simp only [List.getElem?_map, hp, hr, Option.map_some, Option.some.injEq, Prod.mk.injEq] at e
  exact e
theorem PsOf.nil_ (Z : Int) : PsOf Z [] [] := rfl
theorem PsOf.snoc {Z : Int} {rows : List Row} {ps : List Pr} (h : PsOf Z rows ps) {p : Pr} {r : Row} (h1 : p.x = Z) (h2 : p.y = (r.y : Int)) (h3 : p.n = r.ds.length) (h4 : p.ds = r.ds) : PsOf Z (rows ++ [r]) (ps ++ [p]) := by
  unfold PsOf at *
  rw [List.map_append, List.map_append, h, List.map_singleton, List.map_singleton, h1, h2, h3, h4]
theorem items_of {Z : Int} : ∀ {rows : List Row} {ps : List Pr}, PsOf Z rows ps → itemsOf (rows.map (·.e)) ps = rows.map (itemR Z)
  | [], ps, h => by
    obtain rfl : ps = [] := by simpa [PsOf] using h
    rfl
  | r :: rows, [], h => by cases h
  | r :: rows, p :: ps, h => by
    have h' : (p.x, p.y, p.n, p.ds) :: ps.map (fun p => (p.x, p.y, p.n, p.ds)) = (Z, (r.y : Int), r.ds.length, r.ds) :: rows.map (fun r => (Z, (r.y : Int), r.ds.length, r.ds)) := h
    injection h' with e h2
    simp only [Prod.mk.injEq] at e
    obtain ⟨e1, e2, e3, e4⟩ := e
    have ih := items_of (Z := Z) (rows := rows) (ps := ps) h2
    show itemOf r.e p :: itemsOf (rows.map (·.e)) ps = itemR Z r :: rows.map (itemR Z)
    rw [ih]
    unfold itemOf itemR
    rw [e1, e2, e3]
theorem rows_of {Z : Int} : ∀ {rows : List Row} {ps : List Pr}, PsOf Z rows ps → rowsOf (rows.map (·.e)) ps = rows
  | [], ps, h => by
    obtain rfl : ps = [] := by simpa [PsOf] using h
    rfl
  | r :: rows, [], h => by cases h
  | r :: rows, p :: ps, h => by
    have h' : (p.x, p.y, p.n, p.ds) :: ps.map (fun p => (p.x, p.y, p.n, p.ds)) = (Z, (r.y : Int), r.ds.length, r.ds) :: rows.map (fun r => (Z, (r.y : Int), r.ds.length, r.ds)) := h
    injection h' with e h2
    simp only [Prod.mk.injEq] at e
    obtain ⟨e1, e2, e3, e4⟩ := e
    have ih := rows_of (Z := Z) (rows := rows) (ps := ps) h2
    show rowOf r.e p :: rowsOf (rows.map (·.e)) ps = r :: rows
    rw [ih]
    unfold rowOf
    rw [e2, e4, Int.toNat_natCast]
theorem first_of {Z : Int} {rows : List Row} {ps : List Pr} (h : PsOf Z rows ps) (h0 : 0 < rows.length) : firstSize ps = Z := by
  cases ps with
  | nil => have := h.len; simp at this; omega
  | cons p ps =>
    have hr : rows[0]? = some (rows[0]'h0) := List.getElem?_eq_getElem _
    exact (h.at_ (i := 0) (p := p) rfl hr).1
theorem okP_okR {s : ByteArray} {F : Int} {b : Text} {Z : Int} {rows : List Row} {ps : List Pr} (h : PsOf Z rows ps) : okP s F b (rows.map (·.e)) ps ↔ okR s F b Z rows := by
  rw [okP_iff, List.length_map, items_of h]
  unfold okR
  by_cases h0 : 0 < rows.length
  · rw [first_of h h0]
    exact ⟨fun ⟨a1, a2, a3, a4, a5, a6⟩ => ⟨a1, a2, a5, a4, a6⟩, fun ⟨a1, a2, a5, a4, a6⟩ => ⟨a1, a2, h.len, a4, a5, a6⟩⟩
  · exact ⟨fun h1 => absurd h1.2.1 h0, fun h1 => absurd h1.2.1 h0⟩
theorem piece_of {s : ByteArray} {F : Int} {b : Text} {Z : Int} {rows : List Row} {ps : List Pr} (h : PsOf Z rows ps) (h0 : 0 < rows.length) : pieceB s F b (rows.map (·.e)) ps = pieceR s F b Z rows := by
  unfold pieceB pieceR
  rw [first_of h h0, rows_of h, List.length_map]
/-- What rows hold that may be a piece. -/
theorem okR_row {s : ByteArray} {F : Int} {b : Text} {Z : Int} {rows : List Row} (h : okR s F b Z rows) : ∀ r ∈ rows, insideB Z r.y = true ∧ PieceRow.bsNum Z r.y = (r.ds.length : Int) ∧ 1 ≤ r.e.length ∧ r.e.length ≤ 65536 ∧ r.ds.length ≤ 40 ∧ 1 ≤ Z ∧ Z ≤ 1099511627776 ∧ (r.y : Int) < Z := fun r hr => by
  have hg := (good_all h.2.2.2.1 (itemR Z r) (List.mem_map_of_mem hr)).1
  obtain ⟨h1, h2, h3, h4, h5, h6, h7, -, h8⟩ := fit_parts (x := Z) (y := r.y) (n := r.ds.length) (k := r.e.length) hg
  exact ⟨h1, h2, h3, h4, h5, h6, h7, h8⟩
theorem okR_Z {s : ByteArray} {F : Int} {b : Text} {Z : Int} {rows : List Row} (h : okR s F b Z rows) : 1 ≤ Z ∧ Z ≤ 1099511627776 ∧ 0 ≤ F ∧ F ≤ 1099511627776 ∧ s.size ≤ 64 := by
  have h0 := h.2.1
  obtain ⟨-, -, -, -, -, h1, h2, -⟩ := okR_row h _ (List.getElem_mem h0)
  have hb := h.1
  unfold begB namedB at hb
  simp only [Bool.and_eq_true, decide_eq_true_eq] at hb
  have := h.2.2.2.2
  have h64 : s.size ≤ 64 := by simpa using hb.1.1
  exact ⟨h1, h2, hb.2.1, by omega, h64⟩
/-- Are these bytes a piece? -/
def pcOk (q : Text) : Prop := q.getD 0 0 = 51 ∧ pcEnd q = q.length ∧ okR (strT (pcS q)) (pcF q : Int) (pcB q) (pcZ q : Int) (pcRows q)
instance (q : Text) : Decidable (pcOk q) := by unfold pcOk; infer_instance
structure Ans where
  s : ByteArray
  F : Int
  b : Text
  Z : Int
  rows : List Row
  err : Int
def zAns (en : Int) : Ans := ⟨ByteArray.empty, 0, List.replicate 32 0, 0, [], en⟩
def pcGot (q : Text) : Ans := ⟨strT (pcS q), (pcF q : Int), pcB q, (pcZ q : Int), pcRows q, 0⟩
def pcAns (q : Text) : Ans := if 2097152 < q.length then zAns 170 else if pcOk q then pcGot q else zAns 8
theorem pcAns_long {q : Text} (h : 2097152 < q.length) : pcAns q = zAns 170 := by unfold pcAns; rw [if_pos h]
theorem pcAns_no {q : Text} (h : ¬ 2097152 < q.length) (h2 : ¬ pcOk q) : pcAns q = zAns 8 := by unfold pcAns; rw [if_neg h, if_neg h2]
theorem pcAns_yes {q : Text} (h : ¬ 2097152 < q.length) (h2 : pcOk q) : pcAns q = pcGot q := by unfold pcAns; rw [if_neg h, if_pos h2]
theorem pcRows_len (q : Text) : (pcRows q).length = pcN q := rowsAt_len _ _ _ _
theorem pcEnd_ge (q : Text) : 54 + pcL q + 12 * pcN q ≤ pcEnd q := endAt_ge _ _ _ _
/-- What a piece's bytes hold. -/
theorem pcOk_facts {q : Text} (h : pcOk q) : 54 + pcL q + 12 * pcN q ≤ q.length ∧ 1 ≤ pcN q ∧ pcN q ≤ 1000 ∧ pcF q ≤ 1099511627776 ∧ 1 ≤ pcZ q ∧ pcZ q ≤ 1099511627776 ∧ pcL q ≤ 64 ∧ (pcB q).length = 32 := by
  obtain ⟨-, h2, h3⟩ := h
  have h4 := pcEnd_ge q
  obtain ⟨z1, z2, z3, z4, z5⟩ := okR_Z h3
  have hn := h3.2.1
  have hn2 := h3.2.2.1
  rw [pcRows_len] at hn hn2
  have hl : (pcS q).length = pcL q := by unfold pcS; rw [List.length_take, List.length_drop]; omega
  rw [strT_size, hl] at z5
  refine ⟨by omega, by omega, by omega, by omega, by omega, by omega, z5, ?_⟩
  unfold pcB
  rw [List.length_take, List.length_drop]
  omega
/-- The place of the i-th row. -/
def plc (q : Text) (i : Nat) : Nat := endAt (cz (pcZ q)) q (54 + pcL q) i
theorem plc_succ (q : Text) (i : Nat) : plc q (i + 1) = nxt (cz (pcZ q)) q (plc q i) := endAt_succ _ _ _ _
theorem rowsAt_get (c : Nat → Nat) (q : Text) : ∀ (n o i : Nat), i < n → (rowsAt c q o n)[i]? = some (PieceB.rowAt c q (endAt c q o i))
  | 0, o, i, h => absurd h (Nat.not_lt_zero _)
  | n + 1, o, 0, _ => rfl
  | n + 1, o, i + 1, h => by
    show (rowsAt c q (nxt c q o) n)[i]? = some (PieceB.rowAt c q (endAt c q (nxt c q o) i))
    exact rowsAt_get c q n _ i (by omega)
/-- One row of a piece's bytes. -/
theorem pcOk_row {q : Text} (h : pcOk q) {i : Nat} (hi : i < pcN q) : nxt (cz (pcZ q)) q (plc q i) ≤ q.length ∧ n4 q (plc q i + 8) ≤ 65536 ∧ 1 ≤ n4 q (plc q i + 8) ∧ n8 q (plc q i) ≤ 1099511627776 ∧ insideB (pcZ q : Int) (n8 q (plc q i) : Int) = true ∧ PieceRow.bsNum (pcZ q : Int) (n8 q (plc q i) : Int) = (cz (pcZ q) (n8 q (plc q i)) : Int) ∧ cz (pcZ q) (n8 q (plc q i)) ≤ 40 := by
  have hm : nxt (cz (pcZ q)) q (plc q i) ≤ q.length := by
    rw [← plc_succ, ← h.2.1]
    exact endAt_mono _ _ _ _ _ (by omega)
  have hr : (pcRows q)[i]? = some (PieceB.rowAt (cz (pcZ q)) q (plc q i)) := rowsAt_get _ _ _ _ _ hi
  obtain ⟨h1, h2, h3, h4, h5, h6, h7, h8⟩ := okR_row h.2.2 _ (List.mem_of_getElem? hr)
  obtain ⟨-, l1, l2, l3⟩ := rowB_at (cz (pcZ q)) q (plc q i) hm
  rw [l1] at h3 h4
  rw [l3] at h2 h5
  have h8 : ((n8 q (plc q i) : Nat) : Int) < (pcZ q : Int) := h8
  exact ⟨hm, h4, h3, by omega, h1, h2, h5⟩
/-- What was laid down is read so. -/
theorem piece_read {p : Text} {F : Int} {b : Text} {Z : Int} {rows : List Row} (hb : b.length = 32) (hd : ∀ r ∈ rows, Digs r.ds) (hok : okR (strT p) F b Z rows) (q : Text) (hq : q = pieceR (strT p) F b Z rows) : pcOk q := by
  obtain ⟨z1, z2, z3, z4, z5⟩ := okR_Z hok
  rw [strT_size] at z5
  obtain ⟨F, rfl⟩ := Int.eq_ofNat_of_zero_le z3
  obtain ⟨Z, rfl⟩ := Int.eq_ofNat_of_zero_le (show 0 ≤ Z by omega)
  unfold pieceR at hq
  rw [strT_size, nm_strT, Int.toNat_natCast, Int.toNat_natCast] at hq
  have e1 : q = [51, kb p.length] ++ (p ++ (be8 F ++ (b ++ (be8 Z ++ (be4 rows.length ++ rowsB rows))))) := by rw [hq]; simp
  have h0 : q.getD 0 0 = 51 := by rw [e1]; rfl
  have hL : pcL q = p.length := by
    unfold pcL
    rw [e1]
    show (kb p.length).toNat = _
    unfold kb
    rw [BitVec.toNat_ofInt]
    omega
  have d2 : q.drop 2 = p ++ (be8 F ++ (b ++ (be8 Z ++ (be4 rows.length ++ rowsB rows)))) := by rw [e1]; rfl
  have d3 : q.drop (2 + p.length) = be8 F ++ (b ++ (be8 Z ++ (be4 rows.length ++ rowsB rows))) := by rw [← List.drop_drop, d2, List.drop_left]
  have d4 : q.drop (10 + p.length) = b ++ (be8 Z ++ (be4 rows.length ++ rowsB rows)) := by rw [show 10 + p.length = 2 + p.length + 8 by omega, ← List.drop_drop, d3, List.drop_left' (be8_len _)]
  have d5 : q.drop (42 + p.length) = be8 Z ++ (be4 rows.length ++ rowsB rows) := by rw [show 42 + p.length = 10 + p.length + 32 by omega, ← List.drop_drop, d4, List.drop_left' hb]
  have d6 : q.drop (50 + p.length) = be4 rows.length ++ rowsB rows := by rw [show 50 + p.length = 42 + p.length + 8 by omega, ← List.drop_drop, d5, List.drop_left' (be8_len _)]
  have hS : pcS q = p := by unfold pcS; rw [hL, d2, List.take_left]
  have hF : pcF q = F := by unfold pcF n8; rw [hL, d3, List.take_left' (be8_len _), num_be8 _ (by omega)]
  have hB : pcB q = b := by unfold pcB; rw [hL, d4, List.take_left' hb]
  have hZ : pcZ q = Z := by unfold pcZ n8; rw [hL, d5, List.take_left' (be8_len _), num_be8 _ (by omega)]
  have hN : pcN q = rows.length := by unfold pcN n4; rw [hL, d6, List.take_left' (be4_len _), num_be4 _ (by have := hok.2.2.1; omega)]
  have epre : q = ([51, kb p.length] ++ p ++ be8 F ++ b ++ be8 Z ++ be4 rows.length) ++ (rowsB rows ++ []) := by rw [e1]; simp
  have hpre : ([51, kb p.length] ++ p ++ be8 F ++ b ++ be8 Z ++ be4 rows.length).length = 54 + p.length := by simp [be8_len, be4_len, hb]; omega
  obtain ⟨r1, r2⟩ := rowsAt_of (cz Z) [] rows ([51, kb p.length] ++ p ++ be8 F ++ b ++ be8 Z ++ be4 rows.length) (fun r hr => by
    obtain ⟨a1, a2, a3, a4, a5, a6, a7, a8⟩ := okR_row hok r hr
    refine ⟨by omega, by omega, ?_, hd r hr⟩
    unfold cz
    rw [a2, Int.toNat_natCast])
  rw [← epre, hpre] at r1 r2
  have hR : pcRows q = rows := by unfold pcRows; rw [hL, hZ, hN, r1]
  have hE : pcEnd q = q.length := by
    unfold pcEnd
    rw [hL, hZ, hN, r2]
    conv => rhs; rw [epre]
    rw [List.length_append, hpre, List.append_nil]
  refine ⟨h0, hE, ?_⟩
  rw [hS, hF, hB, hZ, hR]
  exact hok
theorem cutq (q : Text) (a b : Nat) : q.drop a = (q.drop a).take b ++ q.drop (a + b) := by
  rw [← List.drop_drop, List.take_append_drop]
theorem two {q : Text} (h : 2 ≤ q.length) : q = [q.getD 0 0, q.getD 1 0] ++ q.drop 2 := by
  match q, h with
  | a :: b :: r, _ => rfl
  | [_], h => simp at h
  | [], h => simp at h
/-- What is read so was laid down. -/
theorem read_piece {q : Text} (h : pcOk q) : pieceR (strT (pcS q)) (pcF q : Int) (pcB q) (pcZ q : Int) (pcRows q) = q := by
  obtain ⟨f1, f2, f3, f4, f5, f6, f7, f8⟩ := pcOk_facts h
  have hl : (pcS q).length = pcL q := by unfold pcS; rw [List.length_take, List.length_drop]; omega
  unfold pieceR
  rw [strT_size, nm_strT, Int.toNat_natCast, Int.toNat_natCast, hl, pcRows_len]
  have e1 : be8 (pcF q) = (q.drop (2 + pcL q)).take 8 := ReadIncl.be8_num _ (by rw [List.length_take, List.length_drop]; omega)
  have e2 : be8 (pcZ q) = (q.drop (42 + pcL q)).take 8 := ReadIncl.be8_num _ (by rw [List.length_take, List.length_drop]; omega)
  have e3 : be4 (pcN q) = (q.drop (50 + pcL q)).take 4 := be4_num _ (by rw [List.length_take, List.length_drop]; omega)
  have e4 : rowsB (pcRows q) = q.drop (54 + pcL q) := by
    have := rowsB_at (cz (pcZ q)) q (pcN q) (54 + pcL q) (by have := h.2.1; unfold pcEnd at this; omega)
    unfold pcRows
    rw [this]
    have h2 := h.2.1
    unfold pcEnd at h2
    rw [h2, List.take_of_length_le (by rw [List.length_drop]; omega)]
  have e0 : kb (pcL q) = q.getD 1 0 := IdxDec.kb_toNat _
  rw [e1, e2, e3, e4, e0]
  conv => rhs; rw [two (q := q) (by omega), h.1, cutq q 2 (pcL q), cutq q (2 + pcL q) 8, show 2 + pcL q + 8 = 10 + pcL q by omega, cutq q (10 + pcL q) 32, show 10 + pcL q + 32 = 42 + pcL q by omega, cutq q (42 + pcL q) 8, show 42 + pcL q + 8 = 50 + pcL q by omega, cutq q (50 + pcL q) 4, show 50 + pcL q + 4 = 54 + pcL q by omega]
  unfold pcS pcB
  simp
/-- What in memory is laid down as these bytes is what they hold. -/
theorem want_read {p : Text} {F : Int} {b : Text} {es : List Text} {ps : List Pr} {q : Text} (hb : b.length = 32) (hd : ∀ x ∈ ps, Digs x.ds ∧ x.ds.length = x.n) (h : pieceWant (strT p) F b es ps = some q) : pcOk q := by
  unfold pieceWant at h
  split at h
  · rename_i hok
    have hq := (Option.some.inj h).symm
    obtain ⟨hf, -, -⟩ := okP_fits hok
    have hrl : (rowsOf es ps).length = es.length := rows_len hf.len
    have hE : (rowsOf es ps).map (·.e) = es := by
      apply List.ext_getElem?
      intro i
      rw [List.getElem?_map]
      by_cases hi : i < es.length
      · rw [rows_at (List.getElem?_eq_getElem hi) (List.getElem?_eq_getElem (show i < ps.length by rw [hf.len]; exact hi)), List.getElem?_eq_getElem hi]
        rfl
      · rw [List.getElem?_eq_none (by omega), List.getElem?_eq_none (by omega)]
        rfl
    have hP : PsOf (firstSize ps) (rowsOf es ps) ps := by
      unfold PsOf
      apply List.ext_getElem?
      intro i
      rw [List.getElem?_map, List.getElem?_map]
      by_cases hi : i < es.length
      · have h1 : ps[i]? = some (ps[i]'(by rw [hf.len]; exact hi)) := List.getElem?_eq_getElem _
        rw [rows_at (List.getElem?_eq_getElem hi) h1, h1]
        obtain ⟨k1, k2⟩ := hf.row i _ _ (List.getElem?_eq_getElem hi) h1
        obtain ⟨-, -, -, -, -, -, -, k3, -⟩ := fit_parts k1
        have k4 := (hd _ (List.mem_of_getElem? h1)).2
        simp only [Option.map_some, rowOf, Option.some.injEq, Prod.mk.injEq]
        exact ⟨k2, (Int.toNat_of_nonneg k3).symm, k4.symm, trivial⟩
      · rw [List.getElem?_eq_none (by rw [hf.len]; omega), List.getElem?_eq_none (by omega)]
        rfl
    have hokR : okR (strT p) F b (firstSize ps) (rowsOf es ps) := (okP_okR hP).1 (by rw [hE]; exact hok)
    have e := piece_of (s := strT p) (F := F) (b := b) hP hokR.2.1
    rw [hE] at e
    refine piece_read hb (fun r hr => ?_) hokR q (by rw [hq, e])
    obtain ⟨j, hj, rfl⟩ := List.getElem_of_mem hr
    have hj' : j < es.length := by omega
    have h1 : ps[j]? = some (ps[j]'(by rw [hf.len]; exact hj')) := List.getElem?_eq_getElem _
    have h2 := rows_at (List.getElem?_eq_getElem hj') h1
    rw [List.getElem?_eq_getElem hj] at h2
    rw [Option.some.inj h2]
    exact (hd _ (List.mem_of_getElem? h1)).1
  · cases h
/-- And what they hold is laid down as these bytes. -/
theorem read_want {q : Text} (h : pcOk q) {ps : List Pr} (hP : PsOf (pcZ q : Int) (pcRows q) ps) : pieceWant (strT (pcS q)) (pcF q : Int) (pcB q) ((pcRows q).map (·.e)) ps = some q := by
  unfold pieceWant
  rw [if_pos ((okP_okR hP).2 h.2.2), piece_of hP h.2.2.2.1, read_piece h]
end Go.Proofs.Ytmdkfhfkdcbpgaa.PieceRead

namespace Go.Proofs.Ytmdkfhfkdcbpgaa.PieceMem
open Go Go.RowKit Go.Proofs.Ytmdkfhfkdcbpgaa Go.Proofs.Ytmdkfhfkdcbpgaa.Mem Go.Proofs.Ytmdkfhfkdcbpgaa.Sha Go.Proofs.Ytmdkfhfkdcbpgaa.Bytes Go.Proofs.Ytmdkfhfkdcbpgaa.Append Go.Proofs.Ytmdkfhfkdcbpgaa.Own Go.Proofs.Ytmdkfhfkdcbpgaa.TreeMem Go.Proofs.Ytmdkfhfkdcbpgaa.Prs Go.Proofs.Ytmdkfhfkdcbpgaa.PieceLay Go.Proofs.Ytmdkfhfkdcbpgaa.HeadMem

/-! ### What lies in a block of another type is apart -/
theorem blk_own {w : World} {g B size n : Nat} {t e : TypeId} {cs : Array Value} {v : Value} {xs : List Value} (hb : Blk w g t cs) (ho : w.ownsRow B e size v n xs) (hne : t ≠ e) : some g ≠ v.ownBlock := fun h => by
  rcases ho.2 with ⟨rfl, -⟩ | ⟨g', cap, cur, rfl, -, h3, -⟩
  · cases h
  · obtain rfl : g = g' := Option.some.inj h
    have h2 : w.heap[g]? = some (.cells cs t (0, 0)) := hb
    rw [h3] at h2
    injection h2 with h2
    injection h2 with _ h2
    exact hne h2.symm
theorem own_own {w : World} {B B' size n size' n' : Nat} {e e' : TypeId} {v v' : Value} {xs xs' : List Value} (h : w.ownsRow B e size v n xs) (h' : w.ownsRow B' e' size' v' n' xs') (hne : e ≠ e') : ∀ k, v.ownBlock = some k → v'.ownBlock ≠ some k := fun k hk => by
  rcases h.2 with ⟨rfl, -⟩ | ⟨g, cap, cur, rfl, -, h3, -⟩
  · cases hk
  · obtain rfl : g = k := Option.some.inj hk
    exact fun e2 => blk_own (g := g) (t := e) (cs := cur) h3 h' hne e2.symm
theorem own_keep {S : Nat → Prop} {w w' : World} {base e size n : Nat} {v : Value} {xs : List Value} (h : w.ownsRow base e size v n xs) (hk : Kept S w w') (hS : ∀ k, v.ownBlock = some k → ¬ S k) : w'.ownsRow base e size v n xs := by
  refine ⟨h.1, h.2.imp id fun ⟨g, cap, cur, h1, h2, h3, h4⟩ => ⟨g, cap, cur, h1, h2, ?_, h4⟩⟩
  rw [hk.block g (Array.getElem?_eq_some_iff.1 h3).1 (hS g (by rw [h1]; rfl)), h3]
theorem grew_kept {w w' : World} {base e size n m : Nat} {v v' : Value} {xs news : List Value} (h : Grew w base e size v n m xs news v' w') : Kept (fun k => some k = v.ownBlock) w w' := ⟨h.grow.os, h.grow.tape, h.grow.output, h.grow.size, fun k hk hne => h.grow.block k hk hne⟩
theorem grew_new {w w' : World} {base e size n m : Nat} {v v' : Value} {xs news : List Value} (h : Grew w base e size v n m xs news v' w') : ∀ k, v'.ownBlock = some k → v.ownBlock = some k ∨ w.heap.size ≤ k := fun k hk => by
  rcases h.at_ with h1 | h1
  · exact .inl (h1.symm.trans hk)
  · rw [h1] at hk
    exact .inr (Nat.le_of_eq (Option.some.inj hk))

/-! ### Texts in a row -/
/-- Each text of a row lies somewhere, apart from the blocks that turn. -/
def Txa (w : World) (X : Nat → Prop) (xs : List Value) (ts : List Text) : Prop := xs.length = ts.length ∧ ∀ (i : Nat) (q : Text), ts[i]? = some q → ∃ A c, xs[i]? = some (.slice A q.length c) ∧ q.length ≤ c ∧ (A = none → q.length = 0 ∧ c = 0) ∧ Reads w 1 A q.length (cells8 q) ∧ ∀ a, A = some a → 0 < q.length → a.block < w.heap.size ∧ ¬ X a.block
theorem Txa.nil_ (w : World) (X : Nat → Prop) : Txa w X [] [] := ⟨rfl, fun i q h => by cases h⟩
theorem Txa.step {w w' : World} {X X' S : Nat → Prop} {xs : List Value} {ts : List Text} (h : Txa w X xs ts) (hk : Kept S w w') (hS : ∀ k, k < w.heap.size → S k → X k) (hX : ∀ k, k < w.heap.size → X' k → X k) : Txa w' X' xs ts := ⟨h.1, fun i q hq => by
  obtain ⟨A, c, a1, a2, a3, a4, a5⟩ := h.2 i q hq
  refine ⟨A, c, a1, a2, a3, a4.kept0 hk (fun h0 b o e hs => (a5 _ e (by omega)).2 (hS b (a5 _ e (by omega)).1 hs)), fun a e h0 => ⟨Nat.lt_of_lt_of_le (a5 a e h0).1 hk.size, fun hx => (a5 a e h0).2 (hX _ (a5 a e h0).1 hx)⟩⟩⟩
theorem Txa.push {w : World} {X : Nat → Prop} {xs : List Value} {ts : List Text} (h : Txa w X xs ts) {A : Option Addr} {c k : Nat} {q : Text} (hk : q.length = k) (hc : k ≤ c) (hn : A = none → k = 0 ∧ c = 0) (hr : Reads w 1 A k (cells8 q)) (ha : ∀ a, A = some a → 0 < k → a.block < w.heap.size ∧ ¬ X a.block) : Txa w X (xs ++ [.slice A k c]) (ts ++ [q]) := by
  subst hk
  refine ⟨by simp [h.1], fun i p hp => ?_⟩
  rcases Nat.lt_or_ge i ts.length with hi | hi
  · rw [List.getElem?_append_left hi] at hp
    obtain ⟨A', c', a1, a2⟩ := h.2 i p hp
    exact ⟨A', c', by rw [List.getElem?_append_left (by have := h.1; omega)]; exact a1, a2⟩
  · rw [List.getElem?_append_right hi] at hp
    have hi0 : i = ts.length := by
      have := (List.getElem?_eq_some_iff.1 hp).1
      simp at this
      omega
    subst hi0
    rw [Nat.sub_self] at hp
    obtain rfl := Option.some.inj hp
    exact ⟨A, c, by rw [← h.1, List.getElem?_append_right (Nat.le_refl _), Nat.sub_self]; rfl, hc, hn, hr, ha⟩
theorem Txa.one {w : World} {X : Nat → Prop} {xs : List Value} {ts : List Text} (h : Txa w X xs ts) : ∀ u ∈ xs, u.oneCell' = true := by
  intro u hu
  obtain ⟨j, hj, rfl⟩ := List.mem_iff_getElem.1 hu
  obtain ⟨A, c, h1, -⟩ := h.2 j _ (List.getElem?_eq_getElem (show j < ts.length by have := h.1; omega))
  rw [List.getElem?_eq_getElem hj] at h1
  rw [Option.some.inj h1]
  rfl
theorem Txa.pieces {w : World} {X : Nat → Prop} {B : Nat} {v : Value} {xs : List Value} {ts : List Text} {n : Nat} (hO : w.ownsRow B 29 1 v n xs) (hx : Txa w X xs ts) : ∃ A c, v = .slice A n c ∧ n ≤ c ∧ (A = none → n = 0 ∧ c = 0) ∧ Pieces w A ts ∧ ts.length = n := by
  obtain ⟨A, c, e, hc, -, hnil, hr, -⟩ := Own.reads hO
  have hl : ts.length = n := by have := hO.1; have := hx.1; omega
  refine ⟨A, c, e, hc, hnil, fun h0 => ?_, hl⟩
  obtain ⟨b, o, e1, hb, hcs⟩ := hr.at_ (by omega)
  refine ⟨b, o, e1, hb, fun i q hq => ?_⟩
  obtain ⟨A', c', a1, a2, a3, a4, -⟩ := hx.2 i q hq
  exact ⟨A', c', hcs i _ a1, a2, a4, a3⟩

/-! ### Proofs in a row -/
def Pra (w : World) (X : Nat → Prop) (ps : List Pr) : Prop := ∀ p ∈ ps, RdD w p.A p.n p.ds ∧ p.n ≤ p.c ∧ ∀ a, p.A = some a → a.block < w.heap.size ∧ ¬ X a.block
theorem Pra.nil_ (w : World) (X : Nat → Prop) : Pra w X [] := fun p h => by cases h
theorem Pra.step {w w' : World} {X X' S : Nat → Prop} {ps : List Pr} (h : Pra w X ps) (hk : Kept S w w') (hS : ∀ k, k < w.heap.size → S k → X k) (hX : ∀ k, k < w.heap.size → X' k → X k) : Pra w' X' ps := fun p hp => by
  obtain ⟨a1, a2, a3⟩ := h p hp
  exact ⟨⟨a1.1, a1.2.1, a1.2.2.kept hk (fun b o e hs => (a3 _ e).2 (hS b (a3 _ e).1 hs))⟩, a2, fun a e => ⟨Nat.lt_of_lt_of_le (a3 a e).1 hk.size, fun hx => (a3 a e).2 (hX _ (a3 a e).1 hx)⟩⟩
theorem Pra.push {w : World} {X : Nat → Prop} {ps : List Pr} (h : Pra w X ps) {p : Pr} (h1 : RdD w p.A p.n p.ds) (h2 : p.n ≤ p.c) (h3 : ∀ a, p.A = some a → a.block < w.heap.size ∧ ¬ X a.block) : Pra w X (ps ++ [p]) := fun x hx => by
  rcases List.mem_append.1 hx with hx | hx
  · exact h x hx
  · obtain rfl := List.mem_singleton.1 hx
    exact ⟨h1, h2, h3⟩
theorem flat_len (ps : List Pr) : (ps.flatMap Pr.cells).length = 3 * ps.length := by
  induction ps with
  | nil => rfl
  | cons p ps ih =>
    rw [List.flatMap_cons, List.length_append, ih, List.length_cons]
    show 3 + _ = _
    omega
theorem Pra.prs {w : World} {X : Nat → Prop} {B : Nat} {v : Value} {ps : List Pr} {n : Nat} (hO : w.ownsRow B 48 3 v n (ps.flatMap Pr.cells)) (hx : Pra w X ps) : ∃ A c, v = .slice A n c ∧ n ≤ c ∧ (A = none → n = 0 ∧ c = 0) ∧ Prs w A ps ∧ ps.length = n := by
  obtain ⟨A, c, e, hc, -, hnil, hr, -⟩ := Own.reads hO
  have hl : ps.length = n := by have := hO.1; rw [flat_len] at this; omega
  exact ⟨A, c, e, hc, hnil, ⟨by rw [hl]; exact hr, fun p hp => ⟨(hx p hp).1, (hx p hp).2.1⟩⟩, hl⟩
theorem flat_snoc (ps : List Pr) (p : Pr) : (ps ++ [p]).flatMap Pr.cells = ps.flatMap Pr.cells ++ p.cells := by rw [List.flatMap_append, List.flatMap_singleton]

/-! ### A piece in a block -/
section
variable {s s' : ByteArray} {F F' : Int} {b b' : Text} {E E' P P' : Value}
theorem pc_set0 : (pieceCells s F b E P).toArray.setIfInBounds 0 (.string s') = (pieceCells s' F b E P).toArray := by
  rw [List.setIfInBounds_toArray]
  rfl
theorem pc_set1 : (pieceCells s F b E P).toArray.setIfInBounds 1 (.int .i64 F') = (pieceCells s F' b E P).toArray := by
  rw [List.setIfInBounds_toArray]
  rfl
theorem pc_setE (hb : b.length = 32) : (pieceCells s F b E P).toArray.setIfInBounds 34 E' = (pieceCells s F b E' P).toArray := by
  rw [List.setIfInBounds_toArray]
  congr 1
  unfold pieceCells
  rw [List.set_append_right _ _ (by simp [cells8_len, hb])]
  simp [cells8_len, hb]
theorem pc_setP (hb : b.length = 32) : (pieceCells s F b E P).toArray.setIfInBounds 35 P' = (pieceCells s F b E P').toArray := by
  rw [List.setIfInBounds_toArray]
  congr 1
  unfold pieceCells
  rw [List.set_append_right _ _ (by simp [cells8_len, hb])]
  simp [cells8_len, hb]
theorem pc_setB (h : b.length = 32) (h' : b'.length = 32) : (((pieceCells s F b E P).toArray.toList.take 2 ++ (cells8 b').toArray.toList ++ (pieceCells s F b E P).toArray.toList.drop (2 + (cells8 b').toArray.size)).toArray : Array Value) = (pieceCells s F b' E P).toArray := by
  have hz : (cells8 b').toArray.size = 32 := by rw [List.size_toArray, cells8_len, h']
  rw [hz]
  congr 1
  have e : pieceCells s F b E P = [Value.string s, Value.int .i64 F] ++ cells8 b ++ [E, P] := rfl
  show (pieceCells s F b E P).take 2 ++ cells8 b' ++ (pieceCells s F b E P).drop (2 + 32) = _
  rw [e]
  have t1 : ([Value.string s, Value.int .i64 F] ++ cells8 b ++ [E, P]).take 2 = [Value.string s, Value.int .i64 F] := by simp
  have t2 : ([Value.string s, Value.int .i64 F] ++ cells8 b ++ [E, P]).drop (2 + 32) = [E, P] := by rw [List.drop_left' (by simp [cells8_len, h])]
  rw [t1, t2]
  rfl
theorem pc_size (hb : b.length = 32) : (pieceCells s F b E P).toArray.size = 36 := by rw [List.size_toArray, pc_len hb]
theorem pc_fit (hb : b.length = 32) : 2 + 32 ≤ (pieceCells s F b E P).toArray.size := by rw [pc_size hb]; omega
theorem cells8_one {t : Text} (v : Value) (hv : v ∈ cells8 t) : v.oneCell' = true := by
  unfold cells8 at hv
  obtain ⟨x, -, rfl⟩ := List.mem_map.1 hv
  rfl
theorem pc_one (hE : E.oneCell' = true) (hP : P.oneCell' = true) : ((pieceCells s F b E P).toArray.all fun v => v.oneCell') = true := by
  rw [List.all_toArray]
  refine List.all_eq_true.2 fun v hv => ?_
  simp only [pieceCells, List.mem_append, List.mem_cons, List.not_mem_nil, or_false] at hv
  rcases hv with ((rfl | rfl) | h) | (rfl | rfl)
  · rfl
  · rfl
  · exact cells8_one v h
  · exact hE
  · exact hP
theorem pc_info (hb : b.length = 32) : (Try.prog.info? 44).map (·.size) = some (pieceCells s F b E P).toArray.size := by rw [pc_size hb]; exact size36
end
/-- The zero api.Piece. -/
def zP : Array Value := (pieceCells ByteArray.empty 0 (List.replicate 32 0) (.slice none 0 0) (.slice none 0 0)).toArray
theorem zP_size : (Try.prog.info? 44).map (·.size) = some zP.size := pc_info rfl
theorem zP_one : (zP.all fun v => v.oneCell') = true := pc_one rfl rfl

/-- An answer, as it lies in memory. -/
def PPost (w : World) (X : PieceRead.Ans) (e : Ending) (w' : World) : Prop :=
  ∃ (A : Option Addr) (n c : Nat) (A2 : Option Addr) (c2 : Nat) (ps : List Pr), e = .returned (.tuple #[.agg (pieceCells X.s X.F X.b (.slice A n c) (.slice A2 n c2)).toArray, .int .i64 X.err]) ∧ X.rows.length = n ∧ PieceRead.PsOf X.Z X.rows ps ∧ Pieces w' A (X.rows.map (·.e)) ∧ Prs w' A2 ps ∧ Below w.heap.size w w'
theorem zpost {w w' : World} {en : Int} {e : Ending} (he : e = .returned (.tuple #[.agg zP, .int .i64 en])) (hb : Below w.heap.size w w') : PPost w (PieceRead.zAns en) e w' :=
  ⟨none, 0, 0, none, 0, [], he, rfl, rfl, fun h => absurd h (by simp [PieceRead.zAns]), ⟨Reads.nil_ _ _ _, fun p h => by cases h⟩, hb⟩
end Go.Proofs.Ytmdkfhfkdcbpgaa.PieceMem

namespace Go.Proofs.Ytmdkfhfkdcbpgaa.PieceMem2
open Go Go.RowKit Go.Proofs.Ytmdkfhfkdcbpgaa Go.Proofs.Ytmdkfhfkdcbpgaa.Mem Go.Proofs.Ytmdkfhfkdcbpgaa.Sha Go.Proofs.Ytmdkfhfkdcbpgaa.Bytes Go.Proofs.Ytmdkfhfkdcbpgaa.Append Go.Proofs.Ytmdkfhfkdcbpgaa.Own Go.Proofs.Ytmdkfhfkdcbpgaa.TreeMem Go.Proofs.Ytmdkfhfkdcbpgaa.Prs Go.Proofs.Ytmdkfhfkdcbpgaa.PieceLay Go.Proofs.Ytmdkfhfkdcbpgaa.HeadMem Go.Proofs.Ytmdkfhfkdcbpgaa.PieceMem

/-- The blocks that turn: all below a base, some others, and the two rows'. -/
def XB (B : Nat) (Y : Nat → Prop) (E P : Value) (k : Nat) : Prop := k < B ∨ Y k ∨ some k = E.ownBlock ∨ some k = P.ownBlock
structure Pk (w0 W : World) (R B gp : Nat) (cs : Array Value) (E P : Value) (i j : Nat) (xs : List Value) (ts : List Text) (ps : List Pr) (X : Nat → Prop) : Prop where
  bk : Blk W gp 44 cs
  rs : Blk W R 44 zP
  oe : W.ownsRow B 29 1 E i xs
  op : W.ownsRow B 48 3 P j (ps.flatMap Pr.cells)
  tx : Txa W X xs ts
  pa : Pra W X ps
  be : Below R w0 W
theorem below_kept {S : Nat → Prop} {R : Nat} {w0 W W' : World} (h : Below R w0 W) (hk : Kept S W W') (hS : ∀ k, k < W.heap.size → S k → R ≤ k) (hR : R ≤ W.heap.size) : Below R w0 W' :=
  h.trans ⟨hk.os, hk.tape, hk.output, hk.size, fun k hlt => hk.block k (by omega) (fun hs => by have := hS k (by omega) hs; omega)⟩
section
variable {w0 W W' : World} {R B gp : Nat} {cs : Array Value} {E P : Value} {i j : Nat} {xs : List Value} {ts : List Text} {ps : List Pr} {X X' : Nat → Prop}
theorem Pk.kept {S : Nat → Prop} (h : Pk w0 W R B gp cs E P i j xs ts ps X) (hk : Kept S W W') (hS : ∀ k, k < W.heap.size → S k → R < k ∧ k ≠ gp ∧ some k ≠ E.ownBlock ∧ some k ≠ P.ownBlock ∧ X k) : Pk w0 W' R B gp cs E P i j xs ts ps X :=
  ⟨h.bk.kept hk (fun s => (hS _ h.bk.lt s).2.1 rfl), h.rs.kept hk (fun s => by have := (hS _ h.rs.lt s).1; omega), own_keep h.oe hk (fun k e s => (hS k (h.oe.lt k e).2 s).2.2.1 e.symm), own_keep h.op hk (fun k e s => (hS k (h.op.lt k e).2 s).2.2.2.1 e.symm),
   h.tx.step hk (fun k hl s => (hS k hl s).2.2.2.2) (fun _ _ x => x), h.pa.step hk (fun k hl s => (hS k hl s).2.2.2.2) (fun _ _ x => x), below_kept h.be hk (fun k hl s => by have := (hS k hl s).1; omega) (Nat.le_of_lt h.rs.lt)⟩
theorem Pk.weak (h : Pk w0 W R B gp cs E P i j xs ts ps X) (hX : ∀ k, k < W.heap.size → X' k → X k) : Pk w0 W R B gp cs E P i j xs ts ps X' :=
  ⟨h.bk, h.rs, h.oe, h.op, h.tx.step (S := fun _ => False) (Kept.refl _ _) (fun _ _ s => s.elim) hX, h.pa.step (S := fun _ => False) (Kept.refl _ _) (fun _ _ s => s.elim) hX, h.be⟩
theorem Pk.below (h : Pk w0 W R B gp cs E P i j xs ts ps X) (hb : Below W.heap.size W W') : Pk w0 W' R B gp cs E P i j xs ts ps X := h.kept (S := fun _ => False) (Kept.of_below hb) (fun _ _ s => s.elim)
theorem Pk.alloc (h : Pk w0 W R B gp cs E P i j xs ts ps X) (o : Obj) : Pk w0 (W.alloc o) R B gp cs E P i j xs ts ps X := h.below (Below.heap_below W o)
/-- A store into a field. -/
theorem Pk.set_ (h : Pk w0 W R B gp cs E P i j xs ts ps X) (hRg : R < gp) (hX : X gp) (f : Nat) (u : Value) (cs' : Array Value) (hcs : cs.setIfInBounds f u = cs') : Pk w0 (W.setCell ⟨gp, f, none⟩ u) R B gp cs' E P i j xs ts ps X := by
  have hk : Kept (· = gp) W (W.setCell ⟨gp, f, none⟩ u) := (Kept.refl (· = gp) W).setCell (.inl rfl) _
  refine ⟨by rw [← hcs]; exact h.bk.set_ f u, h.rs.kept hk (by omega), own_keep h.oe hk (fun k e s => ?_), own_keep h.op hk (fun k e s => ?_), h.tx.step hk (fun k _ s => by rw [s]; exact hX) (fun _ _ x => x), h.pa.step hk (fun k _ s => by rw [s]; exact hX) (fun _ _ x => x), below_kept h.be hk (fun k _ s => by rw [s]; omega) (Nat.le_of_lt h.rs.lt)⟩
  · exact blk_own h.bk h.oe (by decide) (by rw [e, s])
  · exact blk_own h.bk h.op (by decide) (by rw [e, s])
end
section
variable {w0 W W2 : World} {R B gp : Nat} {s : ByteArray} {F : Int} {b : Text} {E P E' P' : Value} {i j : Nat} {xs : List Value} {ts : List Text} {ps : List Pr} {Y : Nat → Prop}
/-- A text more. -/
theorem Pk.pushE (h : Pk w0 W R B gp (pieceCells s F b E P).toArray E P i j xs ts ps (XB B Y E P)) (hb : b.length = 32) (hRg : R < gp) (hgB : gp < B) {A : Option Addr} {c k : Nat} {q : Text} (hk : q.length = k) (hc : k ≤ c) (hn : A = none → k = 0 ∧ c = 0) (hr : Reads W 1 A k (cells8 q)) (ha : ∀ a, A = some a → 0 < k → a.block < W.heap.size ∧ ¬ XB B Y E P a.block)
    (hG : Grew (W.alloc (.cells #[.slice A k c] 29)) B 29 1 E i 1 xs [.slice A k c] E' W2) :
    Pk w0 (W2.setCell ⟨gp, 34, none⟩ E') R B gp (pieceCells s F b E' P).toArray E' P (i + 1) j (xs ++ [.slice A k c]) (ts ++ [q]) ps (XB B Y E' P) ∧ Kept (fun k => some k = E.ownBlock ∨ k = gp) W (W2.setCell ⟨gp, 34, none⟩ E') ∧ W.heap.size < W2.heap.size ∧ (∀ k, E'.ownBlock = some k → E.ownBlock = some k ∨ W.heap.size ≤ k) ∧ Blk W2 gp 44 (pieceCells s F b E P).toArray := by
  have K1 : Kept (fun k => some k = E.ownBlock) W W2 := ((Kept.refl (fun k => some k = E.ownBlock) W).alloc _).trans (grew_kept hG) (fun _ _ x => x)
  have K2 : Kept (fun k => some k = E.ownBlock ∨ k = gp) W (W2.setCell ⟨gp, 34, none⟩ E') := (K1.mono (fun _ _ x => .inl x)).setCell (.inl (.inr rfl)) _
  have hsz : W.heap.size < W2.heap.size := by have := hG.grow.size; simp at this; omega
  have hge : some gp ≠ E.ownBlock := blk_own h.bk h.oe (by decide)
  have hbk2 : Blk W2 gp 44 (pieceCells s F b E P).toArray := h.bk.kept K1 hge
  have hge' : some gp ≠ E'.ownBlock := blk_own hbk2 hG.own (by decide)
  have hnew : ∀ k, E'.ownBlock = some k → E.ownBlock = some k ∨ W.heap.size ≤ k := fun k e => by
    rcases grew_new hG k e with h1 | h1
    · exact .inl h1
    · simp at h1; exact .inr (by omega)
  have hSX : ∀ k, k < W.heap.size → (some k = E.ownBlock ∨ k = gp) → XB B Y E P k := fun k _ hs => by
    rcases hs with hs | hs
    · exact .inr (.inr (.inl hs))
    · exact .inl (by omega)
  have hXX : ∀ k, k < W.heap.size → XB B Y E' P k → XB B Y E P k := fun k hl hx => by
    rcases hx with hx | hx | hx | hx
    · exact .inl hx
    · exact .inr (.inl hx)
    · rcases hnew k hx.symm with h1 | h1
      · exact .inr (.inr (.inl h1.symm))
      · omega
    · exact .inr (.inr (.inr hx))
  have hsz3 : W2.heap.size = (W2.setCell ⟨gp, 34, none⟩ E').heap.size := by simp
  refine ⟨⟨?_, h.rs.kept K2 ?_, ?_, ?_, ?_, h.pa.step K2 hSX hXX, ?_⟩, K2, hsz, hnew, hbk2⟩
  · have := hbk2.set_ 34 E'
    rw [pc_setE hb] at this
    exact this
  · rintro (hs | hs)
    · exact blk_own h.rs h.oe (by decide) hs
    · omega
  · exact own_keep hG.own ((Kept.refl (· = gp) W2).setCell (.inl rfl) _) (fun k e hs => hge' (by rw [e, hs]))
  · refine own_keep h.op K2 (fun k e hs => ?_)
    rcases hs with hs | hs
    · exact own_own h.op h.oe (by decide) k e hs.symm
    · exact blk_own h.bk h.op (by decide) (by rw [e, hs])
  · refine (h.tx.step K2 hSX hXX).push hk hc hn (hr.kept0 K2 (fun h0 b o e hs => (ha _ e (by omega)).2 (hSX b (ha _ e (by omega)).1 hs))) (fun a e h0 => ⟨by have := (ha a e h0).1; rw [← hsz3]; omega, fun hx => (ha a e h0).2 (hXX _ (ha a e h0).1 hx)⟩)
  · refine below_kept h.be K2 (fun k hl hs => ?_) (Nat.le_of_lt h.rs.lt)
    rcases hs with hs | hs
    · have := (h.oe.lt k hs.symm).1; omega
    · omega
/-- A proof more. -/
theorem Pk.pushP (h : Pk w0 W R B gp (pieceCells s F b E P).toArray E P i j xs ts ps (XB B Y E P)) (hb : b.length = 32) (hRg : R < gp) (hgB : gp < B) (p : Pr) (h1 : RdD W p.A p.n p.ds) (h2 : p.n ≤ p.c) (ha : ∀ a, p.A = some a → a.block < W.heap.size ∧ ¬ XB B Y E P a.block)
    (hG : Grew (W.alloc (.cells p.cells.toArray 48)) B 48 3 P j 1 (ps.flatMap Pr.cells) p.cells P' W2) :
    Pk w0 (W2.setCell ⟨gp, 35, none⟩ P') R B gp (pieceCells s F b E P').toArray E P' i (j + 1) xs ts (ps ++ [p]) (XB B Y E P') ∧ Kept (fun k => some k = P.ownBlock ∨ k = gp) W (W2.setCell ⟨gp, 35, none⟩ P') ∧ W.heap.size < W2.heap.size ∧ (∀ k, P'.ownBlock = some k → P.ownBlock = some k ∨ W.heap.size ≤ k) ∧ Blk W2 gp 44 (pieceCells s F b E P).toArray := by
  have K1 : Kept (fun k => some k = P.ownBlock) W W2 := ((Kept.refl (fun k => some k = P.ownBlock) W).alloc _).trans (grew_kept hG) (fun _ _ x => x)
  have K2 : Kept (fun k => some k = P.ownBlock ∨ k = gp) W (W2.setCell ⟨gp, 35, none⟩ P') := (K1.mono (fun _ _ x => .inl x)).setCell (.inl (.inr rfl)) _
  have hsz : W.heap.size < W2.heap.size := by have := hG.grow.size; simp at this; omega
  have hge : some gp ≠ P.ownBlock := blk_own h.bk h.op (by decide)
  have hbk2 : Blk W2 gp 44 (pieceCells s F b E P).toArray := h.bk.kept K1 hge
  have hge' : some gp ≠ P'.ownBlock := blk_own hbk2 hG.own (by decide)
  have hnew : ∀ k, P'.ownBlock = some k → P.ownBlock = some k ∨ W.heap.size ≤ k := fun k e => by
    rcases grew_new hG k e with h1 | h1
    · exact .inl h1
    · simp at h1; exact .inr (by omega)
  have hSX : ∀ k, k < W.heap.size → (some k = P.ownBlock ∨ k = gp) → XB B Y E P k := fun k _ hs => by
    rcases hs with hs | hs
    · exact .inr (.inr (.inr hs))
    · exact .inl (by omega)
  have hXX : ∀ k, k < W.heap.size → XB B Y E P' k → XB B Y E P k := fun k hl hx => by
    rcases hx with hx | hx | hx | hx
    · exact .inl hx
    · exact .inr (.inl hx)
    · exact .inr (.inr (.inl hx))
    · rcases hnew k hx.symm with h1 | h1
      · exact .inr (.inr (.inr h1.symm))
      · omega
  have hsz3 : W2.heap.size = (W2.setCell ⟨gp, 35, none⟩ P').heap.size := by simp
  refine ⟨⟨?_, h.rs.kept K2 ?_, ?_, ?_, h.tx.step K2 hSX hXX, ?_, ?_⟩, K2, hsz, hnew, hbk2⟩
  · have := hbk2.set_ 35 P'
    rw [pc_setP hb] at this
    exact this
  · rintro (hs | hs)
    · exact blk_own h.rs h.op (by decide) hs
    · omega
  · refine own_keep h.oe K2 (fun k e hs => ?_)
    rcases hs with hs | hs
    · exact own_own h.oe h.op (by decide) k e hs.symm
    · exact blk_own h.bk h.oe (by decide) (by rw [e, hs])
  · rw [flat_snoc]
    exact own_keep hG.own ((Kept.refl (· = gp) W2).setCell (.inl rfl) _) (fun k e hs => hge' (by rw [e, hs]))
  · exact (h.pa.step K2 hSX hXX).push ⟨h1.1, h1.2.1, h1.2.2.kept K2 (fun b o e hs => (ha _ e).2 (hSX b (ha _ e).1 hs))⟩ h2 (fun a e => ⟨by have := (ha a e).1; rw [← hsz3]; omega, fun hx => (ha a e).2 (hXX _ (ha a e).1 hx)⟩)
  · refine below_kept h.be K2 (fun k hl hs => ?_) (Nat.le_of_lt h.rs.lt)
    rcases hs with hs | hs
    · have := (h.op.lt k hs.symm).1; omega
    · omega
end
section
variable {w0 W W' : World} {R B gp g : Nat} {cs : Array Value} {E P : Value} {i j : Nat} {xs : List Value} {ts : List Text} {ps : List Pr} {Y : Nat → Prop}
/-- A block below the base has turned. -/
theorem Pk.keptG (h : Pk w0 W R B gp cs E P i j xs ts ps (XB B Y E P)) (hk : Kept (· = g) W W') (h1 : R < g) (h2 : g ≠ gp) (h3 : g < B) : Pk w0 W' R B gp cs E P i j xs ts ps (XB B Y E P) :=
  h.kept hk (fun k _ s => by
    have s : k = g := s
    subst s
    exact ⟨h1, h2, fun e => by have := (h.oe.lt k e.symm).1; omega, fun e => by have := (h.op.lt k e.symm).1; omega, .inl h3⟩)
/-- Another block has turned. -/
theorem Pk.keptQ (h : Pk w0 W R B gp cs E P i j xs ts ps (XB B Y E P)) (hk : Kept (· = g) W W') (h1 : R < g) (h2 : g ≠ gp) (hE : ∀ k, E.ownBlock = some k → k ≠ g) (hP : ∀ k, P.ownBlock = some k → k ≠ g) (hY : Y g) : Pk w0 W' R B gp cs E P i j xs ts ps (XB B Y E P) :=
  h.kept hk (fun k _ s => by
    have s : k = g := s
    subst s
    exact ⟨h1, h2, fun e => hE k e.symm rfl, fun e => hP k e.symm rfl, .inr (.inl hY)⟩)
/-- All blocks that turn lie in the world. -/
theorem Pk.lt (h : Pk w0 W R B gp cs E P i j xs ts ps (XB B Y E P)) (hB : B ≤ W.heap.size) (hY : ∀ k, Y k → k < W.heap.size) : ∀ k, XB B Y E P k → k < W.heap.size := fun k hx => by
  rcases hx with hx | hx | hx | hx
  · omega
  · exact hY k hx
  · exact (h.oe.lt k hx.symm).2
  · exact (h.op.lt k hx.symm).2
end
end Go.Proofs.Ytmdkfhfkdcbpgaa.PieceMem2

namespace Go.Proofs.Ytmdkfhfkdcbpgaa.HandM
open Go Go.RowKit Go.Proofs.Ytmdkfhfkdcbpgaa Go.Proofs.Ytmdkfhfkdcbpgaa.Mem Go.Proofs.Ytmdkfhfkdcbpgaa.Sha Go.Proofs.Ytmdkfhfkdcbpgaa.Bytes Go.Proofs.Ytmdkfhfkdcbpgaa.Append Go.Proofs.Ytmdkfhfkdcbpgaa.Own Go.Proofs.Ytmdkfhfkdcbpgaa.TreeMem Go.Proofs.Ytmdkfhfkdcbpgaa.Book Go.Proofs.Ytmdkfhfkdcbpgaa.Book8 Go.Proofs.Ytmdkfhfkdcbpgaa.Law17a Go.Proofs.Ytmdkfhfkdcbpgaa.Prs Go.Proofs.Ytmdkfhfkdcbpgaa.PieceLay Go.Proofs.Ytmdkfhfkdcbpgaa.PieceMem Go.Proofs.Ytmdkfhfkdcbpgaa.PieceMem2

/-- A given as cells: the piece, the lists of bytes, the ways. -/
def hc (E P V Q : Value) : List Value := pieceCells ByteArray.empty 0 (List.replicate 32 0) E P ++ [V, Q]
def zG : Array Value := (hc (.slice none 0 0) (.slice none 0 0) (.slice none 0 0) (.slice none 0 0)).toArray
section
variable {E P V Q u : Value}
theorem hc_E : (hc E P V Q).toArray[34]? = some E := rfl
theorem hc_P : (hc E P V Q).toArray[35]? = some P := rfl
theorem hc_V : (hc E P V Q).toArray[36]? = some V := rfl
theorem hc_Q : (hc E P V Q).toArray[37]? = some Q := rfl
theorem hc_setE : (hc E P V Q).toArray.setIfInBounds 34 u = (hc u P V Q).toArray := by rw [List.setIfInBounds_toArray]; rfl
theorem hc_setP : (hc E P V Q).toArray.setIfInBounds 35 u = (hc E u V Q).toArray := by rw [List.setIfInBounds_toArray]; rfl
theorem hc_setV : (hc E P V Q).toArray.setIfInBounds 36 u = (hc E P u Q).toArray := by rw [List.setIfInBounds_toArray]; rfl
theorem hc_setQ : (hc E P V Q).toArray.setIfInBounds 37 u = (hc E P V u).toArray := by rw [List.setIfInBounds_toArray]; rfl
theorem hc_piece (i : Nat) (v : Value) (h : (pieceCells ByteArray.empty 0 (List.replicate 32 0) E P)[i]? = some v) : (hc E P V Q).toArray[i]? = some v := by
  rw [List.getElem?_toArray]
  unfold hc
  rw [List.getElem?_append_left (List.getElem?_eq_some_iff.1 h).1]
  exact h
end
theorem sizeG : (Try.prog.info? 51).map (·.size) = some 38 := by kernel_rfl
theorem hc_info {E P V Q : Value} : (Try.prog.info? 51).map (·.size) = some (hc E P V Q).toArray.size := sizeG
theorem hc_one {E P V Q : Value} (hE : E.oneCell' = true) (hP : P.oneCell' = true) (hV : V.oneCell' = true) (hQ : Q.oneCell' = true) : ((hc E P V Q).toArray.all fun v => v.oneCell') = true := by
  rw [List.all_toArray]
  refine List.all_eq_true.2 fun v hv => ?_
  unfold hc at hv
  rcases List.mem_append.1 hv with hv | hv
  · have := pc_one (s := ByteArray.empty) (F := 0) (b := List.replicate 32 0) hE hP
    rw [List.all_toArray] at this
    exact List.all_eq_true.1 this v hv
  · simp only [List.mem_cons, List.not_mem_nil, or_false] at hv
    rcases hv with rfl | rfl
    · exact hV
    · exact hQ

/-- The blocks of the copies. -/
def Roo (w : World) (B : Nat) (gs : List Nat) (es : List Text) : Prop := gs.length = es.length ∧ ∀ (i g : Nat) (q : Text), gs[i]? = some g → es[i]? = some q → RoomB w g q 165 ∧ B ≤ g
def Rod (w : World) (B : Nat) (hs : List Nat) (ps : List Pr) : Prop := hs.length = ps.length ∧ ∀ (i g : Nat) (p : Pr), hs[i]? = some g → ps[i]? = some p → RowD w g (p.ds ++ List.replicate 80 mk0) ∧ B ≤ g
def xsE (gs : List Nat) (es : List Text) : List Value := List.zipWith (fun g q => Value.slice (some ⟨g, 0, none⟩) q.length (q.length + 80)) gs es
def xsV (gs : List Nat) (es : List Text) : List Value := List.zipWith (fun g q => Value.slice (some ⟨g, 0, none⟩) (q.length + 80) (q.length + 80)) gs es
def xsQ (hs : List Nat) (ps : List Pr) : List Value := List.zipWith (fun g p => Value.slice (some ⟨g, 0, none⟩) (p.n + 80) (p.n + 80)) hs ps
def psH (hs : List Nat) (ps : List Pr) : List Pr := List.zipWith (fun g p => ⟨p.x, p.y, p.ds, some ⟨g, 0, none⟩, p.n, p.n + 80⟩) hs ps
theorem Roo.nil_ (w : World) (B : Nat) : Roo w B [] [] := ⟨rfl, fun i g q h => by cases h⟩
theorem Rod.nil_ (w : World) (B : Nat) : Rod w B [] [] := ⟨rfl, fun i g q h => by cases h⟩
theorem Roo.keep {w w' : World} {B : Nat} {gs : List Nat} {es : List Text} (h : Roo w B gs es) (hk : ∀ g cs, Blk w g 5 cs → Blk w' g 5 cs) : Roo w' B gs es := ⟨h.1, fun i g q h1 h2 => by
  obtain ⟨⟨cs, a1, a2, a3⟩, a4⟩ := h.2 i g q h1 h2
  exact ⟨⟨cs, hk g cs a1, a2, a3⟩, a4⟩⟩
theorem Rod.keep {w w' : World} {B : Nat} {hs : List Nat} {ps : List Pr} (h : Rod w B hs ps) (hk : ∀ g cs, Blk w g 23 cs → Blk w' g 23 cs) : Rod w' B hs ps := ⟨h.1, fun i g p h1 h2 => by
  obtain ⟨a1, a2⟩ := h.2 i g p h1 h2
  exact ⟨hk g _ a1, a2⟩⟩
theorem last_at {α : Type} {l : List α} {a b : α} {i : Nat} (h : (l ++ [a])[i]? = some b) : (i < l.length ∧ l[i]? = some b) ∨ (i = l.length ∧ a = b) := by
  rcases Nat.lt_or_ge i l.length with hi | hi
  · rw [List.getElem?_append_left hi] at h
    exact .inl ⟨hi, h⟩
  · rw [List.getElem?_append_right hi] at h
    have hi0 : i = l.length := by
      have := (List.getElem?_eq_some_iff.1 h).1
      simp at this
      omega
    subst hi0
    rw [Nat.sub_self] at h
    exact .inr ⟨rfl, Option.some.inj h⟩
theorem Roo.push {w : World} {B g : Nat} {gs : List Nat} {es : List Text} {q : Text} (h : Roo w B gs es) (h1 : RoomB w g q 165) (h2 : B ≤ g) : Roo w B (gs ++ [g]) (es ++ [q]) := ⟨by simp [h.1], fun i g' q' e1 e2 => by
  rcases last_at e1 with ⟨i1, e1⟩ | ⟨i1, rfl⟩ <;> rcases last_at e2 with ⟨i2, e2⟩ | ⟨i2, rfl⟩
  · exact h.2 i g' q' e1 e2
  · have := h.1; omega
  · have := h.1; omega
  · exact ⟨h1, h2⟩⟩
theorem Rod.push {w : World} {B g : Nat} {hs : List Nat} {ps : List Pr} {p : Pr} (h : Rod w B hs ps) (h1 : RowD w g (p.ds ++ List.replicate 80 mk0)) (h2 : B ≤ g) : Rod w B (hs ++ [g]) (ps ++ [p]) := ⟨by simp [h.1], fun i g' q' e1 e2 => by
  rcases last_at e1 with ⟨i1, e1⟩ | ⟨i1, rfl⟩ <;> rcases last_at e2 with ⟨i2, e2⟩ | ⟨i2, rfl⟩
  · exact h.2 i g' q' e1 e2
  · have := h.1; omega
  · have := h.1; omega
  · exact ⟨h1, h2⟩⟩
section
variable {w : World} {B g : Nat} {gs hs : List Nat} {es : List Text} {ps : List Pr} {q : Text} {p : Pr}
theorem xsE_snoc (h : gs.length = es.length) : xsE (gs ++ [g]) (es ++ [q]) = xsE gs es ++ [.slice (some ⟨g, 0, none⟩) q.length (q.length + 80)] := by
  unfold xsE
  rw [List.zipWith_append h]
  rfl
theorem xsV_snoc (h : gs.length = es.length) : xsV (gs ++ [g]) (es ++ [q]) = xsV gs es ++ [.slice (some ⟨g, 0, none⟩) (q.length + 80) (q.length + 80)] := by
  unfold xsV
  rw [List.zipWith_append h]
  rfl
theorem xsQ_snoc (h : hs.length = ps.length) : xsQ (hs ++ [g]) (ps ++ [p]) = xsQ hs ps ++ [.slice (some ⟨g, 0, none⟩) (p.n + 80) (p.n + 80)] := by
  unfold xsQ
  rw [List.zipWith_append h]
  rfl
theorem psH_snoc (h : hs.length = ps.length) : psH (hs ++ [g]) (ps ++ [p]) = psH hs ps ++ [⟨p.x, p.y, p.ds, some ⟨g, 0, none⟩, p.n, p.n + 80⟩] := by
  unfold psH
  rw [List.zipWith_append h]
  rfl
theorem xsE_at {i : Nat} (h1 : gs[i]? = some g) (h2 : es[i]? = some q) : (xsE gs es)[i]? = some (.slice (some ⟨g, 0, none⟩) q.length (q.length + 80)) := by
  unfold xsE
  rw [List.getElem?_zipWith, h1, h2]
theorem xsV_at {i : Nat} (h1 : gs[i]? = some g) (h2 : es[i]? = some q) : (xsV gs es)[i]? = some (.slice (some ⟨g, 0, none⟩) (q.length + 80) (q.length + 80)) := by
  unfold xsV
  rw [List.getElem?_zipWith, h1, h2]
theorem xsQ_at {i : Nat} (h1 : hs[i]? = some g) (h2 : ps[i]? = some p) : (xsQ hs ps)[i]? = some (.slice (some ⟨g, 0, none⟩) (p.n + 80) (p.n + 80)) := by
  unfold xsQ
  rw [List.getElem?_zipWith, h1, h2]
theorem psH_at {i : Nat} (h1 : hs[i]? = some g) (h2 : ps[i]? = some p) : (psH hs ps)[i]? = some ⟨p.x, p.y, p.ds, some ⟨g, 0, none⟩, p.n, p.n + 80⟩ := by
  unfold psH
  rw [List.getElem?_zipWith, h1, h2]
end

/-- All that a given holds while it grows. -/
structure Hd (w0 W : World) (R B gg : Nat) (E P V Q : Value) (ne np nv nq : Nat) (xe xp xv xq : List Value) : Prop where
  bk : Blk W gg 51 (hc E P V Q).toArray
  rs : Blk W R 51 zG
  oe : W.ownsRow B 29 1 E ne xe
  op : W.ownsRow B 48 3 P np xp
  ov : W.ownsRow B 29 1 V nv xv
  oq : W.ownsRow B 26 1 Q nq xq
  ev : ∀ k, E.ownBlock = some k → V.ownBlock ≠ some k
  be : Below R w0 W
section
variable {w0 W W' : World} {R B gg ne np nv nq : Nat} {E P V Q : Value} {xe xp xv xq : List Value}
theorem Hd.kept {S : Nat → Prop} (h : Hd w0 W R B gg E P V Q ne np nv nq xe xp xv xq) (hk : Kept S W W') (hS : ∀ k, k < W.heap.size → S k → R < k ∧ k ≠ gg ∧ some k ≠ E.ownBlock ∧ some k ≠ P.ownBlock ∧ some k ≠ V.ownBlock ∧ some k ≠ Q.ownBlock) : Hd w0 W' R B gg E P V Q ne np nv nq xe xp xv xq :=
  ⟨h.bk.kept hk (fun s => (hS _ h.bk.lt s).2.1 rfl), h.rs.kept hk (fun s => by have := (hS _ h.rs.lt s).1; omega), own_keep h.oe hk (fun k e s => (hS k (h.oe.lt k e).2 s).2.2.1 e.symm), own_keep h.op hk (fun k e s => (hS k (h.op.lt k e).2 s).2.2.2.1 e.symm),
   own_keep h.ov hk (fun k e s => (hS k (h.ov.lt k e).2 s).2.2.2.2.1 e.symm), own_keep h.oq hk (fun k e s => (hS k (h.oq.lt k e).2 s).2.2.2.2.2 e.symm), h.ev, below_kept h.be hk (fun k hl s => by have := (hS k hl s).1; omega) (Nat.le_of_lt h.rs.lt)⟩
theorem Hd.below (h : Hd w0 W R B gg E P V Q ne np nv nq xe xp xv xq) (hb : Below W.heap.size W W') : Hd w0 W' R B gg E P V Q ne np nv nq xe xp xv xq := h.kept (S := fun _ => False) (Kept.of_below hb) (fun _ _ s => s.elim)
end
/-- A copy of an event more. -/
theorem Hd.pushE {w0 W W1 W2 : World} {R B gg ne np nv nq : Nat} {E P V Q E' : Value} {xe xp xv xq news : List Value} (h : Hd w0 W R B gg E P V Q ne np nv nq xe xp xv xq) (hRg : R < gg) (hgB : gg < B) (hW1 : Below W.heap.size W W1)
    (hG : Grew W1 B 29 1 E ne 1 xe news E' W2) :
    Hd w0 (W2.setCell ⟨gg, 34, none⟩ E') R B gg E' P V Q (ne + 1) np nv nq (xe ++ news) xp xv xq ∧ (∀ k t cs, t ≠ 29 → t ≠ 51 → Blk W k t cs → Blk (W2.setCell ⟨gg, 34, none⟩ E') k t cs) ∧ Blk W2 gg 51 (hc E P V Q).toArray ∧ Below R W (W2.setCell ⟨gg, 34, none⟩ E') := by
  have K1 : Kept (fun k => some k = E.ownBlock) W W2 := (Kept.of_below hW1).trans (grew_kept hG) (fun _ _ x => x)
  have K2 : Kept (fun k => some k = E.ownBlock ∨ k = gg) W (W2.setCell ⟨gg, 34, none⟩ E') := (K1.mono (fun _ _ x => .inl x)).setCell (.inl (.inr rfl)) _
  have hge : some gg ≠ E.ownBlock := blk_own h.bk h.oe (by decide)
  have hbk2 : Blk W2 gg 51 (hc E P V Q).toArray := h.bk.kept K1 hge
  have hge' : some gg ≠ E'.ownBlock := blk_own hbk2 hG.own (by decide)
  have hnew : ∀ k, E'.ownBlock = some k → E.ownBlock = some k ∨ W.heap.size ≤ k := fun k e => by
    rcases grew_new hG k e with h1 | h1
    · exact .inl h1
    · have := hW1.size; exact .inr (by omega)
  have hSR : ∀ k, k < W.heap.size → (some k = E.ownBlock ∨ k = gg) → R ≤ k := fun k _ hs => by
    rcases hs with hs | hs
    · have := (h.oe.lt k hs.symm).1; omega
    · omega
  refine ⟨⟨?_, h.rs.kept K2 ?_, own_keep hG.own ((Kept.refl (· = gg) W2).setCell (.inl rfl) _) (fun k e hs => hge' (by rw [e, hs])), own_keep h.op K2 (fun k e hs => by
      rcases hs with hs | hs
      · exact own_own h.op h.oe (by decide) k e hs.symm
      · exact blk_own h.bk h.op (by decide) (by rw [e, hs])), own_keep h.ov K2 (fun k e hs => by
      rcases hs with hs | hs
      · exact (fun e2 => h.ev k e2 e) hs.symm
      · exact blk_own h.bk h.ov (by decide) (by rw [e, hs])), own_keep h.oq K2 (fun k e hs => by
      rcases hs with hs | hs
      · exact own_own h.oq h.oe (by decide) k e hs.symm
      · exact blk_own h.bk h.oq (by decide) (by rw [e, hs])), fun k e e2 => by
      rcases hnew k e with h1 | h1
      · exact h.ev k h1 e2
      · have := (h.ov.lt k e2).2; omega, below_kept h.be K2 hSR (Nat.le_of_lt h.rs.lt)⟩, fun k t cs h1 h2 hb => hb.kept K2 (fun hs => ?_), hbk2, below_kept (Below.refl _ _) K2 hSR (Nat.le_of_lt h.rs.lt)⟩
  · have := hbk2.set_ 34 E'
    rw [hc_setE] at this
    exact this
  · rintro (hs | hs)
    · exact blk_own h.rs h.oe (by decide) hs
    · omega
  · rcases hs with hs | hs
    · exact blk_own hb h.oe h1 hs
    · subst hs
      have e1 : W.heap[k]? = some (.cells cs t (0, 0)) := hb
      have e2 : W.heap[k]? = some (.cells _ 51 (0, 0)) := h.bk
      rw [e1] at e2
      injection e2 with e2
      injection e2 with _ e2
      exact h2 e2
/-- A proof more. -/
theorem Hd.pushP {w0 W W1 W2 : World} {R B gg ne np nv nq : Nat} {E P V Q P' : Value} {xe xp xv xq news : List Value} (h : Hd w0 W R B gg E P V Q ne np nv nq xe xp xv xq) (hRg : R < gg) (hgB : gg < B) (hW1 : Below W.heap.size W W1)
    (hG : Grew W1 B 48 3 P np 1 xp news P' W2) :
    Hd w0 (W2.setCell ⟨gg, 35, none⟩ P') R B gg E P' V Q ne (np + 1) nv nq xe (xp ++ news) xv xq ∧ (∀ k t cs, t ≠ 48 → t ≠ 51 → Blk W k t cs → Blk (W2.setCell ⟨gg, 35, none⟩ P') k t cs) ∧ Blk W2 gg 51 (hc E P V Q).toArray ∧ Below R W (W2.setCell ⟨gg, 35, none⟩ P') := by
  have K1 : Kept (fun k => some k = P.ownBlock) W W2 := (Kept.of_below hW1).trans (grew_kept hG) (fun _ _ x => x)
  have K2 : Kept (fun k => some k = P.ownBlock ∨ k = gg) W (W2.setCell ⟨gg, 35, none⟩ P') := (K1.mono (fun _ _ x => .inl x)).setCell (.inl (.inr rfl)) _
  have hge : some gg ≠ P.ownBlock := blk_own h.bk h.op (by decide)
  have hbk2 : Blk W2 gg 51 (hc E P V Q).toArray := h.bk.kept K1 hge
  have hge' : some gg ≠ P'.ownBlock := blk_own hbk2 hG.own (by decide)
  have hnew : ∀ k, P'.ownBlock = some k → P.ownBlock = some k ∨ W.heap.size ≤ k := fun k e => by
    rcases grew_new hG k e with h1 | h1
    · exact .inl h1
    · have := hW1.size; exact .inr (by omega)
  have hSR : ∀ k, k < W.heap.size → (some k = P.ownBlock ∨ k = gg) → R ≤ k := fun k _ hs => by
    rcases hs with hs | hs
    · have := (h.op.lt k hs.symm).1; omega
    · omega
  refine ⟨⟨?_, h.rs.kept K2 ?_, own_keep h.oe K2 (fun k e hs => by
      rcases hs with hs | hs
      · exact own_own h.oe h.op (by decide) k e hs.symm
      · exact blk_own h.bk h.oe (by decide) (by rw [e, hs])), own_keep hG.own ((Kept.refl (· = gg) W2).setCell (.inl rfl) _) (fun k e hs => hge' (by rw [e, hs])), own_keep h.ov K2 (fun k e hs => by
      rcases hs with hs | hs
      · exact own_own h.ov h.op (by decide) k e hs.symm
      · exact blk_own h.bk h.ov (by decide) (by rw [e, hs])), own_keep h.oq K2 (fun k e hs => by
      rcases hs with hs | hs
      · exact own_own h.oq h.op (by decide) k e hs.symm
      · exact blk_own h.bk h.oq (by decide) (by rw [e, hs])), h.ev, below_kept h.be K2 hSR (Nat.le_of_lt h.rs.lt)⟩, fun k t cs h1 h2 hb => hb.kept K2 (fun hs => ?_), hbk2, below_kept (Below.refl _ _) K2 hSR (Nat.le_of_lt h.rs.lt)⟩
  · have := hbk2.set_ 35 P'
    rw [hc_setP] at this
    exact this
  · rintro (hs | hs)
    · exact blk_own h.rs h.op (by decide) hs
    · omega
  · rcases hs with hs | hs
    · exact blk_own hb h.op h1 hs
    · subst hs
      have e1 : W.heap[k]? = some (.cells cs t (0, 0)) := hb
      have e2 : W.heap[k]? = some (.cells _ 51 (0, 0)) := h.bk
      rw [e1] at e2
      injection e2 with e2
      injection e2 with _ e2
      exact h2 e2
/-- A list of bytes more. -/
theorem Hd.pushV {w0 W W1 W2 : World} {R B gg ne np nv nq : Nat} {E P V Q V' : Value} {xe xp xv xq news : List Value} (h : Hd w0 W R B gg E P V Q ne np nv nq xe xp xv xq) (hRg : R < gg) (hgB : gg < B) (hW1 : Below W.heap.size W W1)
    (hG : Grew W1 B 29 1 V nv 1 xv news V' W2) :
    Hd w0 (W2.setCell ⟨gg, 36, none⟩ V') R B gg E P V' Q ne np (nv + 1) nq xe xp (xv ++ news) xq ∧ (∀ k t cs, t ≠ 29 → t ≠ 51 → Blk W k t cs → Blk (W2.setCell ⟨gg, 36, none⟩ V') k t cs) ∧ Blk W2 gg 51 (hc E P V Q).toArray ∧ Below R W (W2.setCell ⟨gg, 36, none⟩ V') := by
  have K1 : Kept (fun k => some k = V.ownBlock) W W2 := (Kept.of_below hW1).trans (grew_kept hG) (fun _ _ x => x)
  have K2 : Kept (fun k => some k = V.ownBlock ∨ k = gg) W (W2.setCell ⟨gg, 36, none⟩ V') := (K1.mono (fun _ _ x => .inl x)).setCell (.inl (.inr rfl)) _
  have hge : some gg ≠ V.ownBlock := blk_own h.bk h.ov (by decide)
  have hbk2 : Blk W2 gg 51 (hc E P V Q).toArray := h.bk.kept K1 hge
  have hge' : some gg ≠ V'.ownBlock := blk_own hbk2 hG.own (by decide)
  have hnew : ∀ k, V'.ownBlock = some k → V.ownBlock = some k ∨ W.heap.size ≤ k := fun k e => by
    rcases grew_new hG k e with h1 | h1
    · exact .inl h1
    · have := hW1.size; exact .inr (by omega)
  have hSR : ∀ k, k < W.heap.size → (some k = V.ownBlock ∨ k = gg) → R ≤ k := fun k _ hs => by
    rcases hs with hs | hs
    · have := (h.ov.lt k hs.symm).1; omega
    · omega
  refine ⟨⟨?_, h.rs.kept K2 ?_, own_keep h.oe K2 (fun k e hs => by
      rcases hs with hs | hs
      · exact h.ev k e hs.symm
      · exact blk_own h.bk h.oe (by decide) (by rw [e, hs])), own_keep h.op K2 (fun k e hs => by
      rcases hs with hs | hs
      · exact own_own h.op h.ov (by decide) k e hs.symm
      · exact blk_own h.bk h.op (by decide) (by rw [e, hs])), own_keep hG.own ((Kept.refl (· = gg) W2).setCell (.inl rfl) _) (fun k e hs => hge' (by rw [e, hs])), own_keep h.oq K2 (fun k e hs => by
      rcases hs with hs | hs
      · exact own_own h.oq h.ov (by decide) k e hs.symm
      · exact blk_own h.bk h.oq (by decide) (by rw [e, hs])), fun k e e2 => by
      rcases hnew k e2 with h1 | h1
      · exact h.ev k e h1
      · have := (h.oe.lt k e).2; omega, below_kept h.be K2 hSR (Nat.le_of_lt h.rs.lt)⟩, fun k t cs h1 h2 hb => hb.kept K2 (fun hs => ?_), hbk2, below_kept (Below.refl _ _) K2 hSR (Nat.le_of_lt h.rs.lt)⟩
  · have := hbk2.set_ 36 V'
    rw [hc_setV] at this
    exact this
  · rintro (hs | hs)
    · exact blk_own h.rs h.ov (by decide) hs
    · omega
  · rcases hs with hs | hs
    · exact blk_own hb h.ov h1 hs
    · subst hs
      have e1 : W.heap[k]? = some (.cells cs t (0, 0)) := hb
      have e2 : W.heap[k]? = some (.cells _ 51 (0, 0)) := h.bk
      rw [e1] at e2
      injection e2 with e2
      injection e2 with _ e2
      exact h2 e2
/-- A way more. -/
theorem Hd.pushQ {w0 W W1 W2 : World} {R B gg ne np nv nq : Nat} {E P V Q Q' : Value} {xe xp xv xq news : List Value} (h : Hd w0 W R B gg E P V Q ne np nv nq xe xp xv xq) (hRg : R < gg) (hgB : gg < B) (hW1 : Below W.heap.size W W1)
    (hG : Grew W1 B 26 1 Q nq 1 xq news Q' W2) :
    Hd w0 (W2.setCell ⟨gg, 37, none⟩ Q') R B gg E P V Q' ne np nv (nq + 1) xe xp xv (xq ++ news) ∧ (∀ k t cs, t ≠ 26 → t ≠ 51 → Blk W k t cs → Blk (W2.setCell ⟨gg, 37, none⟩ Q') k t cs) ∧ Blk W2 gg 51 (hc E P V Q).toArray ∧ Below R W (W2.setCell ⟨gg, 37, none⟩ Q') := by
  have K1 : Kept (fun k => some k = Q.ownBlock) W W2 := (Kept.of_below hW1).trans (grew_kept hG) (fun _ _ x => x)
  have K2 : Kept (fun k => some k = Q.ownBlock ∨ k = gg) W (W2.setCell ⟨gg, 37, none⟩ Q') := (K1.mono (fun _ _ x => .inl x)).setCell (.inl (.inr rfl)) _
  have hge : some gg ≠ Q.ownBlock := blk_own h.bk h.oq (by decide)
  have hbk2 : Blk W2 gg 51 (hc E P V Q).toArray := h.bk.kept K1 hge
  have hge' : some gg ≠ Q'.ownBlock := blk_own hbk2 hG.own (by decide)
  have hnew : ∀ k, Q'.ownBlock = some k → Q.ownBlock = some k ∨ W.heap.size ≤ k := fun k e => by
    rcases grew_new hG k e with h1 | h1
    · exact .inl h1
    · have := hW1.size; exact .inr (by omega)
  have hSR : ∀ k, k < W.heap.size → (some k = Q.ownBlock ∨ k = gg) → R ≤ k := fun k _ hs => by
    rcases hs with hs | hs
    · have := (h.oq.lt k hs.symm).1; omega
    · omega
  refine ⟨⟨?_, h.rs.kept K2 ?_, own_keep h.oe K2 (fun k e hs => by
      rcases hs with hs | hs
      · exact own_own h.oe h.oq (by decide) k e hs.symm
      · exact blk_own h.bk h.oe (by decide) (by rw [e, hs])), own_keep h.op K2 (fun k e hs => by
      rcases hs with hs | hs
      · exact own_own h.op h.oq (by decide) k e hs.symm
      · exact blk_own h.bk h.op (by decide) (by rw [e, hs])), own_keep h.ov K2 (fun k e hs => by
      rcases hs with hs | hs
      · exact own_own h.ov h.oq (by decide) k e hs.symm
      · exact blk_own h.bk h.ov (by decide) (by rw [e, hs])), own_keep hG.own ((Kept.refl (· = gg) W2).setCell (.inl rfl) _) (fun k e hs => hge' (by rw [e, hs])), h.ev, below_kept h.be K2 hSR (Nat.le_of_lt h.rs.lt)⟩, fun k t cs h1 h2 hb => hb.kept K2 (fun hs => ?_), hbk2, below_kept (Below.refl _ _) K2 hSR (Nat.le_of_lt h.rs.lt)⟩
  · have := hbk2.set_ 37 Q'
    rw [hc_setQ] at this
    exact this
  · rintro (hs | hs)
    · exact blk_own h.rs h.oq (by decide) hs
    · omega
  · rcases hs with hs | hs
    · exact blk_own hb h.oq h1 hs
    · subst hs
      have e1 : W.heap[k]? = some (.cells cs t (0, 0)) := hb
      have e2 : W.heap[k]? = some (.cells _ 51 (0, 0)) := h.bk
      rw [e1] at e2
      injection e2 with e2
      injection e2 with _ e2
      exact h2 e2
end Go.Proofs.Ytmdkfhfkdcbpgaa.HandM

namespace Go.Proofs.Ytmdkfhfkdcbpgaa.Hand
open Go Go.RowKit Go.Proofs.Ytmdkfhfkdcbpgaa Go.Proofs.Ytmdkfhfkdcbpgaa.HeadMem Go.Proofs.Ytmdkfhfkdcbpgaa.Mem Go.Proofs.Ytmdkfhfkdcbpgaa.Sha Go.Proofs.Ytmdkfhfkdcbpgaa.Bytes Go.Proofs.Ytmdkfhfkdcbpgaa.Append Go.Proofs.Ytmdkfhfkdcbpgaa.TreeMem Go.Proofs.Ytmdkfhfkdcbpgaa.Held Go.Proofs.Ytmdkfhfkdcbpgaa.Own Go.Proofs.Ytmdkfhfkdcbpgaa.QuietTail Go.Proofs.Ytmdkfhfkdcbpgaa.Grown Go.Proofs.Ytmdkfhfkdcbpgaa.Book Go.Proofs.Ytmdkfhfkdcbpgaa.Book8 Go.Proofs.Ytmdkfhfkdcbpgaa.Law17a Go.Proofs.Ytmdkfhfkdcbpgaa.Prs Go.Proofs.Ytmdkfhfkdcbpgaa.Reach2 Go.Proofs.Ytmdkfhfkdcbpgaa.PieceLay Go.Proofs.Ytmdkfhfkdcbpgaa.PieceMem Go.Proofs.Ytmdkfhfkdcbpgaa.PieceMem2 Go.Proofs.Ytmdkfhfkdcbpgaa.HandM

theorem infoTx : (Try.prog.info? 29).map (fun i => (i.zero, i.size, i.bytes)) = some (some (.slice none 0 0), 1, 24) := by kernel_rfl
theorem infoDr : (Try.prog.info? 26).map (fun i => (i.zero, i.size, i.bytes)) = some (some (.slice none 0 0), 1, 24) := by kernel_rfl
theorem infoIn : (Try.prog.info? 48).map (fun i => (i.zero, i.size, i.bytes)) = some (some (.agg #[.int .i64 0, .int .i64 0, .slice none 0 0]), 3, 40) := by kernel_rfl
theorem sizeIn : (Try.prog.info? 48).map (·.size) = some 3 := by kernel_rfl
theorem zeroIn : ((Try.prog.info? 48).bind (·.zero)).isSome = true := by kernel_rfl
/-- What hand leaves. -/
structure HF (w0 W : World) (B : Nat) (E P V Q : Value) (n m : Nat) (gs hs : List Nat) (es : List Text) (ps : List Pr) : Prop where
  oe : W.ownsRow B 29 1 E n (xsE gs es)
  op : W.ownsRow B 48 3 P m ((psH hs ps).flatMap Pr.cells)
  ov : W.ownsRow B 29 1 V n (xsV gs es)
  oq : W.ownsRow B 26 1 Q m (xsQ hs ps)
  roo : Roo W B gs es
  rod : Rod W B hs ps
  be : Below w0.heap.size w0 W
  hb : w0.heap.size ≤ B
theorem keepR {w w' : World} {R B : Nat} {gs : List Nat} {es : List Text} (h : Roo w B gs es) (hk : Kept (· = R) w w') (hR : R < B) : Roo w' B gs es := ⟨h.1, fun i g q h1 h2 => by
  obtain ⟨⟨cs, a1, a2, a3⟩, a4⟩ := h.2 i g q h1 h2
  exact ⟨⟨cs, a1.kept hk (by show ¬ g = R; omega), a2, a3⟩, a4⟩⟩
theorem keepD {w w' : World} {R B : Nat} {hs : List Nat} {ps : List Pr} (h : Rod w B hs ps) (hk : Kept (· = R) w w') (hR : R < B) : Rod w' B hs ps := ⟨h.1, fun i g p h1 h2 => by
  obtain ⟨a1, a2⟩ := h.2 i g p h1 h2
  exact ⟨Blk.kept a1 hk (by show ¬ g = R; omega), a2⟩⟩
set_option maxRecDepth 100000 in
set_option maxHeartbeats 8000000 in
theorem hand_any (es : List Text) (n : Nat) (hn : es.length = n) (hn6 : n ≤ 1000000) (hsh : ∀ e ∈ es, e.length < 140737488355328) (ps : List Pr) (m : Nat) (hm : ps.length = m) (hm6 : m ≤ 1000000) (hnn : ∀ p ∈ ps, p.n < 4398046511104) (A A2 : Option Addr) (c c2 : Nat) (w : World) (hp : Pieces w A es) (hq : Prs w A2 ps) :
    Calls Try.prog 15 #[.slice A n c, .slice A2 m c2] w fun e w' => ∃ (B : Nat) (E P V Q : Value) (gs hs : List Nat), e = .returned (.agg (hc E P V Q).toArray) ∧ HF w w' B E P V Q n m gs hs es ps := by
  obtain ⟨j0, hj, jz0, jz1, jz2⟩ := info_partsN infoTx
  obtain ⟨d0, hd, dz0, dz1, dz2⟩ := info_partsN infoDr
  obtain ⟨n0, hn0, nz0, nz1, nz2⟩ := info_partsN infoIn
  have hHd2 : Hid (Hd w ((w.alloc (.cells zG 51)).alloc (.cells zG 51)) w.heap.size (w.heap.size + 2) (w.heap.size + 1) (.slice none 0 0) (.slice none 0 0) (.slice none 0 0) (.slice none 0 0) 0 0 0 0 [] [] [] []) := by
    have h2 : Blk ((w.alloc (.cells zG 51)).alloc (.cells zG 51)) (w.heap.size + 1) 51 zG := by
      have := Blk.new (w.alloc (.cells zG 51)) 51 zG
      rwa [show (w.alloc (.cells zG 51)).heap.size = w.heap.size + 1 by simp] at this
    exact ⟨h2, (Blk.new w _ _).alloc _, World.ownsRow_nil _ _ _ _, World.ownsRow_nil _ _ _ _, World.ownsRow_nil _ _ _ _, World.ownsRow_nil _ _ _ _, (fun k e => by cases e), (Below.heap_below w _).alloc (by simp) _⟩
  have hz2 : Hid (w.heap.size + 2 ≤ ((w.alloc (.cells zG 51)).alloc (.cells zG 51)).heap.size) := by show _ ≤ _; simp
  replace hn := Lib.hid hn
  replace hm := Lib.hid hm
  replace hn6 := Lib.hid hn6
  replace hm6 := Lib.hid hm6
  replace hp := Lib.hid hp
  replace hq := Lib.hid hq
  replace hsh := Lib.hid hsh
  replace hnn := Lib.hid hnn
  go_enter Try.func15, Try.ntmps15
  go_wp2_with fail
  obtain ⟨gg, hgg⟩ : ∃ x, Hid (w.heap.size + 1 = x) := ⟨_, Lib.hid rfl⟩
  obtain ⟨B, hBe⟩ : ∃ x, Hid (w.heap.size + 2 = x) := ⟨_, Lib.hid rfl⟩
  rw [hgg.out, hBe.out] at hHd2
  rw [hBe.out] at hz2
  rw [hgg.out]
  have hRg : Hid (w.heap.size < gg) := by have := hgg.out; show _ < _; omega
  have hgB : Hid (gg < B) := by have := hgg.out; have := hBe.out; show _ < _; omega
  go_loopw [6] (fun v wr => ∃ (i cE cV : Nat) (AE AV : Option Addr) (gs : List Nat), v = .int .i64 (i : Int) ∧ Hid (i ≤ n) ∧ Hid (Hd w wr w.heap.size B gg (.slice AE i cE) (.slice none 0 0) (.slice AV i cV) (.slice none 0 0) i 0 i 0 (xsE gs (es.take i)) [] (xsV gs (es.take i)) []) ∧ Hid (Roo wr B gs (es.take i)) ∧ Hid (B ≤ wr.heap.size)) (fun v _ => n - (intOf v).toNat)
  case atStart => exact ⟨0, 0, 0, none, none, [], rfl, Nat.zero_le _, hHd2.out, Roo.nil_ _ _, hz2.out⟩
  case round =>
    clear hHd2 hz2
    obtain ⟨i, cE, cV, AE, AV, gs, rfl, hin, hHd, hRo, hBr⟩ := hrel
    have hi6 : (i : Int) ≤ 1000000 := by have := hin.out; have := hn6.out; omega
    by_cases hlt : i < n
    · have y3 : ((i : Int) < (n : Int)) := by omega
      have hz0 : (0 : Int) ≤ (i : Int) := by omega
      obtain ⟨q, hqi⟩ : ∃ q, Hid (es[i]? = some q) := ⟨_, List.getElem?_eq_getElem (by rw [hn.out]; exact hlt)⟩
      obtain ⟨bA, oA, rfl, hbA, hcs⟩ := hp.out (by have := hn.out; omega)
      obtain ⟨Ae, ce, hc1, hc2, hc3, hc4⟩ := hcs i q hqi.out
      obtain ⟨k, hk⟩ : ∃ k, Hid (q.length = k) := ⟨_, Lib.hid rfl⟩
      have hk47 : Hid (k < 140737488355328) := by have := hsh.out q (List.mem_of_getElem? hqi.out); have := hk.out; show _ < _; omega
      have hev : Hid (∀ w', Below w.heap.size w w' → w'.cell? ⟨bA, oA + i, none⟩ = some (.slice Ae k ce)) := fun w' hb => (hb.cell (p := ⟨bA, oA + i, none⟩) hbA).trans (by rw [← hk.out]; exact hc1)
      have hrd : Hid (∀ w', Below w.heap.size w w' → Reads w' 1 Ae k (cells8 q)) := fun w' hb => by rw [← hk.out]; exact hc3.below hb
      have hlt' : Hid (i < n) := hlt
      have ht1 : Hid (es.take (i + 1) = es.take i ++ [q]) := by show _ = _; rw [List.take_add_one, hqi.out]; rfl
      have cev := hev.out wr hHd.out.be
      clear hcs hc1 hc2 hc3 hc4 hbA hlt
      go_wp2_with fail
      refine (roomy8_any q k hk.out hk47.out 165 165 rfl Ae ce wr (hrd.out wr hHd.out.be)).mono ?_
      rintro e w1 ⟨g, rfl, hg, hroom, hb1⟩
      have hHd1 := Lib.hid (hHd.out.below hb1)
      have hRo1 : Hid (Roo w1 B (gs ++ [g]) (es.take (i + 1))) := by
        show Roo _ _ _ _
        rw [ht1.out]
        exact Roo.push (hRo.out.keep (fun g' cs h => (hb1.block _ h.lt).trans h)) hroom (Nat.le_trans hBr.out hg)
      have hB1 : Hid (B ≤ w1.heap.size) := Nat.le_trans hBr.out hb1.size
      have hX : Hid (∀ w', (Instr.sliceAt 29 (.slice (some ⟨g, 0, none⟩) (k + 80) (k + 80)) none (some (.int .i64 (k : Int))) none).run Try.prog w' = .ok (.slice (some ⟨g, 0, none⟩) k (k + 80)) w') := fun w' => run_headOf Try.underlying29 (fun _ => rfl) (by omega) _ rfl w'
      have hgl : Hid (gs.length = (es.take i).length) := hRo.out.1
      clear hroom hb1 hg hHd hRo hBr cev
      have c36 : w1.cell? ⟨gg, 36, none⟩ = some (.slice AV i cV) := (hHd1.out.bk.cell 36).trans hc_V
      have hnV : Hid (Reads (w1.alloc (.cells #[.slice (some ⟨g, 0, none⟩) (k + 80) (k + 80)] 29)) 1 (some ⟨w1.heap.size, 0, none⟩) 1 [.slice (some ⟨g, 0, none⟩) (k + 80) (k + 80)]) := Blk.reads (Blk.new w1 29 #[.slice (some ⟨g, 0, none⟩) (k + 80) (k + 80)]) 0 _ rfl (fun j u hu => by rw [Nat.zero_add]; simpa using hu)
      have hOV : Hid ((w1.alloc (.cells #[.slice (some ⟨g, 0, none⟩) (k + 80) (k + 80)] 29)).ownsRow B 29 1 (.slice AV i cV) i (xsV gs (es.take i))) := World.ownsRow.alloc (w := w1) hHd1.out.ov _
      have hs1 : Hid (i + 1 ≤ maxLen) := by show _ ≤ _; unfold maxLen; omega
      have hs2 : Hid ((i + 1) * 24 ≤ 140737488355328) := by show _ ≤ _; omega
      have hs3 : Hid (B ≤ (w1.alloc (.cells #[.slice (some ⟨g, 0, none⟩) (k + 80) (k + 80)] 29)).heap.size) := by have := hB1.out; show _ ≤ _; simp; omega
      go_upto_region 7 with ((with_reducible change wpList _ _ _ ({ dst := some 25, op := _, type := _, pos := _, after := _, guard := _ } :: _) _ _); refine wpList_append_src _ (o := ⟨some 25, _, _, _, _, _⟩) rfl (.tmp 22) (.tmp 24) 41 rfl B 29 j0 (.slice none 0 0) 1 24 Try.underlying41 hj jz0 jz1 jz2 rfl (by decide) (.slice AV i cV) i (xsV gs (es.take i)) rfl hOV.out (some ⟨w1.heap.size, 0, none⟩) 1 1 [.slice (some ⟨g, 0, none⟩) (k + 80) (k + 80)] rfl hnV.out (fun e => by cases e) (by intro v hv; simp only [List.mem_singleton] at hv; rw [hv]; rfl) hs1.out hs2.out hs3.out ?_; intro v2 w2 hG; obtain ⟨AV2, cV2, rfl, -⟩ := Append.Own.reads hG.own; have hpk := Lib.hid (hHd1.out.pushV hRg.out hgB.out (Below.heap_below _ _) hG); have cV36 : w2.cell? ⟨gg, 36, none⟩ = some (.slice AV i cV) := (hpk.out.2.2.1.cell 36).trans hc_V; have fV36 := hpk.out.2.2.1.frozen 36; clear hG)
      have hHd3 := Lib.hid hpk.out.1
      have hRo3 : Hid (Roo (w2.setCell ⟨gg, 36, none⟩ (.slice AV2 (i + 1) cV2)) B (gs ++ [g]) (es.take (i + 1))) := hRo1.out.keep (fun g' cs h => hpk.out.2.1 g' _ cs (by decide) (by decide) h)
      have hB3 : Hid (B ≤ (w2.setCell ⟨gg, 36, none⟩ (.slice AV2 (i + 1) cV2)).heap.size) := Nat.le_trans hB1.out hpk.out.2.2.2.size
      have c34 : (w2.setCell ⟨gg, 36, none⟩ (.slice AV2 (i + 1) cV2)).cell? ⟨gg, 34, none⟩ = some (.slice AE i cE) := (hHd3.out.bk.cell 34).trans hc_E
      generalize w2.setCell ⟨gg, 36, none⟩ (.slice AV2 (i + 1) cV2) = w3 at *
      clear hpk c36 cV36 fV36 hnV hOV hs3 hHd1 hRo1 hB1
      have s0 : Hid (Below w.heap.size w w3.drew) := hHd3.out.be.drew
      have hHdd : Hid (Hd w w3.drew w.heap.size B gg (.slice AE i cE) (.slice none 0 0) (.slice AV2 (i + 1) cV2) (.slice none 0 0) i 0 (i + 1) 0 (xsE gs (es.take i)) [] (xsV gs (es.take i) ++ [.slice (some ⟨g, 0, none⟩) (k + 80) (k + 80)]) []) := hHd3.out.below (Below.refl _ _).drew
      have hszd : w3.drew.heap.size = w3.heap.size := rfl
      refine held_start (fun w' => Below w.heap.size w w') 15 rfl (by kernel_rfl) ?_
      refine held_take (i := 0) (v := .pointer (some ⟨gg, 0, none⟩)) rfl (by kernel_rfl) (by kernel_rfl) (by kernel_rfl) (fun _ _ _ h => h) s0.out (by rfl) (fun w' hw' => by go_simp) ?_
      (intro K hK; go_simp; refine hK _ ?_; clear hK K)
      refine held_take (i := 1) (v := .pointer (some ⟨gg, 34, none⟩)) rfl (by kernel_rfl) (by kernel_rfl) (by kernel_rfl) (fun _ _ _ h => h) s0.out (by rfl) (fun w' hw' => by go_simp) ?_
      (intro K hK; go_simp; refine hK _ ?_; clear hK K)
      refine held_take (i := 3) (v := .slice (some ⟨g, 0, none⟩) (k + 80) (k + 80)) rfl (by kernel_rfl) (by kernel_rfl) (by kernel_rfl) (fun _ _ _ h => h) s0.out (by rfl) (fun w' hw' => run_mv (.tmp 7) rfl w') ?_
      (intro K hK; go_simp; refine hK _ ?_; clear hK K)
      refine held_take (i := 4) (v := .slice (some ⟨bA, oA, none⟩) n c) rfl (by kernel_rfl) (by kernel_rfl) (by kernel_rfl) (fun _ _ _ h => h) s0.out (by rfl) (fun w' hw' => run_mv (.tmp 0) rfl w') ?_
      (intro K hK; go_simp; refine hK _ ?_; clear hK K)
      refine held_take (i := 5) (v := .int .i64 (i : Int)) rfl (by kernel_rfl) (by kernel_rfl) (by kernel_rfl) (fun _ _ _ h => h) s0.out (by rfl) (fun w' hw' => run_mv (.tmp 6) rfl w') ?_
      (intro K hK; go_simp; refine hK _ ?_; clear hK K)
      refine held_take (i := 6) (v := .pointer (some ⟨bA, oA + i, none⟩)) rfl (by kernel_rfl) (by kernel_rfl) (by kernel_rfl) (fun _ _ _ h => h) s0.out (by rfl) (fun w' hw' => by go_simp) ?_
      (intro K hK; go_simp; refine hK _ ?_; clear hK K)
      refine held_take (i := 7) (v := .slice Ae k ce) rfl (by kernel_rfl) (by kernel_rfl) (by kernel_rfl) (fun _ _ _ h => h) s0.out (by rfl) (fun w' hw' => by have hx := hev.out w' hw'; go_simp) ?_
      (intro K hK; go_simp; refine hK _ ?_; clear hK K)
      refine held_take (i := 8) (v := .int .i64 (k : Int)) rfl (by kernel_rfl) (by kernel_rfl) (by kernel_rfl) (fun _ _ _ h => h) s0.out (by rfl) (fun w' hw' => by go_simp) ?_
      (intro K hK; go_simp; refine hK _ ?_; clear hK K)
      refine held_take (i := 9) (v := .slice (some ⟨g, 0, none⟩) k (k + 80)) rfl (by kernel_rfl) (by kernel_rfl) (by kernel_rfl) (fun _ _ _ h => h) s0.out (by rfl) (fun w' hw' => by have hx := hX.out w'; go_simp) ?_
      (intro K hK; go_simp; refine hK _ ?_; clear hK K)
      refine held_two (i := 2) (j := 10) rfl rfl (by kernel_rfl) (by rfl) (by rfl) (fun K hK => ?_) (fun K hK => ?_)
      · go_simp
        refine hK _ _ s0.out ?_
        clear hK K
        refine held_only (i := 10) rfl (by kernel_rfl) (by rfl) (fun K hK => ?_)
        go_simp
        refine hK _ _ (s0.out.alloc s0.out.size _) ?_
        clear hK K
        have hnE : Hid (Reads (w3.drew.alloc (.cells #[.slice (some ⟨g, 0, none⟩) k (k + 80)] 29)) 1 (some ⟨w3.heap.size, 0, none⟩) 1 [.slice (some ⟨g, 0, none⟩) k (k + 80)]) := Blk.reads (Blk.new w3.drew 29 #[.slice (some ⟨g, 0, none⟩) k (k + 80)]) 0 _ rfl (fun j u hu => by rw [Nat.zero_add]; simpa using hu)
        have hOE : Hid ((w3.drew.alloc (.cells #[.slice (some ⟨g, 0, none⟩) k (k + 80)] 29)).ownsRow B 29 1 (.slice AE i cE) i (xsE gs (es.take i))) := World.ownsRow.alloc (w := w3.drew) hHdd.out.oe _
        have hs3 : Hid (B ≤ (w3.drew.alloc (.cells #[.slice (some ⟨g, 0, none⟩) k (k + 80)] 29)).heap.size) := by have := hB3.out; show _ ≤ _; simp; omega
        refine held_only (i := 11) rfl (by kernel_rfl) (by rfl) (fun K hK => ?_)
        refine wp_append_src _ (.tmp 29) (.tmp 37) 41 rfl B 29 j0 (.slice none 0 0) 1 24 Try.underlying41 hj jz0 jz1 jz2 rfl (by decide) (.slice AE i cE) i (xsE gs (es.take i)) rfl hOE.out (some ⟨w3.heap.size, 0, none⟩) 1 1 [.slice (some ⟨g, 0, none⟩) k (k + 80)] rfl hnE.out (fun e => by cases e) (by intro v hv; simp only [List.mem_singleton] at hv; rw [hv]; rfl) hs1.out hs2.out hs3.out ?_
        intro v5 w5 hG
        obtain ⟨AE5, cE5, rfl, -⟩ := Append.Own.reads hG.own
        have hpk := Lib.hid (hHdd.out.pushE hRg.out hgB.out (Below.heap_below _ _) hG)
        have cE34 : w5.cell? ⟨gg, 34, none⟩ = some (.slice AE i cE) := (hpk.out.2.2.1.cell 34).trans hc_E
        have fE34 := hpk.out.2.2.1.frozen 34
        have b5 : Hid (Below w.heap.size w w5) := hG.below (s0.out.alloc s0.out.size _) (s0.out.alloc s0.out.size _).size (fun k e => by have := (hHdd.out.oe.lt k e).1; have := hRg.out; have := hgB.out; omega)
        clear hG
        go_simp
        refine hK _ _ b5.out ?_
        clear hK K
        refine held_take (i := 12) (v := .pointer (some ⟨gg, 0, none⟩)) rfl (by kernel_rfl) (by kernel_rfl) (by kernel_rfl) (fun _ _ _ h => h) b5.out (by rfl) (fun w' hw' => by go_simp) ?_
        (intro K hK; go_simp; refine hK _ ?_; clear hK K)
        refine held_take (i := 13) (v := .pointer (some ⟨gg, 34, none⟩)) rfl (by kernel_rfl) (by kernel_rfl) (by kernel_rfl) (fun _ _ _ h => h) b5.out (by rfl) (fun w' hw' => by go_simp) ?_
        (intro K hK; go_simp; refine hK _ ?_; clear hK K)
        refine held_only (i := 14) rfl (by kernel_rfl) (by rfl) (fun K hK => ?_)
        go_simp
        refine hK _ _ (b5.out.setCell (by show w.heap.size ≤ gg; have := hRg.out; omega) _) ?_
        clear hK K
        refine held_end (by kernel_rfl) ?_
        have hRoF : Hid (Roo (w5.setCell ⟨gg, 34, none⟩ (.slice AE5 (i + 1) cE5)) B (gs ++ [g]) (es.take (i + 1))) := hRo3.out.keep (fun g' cs h => hpk.out.2.1 g' _ cs (by decide) (by decide) h)
        have hHdF : Hid (Hd w (w5.setCell ⟨gg, 34, none⟩ (.slice AE5 (i + 1) cE5)) w.heap.size B gg (.slice AE5 (i + 1) cE5) (.slice none 0 0) (.slice AV2 (i + 1) cV2) (.slice none 0 0) (i + 1) 0 (i + 1) 0 (xsE (gs ++ [g]) (es.take (i + 1))) [] (xsV (gs ++ [g]) (es.take (i + 1))) []) := by
          have h := hpk.out.1
          show Hd _ _ _ _ _ _ _ _ _ _ _ _ _ _ _ _ _
          rw [ht1.out, xsE_snoc hgl.out, xsV_snoc hgl.out, hk.out]
          exact h
        have hBF : Hid (B ≤ (w5.setCell ⟨gg, 34, none⟩ (.slice AE5 (i + 1) cE5)).heap.size) := Nat.le_trans hB3.out hpk.out.2.2.2.size
        have hinF : Hid (i + 1 ≤ n) := hlt'.out
        clear hpk cE34 fE34 c34 hs1 hs2 hs3 hnE hOE hHdd hHd3 hRo3
        go_wp2_with fail
        go_roundw
        case rel => exact ⟨i + 1, cE5, cV2, AE5, AV2, gs ++ [g], by go_num, hinF.out, hHdF.out, hRoF.out, hBF.out⟩
        case measure => (have := hinF.out; simp [intOf]; omega)
      · go_simp
        refine hK _ _ (s0.out.alloc s0.out.size _) ?_
        clear hK K
        have c34b : (w3.alloc (.cells #[.slice (some ⟨g, 0, none⟩) k (k + 80)] 29)).cell? ⟨gg, 34, none⟩ = some (.slice AE i cE) := ((hHd3.out.bk.alloc _).cell 34).trans hc_E
        refine held_only (i := 2) rfl (by kernel_rfl) (by rfl) (fun K hK => ?_)
        go_simp
        refine hK _ _ (s0.out.alloc s0.out.size _) ?_
        clear hK K c34b
        have hnE : Hid (Reads (w3.drew.alloc (.cells #[.slice (some ⟨g, 0, none⟩) k (k + 80)] 29)) 1 (some ⟨w3.heap.size, 0, none⟩) 1 [.slice (some ⟨g, 0, none⟩) k (k + 80)]) := Blk.reads (Blk.new w3.drew 29 #[.slice (some ⟨g, 0, none⟩) k (k + 80)]) 0 _ rfl (fun j u hu => by rw [Nat.zero_add]; simpa using hu)
        have hOE : Hid ((w3.drew.alloc (.cells #[.slice (some ⟨g, 0, none⟩) k (k + 80)] 29)).ownsRow B 29 1 (.slice AE i cE) i (xsE gs (es.take i))) := World.ownsRow.alloc (w := w3.drew) hHdd.out.oe _
        have hs3 : Hid (B ≤ (w3.drew.alloc (.cells #[.slice (some ⟨g, 0, none⟩) k (k + 80)] 29)).heap.size) := by have := hB3.out; show _ ≤ _; simp; omega
        refine held_only (i := 11) rfl (by kernel_rfl) (by rfl) (fun K hK => ?_)
        refine wp_append_src _ (.tmp 29) (.tmp 37) 41 rfl B 29 j0 (.slice none 0 0) 1 24 Try.underlying41 hj jz0 jz1 jz2 rfl (by decide) (.slice AE i cE) i (xsE gs (es.take i)) rfl hOE.out (some ⟨w3.heap.size, 0, none⟩) 1 1 [.slice (some ⟨g, 0, none⟩) k (k + 80)] rfl hnE.out (fun e => by cases e) (by intro v hv; simp only [List.mem_singleton] at hv; rw [hv]; rfl) hs1.out hs2.out hs3.out ?_
        intro v5 w5 hG
        obtain ⟨AE5, cE5, rfl, -⟩ := Append.Own.reads hG.own
        have hpk := Lib.hid (hHdd.out.pushE hRg.out hgB.out (Below.heap_below _ _) hG)
        have cE34 : w5.cell? ⟨gg, 34, none⟩ = some (.slice AE i cE) := (hpk.out.2.2.1.cell 34).trans hc_E
        have fE34 := hpk.out.2.2.1.frozen 34
        have b5 : Hid (Below w.heap.size w w5) := hG.below (s0.out.alloc s0.out.size _) (s0.out.alloc s0.out.size _).size (fun k e => by have := (hHdd.out.oe.lt k e).1; have := hRg.out; have := hgB.out; omega)
        clear hG
        go_simp
        refine hK _ _ b5.out ?_
        clear hK K
        refine held_take (i := 12) (v := .pointer (some ⟨gg, 0, none⟩)) rfl (by kernel_rfl) (by kernel_rfl) (by kernel_rfl) (fun _ _ _ h => h) b5.out (by rfl) (fun w' hw' => by go_simp) ?_
        (intro K hK; go_simp; refine hK _ ?_; clear hK K)
        refine held_take (i := 13) (v := .pointer (some ⟨gg, 34, none⟩)) rfl (by kernel_rfl) (by kernel_rfl) (by kernel_rfl) (fun _ _ _ h => h) b5.out (by rfl) (fun w' hw' => by go_simp) ?_
        (intro K hK; go_simp; refine hK _ ?_; clear hK K)
        refine held_only (i := 14) rfl (by kernel_rfl) (by rfl) (fun K hK => ?_)
        go_simp
        refine hK _ _ (b5.out.setCell (by show w.heap.size ≤ gg; have := hRg.out; omega) _) ?_
        clear hK K
        refine held_end (by kernel_rfl) ?_
        have hRoF : Hid (Roo (w5.setCell ⟨gg, 34, none⟩ (.slice AE5 (i + 1) cE5)) B (gs ++ [g]) (es.take (i + 1))) := hRo3.out.keep (fun g' cs h => hpk.out.2.1 g' _ cs (by decide) (by decide) h)
        have hHdF : Hid (Hd w (w5.setCell ⟨gg, 34, none⟩ (.slice AE5 (i + 1) cE5)) w.heap.size B gg (.slice AE5 (i + 1) cE5) (.slice none 0 0) (.slice AV2 (i + 1) cV2) (.slice none 0 0) (i + 1) 0 (i + 1) 0 (xsE (gs ++ [g]) (es.take (i + 1))) [] (xsV (gs ++ [g]) (es.take (i + 1))) []) := by
          have h := hpk.out.1
          show Hd _ _ _ _ _ _ _ _ _ _ _ _ _ _ _ _ _
          rw [ht1.out, xsE_snoc hgl.out, xsV_snoc hgl.out, hk.out]
          exact h
        have hBF : Hid (B ≤ (w5.setCell ⟨gg, 34, none⟩ (.slice AE5 (i + 1) cE5)).heap.size) := Nat.le_trans hB3.out hpk.out.2.2.2.size
        have hinF : Hid (i + 1 ≤ n) := hlt'.out
        clear hpk cE34 fE34 c34 hs1 hs2 hs3 hnE hOE hHdd hHd3 hRo3
        go_wp2_with fail
        go_roundw
        case rel => exact ⟨i + 1, cE5, cV2, AE5, AV2, gs ++ [g], by go_num, hinF.out, hHdF.out, hRoF.out, hBF.out⟩
        case measure => (have := hinF.out; simp [intOf]; omega)
    · have hin2 : i = n := by have := hin.out; omega
      subst hin2
      have y3 : ¬ ((i : Int) < (i : Int)) := by omega
      have ht : es.take i = es := List.take_of_length_le (by rw [hn.out]; exact Nat.le_refl _)
      rw [ht] at hHd hRo
      clear hlt ht
      go_wp2_with fail
      clear y3
      obtain ⟨wA, rfl⟩ : ∃ wA, wA = wr := ⟨_, rfl⟩
      go_loopw [8] (fun v wr => ∃ (j cP cQ : Nat) (AP AQ : Option Addr) (hs : List Nat), v = .int .i64 (j : Int) ∧ Hid (j ≤ m) ∧ Hid (Hd w wr w.heap.size B gg (.slice AE i cE) (.slice AP j cP) (.slice AV i cV) (.slice AQ j cQ) i j i j (xsE gs es) ((psH hs (ps.take j)).flatMap Pr.cells) (xsV gs es) (xsQ hs (ps.take j))) ∧ Hid (Roo wr B gs es) ∧ Hid (Rod wr B hs (ps.take j)) ∧ Hid (B ≤ wr.heap.size)) (fun v _ => m - (intOf v).toNat)
      case atStart => exact ⟨0, 0, 0, none, none, [], rfl, Nat.zero_le _, hHd.out, hRo.out, Rod.nil_ _ _, hBr.out⟩
      case round =>
        clear hHd hRo hBr
        obtain ⟨j, cP, cQ, AP, AQ, hs, rfl, hjn, hHd, hRo, hRd, hBr⟩ := hrel
        have hj6 : (j : Int) ≤ 1000000 := by have := hjn.out; have := hm6.out; omega
        by_cases hlt : j < m
        · have y3 : ((j : Int) < (m : Int)) := by omega
          have hz0 : (0 : Int) ≤ (j : Int) := by omega
          obtain ⟨x, hxi⟩ : ∃ x, Hid (ps[j]? = some x) := ⟨_, List.getElem?_eq_getElem (by rw [hm.out]; exact hlt)⟩
          obtain ⟨bP, oP, rfl, hbP, hcx⟩ := hq.out.at_ hxi.out
          have hrd0 := (hq.out.2 x (List.mem_of_getElem? hxi.out)).1
          have hxn : Hid (x.n < 4398046511104) := hnn.out x (List.mem_of_getElem? hxi.out)
          have hfx : Hid (∀ w', Below w.heap.size w w' → ∀ f u, x.cells[f]? = some u → w'.cell? ⟨bP, oP + j * 3 + f, none⟩ = some u) := fun w' hb f u hu => (hb.cell (p := ⟨bP, oP + j * 3 + f, none⟩) hbP).trans (by rw [show oP + j * 3 + f = oP + (3 * j + f) by omega]; exact hcx f u hu)
          have hrd : Hid (∀ w', Below w.heap.size w w' → RdD w' x.A x.n x.ds) := fun w' hb => hrd0.below hb
          have hlt' : Hid (j < m) := hlt
          have ht1 : Hid (ps.take (j + 1) = ps.take j ++ [x]) := by show _ = _; rw [List.take_add_one, hxi.out]; rfl
          clear hcx hrd0 hbP hlt
          have hSt := Lib.hid (fun w' => stranger17_any w')
          go_upto_region 11 with fail
          refine wp_region_class_tail 6 (Class wr) (by kernel_rfl) (by kernel_rfl) (Class.mk_ ((Below.refl _ _).drew)) ?_
          refine wpQuiet_move rfl (.tmp 1) rfl ?_
          (intro K hK; go_simp; refine hK _ ?_; clear hK K)
          refine wpQuiet_move rfl (.tmp 8) rfl ?_
          (intro K hK; go_simp; refine hK _ ?_; clear hK K)
          refine wpQuiet_val (v := .pointer (some ⟨bP, oP + j * 3, none⟩)) rfl (fun w' hw' => by go_simp) ?_
          (intro K hK; go_simp; refine hK _ ?_; clear hK K)
          refine wpQuiet_val (v := .pointer (some ⟨bP, oP + j * 3 + 2, none⟩)) rfl (fun w' hw' => by go_simp) ?_
          (intro K hK; go_simp; refine hK _ ?_; clear hK K)
          refine wpQuiet_val (v := .slice x.A x.n x.c) rfl (fun w' hw' => by have hx := hfx.out w' (hHd.out.be.trans (hw'.below.mono hHd.out.be.size)) 2 _ rfl; go_simp) ?_
          (intro K hK; go_simp; refine hK _ ?_; clear hK K)
          refine wpQuiet_fn (v := .agg (cells8 mk0).toArray) (args := #[]) rfl _ _ rfl rfl Try.func7 (by kernel_rfl) (by kernel_rfl) (fun w' hw' => (hSt.out w').mono (fun e w'' ⟨he, hb⟩ => ⟨he, hw'.next hb⟩)) ?_
          (intro K hK; go_simp; refine hK _ ?_; clear hK K)
          refine wpQuiet_nil ?_
          intro w6 hw6
          have h6 : Hid (Below wr.heap.size wr w6) := hw6.below
          clear hw6
          simp only [List.drop]
          have hT := Lib.hid (Book17.roomyD_wide x.ds x.n hxn.out x.A x.c mk0 mk0_len w6 (hrd.out w6 (hHd.out.be.trans (h6.out.mono hHd.out.be.size))))
          go_upto_region 12 with (go_at_call 6; refine hT.out.mono ?_; rintro e w7 ⟨h, rfl, hh, hrow, hb7⟩; have hHd7 := Lib.hid ((hHd.out.below h6.out).below hb7); have hRo7 : Hid (Roo w7 B gs es) := (hRo.out.keep (fun g' cs hx => (h6.out.block _ hx.lt).trans hx)).keep (fun g' cs hx => (hb7.block _ hx.lt).trans hx); have hRd7 : Hid (Rod w7 B (hs ++ [h]) (ps.take (j + 1))) := (by show Rod _ _ _ _; rw [ht1.out]; exact ((hRd.out.keep (fun g' cs hx => (h6.out.block _ hx.lt).trans hx)).keep (fun g' cs hx => (hb7.block _ hx.lt).trans hx)).push hrow (Nat.le_trans hBr.out (Nat.le_trans h6.out.size hh))); have hB7 : Hid (B ≤ w7.heap.size) := Nat.le_trans hBr.out (Nat.le_trans h6.out.size hb7.size); clear hT hrow hb7 hh)
          have hhl : Hid (hs.length = (ps.take j).length) := hRd.out.1
          clear h6 hHd hRo hRd hBr hSt
          have c37 : w7.cell? ⟨gg, 37, none⟩ = some (.slice AQ j cQ) := (hHd7.out.bk.cell 37).trans hc_Q
          have hnQ : Hid (Reads (w7.alloc (.cells #[.slice (some ⟨h, 0, none⟩) (x.n + 80) (x.n + 80)] 26)) 1 (some ⟨w7.heap.size, 0, none⟩) 1 [.slice (some ⟨h, 0, none⟩) (x.n + 80) (x.n + 80)]) := Blk.reads (Blk.new w7 26 #[.slice (some ⟨h, 0, none⟩) (x.n + 80) (x.n + 80)]) 0 _ rfl (fun j u hu => by rw [Nat.zero_add]; simpa using hu)
          have hOQ : Hid ((w7.alloc (.cells #[.slice (some ⟨h, 0, none⟩) (x.n + 80) (x.n + 80)] 26)).ownsRow B 26 1 (.slice AQ j cQ) j (xsQ hs (ps.take j))) := World.ownsRow.alloc (w := w7) hHd7.out.oq _
          have hs1 : Hid (j + 1 ≤ maxLen) := by show _ ≤ _; unfold maxLen; omega
          have hs2 : Hid ((j + 1) * 24 ≤ 140737488355328) := by show _ ≤ _; omega
          have hs3 : Hid (B ≤ (w7.alloc (.cells #[.slice (some ⟨h, 0, none⟩) (x.n + 80) (x.n + 80)] 26)).heap.size) := by have := hB7.out; show _ ≤ _; simp; omega
          go_upto_region 13 with ((with_reducible change wpList _ _ _ ({ dst := some 58, op := _, type := _, pos := _, after := _, guard := _ } :: _) _ _); refine wpList_append_src _ (o := ⟨some 58, _, _, _, _, _⟩) rfl (.tmp 55) (.tmp 57) 49 rfl B 26 d0 (.slice none 0 0) 1 24 Try.underlying49 hd dz0 dz1 dz2 rfl (by decide) (.slice AQ j cQ) j (xsQ hs (ps.take j)) rfl hOQ.out (some ⟨w7.heap.size, 0, none⟩) 1 1 [.slice (some ⟨h, 0, none⟩) (x.n + 80) (x.n + 80)] rfl hnQ.out (fun e => by cases e) (by intro v hv; simp only [List.mem_singleton] at hv; rw [hv]; rfl) hs1.out hs2.out hs3.out ?_; intro v8 w8 hG; obtain ⟨AQ2, cQ2, rfl, -⟩ := Append.Own.reads hG.own; have hpk := Lib.hid (hHd7.out.pushQ hRg.out hgB.out (Below.heap_below _ _) hG); have cQ37 : w8.cell? ⟨gg, 37, none⟩ = some (.slice AQ j cQ) := (hpk.out.2.2.1.cell 37).trans hc_Q; have fQ37 := hpk.out.2.2.1.frozen 37; clear hG)
          have hHd3 := Lib.hid hpk.out.1
          have hRo3 : Hid (Roo (w8.setCell ⟨gg, 37, none⟩ (.slice AQ2 (j + 1) cQ2)) B gs es) := hRo7.out.keep (fun g' cs h => hpk.out.2.1 g' _ cs (by decide) (by decide) h)
          have hRd3 : Hid (Rod (w8.setCell ⟨gg, 37, none⟩ (.slice AQ2 (j + 1) cQ2)) B (hs ++ [h]) (ps.take (j + 1))) := hRd7.out.keep (fun g' cs h => hpk.out.2.1 g' _ cs (by decide) (by decide) h)
          have hB3 : Hid (B ≤ (w8.setCell ⟨gg, 37, none⟩ (.slice AQ2 (j + 1) cQ2)).heap.size) := Nat.le_trans hB7.out hpk.out.2.2.2.size
          have c35 : (w8.setCell ⟨gg, 37, none⟩ (.slice AQ2 (j + 1) cQ2)).cell? ⟨gg, 35, none⟩ = some (.slice AP j cP) := (hHd3.out.bk.cell 35).trans hc_P
          generalize w8.setCell ⟨gg, 37, none⟩ (.slice AQ2 (j + 1) cQ2) = w3 at *
          clear hpk c37 cQ37 fQ37 hnQ hOQ hs3 hHd7 hRo7 hRd7 hB7 hs2
          obtain ⟨pr, hpr⟩ : ∃ pr : Pr, Hid (pr = ⟨x.x, x.y, x.ds, some ⟨h, 0, none⟩, x.n, x.n + 80⟩) := ⟨_, Lib.hid rfl⟩
          have hprc : Hid (pr.cells = [.int .i64 x.x, .int .i64 x.y, .slice (some ⟨h, 0, none⟩) x.n (x.n + 80)]) := by show _ = _; rw [hpr.out]; rfl
          have q1 : Hid (∀ v ∈ [pr.cells], v.length = 3) := by intro v hv; simp only [List.mem_singleton] at hv; rw [hv]; rfl
          have x1 : Hid ([pr.cells].flatten.toArray = pr.cells.toArray) := by show _ = _; simp
          have hone : Hid (∀ v ∈ pr.cells, v.oneCell' = true) := by intro v hv; rw [hprc.out] at hv; simp only [List.mem_cons, List.not_mem_nil, or_false] at hv; rcases hv with rfl | rfl | rfl <;> rfl
          have s0 : Hid (Below w.heap.size w w3.drew) := hHd3.out.be.drew
          have hHdd : Hid (Hd w w3.drew w.heap.size B gg (.slice AE i cE) (.slice AP j cP) (.slice AV i cV) (.slice AQ2 (j + 1) cQ2) i j i (j + 1) (xsE gs es) ((psH hs (ps.take j)).flatMap Pr.cells) (xsV gs es) (xsQ hs (ps.take j) ++ [.slice (some ⟨h, 0, none⟩) (x.n + 80) (x.n + 80)])) := hHd3.out.below (Below.refl _ _).drew
          have hX : Hid (∀ w', (Instr.sliceAt 26 (.slice (some ⟨h, 0, none⟩) (x.n + 80) (x.n + 80)) none (some (.int .i64 (x.n : Int))) none).run Try.prog w' = .ok (.slice (some ⟨h, 0, none⟩) x.n (x.n + 80)) w') := fun w' => run_headD (by omega) _ rfl w'
          have hs2 : Hid ((j + 1) * 40 ≤ 140737488355328) := by show _ ≤ _; omega
          refine held_start (fun w' => Below w.heap.size w w') 27 rfl (by kernel_rfl) ?_
          refine held_take (i := 0) (v := .pointer (some ⟨gg, 0, none⟩)) rfl (by kernel_rfl) (by kernel_rfl) (by kernel_rfl) (fun _ _ _ h => h) s0.out (by rfl) (fun w' hw' => by go_simp) ?_
          (intro K hK; go_simp; refine hK _ ?_; clear hK K)
          refine held_take (i := 1) (v := .pointer (some ⟨gg, 35, none⟩)) rfl (by kernel_rfl) (by kernel_rfl) (by kernel_rfl) (fun _ _ _ h => h) s0.out (by rfl) (fun w' hw' => by go_simp) ?_
          (intro K hK; go_simp; refine hK _ ?_; clear hK K)
          refine held_take (i := 3) (v := .slice (some ⟨bP, oP, none⟩) m c2) rfl (by kernel_rfl) (by kernel_rfl) (by kernel_rfl) (fun _ _ _ h => h) s0.out (by rfl) (fun w' hw' => run_mv (.tmp 1) rfl w') ?_
          (intro K hK; go_simp; refine hK _ ?_; clear hK K)
          refine held_take (i := 4) (v := .int .i64 (j : Int)) rfl (by kernel_rfl) (by kernel_rfl) (by kernel_rfl) (fun _ _ _ h => h) s0.out (by rfl) (fun w' hw' => run_mv (.tmp 8) rfl w') ?_
          (intro K hK; go_simp; refine hK _ ?_; clear hK K)
          refine held_take (i := 5) (v := .pointer (some ⟨bP, oP + j * 3, none⟩)) rfl (by kernel_rfl) (by kernel_rfl) (by kernel_rfl) (fun _ _ _ h => h) s0.out (by rfl) (fun w' hw' => by go_simp) ?_
          (intro K hK; go_simp; refine hK _ ?_; clear hK K)
          refine held_take (i := 6) (v := .pointer (some ⟨bP, oP + j * 3, none⟩)) rfl (by kernel_rfl) (by kernel_rfl) (by kernel_rfl) (fun _ _ _ h => h) s0.out (by rfl) (fun w' hw' => by go_simp) ?_
          (intro K hK; go_simp; refine hK _ ?_; clear hK K)
          refine held_take (i := 7) (v := .int .i64 x.x) rfl (by kernel_rfl) (by kernel_rfl) (by kernel_rfl) (fun _ _ _ h => h) s0.out (by rfl) (fun w' hw' => by have hx := hfx.out w' hw' 0 _ rfl; rw [Nat.add_zero] at hx; go_simp) ?_
          (intro K hK; go_simp; refine hK _ ?_; clear hK K)
          refine held_take (i := 8) (v := .slice (some ⟨bP, oP, none⟩) m c2) rfl (by kernel_rfl) (by kernel_rfl) (by kernel_rfl) (fun _ _ _ h => h) s0.out (by rfl) (fun w' hw' => run_mv (.tmp 1) rfl w') ?_
          (intro K hK; go_simp; refine hK _ ?_; clear hK K)
          refine held_take (i := 9) (v := .int .i64 (j : Int)) rfl (by kernel_rfl) (by kernel_rfl) (by kernel_rfl) (fun _ _ _ h => h) s0.out (by rfl) (fun w' hw' => run_mv (.tmp 8) rfl w') ?_
          (intro K hK; go_simp; refine hK _ ?_; clear hK K)
          refine held_take (i := 10) (v := .pointer (some ⟨bP, oP + j * 3, none⟩)) rfl (by kernel_rfl) (by kernel_rfl) (by kernel_rfl) (fun _ _ _ h => h) s0.out (by rfl) (fun w' hw' => by go_simp) ?_
          (intro K hK; go_simp; refine hK _ ?_; clear hK K)
          refine held_take (i := 11) (v := .pointer (some ⟨bP, oP + j * 3 + 1, none⟩)) rfl (by kernel_rfl) (by kernel_rfl) (by kernel_rfl) (fun _ _ _ h => h) s0.out (by rfl) (fun w' hw' => by go_simp) ?_
          (intro K hK; go_simp; refine hK _ ?_; clear hK K)
          refine held_take (i := 12) (v := .int .i64 x.y) rfl (by kernel_rfl) (by kernel_rfl) (by kernel_rfl) (fun _ _ _ h => h) s0.out (by rfl) (fun w' hw' => by have hx := hfx.out w' hw' 1 _ rfl; go_simp) ?_
          (intro K hK; go_simp; refine hK _ ?_; clear hK K)
          refine held_take (i := 13) (v := .slice (some ⟨h, 0, none⟩) (x.n + 80) (x.n + 80)) rfl (by kernel_rfl) (by kernel_rfl) (by kernel_rfl) (fun _ _ _ h => h) s0.out (by rfl) (fun w' hw' => run_mv (.tmp 9) rfl w') ?_
          (intro K hK; go_simp; refine hK _ ?_; clear hK K)
          refine held_take (i := 14) (v := .slice (some ⟨bP, oP, none⟩) m c2) rfl (by kernel_rfl) (by kernel_rfl) (by kernel_rfl) (fun _ _ _ h => h) s0.out (by rfl) (fun w' hw' => run_mv (.tmp 1) rfl w') ?_
          (intro K hK; go_simp; refine hK _ ?_; clear hK K)
          refine held_take (i := 15) (v := .int .i64 (j : Int)) rfl (by kernel_rfl) (by kernel_rfl) (by kernel_rfl) (fun _ _ _ h => h) s0.out (by rfl) (fun w' hw' => run_mv (.tmp 8) rfl w') ?_
          (intro K hK; go_simp; refine hK _ ?_; clear hK K)
          refine held_take (i := 16) (v := .pointer (some ⟨bP, oP + j * 3, none⟩)) rfl (by kernel_rfl) (by kernel_rfl) (by kernel_rfl) (fun _ _ _ h => h) s0.out (by rfl) (fun w' hw' => by go_simp) ?_
          (intro K hK; go_simp; refine hK _ ?_; clear hK K)
          refine held_take (i := 17) (v := .pointer (some ⟨bP, oP + j * 3 + 2, none⟩)) rfl (by kernel_rfl) (by kernel_rfl) (by kernel_rfl) (fun _ _ _ h => h) s0.out (by rfl) (fun w' hw' => by go_simp) ?_
          (intro K hK; go_simp; refine hK _ ?_; clear hK K)
          refine held_take (i := 18) (v := .slice x.A x.n x.c) rfl (by kernel_rfl) (by kernel_rfl) (by kernel_rfl) (fun _ _ _ h => h) s0.out (by rfl) (fun w' hw' => by have hx := hfx.out w' hw' 2 _ rfl; go_simp) ?_
          (intro K hK; go_simp; refine hK _ ?_; clear hK K)
          refine held_take (i := 19) (v := .int .i64 (x.n : Int)) rfl (by kernel_rfl) (by kernel_rfl) (by kernel_rfl) (fun _ _ _ h => h) s0.out (by rfl) (fun w' hw' => by go_simp) ?_
          (intro K hK; go_simp; refine hK _ ?_; clear hK K)
          refine held_take (i := 20) (v := .slice (some ⟨h, 0, none⟩) x.n (x.n + 80)) rfl (by kernel_rfl) (by kernel_rfl) (by kernel_rfl) (fun _ _ _ h => h) s0.out (by rfl) (fun w' hw' => by have hx := hX.out w'; go_simp) ?_
          (intro K hK; go_simp; refine hK _ ?_; clear hK K)
          refine held_take (i := 21) (v := .agg #[.int .i64 x.x, .int .i64 x.y, .slice (some ⟨h, 0, none⟩) x.n (x.n + 80)]) rfl (by kernel_rfl) (by kernel_rfl) (by kernel_rfl) (fun _ _ _ h => h) s0.out (by rfl) (fun w' hw' => by go_simp) ?_
          (intro K hK; go_simp; refine hK _ ?_; clear hK K)
          refine held_two (i := 2) (j := 22) rfl rfl (by kernel_rfl) (by rfl) (by rfl) (fun K hK => ?_) (fun K hK => ?_)
          · go_simp
            refine hK _ _ s0.out ?_
            clear hK K
            refine held_only (i := 22) rfl (by kernel_rfl) (by rfl) (fun K hK => ?_)
            refine wp_buildAggs 42 48 1 _ rfl 3 (by decide) [pr.cells] Try.underlying42 sizeIn zeroIn rfl (by decide) (by decide) q1.out (by rw [hprc.out]; rfl) ?_
            rw [x1.out]
            refine hK _ _ (s0.out.alloc s0.out.size _) ?_
            clear hK K
            have hnP : Hid (Reads (w3.drew.alloc (.cells pr.cells.toArray 48)) 3 (some ⟨w3.heap.size, 0, none⟩) 1 pr.cells) := Blk.reads (Blk.new w3.drew 48 pr.cells.toArray) 0 _ rfl (fun j u hu => by rw [Nat.zero_add, List.getElem?_toArray]; exact hu)
            have hOP : Hid ((w3.drew.alloc (.cells pr.cells.toArray 48)).ownsRow B 48 3 (.slice AP j cP) j ((psH hs (ps.take j)).flatMap Pr.cells)) := World.ownsRow.alloc (w := w3.drew) hHdd.out.op _
            have hs3 : Hid (B ≤ (w3.drew.alloc (.cells pr.cells.toArray 48)).heap.size) := by have := hB3.out; show _ ≤ _; simp; omega
            refine held_only (i := 23) rfl (by kernel_rfl) (by rfl) (fun K hK => ?_)
            refine wp_append_src _ (.tmp 62) (.tmp 82) 42 rfl B 48 n0 (.agg #[.int .i64 0, .int .i64 0, .slice none 0 0]) 3 40 Try.underlying42 hn0 nz0 nz1 nz2 rfl (by decide) (.slice AP j cP) j ((psH hs (ps.take j)).flatMap Pr.cells) rfl hOP.out (some ⟨w3.heap.size, 0, none⟩) 1 1 pr.cells rfl hnP.out (fun e => by cases e) hone.out hs1.out hs2.out hs3.out ?_
            intro v5 w5 hG
            obtain ⟨AP5, cP5, rfl, -⟩ := Append.Own.reads hG.own
            have hpk := Lib.hid (hHdd.out.pushP hRg.out hgB.out (Below.heap_below _ _) hG)
            have cP35 : w5.cell? ⟨gg, 35, none⟩ = some (.slice AP j cP) := (hpk.out.2.2.1.cell 35).trans hc_P
            have fP35 := hpk.out.2.2.1.frozen 35
            have b5 : Hid (Below w.heap.size w w5) := hG.below (s0.out.alloc s0.out.size _) (s0.out.alloc s0.out.size _).size (fun k e => by have := (hHdd.out.op.lt k e).1; have := hRg.out; have := hgB.out; omega)
            clear hG
            go_simp
            refine hK _ _ b5.out ?_
            clear hK K
            refine held_take (i := 24) (v := .pointer (some ⟨gg, 0, none⟩)) rfl (by kernel_rfl) (by kernel_rfl) (by kernel_rfl) (fun _ _ _ h => h) b5.out (by rfl) (fun w' hw' => by go_simp) ?_
            (intro K hK; go_simp; refine hK _ ?_; clear hK K)
            refine held_take (i := 25) (v := .pointer (some ⟨gg, 35, none⟩)) rfl (by kernel_rfl) (by kernel_rfl) (by kernel_rfl) (fun _ _ _ h => h) b5.out (by rfl) (fun w' hw' => by go_simp) ?_
            (intro K hK; go_simp; refine hK _ ?_; clear hK K)
            refine held_only (i := 26) rfl (by kernel_rfl) (by rfl) (fun K hK => ?_)
            go_simp
            refine hK _ _ (b5.out.setCell (by show w.heap.size ≤ gg; have := hRg.out; omega) _) ?_
            clear hK K
            refine held_end (by kernel_rfl) ?_
            have hRoF : Hid (Roo (w5.setCell ⟨gg, 35, none⟩ (.slice AP5 (j + 1) cP5)) B gs es) := hRo3.out.keep (fun g' cs h => hpk.out.2.1 g' _ cs (by decide) (by decide) h)
            have hRdF : Hid (Rod (w5.setCell ⟨gg, 35, none⟩ (.slice AP5 (j + 1) cP5)) B (hs ++ [h]) (ps.take (j + 1))) := hRd3.out.keep (fun g' cs h => hpk.out.2.1 g' _ cs (by decide) (by decide) h)
            have hHdF : Hid (Hd w (w5.setCell ⟨gg, 35, none⟩ (.slice AP5 (j + 1) cP5)) w.heap.size B gg (.slice AE i cE) (.slice AP5 (j + 1) cP5) (.slice AV i cV) (.slice AQ2 (j + 1) cQ2) i (j + 1) i (j + 1) (xsE gs es) ((psH (hs ++ [h]) (ps.take (j + 1))).flatMap Pr.cells) (xsV gs es) (xsQ (hs ++ [h]) (ps.take (j + 1)))) := by
              have hh := hpk.out.1
              show Hd _ _ _ _ _ _ _ _ _ _ _ _ _ _ _ _ _
              rw [ht1.out, psH_snoc hhl.out, xsQ_snoc hhl.out, flat_snoc, ← hpr.out]
              exact hh
            have hBF : Hid (B ≤ (w5.setCell ⟨gg, 35, none⟩ (.slice AP5 (j + 1) cP5)).heap.size) := Nat.le_trans hB3.out hpk.out.2.2.2.size
            have hinF : Hid (j + 1 ≤ m) := hlt'.out
            clear hpk cP35 fP35 c35 hs1 hs2 hs3 hnP hOP hHdd hHd3 hRo3 hRd3
            go_wp2_with fail
            go_roundw
            case rel => exact ⟨j + 1, cP5, cQ2, AP5, AQ2, hs ++ [h], by go_num, hinF.out, hHdF.out, hRoF.out, hRdF.out, hBF.out⟩
            case measure => (have := hinF.out; simp [intOf]; omega)
          · refine wp_buildAggs 42 48 1 _ rfl 3 (by decide) [pr.cells] Try.underlying42 sizeIn zeroIn rfl (by decide) (by decide) q1.out (by rw [hprc.out]; rfl) ?_
            rw [x1.out]
            refine hK _ _ (s0.out.alloc s0.out.size _) ?_
            clear hK K
            have c35b : (w3.alloc (.cells pr.cells.toArray 48)).cell? ⟨gg, 35, none⟩ = some (.slice AP j cP) := ((hHd3.out.bk.alloc _).cell 35).trans hc_P
            refine held_only (i := 2) rfl (by kernel_rfl) (by rfl) (fun K hK => ?_)
            go_simp
            refine hK _ _ (s0.out.alloc s0.out.size _) ?_
            clear hK K c35b
            have hnP : Hid (Reads (w3.drew.alloc (.cells pr.cells.toArray 48)) 3 (some ⟨w3.heap.size, 0, none⟩) 1 pr.cells) := Blk.reads (Blk.new w3.drew 48 pr.cells.toArray) 0 _ rfl (fun j u hu => by rw [Nat.zero_add, List.getElem?_toArray]; exact hu)
            have hOP : Hid ((w3.drew.alloc (.cells pr.cells.toArray 48)).ownsRow B 48 3 (.slice AP j cP) j ((psH hs (ps.take j)).flatMap Pr.cells)) := World.ownsRow.alloc (w := w3.drew) hHdd.out.op _
            have hs3 : Hid (B ≤ (w3.drew.alloc (.cells pr.cells.toArray 48)).heap.size) := by have := hB3.out; show _ ≤ _; simp; omega
            refine held_only (i := 23) rfl (by kernel_rfl) (by rfl) (fun K hK => ?_)
            refine wp_append_src _ (.tmp 62) (.tmp 82) 42 rfl B 48 n0 (.agg #[.int .i64 0, .int .i64 0, .slice none 0 0]) 3 40 Try.underlying42 hn0 nz0 nz1 nz2 rfl (by decide) (.slice AP j cP) j ((psH hs (ps.take j)).flatMap Pr.cells) rfl hOP.out (some ⟨w3.heap.size, 0, none⟩) 1 1 pr.cells rfl hnP.out (fun e => by cases e) hone.out hs1.out hs2.out hs3.out ?_
            intro v5 w5 hG
            obtain ⟨AP5, cP5, rfl, -⟩ := Append.Own.reads hG.own
            have hpk := Lib.hid (hHdd.out.pushP hRg.out hgB.out (Below.heap_below _ _) hG)
            have cP35 : w5.cell? ⟨gg, 35, none⟩ = some (.slice AP j cP) := (hpk.out.2.2.1.cell 35).trans hc_P
            have fP35 := hpk.out.2.2.1.frozen 35
            have b5 : Hid (Below w.heap.size w w5) := hG.below (s0.out.alloc s0.out.size _) (s0.out.alloc s0.out.size _).size (fun k e => by have := (hHdd.out.op.lt k e).1; have := hRg.out; have := hgB.out; omega)
            clear hG
            go_simp
            refine hK _ _ b5.out ?_
            clear hK K
            refine held_take (i := 24) (v := .pointer (some ⟨gg, 0, none⟩)) rfl (by kernel_rfl) (by kernel_rfl) (by kernel_rfl) (fun _ _ _ h => h) b5.out (by rfl) (fun w' hw' => by go_simp) ?_
            (intro K hK; go_simp; refine hK _ ?_; clear hK K)
            refine held_take (i := 25) (v := .pointer (some ⟨gg, 35, none⟩)) rfl (by kernel_rfl) (by kernel_rfl) (by kernel_rfl) (fun _ _ _ h => h) b5.out (by rfl) (fun w' hw' => by go_simp) ?_
            (intro K hK; go_simp; refine hK _ ?_; clear hK K)
            refine held_only (i := 26) rfl (by kernel_rfl) (by rfl) (fun K hK => ?_)
            go_simp
            refine hK _ _ (b5.out.setCell (by show w.heap.size ≤ gg; have := hRg.out; omega) _) ?_
            clear hK K
            refine held_end (by kernel_rfl) ?_
            have hRoF : Hid (Roo (w5.setCell ⟨gg, 35, none⟩ (.slice AP5 (j + 1) cP5)) B gs es) := hRo3.out.keep (fun g' cs h => hpk.out.2.1 g' _ cs (by decide) (by decide) h)
            have hRdF : Hid (Rod (w5.setCell ⟨gg, 35, none⟩ (.slice AP5 (j + 1) cP5)) B (hs ++ [h]) (ps.take (j + 1))) := hRd3.out.keep (fun g' cs h => hpk.out.2.1 g' _ cs (by decide) (by decide) h)
            have hHdF : Hid (Hd w (w5.setCell ⟨gg, 35, none⟩ (.slice AP5 (j + 1) cP5)) w.heap.size B gg (.slice AE i cE) (.slice AP5 (j + 1) cP5) (.slice AV i cV) (.slice AQ2 (j + 1) cQ2) i (j + 1) i (j + 1) (xsE gs es) ((psH (hs ++ [h]) (ps.take (j + 1))).flatMap Pr.cells) (xsV gs es) (xsQ (hs ++ [h]) (ps.take (j + 1)))) := by
              have hh := hpk.out.1
              show Hd _ _ _ _ _ _ _ _ _ _ _ _ _ _ _ _ _
              rw [ht1.out, psH_snoc hhl.out, xsQ_snoc hhl.out, flat_snoc, ← hpr.out]
              exact hh
            have hBF : Hid (B ≤ (w5.setCell ⟨gg, 35, none⟩ (.slice AP5 (j + 1) cP5)).heap.size) := Nat.le_trans hB3.out hpk.out.2.2.2.size
            have hinF : Hid (j + 1 ≤ m) := hlt'.out
            clear hpk cP35 fP35 c35 hs1 hs2 hs3 hnP hOP hHdd hHd3 hRo3 hRd3
            go_wp2_with fail
            go_roundw
            case rel => exact ⟨j + 1, cP5, cQ2, AP5, AQ2, hs ++ [h], by go_num, hinF.out, hHdF.out, hRoF.out, hRdF.out, hBF.out⟩
            case measure => (have := hinF.out; simp [intOf]; omega)
        · have hjn2 : j = m := by have := hjn.out; omega
          subst hjn2
          have y3 : ¬ ((j : Int) < (j : Int)) := by omega
          have ht : ps.take j = ps := List.take_of_length_le (by rw [hm.out]; exact Nat.le_refl _)
          rw [ht] at hHd hRd
          have hbk := Lib.hid hHd.out.bk
          have hrs := Lib.hid hHd.out.rs
          clear hlt ht
          go_wp2_with (first
            | ((with_reducible change wpList _ _ _ ({ dst := some 86, op := _, type := _, pos := _, after := _, guard := _ } :: _) _ _); refine wpList_load_row (o := ⟨some 86, _, _, _, _, _⟩) rfl 51 (.tmp 5) rfl (gg) rfl 51 ((hc (.slice AE i cE) (.slice AP j cP) (.slice AV i cV) (.slice AQ j cQ)).toArray) (0, 0) _ hbk.out Try.underlying51 rfl hc_info ?_)
            | ((with_reducible change wpList _ _ _ ({ dst := none, op := Op.store 51 _ _, type := _, pos := _, after := _, guard := _ } :: _) _ _); refine wpList_store_row (o := ⟨none, _, _, _, _, _⟩) rfl 51 (.tmp 4) (.tmp 86) rfl (w.heap.size) ((hc (.slice AE i cE) (.slice AP j cP) (.slice AV i cV) (.slice AQ j cQ)).toArray) rfl rfl 51 (zG) hrs.out hc_info rfl (hc_one rfl rfl rfl rfl) ?_))
          refine bodyPost_ret (results_cell_row rfl _ _ w.heap.size 51 (hc (.slice AE i cE) (.slice AP j cP) (.slice AV i cV) (.slice AQ j cQ)).toArray (0, 0) _ rfl (setRow_heap _ _ _ _ _ _ hrs.out) Try.underlying51 rfl hc_info) rfl ?_
          have hK : Kept (· = w.heap.size) wr (wr.setRow w.heap.size (hc (.slice AE i cE) (.slice AP j cP) (.slice AV i cV) (.slice AQ j cQ)).toArray) := Bytes.Kept.setRow (S := (· = w.heap.size)) (Kept.refl _ _) rfl _
          have hRB : w.heap.size < B := Nat.lt_trans hRg.out hgB.out
          refine ⟨B, .slice AE i cE, .slice AP j cP, .slice AV i cV, .slice AQ j cQ, by rfl, gs, hs, ?_⟩
          exact ⟨own_keep hHd.out.oe hK (fun k e s => by have := (hHd.out.oe.lt k e).1; have s : k = w.heap.size := s; omega), own_keep hHd.out.op hK (fun k e s => by have := (hHd.out.op.lt k e).1; have s : k = w.heap.size := s; omega), own_keep hHd.out.ov hK (fun k e s => by have := (hHd.out.ov.lt k e).1; have s : k = w.heap.size := s; omega), own_keep hHd.out.oq hK (fun k e s => by have := (hHd.out.oq.lt k e).1; have s : k = w.heap.size := s; omega), keepR hRo.out hK hRB, keepD hRd.out hK hRB, below_setRow hHd.out.be (Nat.le_refl _) _, Nat.le_of_lt hRB⟩
end Go.Proofs.Ytmdkfhfkdcbpgaa.Hand
