/-
  Texts of the claim, put into one file: PieceRead, SpeltP, PieceMem, PieceMem2, DecPieceM, DecPiece.
-/
import Derived.Test.YtgldkfaiofkhbaaDoorZ31
import Derived.Test.YtgldkfaiofkhbaaDoorZ19
import Derived.Test.YtgldkfaiofkhbaaDoorZ28
import Derived.Test.YtgldkfaiofkhbaaDoorZ9
import Derived.Test.YtgldkfaiofkhbaaDoorZ16
import Derived.Test.YtgldkfaiofkhbaaDoorZ14
import Derived.Test.YtgldkfaiofkhbaaDoorZ17
import Derived.Test.YtgldkfaiofkhbaaDoorZ20

namespace Go.Proofs.YtgldkfaiofkhbaaDoor.PieceRead
open Go Go.RowKit Go.Proofs.YtgldkfaiofkhbaaDoor Go.Proofs.YtgldkfaiofkhbaaDoor.Mem Go.Proofs.YtgldkfaiofkhbaaDoor.Sha Go.Proofs.YtgldkfaiofkhbaaDoor.Bytes Go.Proofs.YtgldkfaiofkhbaaDoor.Octet Go.Proofs.YtgldkfaiofkhbaaDoor.Octet4 Go.Proofs.YtgldkfaiofkhbaaDoor.TreeMem Go.Proofs.YtgldkfaiofkhbaaDoor.Reader Go.Proofs.YtgldkfaiofkhbaaDoor.Reader4 Go.Proofs.YtgldkfaiofkhbaaDoor.ProofBeside Go.Proofs.YtgldkfaiofkhbaaDoor.ProofEnc Go.Proofs.YtgldkfaiofkhbaaDoor.ProofIdx Go.Proofs.YtgldkfaiofkhbaaDoor.ProofIdx2 Go.Proofs.YtgldkfaiofkhbaaDoor.PieceP Go.Proofs.YtgldkfaiofkhbaaDoor.PieceRow Go.Proofs.YtgldkfaiofkhbaaDoor.PieceBegins Go.Proofs.YtgldkfaiofkhbaaDoor.Prs Go.Proofs.YtgldkfaiofkhbaaDoor.Reach Go.Proofs.YtgldkfaiofkhbaaDoor.PieceB Go.Proofs.YtgldkfaiofkhbaaDoor.PieceLay Go.Proofs.YtgldkfaiofkhbaaDoor.IdxMem

/-- How many digests the way of a number has. -/
def cz (Z y : Nat) : Nat := (PieceRow.bsNum (Z : Int) (y : Int)).toNat
def pcL (q : Text) : Nat := (q.getD 1 0).toNat
def pcS (q : Text) : Text := (q.drop 2).take (pcL q)
def pcF (q : Text) : Nat := n8 q (2 + pcL q)
def pcB (q : Text) : Text := (q.drop (10 + pcL q)).take 32
def pcZ (q : Text) : Nat := n8 q (42 + pcL q)
def pcN (q : Text) : Nat := n4 q (50 + pcL q)
def pcRows (q : Text) : List Row := rowsAt (cz (pcZ q)) q (54 + pcL q) (pcN q)
def pcEnd (q : Text) : Nat := endAt (cz (pcZ q)) q (54 + pcL q) (pcN q)
/-- A row as the count sees it. -/
def itemR (Z : Int) (r : Row) : PieceP.Item := ⟨r.e.length, Z, r.y, r.ds.length, fitB Z r.y r.ds.length r.e.length⟩
/-- May the rows be a piece? -/
def okR (s : ByteArray) (F : Int) (b : Text) (Z : Int) (rows : List Row) : Prop := begB s.data.toList F b = true ∧ 0 < rows.length ∧ rows.length ≤ 1000 ∧ goodFrom Z (54 + s.size) none (rows.map (itemR Z)) = true ∧ F ≤ Z - rows.length
instance (s : ByteArray) (F : Int) (b : Text) (Z : Int) (rows : List Row) : Decidable (okR s F b Z rows) := by unfold okR; infer_instance
/-- The rows, as proofs in memory. -/
def PsOf (Z : Int) (rows : List Row) (ps : List Pr) : Prop := ps.map (fun p => (p.x, p.y, p.n, p.ds)) = rows.map (fun r => (Z, (r.y : Int), r.ds.length, r.ds))
def pieceR (s : ByteArray) (F : Int) (b : Text) (Z : Int) (rows : List Row) : Text := [51] ++ [kb s.size] ++ nm s ++ be8 F.toNat ++ b ++ be8 Z.toNat ++ be4 rows.length ++ rowsB rows

theorem PsOf.len {Z : Int} {rows : List Row} {ps : List Pr} (h : PsOf Z rows ps) : ps.length = rows.length := by
  have := congrArg List.length h
  simpa using this
theorem PsOf.at_ {Z : Int} {rows : List Row} {ps : List Pr} (h : PsOf Z rows ps) {i : Nat} {p : Pr} {r : Row} (hp : ps[i]? = some p) (hr : rows[i]? = some r) : p.x = Z ∧ p.y = (r.y : Int) ∧ p.n = r.ds.length ∧ p.ds = r.ds := by
  have e := congrArg (fun l => l[i]?) h
  simp only [List.getElem?_map, hp, hr, Option.map_some, Option.some.injEq, Prod.mk.injEq] at e
  exact e
theorem PsOf.nil_ (Z : Int) : PsOf Z [] [] := rfl
theorem items_of {Z : Int} : ∀ {rows : List Row} {ps : List Pr}, PsOf Z rows ps → itemsOf (rows.map (·.e)) ps = rows.map (itemR Z)
  | [], ps, h => by
    obtain rfl : ps = [] := by simpa [PsOf] using h
    rfl
  | r :: rows, [], h => by cases h
  | r :: rows, p :: ps, h => by
    have h' : (p.x, p.y, p.n, p.ds) :: ps.map (fun p => (p.x, p.y, p.n, p.ds)) = (Z, (r.y : Int), r.ds.length, r.ds) :: rows.map (fun r => (Z, (r.y : Int), r.ds.length, r.ds)) := h
    injection h' with e h2
    simp only [Prod.mk.injEq] at e
    obtain ⟨e1, e2, e3, e4⟩ := e
    have ih := items_of (Z := Z) (rows := rows) (ps := ps) h2
    show itemOf r.e p :: itemsOf (rows.map (·.e)) ps = itemR Z r :: rows.map (itemR Z)
    rw [ih]
    unfold itemOf itemR
    rw [e1, e2, e3]
theorem rows_of {Z : Int} : ∀ {rows : List Row} {ps : List Pr}, PsOf Z rows ps → rowsOf (rows.map (·.e)) ps = rows
  | [], ps, h => by
    obtain rfl : ps = [] := by simpa [PsOf] using h
    rfl
  | r :: rows, [], h => by cases h
  | r :: rows, p :: ps, h => by
    have h' : (p.x, p.y, p.n, p.ds) :: ps.map (fun p => (p.x, p.y, p.n, p.ds)) = (Z, (r.y : Int), r.ds.length, r.ds) :: rows.map (fun r => (Z, (r.y : Int), r.ds.length, r.ds)) := h
    injection h' with e h2
    simp only [Prod.mk.injEq] at e
    obtain ⟨e1, e2, e3, e4⟩ := e
    have ih := rows_of (Z := Z) (rows := rows) (ps := ps) h2
    show rowOf r.e p :: rowsOf (rows.map (·.e)) ps = r :: rows
    rw [ih]
    unfold rowOf
    rw [e2, e4, Int.toNat_natCast]
theorem first_of {Z : Int} {rows : List Row} {ps : List Pr} (h : PsOf Z rows ps) (h0 : 0 < rows.length) : firstSize ps = Z := by
  cases ps with
  | nil => have := h.len; simp at this; omega
  | cons p ps =>
    have hr : rows[0]? = some (rows[0]'h0) := List.getElem?_eq_getElem _
    exact (h.at_ (i := 0) (p := p) rfl hr).1
theorem okP_okR {s : ByteArray} {F : Int} {b : Text} {Z : Int} {rows : List Row} {ps : List Pr} (h : PsOf Z rows ps) : okP s F b (rows.map (·.e)) ps ↔ okR s F b Z rows := by
  rw [okP_iff, List.length_map, items_of h]
  unfold okR
  by_cases h0 : 0 < rows.length
  · rw [first_of h h0]
    exact ⟨fun ⟨a1, a2, a3, a4, a5, a6⟩ => ⟨a1, a2, a5, a4, a6⟩, fun ⟨a1, a2, a5, a4, a6⟩ => ⟨a1, a2, h.len, a4, a5, a6⟩⟩
  · exact ⟨fun h1 => absurd h1.2.1 h0, fun h1 => absurd h1.2.1 h0⟩
theorem piece_of {s : ByteArray} {F : Int} {b : Text} {Z : Int} {rows : List Row} {ps : List Pr} (h : PsOf Z rows ps) (h0 : 0 < rows.length) : pieceB s F b (rows.map (·.e)) ps = pieceR s F b Z rows := by
  unfold pieceB pieceR
  rw [first_of h h0, rows_of h, List.length_map]
/-- What rows hold that may be a piece. -/
theorem okR_row {s : ByteArray} {F : Int} {b : Text} {Z : Int} {rows : List Row} (h : okR s F b Z rows) : ∀ r ∈ rows, insideB Z r.y = true ∧ PieceRow.bsNum Z r.y = (r.ds.length : Int) ∧ 1 ≤ r.e.length ∧ r.e.length ≤ 65536 ∧ r.ds.length ≤ 40 ∧ 1 ≤ Z ∧ Z ≤ 1099511627776 ∧ (r.y : Int) < Z := fun r hr => by
  have hg := (good_all h.2.2.2.1 (itemR Z r) (List.mem_map_of_mem hr)).1
  obtain ⟨h1, h2, h3, h4, h5, h6, h7, -, h8⟩ := fit_parts (x := Z) (y := r.y) (n := r.ds.length) (k := r.e.length) hg
  exact ⟨h1, h2, h3, h4, h5, h6, h7, h8⟩
theorem okR_Z {s : ByteArray} {F : Int} {b : Text} {Z : Int} {rows : List Row} (h : okR s F b Z rows) : 1 ≤ Z ∧ Z ≤ 1099511627776 ∧ 0 ≤ F ∧ F ≤ 1099511627776 ∧ s.size ≤ 64 := by
  have h0 := h.2.1
  obtain ⟨-, -, -, -, -, h1, h2, -⟩ := okR_row h _ (List.getElem_mem h0)
  have hb := h.1
  unfold begB namedB at hb
  simp only [Bool.and_eq_true, decide_eq_true_eq] at hb
  have := h.2.2.2.2
  have h64 : s.size ≤ 64 := by simpa using hb.1.1
  exact ⟨h1, h2, hb.2.1, by omega, h64⟩
/-- Are these bytes a piece? -/
def pcOk (q : Text) : Prop := q.getD 0 0 = 51 ∧ pcEnd q = q.length ∧ okR (strT (pcS q)) (pcF q : Int) (pcB q) (pcZ q : Int) (pcRows q)
instance (q : Text) : Decidable (pcOk q) := by unfold pcOk; infer_instance
structure Ans where
  s : ByteArray
  F : Int
  b : Text
  Z : Int
  rows : List Row
  err : Int
def zAns (en : Int) : Ans := ⟨ByteArray.empty, 0, List.replicate 32 0, 0, [], en⟩
def pcGot (q : Text) : Ans := ⟨strT (pcS q), (pcF q : Int), pcB q, (pcZ q : Int), pcRows q, 0⟩
def pcAns (q : Text) : Ans := if 2097152 < q.length then zAns 170 else if pcOk q then pcGot q else zAns 8
theorem pcAns_long {q : Text} (h : 2097152 < q.length) : pcAns q = zAns 170 := by unfold pcAns; rw [if_pos h]
theorem pcAns_no {q : Text} (h : ¬ 2097152 < q.length) (h2 : ¬ pcOk q) : pcAns q = zAns 8 := by unfold pcAns; rw [if_neg h, if_neg h2]
theorem pcAns_yes {q : Text} (h : ¬ 2097152 < q.length) (h2 : pcOk q) : pcAns q = pcGot q := by unfold pcAns; rw [if_neg h, if_pos h2]
theorem pcRows_len (q : Text) : (pcRows q).length = pcN q := rowsAt_len _ _ _ _
theorem pcEnd_ge (q : Text) : 54 + pcL q + 12 * pcN q ≤ pcEnd q := endAt_ge _ _ _ _
/-- What a piece's bytes hold. -/
theorem pcOk_facts {q : Text} (h : pcOk q) : 54 + pcL q + 12 * pcN q ≤ q.length ∧ 1 ≤ pcN q ∧ pcN q ≤ 1000 ∧ pcF q ≤ 1099511627776 ∧ 1 ≤ pcZ q ∧ pcZ q ≤ 1099511627776 ∧ pcL q ≤ 64 ∧ (pcB q).length = 32 := by
  obtain ⟨-, h2, h3⟩ := h
  have h4 := pcEnd_ge q
  obtain ⟨z1, z2, z3, z4, z5⟩ := okR_Z h3
  have hn := h3.2.1
  have hn2 := h3.2.2.1
  rw [pcRows_len] at hn hn2
  have hl : (pcS q).length = pcL q := by unfold pcS; rw [List.length_take, List.length_drop]; omega
  rw [strT_size, hl] at z5
  refine ⟨by omega, by omega, by omega, by omega, by omega, by omega, z5, ?_⟩
  unfold pcB
  rw [List.length_take, List.length_drop]
  omega
/-- The place of the i-th row. -/
def plc (q : Text) (i : Nat) : Nat := endAt (cz (pcZ q)) q (54 + pcL q) i
theorem plc_succ (q : Text) (i : Nat) : plc q (i + 1) = nxt (cz (pcZ q)) q (plc q i) := endAt_succ _ _ _ _
theorem rowsAt_get (c : Nat → Nat) (q : Text) : ∀ (n o i : Nat), i < n → (rowsAt c q o n)[i]? = some (PieceB.rowAt c q (endAt c q o i))
  | 0, o, i, h => absurd h (Nat.not_lt_zero _)
  | n + 1, o, 0, _ => rfl
  | n + 1, o, i + 1, h => by
    show (rowsAt c q (nxt c q o) n)[i]? = some (PieceB.rowAt c q (endAt c q (nxt c q o) i))
    exact rowsAt_get c q n _ i (by omega)
/-- One row of a piece's bytes. -/
theorem pcOk_row {q : Text} (h : pcOk q) {i : Nat} (hi : i < pcN q) : nxt (cz (pcZ q)) q (plc q i) ≤ q.length ∧ n4 q (plc q i + 8) ≤ 65536 ∧ 1 ≤ n4 q (plc q i + 8) ∧ n8 q (plc q i) ≤ 1099511627776 ∧ insideB (pcZ q : Int) (n8 q (plc q i) : Int) = true ∧ PieceRow.bsNum (pcZ q : Int) (n8 q (plc q i) : Int) = (cz (pcZ q) (n8 q (plc q i)) : Int) ∧ cz (pcZ q) (n8 q (plc q i)) ≤ 40 := by
  have hm : nxt (cz (pcZ q)) q (plc q i) ≤ q.length := by
    rw [← plc_succ, ← h.2.1]
    exact endAt_mono _ _ _ _ _ (by omega)
  have hr : (pcRows q)[i]? = some (PieceB.rowAt (cz (pcZ q)) q (plc q i)) := rowsAt_get _ _ _ _ _ hi
  obtain ⟨h1, h2, h3, h4, h5, h6, h7, h8⟩ := okR_row h.2.2 _ (List.mem_of_getElem? hr)
  obtain ⟨-, l1, l2, l3⟩ := rowB_at (cz (pcZ q)) q (plc q i) hm
  rw [l1] at h3 h4
  rw [l3] at h2 h5
  have h8 : ((n8 q (plc q i) : Nat) : Int) < (pcZ q : Int) := h8
  exact ⟨hm, h4, h3, by omega, h1, h2, h5⟩
theorem cutq (q : Text) (a b : Nat) : q.drop a = (q.drop a).take b ++ q.drop (a + b) := by
  rw [← List.drop_drop, List.take_append_drop]
theorem two {q : Text} (h : 2 ≤ q.length) : q = [q.getD 0 0, q.getD 1 0] ++ q.drop 2 := by
  match q, h with
  | a :: b :: r, _ => rfl
  | [_], h => simp at h
  | [], h => simp at h
/-- What is read so was laid down. -/
theorem read_piece {q : Text} (h : pcOk q) : pieceR (strT (pcS q)) (pcF q : Int) (pcB q) (pcZ q : Int) (pcRows q) = q := by
  obtain ⟨f1, f2, f3, f4, f5, f6, f7, f8⟩ := pcOk_facts h
  have hl : (pcS q).length = pcL q := by unfold pcS; rw [List.length_take, List.length_drop]; omega
  unfold pieceR
  rw [strT_size, nm_strT, Int.toNat_natCast, Int.toNat_natCast, hl, pcRows_len]
  have e1 : be8 (pcF q) = (q.drop (2 + pcL q)).take 8 := ReadIncl.be8_num _ (by rw [List.length_take, List.length_drop]; omega)
  have e2 : be8 (pcZ q) = (q.drop (42 + pcL q)).take 8 := ReadIncl.be8_num _ (by rw [List.length_take, List.length_drop]; omega)
  have e3 : be4 (pcN q) = (q.drop (50 + pcL q)).take 4 := be4_num _ (by rw [List.length_take, List.length_drop]; omega)
  have e4 : rowsB (pcRows q) = q.drop (54 + pcL q) := by
    have := rowsB_at (cz (pcZ q)) q (pcN q) (54 + pcL q) (by have := h.2.1; unfold pcEnd at this; omega)
    unfold pcRows
    rw [this]
    have h2 := h.2.1
    unfold pcEnd at h2
    rw [h2, List.take_of_length_le (by rw [List.length_drop]; omega)]
  have e0 : kb (pcL q) = q.getD 1 0 := IdxDec.kb_toNat _
  rw [e1, e2, e3, e4, e0]
  conv => rhs; rw [two (q := q) (by omega), h.1, cutq q 2 (pcL q), cutq q (2 + pcL q) 8, show 2 + pcL q + 8 = 10 + pcL q by omega, cutq q (10 + pcL q) 32, show 10 + pcL q + 32 = 42 + pcL q by omega, cutq q (42 + pcL q) 8, show 42 + pcL q + 8 = 50 + pcL q by omega, cutq q (50 + pcL q) 4, show 50 + pcL q + 4 = 54 + pcL q by omega]
  unfold pcS pcB
  simp
/-- And what they hold is laid down as these bytes. -/
theorem read_want {q : Text} (h : pcOk q) {ps : List Pr} (hP : PsOf (pcZ q : Int) (pcRows q) ps) : pieceWant (strT (pcS q)) (pcF q : Int) (pcB q) ((pcRows q).map (·.e)) ps = some q := by
  unfold pieceWant
  rw [if_pos ((okP_okR hP).2 h.2.2), piece_of hP h.2.2.2.1, read_piece h]
end Go.Proofs.YtgldkfaiofkhbaaDoor.PieceRead

namespace Go.Proofs.YtgldkfaiofkhbaaDoor.SpeltP
open Go Go.RowKit Go.Proofs.YtgldkfaiofkhbaaDoor Go.Proofs.YtgldkfaiofkhbaaDoor.Mem Go.Proofs.YtgldkfaiofkhbaaDoor.Sha Go.Proofs.YtgldkfaiofkhbaaDoor.Bytes Go.Proofs.YtgldkfaiofkhbaaDoor.Octet Go.Proofs.YtgldkfaiofkhbaaDoor.Octet2 Go.Proofs.YtgldkfaiofkhbaaDoor.TreeMath Go.Proofs.YtgldkfaiofkhbaaDoor.Sides Go.Proofs.YtgldkfaiofkhbaaDoor.TreeMem Go.Proofs.YtgldkfaiofkhbaaDoor.Reader Go.Proofs.YtgldkfaiofkhbaaDoor.Reader2 Go.Proofs.YtgldkfaiofkhbaaDoor.Reader4 Go.Proofs.YtgldkfaiofkhbaaDoor.ProofBeside Go.Proofs.YtgldkfaiofkhbaaDoor.ProofEnc Go.Proofs.YtgldkfaiofkhbaaDoor.Ref17 Go.Proofs.YtgldkfaiofkhbaaDoor.DecIncl Go.Proofs.YtgldkfaiofkhbaaDoor.ReadIncl Go.Proofs.YtgldkfaiofkhbaaDoor.Subs Go.Proofs.YtgldkfaiofkhbaaDoor.EncCons Go.Proofs.YtgldkfaiofkhbaaDoor.RefCons Go.Proofs.YtgldkfaiofkhbaaDoor.DecCons Go.Proofs.YtgldkfaiofkhbaaDoor.ReadCons Go.Proofs.YtgldkfaiofkhbaaDoor.PieceB Go.Proofs.YtgldkfaiofkhbaaDoor.ProofIdx Go.Proofs.YtgldkfaiofkhbaaDoor.ProofIdx2 Go.Proofs.YtgldkfaiofkhbaaDoor.StructEq Go.Proofs.YtgldkfaiofkhbaaDoor.IdxAny Go.Proofs.YtgldkfaiofkhbaaDoor.IdxEnc Go.Proofs.YtgldkfaiofkhbaaDoor.IdxMem

theorem inside_tr {size i : Int} (h : insideB size i = true) : 1 ≤ size ∧ size ≤ 1099511627776 ∧ 0 ≤ i ∧ i < size := by
  unfold insideB at h
  simp only [Bool.and_eq_true, decide_eq_true_eq] at h
  omega
theorem joins_tr {x y : Int} (h : joinsB x y = true) : 0 ≤ x ∧ x ≤ y ∧ y ≤ 1099511627776 := by
  unfold joinsB at h
  simp only [Bool.and_eq_true, decide_eq_true_eq] at h
  omega
/-- Nothing that is right begins another that is right. -/
theorem bad_near {Ok : Text → Prop} (hx : ∀ a t, Ok a → Ok (a ++ t) → t = []) {b : Text} (hb : Ok b) : (∀ i, i < b.length → ¬ Ok (b.take i)) ∧ ¬ Ok (b ++ [0]) := by
  refine ⟨fun i hi h => ?_, fun h => ?_⟩
  · have := hx (b.take i) (b.drop i) h (by rw [List.take_append_drop]; exact hb)
    have h2 := congrArg List.length this
    rw [List.length_drop] at h2
    simp at h2
    omega
  · have := hx b [0] hb h
    cases this

/-! ### Inclusion proofs -/
def okIncl (q : Text) : Prop := 17 ≤ q.length ∧ q.getD 0 0 = 48 ∧ insideB (num ((q.drop 1).take 8)) (num ((q.drop 9).take 8)) = true ∧ q.length = 17 + 32 * (sides (num ((q.drop 1).take 8)) (num ((q.drop 9).take 8))).length
theorem okIncl_ext {a t : Text} (h : okIncl a) (h2 : okIncl (a ++ t)) : t = [] := by
  obtain ⟨h17, -, -, hl⟩ := h
  obtain ⟨-, -, -, hl2⟩ := h2
  rw [List.drop_append_of_le_length (by omega), List.drop_append_of_le_length (by omega), List.take_append_of_le_length (by rw [List.length_drop]; omega), List.take_append_of_le_length (by rw [List.length_drop]; omega), List.length_append] at hl2
  exact List.eq_nil_of_length_eq_zero (by omega)
theorem decAns_bad {q : Text} (h : ¬ 9000 < q.length) (h2 : ¬ okIncl q) : decAns q = (0, 0, [], 8) := decAns_fail h h2
theorem inclWant_cond {x y : Int} {l : List Text} {b : Text} (hd : Digs l) (h : inclWant x y l = some b) : okIncl b ∧ b.length < 9000 ∧ decAns b = (x, y, l, 0) := by
  unfold inclWant at h
  split at h
  · rename_i hin
    obtain ⟨hin, hsl⟩ := hin
    have hb := Option.some.inj h
    have hr := inside_tr hin
    obtain ⟨X, rfl⟩ : ∃ X : Nat, x = (X : Int) := ⟨x.toNat, by omega⟩
    obtain ⟨Y, rfl⟩ : ∃ Y : Nat, y = (Y : Int) := ⟨y.toNat, by omega⟩
    simp only [Int.toNat_natCast] at hb hsl
    have hlen : b.length = 17 + 32 * l.length := by rw [← hb]; exact inclBytes_len _ _ _ hd
    have hfl := flat32_len l hd
    have e1 : (b.drop 1).take 8 = be8 X := by
      rw [← hb]
      show ((([48] ++ be8 X ++ be8 Y ++ l.flatten)).drop 1).take 8 = _
      rw [List.append_assoc, List.append_assoc, List.drop_left' (by rfl), List.take_left' (be8_len _)]
    have e2 : (b.drop 9).take 8 = be8 Y := by
      rw [← hb]
      show ((([48] ++ be8 X ++ be8 Y ++ l.flatten)).drop 9).take 8 = _
      rw [List.append_assoc, List.drop_left' (by simp [be8_len]), List.take_left' (be8_len _)]
    have e3 : b.drop 17 = l.flatten := by
      rw [← hb]
      show ([48] ++ be8 X ++ be8 Y ++ l.flatten).drop 17 = _
      rw [List.drop_left' (by simp [be8_len])]
    have n1 := num_be8 X (by omega)
    have n2 := num_be8 Y (by omega)
    have h0 : b.getD 0 0 = 48 := by rw [← hb]; rfl
    have hc : l.length ≤ 40 := by rw [← hsl]; exact sides_len (by omega) (by rw [show (2 : Nat) ^ 40 = 1099511627776 by decide]; omega)
    have ok : okIncl b := ⟨by omega, h0, by rw [e1, e2, n1, n2]; exact hin, by rw [e1, e2, n1, n2, hsl]; exact hlen⟩
    refine ⟨ok, by omega, ?_⟩
    rw [decAns_ok (by omega) ok, e1, e2, n1, n2, hsl, e3]
    have := chunks_of_flat l [] hd
    rw [List.append_nil] at this
    rw [this]
  · cases h
theorem inclWant_back {q : Text} {x y : Int} {l : List Text} (h : decAns q = (x, y, l, 0)) : inclWant x y l = some q := by
  by_cases h9 : 9000 < q.length
  · rw [decAns_long h9] at h
    injection h with _ h
    injection h with _ h
    injection h with _ h
    cases h
  · by_cases ok : okIncl q
    · rw [decAns_ok h9 ok] at h
      injection h with hx h
      injection h with hy h
      injection h with hl _
      subst hx hy
      obtain ⟨h17, h0, hin, hlen⟩ := ok
      rw [← hl]
      unfold inclWant
      rw [Int.toNat_natCast, Int.toNat_natCast, if_pos ⟨hin, by rw [chunks_len]⟩]
      congr 1
      unfold inclBytes
      rw [be8_num _ (by rw [List.length_take, List.length_drop]; omega), be8_num _ (by rw [List.length_take, List.length_drop]; omega), chunks_flat _ _ (by rw [List.length_drop]; omega)]
      conv => rhs; rw [three h17, h0]
    · rw [decAns_bad h9 ok] at h
      injection h with _ h
      injection h with _ h
      injection h with _ h
      cases h

/-! ### Consistency proofs -/
def okCons (q : Text) : Prop := 17 ≤ q.length ∧ q.getD 0 0 = 49 ∧ joinsB (num ((q.drop 1).take 8)) (num ((q.drop 9).take 8)) = true ∧ q.length = 17 + 32 * (betw (num ((q.drop 1).take 8)) (num ((q.drop 9).take 8)))
theorem okCons_ext {a t : Text} (h : okCons a) (h2 : okCons (a ++ t)) : t = [] := by
  obtain ⟨h17, -, -, hl⟩ := h
  obtain ⟨-, -, -, hl2⟩ := h2
  rw [List.drop_append_of_le_length (by omega), List.drop_append_of_le_length (by omega), List.take_append_of_le_length (by rw [List.length_drop]; omega), List.take_append_of_le_length (by rw [List.length_drop]; omega), List.length_append] at hl2
  exact List.eq_nil_of_length_eq_zero (by omega)
theorem decAnsC_bad {q : Text} (h : ¬ 9000 < q.length) (h2 : ¬ okCons q) : decAnsC q = (0, 0, [], 8) := decAnsC_fail h h2
theorem consWant_cond {x y : Int} {l : List Text} {b : Text} (hd : Digs l) (h : consWant x y l = some b) : okCons b ∧ b.length < 9000 ∧ decAnsC b = (x, y, l, 0) := by
  unfold consWant at h
  split at h
  · rename_i hin
    obtain ⟨hin, hsl⟩ := hin
    have hb := Option.some.inj h
    have hr := joins_tr hin
    obtain ⟨X, rfl⟩ : ∃ X : Nat, x = (X : Int) := ⟨x.toNat, by omega⟩
    obtain ⟨Y, rfl⟩ : ∃ Y : Nat, y = (Y : Int) := ⟨y.toNat, by omega⟩
    simp only [Int.toNat_natCast] at hb hsl
    have hlen : b.length = 17 + 32 * l.length := by rw [← hb]; exact consBytes_len _ _ _ hd
    have hfl := flat32_len l hd
    have e1 : (b.drop 1).take 8 = be8 X := by
      rw [← hb]
      show ((([49] ++ be8 X ++ be8 Y ++ l.flatten)).drop 1).take 8 = _
      rw [List.append_assoc, List.append_assoc, List.drop_left' (by rfl), List.take_left' (be8_len _)]
    have e2 : (b.drop 9).take 8 = be8 Y := by
      rw [← hb]
      show ((([49] ++ be8 X ++ be8 Y ++ l.flatten)).drop 9).take 8 = _
      rw [List.append_assoc, List.drop_left' (by simp [be8_len]), List.take_left' (be8_len _)]
    have e3 : b.drop 17 = l.flatten := by
      rw [← hb]
      show ([49] ++ be8 X ++ be8 Y ++ l.flatten).drop 17 = _
      rw [List.drop_left' (by simp [be8_len])]
    have n1 := num_be8 X (by omega)
    have n2 := num_be8 Y (by omega)
    have h0 : b.getD 0 0 = 49 := by rw [← hb]; rfl
    have hc : l.length ≤ 41 := by rw [← hsl]; exact betw_le (by omega) (by omega)
    have ok : okCons b := ⟨by omega, h0, by rw [e1, e2, n1, n2]; exact hin, by rw [e1, e2, n1, n2, hsl]; exact hlen⟩
    refine ⟨ok, by omega, ?_⟩
    rw [decAnsC_ok (by omega) ok, e1, e2, n1, n2, hsl, e3]
    have := chunks_of_flat l [] hd
    rw [List.append_nil] at this
    rw [this]
  · cases h
theorem consWant_back {q : Text} {x y : Int} {l : List Text} (h : decAnsC q = (x, y, l, 0)) : consWant x y l = some q := by
  by_cases h9 : 9000 < q.length
  · rw [decAnsC_long h9] at h
    injection h with _ h
    injection h with _ h
    injection h with _ h
    cases h
  · by_cases ok : okCons q
    · rw [decAnsC_ok h9 ok] at h
      injection h with hx h
      injection h with hy h
      injection h with hl _
      subst hx hy
      obtain ⟨h17, h0, hin, hlen⟩ := ok
      rw [← hl]
      unfold consWant
      rw [Int.toNat_natCast, Int.toNat_natCast, if_pos ⟨hin, by rw [chunks_len]⟩]
      congr 1
      unfold consBytes
      rw [be8_num _ (by rw [List.length_take, List.length_drop]; omega), be8_num _ (by rw [List.length_take, List.length_drop]; omega), chunks_flat _ _ (by rw [List.length_drop]; omega)]
      conv => rhs; rw [three h17, h0]
    · rw [decAnsC_bad h9 ok] at h
      injection h with _ h
      injection h with _ h
      injection h with _ h
      cases h

/-! ### What an index says -/
theorem ixOk_ext {a t : Text} (h : IdxDec.ixOk a) (h2 : IdxDec.ixOk (a ++ t)) : t = [] := by
  obtain ⟨h0, hf, hl, -⟩ := h
  obtain ⟨-, -, hl2, -⟩ := h2
  have ho := IdxDec.ixO_ge a
  have getD_a : ∀ j, j < a.length → (a ++ t).getD j 0 = a.getD j 0 := fun j hj => by
    rw [List.getD_eq_getElem?_getD, List.getElem?_append_left hj, List.getD_eq_getElem?_getD]
  have eL : IdxDec.ixL (a ++ t) = IdxDec.ixL a := by unfold IdxDec.ixL; rw [getD_a 1 (by omega)]
  have eF : IdxDec.ixF (a ++ t) = IdxDec.ixF a := by unfold IdxDec.ixF; rw [eL, getD_a _ (by omega)]
  have eO : IdxDec.ixO (a ++ t) = IdxDec.ixO a := by unfold IdxDec.ixO; rw [eF, eL]
  have eD : IdxDec.ixD (a ++ t) = IdxDec.ixD a := by
    unfold IdxDec.ixD
    rw [eO, List.drop_append_of_le_length (by omega), List.take_append_of_le_length (by rw [List.length_drop]; omega)]
  have eN : IdxDec.ixN (a ++ t) = IdxDec.ixN a := by unfold IdxDec.ixN; rw [eD]
  rw [eO, eN, List.length_append] at hl2
  exact List.eq_nil_of_length_eq_zero (by omega)
theorem strT_nm (s : ByteArray) : strT (nm s) = s := by
  unfold strT nm
  rw [List.map_map]
  have h : (s.data.toList.map (b8 ∘ fun b : UInt8 => b.toBitVec)) = s.data.toList.map fun b => (b.toNat : Int) := List.map_congr_left fun b _ => rfl
  rw [h]
  unfold strOfNums
  rw [List.map_map]
  have h2 : (s.data.toList.map ((fun n : Int => UInt8.ofNat n.toNat) ∘ fun b : UInt8 => (b.toNat : Int))) = s.data.toList := by
    conv => rhs; rw [← List.map_id s.data.toList]
    refine List.map_congr_left fun b _ => ?_
    simp
  rw [h2]
theorem kb_size {n : Nat} (h : n ≤ 64) : (kb (n : Int)).toNat = n := by
  unfold kb
  rw [BitVec.toNat_ofInt]
  omega
/-- The slices of what is laid down. -/
theorem idx_slices {s : ByteArray} {f : Bool} {cnt : Nat} {ch d : Text} {l : List Text} {b : Text} (hc : cnt ≤ 1099511627776) (hs : s.size ≤ 64) (hch : ch.length = 32) (hd : d.length = 32) (h0 : f = false → cnt = 0 ∧ ch = IdxAny.z32) (hb : idxB s f (cnt : Int) ch d l = b) :
    b.getD 0 0 = 50 ∧ b8 (b.getD (2 + IdxDec.ixL b) 0) ≤ 1 ∧ strT (IdxDec.ixS b) = s ∧ IdxDec.ixF b = f ∧ IdxDec.ixC b = cnt ∧ IdxDec.ixH b = ch ∧ IdxDec.ixD b = d ∧ b.drop (IdxDec.ixO b + 32) = l.flatten ∧ IdxDec.ixO b = (if f = true then 43 else 3) + s.size := by
  obtain ⟨p0, p1, p2⟩ := IdxDec.idxB_parts s f (cnt : Int) ch d l
  rw [hb] at p0 p1 p2
  have eL : IdxDec.ixL b = s.size := by unfold IdxDec.ixL; rw [p1]; exact kb_size hs
  have eF : IdxDec.ixF b = f := by
    unfold IdxDec.ixF
    rw [eL, p2]
    cases f <;> rfl
  have eO : IdxDec.ixO b = (if f = true then 43 else 3) + s.size := by
    unfold IdxDec.ixO
    rw [eF, eL]
    split <;> rfl
  have hn := nm_len s
  have e2 : b.drop 2 = nm s ++ ((if f then [1] ++ be8 cnt ++ ch else [0]) ++ d ++ l.flatten) := by
    rw [← hb]
    show ([50] ++ [kb s.size] ++ nm s ++ (if f then [1] ++ be8 ((cnt : Int)).toNat ++ ch else [0]) ++ d ++ l.flatten).drop 2 = _
    rw [Int.toNat_natCast]
    simp only [List.append_assoc]
    rfl
  have eS : strT (IdxDec.ixS b) = s := by
    unfold IdxDec.ixS
    rw [eL, e2, List.take_left' hn, strT_nm]
  have e3 : b.drop (2 + s.size) = (if f then [1] ++ be8 cnt ++ ch else [0]) ++ d ++ l.flatten := by
    rw [← List.drop_drop, e2, List.drop_left' hn]
  refine ⟨p0, by rw [eL, p2]; cases f <;> decide, eS, eF, ?_, ?_, ?_, ?_, eO⟩
  · unfold IdxDec.ixC
    rw [eF, eL]
    cases f with
    | false => rw [if_neg (by decide)]; exact (h0 rfl).1.symm
    | true =>
      rw [if_pos rfl, show 3 + s.size = (2 + s.size) + 1 by omega, ← List.drop_drop, e3, if_pos rfl]
      rw [List.append_assoc, List.append_assoc, List.append_assoc, List.drop_left' (by rfl), List.take_left' (be8_len _), num_be8 _ (by omega)]
  · unfold IdxDec.ixH
    rw [eF, eL]
    cases f with
    | false => rw [if_neg (by decide)]; exact (h0 rfl).2.symm
    | true =>
      rw [if_pos rfl, show 11 + s.size = (2 + s.size) + 9 by omega, ← List.drop_drop, e3, if_pos rfl]
      rw [List.append_assoc, List.append_assoc, List.drop_left' (by simp [be8_len]), List.take_left' hch]
  · unfold IdxDec.ixD
    rw [eO]
    cases f with
    | false =>
      rw [if_neg (by decide), show 3 + s.size = (2 + s.size) + 1 by omega, ← List.drop_drop, e3, if_neg (by decide), List.append_assoc, List.drop_left' (by rfl), List.take_left' hd]
    | true =>
      rw [if_pos rfl, show 43 + s.size = (2 + s.size) + 41 by omega, ← List.drop_drop, e3, if_pos rfl, List.append_assoc, List.drop_left' (by simp [be8_len, hch]), List.take_left' hd]
  · rw [eO]
    cases f with
    | false =>
      rw [if_neg (by decide), show 3 + s.size + 32 = (2 + s.size) + 33 by omega, ← List.drop_drop, e3, if_neg (by decide), List.drop_left' (by simp [hd])]
    | true =>
      rw [if_pos rfl, show 43 + s.size + 32 = (2 + s.size) + 73 by omega, ← List.drop_drop, e3, if_pos rfl, List.drop_left' (by simp [be8_len, hch, hd])]
theorem idxW_cond {s : ByteArray} {f : Bool} {cnt : Int} {ch d : Text} {l : List Text} {b : Text} (hch : ch.length = 32) (hd : d.length = 32) (hl : Digs l) (hle : l.length ≤ 256) (h : idxWant s f cnt ch d l = some b) : IdxDec.ixOk b ∧ b.length < 9000 ∧ IdxDec.ixAns b = (s, f, cnt, ch, d, l, 0) := by
  unfold idxWant at h
  split at h
  · rename_i hok
    have hb := Option.some.inj h
    have h64 := okIx_64 hok
    have hn := okIx_ones hok
    have hlen := idxB_len (s := s) (f := f) (cnt := cnt) hch hd hl
    rw [hb] at hlen
    have hcc : 0 ≤ cnt ∧ cnt ≤ 1099511627776 ∧ (f = false → cnt = 0 ∧ ch = IdxAny.z32) := by
      unfold okIx okEnt at hok
      simp only [Bool.and_eq_true] at hok
      have h1 := hok.1
      cases f with
      | true => rw [if_pos rfl, decide_eq_true_eq] at h1; exact ⟨by omega, h1.2, fun e => by cases e⟩
      | false => rw [if_neg (by decide), decide_eq_true_eq] at h1; exact ⟨by omega, by omega, fun _ => h1⟩
    obtain ⟨N, rfl⟩ : ∃ N : Nat, cnt = (N : Int) := ⟨cnt.toNat, by omega⟩
    obtain ⟨c0, c1, c2⟩ := hcc
    obtain ⟨p0, p1, eS, eF, eC, eH, eD, eR, eO⟩ := idx_slices (by omega) h64 hch hd (fun e => ⟨by have := (c2 e).1; omega, (c2 e).2⟩) hb
    have eN : IdxDec.ixN b = l.length := by unfold IdxDec.ixN; rw [eD]; exact hn
    have ok : IdxDec.ixOk b := ⟨p0, p1, by rw [eO, eN, hlen]; split <;> omega, by rw [eS, eF, eC, eH, eD, eN]; exact hok⟩
    have h9 : b.length < 9000 := by rw [hlen]; split <;> omega
    refine ⟨ok, h9, ?_⟩
    have := chunks_of_flat l [] hl
    rw [List.append_nil] at this
    rw [IdxDec.ixAns_yes (by omega) ok, eS, eF, eC, eH, eD, eR, eN, this]
  · cases h
theorem got_self {q : Text} (ok : IdxDec.ixOk q) : IdxDec.Got q (IdxDec.ixL q) (IdxDec.ixS q) (IdxDec.ixF q) (IdxDec.ixC q : Int) (IdxDec.ixH q) (IdxDec.ixD q) (chunks (q.drop (IdxDec.ixO q + 32)) (IdxDec.ixN q)) := by
  have hO : (if IdxDec.ixF q = true then 43 + IdxDec.ixL q else 3 + IdxDec.ixL q) = IdxDec.ixO q := rfl
  have hok := ok.2.2.2
  have hlen := ok.2.2.1
  have hge := IdxDec.ixO_ge q
  have hC : IdxDec.ixC q ≤ 1099511627776 := by
    unfold okIx okEnt at hok
    simp only [Bool.and_eq_true] at hok
    have h1 := hok.1
    by_cases hft : IdxDec.ixF q = true
    · rw [if_pos hft, decide_eq_true_eq] at h1; omega
    · unfold IdxDec.ixC; rw [if_neg hft]; omega
  refine ⟨fun _ => rfl, fun _ _ => rfl, fun _ h => by omega, fun _ => rfl, fun hf _ => ?_, fun hf _ => ?_, fun hf => ?_, fun hf => ?_, fun _ => by rw [hO]; rfl, fun _ => by rw [hO]; rfl, ?_, ?_, fun x hx => ?_⟩
  · have e : IdxDec.ixC q = num ((q.drop (3 + IdxDec.ixL q)).take 8) := by unfold IdxDec.ixC; rw [if_pos hf]
    rw [e] at hC
    rw [lgInt_le hC, e]
  · unfold IdxDec.ixH; rw [if_pos hf]
  · unfold IdxDec.ixC; rw [if_neg (by rw [hf]; decide)]; rfl
  · unfold IdxDec.ixH; rw [if_neg (by rw [hf]; decide)]
  · unfold IdxDec.ixH
    split
    · rename_i hf
      have : IdxDec.ixO q = 43 + IdxDec.ixL q := by rw [← hO, if_pos hf]
      rw [List.length_take, List.length_drop]; omega
    · rfl
  · unfold IdxDec.ixD
    rw [List.length_take, List.length_drop]
    omega
  · unfold chunks at hx
    obtain ⟨j, hj, rfl⟩ := List.mem_map.1 hx
    rw [List.mem_range] at hj
    unfold chunk
    rw [List.length_take, List.length_drop, List.length_drop]
    omega
theorem idxW_back {q : Text} {s : ByteArray} {f : Bool} {cnt : Int} {ch d : Text} {l : List Text} (h : IdxDec.ixAns q = (s, f, cnt, ch, d, l, 0)) : idxWant s f cnt ch d l = some q := by
  by_cases h9 : 9000 < q.length
  · rw [IdxDec.ixAns_long h9] at h
    simp [IdxDec.zAns] at h
  · by_cases ok : IdxDec.ixOk q
    · have g := got_self ok
      have hy := IdxDec.ixAns_yes h9 ok
      rw [hy] at h
      injection h with e1 h
      injection h with e2 h
      injection h with e3 h
      injection h with e4 h
      injection h with e5 h
      injection h with e6 _
      rw [← e1, ← e2, ← e3, ← e4, ← e5, ← e6]
      refine Classical.byContradiction fun hne => ?_
      have := IdxDec.read_no h9 g hne
      rw [hy] at this
      simp [IdxDec.zAns] at this
    · rw [IdxDec.ixAns_no h9 ok] at h
      simp [IdxDec.zAns] at h
end Go.Proofs.YtgldkfaiofkhbaaDoor.SpeltP

namespace Go.Proofs.YtgldkfaiofkhbaaDoor.PieceMem
open Go Go.RowKit Go.Proofs.YtgldkfaiofkhbaaDoor Go.Proofs.YtgldkfaiofkhbaaDoor.Mem Go.Proofs.YtgldkfaiofkhbaaDoor.Sha Go.Proofs.YtgldkfaiofkhbaaDoor.Bytes Go.Proofs.YtgldkfaiofkhbaaDoor.Append Go.Proofs.YtgldkfaiofkhbaaDoor.Own Go.Proofs.YtgldkfaiofkhbaaDoor.TreeMem Go.Proofs.YtgldkfaiofkhbaaDoor.Prs Go.Proofs.YtgldkfaiofkhbaaDoor.PieceLay Go.Proofs.YtgldkfaiofkhbaaDoor.HeadMem

/-! ### What lies in a block of another type is apart -/
theorem blk_own {w : World} {g B size n : Nat} {t e : TypeId} {cs : Array Value} {v : Value} {xs : List Value} (hb : Blk w g t cs) (ho : w.ownsRow B e size v n xs) (hne : t ≠ e) : some g ≠ v.ownBlock := fun h => by
  rcases ho.2 with ⟨rfl, -⟩ | ⟨g', cap, cur, rfl, -, h3, -⟩
  · cases h
  · obtain rfl : g = g' := Option.some.inj h
    have h2 : w.heap[g]? = some (.cells cs t (0, 0)) := hb
    rw [h3] at h2
    injection h2 with h2
    injection h2 with _ h2
    exact hne h2.symm
theorem own_own {w : World} {B B' size n size' n' : Nat} {e e' : TypeId} {v v' : Value} {xs xs' : List Value} (h : w.ownsRow B e size v n xs) (h' : w.ownsRow B' e' size' v' n' xs') (hne : e ≠ e') : ∀ k, v.ownBlock = some k → v'.ownBlock ≠ some k := fun k hk => by
  rcases h.2 with ⟨rfl, -⟩ | ⟨g, cap, cur, rfl, -, h3, -⟩
  · cases hk
  · obtain rfl : g = k := Option.some.inj hk
    exact fun e2 => blk_own (g := g) (t := e) (cs := cur) h3 h' hne e2.symm
theorem own_keep {S : Nat → Prop} {w w' : World} {base e size n : Nat} {v : Value} {xs : List Value} (h : w.ownsRow base e size v n xs) (hk : Kept S w w') (hS : ∀ k, v.ownBlock = some k → ¬ S k) : w'.ownsRow base e size v n xs := by
  refine ⟨h.1, h.2.imp id fun ⟨g, cap, cur, h1, h2, h3, h4⟩ => ⟨g, cap, cur, h1, h2, ?_, h4⟩⟩
  rw [hk.block g (Array.getElem?_eq_some_iff.1 h3).1 (hS g (by rw [h1]; rfl)), h3]
theorem grew_kept {w w' : World} {base e size n m : Nat} {v v' : Value} {xs news : List Value} (h : Grew w base e size v n m xs news v' w') : Kept (fun k => some k = v.ownBlock) w w' := ⟨h.grow.os, h.grow.tape, h.grow.output, h.grow.size, fun k hk hne => h.grow.block k hk hne⟩
theorem grew_new {w w' : World} {base e size n m : Nat} {v v' : Value} {xs news : List Value} (h : Grew w base e size v n m xs news v' w') : ∀ k, v'.ownBlock = some k → v.ownBlock = some k ∨ w.heap.size ≤ k := fun k hk => by
  rcases h.at_ with h1 | h1
  · exact .inl (h1.symm.trans hk)
  · rw [h1] at hk
    exact .inr (Nat.le_of_eq (Option.some.inj hk))

/-! ### Texts in a row -/
/-- Each text of a row lies somewhere, apart from the blocks that turn. -/
def Txa (w : World) (X : Nat → Prop) (xs : List Value) (ts : List Text) : Prop := xs.length = ts.length ∧ ∀ (i : Nat) (q : Text), ts[i]? = some q → ∃ A c, xs[i]? = some (.slice A q.length c) ∧ q.length ≤ c ∧ (A = none → q.length = 0 ∧ c = 0) ∧ Reads w 1 A q.length (cells8 q) ∧ ∀ a, A = some a → 0 < q.length → a.block < w.heap.size ∧ ¬ X a.block
theorem Txa.nil_ (w : World) (X : Nat → Prop) : Txa w X [] [] := ⟨rfl, fun i q h => by cases h⟩
theorem Txa.step {w w' : World} {X X' S : Nat → Prop} {xs : List Value} {ts : List Text} (h : Txa w X xs ts) (hk : Kept S w w') (hS : ∀ k, k < w.heap.size → S k → X k) (hX : ∀ k, k < w.heap.size → X' k → X k) : Txa w' X' xs ts := ⟨h.1, fun i q hq => by
  obtain ⟨A, c, a1, a2, a3, a4, a5⟩ := h.2 i q hq
  refine ⟨A, c, a1, a2, a3, a4.kept0 hk (fun h0 b o e hs => (a5 _ e (by omega)).2 (hS b (a5 _ e (by omega)).1 hs)), fun a e h0 => ⟨Nat.lt_of_lt_of_le (a5 a e h0).1 hk.size, fun hx => (a5 a e h0).2 (hX _ (a5 a e h0).1 hx)⟩⟩⟩
theorem Txa.push {w : World} {X : Nat → Prop} {xs : List Value} {ts : List Text} (h : Txa w X xs ts) {A : Option Addr} {c k : Nat} {q : Text} (hk : q.length = k) (hc : k ≤ c) (hn : A = none → k = 0 ∧ c = 0) (hr : Reads w 1 A k (cells8 q)) (ha : ∀ a, A = some a → 0 < k → a.block < w.heap.size ∧ ¬ X a.block) : Txa w X (xs ++ [.slice A k c]) (ts ++ [q]) := by
  subst hk
  refine ⟨by simp [h.1], fun i p hp => ?_⟩
  rcases Nat.lt_or_ge i ts.length with hi | hi
  · rw [List.getElem?_append_left hi] at hp
    obtain ⟨A', c', a1, a2⟩ := h.2 i p hp
    exact ⟨A', c', by rw [List.getElem?_append_left (by have := h.1; omega)]; exact a1, a2⟩
  · rw [List.getElem?_append_right hi] at hp
    have hi0 : i = ts.length := by
      have := (List.getElem?_eq_some_iff.1 hp).1
      simp at this
      omega
    subst hi0
    rw [Nat.sub_self] at hp
    obtain rfl := Option.some.inj hp
    exact ⟨A, c, by rw [← h.1, List.getElem?_append_right (Nat.le_refl _), Nat.sub_self]; rfl, hc, hn, hr, ha⟩
theorem Txa.one {w : World} {X : Nat → Prop} {xs : List Value} {ts : List Text} (h : Txa w X xs ts) : ∀ u ∈ xs, u.oneCell' = true := by
  intro u hu
  obtain ⟨j, hj, rfl⟩ := List.mem_iff_getElem.1 hu
  obtain ⟨A, c, h1, -⟩ := h.2 j _ (List.getElem?_eq_getElem (show j < ts.length by have := h.1; omega))
  rw [List.getElem?_eq_getElem hj] at h1
  rw [Option.some.inj h1]
  rfl
theorem Txa.pieces {w : World} {X : Nat → Prop} {B : Nat} {v : Value} {xs : List Value} {ts : List Text} {n : Nat} (hO : w.ownsRow B 31 1 v n xs) (hx : Txa w X xs ts) : ∃ A c, v = .slice A n c ∧ n ≤ c ∧ (A = none → n = 0 ∧ c = 0) ∧ Pieces w A ts ∧ ts.length = n := by
  obtain ⟨A, c, e, hc, -, hnil, hr, -⟩ := Own.reads hO
  have hl : ts.length = n := by have := hO.1; have := hx.1; omega
  refine ⟨A, c, e, hc, hnil, fun h0 => ?_, hl⟩
  obtain ⟨b, o, e1, hb, hcs⟩ := hr.at_ (by omega)
  refine ⟨b, o, e1, hb, fun i q hq => ?_⟩
  obtain ⟨A', c', a1, a2, a3, a4, -⟩ := hx.2 i q hq
  exact ⟨A', c', hcs i _ a1, a2, a4, a3⟩

/-! ### Proofs in a row -/
def Pra (w : World) (X : Nat → Prop) (ps : List Pr) : Prop := ∀ p ∈ ps, RdD w p.A p.n p.ds ∧ p.n ≤ p.c ∧ ∀ a, p.A = some a → a.block < w.heap.size ∧ ¬ X a.block
theorem Pra.nil_ (w : World) (X : Nat → Prop) : Pra w X [] := fun p h => by cases h
theorem Pra.step {w w' : World} {X X' S : Nat → Prop} {ps : List Pr} (h : Pra w X ps) (hk : Kept S w w') (hS : ∀ k, k < w.heap.size → S k → X k) (hX : ∀ k, k < w.heap.size → X' k → X k) : Pra w' X' ps := fun p hp => by
  obtain ⟨a1, a2, a3⟩ := h p hp
  exact ⟨⟨a1.1, a1.2.1, a1.2.2.kept hk (fun b o e hs => (a3 _ e).2 (hS b (a3 _ e).1 hs))⟩, a2, fun a e => ⟨Nat.lt_of_lt_of_le (a3 a e).1 hk.size, fun hx => (a3 a e).2 (hX _ (a3 a e).1 hx)⟩⟩
theorem Pra.push {w : World} {X : Nat → Prop} {ps : List Pr} (h : Pra w X ps) {p : Pr} (h1 : RdD w p.A p.n p.ds) (h2 : p.n ≤ p.c) (h3 : ∀ a, p.A = some a → a.block < w.heap.size ∧ ¬ X a.block) : Pra w X (ps ++ [p]) := fun x hx => by
  rcases List.mem_append.1 hx with hx | hx
  · exact h x hx
  · obtain rfl := List.mem_singleton.1 hx
    exact ⟨h1, h2, h3⟩
theorem flat_len (ps : List Pr) : (ps.flatMap Pr.cells).length = 3 * ps.length := by
  induction ps with
  | nil => rfl
  | cons p ps ih =>
    rw [List.flatMap_cons, List.length_append, ih, List.length_cons]
    show 3 + _ = _
    omega
theorem Pra.prs {w : World} {X : Nat → Prop} {B : Nat} {v : Value} {ps : List Pr} {n : Nat} (hO : w.ownsRow B 51 3 v n (ps.flatMap Pr.cells)) (hx : Pra w X ps) : ∃ A c, v = .slice A n c ∧ n ≤ c ∧ (A = none → n = 0 ∧ c = 0) ∧ Prs w A ps ∧ ps.length = n := by
  obtain ⟨A, c, e, hc, -, hnil, hr, -⟩ := Own.reads hO
  have hl : ps.length = n := by have := hO.1; rw [flat_len] at this; omega
  exact ⟨A, c, e, hc, hnil, ⟨by rw [hl]; exact hr, fun p hp => ⟨(hx p hp).1, (hx p hp).2.1⟩⟩, hl⟩
theorem flat_snoc (ps : List Pr) (p : Pr) : (ps ++ [p]).flatMap Pr.cells = ps.flatMap Pr.cells ++ p.cells := by rw [List.flatMap_append, List.flatMap_singleton]

/-! ### A piece in a block -/
section
variable {s s' : ByteArray} {F F' : Int} {b b' : Text} {E E' P P' : Value}
theorem pc_set0 : (pieceCells s F b E P).toArray.setIfInBounds 0 (.string s') = (pieceCells s' F b E P).toArray := by
  rw [List.setIfInBounds_toArray]
  rfl
theorem pc_set1 : (pieceCells s F b E P).toArray.setIfInBounds 1 (.int .i64 F') = (pieceCells s F' b E P).toArray := by
  rw [List.setIfInBounds_toArray]
  rfl
theorem pc_setE (hb : b.length = 32) : (pieceCells s F b E P).toArray.setIfInBounds 34 E' = (pieceCells s F b E' P).toArray := by
  rw [List.setIfInBounds_toArray]
  congr 1
  unfold pieceCells
  rw [List.set_append_right _ _ (by simp [cells8_len, hb])]
  simp [cells8_len, hb]
theorem pc_setP (hb : b.length = 32) : (pieceCells s F b E P).toArray.setIfInBounds 35 P' = (pieceCells s F b E P').toArray := by
  rw [List.setIfInBounds_toArray]
  congr 1
  unfold pieceCells
  rw [List.set_append_right _ _ (by simp [cells8_len, hb])]
  simp [cells8_len, hb]
theorem pc_setB (h : b.length = 32) (h' : b'.length = 32) : (((pieceCells s F b E P).toArray.toList.take 2 ++ (cells8 b').toArray.toList ++ (pieceCells s F b E P).toArray.toList.drop (2 + (cells8 b').toArray.size)).toArray : Array Value) = (pieceCells s F b' E P).toArray := by
  have hz : (cells8 b').toArray.size = 32 := by rw [List.size_toArray, cells8_len, h']
  rw [hz]
  congr 1
  have e : pieceCells s F b E P = [Value.string s, Value.int .i64 F] ++ cells8 b ++ [E, P] := rfl
  show (pieceCells s F b E P).take 2 ++ cells8 b' ++ (pieceCells s F b E P).drop (2 + 32) = _
  rw [e]
  have t1 : ([Value.string s, Value.int .i64 F] ++ cells8 b ++ [E, P]).take 2 = [Value.string s, Value.int .i64 F] := by simp
  have t2 : ([Value.string s, Value.int .i64 F] ++ cells8 b ++ [E, P]).drop (2 + 32) = [E, P] := by rw [List.drop_left' (by simp [cells8_len, h])]
  rw [t1, t2]
  rfl
theorem pc_size (hb : b.length = 32) : (pieceCells s F b E P).toArray.size = 36 := by rw [List.size_toArray, pc_len hb]
theorem pc_fit (hb : b.length = 32) : 2 + 32 ≤ (pieceCells s F b E P).toArray.size := by rw [pc_size hb]; omega
theorem cells8_one {t : Text} (v : Value) (hv : v ∈ cells8 t) : v.oneCell' = true := by
  unfold cells8 at hv
  obtain ⟨x, -, rfl⟩ := List.mem_map.1 hv
  rfl
theorem pc_one (hE : E.oneCell' = true) (hP : P.oneCell' = true) : ((pieceCells s F b E P).toArray.all fun v => v.oneCell') = true := by
  rw [List.all_toArray]
  refine List.all_eq_true.2 fun v hv => ?_
  simp only [pieceCells, List.mem_append, List.mem_cons, List.not_mem_nil, or_false] at hv
  rcases hv with ((rfl | rfl) | h) | (rfl | rfl)
  · rfl
  · rfl
  · exact cells8_one v h
  · exact hE
  · exact hP
theorem pc_info (hb : b.length = 32) : (Tryd.prog.info? 83).map (·.size) = some (pieceCells s F b E P).toArray.size := by rw [pc_size hb]; exact size36
end
/-- The zero api.Piece. -/
def zP : Array Value := (pieceCells ByteArray.empty 0 (List.replicate 32 0) (.slice none 0 0) (.slice none 0 0)).toArray
theorem zP_size : (Tryd.prog.info? 83).map (·.size) = some zP.size := pc_info rfl
theorem zP_one : (zP.all fun v => v.oneCell') = true := pc_one rfl rfl

/-- An answer, as it lies in memory. -/
def PPost (w : World) (X : PieceRead.Ans) (e : Ending) (w' : World) : Prop :=
  ∃ (A : Option Addr) (n c : Nat) (A2 : Option Addr) (c2 : Nat) (ps : List Pr), e = .returned (.tuple #[.agg (pieceCells X.s X.F X.b (.slice A n c) (.slice A2 n c2)).toArray, .int .i64 X.err]) ∧ X.rows.length = n ∧ PieceRead.PsOf X.Z X.rows ps ∧ Pieces w' A (X.rows.map (·.e)) ∧ Prs w' A2 ps ∧ Below w.heap.size w w'
theorem zpost {w w' : World} {en : Int} {e : Ending} (he : e = .returned (.tuple #[.agg zP, .int .i64 en])) (hb : Below w.heap.size w w') : PPost w (PieceRead.zAns en) e w' :=
  ⟨none, 0, 0, none, 0, [], he, rfl, rfl, fun h => absurd h (by simp [PieceRead.zAns]), ⟨Reads.nil_ _ _ _, fun p h => by cases h⟩, hb⟩
end Go.Proofs.YtgldkfaiofkhbaaDoor.PieceMem

namespace Go.Proofs.YtgldkfaiofkhbaaDoor.PieceMem2
open Go Go.RowKit Go.Proofs.YtgldkfaiofkhbaaDoor Go.Proofs.YtgldkfaiofkhbaaDoor.Mem Go.Proofs.YtgldkfaiofkhbaaDoor.Sha Go.Proofs.YtgldkfaiofkhbaaDoor.Bytes Go.Proofs.YtgldkfaiofkhbaaDoor.Append Go.Proofs.YtgldkfaiofkhbaaDoor.Own Go.Proofs.YtgldkfaiofkhbaaDoor.TreeMem Go.Proofs.YtgldkfaiofkhbaaDoor.Prs Go.Proofs.YtgldkfaiofkhbaaDoor.PieceLay Go.Proofs.YtgldkfaiofkhbaaDoor.HeadMem Go.Proofs.YtgldkfaiofkhbaaDoor.PieceMem

/-- The blocks that turn: all below a base, some others, and the two rows'. -/
def XB (B : Nat) (Y : Nat → Prop) (E P : Value) (k : Nat) : Prop := k < B ∨ Y k ∨ some k = E.ownBlock ∨ some k = P.ownBlock
structure Pk (w0 W : World) (R B gp : Nat) (cs : Array Value) (E P : Value) (i j : Nat) (xs : List Value) (ts : List Text) (ps : List Pr) (X : Nat → Prop) : Prop where
  bk : Blk W gp 83 cs
  rs : Blk W R 83 zP
  oe : W.ownsRow B 31 1 E i xs
  op : W.ownsRow B 51 3 P j (ps.flatMap Pr.cells)
  tx : Txa W X xs ts
  pa : Pra W X ps
  be : Below R w0 W
theorem below_kept {S : Nat → Prop} {R : Nat} {w0 W W' : World} (h : Below R w0 W) (hk : Kept S W W') (hS : ∀ k, k < W.heap.size → S k → R ≤ k) (hR : R ≤ W.heap.size) : Below R w0 W' :=
  h.trans ⟨hk.os, hk.tape, hk.output, hk.size, fun k hlt => hk.block k (by omega) (fun hs => by have := hS k (by omega) hs; omega)⟩
section
variable {w0 W W' : World} {R B gp : Nat} {cs : Array Value} {E P : Value} {i j : Nat} {xs : List Value} {ts : List Text} {ps : List Pr} {X X' : Nat → Prop}
theorem Pk.kept {S : Nat → Prop} (h : Pk w0 W R B gp cs E P i j xs ts ps X) (hk : Kept S W W') (hS : ∀ k, k < W.heap.size → S k → R < k ∧ k ≠ gp ∧ some k ≠ E.ownBlock ∧ some k ≠ P.ownBlock ∧ X k) : Pk w0 W' R B gp cs E P i j xs ts ps X :=
  ⟨h.bk.kept hk (fun s => (hS _ h.bk.lt s).2.1 rfl), h.rs.kept hk (fun s => by have := (hS _ h.rs.lt s).1; omega), own_keep h.oe hk (fun k e s => (hS k (h.oe.lt k e).2 s).2.2.1 e.symm), own_keep h.op hk (fun k e s => (hS k (h.op.lt k e).2 s).2.2.2.1 e.symm),
   h.tx.step hk (fun k hl s => (hS k hl s).2.2.2.2) (fun _ _ x => x), h.pa.step hk (fun k hl s => (hS k hl s).2.2.2.2) (fun _ _ x => x), below_kept h.be hk (fun k hl s => by have := (hS k hl s).1; omega) (Nat.le_of_lt h.rs.lt)⟩
theorem Pk.weak (h : Pk w0 W R B gp cs E P i j xs ts ps X) (hX : ∀ k, k < W.heap.size → X' k → X k) : Pk w0 W R B gp cs E P i j xs ts ps X' :=
  ⟨h.bk, h.rs, h.oe, h.op, h.tx.step (S := fun _ => False) (Kept.refl _ _) (fun _ _ s => s.elim) hX, h.pa.step (S := fun _ => False) (Kept.refl _ _) (fun _ _ s => s.elim) hX, h.be⟩
theorem Pk.below (h : Pk w0 W R B gp cs E P i j xs ts ps X) (hb : Below W.heap.size W W') : Pk w0 W' R B gp cs E P i j xs ts ps X := h.kept (S := fun _ => False) (Kept.of_below hb) (fun _ _ s => s.elim)
theorem Pk.alloc (h : Pk w0 W R B gp cs E P i j xs ts ps X) (o : Obj) : Pk w0 (W.alloc o) R B gp cs E P i j xs ts ps X := h.below (Below.heap_below W o)
/-- A store into a field. -/
theorem Pk.set_ (h : Pk w0 W R B gp cs E P i j xs ts ps X) (hRg : R < gp) (hX : X gp) (f : Nat) (u : Value) (cs' : Array Value) (hcs : cs.setIfInBounds f u = cs') : Pk w0 (W.setCell ⟨gp, f, none⟩ u) R B gp cs' E P i j xs ts ps X := by
  have hk : Kept (· = gp) W (W.setCell ⟨gp, f, none⟩ u) := (Kept.refl (· = gp) W).setCell (.inl rfl) _
  refine ⟨by rw [← hcs]; exact h.bk.set_ f u, h.rs.kept hk (by omega), own_keep h.oe hk (fun k e s => ?_), own_keep h.op hk (fun k e s => ?_), h.tx.step hk (fun k _ s => by rw [s]; exact hX) (fun _ _ x => x), h.pa.step hk (fun k _ s => by rw [s]; exact hX) (fun _ _ x => x), below_kept h.be hk (fun k _ s => by rw [s]; omega) (Nat.le_of_lt h.rs.lt)⟩
  · exact blk_own h.bk h.oe (by decide) (by rw [e, s])
  · exact blk_own h.bk h.op (by decide) (by rw [e, s])
end
section
variable {w0 W W2 : World} {R B gp : Nat} {s : ByteArray} {F : Int} {b : Text} {E P E' P' : Value} {i j : Nat} {xs : List Value} {ts : List Text} {ps : List Pr} {Y : Nat → Prop}
/-- A text more. -/
theorem Pk.pushE (h : Pk w0 W R B gp (pieceCells s F b E P).toArray E P i j xs ts ps (XB B Y E P)) (hb : b.length = 32) (hRg : R < gp) (hgB : gp < B) {A : Option Addr} {c k : Nat} {q : Text} (hk : q.length = k) (hc : k ≤ c) (hn : A = none → k = 0 ∧ c = 0) (hr : Reads W 1 A k (cells8 q)) (ha : ∀ a, A = some a → 0 < k → a.block < W.heap.size ∧ ¬ XB B Y E P a.block)
    (hG : Grew (W.alloc (.cells #[.slice A k c] 31)) B 31 1 E i 1 xs [.slice A k c] E' W2) :
    Pk w0 (W2.setCell ⟨gp, 34, none⟩ E') R B gp (pieceCells s F b E' P).toArray E' P (i + 1) j (xs ++ [.slice A k c]) (ts ++ [q]) ps (XB B Y E' P) ∧ Kept (fun k => some k = E.ownBlock ∨ k = gp) W (W2.setCell ⟨gp, 34, none⟩ E') ∧ W.heap.size < W2.heap.size ∧ (∀ k, E'.ownBlock = some k → E.ownBlock = some k ∨ W.heap.size ≤ k) ∧ Blk W2 gp 83 (pieceCells s F b E P).toArray := by
  have K1 : Kept (fun k => some k = E.ownBlock) W W2 := ((Kept.refl (fun k => some k = E.ownBlock) W).alloc _).trans (grew_kept hG) (fun _ _ x => x)
  have K2 : Kept (fun k => some k = E.ownBlock ∨ k = gp) W (W2.setCell ⟨gp, 34, none⟩ E') := (K1.mono (fun _ _ x => .inl x)).setCell (.inl (.inr rfl)) _
  have hsz : W.heap.size < W2.heap.size := by have := hG.grow.size; simp at this; omega
  have hge : some gp ≠ E.ownBlock := blk_own h.bk h.oe (by decide)
  have hbk2 : Blk W2 gp 83 (pieceCells s F b E P).toArray := h.bk.kept K1 hge
  have hge' : some gp ≠ E'.ownBlock := blk_own hbk2 hG.own (by decide)
  have hnew : ∀ k, E'.ownBlock = some k → E.ownBlock = some k ∨ W.heap.size ≤ k := fun k e => by
    rcases grew_new hG k e with h1 | h1
    · exact .inl h1
    · simp at h1; exact .inr (by omega)
  have hSX : ∀ k, k < W.heap.size → (some k = E.ownBlock ∨ k = gp) → XB B Y E P k := fun k _ hs => by
    rcases hs with hs | hs
    · exact .inr (.inr (.inl hs))
    · exact .inl (by omega)
  have hXX : ∀ k, k < W.heap.size → XB B Y E' P k → XB B Y E P k := fun k hl hx => by
    rcases hx with hx | hx | hx | hx
    · exact .inl hx
    · exact .inr (.inl hx)
    · rcases hnew k hx.symm with h1 | h1
      · exact .inr (.inr (.inl h1.symm))
      · omega
    · exact .inr (.inr (.inr hx))
  have hsz3 : W2.heap.size = (W2.setCell ⟨gp, 34, none⟩ E').heap.size := by simp
  refine ⟨⟨?_, h.rs.kept K2 ?_, ?_, ?_, ?_, h.pa.step K2 hSX hXX, ?_⟩, K2, hsz, hnew, hbk2⟩
  · have := hbk2.set_ 34 E'
    rw [pc_setE hb] at this
    exact this
  · rintro (hs | hs)
    · exact blk_own h.rs h.oe (by decide) hs
    · omega
  · exact own_keep hG.own ((Kept.refl (· = gp) W2).setCell (.inl rfl) _) (fun k e hs => hge' (by rw [e, hs]))
  · refine own_keep h.op K2 (fun k e hs => ?_)
    rcases hs with hs | hs
    · exact own_own h.op h.oe (by decide) k e hs.symm
    · exact blk_own h.bk h.op (by decide) (by rw [e, hs])
  · refine (h.tx.step K2 hSX hXX).push hk hc hn (hr.kept0 K2 (fun h0 b o e hs => (ha _ e (by omega)).2 (hSX b (ha _ e (by omega)).1 hs))) (fun a e h0 => ⟨by have := (ha a e h0).1; rw [← hsz3]; omega, fun hx => (ha a e h0).2 (hXX _ (ha a e h0).1 hx)⟩)
  · refine below_kept h.be K2 (fun k hl hs => ?_) (Nat.le_of_lt h.rs.lt)
    rcases hs with hs | hs
    · have := (h.oe.lt k hs.symm).1; omega
    · omega
/-- A proof more. -/
theorem Pk.pushP (h : Pk w0 W R B gp (pieceCells s F b E P).toArray E P i j xs ts ps (XB B Y E P)) (hb : b.length = 32) (hRg : R < gp) (hgB : gp < B) (p : Pr) (h1 : RdD W p.A p.n p.ds) (h2 : p.n ≤ p.c) (ha : ∀ a, p.A = some a → a.block < W.heap.size ∧ ¬ XB B Y E P a.block)
    (hG : Grew (W.alloc (.cells p.cells.toArray 51)) B 51 3 P j 1 (ps.flatMap Pr.cells) p.cells P' W2) :
    Pk w0 (W2.setCell ⟨gp, 35, none⟩ P') R B gp (pieceCells s F b E P').toArray E P' i (j + 1) xs ts (ps ++ [p]) (XB B Y E P') ∧ Kept (fun k => some k = P.ownBlock ∨ k = gp) W (W2.setCell ⟨gp, 35, none⟩ P') ∧ W.heap.size < W2.heap.size ∧ (∀ k, P'.ownBlock = some k → P.ownBlock = some k ∨ W.heap.size ≤ k) ∧ Blk W2 gp 83 (pieceCells s F b E P).toArray := by
  have K1 : Kept (fun k => some k = P.ownBlock) W W2 := ((Kept.refl (fun k => some k = P.ownBlock) W).alloc _).trans (grew_kept hG) (fun _ _ x => x)
  have K2 : Kept (fun k => some k = P.ownBlock ∨ k = gp) W (W2.setCell ⟨gp, 35, none⟩ P') := (K1.mono (fun _ _ x => .inl x)).setCell (.inl (.inr rfl)) _
  have hsz : W.heap.size < W2.heap.size := by have := hG.grow.size; simp at this; omega
  have hge : some gp ≠ P.ownBlock := blk_own h.bk h.op (by decide)
  have hbk2 : Blk W2 gp 83 (pieceCells s F b E P).toArray := h.bk.kept K1 hge
  have hge' : some gp ≠ P'.ownBlock := blk_own hbk2 hG.own (by decide)
  have hnew : ∀ k, P'.ownBlock = some k → P.ownBlock = some k ∨ W.heap.size ≤ k := fun k e => by
    rcases grew_new hG k e with h1 | h1
    · exact .inl h1
    · simp at h1; exact .inr (by omega)
  have hSX : ∀ k, k < W.heap.size → (some k = P.ownBlock ∨ k = gp) → XB B Y E P k := fun k _ hs => by
    rcases hs with hs | hs
    · exact .inr (.inr (.inr hs))
    · exact .inl (by omega)
  have hXX : ∀ k, k < W.heap.size → XB B Y E P' k → XB B Y E P k := fun k hl hx => by
    rcases hx with hx | hx | hx | hx
    · exact .inl hx
    · exact .inr (.inl hx)
    · exact .inr (.inr (.inl hx))
    · rcases hnew k hx.symm with h1 | h1
      · exact .inr (.inr (.inr h1.symm))
      · omega
  have hsz3 : W2.heap.size = (W2.setCell ⟨gp, 35, none⟩ P').heap.size := by simp
  refine ⟨⟨?_, h.rs.kept K2 ?_, ?_, ?_, h.tx.step K2 hSX hXX, ?_, ?_⟩, K2, hsz, hnew, hbk2⟩
  · have := hbk2.set_ 35 P'
    rw [pc_setP hb] at this
    exact this
  · rintro (hs | hs)
    · exact blk_own h.rs h.op (by decide) hs
    · omega
  · refine own_keep h.oe K2 (fun k e hs => ?_)
    rcases hs with hs | hs
    · exact own_own h.oe h.op (by decide) k e hs.symm
    · exact blk_own h.bk h.oe (by decide) (by rw [e, hs])
  · rw [flat_snoc]
    exact own_keep hG.own ((Kept.refl (· = gp) W2).setCell (.inl rfl) _) (fun k e hs => hge' (by rw [e, hs]))
  · exact (h.pa.step K2 hSX hXX).push ⟨h1.1, h1.2.1, h1.2.2.kept K2 (fun b o e hs => (ha _ e).2 (hSX b (ha _ e).1 hs))⟩ h2 (fun a e => ⟨by have := (ha a e).1; rw [← hsz3]; omega, fun hx => (ha a e).2 (hXX _ (ha a e).1 hx)⟩)
  · refine below_kept h.be K2 (fun k hl hs => ?_) (Nat.le_of_lt h.rs.lt)
    rcases hs with hs | hs
    · have := (h.op.lt k hs.symm).1; omega
    · omega
end
section
variable {w0 W W' : World} {R B gp g : Nat} {cs : Array Value} {E P : Value} {i j : Nat} {xs : List Value} {ts : List Text} {ps : List Pr} {Y : Nat → Prop}
/-- A block below the base has turned. -/
theorem Pk.keptG (h : Pk w0 W R B gp cs E P i j xs ts ps (XB B Y E P)) (hk : Kept (· = g) W W') (h1 : R < g) (h2 : g ≠ gp) (h3 : g < B) : Pk w0 W' R B gp cs E P i j xs ts ps (XB B Y E P) :=
  h.kept hk (fun k _ s => by
    have s : k = g := s
    subst s
    exact ⟨h1, h2, fun e => by have := (h.oe.lt k e.symm).1; omega, fun e => by have := (h.op.lt k e.symm).1; omega, .inl h3⟩)
/-- All blocks that turn lie in the world. -/
theorem Pk.lt (h : Pk w0 W R B gp cs E P i j xs ts ps (XB B Y E P)) (hB : B ≤ W.heap.size) (hY : ∀ k, Y k → k < W.heap.size) : ∀ k, XB B Y E P k → k < W.heap.size := fun k hx => by
  rcases hx with hx | hx | hx | hx
  · omega
  · exact hY k hx
  · exact (h.oe.lt k hx.symm).2
  · exact (h.op.lt k hx.symm).2
end
end Go.Proofs.YtgldkfaiofkhbaaDoor.PieceMem2

namespace Go.Proofs.YtgldkfaiofkhbaaDoor.DecPieceM
open Go Go.RowKit Go.Proofs.YtgldkfaiofkhbaaDoor Go.Proofs.YtgldkfaiofkhbaaDoor.Mem Go.Proofs.YtgldkfaiofkhbaaDoor.Sha Go.Proofs.YtgldkfaiofkhbaaDoor.Bytes Go.Proofs.YtgldkfaiofkhbaaDoor.Append Go.Proofs.YtgldkfaiofkhbaaDoor.TreeMem Go.Proofs.YtgldkfaiofkhbaaDoor.Reader Go.Proofs.YtgldkfaiofkhbaaDoor.Reader2 Go.Proofs.YtgldkfaiofkhbaaDoor.Reader3 Go.Proofs.YtgldkfaiofkhbaaDoor.Reader4 Go.Proofs.YtgldkfaiofkhbaaDoor.DecIncl Go.Proofs.YtgldkfaiofkhbaaDoor.ProofBeside Go.Proofs.YtgldkfaiofkhbaaDoor.PieceB Go.Proofs.YtgldkfaiofkhbaaDoor.Prs Go.Proofs.YtgldkfaiofkhbaaDoor.PieceLay Go.Proofs.YtgldkfaiofkhbaaDoor.PieceRead Go.Proofs.YtgldkfaiofkhbaaDoor.PieceMem Go.Proofs.YtgldkfaiofkhbaaDoor.PieceMem2 Go.Proofs.YtgldkfaiofkhbaaDoor.OctetBytes

/-- How many digests lie ahead of the j-th row's. -/
def low (ks : List Nat) (j : Nat) : Nat := (ks.take j).sum
theorem low_zero (ks : List Nat) : low ks 0 = 0 := rfl
theorem low_succ {ks : List Nat} {j k : Nat} (h : ks[j]? = some k) : low ks (j + 1) = low ks j + k := by
  unfold low
  rw [List.take_add_one, h, Option.toList_some, List.sum_append]
  simp
theorem low_le (ks : List Nat) : ∀ j, low ks j ≤ ks.sum := fun j => by
  have := congrArg List.sum (List.take_append_drop j ks)
  rw [List.sum_append] at this
  unfold low
  omega
/-- The ends, as cells. -/
def endsL (ks : List Nat) : List Value := (List.range ks.length).map (fun j => Value.int .i64 (low ks (j + 1) : Int))
theorem endsL_at {ks : List Nat} {j : Nat} (h : j < ks.length) : (endsL ks)[j]? = some (.int .i64 (low ks (j + 1) : Int)) := by
  unfold endsL
  rw [List.getElem?_map, List.getElem?_range h]
  rfl
theorem endsL_snoc (ks : List Nat) (k : Nat) : endsL (ks ++ [k]) = endsL ks ++ [.int .i64 ((ks.sum + k : Nat) : Int)] := by
  unfold endsL
  rw [List.length_append, List.length_singleton, List.range_succ, List.map_append, List.map_singleton]
  congr 1
  · apply List.map_congr_left
    intro j hj
    rw [List.mem_range] at hj
    unfold low
    rw [List.take_append_of_le_length (by omega)]
  · unfold low
    rw [List.take_of_length_le (by simp), List.sum_append]
    simp
/-- A proof without its way. -/
def pr0 (Z y : Int) : Pr := ⟨Z, y, [], none, 0, 0⟩
/-- Where a way begins in the row of all. -/
def at3 (A : Option Addr) (l m : Nat) : Option Addr := if m = l then A else A.map (·.add (l * 32))
/-- The j-th proof, its way cut out of the row of all. -/
def prAt (Z : Int) (ys : List Int) (ks : List Nat) (dl : List Text) (A : Option Addr) (j : Nat) : Pr :=
  ⟨Z, ys.getD j 0, (dl.drop (low ks j)).take (ks.getD j 0), at3 A (low ks j) (low ks (j + 1)), ks.getD j 0, ks.getD j 0⟩
def prs (Z : Int) (ys : List Int) (ks : List Nat) (dl : List Text) (A : Option Addr) : List Pr := (List.range ks.length).map (prAt Z ys ks dl A)
theorem prs_len (Z : Int) (ys : List Int) (ks : List Nat) (dl : List Text) (A : Option Addr) : (prs Z ys ks dl A).length = ks.length := by simp [prs]
theorem prs_at {Z : Int} {ys : List Int} {ks : List Nat} {dl : List Text} {A : Option Addr} {j : Nat} (h : j < ks.length) : (prs Z ys ks dl A)[j]? = some (prAt Z ys ks dl A j) := by
  unfold prs
  rw [List.getElem?_map, List.getElem?_range h]
  rfl
/-- A part of a row of digests. -/
theorem rd_part {w : World} {A : Option Addr} {t : Nat} {dl : List Text} (h : RdD w A t dl) {l k : Nat} (hk : l + k ≤ t) : RdD w (at3 A l (l + k)) k ((dl.drop l).take k) := by
  have hl := h.1
  refine ⟨by rw [List.length_take, List.length_drop]; omega, (h.2.1.drop_ l).take_ k, ?_⟩
  refine ⟨by rw [flatMap_len _ ((h.2.1.drop_ l).take_ k), List.length_take, List.length_drop]; congr 1; omega, fun h0 => ?_⟩
  obtain ⟨b, o, e, hb, hcs⟩ := h.2.2.2 (by omega)
  subst e
  refine ⟨b, o + l * 32, by unfold at3; rw [if_neg (by omega), Option.map_some, add_at], hb, fun j u hu => ?_⟩
  rw [Nat.add_assoc]
  apply hcs
  rw [← flatMap_take _ k (h.2.1.drop_ l), ← flatMap_drop dl l h.2.1, List.getElem?_take] at hu
  by_cases hj : j < k * 32
  · rw [if_pos hj, List.getElem?_drop] at hu
    exact hu
  · rw [if_neg hj] at hu
    cases hu
theorem run_midD {A : Option Addr} {n c l h : Nat} (h1 : l ≤ h) (h2 : h ≤ c) (x y z : Int) (hx : x = l) (hy : y = h) (hz : z = h) (w : World) :
    (Instr.sliceAt 42 (.slice A n c) (some (.int .i64 x)) (some (.int .i64 y)) (some (.int .i64 z))).run Tryd.prog w = .ok (.slice (at3 A l h) (h - l) (h - l)) w := by
  subst hx hy hz
  rw [run_sliceAt_slice w _ _ _ _ _ undD, run_slice_lhm w _ A n c undD .i64 .i64 .i64 (l : Int) (h : Int) (h : Int) (by omega) (by omega) (by omega) (by omega), size32s]
  simp [Result.andThen, sliced, at3]
theorem prs_rd {w : World} {A : Option Addr} {t : Nat} {dl : List Text} {Z : Int} {ys : List Int} {ks : List Nat} (h : RdD w A t dl) (ht : ks.sum = t) : ∀ p ∈ prs Z ys ks dl A, RdD w p.A p.n p.ds ∧ p.n ≤ p.c := fun p hp => by
  obtain ⟨j, hj, rfl⟩ := List.mem_map.1 hp
  rw [List.mem_range] at hj
  have hk : ks[j]? = some (ks.getD j 0) := by rw [List.getD_eq_getElem?_getD, List.getElem?_eq_getElem hj]; rfl
  have e := low_succ hk
  have h2 := low_le ks (j + 1)
  refine ⟨?_, Nat.le_refl _⟩
  show RdD w (at3 A (low ks j) (low ks (j + 1))) (ks.getD j 0) ((dl.drop (low ks j)).take (ks.getD j 0))
  rw [e]
  exact rd_part h (by omega)
/-- The cells of a row of proofs, one by one. -/
theorem flat_back (ps : List Pr) (j : Nat) (u : Value) (h : (ps.flatMap Pr.cells)[j]? = some u) : ∃ p, ps[j / 3]? = some p ∧ p.cells[j % 3]? = some u := by
  have hl : j < 3 * ps.length := by rw [← flat_len]; exact (List.getElem?_eq_some_iff.1 h).1
  have hi : j / 3 < ps.length := by omega
  refine ⟨ps[j / 3], List.getElem?_eq_getElem hi, ?_⟩
  rw [← flat_at ps (j / 3) _ (j % 3) (List.getElem?_eq_getElem hi) (by omega), show 3 * (j / 3) + j % 3 = j by omega]
  exact h
/-- The row of proofs while the ways are laid in. -/
def RowP (w : World) (g n j : Nat) (f0 f1 : Nat → Pr) : Prop := ∃ cur : Array Value, Blk w g 51 cur ∧ ∀ r, r < n → ∀ i u, (if r < j then f1 r else f0 r).cells[i]? = some u → cur[3 * r + i]? = some u
theorem RowP.cell {w : World} {g n j : Nat} {f0 f1 : Nat → Pr} (h : RowP w g n j f0 f1) {r i : Nat} {u : Value} (hr : r < n) (hu : (if r < j then f1 r else f0 r).cells[i]? = some u) : w.cell? ⟨g, 3 * r + i, none⟩ = some u := by
  obtain ⟨cur, hb, hc⟩ := h
  rw [hb.cell]
  exact hc r hr i u hu
theorem RowP.lt {w : World} {g n j : Nat} {f0 f1 : Nat → Pr} (h : RowP w g n j f0 f1) : g < w.heap.size := by obtain ⟨cur, hb, -⟩ := h; exact hb.lt
theorem RowP.frozen {w : World} {g n j : Nat} {f0 f1 : Nat → Pr} (h : RowP w g n j f0 f1) (i : Nat) : w.frozen? ⟨g, i, none⟩ = false := by obtain ⟨cur, hb, -⟩ := h; exact hb.frozen i
theorem RowP.kept {S : Nat → Prop} {w w' : World} {g n j : Nat} {f0 f1 : Nat → Pr} (h : RowP w g n j f0 f1) (hk : Kept S w w') (hS : ¬ S g) : RowP w' g n j f0 f1 := by
  obtain ⟨cur, hb, hc⟩ := h
  exact ⟨cur, hb.kept hk hS, hc⟩
theorem RowP.step {w : World} {g n j : Nat} {f0 f1 : Nat → Pr} (h : RowP w g n j f0 f1) (hj : j < n) (h0 : (f1 j).x = (f0 j).x) (h1 : (f1 j).y = (f0 j).y) : RowP (w.setCell ⟨g, 3 * j + 2, none⟩ (.slice (f1 j).A (f1 j).n (f1 j).c)) g n (j + 1) f0 f1 := by
  obtain ⟨cur, hb, hc⟩ := h
  refine ⟨_, hb.set_ _ _, fun r hr i u hu => ?_⟩
  have hi : i < 3 := by
    have := (List.getElem?_eq_some_iff.1 hu).1
    exact this
  have hin : 3 * j + 2 < cur.size := by
    have := hc j hj 2 (.slice (f0 j).A (f0 j).n (f0 j).c) (by rw [if_neg (by omega)]; rfl)
    exact (Array.getElem?_eq_some_iff.1 this).1
  by_cases hrj : r = j
  · subst hrj
    rw [if_pos (by omega)] at hu
    by_cases h2 : i = 2
    · subst h2
      rw [Array.getElem?_setIfInBounds_self_of_lt hin]
      exact hu
    · rw [Array.getElem?_setIfInBounds_ne (by omega)]
      refine hc r hr i u ?_
      rw [if_neg (by omega)]
      rw [← hu]
      rcases (show i = 0 ∨ i = 1 by omega) with rfl | rfl
      · show some (Value.int .i64 (f0 r).x) = some (Value.int .i64 (f1 r).x)
        rw [h0]
      · show some (Value.int .i64 (f0 r).y) = some (Value.int .i64 (f1 r).y)
        rw [h1]
  · rw [Array.getElem?_setIfInBounds_ne (by omega)]
    refine hc r hr i u ?_
    by_cases hlt : r < j
    · rw [if_pos (by omega)] at hu
      rw [if_pos hlt]
      exact hu
    · rw [if_neg (by omega)] at hu
      rw [if_neg hlt]
      exact hu
theorem RowP.first {w : World} {g B n cap : Nat} {ps : List Pr} (f0 f1 : Nat → Pr) (h : w.ownsRow B 51 3 (.slice (some ⟨g, 0, none⟩) n cap) n (ps.flatMap Pr.cells)) (hf : ∀ r, r < n → ps[r]? = some (f0 r)) : RowP w g n 0 f0 f1 := by
  rcases h.2 with ⟨e, -⟩ | ⟨g', cap', cur, e, -, h3, -, -, -, h7⟩
  · cases e
  · injection e with e _ _
    injection e with e
    injection e with e
    subst e
    refine ⟨cur, h3, fun r hr i u hu => ?_⟩
    rw [if_neg (Nat.not_lt_zero _)] at hu
    have hi : i < 3 := (List.getElem?_eq_some_iff.1 hu).1
    have e2 := flat_at ps r (f0 r) i (hf r hr) hi
    rw [← h7, List.getElem?_take] at e2
    rw [if_pos (by omega), hu, Array.getElem?_toList] at e2
    exact e2
theorem RowP.reads {w : World} {g n : Nat} {ps : List Pr} {f0 f1 : Nat → Pr} (h : RowP w g n n f0 f1) (hl : ps.length = n) (hf : ∀ r, r < n → ps[r]? = some (f1 r)) : Reads w 3 (some ⟨g, 0, none⟩) n (ps.flatMap Pr.cells) := by
  obtain ⟨cur, hb, hc⟩ := h
  refine ⟨by rw [flat_len, hl]; omega, fun _ => ⟨g, 0, rfl, hb.lt, fun j u hu => ?_⟩⟩
  have hj : j < 3 * n := by rw [← hl, ← flat_len]; exact (List.getElem?_eq_some_iff.1 hu).1
  obtain ⟨p, hp, hpu⟩ := flat_back ps j u hu
  rw [hf _ (by omega)] at hp
  obtain rfl := Option.some.inj hp
  rw [Nat.zero_add, hb.cell]
  have := hc (j / 3) (by omega) (j % 3) u (by rw [if_pos (by omega)]; exact hpu)
  rwa [show 3 * (j / 3) + j % 3 = j by omega] at this
/-- The rows' ways lie one behind the other. -/
theorem flat_cut : ∀ (rows : List Row) (j : Nat) (r : Row), rows[j]? = some r → ((rows.flatMap (·.ds)).drop (low (rows.map (·.ds.length)) j)).take r.ds.length = r.ds
  | [], _, _, h => by cases h
  | x :: rows, 0, r, h => by
    obtain rfl := Option.some.inj h
    rw [low_zero, List.drop_zero, List.flatMap_cons, List.take_left]
  | x :: rows, j + 1, r, h => by
    have e : low ((x :: rows).map (·.ds.length)) (j + 1) = x.ds.length + low (rows.map (·.ds.length)) j := by
      unfold low
      rw [List.map_cons, List.take_succ_cons, List.sum_cons]
    rw [e, List.flatMap_cons, ← List.drop_drop, List.drop_left]
    exact flat_cut rows j r h
theorem prs_of (Z : Int) (rows : List Row) (A : Option Addr) : PsOf Z rows (prs Z (rows.map fun r => (r.y : Int)) (rows.map (·.ds.length)) (rows.flatMap (·.ds)) A) := by
  unfold PsOf
  apply List.ext_getElem?
  intro j
  rw [List.getElem?_map, List.getElem?_map]
  by_cases hj : j < rows.length
  · have hr : rows[j]? = some rows[j] := List.getElem?_eq_getElem hj
    rw [prs_at (by simpa using hj), hr]
    simp only [Option.map_some, prAt, Option.some.injEq, Prod.mk.injEq]
    have e1 : (rows.map fun r => (r.y : Int)).getD j 0 = (rows[j].y : Int) := by rw [List.getD_eq_getElem?_getD, List.getElem?_map, hr]; rfl
    have e2 : (rows.map (·.ds.length)).getD j 0 = rows[j].ds.length := by rw [List.getD_eq_getElem?_getD, List.getElem?_map, hr]; rfl
    rw [e1, e2]
    exact ⟨trivial, rfl, rfl, flat_cut rows j _ hr⟩
  · rw [List.getElem?_eq_none (by rw [prs_len]; simpa using hj), List.getElem?_eq_none (by omega)]
    rfl
theorem digs_one (ds : List Text) : ∀ v ∈ ds.flatMap cells8, v.oneCell' = true := by
  intro v hv
  obtain ⟨d, -, h⟩ := List.mem_flatMap.1 hv
  exact Bytes.cells8_one d v h
/-- Another row has grown. -/
theorem Pk.grow {w0 W W1 W2 : World} {R B gp size n m : Nat} {e : TypeId} {cs : Array Value} {E P v v' : Value} {i j : Nat} {xs xs' news : List Value} {ts : List Text} {ps : List Pr} {Y Y' : Nat → Prop} (h : Pk w0 W R B gp cs E P i j xs ts ps (XB B Y E P)) (ho : W.ownsRow B e size v n xs') (hb : Below W.heap.size W W1)
    (hG : Grew W1 B e size v n m xs' news v' W2) (he1 : e ≠ 31) (he2 : e ≠ 51) (hR : R < B) (hgp : gp < B) (hY : ∀ k, some k = v.ownBlock → Y k) (hY' : ∀ k, Y' k → Y k ∨ some k = v'.ownBlock) :
    Pk w0 W2 R B gp cs E P i j xs ts ps (XB B Y' E P) ∧ Kept (fun k => some k = v.ownBlock) W W2 := by
  have K : Kept (fun k => some k = v.ownBlock) W W2 := (Kept.of_below hb).trans (grew_kept hG) (fun _ _ x => x)
  have h1 : Pk w0 W2 R B gp cs E P i j xs ts ps (XB B Y E P) := h.kept K (fun k _ s => by
    have h2 := (ho.lt k s.symm).1
    exact ⟨by omega, by omega, fun e2 => own_own ho h.oe he1 k s.symm e2.symm, fun e2 => own_own ho h.op he2 k s.symm e2.symm, .inr (.inl (hY k s))⟩)
  have hX : ∀ k, k < W.heap.size → XB B Y' E P k → XB B Y E P k := fun k hl hx => by
    rcases hx with hx | hx | hx
    · exact .inl hx
    · rcases hY' k hx with h2 | h2
      · exact .inr (.inl h2)
      · rcases grew_new hG k h2.symm with h3 | h3
        · exact .inr (.inl (hY k h3.symm))
        · have := hb.size; omega
    · exact .inr (.inr hx)
  exact ⟨⟨h1.bk, h1.rs, h1.oe, h1.op, h.tx.step K (fun k _ s => .inr (.inl (hY k s))) hX, h.pa.step K (fun k _ s => .inr (.inl (hY k s))) hX, h1.be⟩, K⟩
/-- The reader, where only blocks behind it have turned. -/
theorem rd_far {S : Nat → Prop} {w w' : World} {g need c B : Nat} {q : Text} {A : Option Addr} (h : Rd w g q A c need) (hk : Kept S w w') (hS : ∀ k, k < w.heap.size → S k → B ≤ k) (hg : g < B) (hA : 0 < q.length → ∀ a, A = some a → a.block < B) : Rd w' g q A c need :=
  h.keptOff hk (fun s => by have := hS g h.lt s; omega) (fun h0 a e s => by have := hS _ (h.old h0 a e) s; have := hA h0 a e; omega)
set_option maxRecDepth 100000 in
theorem why_bad (g : Nat) (w : World) (h : Bad w g) : Calls Tryd.prog 66 #[.pointer (some ⟨g, 0, none⟩)] w fun e w' => ∃ v : Int, e = .returned (.int .i64 v) ∧ ¬ v = 0 ∧ w = w' := by
  obtain ⟨s, a, why, hb, h0⟩ := h
  have g2 : w.cell? ⟨g, 2, none⟩ = some (.int .i64 why) := by rw [hb.cell 2]; rfl
  clear hb
  replace h0 := Lib.hid h0
  go_enter Tryd.func66, Tryd.ntmps66
  go_wp2_with fail
  go_ret
  exact ⟨why, rfl, h0.out, rfl⟩
/-- A row of a piece's bytes can be read. -/
theorem row_yes {q : Text} (h : pcOk q) {i m : Nat} (hi : i < pcN q) (hm : m = plc q i) : m + 8 ≤ q.length ∧ n8 q m ≤ 1099511627776 ∧ insideB (pcZ q : Int) (n8 q m : Int) = true ∧ bytesOk q (m + 8) := by
  subst hm
  obtain ⟨f1, f2, f3, f4, f5, f6, f7⟩ := pcOk_row h hi
  have hx : nxt (cz (pcZ q)) q (plc q i) = plc q i + 12 + n4 q (plc q i + 8) + 32 * cz (pcZ q) (n8 q (plc q i)) := rfl
  refine ⟨by omega, f4, f5, by omega, f2, ?_⟩
  show plc q i + 8 + 4 + n4 q (plc q i + 8) ≤ q.length
  omega
/-- What was read of the i-th row, laid to what was read ahead of it. -/
theorem row_ok {q p : Text} {i m N k4 cnt mm : Nat} {ts dl ds : List Text} {ys : List Int} {ks : List Nat} (hi : i < pcN q) (hm : m = plc q i) (g1 : ts = ((pcRows q).take i).map (·.e)) (g2 : ys = ((pcRows q).take i).map (fun r => (r.y : Int))) (g3 : ks = ((pcRows q).take i).map (·.ds.length)) (g4 : dl = ((pcRows q).take i).flatMap (·.ds))
    (hN : N = n8 q m) (hk : k4 = n4 q (m + 8)) (hp : p = (q.drop (m + 8 + 4)).take k4) (hc : cnt = cz (pcZ q) N) (hd : m + 8 + 4 + k4 + 32 * cnt ≤ q.length → mm = cnt ∧ ds = chunks (q.drop (m + 8 + 4 + k4)) cnt) (hl : m + 8 + 4 + k4 + 32 * cnt ≤ q.length) :
    m + 8 + 4 + k4 + 32 * cnt = plc q (i + 1) ∧ ts ++ [p] = ((pcRows q).take (i + 1)).map (·.e) ∧ ys ++ [(N : Int)] = ((pcRows q).take (i + 1)).map (fun r => (r.y : Int)) ∧ ks ++ [mm] = ((pcRows q).take (i + 1)).map (·.ds.length) ∧ dl ++ ds = ((pcRows q).take (i + 1)).flatMap (·.ds) := by
  obtain ⟨d1, d2⟩ := hd hl
  have er : (pcRows q)[i]? = some (PieceB.rowAt (cz (pcZ q)) q (plc q i)) := rowsAt_get _ _ _ _ _ hi
  have et : (pcRows q).take (i + 1) = (pcRows q).take i ++ [PieceB.rowAt (cz (pcZ q)) q (plc q i)] := by rw [List.take_add_one, er]; rfl
  subst hm hN hk hc
  rw [et]
  refine ⟨by rw [plc_succ]; rfl, ?_, ?_, ?_, ?_⟩
  · rw [List.map_append, ← g1, List.map_singleton, hp]
    rfl
  · rw [List.map_append, ← g2, List.map_singleton]
    rfl
  · rw [List.map_append, ← g3, List.map_singleton, d1]
    congr 1
    show _ = [(chunks _ _).length]
    rw [chunks_len]
  · rw [List.flatMap_append, ← g4, List.flatMap_singleton, d2]
    rfl
end Go.Proofs.YtgldkfaiofkhbaaDoor.DecPieceM

namespace Go.Proofs.YtgldkfaiofkhbaaDoor.DecPiece
open Go Go.RowKit Go.Proofs.YtgldkfaiofkhbaaDoor Go.Proofs.YtgldkfaiofkhbaaDoor.HeadMem Go.Proofs.YtgldkfaiofkhbaaDoor.Mem Go.Proofs.YtgldkfaiofkhbaaDoor.Sha Go.Proofs.YtgldkfaiofkhbaaDoor.Bytes Go.Proofs.YtgldkfaiofkhbaaDoor.Append Go.Proofs.YtgldkfaiofkhbaaDoor.Octet Go.Proofs.YtgldkfaiofkhbaaDoor.TreeMath Go.Proofs.YtgldkfaiofkhbaaDoor.TreeMem Go.Proofs.YtgldkfaiofkhbaaDoor.TreeRoot Go.Proofs.YtgldkfaiofkhbaaDoor.Held Go.Proofs.YtgldkfaiofkhbaaDoor.Own Go.Proofs.YtgldkfaiofkhbaaDoor.QuietTail Go.Proofs.YtgldkfaiofkhbaaDoor.Grown Go.Proofs.YtgldkfaiofkhbaaDoor.Reader Go.Proofs.YtgldkfaiofkhbaaDoor.Reader2 Go.Proofs.YtgldkfaiofkhbaaDoor.Reader3 Go.Proofs.YtgldkfaiofkhbaaDoor.Reader4 Go.Proofs.YtgldkfaiofkhbaaDoor.Reader6 Go.Proofs.YtgldkfaiofkhbaaDoor.Reader7 Go.Proofs.YtgldkfaiofkhbaaDoor.OctetBytes Go.Proofs.YtgldkfaiofkhbaaDoor.ProofBeside Go.Proofs.YtgldkfaiofkhbaaDoor.ProofEnc Go.Proofs.YtgldkfaiofkhbaaDoor.ProofIdx Go.Proofs.YtgldkfaiofkhbaaDoor.ProofIdx2 Go.Proofs.YtgldkfaiofkhbaaDoor.IdxMem Go.Proofs.YtgldkfaiofkhbaaDoor.DecIncl Go.Proofs.YtgldkfaiofkhbaaDoor.Book Go.Proofs.YtgldkfaiofkhbaaDoor.Guard Go.Proofs.YtgldkfaiofkhbaaDoor.Guard2 Go.Proofs.YtgldkfaiofkhbaaDoor.Want Go.Proofs.YtgldkfaiofkhbaaDoor.Plain Go.Proofs.YtgldkfaiofkhbaaDoor.DecIdx Go.Proofs.YtgldkfaiofkhbaaDoor.DecIdx2 Go.Proofs.YtgldkfaiofkhbaaDoor.PieceP Go.Proofs.YtgldkfaiofkhbaaDoor.PieceBegins Go.Proofs.YtgldkfaiofkhbaaDoor.PieceRow Go.Proofs.YtgldkfaiofkhbaaDoor.Prs Go.Proofs.YtgldkfaiofkhbaaDoor.Reach Go.Proofs.YtgldkfaiofkhbaaDoor.Reach2 Go.Proofs.YtgldkfaiofkhbaaDoor.Octet4 Go.Proofs.YtgldkfaiofkhbaaDoor.PieceB Go.Proofs.YtgldkfaiofkhbaaDoor.PieceLay Go.Proofs.YtgldkfaiofkhbaaDoor.PieceRead Go.Proofs.YtgldkfaiofkhbaaDoor.PieceMem Go.Proofs.YtgldkfaiofkhbaaDoor.PieceMem2 Go.Proofs.YtgldkfaiofkhbaaDoor.DecPiece0 Go.Proofs.YtgldkfaiofkhbaaDoor.DecPieceM

theorem infoTx : (Tryd.prog.info? 31).map (fun i => (i.zero, i.size, i.bytes)) = some (some (.slice none 0 0), 1, 24) := by kernel_rfl
theorem infoIt : (Tryd.prog.info? 3).map (fun i => (i.zero, i.size, i.bytes)) = some (some (.int .i64 0), 1, 8) := by kernel_rfl
theorem infoIn : (Tryd.prog.info? 51).map (fun i => (i.zero, i.size, i.bytes)) = some (some (.agg #[.int .i64 0, .int .i64 0, .slice none 0 0]), 3, 40) := by kernel_rfl
theorem sizeIn : (Tryd.prog.info? 51).map (·.size) = some 3 := by kernel_rfl
theorem zeroIn : ((Tryd.prog.info? 51).bind (·.zero)).isSome = true := by kernel_rfl
set_option maxRecDepth 100000 in
set_option maxHeartbeats 1000000 in
theorem dp_long (q : Text) (k : Nat) (hk : q.length = k) (h9 : 2097152 < k) (A : Option Addr) (c : Nat) (w : World) :
    Calls Tryd.prog 81 #[.slice A k c] w (PPost w (pcAns q)) := by
  rw [pcAns_long (by omega)]
  have hB1 : Hid (Blk (w.alloc (.cells zP 83)) w.heap.size 83 zP) := Blk.new w _ _
  have hb1 : Hid (Below w.heap.size w (w.alloc (.cells zP 83))) := Below.heap_below w _
  have hT := Lib.hid (fun w' => begun_long k h9 A c w')
  clear h9 hk
  go_enter Tryd.func81, Tryd.ntmps81
  go_wp2_with (first
    | (go_at_call 64; refine (hT.out _).mono ?_; rintro e w' ⟨rfl, rfl⟩)
    | ((with_reducible change wpList _ _ _ ({ dst := none, op := Op.store 83 _ _, type := _, pos := _, after := _, guard := _ } :: _) _ _); refine wpList_store_row (o := ⟨none, _, _, _, _, _⟩) rfl 83 (.tmp 2) (.tmp 29) rfl (w.heap.size) (zP) rfl rfl 83 (zP) hB1.out zP_size rfl zP_one ?_))
  refine bodyPost_ret (results_cell_row2 rfl _ _ w.heap.size 83 zP (0, 0) _ rfl (setRow_heap _ _ _ _ _ _ hB1.out) Tryd.underlying83 rfl zP_size) rfl ?_
  exact zpost rfl (below_setRow hb1.out (Nat.le_refl _) _)
set_option maxRecDepth 100000 in
set_option maxHeartbeats 1000000 in
theorem dp_no (q : Text) (k : Nat) (hk : q.length = k) (h9 : ¬ 2097152 < k) (hn : ¬ (1 ≤ k ∧ q.getD 0 0 = 51)) (A : Option Addr) (c : Nat) (w : World) (hr : Reads w 1 A k (cells8 q)) (hnil : A = none → k = 0 ∧ c = 0) :
    Calls Tryd.prog 81 #[.slice A k c] w (PPost w (pcAns q)) := by
  rw [pcAns_no (by omega) (fun h => hn ⟨by have := (pcOk_facts h).1; omega, h.1⟩)]
  have hB1 : Hid (Blk (w.alloc (.cells zP 83)) w.heap.size 83 zP) := Blk.new w _ _
  have hb1 : Hid (Below w.heap.size w (w.alloc (.cells zP 83))) := Below.heap_below w _
  have hT := Lib.hid (begun_no q k hk h9 hn A c (w.alloc (.cells zP 83)) (hr.alloc _) hnil)
  clear hk h9 hn hr hnil
  go_enter Tryd.func81, Tryd.ntmps81
  go_wp2_with (first
    | (go_at_call 64; refine hT.out.mono ?_; rintro e w2 ⟨rfl, hb⟩; have hB2 : Hid (Blk w2 w.heap.size 83 zP) := (hb.block _ hB1.out.lt).trans hB1.out; have hb2 : Hid (Below w.heap.size w w2) := hb1.out.trans (hb.mono hb1.out.size); clear hb)
    | ((with_reducible change wpList _ _ _ ({ dst := none, op := Op.store 83 _ _, type := _, pos := _, after := _, guard := _ } :: _) _ _); refine wpList_store_row (o := ⟨none, _, _, _, _, _⟩) rfl 83 (.tmp 2) (.tmp 29) rfl (w.heap.size) (zP) rfl rfl 83 (zP) hB2.out zP_size rfl zP_one ?_))
  refine bodyPost_ret (results_cell_row2 rfl _ _ w.heap.size 83 zP (0, 0) _ rfl (setRow_heap _ _ _ _ _ _ hB2.out) Tryd.underlying83 rfl zP_size) rfl ?_
  exact zpost rfl (below_setRow hb2.out (Nat.le_refl _) _)

set_option maxRecDepth 100000 in
set_option maxHeartbeats 8000000 in
theorem dp_main (q : Text) (k : Nat) (hk : q.length = k) (h9 : ¬ 2097152 < k) (h1 : 1 ≤ k) (hy : q.getD 0 0 = 51) (A : Option Addr) (c : Nat) (w : World) (hr : Reads w 1 A k (cells8 q)) (hnil : A = none → k = 0 ∧ c = 0) :
    Calls Tryd.prog 81 #[.slice A k c] w (PPost w (pcAns q)) := by
  obtain ⟨j0, hj, jz0, jz1, jz2⟩ := info_partsN infoTx
  obtain ⟨n0, hn0, nz0, nz1, nz2⟩ := info_partsN infoIn
  obtain ⟨m0, hm0, mz0, mz1, mz2⟩ := info_partsN infoIt
  obtain ⟨d0, hd0, dz0, dz1, dz2⟩ := info_partsN info32
  obtain ⟨X, hX⟩ : ∃ X, Hid (pcAns q = X) := ⟨_, Lib.hid rfl⟩
  rw [hX.out]
  have hqk : Hid (¬ 2097152 < q.length) := by show ¬ _; omega
  have hno : Hid (¬ pcOk q → X = zAns 8) := fun h => hX.out.symm.trans (pcAns_no hqk.out h)
  have hyes : Hid (pcOk q → X = pcGot q) := fun h => hX.out.symm.trans (pcAns_yes hqk.out h)
  have hyy := Lib.hid hy
  have hB1 : Hid (Blk (w.alloc (.cells zP 83)) w.heap.size 83 zP) := Blk.new w _ _
  have hb1 : Hid (Below w.heap.size w (w.alloc (.cells zP 83))) := Below.heap_below w _
  have hz1 : Hid ((w.alloc (.cells zP 83)).heap.size = w.heap.size + 1) := by show _ = _; simp
  have hT := Lib.hid (begun_yes q k hk h9 h1 hy A c (w.alloc (.cells zP 83)) (hr.alloc _) hnil)
  have hq47 : Hid (q.length < 140737488355328) := by show _ < _; omega
  clear hk h9 h1 hy hr hnil hX
  go_enter Tryd.func81, Tryd.ntmps81
  go_wp2_with fail
  refine hT.out.mono ?_
  rintro e w2 ⟨g, A', c', rfl, hg, hR2, hb⟩
  have hB2 : Blk w2 w.heap.size 83 zP := (hb.block _ hB1.out.lt).trans hB1.out
  have hb2 : Below w.heap.size w w2 := hb1.out.trans (hb.mono hb1.out.size)
  have hgw : Hid (w.heap.size < g) := by have := hz1.out; show _ < _; omega
  have hgp : Hid (g < w2.heap.size) := hR2.lt
  have hAp : Hid (0 < q.length → ∀ a, A' = some a → a.block < w2.heap.size) := hR2.old
  have hR3 : Hid (Rd (w2.alloc (.cells zP 83)) g q A' c' 1) := hR2.alloc _
  have hPk3 : Hid (Pk w (w2.alloc (.cells zP 83)) w.heap.size (w2.heap.size + 1) w2.heap.size zP (.slice none 0 0) (.slice none 0 0) 0 0 [] [] [] (XB (w2.heap.size + 1) (fun _ => False) (.slice none 0 0) (.slice none 0 0))) :=
    ⟨Blk.new w2 _ _, hB2.alloc _, World.ownsRow_nil _ _ _ _, World.ownsRow_nil _ _ _ _, Txa.nil_ _ _, Pra.nil_ _ _, hb2.alloc hb2.size _⟩
  have hz3 : Hid (w2.heap.size < (w2.alloc (.cells zP 83)).heap.size) := by show _ < _; simp
  clear hb hg hT hB1 hb1 hz1 hR2 hB2 hb2
  go_wp2_with fail
  refine (take1_any q hq47.out g 1 A' c' _ hR3.out).mono ?_
  rintro e w4 ⟨y, rfl, hy4, hR4, hk4⟩
  have hPk4 := Lib.hid (hPk3.out.keptG hk4 hgw.out (by have := hgp.out; omega) (by have := hgp.out; omega))
  have hz4 : Hid (w2.heap.size < w4.heap.size) := Nat.lt_of_lt_of_le hz3.out hk4.size
  replace hR4 : Hid (Rd w4 g q A' c' 2) := hR4
  replace hy4 := Lib.hid hy4
  clear hk4 hPk3 hR3 hz3
  generalize w2.heap.size = gp at *
  have ey : b8 y = ((y.toNat : Nat) : Int) := rfl
  have ylt := y.isLt
  go_wp2_with fail
  refine (raw_any q hq47.out g 2 y.toNat (by omega) A' c' w4 hR4.out).mono ?_
  rintro e w5 ⟨Ap, cp, p, rfl, hp1, hp2, hO5, hR5, hk5⟩
  have hPk5 := Lib.hid (hPk4.out.keptG hk5 hgw.out (by have := hgp.out; omega) (by have := hgp.out; omega))
  have hz5 : Hid (gp < w5.heap.size) := Nat.lt_of_lt_of_le hz4.out hk5.size
  replace hR5 := Lib.hid hR5
  have hpl : Hid (p.length ≤ q.length) := by
    show _ ≤ _
    by_cases h : 2 + y.toNat ≤ q.length
    · rw [hp1 h, List.length_take, List.length_drop]; omega
    · rw [hp2 (by omega)]; exact Nat.zero_le _
  replace hp1 := Lib.hid hp1
  have hcv := Lib.hid (convAny p Ap cp w5 hO5.1)
  have c5 : w5.cell? ⟨gp, 0, none⟩ = some (.string ByteArray.empty) := hPk5.out.bk.cell 0
  have f5 := hPk5.out.bk.frozen 0
  clear hk5 hO5 hPk4 hR4 hp2 hz4
  go_wp2_with ((with_reducible change wpList _ _ _ ({ dst := some 36, op := _, type := _, pos := _, after := _, guard := _ } :: _) _ _); refine wpList_conv (o := ⟨some 36, _, _, _, _, _⟩) rfl 31 9 (.tmp 35) rfl _ _ rfl hcv.out ?_)
  have hk6 : Kept (· = gp) w5 (w5.setCell ⟨gp, 0, none⟩ (.string (strT p))) := (Kept.refl (· = gp) w5).setCell (.inl rfl) _
  have hPk6 := Lib.hid (hPk5.out.set_ (by have := hgp.out; have := hgw.out; omega) (.inl (by omega)) 0 (.string (strT p)) (pieceCells (strT p) 0 (List.replicate 32 0) (.slice none 0 0) (.slice none 0 0)).toArray pc_set0)
  have hR6 : Hid (Rd (w5.setCell ⟨gp, 0, none⟩ (.string (strT p))) g q A' c' (2 + y.toNat)) := rd_far (B := gp) hR5.out hk6 (fun k _ s => Nat.le_of_eq s.symm) hgp.out hAp.out
  have hz6 : Hid (gp < (w5.setCell ⟨gp, 0, none⟩ (.string (strT p))).heap.size) := by show _ < _; have := hz5.out; simpa using this
  generalize w5.setCell ⟨gp, 0, none⟩ (.string (strT p)) = w6 at *
  clear hPk5 hR5 c5 f5 hcv hk6 hz5
  refine (ptake_any q hq47.out g (2 + y.toNat) A' c' w6 hR6.out).mono ?_
  rintro e w7 ⟨NF, rfl, hF, hR7, hk7⟩
  obtain ⟨fb, hfb⟩ : ∃ x, Hid (decide (NF ≤ 1099511627776) = x) := ⟨_, Lib.hid rfl⟩
  obtain ⟨F, hFe⟩ : ∃ x, Hid (lgInt NF = x) := ⟨_, Lib.hid rfl⟩
  rw [hfb.out, hFe.out]
  have hPk7 := Lib.hid (hPk6.out.keptG hk7 hgw.out (by have := hgp.out; omega) (by have := hgp.out; omega))
  have hz7 : Hid (gp < w7.heap.size) := Nat.lt_of_lt_of_le hz6.out hk7.size
  have c7 : w7.cell? ⟨gp, 1, none⟩ = some (.int .i64 0) := hPk7.out.bk.cell 1
  have f7 := hPk7.out.bk.frozen 1
  have hk8 : Kept (· = gp) w7 (w7.setCell ⟨gp, 1, none⟩ (.int .i64 F)) := (Kept.refl (· = gp) w7).setCell (.inl rfl) _
  have hPk8 := Lib.hid (hPk7.out.set_ (by have := hgp.out; have := hgw.out; omega) (.inl (by omega)) 1 (.int .i64 F) (pieceCells (strT p) F (List.replicate 32 0) (.slice none 0 0) (.slice none 0 0)).toArray pc_set1)
  have hR8 : Hid (Rd (w7.setCell ⟨gp, 1, none⟩ (.int .i64 F)) g q A' c' (2 + y.toNat + 8)) := rd_far (B := gp) hR7 hk8 (fun k _ s => Nat.le_of_eq s.symm) hgp.out hAp.out
  have hz8 : Hid (gp < (w7.setCell ⟨gp, 1, none⟩ (.int .i64 F)).heap.size) := by show _ < _; have := hz7.out; simpa using this
  replace hF := Lib.hid hF
  clear hk7 hPk6 hR6 hk8 hPk7 hR7 hz6 hz7
  go_wp2_with fail
  clear c7 f7
  generalize w7.setCell ⟨gp, 1, none⟩ (.int .i64 F) = w8 at *
  refine (digest_any q hq47.out g (2 + y.toNat + 8) A' c' w8 hR8.out).mono ?_
  rintro e w9 ⟨b, rfl, hbl, hbb, hR9, hk9⟩
  have hPk9 := Lib.hid (hPk8.out.keptG hk9 hgw.out (by have := hgp.out; omega) (by have := hgp.out; omega))
  have hz9 : Hid (gp < w9.heap.size) := Nat.lt_of_lt_of_le hz8.out hk9.size
  have zd2 : (cells8 b).toArray.size = 32 := by rw [List.size_toArray, cells8_len, hbl]
  have zd1 : (cells8 b).length = 32 := by rw [cells8_len, hbl]
  have hdall : Hid (((cells8 b).toArray.all fun v => v.oneCell') = true) := by
    show _ = _
    rw [List.all_toArray]
    exact List.all_eq_true.2 fun v hv => PieceMem.cells8_one v hv
  have hdsz : Hid ((Tryd.prog.info? 23).map (·.size) = some (cells8 b).toArray.size) := by show _ = _; rw [zd2]; exact size31
  replace hbl := Lib.hid hbl
  replace hbb := Lib.hid hbb
  replace hR9 := Lib.hid hR9
  clear hk9 hPk8 hR8 hz8
  go_wp2_with ((with_reducible change wpList _ _ _ ({ dst := none, op := Op.store 23 _ _, type := _, pos := _, after := _, guard := _ } :: _) _ _); refine unhid ?_)
  refine Lib.hid ?_
  with_reducible change wpList _ _ _ ({ dst := none, op := Op.store 23 _ _, type := _, pos := _, after := _, guard := _ } :: _) _ _
  refine wpList_store_part (o := ⟨none, _, _, _, _, _⟩) rfl 23 (.tmp 47) (.tmp 46) rfl gp 2 (cells8 b).toArray rfl rfl 83 (pieceCells (strT p) F (List.replicate 32 0) (.slice none 0 0) (.slice none 0 0)).toArray hPk9.out.bk hdsz.out (by rw [zd2]; exact pc_fit rfl) hdall.out ?_
  rw [pc_setB rfl hbl.out]
  have hk10 : Kept (· = gp) w9 (w9.setRow gp (pieceCells (strT p) F b (.slice none 0 0) (.slice none 0 0)).toArray) := Bytes.Kept.setRow (S := (· = gp)) (Kept.refl _ _) rfl _
  have hPk10 : Hid (Pk w (w9.setRow gp (pieceCells (strT p) F b (.slice none 0 0) (.slice none 0 0)).toArray) w.heap.size (gp + 1) gp (pieceCells (strT p) F b (.slice none 0 0) (.slice none 0 0)).toArray (.slice none 0 0) (.slice none 0 0) 0 0 [] [] [] (XB (gp + 1) (fun _ => False) (.slice none 0 0) (.slice none 0 0))) :=
    ⟨setRow_heap _ _ _ _ _ _ hPk9.out.bk, hPk9.out.rs.kept hk10 (by have := hgp.out; have := hgw.out; omega), World.ownsRow_nil _ _ _ _, World.ownsRow_nil _ _ _ _, Txa.nil_ _ _, Pra.nil_ _ _, hPk9.out.be.trans (Kept.below_of hk10 (by have := hgp.out; have := hgw.out; omega) hPk9.out.be.size)⟩
  have hR10 : Hid (Rd (w9.setRow gp (pieceCells (strT p) F b (.slice none 0 0) (.slice none 0 0)).toArray) g q A' c' (2 + y.toNat + 8 + 32)) := rd_far (B := gp) hR9.out hk10 (fun k _ s => Nat.le_of_eq s.symm) hgp.out hAp.out
  have hz10 : Hid (gp < (w9.setRow gp (pieceCells (strT p) F b (.slice none 0 0) (.slice none 0 0)).toArray).heap.size) := Nat.lt_of_lt_of_le hz9.out hk10.size
  generalize w9.setRow gp (pieceCells (strT p) F b (.slice none 0 0) (.slice none 0 0)).toArray = w10 at *
  clear hk10 hPk9 hR9 hdall hdsz zd1 zd2 hz9
  go_wp2_with fail
  refine (ptake_any q hq47.out g (2 + y.toNat + 8 + 32) A' c' w10 hR10.out).mono ?_
  rintro e w11 ⟨NZ, rfl, hZ, hR11, hk11⟩
  obtain ⟨zb, hzb⟩ : ∃ x, Hid (decide (NZ ≤ 1099511627776) = x) := ⟨_, Lib.hid rfl⟩
  obtain ⟨Z, hZe⟩ : ∃ x, Hid (lgInt NZ = x) := ⟨_, Lib.hid rfl⟩
  rw [hzb.out, hZe.out]
  have hPk11 := Lib.hid (hPk10.out.keptG hk11 hgw.out (by have := hgp.out; omega) (by have := hgp.out; omega))
  have hz11 : Hid (gp < w11.heap.size) := Nat.lt_of_lt_of_le hz10.out hk11.size
  replace hR11 := Lib.hid hR11
  replace hZ := Lib.hid hZ
  clear hk11 hPk10 hR10 hz10
  go_wp2_with fail
  refine (take4_any q hq47.out g (2 + y.toNat + 8 + 32 + 8) A' c' w11 hR11.out).mono ?_
  rintro e w12 ⟨n, rfl, hn32, hN1, hR12, hk12⟩
  have hPk12 := Lib.hid (hPk11.out.keptG hk12 hgw.out (by have := hgp.out; omega) (by have := hgp.out; omega))
  have hz12 : Hid (gp < w12.heap.size) := Nat.lt_of_lt_of_le hz11.out hk12.size
  have hR12 : Hid (Rd w12 g q A' c' (54 + y.toNat)) := by show Rd _ _ _ _ _ _; rw [show 54 + y.toNat = 2 + y.toNat + 8 + 32 + 8 + 4 by omega]; exact hR12
  have hH : Hid (54 + y.toNat ≤ q.length → y.toNat = pcL q ∧ p = pcS q ∧ NF = pcF q ∧ b = pcB q ∧ NZ = pcZ q ∧ n = pcN q) := fun h => by
    have e1 : y.toNat = pcL q := by rw [hy4.out (by omega)]; rfl
    have e2 := hp1.out (by omega)
    have e3 := hF.out (by omega)
    have e4 := hbb.out (by omega)
    have e5 := hZ.out (by omega)
    have e6 := hN1 (by omega)
    rw [e1] at e2 e3 e4 e5 e6
    refine ⟨e1, e2, e3, ?_, ?_, ?_⟩
    · rw [e4, show 2 + pcL q + 8 = 10 + pcL q by omega]; rfl
    · rw [e5, show 2 + pcL q + 8 + 32 = 42 + pcL q by omega]; rfl
    · rw [e6, show 2 + pcL q + 8 + 32 + 8 = 50 + pcL q by omega]; rfl
  have hL0 : Hid (2 ≤ q.length → y.toNat = pcL q) := fun h => by rw [hy4.out h]; rfl
  have hlen : Hid (pcOk q → 54 + y.toNat ≤ q.length) := fun h => by
    have h1 := (pcOk_facts h).1
    have h2 := hL0.out (by omega)
    omega
  have hn63 : (n : Int) < 4294967296 := by omega
  replace hn32 := Lib.hid hn32
  have hW := Lib.hid (why_any q g (54 + y.toNat) A' c' w12 hR12.out)
  obtain ⟨wy, hwy⟩ : ∃ x, Hid (whyOf (54 + y.toNat) q.length = x) := ⟨_, Lib.hid rfl⟩
  rw [hwy.out] at hW
  have hRes := Lib.hid hPk12.out.rs
  have hbe := Lib.hid hPk12.out.be
  clear hN1 hk12 hPk11 hR11 hp1 hF hbb hZ hy4 hz11 hL0 ey ylt
  go_upto_region 11 with fail
  cases fb with
  | false =>
    have hXX : Hid (X = zAns 8) := hno.out (fun h => by
      have h1 := (pcOk_facts h).2.2.2.1
      have h2 := (hH.out (hlen.out h)).2.2.1
      have h3 := of_decide_eq_false hfb.out
      omega)
    go_wp2_with ((with_reducible change wpList _ _ _ ({ dst := none, op := Op.store 83 _ _, type := _, pos := _, after := _, guard := _ } :: _) _ _); refine wpList_store_row (o := ⟨none, _, _, _, _, _⟩) rfl 83 (.tmp 2) (.tmp 75) rfl (w.heap.size) (zP) rfl rfl 83 (zP) hRes.out zP_size rfl zP_one ?_)
    refine bodyPost_ret (results_cell_row2 rfl _ _ w.heap.size 83 zP (0, 0) _ rfl (setRow_heap _ _ _ _ _ _ hRes.out) Tryd.underlying83 rfl zP_size) rfl ?_
    rw [hXX.out]
    exact zpost rfl (below_setRow hbe.out (Nat.le_refl _) _)
  | true =>
    cases zb with
    | false =>
      have hXX : Hid (X = zAns 8) := hno.out (fun h => by
        have h1 := (pcOk_facts h).2.2.2.2.2.1
        have h2 := (hH.out (hlen.out h)).2.2.2.2.1
        have h3 := of_decide_eq_false hzb.out
        omega)
      go_wp2_with ((with_reducible change wpList _ _ _ ({ dst := none, op := Op.store 83 _ _, type := _, pos := _, after := _, guard := _ } :: _) _ _); refine wpList_store_row (o := ⟨none, _, _, _, _, _⟩) rfl 83 (.tmp 2) (.tmp 75) rfl (w.heap.size) (zP) rfl rfl 83 (zP) hRes.out zP_size rfl zP_one ?_)
      refine bodyPost_ret (results_cell_row2 rfl _ _ w.heap.size 83 zP (0, 0) _ rfl (setRow_heap _ _ _ _ _ _ hRes.out) Tryd.underlying83 rfl zP_size) rfl ?_
      rw [hXX.out]
      exact zpost rfl (below_setRow hbe.out (Nat.le_refl _) _)
    | true =>
      by_cases hl : 54 + y.toNat ≤ q.length
      · have hwy0 : wy = 0 := hwy.out.symm.trans (if_pos hl)
        subst hwy0
        obtain ⟨e1, e2, e3, e4, e5, e6⟩ := hH.out hl
        by_cases hn1 : n < 1
        · have z1 : (n : Int) < 1 := by omega
          have hXX : Hid (X = zAns 8) := hno.out (fun h => by
            have h1 := (pcOk_facts h).2.1
            omega)
          clear hl e1 e2 e3 e4 e5 e6
          go_wp2_with (first
            | (go_at_call 66; refine hW.out.mono ?_; rintro e w' ⟨rfl, rfl⟩)
            | ((with_reducible change wpList _ _ _ ({ dst := none, op := Op.store 83 _ _, type := _, pos := _, after := _, guard := _ } :: _) _ _); refine wpList_store_row (o := ⟨none, _, _, _, _, _⟩) rfl 83 (.tmp 2) (.tmp 75) rfl (w.heap.size) (zP) rfl rfl 83 (zP) hRes.out zP_size rfl zP_one ?_))
          refine bodyPost_ret (results_cell_row2 rfl _ _ w.heap.size 83 zP (0, 0) _ rfl (setRow_heap _ _ _ _ _ _ hRes.out) Tryd.underlying83 rfl zP_size) rfl ?_
          rw [hXX.out]
          exact zpost rfl (below_setRow hbe.out (Nat.le_refl _) _)
        · have z1 : ¬ (n : Int) < 1 := by omega
          by_cases hn2 : 1000 < n
          · have z2 : (1000 : Int) < (n : Int) := by omega
            have hXX : Hid (X = zAns 8) := hno.out (fun h => by
              have h1 := (pcOk_facts h).2.2.1
              omega)
            clear hl e1 e2 e3 e4 e5 e6
            go_wp2_with (first
              | (go_at_call 66; refine hW.out.mono ?_; rintro e w' ⟨rfl, rfl⟩)
              | ((with_reducible change wpList _ _ _ ({ dst := none, op := Op.store 83 _ _, type := _, pos := _, after := _, guard := _ } :: _) _ _); refine wpList_store_row (o := ⟨none, _, _, _, _, _⟩) rfl 83 (.tmp 2) (.tmp 75) rfl (w.heap.size) (zP) rfl rfl 83 (zP) hRes.out zP_size rfl zP_one ?_))
            refine bodyPost_ret (results_cell_row2 rfl _ _ w.heap.size 83 zP (0, 0) _ rfl (setRow_heap _ _ _ _ _ _ hRes.out) Tryd.underlying83 rfl zP_size) rfl ?_
            rw [hXX.out]
            exact zpost rfl (below_setRow hbe.out (Nat.le_refl _) _)
          · have z2 : ¬ (1000 : Int) < (n : Int) := by omega
            have hZZ : Hid (Z = (pcZ q : Int)) := by
              have h := of_decide_eq_true hzb.out
              show _ = _
              rw [← hZe.out, lgInt_le h, e5]
            have hFF : Hid (F = (pcF q : Int)) := by
              have h := of_decide_eq_true hfb.out
              show _ = _
              rw [← hFe.out, lgInt_le h, e3]
            have hyL : Hid (y.toNat = pcL q) := e1
            have hSS : Hid (p = pcS q) := e2
            have hBB : Hid (b = pcB q) := e4
            have hNN : Hid (n = pcN q) := e6
            have hn1' : Hid (1 ≤ n) := by show _ ≤ _; omega
            have hn1000 : Hid (n ≤ 1000) := by show _ ≤ _; omega
            have hB12 : Hid (gp + 1 ≤ w12.heap.size) := hz12.out
            clear hn63 hl e1 e2 e3 e4 e5 e6 hn1 hn2 hRes hbe hwy hlen hfb hzb hFe hZe hH
            go_wp2_with (go_at_call 66; refine hW.out.mono ?_; rintro e w' ⟨rfl, rfl⟩)
            clear z1 z2 hW
            go_loopw [12, 13, 77] (fun v12 v13 v77 wr => ∃ (i t m cw ce cE cP : Nat) (Aw Ae AE AP : Option Addr) (xs : List Value) (ts dl : List Text) (ys : List Int) (ks : List Nat), v12 = .slice Aw t cw ∧ v13 = .slice Ae i ce ∧ v77 = .int .i64 (i : Int) ∧ Hid (i ≤ n) ∧ Hid (Pk w wr w.heap.size (gp + 1) gp (pieceCells (strT p) F b (.slice AE i cE) (.slice AP i cP)).toArray (.slice AE i cE) (.slice AP i cP) i i xs ts (ys.map (pr0 Z)) (XB (gp + 1) (fun k => some k = Value.ownBlock (.slice Aw t cw) ∨ some k = Value.ownBlock (.slice Ae i ce)) (.slice AE i cE) (.slice AP i cP))) ∧ Hid (wr.ownsRow (gp + 1) 23 32 (.slice Aw t cw) t (dl.flatMap cells8)) ∧ Hid (wr.ownsRow (gp + 1) 3 1 (.slice Ae i ce) i (endsL ks)) ∧ Hid (Rd wr g q A' c' m) ∧ Hid (ks.length = i ∧ ks.sum = t ∧ dl.length = t ∧ Digs dl ∧ (∀ k ∈ ks, k ≤ 40) ∧ (∀ x ∈ ts, x.length ≤ 65536) ∧ ys.length = i ∧ t ≤ 40 * i) ∧ Hid (m ≤ q.length → m = plc q i ∧ ts = ((pcRows q).take i).map (·.e) ∧ ys = ((pcRows q).take i).map (fun r => (r.y : Int)) ∧ ks = ((pcRows q).take i).map (·.ds.length) ∧ dl = ((pcRows q).take i).flatMap (·.ds)) ∧ Hid (pcOk q → m = plc q i) ∧ Hid (gp + 1 ≤ wr.heap.size)) (fun _ _ v _ => n - (intOf v).toNat)
            case atStart =>
              refine ⟨0, 0, 54 + y.toNat, 0, 0, 0, 0, none, none, none, none, [], [], [], [], [], rfl, rfl, rfl, Nat.zero_le _, ?_, World.ownsRow_nil _ _ _ _, World.ownsRow_nil _ _ _ _, hR12.out, ⟨rfl, rfl, rfl, (fun d h => by cases h), (fun k h => by cases h), (fun x h => by cases h), rfl, Nat.zero_le _⟩, fun _ => ⟨by rw [hyL.out]; rfl, rfl, rfl, rfl, rfl⟩, fun _ => by rw [hyL.out]; rfl, hB12.out⟩
              exact hPk12.out.weak (fun k _ hx => by
                rcases hx with hx | hx | hx
                · exact .inl hx
                · rcases hx with hx | hx <;> cases hx
                · exact .inr (.inr hx))
            case round =>
              clear hPk12 hR12 hB12 hz12
              obtain ⟨i, t, m, cw, ce, cE, cP, Aw, Ae, AE, AP, xs, ts, dl, ys, ks, rfl, rfl, rfl, hin, hPk, hOw, hOe, hR, hsh, hex, hpc, hBr⟩ := hrel
              have hi1000 : (i : Int) ≤ 1000 := by have := hin.out; have := hn1000.out; omega
              by_cases hlt : i < n
              · have y3 : ((i : Int) < (n : Int)) := by omega
                have hlt' : Hid (i < n) := hlt
                clear hlt
                have hRes := Lib.hid hPk.out.rs
                go_wp2_with fail
                refine (ptake_any q hq47.out g m A' c' wr hR.out).mono ?_
                rintro e w1 ⟨N, rfl, hN, hR1, hk1⟩
                obtain ⟨fb, hfb⟩ : ∃ x, Hid (decide (N ≤ 1099511627776) = x) := ⟨_, Lib.hid rfl⟩
                obtain ⟨at_, hate⟩ : ∃ x, Hid (lgInt N = x) := ⟨_, Lib.hid rfl⟩
                rw [hfb.out, hate.out]
                have hPk1 := Lib.hid (hPk.out.keptG hk1 hgw.out (by have := hgp.out; omega) (by have := hgp.out; omega))
                have hOw1 := Lib.hid (own_keep hOw.out hk1 (fun k e s => by have := (hOw.out.lt k e).1; have := hgp.out; omega))
                have hOe1 := Lib.hid (own_keep hOe.out hk1 (fun k e s => by have := (hOe.out.lt k e).1; have := hgp.out; omega))
                have hB1 : Hid (gp + 1 ≤ w1.heap.size) := Nat.le_trans hBr.out hk1.size
                replace hN := Lib.hid hN
                replace hR1 := Lib.hid hR1
                clear hk1 hPk hOw hOe hR hBr hRes
                go_wp2_with fail
                refine (rbytes_any q hq47.out g (m + 8) A' c' w1 hR1.out).mono ?_
                rintro e w2 ⟨A2, c2, u, rfl, hby, hbn, hO2, hk2⟩
                have hPk2 := Lib.hid (hPk1.out.keptG hk2 hgw.out (by have := hgp.out; omega) (by have := hgp.out; omega))
                have hOw2 := Lib.hid (own_keep hOw1.out hk2 (fun k e s => by have := (hOw1.out.lt k e).1; have := hgp.out; omega))
                have hOe2 := Lib.hid (own_keep hOe1.out hk2 (fun k e s => by have := (hOe1.out.lt k e).1; have := hgp.out; omega))
                have hB2 : Hid (gp + 1 ≤ w2.heap.size) := Nat.le_trans hB1.out hk2.size
                have hXl : Hid (∀ k, XB (gp + 1) (fun k => some k = Value.ownBlock (.slice Aw t cw) ∨ some k = Value.ownBlock (.slice Ae i ce)) (.slice AE i cE) (.slice AP i cP) k → k < w1.heap.size) := hPk1.out.lt hB1.out (fun k hx => by
                  rcases hx with hx | hx
                  · exact (hOw1.out.lt k hx.symm).2
                  · exact (hOe1.out.lt k hx.symm).2)
                have hs12 : Hid (w1.heap.size ≤ w2.heap.size) := hk2.size
                have hRes := Lib.hid hPk2.out.rs
                have hbe := Lib.hid hPk2.out.be
                obtain ⟨k4, hk4⟩ : ∃ x, Hid (num ((q.drop (m + 8)).take 4) = x) := ⟨_, Lib.hid rfl⟩
                obtain ⟨ul, hul⟩ : ∃ x, Hid (u.length = x) := ⟨_, Lib.hid rfl⟩
                rw [hul.out]
                rw [hk4.out] at hby
                replace hby := Lib.hid hby
                replace hbn := Lib.hid hbn
                replace hO2 := Lib.hid hO2
                clear hk2 hPk1 hOw1 hOe1 hR1
                have hrow : Hid (pcOk q → m + 8 ≤ q.length ∧ N = n8 q m ∧ n8 q m ≤ 1099511627776 ∧ insideB (pcZ q : Int) (n8 q m : Int) = true ∧ bytesOk q (m + 8)) := fun h => by
                  obtain ⟨r1, r2, r3, r4⟩ := row_yes h (i := i) (m := m) (by rw [← hNN.out]; exact hlt'.out) (hpc.out h)
                  exact ⟨r1, hN.out r1, r2, r3, r4⟩
                go_wp2_with fail
                refine (PieceRow.beside_all Z at_ w2).mono ?_
                rintro e w3 ⟨rfl, hw⟩
                subst hw
                obtain ⟨ib, hib⟩ : ∃ x, Hid (insideB Z at_ = x) := ⟨_, Lib.hid rfl⟩
                obtain ⟨bn, hbs⟩ : ∃ x, Hid (PieceRow.bsNum Z at_ = x) := ⟨_, Lib.hid rfl⟩
                rw [hib.out, hbs.out]
                go_upto_region 20 with fail
                cases fb with
                | false =>
                  have hXX : Hid (X = zAns 8) := hno.out (fun h => by
                    obtain ⟨-, r1, r2, -⟩ := hrow.out h
                    have h3 := of_decide_eq_false hfb.out
                    omega)
                  go_wp2_with ((with_reducible change wpList _ _ _ ({ dst := none, op := Op.store 83 _ _, type := _, pos := _, after := _, guard := _ } :: _) _ _); refine wpList_store_row (o := ⟨none, _, _, _, _, _⟩) rfl 83 (.tmp 2) (.tmp 103) rfl (w.heap.size) (zP) rfl rfl 83 (zP) hRes.out zP_size rfl zP_one ?_)
                  refine bodyPost_ret (results_cell_row2 rfl _ _ w.heap.size 83 zP (0, 0) _ rfl (setRow_heap _ _ _ _ _ _ hRes.out) Tryd.underlying83 rfl zP_size) rfl ?_
                  rw [hXX.out]
                  exact zpost rfl (below_setRow hbe.out (Nat.le_refl _) _)
                | true =>
                  have hate2 : Hid (at_ = (N : Int)) := by
                    have h := of_decide_eq_true hfb.out
                    show _ = _
                    rw [← hate.out, lgInt_le h]
                  cases ib with
                  | false =>
                    have hXX : Hid (X = zAns 8) := hno.out (fun h => by
                      obtain ⟨-, r1, -, r3, -⟩ := hrow.out h
                      have h4 := hib.out
                      rw [hZZ.out, hate2.out, r1, r3] at h4
                      cases h4)
                    go_wp2_with ((with_reducible change wpList _ _ _ ({ dst := none, op := Op.store 83 _ _, type := _, pos := _, after := _, guard := _ } :: _) _ _); refine wpList_store_row (o := ⟨none, _, _, _, _, _⟩) rfl 83 (.tmp 2) (.tmp 103) rfl (w.heap.size) (zP) rfl rfl 83 (zP) hRes.out zP_size rfl zP_one ?_)
                    refine bodyPost_ret (results_cell_row2 rfl _ _ w.heap.size 83 zP (0, 0) _ rfl (setRow_heap _ _ _ _ _ _ hRes.out) Tryd.underlying83 rfl zP_size) rfl ?_
                    rw [hXX.out]
                    exact zpost rfl (below_setRow hbe.out (Nat.le_refl _) _)
                  | true =>
                    by_cases hbo : bytesOk q (m + 8)
                    · obtain ⟨hu, hR2⟩ := hby.out hbo
                      have hml : m + 8 + 4 + k4 ≤ q.length := by have := hbo.2.2; rw [hk4.out] at this; exact this
                      have hW := Lib.hid (why_any q g (m + 8 + 4 + k4) A' c' w2 hR2)
                      rw [show whyOf (m + 8 + 4 + k4) q.length = 0 from if_pos hml] at hW
                      obtain ⟨x1, x2, x3, x4, x5⟩ := hex.out (by omega)
                      have hx1 : Hid (m = plc q i) := x1
                      have hx2 := Lib.hid x2
                      have hx3 := Lib.hid x3
                      have hx4 := Lib.hid x4
                      have hx5 := Lib.hid x5
                      have hNm : Hid (N = n8 q m) := hN.out (by omega)
                      obtain ⟨cnt, hcnt⟩ : ∃ x : Nat, Hid (bn = (x : Int)) := by
                        refine ⟨bn.toNat, Lib.hid (Int.toNat_of_nonneg ?_).symm⟩
                        rw [← hbs.out]
                        unfold PieceRow.bsNum
                        split <;> omega
                      have hcz : Hid (cnt = cz (pcZ q) N) := by
                        show _ = _
                        unfold cz
                        rw [← hZZ.out, ← hate2.out, hbs.out, hcnt.out, Int.toNat_natCast]
                      have hc40 : cnt ≤ 40 := by
                        have h1 := hbs.out
                        rw [hcnt.out] at h1
                        unfold PieceRow.bsNum at h1
                        rw [if_pos hib.out] at h1
                        have h2 := hib.out
                        simp only [insideB, Bool.and_eq_true, decide_eq_true_eq] at h2
                        have := besideOf_le (size := Z.toNat) (i := at_.toNat) (by omega)
                        omega
                      have hc40' : Hid (cnt ≤ 40) := hc40
                      rw [hcnt.out]
                      have hu' := Lib.hid hu
                      have hR2' := Lib.hid hR2
                      have hml' := Lib.hid hml
                      have hbo' := Lib.hid hbo
                      clear hu hR2 hml hbo x1 x2 x3 x4 x5 hc40 hby hbn hbs hcnt hib hfb hate hN hrow hRes hbe hex
                      go_wp2_with (go_at_call 66; refine hW.out.mono ?_; rintro e w' ⟨rfl, rfl⟩)
                      clear hW
                      refine (digestsR_any q hq47.out g (m + 8 + 4 + k4) cnt (by have := hc40'.out; omega) A' c' w2 hR2'.out).mono ?_
                      rintro e w3 ⟨A3, mm, ds, rfl, hd3, hd3n, hmm, hd3x, hd3f, hR3, hk3⟩
                      have hPk3 := Lib.hid (hPk2.out.keptG hk3 hgw.out (by have := hgp.out; omega) (by have := hgp.out; omega))
                      have hOw3 := Lib.hid (own_keep hOw2.out hk3 (fun k e s => by have := (hOw2.out.lt k e).1; have := hgp.out; omega))
                      have hOe3 := Lib.hid (own_keep hOe2.out hk3 (fun k e s => by have := (hOe2.out.lt k e).1; have := hgp.out; omega))
                      have hB3 : Hid (gp + 1 ≤ w3.heap.size) := Nat.le_trans hB2.out hk3.size
                      have hs13 : Hid (w1.heap.size ≤ w3.heap.size) := Nat.le_trans hs12.out hk3.size
                      have hA2 : Hid (∀ a, A2 = some a → w1.heap.size ≤ a.block) := hO2.out.2.2.2
                      have hu2n : Hid (A2 = none → ul = 0 ∧ c2 = 0) := by rw [← hul.out]; exact hO2.out.2.1
                      have hu2c : Hid (ul ≤ c2) := by rw [← hul.out]; exact hO2.out.2.2.1
                      have hB1' : Hid (gp + 1 ≤ w1.heap.size ∨ True) := .inr trivial
                      have hgx : Hid (gp < w1.heap.size) := hXl.out gp (.inl (by omega))
                      have hr3 : Hid (Reads w3 1 A2 ul (cells8 u)) := by
                        have h : Reads w2 1 A2 ul (cells8 u) := by rw [← hul.out]; exact hO2.out.1
                        exact h.kept hk3 (fun b o e s => by have h1 : w1.heap.size ≤ b := hA2.out _ e; have h2 : b = g := s; have := hgp.out; have := hgx.out; omega)
                      obtain ⟨s1, s2, s3, s4, s5, s6, s7, s8⟩ := hsh.out
                      have hmm40 : Hid (mm ≤ 40) := by have := hc40'.out; show _ ≤ _; omega
                      have ht40 : Hid (t ≤ 40000) := by show _ ≤ _; omega
                      obtain ⟨t4, ht4⟩ : ∃ x, Hid (t + mm = x) := ⟨_, Lib.hid rfl⟩
                      have hv1 : Hid (t + mm ≤ maxLen) := by have := hmm40.out; have := ht40.out; show _ ≤ _; unfold maxLen; omega
                      have hv2 : Hid ((t + mm) * 32 ≤ 140737488355328) := by have := hmm40.out; have := ht40.out; show _ ≤ _; omega
                      have ht4I : (t4 : Int) ≤ 1000000 := by have := hmm40.out; have := ht40.out; have := ht4.out; omega
                      have hdsl : Hid (ds.length = mm) := hd3.1
                      have hdsd : Hid (Digs ds) := hd3.2.1
                      have hul6 : Hid (ul ≤ 65536) := by
                        have h1 := hbo'.out.2.1
                        rw [hk4.out] at h1
                        show _ ≤ _
                        rw [← hul.out, hu'.out, List.length_take]
                        omega
                      replace hd3 := Lib.hid hd3
                      replace hd3n := Lib.hid hd3n
                      replace hd3x := Lib.hid hd3x
                      replace hR3 := Lib.hid hR3
                      clear hk3 hmm hd3f hPk2 hOw2 hOe2 hR2' hB2 hO2 s1 s2 s3 s4 s5 s6 s7 s8 hs12
                      go_upto_region 23 with ((with_reducible change wpList _ _ _ ({ dst := some 108, op := _, type := _, pos := _, after := _, guard := _ } :: _) _ _); refine wpList_append_src _ (o := ⟨some 108, _, _, _, _, _⟩) rfl (.tmp 104) (.tmp 107) 42 rfl (gp + 1) 23 d0 (.agg Z32) 32 32 Tryd.underlying42 hd0 dz0 dz1 dz2 rfl (by decide) (.slice Aw t cw) t (dl.flatMap cells8) rfl hOw3.out A3 mm mm (ds.flatMap cells8) rfl hd3.out.2.2 hd3n.out (digs_one ds) hv1.out hv2.out hB3.out ?_; intro v4 w4 hG; have hOwN := hG.own; rw [ht4.out, ← List.flatMap_append] at hOwN; obtain ⟨Aw4, cw4, rfl, -⟩ := Append.Own.reads hOwN; have hg4 := DecPieceM.Pk.grow hPk3.out (Y' := (fun k => some k = Value.ownBlock (.slice Aw4 t4 cw4) ∨ some k = Value.ownBlock (.slice Ae i ce))) hOw3.out (Below.refl _ _) hG (by decide) (by decide) (by have := hgp.out; have := hgw.out; omega) (by omega) (fun k hk => .inl hk) (fun k hk => hk.elim .inr (fun h => .inl (.inr h))); have hPk4 := Lib.hid hg4.1; have hOw4 := Lib.hid hOwN; have hOe4 := Lib.hid (own_keep hOe3.out hg4.2 (fun k e s => own_own hOe3.out hOw3.out (by decide) k e s.symm)); have hR4 : Hid (Rd w4 g q A' c' (m + 8 + 4 + k4 + 32 * cnt)) := rd_far (B := gp) hR3.out hg4.2 (fun k _ s => by have := (hOw3.out.lt k s.symm).1; omega) hgp.out hAp.out; have hr4 : Hid (Reads w4 1 A2 ul (cells8 u)) := hr3.out.kept hg4.2 (fun b o e s => by have h1 : w1.heap.size ≤ b := hA2.out _ e; have := hXl.out b (.inr (.inl (.inl s))); omega); have hB4 : Hid (gp + 1 ≤ w4.heap.size) := Nat.le_trans hB3.out hg4.2.size; have hYw : Hid (∀ k, Value.ownBlock (.slice Aw4 t4 cw4) = some k → Value.ownBlock (.slice Aw t cw) = some k ∨ w3.heap.size ≤ k) := grew_new hG; have hnu4 : Hid (0 < ul → ∀ b o, A2 = some ⟨b, o, none⟩ → ¬ w3.heap.size ≤ b) := (fun h0 b o e h => by obtain ⟨b', o', e', hlt', -⟩ := hr3.out.at_ (by omega); rw [e] at e'; injection e' with e'; injection e' with e1 e2; omega); clear hG hg4 hOwN)
                      clear hd3 hd3n hv1 hv2 hPk3 hOw3 hOe3 hR3 hr3
                      have hw1 : Hid (i + 1 ≤ maxLen) := by show _ ≤ _; unfold maxLen; omega
                      have hw2 : Hid ((i + 1) * 8 ≤ 140737488355328) := by show _ ≤ _; omega
                      have hw3 : Hid (gp + 1 ≤ (w4.alloc (.cells #[.int .i64 (t4 : Int)] 3)).heap.size) := by have := hB4.out; show _ ≤ _; simp; omega
                      have hnI : Hid (Reads (w4.alloc (.cells #[.int .i64 (t4 : Int)] 3)) 1 (some ⟨w4.heap.size, 0, none⟩) 1 [.int .i64 (t4 : Int)]) := Blk.reads (Blk.new w4 3 #[.int .i64 (t4 : Int)]) 0 _ rfl (fun j u hu => by rw [Nat.zero_add]; simpa using hu)
                      have hOeA : Hid ((w4.alloc (.cells #[.int .i64 (t4 : Int)] 3)).ownsRow (gp + 1) 3 1 (.slice Ae i ce) i (endsL ks)) := World.ownsRow.alloc (w := w4) hOe4.out _
                      go_upto_region 24 with ((with_reducible change wpList _ _ _ ({ dst := some 113, op := _, type := _, pos := _, after := _, guard := _ } :: _) _ _); refine wpList_append_src _ (o := ⟨some 113, _, _, _, _, _⟩) rfl (.tmp 109) (.tmp 112) 195 rfl (gp + 1) 3 m0 (.int .i64 0) 1 8 Tryd.underlying195 hm0 mz0 mz1 mz2 rfl (by decide) (.slice Ae i ce) i (endsL ks) rfl hOeA.out (some ⟨w4.heap.size, 0, none⟩) 1 1 [.int .i64 (t4 : Int)] rfl hnI.out (fun e => by cases e) (by intro v hv; simp only [List.mem_singleton] at hv; rw [hv]; rfl) hw1.out hw2.out hw3.out ?_; intro v6 w6 hG; have hOeN := hG.own; rw [← ht4.out, ← hsh.out.2.1, ← endsL_snoc] at hOeN; obtain ⟨Ae6, ce6, rfl, -⟩ := Append.Own.reads hOeN; have hg6 := DecPieceM.Pk.grow hPk4.out (Y' := (fun k => some k = Value.ownBlock (.slice Aw4 t4 cw4) ∨ some k = Value.ownBlock (.slice Ae6 (i + 1) ce6))) hOe4.out (Below.heap_below _ _) hG (by decide) (by decide) (by have := hgp.out; have := hgw.out; omega) (by omega) (fun k hk => .inr hk) (fun k hk => hk.elim (fun h => .inl (.inl h)) .inr); have hPk6 := Lib.hid hg6.1; have hOe6 := Lib.hid hOeN; have hOw6 := Lib.hid (own_keep hOw4.out hg6.2 (fun k e s => own_own hOw4.out hOe4.out (by decide) k e s.symm)); have hR6 : Hid (Rd w6 g q A' c' (m + 8 + 4 + k4 + 32 * cnt)) := rd_far (B := gp) hR4.out hg6.2 (fun k _ s => by have := (hOe4.out.lt k s.symm).1; omega) hgp.out hAp.out; have hr6 : Hid (Reads w6 1 A2 ul (cells8 u)) := hr4.out.kept hg6.2 (fun b o e s => by have h1 : w1.heap.size ≤ b := hA2.out _ e; have := hXl.out b (.inr (.inl (.inr s))); omega); have hB6 : Hid (gp + 1 ≤ w6.heap.size) := Nat.le_trans hB4.out hg6.2.size; have hYe : Hid (∀ k, Value.ownBlock (.slice Ae6 (i + 1) ce6) = some k → Value.ownBlock (.slice Ae i ce) = some k ∨ w4.heap.size ≤ k) := (fun k hk => (grew_new hG k hk).imp id (fun h => by simp at h; omega)); have hnu6 : Hid (0 < ul → ∀ b o, A2 = some ⟨b, o, none⟩ → ¬ w4.heap.size ≤ b) := (fun h0 b o e h => by obtain ⟨b', o', e', hlt', -⟩ := hr4.out.at_ (by omega); rw [e] at e'; injection e' with e'; injection e' with e1 e2; omega); clear hG hg6 hOeN)
                      clear hw2 hw3 hnI hOeA hPk4 hOw4 hOe4 hR4 hr4 hB4
                      have c34 : w6.cell? ⟨gp, 34, none⟩ = some (.slice AE i cE) := (hPk6.out.bk.cell 34).trans (by rw [List.getElem?_toArray]; exact pc_events hbl.out)
                      have hnE : Hid (Reads (w6.alloc (.cells #[.slice A2 ul c2] 31)) 1 (some ⟨w6.heap.size, 0, none⟩) 1 [.slice A2 ul c2]) := Blk.reads (Blk.new w6 31 #[.slice A2 ul c2]) 0 _ rfl (fun j u hu => by rw [Nat.zero_add]; simpa using hu)
                      have hOE : Hid ((w6.alloc (.cells #[.slice A2 ul c2] 31)).ownsRow (gp + 1) 31 1 (.slice AE i cE) i xs) := (hPk6.out.alloc _).oe
                      have hw2 : Hid ((i + 1) * 24 ≤ 140737488355328) := by show _ ≤ _; omega
                      have hw3 : Hid (gp + 1 ≤ (w6.alloc (.cells #[.slice A2 ul c2] 31)).heap.size) := by have := hB6.out; show _ ≤ _; simp; omega
                      have hpE : Hid (∀ v7 w7, Grew (w6.alloc (.cells #[.slice A2 ul c2] 31)) (gp + 1) 31 1 (.slice AE i cE) i 1 xs [.slice A2 ul c2] v7 w7 → _) := fun v7 w7 hG => hPk6.out.pushE hbl.out (by have := hgp.out; have := hgw.out; omega) (by omega) (A := A2) (c := c2) (k := ul) (q := u) hul.out hu2c.out hu2n.out hr6.out (fun a e h0 => by
                        have h1 := hA2.out a e
                        obtain ⟨b', o', e', hlt', -⟩ := hr6.out.at_ (by omega)
                        rw [e] at e'
                        obtain rfl := Option.some.inj e'
                        refine ⟨hlt', fun hx => ?_⟩
                        rcases hx with hx | hx | hx
                        · have := hgx.out; have h1 : w1.heap.size ≤ b' := h1; have hx : b' < gp + 1 := hx; omega
                        · rcases hx with hx | hx
                          · rcases hYw.out _ hx.symm with h2 | h2
                            · have := hXl.out _ (.inr (.inl (.inl h2.symm))); have h1 : w1.heap.size ≤ b' := h1; have this : b' < w1.heap.size := this; omega
                            · exact hnu4.out h0 _ _ e h2
                          · rcases hYe.out _ hx.symm with h2 | h2
                            · have := hXl.out _ (.inr (.inl (.inr h2.symm))); have h1 : w1.heap.size ≤ b' := h1; have this : b' < w1.heap.size := this; omega
                            · exact hnu6.out h0 _ _ e h2
                        · have := hXl.out _ (.inr (.inr hx)); have h1 : w1.heap.size ≤ b' := h1; have this : b' < w1.heap.size := this; omega) hG
                      go_upto_region 25 with ((with_reducible change wpList _ _ _ ({ dst := some 118, op := _, type := _, pos := _, after := _, guard := _ } :: _) _ _); refine wpList_append_src _ (o := ⟨some 118, _, _, _, _, _⟩) rfl (.tmp 115) (.tmp 117) 24 rfl (gp + 1) 31 j0 (.slice none 0 0) 1 24 Tryd.underlying24 hj jz0 jz1 jz2 rfl (by decide) (.slice AE i cE) i xs rfl hOE.out (some ⟨w6.heap.size, 0, none⟩) 1 1 [.slice A2 ul c2] rfl hnE.out (fun e => by cases e) (by intro v hv; simp only [List.mem_singleton] at hv; rw [hv]; rfl) hw1.out hw2.out hw3.out ?_; intro v7 w7 hG; obtain ⟨AE7, cE7, rfl, -⟩ := Append.Own.reads hG.own; have hpk := Lib.hid (hpE.out _ _ hG); have cE34 : w7.cell? ⟨gp, 34, none⟩ = some (.slice AE i cE) := (hpk.out.2.2.2.2.cell 34).trans (by rw [List.getElem?_toArray]; exact pc_events hbl.out); have fE34 := hpk.out.2.2.2.2.frozen 34; clear hG)
                      have k8 : Kept (fun k => some k = Value.ownBlock (.slice AE i cE) ∨ k = gp) w6 (w7.setCell ⟨gp, 34, none⟩ (.slice AE7 (i + 1) cE7)) := hpk.out.2.1
                      have hPk8 := Lib.hid hpk.out.1
                      have hS8 : Hid (∀ k, (some k = Value.ownBlock (.slice AE i cE) ∨ k = gp) → gp ≤ k) := fun k hs => by
                        rcases hs with hs | hs
                        · have := (hPk6.out.oe.lt k hs.symm).1; omega
                        · omega
                      have hOw8 := Lib.hid (own_keep hOw6.out k8 (fun k e hs => by
                        rcases hs with hs | hs
                        · exact own_own hOw6.out hPk6.out.oe (by decide) k e hs.symm
                        · have := (hOw6.out.lt k e).1; omega))
                      have hOe8 := Lib.hid (own_keep hOe6.out k8 (fun k e hs => by
                        rcases hs with hs | hs
                        · exact own_own hOe6.out hPk6.out.oe (by decide) k e hs.symm
                        · have := (hOe6.out.lt k e).1; omega))
                      have hR8 : Hid (Rd (w7.setCell ⟨gp, 34, none⟩ (.slice AE7 (i + 1) cE7)) g q A' c' (m + 8 + 4 + k4 + 32 * cnt)) := rd_far (B := gp) hR6.out k8 (fun k _ s => hS8.out k s) hgp.out hAp.out
                      have hB8 : Hid (gp + 1 ≤ (w7.setCell ⟨gp, 34, none⟩ (.slice AE7 (i + 1) cE7)).heap.size) := Nat.le_trans hB6.out k8.size
                      have c35 : (w7.setCell ⟨gp, 34, none⟩ (.slice AE7 (i + 1) cE7)).cell? ⟨gp, 35, none⟩ = some (.slice AP i cP) := (hPk8.out.bk.cell 35).trans (by rw [List.getElem?_toArray]; exact pc_proofs hbl.out)
                      generalize w7.setCell ⟨gp, 34, none⟩ (.slice AE7 (i + 1) cE7) = w8 at *
                      clear hpk k8 hS8 hPk6 hOw6 hOe6 hR6 hr6 hB6 hw2 hw3 hnE hOE hpE c34 cE34 fE34 hYw hYe hnu4 hnu6
                      obtain ⟨pr, hpr⟩ : ∃ pr : Pr, Hid (pr = pr0 Z at_) := ⟨_, Lib.hid rfl⟩
                      have hprc : Hid (pr.cells = [.int .i64 Z, .int .i64 at_, .slice none 0 0]) := by show _ = _; rw [hpr.out]; rfl
                      have q1 : Hid (∀ v ∈ [pr.cells], v.length = 3) := by intro v hv; simp only [List.mem_singleton] at hv; rw [hv]; rfl
                      have x1 : Hid ([pr.cells].flatten.toArray = pr.cells.toArray) := by show _ = _; simp
                      have hnP : Hid (Reads (w8.alloc (.cells pr.cells.toArray 51)) 3 (some ⟨w8.heap.size, 0, none⟩) 1 pr.cells) := Blk.reads (Blk.new w8 51 pr.cells.toArray) 0 _ rfl (fun j u hu => by rw [Nat.zero_add, List.getElem?_toArray]; exact hu)
                      have hOP : Hid ((w8.alloc (.cells pr.cells.toArray 51)).ownsRow (gp + 1) 51 3 (.slice AP i cP) i ((ys.map (pr0 Z)).flatMap Pr.cells)) := (hPk8.out.alloc _).op
                      have hw2 : Hid ((i + 1) * 40 ≤ 140737488355328) := by show _ ≤ _; omega
                      have hw3 : Hid (gp + 1 ≤ (w8.alloc (.cells pr.cells.toArray 51)).heap.size) := by have := hB8.out; show _ ≤ _; simp; omega
                      have hone : Hid (∀ v ∈ pr.cells, v.oneCell' = true) := by intro v hv; rw [hprc.out] at hv; simp only [List.mem_cons, List.not_mem_nil, or_false] at hv; rcases hv with rfl | rfl | rfl <;> rfl
                      have hpP : Hid (∀ v9 w9, Grew (w8.alloc (.cells pr.cells.toArray 51)) (gp + 1) 51 3 (.slice AP i cP) i 1 ((ys.map (pr0 Z)).flatMap Pr.cells) pr.cells v9 w9 → _) := fun v9 w9 hG => hPk8.out.pushP hbl.out (by have := hgp.out; have := hgw.out; omega) (by omega) pr (by rw [hpr.out]; exact RdD.nil_ _ _) (by rw [hpr.out]; exact Nat.le_refl _) (fun a e => by
                        rw [hpr.out] at e
                        cases e) hG
                      go_upto_region 26 with (first
                        | ((with_reducible change wpList _ _ _ ({ dst := some 125, op := _, type := _, pos := _, after := _, guard := _ } :: _) _ _); refine wpList_buildAggs (o := ⟨some 125, _, _, _, _, _⟩) rfl 77 51 1 _ rfl 3 (by decide) [pr.cells] Tryd.underlying77 sizeIn zeroIn rfl (by decide) (by decide) q1.out (by rw [hprc.out]; rfl) ?_; rw [x1.out])
                        | ((with_reducible change wpList _ _ _ ({ dst := some 126, op := _, type := _, pos := _, after := _, guard := _ } :: _) _ _); refine wpList_append_src _ (o := ⟨some 126, _, _, _, _, _⟩) rfl (.tmp 121) (.tmp 125) 77 rfl (gp + 1) 51 n0 (.agg #[.int .i64 0, .int .i64 0, .slice none 0 0]) 3 40 Tryd.underlying77 hn0 nz0 nz1 nz2 rfl (by decide) (.slice AP i cP) i ((ys.map (pr0 Z)).flatMap Pr.cells) rfl hOP.out (some ⟨w8.heap.size, 0, none⟩) 1 1 pr.cells rfl hnP.out (fun e => by cases e) hone.out hw1.out hw2.out hw3.out ?_; intro v9 w9 hG; obtain ⟨AP9, cP9, rfl, -⟩ := Append.Own.reads hG.own; have hpk := Lib.hid (hpP.out _ _ hG); have cP35 : w9.cell? ⟨gp, 35, none⟩ = some (.slice AP i cP) := (hpk.out.2.2.2.2.cell 35).trans (by rw [List.getElem?_toArray]; exact pc_proofs hbl.out); have fP35 := hpk.out.2.2.2.2.frozen 35; clear hG))
                      have k10 : Kept (fun k => some k = Value.ownBlock (.slice AP i cP) ∨ k = gp) w8 (w9.setCell ⟨gp, 35, none⟩ (.slice AP9 (i + 1) cP9)) := hpk.out.2.1
                      have hPkF := Lib.hid hpk.out.1
                      have hOwF := Lib.hid (own_keep hOw8.out k10 (fun k e hs => by
                        rcases hs with hs | hs
                        · exact own_own hOw8.out hPk8.out.op (by decide) k e hs.symm
                        · have := (hOw8.out.lt k e).1; omega))
                      have hOeF := Lib.hid (own_keep hOe8.out k10 (fun k e hs => by
                        rcases hs with hs | hs
                        · exact own_own hOe8.out hPk8.out.op (by decide) k e hs.symm
                        · have := (hOe8.out.lt k e).1; omega))
                      have hRF : Hid (Rd (w9.setCell ⟨gp, 35, none⟩ (.slice AP9 (i + 1) cP9)) g q A' c' (m + 8 + 4 + k4 + 32 * cnt)) := rd_far (B := gp) hR8.out k10 (fun k _ hs => by
                        rcases hs with hs | hs
                        · have := (hPk8.out.op.lt k hs.symm).1; omega
                        · omega) hgp.out hAp.out
                      have hBF : Hid (gp + 1 ≤ (w9.setCell ⟨gp, 35, none⟩ (.slice AP9 (i + 1) cP9)).heap.size) := Nat.le_trans hB8.out k10.size
                      have hym : Hid ((ys.map (pr0 Z)) ++ [pr] = (ys ++ [at_]).map (pr0 Z)) := by show _ = _; rw [List.map_append, List.map_singleton, hpr.out]
                      rw [hym.out] at hPkF
                      have hshF : Hid ((ks ++ [mm]).length = i + 1 ∧ (ks ++ [mm]).sum = t4 ∧ (dl ++ ds).length = t4 ∧ Digs (dl ++ ds) ∧ (∀ k ∈ ks ++ [mm], k ≤ 40) ∧ (∀ x ∈ ts ++ [u], x.length ≤ 65536) ∧ (ys ++ [at_]).length = i + 1 ∧ t4 ≤ 40 * (i + 1)) := by
                        obtain ⟨s1, s2, s3, s4, s5, s6, s7, s8⟩ := hsh.out
                        have h4 := ht4.out
                        have h5 := hmm40.out
                        refine ⟨by simp [s1], by rw [List.sum_append]; simp; omega, by rw [List.length_append, s3, hdsl.out, h4], s4.append_ hdsd.out, fun k hk => ?_, fun x hx => ?_, by simp [s7], by omega⟩
                        · rcases List.mem_append.1 hk with hk | hk
                          · exact s5 k hk
                          · rw [List.mem_singleton.1 hk]; exact h5
                        · rcases List.mem_append.1 hx with hx | hx
                          · exact s6 x hx
                          · rw [List.mem_singleton.1 hx, hul.out]; exact hul6.out
                      have hk4' : Hid (k4 = n4 q (m + 8)) := hk4.out.symm
                      have hmF : Hid (m + 8 + 4 + k4 + 32 * cnt = plc q (i + 1)) := by
                        show _ = _
                        rw [plc_succ, ← hx1.out]
                        unfold nxt
                        rw [← hk4'.out, ← hNm.out, ← hcz.out]
                      have hexF : Hid (m + 8 + 4 + k4 + 32 * cnt ≤ q.length → m + 8 + 4 + k4 + 32 * cnt = plc q (i + 1) ∧ ts ++ [u] = ((pcRows q).take (i + 1)).map (·.e) ∧ ys ++ [at_] = ((pcRows q).take (i + 1)).map (fun r => (r.y : Int)) ∧ ks ++ [mm] = ((pcRows q).take (i + 1)).map (·.ds.length) ∧ dl ++ ds = ((pcRows q).take (i + 1)).flatMap (·.ds)) := fun h => by
                        rw [hate2.out]
                        exact row_ok (by rw [← hNN.out]; exact hlt'.out) hx1.out hx2.out hx3.out hx4.out hx5.out hNm.out hk4'.out hu'.out hcz.out hd3x.out h
                      have hin' : Hid (i + 1 ≤ n) := hlt'.out
                      clear hpk k10 hPk8 hOw8 hOe8 hR8 hB8 hw1 hw2 hw3 hnP hOP hone hpP c35 cP35 fP35 hsh hx1 hx2 hx3 hx4 hx5 hNm hcz hk4 hk4' hd3x hu' hym
                      go_wp2_with fail
                      go_roundw
                      case rel => exact ⟨i + 1, t4, m + 8 + 4 + k4 + 32 * cnt, cw4, ce6, cE7, cP9, Aw4, Ae6, AE7, AP9, _, _, _, _, _, rfl, rfl, by go_num, hin'.out, hPkF.out, hOwF.out, hOeF.out, hRF.out, hshF.out, hexF.out, fun _ => hmF.out, hBF.out⟩
                      case measure => (have := hin'.out; simp [intOf]; omega)
                    · have hXX : Hid (X = zAns 8) := hno.out (fun h => hbo (hrow.out h).2.2.2.2)
                      have hW := Lib.hid (why_bad g w2 (hbn.out hbo).2)
                      clear hbo
                      go_wp2_with fail
                      refine hW.out.mono ?_
                      rintro e w' ⟨wv, rfl, hwv, rfl⟩
                      go_wp2_with ((with_reducible change wpList _ _ _ ({ dst := none, op := Op.store 83 _ _, type := _, pos := _, after := _, guard := _ } :: _) _ _); refine wpList_store_row (o := ⟨none, _, _, _, _, _⟩) rfl 83 (.tmp 2) (.tmp 103) rfl (w.heap.size) (zP) rfl rfl 83 (zP) hRes.out zP_size rfl zP_one ?_)
                      refine bodyPost_ret (results_cell_row2 rfl _ _ w.heap.size 83 zP (0, 0) _ rfl (setRow_heap _ _ _ _ _ _ hRes.out) Tryd.underlying83 rfl zP_size) rfl ?_
                      rw [hXX.out]
                      exact zpost rfl (below_setRow hbe.out (Nat.le_refl _) _)
              · have hin2 : i = n := by have := hin.out; omega
                subst hin2
                obtain ⟨wA, rfl⟩ : ∃ wA, wA = wr := ⟨_, rfl⟩
                have y3 : ¬ ((i : Int) < (i : Int)) := by omega
                obtain ⟨bP, hAP, hbP1, hbP2⟩ : ∃ bP, AP = some ⟨bP, 0, none⟩ ∧ gp + 1 ≤ bP ∧ bP < wA.heap.size := by
                  have h1 := hPk.out.op.2
                  rcases h1 with ⟨-, h2⟩ | ⟨bP, cap, cur, h2, h3, h4, -⟩
                  · have := hn1'.out; omega
                  · injection h2 with h2
                    exact ⟨bP, h2, h3, (Array.getElem?_eq_some_iff.1 h4).1⟩
                subst hAP
                obtain ⟨s1, s2, s3, s4, s5, s6, s7, s8⟩ := hsh.out
                have hP0 : Hid (RowP wA bP i 0 (fun r => pr0 Z (ys.getD r 0)) (prAt Z ys ks dl Aw)) := RowP.first _ _ hPk.out.op (fun r hr => by
                  rw [List.getElem?_map, List.getElem?_eq_getElem (show r < ys.length by omega), List.getD_eq_getElem?_getD, List.getElem?_eq_getElem (show r < ys.length by omega)]
                  rfl)
                obtain ⟨bE, oE, hAe, hbE, hcE⟩ : ∃ bE oE, Ae = some ⟨bE, oE, none⟩ ∧ bE ≠ bP ∧ ∀ wr, Kept (· = bP) wA wr → ∀ j, j < i → wr.cell? ⟨bE, oE + j, none⟩ = some (.int .i64 (low ks (j + 1) : Int)) := by
                  obtain ⟨A5, c5, e5, -, -, -, hr5, hA5⟩ := Append.Own.reads hOe.out
                  injection e5 with e5 _ _
                  subst e5
                  obtain ⟨bE, oE, e6, hlt6, hc6⟩ := hr5.at_ (by have := hn1'.out; omega)
                  have hne : bE ≠ bP := fun e => own_own hOe.out hPk.out.op (by decide) bE (by rw [e6]; rfl) (by rw [e]; rfl)
                  exact ⟨bE, oE, e6, hne, fun wr hk j hj => (hk.cell (p := ⟨bE, oE + j, none⟩) hlt6 hne).trans (hc6 j _ (endsL_at (by omega)))⟩
                subst hAe
                have hbE' := Lib.hid hbE
                have hcE' := Lib.hid hcE
                have hbP1' := Lib.hid hbP1
                have hbP2' := Lib.hid hbP2
                have hAw : Hid (RdD wA Aw t dl ∧ t ≤ cw) := by
                  obtain ⟨A5, c5, e5, hc5, -, -, hr5, -⟩ := Append.Own.reads hOw.out
                  injection e5 with e5 _ e6
                  subst e5 e6
                  exact ⟨⟨s3, s4, hr5⟩, hc5⟩
                have hks : Hid (ks.length = i) := s1
                have hsum : Hid (ks.sum = t) := s2
                have ht40 : Hid (t ≤ 40000) := by show _ ≤ _; omega
                have h35 : Hid (∀ wr, Kept (· = bP) wA wr → wr.cell? ⟨gp, 35, none⟩ = some (.slice (some ⟨bP, 0, none⟩) i cP)) := fun wr hk => (hk.cell (p := ⟨gp, 35, none⟩) hPk.out.bk.lt (by show ¬ gp = bP; omega)).trans ((hPk.out.bk.cell 35).trans (by rw [List.getElem?_toArray]; exact pc_proofs hbl.out))
                have hAwb : Hid (∀ b o, Aw = some ⟨b, o, none⟩ → b ≠ bP ∧ gp + 1 ≤ b) := fun b o e => by
                  have e2 : Value.ownBlock (.slice Aw t cw) = some b := by rw [e]; rfl
                  exact ⟨fun h => own_own hOw.out hPk.out.op (by decide) b e2 (by rw [h]; rfl), (hOw.out.lt b e2).1⟩
                have hts6 : Hid (∀ x ∈ ts, x.length ≤ 65536) := s6
                have hk40 : Hid (∀ k ∈ ks, k ≤ 40) := s5
                have htl : Hid (ts.length = i) := by
                  obtain ⟨-, -, -, -, -, -, h⟩ := Txa.pieces hPk.out.oe hPk.out.tx
                  exact h
                have hfin : Hid (∀ w', Kept (fun k => k = bP ∨ k = w.heap.size) wA w' → RowP w' bP i i (fun r => pr0 Z (ys.getD r 0)) (prAt Z ys ks dl Aw) → Pieces w' AE ts ∧ Prs w' (some ⟨bP, 0, none⟩) (prs Z ys ks dl Aw)) := fun w' K hP => by
                  have oe := own_keep hPk.out.oe K (fun k e hs => by
                    rcases hs with hs | hs
                    · exact own_own hPk.out.oe hPk.out.op (by decide) k e (by rw [hs]; rfl)
                    · have := (hPk.out.oe.lt k e).1; have := hgw.out; have := hgp.out; omega)
                  obtain ⟨A9, c9, e9, -, -, hpcs, -⟩ := Txa.pieces oe (hPk.out.tx.step K (fun k _ hs => by
                    rcases hs with hs | hs
                    · exact .inr (.inr (.inr (by rw [hs]; rfl)))
                    · exact .inl (by have := hgw.out; have := hgp.out; omega)) (fun _ _ x => x))
                  injection e9 with e9 _ _
                  subst e9
                  have hrd : RdD w' Aw t dl := ⟨hAw.out.1.1, hAw.out.1.2.1, hAw.out.1.2.2.kept K (fun b o e hs => by
                    obtain ⟨h1, h2⟩ := hAwb.out b o e
                    rcases hs with hs | hs
                    · exact h1 hs
                    · have := hgw.out; have := hgp.out; omega)⟩
                  refine ⟨hpcs, ?_, fun p hp => prs_rd hrd hsum.out p hp⟩
                  rw [prs_len, hks.out]
                  exact RowP.reads hP (by rw [prs_len]; exact hks.out) (fun r hr => prs_at (by rw [hks.out]; exact hr))
                have hbk0 : Hid (∀ w', Kept (· = bP) wA w' → Blk w' gp 83 (pieceCells (strT p) F b (.slice AE i cE) (.slice (some ⟨bP, 0, none⟩) i cP)).toArray) := fun w' hk => hPk.out.bk.kept hk (by show ¬ gp = bP; omega)
                have hrs0 : Hid (∀ w', Kept (· = bP) wA w' → Blk w' w.heap.size 83 zP) := fun w' hk => hPk.out.rs.kept hk (by show ¬ w.heap.size = bP; have := hgw.out; have := hgp.out; omega)
                have hbe0 : Hid (∀ w', Kept (· = bP) wA w' → Below w.heap.size w w') := fun w' hk => below_kept hPk.out.be hk (fun k _ hs => by have hs : k = bP := hs; have := hgw.out; have := hgp.out; omega) hPk.out.be.size
                have hR0 : Hid (∀ w', Kept (· = bP) wA w' → Rd w' g q A' c' m) := fun w' hk => rd_far (B := gp) hR.out hk (fun k _ hs => by have hs : k = bP := hs; omega) hgp.out hAp.out
                clear s1 s2 s3 s4 s5 s6 s7 s8 hbE hcE hbP1 hbP2 hlt hPk hOw hOe hR hsh
                go_wp2_with fail
                clear y3
                go_loopw [19, 131] (fun v19 v131 wr => ∃ j : Nat, v19 = .int .i64 (low ks j : Int) ∧ v131 = .int .i64 (j : Int) ∧ Hid (j ≤ i) ∧ Hid (RowP wr bP i j (fun r => pr0 Z (ys.getD r 0)) (prAt Z ys ks dl Aw)) ∧ Hid (Kept (· = bP) wA wr)) (fun _ v _ => i - (intOf v).toNat)
                case atStart => exact ⟨0, rfl, rfl, Nat.zero_le _, hP0.out, Kept.refl _ _⟩
                case round =>
                  clear hP0
                  obtain ⟨j, rfl, rfl, hji, hP, hK⟩ := hrel
                  by_cases hlt : j < i
                  · have hz : (j : Int) < (i : Int) := by omega
                    have hz0 : (0 : Int) ≤ (j : Int) := by omega
                    have hkj : ks[j]? = some (ks.getD j 0) := by rw [List.getD_eq_getElem?_getD, List.getElem?_eq_getElem (show j < ks.length by rw [hks.out]; exact hlt)]; rfl
                    have hls := low_succ hkj
                    have hle := low_le ks (j + 1)
                    have ce : wr.cell? ⟨bE, oE + j, none⟩ = some (.int .i64 (low ks (j + 1) : Int)) := hcE'.out wr hK.out j hlt
                    have hX3 : Hid (∀ w', (Instr.sliceAt 42 (.slice Aw t cw) (some (.int .i64 (low ks j : Int))) (some (.int .i64 (low ks (j + 1) : Int))) (some (.int .i64 (low ks (j + 1) : Int)))).run Tryd.prog w' = .ok (.slice (prAt Z ys ks dl Aw j).A (prAt Z ys ks dl Aw j).n (prAt Z ys ks dl Aw j).c) w') := fun w' => by
                      rw [run_midD (l := low ks j) (h := low ks (j + 1)) (by omega) (by have := hAw.out.2; have := hsum.out; omega) _ _ _ rfl rfl rfl w']
                      have e : low ks (j + 1) - low ks j = ks.getD j 0 := by omega
                      rw [e]
                      rfl
                    have hlt' : Hid (j < i) := hlt
                    clear hkj hls hle hlt
                    obtain ⟨lo, hlo⟩ : ∃ x, Hid (low ks j = x) := ⟨_, Lib.hid rfl⟩
                    obtain ⟨hi_, hhi⟩ : ∃ x, Hid (low ks (j + 1) = x) := ⟨_, Lib.hid rfl⟩
                    obtain ⟨fA, hfA⟩ : ∃ x, Hid ((prAt Z ys ks dl Aw j).A = x) := ⟨_, Lib.hid rfl⟩
                    obtain ⟨fn, hfn⟩ : ∃ x, Hid ((prAt Z ys ks dl Aw j).n = x) := ⟨_, Lib.hid rfl⟩
                    obtain ⟨fc, hfc⟩ : ∃ x, Hid ((prAt Z ys ks dl Aw j).c = x) := ⟨_, Lib.hid rfl⟩
                    rw [hlo.out, hhi.out, hfA.out, hfn.out, hfc.out] at hX3
                    rw [hhi.out] at ce
                    rw [hlo.out]
                    go_upto_region 31 with fail
                    clear ce
                    refine wp_region_class_tail 10 (Class wr) (by kernel_rfl) (by kernel_rfl) (Class.mk_ ((Below.refl _ _).drew)) ?_
                    refine wpQuiet_val (v := .pointer (some ⟨gp, 35, none⟩)) rfl (fun w' hw' => by go_simp) ?_
                    (intro K hK; go_simp; refine hK _ ?_; clear hK K)
                    refine wpQuiet_val (v := .slice (some ⟨bP, 0, none⟩) i cP) rfl (fun w' hw' => by have hc := h35.out w' (hK.out.trans (Kept.of_below (S := (· = bP)) hw'.below) (fun _ _ h => h)); go_simp) ?_
                    (intro K hK; go_simp; refine hK _ ?_; clear hK K)
                    refine wpQuiet_move rfl (.tmp 20) rfl ?_
                    (intro K hK; go_simp; refine hK _ ?_; clear hK K)
                    refine wpQuiet_move rfl (.tmp 12) rfl ?_
                    (intro K hK; go_simp; refine hK _ ?_; clear hK K)
                    refine wpQuiet_move rfl (.tmp 19) rfl ?_
                    (intro K hK; go_simp; refine hK _ ?_; clear hK K)
                    refine wpQuiet_move rfl (.tmp 21) rfl ?_
                    (intro K hK; go_simp; refine hK _ ?_; clear hK K)
                    refine wpQuiet_move rfl (.tmp 21) rfl ?_
                    (intro K hK; go_simp; refine hK _ ?_; clear hK K)
                    refine wpQuiet_val (v := .slice fA fn fc) rfl (fun w' hw' => by have hc := hX3.out w'; go_simp) ?_
                    (intro K hK; go_simp; refine hK _ ?_; clear hK K)
                    refine wpQuiet_val (v := .pointer (some ⟨bP, j * 3, none⟩)) rfl (fun w' hw' => by go_simp) ?_
                    (intro K hK; go_simp; refine hK _ ?_; clear hK K)
                    refine wpQuiet_val (v := .pointer (some ⟨bP, j * 3 + 2, none⟩)) rfl (fun w' hw' => by go_simp) ?_
                    (intro K hK; go_simp; refine hK _ ?_; clear hK K)
                    refine wpQuiet_nil ?_
                    intro w6 hw6
                    have hK6 : Hid (Kept (· = bP) wA w6) := hK.out.trans (Kept.of_below (S := (· = bP)) hw6.below) (fun _ _ h => h)
                    have hP6 : Hid (RowP w6 bP i j (fun r => pr0 Z (ys.getD r 0)) (prAt Z ys ks dl Aw)) := hP.out.kept (Kept.of_below (S := fun _ => False) hw6.below) (fun h => h)
                    clear hw6
                    simp only [List.drop]
                    have c2 : w6.cell? ⟨bP, j * 3 + 2, none⟩ = some (.slice none 0 0) := by
                      have := hP6.out.cell (i := 2) (u := .slice none 0 0) hlt'.out (by rw [if_neg (by omega)]; rfl)
                      rwa [show 3 * j + 2 = j * 3 + 2 by omega] at this
                    have f2 : w6.frozen? ⟨bP, j * 3 + 2, none⟩ = false := hP6.out.frozen _
                    have hPn : Hid (RowP (w6.setCell ⟨bP, j * 3 + 2, none⟩ (.slice fA fn fc)) bP i (j + 1) (fun r => pr0 Z (ys.getD r 0)) (prAt Z ys ks dl Aw)) := by
                      have := hP6.out.step hlt'.out rfl rfl
                      rw [hfA.out, hfn.out, hfc.out, show 3 * j + 2 = j * 3 + 2 by omega] at this
                      exact this
                    have hKn : Hid (Kept (· = bP) wA (w6.setCell ⟨bP, j * 3 + 2, none⟩ (.slice fA fn fc))) := hK6.out.setCell (.inl rfl) _
                    have hjn : Hid (j + 1 ≤ i) := hlt'.out
                    have hhi2 : Hid (hi_ = low ks (j + 1)) := hhi.out.symm
                    clear hP6 hK6 hX3 hP hK
                    go_wp2_with fail
                    go_roundw
                    case rel => exact ⟨j + 1, by rw [hhi2.out], by go_num, hjn.out, hPn.out, hKn.out⟩
                    case measure => (have := hjn.out; simp [intOf]; omega)
                  · obtain rfl : j = i := by have := hji.out; omega
                    obtain ⟨wB, rfl⟩ : ∃ wB, wB = wr := ⟨_, rfl⟩
                    have hz : ¬ (j : Int) < (j : Int) := by omega
                    clear hlt
                    have hsz : (strT p).size ≤ 140737488355328 := by rw [strT_size]; have := hpl.out; have := hq47.out; omega
                    have hD := Lib.hid (done_any q hq47.out g m A' c' wB (hR0.out wB hK.out))
                    obtain ⟨dv, hdv⟩ : ∃ x, Hid (doneOf m q.length = x) := ⟨_, Lib.hid rfl⟩
                    rw [hdv.out] at hD
                    by_cases hd : m = q.length
                    · have hdv0 : dv = 0 := hdv.out.symm.trans (if_pos hd)
                      subst hdv0
                      obtain ⟨x1, x2, x3, x4, x5⟩ := hex.out (by omega)
                      have hT : (pcRows q).take j = pcRows q := List.take_of_length_le (by rw [pcRows_len, ← hNN.out]; exact Nat.le_refl _)
                      rw [hT] at x2 x3 x4 x5
                      have hps : Hid (PsOf (pcZ q : Int) (pcRows q) (prs Z ys ks dl Aw)) := by
                        rw [x3, x4, x5, hZZ.out]
                        exact prs_of _ _ _
                      have hts : Hid (ts = (pcRows q).map (·.e)) := x2
                      have hend : Hid (pcEnd q = q.length) := by
                        show _ = _
                        rw [← hd, x1, hNN.out]
                        rfl
                      have hokk : Hid (okP (strT p) F b ts (prs Z ys ks dl Aw) ↔ okR (strT (pcS q)) (pcF q : Int) (pcB q) (pcZ q : Int) (pcRows q)) := by
                        rw [hts.out, hSS.out, hFF.out, hBB.out]
                        exact okP_okR hps.out
                      have hpcok : Hid (pcOk q ↔ okP (strT p) F b ts (prs Z ys ks dl Aw)) := ⟨fun h => hokk.out.2 h.2.2, fun h => ⟨hyy.out, hend.out, hokk.out.1 h⟩⟩
                      obtain ⟨rn, hrn⟩ : ∃ x, Hid (reachN (strT p) F b ts (prs Z ys ks dl Aw) = x) := ⟨_, Lib.hid rfl⟩
                      have hokr : Hid (pcOk q ↔ rn = j) := by
                        show _ ↔ _
                        rw [hpcok.out]
                        unfold okP
                        rw [hrn.out, htl.out, prs_len, hks.out]
                        exact ⟨fun h => h.2.2, fun h => ⟨by have := hn1'.out; omega, rfl, h⟩⟩
                      have hRe : Hid (∀ M, Calls Tryd.prog 83 #[.string (strT p), .int .i64 F, .agg (cells8 b).toArray, .slice AE j cE, .slice (some ⟨bP, 0, none⟩) j cP] (wB.drewN M) fun e w' => e = .returned (.int .i64 (rn : Int)) ∧ Below (wB.drewN M).heap.size (wB.drewN M) w') := fun M => by
                        have h := hfin.out (wB.drewN M) ((hK.out.drewN M).mono (fun _ _ h => .inl h)) (hP.out.kept (S := fun _ => False) ((Kept.refl _ wB).drewN M) (fun h => h))
                        rw [← hrn.out]
                        exact reach_any (strT p) hsz F b hbl.out ts j htl.out (by have := hn1000.out; omega) AE cE (prs Z ys ks dl Aw) (by rw [prs_len]; exact hks.out) (some ⟨bP, 0, none⟩) cP _ h.1 h.2 (fun e he => by have := hts6.out e he; omega) (fun x hx => by
                          obtain ⟨r, hr, rfl⟩ := List.mem_map.1 hx
                          rw [List.mem_range] at hr
                          have : ks.getD r 0 ≤ 40 := by
                            rw [List.getD_eq_getElem?_getD, List.getElem?_eq_getElem hr]
                            exact hk40.out _ (List.getElem_mem hr)
                          show ks.getD r 0 < _
                          omega)
                      have hbB : Hid (∀ M, Blk (wB.drewN M) gp 83 (pieceCells (strT p) F b (.slice AE j cE) (.slice (some ⟨bP, 0, none⟩) j cP)).toArray) := fun M => (hbk0.out wB hK.out).drewN M
                      have sD : Hid ((Tryd.prog.info? 23).map (·.size) = some (cells8 b).length) := by show _ = _; rw [cells8_len, hbl.out]; exact size31
                      clear hd x1 x2 x3 x4 x5 hT hsz hdv
                      by_cases hrj : rn = j
                      · have zr : ((rn : Int) != (j : Int)) = false := by rw [hrj]; simp
                        have hpok : Hid (pcOk q) := hokr.out.2 hrj
                        have hXX : Hid (X = pcGot q) := hyes.out hpok.out
                        clear hrj
                        go_wp2_with (first
                          | (go_at_call 68; refine hD.out.mono ?_; rintro e w3 ⟨rfl, M, rfl⟩; have b0 : (wB.drewN M).cell? ⟨gp, 0, none⟩ = some (.string (strT p)) := ((hbB.out M).cell 0).trans (by rw [List.getElem?_toArray]; exact pc_name); have b1 : (wB.drewN M).cell? ⟨gp, 1, none⟩ = some (.int .i64 F) := ((hbB.out M).cell 1).trans (by rw [List.getElem?_toArray]; exact pc_first); have b34 : (wB.drewN M).cell? ⟨gp, 34, none⟩ = some (.slice AE j cE) := ((hbB.out M).cell 34).trans (by rw [List.getElem?_toArray]; exact pc_events hbl.out); have b35 : (wB.drewN M).cell? ⟨gp, 35, none⟩ = some (.slice (some ⟨bP, 0, none⟩) j cP) := ((hbB.out M).cell 35).trans (by rw [List.getElem?_toArray]; exact pc_proofs hbl.out); have hRe := Lib.hid (hRe.out M); have hbM := Lib.hid (hbB.out M); have hKM := Lib.hid (hK.out.drewN M); have hPM := Lib.hid (hP.out.kept (S := fun _ => False) ((Kept.refl _ wB).drewN M) (fun h => h)); clear hD)
                          | ((with_reducible change wpList _ _ _ ({ dst := some 157, op := _, type := _, pos := _, after := _, guard := _ } :: _) _ _); (with_reducible refine Veil.out ?_); refine wpList_partW (o := ⟨some 157, _, _, _, _, _⟩) rfl 23 (.tmp 156) rfl (gp) (2) rfl (cells8 b) _ (fun jj v h => by rw [hbM.out.cell (2 + jj), List.getElem?_toArray]; exact pc_before jj v h) Tryd.underlying23 rfl sD.out ?_)
                          | (go_at_call 83; refine hRe.out.mono ?_; rintro e w5 ⟨rfl, hb5⟩; have hK5 := Lib.hid (hKM.out.trans (Kept.of_below (S := (· = bP)) hb5) (fun _ _ h => h)); have hP5 := Lib.hid (hPM.out.kept (S := fun _ => False) (Kept.of_below hb5) (fun h => h)); have hrs5 := Lib.hid (hrs0.out _ hK5.out); have hbe5 := Lib.hid (hbe0.out _ hK5.out); have hbk5 := Lib.hid (hbk0.out _ hK5.out); clear hb5 hRe hbM hKM hPM b0 b1 b34 b35)
                          | ((with_reducible change wpList _ _ _ ({ dst := some 167, op := _, type := _, pos := _, after := _, guard := _ } :: _) _ _); refine wpList_load_row (o := ⟨some 167, _, _, _, _, _⟩) rfl 83 (.tmp 6) rfl (gp) rfl 83 ((pieceCells (strT p) F b (.slice AE j cE) (.slice (some ⟨bP, 0, none⟩) j cP)).toArray) (0, 0) _ hbk5.out Tryd.underlying83 rfl (pc_info hbl.out) ?_)
                          | ((with_reducible change wpList _ _ _ ({ dst := none, op := Op.store 83 _ _, type := _, pos := _, after := _, guard := _ } :: _) _ _); refine wpList_store_row (o := ⟨none, _, _, _, _, _⟩) rfl 83 (.tmp 2) (.tmp 167) rfl (w.heap.size) ((pieceCells (strT p) F b (.slice AE j cE) (.slice (some ⟨bP, 0, none⟩) j cP)).toArray) rfl rfl 83 (zP) hrs5.out (pc_info hbl.out) (pc_size hbl.out).symm (pc_one rfl rfl) ?_))
                        refine bodyPost_ret (results_cell_row2 rfl _ _ w.heap.size 83 (pieceCells (strT p) F b (.slice AE j cE) (.slice (some ⟨bP, 0, none⟩) j cP)).toArray (0, 0) _ rfl (setRow_heap _ _ _ _ _ _ hrs5.out) Tryd.underlying83 rfl (pc_info hbl.out)) rfl ?_
                        rw [hXX.out]
                        have K9 : Kept (fun k => k = bP ∨ k = w.heap.size) wA (w5.setRow w.heap.size (pieceCells (strT p) F b (.slice AE j cE) (.slice (some ⟨bP, 0, none⟩) j cP)).toArray) := Bytes.Kept.setRow (S := fun k => k = bP ∨ k = w.heap.size) (hK5.out.mono (fun _ _ h => .inl h)) (.inr rfl) _
                        obtain ⟨f1, f2⟩ := hfin.out _ K9 (hP5.out.kept (S := (· = w.heap.size)) (Bytes.Kept.setRow (S := (· = w.heap.size)) (Kept.refl _ _) rfl _) (by show ¬ bP = w.heap.size; have := hgw.out; have := hgp.out; have := hbP1'.out; omega))
                        refine ⟨AE, j, cE, some ⟨bP, 0, none⟩, cP, prs Z ys ks dl Aw, ?_, ?_, hps.out, ?_, f2, below_setRow hbe5.out (Nat.le_refl _) _⟩
                        · show _ = Ending.returned (.tuple #[.agg (pieceCells (strT (pcS q)) (pcF q : Int) (pcB q) _ _).toArray, .int .i64 0])
                          rw [← hSS.out, ← hFF.out, ← hBB.out]
                          rfl
                        · show (pcRows q).length = j
                          rw [pcRows_len, ← hNN.out]
                        · show Pieces _ _ ((pcRows q).map (·.e))
                          rw [← hts.out]
                          exact f1
                      · have zr : ((rn : Int) != (j : Int)) = true := by simp; omega
                        have hXX : Hid (X = zAns 8) := hno.out (fun h => hrj (hokr.out.1 h))
                        clear hrj
                        go_wp2_with (first
                          | (go_at_call 68; refine hD.out.mono ?_; rintro e w3 ⟨rfl, M, rfl⟩; have b0 : (wB.drewN M).cell? ⟨gp, 0, none⟩ = some (.string (strT p)) := ((hbB.out M).cell 0).trans (by rw [List.getElem?_toArray]; exact pc_name); have b1 : (wB.drewN M).cell? ⟨gp, 1, none⟩ = some (.int .i64 F) := ((hbB.out M).cell 1).trans (by rw [List.getElem?_toArray]; exact pc_first); have b34 : (wB.drewN M).cell? ⟨gp, 34, none⟩ = some (.slice AE j cE) := ((hbB.out M).cell 34).trans (by rw [List.getElem?_toArray]; exact pc_events hbl.out); have b35 : (wB.drewN M).cell? ⟨gp, 35, none⟩ = some (.slice (some ⟨bP, 0, none⟩) j cP) := ((hbB.out M).cell 35).trans (by rw [List.getElem?_toArray]; exact pc_proofs hbl.out); have hRe := Lib.hid (hRe.out M); have hbM := Lib.hid (hbB.out M); have hKM := Lib.hid (hK.out.drewN M); have hPM := Lib.hid (hP.out.kept (S := fun _ => False) ((Kept.refl _ wB).drewN M) (fun h => h)); clear hD)
                          | ((with_reducible change wpList _ _ _ ({ dst := some 157, op := _, type := _, pos := _, after := _, guard := _ } :: _) _ _); (with_reducible refine Veil.out ?_); refine wpList_partW (o := ⟨some 157, _, _, _, _, _⟩) rfl 23 (.tmp 156) rfl (gp) (2) rfl (cells8 b) _ (fun jj v h => by rw [hbM.out.cell (2 + jj), List.getElem?_toArray]; exact pc_before jj v h) Tryd.underlying23 rfl sD.out ?_)
                          | (go_at_call 83; refine hRe.out.mono ?_; rintro e w5 ⟨rfl, hb5⟩; have hK5 := Lib.hid (hKM.out.trans (Kept.of_below (S := (· = bP)) hb5) (fun _ _ h => h)); have hP5 := Lib.hid (hPM.out.kept (S := fun _ => False) (Kept.of_below hb5) (fun h => h)); have hrs5 := Lib.hid (hrs0.out _ hK5.out); have hbe5 := Lib.hid (hbe0.out _ hK5.out); have hbk5 := Lib.hid (hbk0.out _ hK5.out); clear hb5 hRe hbM hKM hPM b0 b1 b34 b35)
                          | ((with_reducible change wpList _ _ _ ({ dst := none, op := Op.store 83 _ _, type := _, pos := _, after := _, guard := _ } :: _) _ _); refine wpList_store_row (o := ⟨none, _, _, _, _, _⟩) rfl 83 (.tmp 2) (.tmp 166) rfl (w.heap.size) (zP) rfl rfl 83 (zP) hrs5.out zP_size rfl zP_one ?_))
                        refine bodyPost_ret (results_cell_row2 rfl _ _ w.heap.size 83 zP (0, 0) _ rfl (setRow_heap _ _ _ _ _ _ hrs5.out) Tryd.underlying83 rfl zP_size) rfl ?_
                        rw [hXX.out]
                        exact zpost rfl (below_setRow hbe5.out (Nat.le_refl _) _)
                    · have hdv8 : dv = 8 := hdv.out.symm.trans (if_neg hd)
                      subst hdv8
                      have hXX : Hid (X = zAns 8) := hno.out (fun h => hd (by
                        rw [hpc.out h, ← h.2.1, hNN.out]
                        rfl))
                      clear hd hsz hdv
                      go_wp2_with (first
                        | (go_at_call 68; refine hD.out.mono ?_; rintro e w3 ⟨rfl, M, rfl⟩; have hrs3 := Lib.hid (hrs0.out _ (hK.out.drewN M)); have hbe3 := Lib.hid (hbe0.out _ (hK.out.drewN M)); clear hD)
                        | ((with_reducible change wpList _ _ _ ({ dst := none, op := Op.store 83 _ _, type := _, pos := _, after := _, guard := _ } :: _) _ _); refine wpList_store_row (o := ⟨none, _, _, _, _, _⟩) rfl 83 (.tmp 2) (.tmp 166) rfl (w.heap.size) (zP) rfl rfl 83 (zP) hrs3.out zP_size rfl zP_one ?_))
                      refine bodyPost_ret (results_cell_row2 rfl _ _ w.heap.size 83 zP (0, 0) _ rfl (setRow_heap _ _ _ _ _ _ hrs3.out) Tryd.underlying83 rfl zP_size) rfl ?_
                      rw [hXX.out]
                      exact zpost rfl (below_setRow hbe3.out (Nat.le_refl _) _)
      · have hwy8 : wy = 8 := hwy.out.symm.trans (if_neg hl)
        subst hwy8
        have hXX : Hid (X = zAns 8) := hno.out (fun h => hl (hlen.out h))
        clear hl
        go_wp2_with (first
          | (go_at_call 66; refine hW.out.mono ?_; rintro e w' ⟨rfl, rfl⟩)
          | ((with_reducible change wpList _ _ _ ({ dst := none, op := Op.store 83 _ _, type := _, pos := _, after := _, guard := _ } :: _) _ _); refine wpList_store_row (o := ⟨none, _, _, _, _, _⟩) rfl 83 (.tmp 2) (.tmp 75) rfl (w.heap.size) (zP) rfl rfl 83 (zP) hRes.out zP_size rfl zP_one ?_))
        refine bodyPost_ret (results_cell_row2 rfl _ _ w.heap.size 83 zP (0, 0) _ rfl (setRow_heap _ _ _ _ _ _ hRes.out) Tryd.underlying83 rfl zP_size) rfl ?_
        rw [hXX.out]
        exact zpost rfl (below_setRow hbe.out (Nat.le_refl _) _)
theorem decPiece_any (q : Text) (k : Nat) (hk : q.length = k) (A : Option Addr) (c : Nat) (w : World) (hr : Reads w 1 A k (cells8 q)) (hnil : A = none → k = 0 ∧ c = 0) :
    Calls Tryd.prog 81 #[.slice A k c] w (PPost w (pcAns q)) := by
  by_cases h9 : 2097152 < k
  · exact dp_long q k hk h9 A c w
  · by_cases hn : 1 ≤ k ∧ q.getD 0 0 = 51
    · exact dp_main q k hk h9 hn.1 hn.2 A c w hr hnil
    · exact dp_no q k hk h9 hn A c w hr hnil
end Go.Proofs.YtgldkfaiofkhbaaDoor.DecPiece
