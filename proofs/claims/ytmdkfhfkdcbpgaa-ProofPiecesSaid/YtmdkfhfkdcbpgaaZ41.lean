/-
  Texts of the claim, put into one file: ReadPiece, Law17d, Law17e, ProofPieces.
-/
import Derived.Test.YtmdkfhfkdcbpgaaZ32
import Derived.Test.YtmdkfhfkdcbpgaaZ40
import Derived.Test.YtmdkfhfkdcbpgaaZ18
import Derived.Test.YtmdkfhfkdcbpgaaZ24
import Derived.Test.YtmdkfhfkdcbpgaaZ39
import Derived.Test.YtmdkfhfkdcbpgaaZ33
import Derived.Test.YtmdkfhfkdcbpgaaZ36
import Derived.Test.YtmdkfhfkdcbpgaaZ31
import Derived.Test.YtmdkfhfkdcbpgaaZ12

namespace Go.Proofs.Ytmdkfhfkdcbpgaa.ReadPiece
open Go Go.RowKit Go.Proofs.Ytmdkfhfkdcbpgaa Go.Proofs.Ytmdkfhfkdcbpgaa.HeadMem Go.Proofs.Ytmdkfhfkdcbpgaa.Mem Go.Proofs.Ytmdkfhfkdcbpgaa.Sha Go.Proofs.Ytmdkfhfkdcbpgaa.Bytes Go.Proofs.Ytmdkfhfkdcbpgaa.Append Go.Proofs.Ytmdkfhfkdcbpgaa.Octet Go.Proofs.Ytmdkfhfkdcbpgaa.TreeMath Go.Proofs.Ytmdkfhfkdcbpgaa.TreeMem Go.Proofs.Ytmdkfhfkdcbpgaa.TreeRoot Go.Proofs.Ytmdkfhfkdcbpgaa.Held Go.Proofs.Ytmdkfhfkdcbpgaa.Own Go.Proofs.Ytmdkfhfkdcbpgaa.Reader Go.Proofs.Ytmdkfhfkdcbpgaa.Reader4 Go.Proofs.Ytmdkfhfkdcbpgaa.ProofBeside Go.Proofs.Ytmdkfhfkdcbpgaa.ProofEnc Go.Proofs.Ytmdkfhfkdcbpgaa.ProofIdx Go.Proofs.Ytmdkfhfkdcbpgaa.ProofIdx2 Go.Proofs.Ytmdkfhfkdcbpgaa.IdxMem Go.Proofs.Ytmdkfhfkdcbpgaa.DecIncl Go.Proofs.Ytmdkfhfkdcbpgaa.Ref17 Go.Proofs.Ytmdkfhfkdcbpgaa.Ref17b Go.Proofs.Ytmdkfhfkdcbpgaa.Sides Go.Proofs.Ytmdkfhfkdcbpgaa.Beside17 Go.Proofs.Ytmdkfhfkdcbpgaa.Bytes17 Go.Proofs.Ytmdkfhfkdcbpgaa.Way17 Go.Proofs.Ytmdkfhfkdcbpgaa.Same17 Go.Proofs.Ytmdkfhfkdcbpgaa.Book Go.Proofs.Ytmdkfhfkdcbpgaa.Guard Go.Proofs.Ytmdkfhfkdcbpgaa.ReadIncl Go.Proofs.Ytmdkfhfkdcbpgaa.ReadIdx0 Go.Proofs.Ytmdkfhfkdcbpgaa.DecIdx Go.Proofs.Ytmdkfhfkdcbpgaa.DecIdx2 Go.Proofs.Ytmdkfhfkdcbpgaa.PieceP Go.Proofs.Ytmdkfhfkdcbpgaa.PieceBegins Go.Proofs.Ytmdkfhfkdcbpgaa.Prs Go.Proofs.Ytmdkfhfkdcbpgaa.Reach Go.Proofs.Ytmdkfhfkdcbpgaa.Octet4 Go.Proofs.Ytmdkfhfkdcbpgaa.PieceB Go.Proofs.Ytmdkfhfkdcbpgaa.PieceLay Go.Proofs.Ytmdkfhfkdcbpgaa.RefPiece Go.Proofs.Ytmdkfhfkdcbpgaa.PieceRead Go.Proofs.Ytmdkfhfkdcbpgaa.PieceMem Go.Proofs.Ytmdkfhfkdcbpgaa.PieceMem2 Go.Proofs.Ytmdkfhfkdcbpgaa.Way17S

theorem lg4 (r : Text) (h : r.length ≤ 4) : ∃ L : Nat, L < 4294967296 ∧ lgInt (num r) = (L : Int) := by
  have h1 := num_lt _ r rfl
  have h2 : num r < 4294967296 := Nat.lt_of_lt_of_le h1 (Nat.le_trans (Nat.pow_le_pow_right (by decide) h) (by decide))
  exact ⟨num r, h2, lgInt_le (by omega)⟩
theorem n_of {a b : Nat} (h : (a : Int) = lgInt b) (hb : b ≤ 1099511627776) : a = b := by
  rw [lgInt_le hb] at h
  omega
theorem byte_le (x : BitVec 8) : x.toNat ≤ 1099511627776 := by
  have := x.isLt
  omega
theorem bsOf_le (x y : Int) : bsOf x y ≤ 40 := by
  unfold bsOf
  by_cases h : insideB x y = true
  · have h2 := h
    simp only [insideB, Bool.and_eq_true, decide_eq_true_eq] at h2
    rw [if_pos h, ← beside_sides (n := x.toNat) (i := y.toNat) (by omega)]
    have := besideOf_le (size := x.toNat) (i := y.toNat) (by omega)
    omega
  · rw [if_neg h]
    omega
theorem want_len17 {s : ByteArray} {F : Int} {b : Text} {es : List Text} {ps : List Pr} {t : Text} (hb : b.length = 32) (hd : ∀ x ∈ ps, Digs x.ds ∧ x.ds.length = x.n) (h : pieceWant s F b es ps = some t) : t.length < 100000000 := by
  unfold pieceWant at h
  split at h
  · rename_i hok
    obtain ⟨hf, -, -⟩ := okP_fits hok
    have h64 := hf.s64
    have hn := hf.n1000
    have hr : (rowsB (rowsOf es ps)).length ≤ 70000 * 1000 := by
      refine Nat.le_trans (rowsB_le _ fun r hr => ?_) (Nat.mul_le_mul_left _ (by rw [rows_len hf.len]; exact hn))
      obtain ⟨j, hj, rfl⟩ := List.getElem_of_mem hr
      have hj' : j < es.length := by rw [rows_len hf.len] at hj; exact hj
      have hjp : j < ps.length := by rw [hf.len]; exact hj'
      have e1 := rows_at (List.getElem?_eq_getElem hj') (List.getElem?_eq_getElem hjp)
      rw [List.getElem?_eq_getElem hj] at e1
      rw [Option.some.inj e1]
      obtain ⟨k1, k2⟩ := hf.row j _ _ (List.getElem?_eq_getElem hj') (List.getElem?_eq_getElem hjp)
      obtain ⟨-, -, -, j1, j2, -, -, -, -⟩ := fit_parts k1
      obtain ⟨d1, d2⟩ := hd _ (List.getElem_mem hjp)
      exact ⟨d1, j1, by show (ps[j]).ds.length ≤ 40; rw [d2]; exact j2⟩
    rw [← Option.some.inj h]
    unfold pieceB
    simp only [List.length_append, List.length_singleton, be8_len, be4_len, hb, nm_len]
    omega
  · cases h
theorem round_ok {q u : Text} {i m z : Nat} {y Z bn : Int} {l ts : List Text} {ps : List Pr} {A9 : Option Addr} {ln c9 : Nat} (h : pcOk q) (hi : i < pcN q) (hZ : Z = (pcZ q : Int)) (g1 : m = plc q i) (g2 : ts = ((pcRows q).take i).map (·.e)) (g3 : PsOf (pcZ q : Int) ((pcRows q).take i) ps)
    (hy : m + 8 ≤ q.length → y = lgInt (num ((q.drop m).take 8))) (hN1 : m + 8 + 4 ≤ q.length → (z : Int) = lgInt (num ((q.drop (m + 8)).take 4))) (hu1 : m + 8 + 4 + z ≤ q.length → u = (q.drop (m + 8 + 4)).take z) (hbn : bsOf Z y = bn) (hlf : m + 8 + 4 + z + 32 * bn.toNat ≤ q.length → l = chunks (q.drop (m + 8 + 4 + z)) bn.toNat) (hln : l.length = ln) :
    m + 8 + 4 + z + 32 * bn.toNat = plc q (i + 1) ∧ ts ++ [u] = ((pcRows q).take (i + 1)).map (·.e) ∧ PsOf (pcZ q : Int) ((pcRows q).take (i + 1)) (ps ++ [⟨Z, y, l, A9, ln, c9⟩]) := by
  obtain ⟨f1, f2, f3, f4, f5, f6, f7⟩ := pcOk_row h hi
  have hn := plc_succ q i
  have hx : nxt (cz (pcZ q)) q (plc q i) = plc q i + 12 + n4 q (plc q i + 8) + 32 * cz (pcZ q) (n8 q (plc q i)) := rfl
  subst g1 hZ
  have ey : y = ((n8 q (plc q i) : Nat) : Int) := (hy (by omega)).trans (lgInt_le f4)
  have ez : z = n4 q (plc q i + 8) := n_of (hN1 (by omega)) (Nat.le_trans f2 (by decide))
  subst ey ez
  have eb : bsOf (pcZ q : Int) (n8 q (plc q i) : Int) = (cz (pcZ q) (n8 q (plc q i)) : Int) := bs_eq.2 ⟨f5, f6⟩
  have ebn : bn = ((cz (pcZ q) (n8 q (plc q i)) : Nat) : Int) := hbn.symm.trans eb
  subst ebn
  rw [Int.toNat_natCast] at hlf ⊢
  have eu := hu1 (by omega)
  have el := hlf (by omega)
  have er : (pcRows q)[i]? = some (PieceB.rowAt (cz (pcZ q)) q (plc q i)) := rowsAt_get _ _ _ _ _ hi
  have et : (pcRows q).take (i + 1) = (pcRows q).take i ++ [PieceB.rowAt (cz (pcZ q)) q (plc q i)] := by rw [List.take_add_one, er]; rfl
  refine ⟨by rw [hn, hx], ?_, ?_⟩
  · rw [et, List.map_append, g2, List.map_singleton, eu]
    rfl
  · rw [et]
    refine g3.snoc rfl rfl ?_ ?_
    · show ln = (chunks _ _).length
      rw [chunks_len, ← hln, el, chunks_len]
    · exact el
theorem fin_ok {w W : World} {q p b : Text} {F Z : Int} {L n i gp cE cP B : Nat} {AE AP : Option Addr} {xs : List Value} {ts : List Text} {ps : List Pr} {Y : Nat → Prop} (hok : L = pcL q ∧ p = pcS q ∧ F = (pcF q : Int) ∧ b = pcB q ∧ Z = (pcZ q : Int) ∧ n = pcN q) (hd : ts = (pcRows q).map (·.e) ∧ PsOf (pcZ q : Int) (pcRows q) ps)
    (hPk : Pk w W w.heap.size B gp (pieceCells (strT p) F b (.slice AE i cE) (.slice AP i cP)).toArray (.slice AE i cE) (.slice AP i cP) i i xs ts ps (XB B Y (.slice AE i cE) (.slice AP i cP))) (hB : w.heap.size < B) (cs : Array Value) :
    PPost w (pcGot q) (.returned (.tuple #[.agg (pieceCells (strT p) F b (.slice AE i cE) (.slice AP i cP)).toArray, .int .i64 0])) (W.setRow w.heap.size cs) := by
  obtain ⟨-, e2, e3, e4, -, -⟩ := hok
  obtain ⟨d1, d2⟩ := hd
  have hk : Kept (· = w.heap.size) W (W.setRow w.heap.size cs) := Bytes.Kept.setRow (S := (· = w.heap.size)) (Kept.refl _ _) rfl _
  have oe := own_keep hPk.oe hk (fun k e s => by have := (hPk.oe.lt k e).1; omega)
  have op := own_keep hPk.op hk (fun k e s => by have := (hPk.op.lt k e).1; omega)
  obtain ⟨A', c', e', -, -, hpc, hl⟩ := Txa.pieces oe (hPk.tx.step hk (fun k _ s => .inl (by rw [s]; exact hB)) (fun _ _ x => x))
  injection e' with e1 _ e5
  subst e1 e5
  obtain ⟨A', c', e', -, -, hpp, hlp⟩ := Pra.prs op (hPk.pa.step hk (fun k _ s => .inl (by rw [s]; exact hB)) (fun _ _ x => x))
  injection e' with e1 _ e5
  subst e1 e5
  refine ⟨AE, i, cE, AP, cP, ps, ?_, ?_, d2, by show Pieces _ _ ((pcRows q).map (·.e)); rw [← d1]; exact hpc, hpp, below_setRow hPk.be (Nat.le_refl _) _⟩
  · subst e2 e3 e4
    rfl
  · show (pcRows q).length = i
    rw [← d2.len]
    exact hlp
theorem infoTx : (Try.prog.info? 29).map (fun i => (i.zero, i.size, i.bytes)) = some (some (.slice none 0 0), 1, 24) := by kernel_rfl
theorem infoIn : (Try.prog.info? 48).map (fun i => (i.zero, i.size, i.bytes)) = some (some (.agg #[.int .i64 0, .int .i64 0, .slice none 0 0]), 3, 40) := by kernel_rfl
theorem sizeIn : (Try.prog.info? 48).map (·.size) = some 3 := by kernel_rfl
theorem zeroIn : ((Try.prog.info? 48).bind (·.zero)).isSome = true := by kernel_rfl
theorem next_rqN (q : Text) (hq : q.length < 140737488355328) (g B m n : Nat) (hn : n < 140737488355328) (w : World) (h : RQ w g B q m) :
    Calls Try.prog 60 #[.pointer (some ⟨g, 0, none⟩), .int .i64 (n : Int)] w fun e w' => ∃ A' c' r, e = .returned (.slice A' r.length c') ∧ Reads w' 1 A' r.length (cells8 r) ∧ (A' = none → r.length = 0 ∧ c' = 0) ∧ r.length ≤ q.length ∧ (m + n ≤ q.length → r = (q.drop m).take n) ∧ RQ w' g B q (m + n) ∧ Kept (· = g) w w' ∧ w'.heap.size = w.heap.size := by
  obtain ⟨p, s, n1, n2, n3, n4⟩ := h
  refine (next_any p (by omega) g B n hn s w n1).mono ?_
  rintro e w' ⟨A', c', r, rfl, hr, hnil, -, -, o5, o6, hk, hz⟩
  refine ⟨A', c', r, rfl, hr, hnil, ?_, fun hl => ?_, ?_, hk, hz⟩
  · by_cases hp : n ≤ p.length
    · rw [(o5 hp).1, List.length_take]; omega
    · rw [(o6 (by omega)).1]; exact Nat.zero_le _
  · obtain ⟨rfl, rfl⟩ := n2 (by omega)
    exact (o5 (by rw [List.length_drop]; omega)).1
  · by_cases hp : n ≤ p.length
    · refine ⟨p.drop n, s, (o5 hp).2, fun h => ?_, fun h => ?_, by rw [List.length_drop]; omega⟩
      · obtain ⟨rfl, rfl⟩ := n2 (by omega)
        exact ⟨by rw [List.drop_drop], rfl⟩
      · by_cases hm : m ≤ q.length
        · obtain ⟨rfl, rfl⟩ := n2 hm
          rw [List.length_drop] at hp
          omega
        · exact n3 (by omega)
    · refine ⟨p, true, (o6 (by omega)).2, fun h => ?_, fun _ => rfl, n4⟩
      obtain ⟨rfl, -⟩ := n2 (by omega)
      rw [List.length_drop] at hp
      omega
set_option maxRecDepth 100000 in
set_option maxHeartbeats 1000000 in
theorem read_long (q : Text) (k : Nat) (hk : q.length = k) (h9 : 2097152 < k) (A : Option Addr) (c : Nat) (w : World) :
    Calls Try.prog 45 #[.slice A k c] w (PPost w (pcAns q)) := by
  rw [pcAns_long (by omega)]
  have y1 : (2097152 : Int) < (k : Int) := by omega
  have hB1 : Hid (Blk (w.alloc (.cells zP 44)) w.heap.size 44 zP) := Blk.new w _ _
  have hb1 : Hid (Below w.heap.size w (w.alloc (.cells zP 44))) := Below.heap_below w _
  clear hk h9
  go_enter Try.func45, Try.ntmps45
  go_wp2_with ((with_reducible change wpList _ _ _ ({ dst := none, op := Op.store 44 _ _, type := _, pos := _, after := _, guard := _ } :: _) _ _); refine wpList_store_row (o := ⟨none, _, _, _, _, _⟩) rfl 44 (.tmp 2) (.tmp 14) rfl (w.heap.size) (zP) rfl rfl 44 (zP) hB1.out zP_size rfl zP_one ?_)
  refine bodyPost_ret (results_cell_row2 rfl _ _ w.heap.size 44 zP (0, 0) _ rfl (setRow_heap _ _ _ _ _ _ hB1.out) Try.underlying44 rfl zP_size) rfl ?_
  exact zpost rfl (below_setRow hb1.out (Nat.le_refl _) _)

set_option maxRecDepth 100000 in
set_option maxHeartbeats 8000000 in
theorem read_main (q : Text) (k : Nat) (hk : q.length = k) (h9 : ¬ 2097152 < k) (A : Option Addr) (c : Nat) (hkc : k ≤ c) (w : World) (hr : Reads w 1 A k (cells8 q)) (hnil : A = none → k = 0 ∧ c = 0) :
    Calls Try.prog 45 #[.slice A k c] w (PPost w (pcAns q)) := by
  obtain ⟨i0, hi, hz0, hz1, hz2⟩ := info_parts8 info8
  obtain ⟨j0, hj, jz0, jz1, jz2⟩ := info_parts8 infoTx
  obtain ⟨n0, hn0, nz0, nz1, nz2⟩ := info_partsN infoIn
  obtain ⟨X, hX⟩ : ∃ X, Hid (pcAns q = X) := ⟨_, Lib.hid rfl⟩
  rw [hX.out]
  have y1 : decide ((2097152 : Int) < (k : Int)) = false := decide_eq_false (by omega)
  have y2 : ¬ ((2097152 : Int) < (k : Int)) := by omega
  have hz1' : (w.alloc (.cells zP 44)).heap.size = w.heap.size + 1 := by simp
  have hRes2 : Hid (Blk ((w.alloc (.cells zP 44)).alloc (.cells #[.slice A k c, .bool false] 108)) w.heap.size 44 zP) := (Blk.new w _ _).alloc _
  have hb2 : Hid (Below w.heap.size w ((w.alloc (.cells zP 44)).alloc (.cells #[.slice A k c, .bool false] 108))) := (Below.heap_below w _).alloc (by simp) _
  have hz2' : Hid (((w.alloc (.cells zP 44)).alloc (.cells #[.slice A k c, .bool false] 108)).heap.size = w.heap.size + 2) := by show _ = _; simp
  have hQ2 : Hid (RQ ((w.alloc (.cells zP 44)).alloc (.cells #[.slice A k c, .bool false] 108)) (w.heap.size + 1) w.heap.size q 0) := by
    refine ⟨q, false, ⟨Nat.le_succ _, A, c, ?_, by rw [hk]; exact (hr.alloc _).alloc _, by rw [hk]; exact hnil, fun h0 a e => ?_, by rw [hk]; exact hkc⟩, fun _ => ⟨rfl, rfl⟩, fun h => absurd h (Nat.not_lt_zero _), Nat.le_refl _⟩
    · rw [hk, ← hz1']; exact Blk.new _ _ _
    · obtain ⟨b, o, e', hlt, -⟩ := hr.2 (by omega)
      rw [e] at e'
      obtain rfl := Option.some.inj e'
      exact hlt
  have hq47 : Hid (q.length < 140737488355328) := by show _ < _; omega
  have hqk : Hid (¬ 2097152 < q.length) := by show ¬ _; omega
  have hkk := Lib.hid hk
  have hrr := Lib.hid hr
  clear hk h9 hkc hr hnil hz1'
  go_enter Try.func45, Try.ntmps45
  go_wp2_with fail
  refine (next_rq q hq47.out (w.heap.size + 1) w.heap.size 0 1 (by decide) _ hQ2.out).mono ?_
  rintro e w3 ⟨A1, c1, r1, rfl, -, -, -, -, hRQ3, hk3, hz3⟩
  have hRes3 : Blk w3 w.heap.size 44 zP := hRes2.out.kept hk3 (by omega)
  have hb3 : Below w.heap.size w w3 := hb2.out.trans (Kept.below_of hk3 (by omega) (by have := hz2'.out; omega))
  have hgp : Hid (w3.heap.size = w.heap.size + 2) := hz3.trans hz2'.out
  have hRQ4 : Hid (RQ (w3.alloc (.cells zP 44)) (w.heap.size + 1) w.heap.size q 1) := RQ.kept (S := fun _ => False) hRQ3 ((Kept.refl _ w3).alloc _) (fun h => h) (fun _ _ h => h)
  have hPk4 : Hid (Pk w (w3.alloc (.cells zP 44)) w.heap.size (w.heap.size + 3) w3.heap.size zP (.slice none 0 0) (.slice none 0 0) 0 0 [] [] [] (XB (w.heap.size + 3) (fun _ => False) (.slice none 0 0) (.slice none 0 0))) :=
    ⟨Blk.new w3 _ _, hRes3.alloc _, World.ownsRow_nil _ _ _ _, World.ownsRow_nil _ _ _ _, Txa.nil_ _ _, Pra.nil_ _ _, hb3.alloc hb3.size _⟩
  clear hk3 hz3 hRQ3 hRes3 hb3 hRes2 hb2 hz2' hQ2
  go_wp2_with fail
  refine (number_rq q hq47.out (w.heap.size + 1) w.heap.size 1 1 (by decide) _ hRQ4.out).mono ?_
  rintro e w5 ⟨x, rfl, hx1, ⟨r, hr1, hxr⟩, hRQ5, hk5, hz5⟩
  obtain ⟨L, hL, hxL⟩ := ReadIdx.lg1 r hr1
  rw [← hxr] at hxL
  subst hxL
  have hPk5 := Lib.hid (hPk4.out.keptG hk5 (by omega) (by have := hgp.out; omega) (by omega))
  have hL1 : Hid (2 ≤ q.length → L = pcL q) := fun h => by
    have e := hx1 h
    rw [ReadIdx.num1 h] at e
    exact n_of e (byte_le _)
  generalize w3.heap.size = gp at *
  replace hL := Lib.hid hL
  replace hRQ5 : Hid (RQ w5 (w.heap.size + 1) w.heap.size q 2) := hRQ5
  clear hx1 hxr hr1 hk5 hz5 hPk4 hRQ4
  go_wp2_with fail
  refine (next_rq q hq47.out (w.heap.size + 1) w.heap.size 2 L (by have := hL.out; omega) _ hRQ5.out).mono ?_
  rintro e w6 ⟨A6, c6, p, rfl, hrd6, hpl, hp1, hp2, hRQ6, hk6, hz6⟩
  have hPk6 := Lib.hid (hPk5.out.keptG hk6 (by omega) (by have := hgp.out; omega) (by omega))
  have hcv := Lib.hid (convAny p A6 c6 w6 hrd6)
  have cc6 : w6.cell? ⟨gp, 0, none⟩ = some (.string ByteArray.empty) := hPk6.out.bk.cell 0
  have ff6 := hPk6.out.bk.frozen 0
  replace hRQ6 := Lib.hid hRQ6
  replace hp1 := Lib.hid hp1
  replace hpl := Lib.hid hpl
  clear hrd6 hk6 hz6 hPk5 hRQ5 hp2
  go_wp2_with ((with_reducible change wpList _ _ _ ({ dst := some 24, op := _, type := _, pos := _, after := _, guard := _ } :: _) _ _); refine wpList_conv (o := ⟨some 24, _, _, _, _, _⟩) rfl 29 9 (.tmp 23) rfl _ _ rfl hcv.out ?_)
  have hk7 : Kept (· = gp) w6 (w6.setCell ⟨gp, 0, none⟩ (.string (strT p))) := (Kept.refl (· = gp) w6).setCell (.inl rfl) _
  have hPk7 := Lib.hid (hPk6.out.set_ (by have := hgp.out; omega) (.inl (by have := hgp.out; omega)) 0 (.string (strT p)) (pieceCells (strT p) 0 (List.replicate 32 0) (.slice none 0 0) (.slice none 0 0)).toArray pc_set0)
  have hRQ7 : Hid (RQ (w6.setCell ⟨gp, 0, none⟩ (.string (strT p))) (w.heap.size + 1) w.heap.size q (2 + L)) := hRQ6.out.kept hk7 (by have := hgp.out; omega) (fun a ha h => by have := hgp.out; omega)
  generalize w6.setCell ⟨gp, 0, none⟩ (.string (strT p)) = w7 at *
  clear hk7 hPk6 hRQ6 cc6 ff6 hcv
  refine (number_rq q hq47.out (w.heap.size + 1) w.heap.size (2 + L) 8 (by decide) _ hRQ7.out).mono ?_
  rintro e w8 ⟨F, rfl, hF, -, hRQ8, hk8, hz8⟩
  have hPk8 := Lib.hid (hPk7.out.keptG hk8 (by omega) (by have := hgp.out; omega) (by omega))
  have c8 : w8.cell? ⟨gp, 1, none⟩ = some (.int .i64 0) := hPk8.out.bk.cell 1
  have f8 := hPk8.out.bk.frozen 1
  have hk9 : Kept (· = gp) w8 (w8.setCell ⟨gp, 1, none⟩ (.int .i64 F)) := (Kept.refl (· = gp) w8).setCell (.inl rfl) _
  have hPk9 := Lib.hid (hPk8.out.set_ (by have := hgp.out; omega) (.inl (by have := hgp.out; omega)) 1 (.int .i64 F) (pieceCells (strT p) F (List.replicate 32 0) (.slice none 0 0) (.slice none 0 0)).toArray pc_set1)
  have hRQ9 : Hid (RQ (w8.setCell ⟨gp, 1, none⟩ (.int .i64 F)) (w.heap.size + 1) w.heap.size q (2 + L + 8)) := RQ.kept hRQ8 hk9 (by have := hgp.out; omega) (fun a ha h => by have := hgp.out; omega)
  replace hF := Lib.hid hF
  clear hk8 hz8 hk9 hPk7 hRQ7 hPk8 hRQ8
  go_wp2_with fail
  clear c8 f8
  generalize w8.setCell ⟨gp, 1, none⟩ (.int .i64 F) = w9 at *
  refine (digest_rq q hq47.out (w.heap.size + 1) w.heap.size (2 + L + 8) _ hRQ9.out).mono ?_
  rintro e w10 ⟨b, rfl, hbl, hbb, hRQ10, hk10⟩
  have hPk10 := Lib.hid (hPk9.out.keptG hk10 (by omega) (by have := hgp.out; omega) (by omega))
  have zd2 : (cells8 b).toArray.size = 32 := by rw [List.size_toArray, cells8_len, hbl]
  have zd1 : (cells8 b).length = 32 := by rw [cells8_len, hbl]
  have hdall : Hid (((cells8 b).toArray.all fun v => v.oneCell') = true) := by
    show _ = _
    rw [List.all_toArray]
    exact List.all_eq_true.2 fun v hv => PieceMem.cells8_one v hv
  have hdsz : Hid ((Try.prog.info? 23).map (·.size) = some (cells8 b).toArray.size) := by show _ = _; rw [zd2]; exact size31
  replace hbl := Lib.hid hbl
  replace hbb := Lib.hid hbb
  replace hRQ10 := Lib.hid hRQ10
  clear hk10 hPk9 hRQ9
  go_wp2_with ((with_reducible change wpList _ _ _ ({ dst := none, op := Op.store 23 _ _, type := _, pos := _, after := _, guard := _ } :: _) _ _); refine unhid ?_)
  refine Lib.hid ?_
  with_reducible change wpList _ _ _ ({ dst := none, op := Op.store 23 _ _, type := _, pos := _, after := _, guard := _ } :: _) _ _
  refine wpList_store_part (o := ⟨none, _, _, _, _, _⟩) rfl 23 (.tmp 31) (.tmp 30) rfl gp 2 (cells8 b).toArray rfl rfl 44 (pieceCells (strT p) F (List.replicate 32 0) (.slice none 0 0) (.slice none 0 0)).toArray hPk10.out.bk hdsz.out (by rw [zd2]; exact pc_fit rfl) hdall.out ?_
  rw [pc_setB rfl hbl.out]
  have hk11 : Kept (· = gp) w10 (w10.setRow gp (pieceCells (strT p) F b (.slice none 0 0) (.slice none 0 0)).toArray) := Bytes.Kept.setRow (S := (· = gp)) (Kept.refl _ _) rfl _
  have hPk11 : Hid (Pk w (w10.setRow gp (pieceCells (strT p) F b (.slice none 0 0) (.slice none 0 0)).toArray) w.heap.size (w.heap.size + 3) gp (pieceCells (strT p) F b (.slice none 0 0) (.slice none 0 0)).toArray (.slice none 0 0) (.slice none 0 0) 0 0 [] [] [] (XB (w.heap.size + 3) (fun _ => False) (.slice none 0 0) (.slice none 0 0))) :=
    ⟨setRow_heap _ _ _ _ _ _ hPk10.out.bk, hPk10.out.rs.kept hk11 (by have := hgp.out; omega), World.ownsRow_nil _ _ _ _, World.ownsRow_nil _ _ _ _, Txa.nil_ _ _, Pra.nil_ _ _, hPk10.out.be.trans (Kept.below_of hk11 (by have := hgp.out; omega) hPk10.out.be.size)⟩
  have hRQ11 : Hid (RQ (w10.setRow gp (pieceCells (strT p) F b (.slice none 0 0) (.slice none 0 0)).toArray) (w.heap.size + 1) w.heap.size q (2 + L + 8 + 32)) := hRQ10.out.kept hk11 (by have := hgp.out; omega) (fun a ha h => by have := hgp.out; omega)
  generalize w10.setRow gp (pieceCells (strT p) F b (.slice none 0 0) (.slice none 0 0)).toArray = w11 at *
  clear hk11 hPk10 hRQ10 hdall hdsz zd1 zd2
  go_wp2_with fail
  refine (number_rq q hq47.out (w.heap.size + 1) w.heap.size (2 + L + 8 + 32) 8 (by decide) _ hRQ11.out).mono ?_
  rintro e w12 ⟨Z, rfl, hZ, -, hRQ12, hk12, hz12⟩
  have hPk12 := Lib.hid (hPk11.out.keptG hk12 (by omega) (by have := hgp.out; omega) (by omega))
  replace hRQ12 := Lib.hid hRQ12
  replace hZ := Lib.hid hZ
  clear hk12 hz12 hPk11 hRQ11
  go_wp2_with fail
  refine (number_rq q hq47.out (w.heap.size + 1) w.heap.size (2 + L + 8 + 32 + 8) 4 (by decide) _ hRQ12.out).mono ?_
  rintro e w13 ⟨x, rfl, hN1, ⟨r, hr1, hxr⟩, hRQ13, hk13, hz13⟩
  obtain ⟨n, hn32, hxn⟩ := lg4 r hr1
  rw [← hxr] at hxn
  subst hxn
  have hPk13 := Lib.hid (hPk12.out.keptG hk13 (by omega) (by have := hgp.out; omega) (by omega))
  have hRQ13 : Hid (RQ w13 (w.heap.size + 1) w.heap.size q (54 + L)) := by show RQ _ _ _ _ _; rw [show 54 + L = 2 + L + 8 + 32 + 8 + 4 by omega]; exact hRQ13
  have hok : Hid (pcOk q → L = pcL q ∧ p = pcS q ∧ F = (pcF q : Int) ∧ b = pcB q ∧ Z = (pcZ q : Int) ∧ n = pcN q) := fun h => by
    obtain ⟨f1, f2, f3, f4, f5, f6, f7, f8⟩ := pcOk_facts h
    have e1 := hL1.out (by omega)
    have e2 := hp1.out (by omega)
    have e3 := hF.out (by omega)
    have e4 := hbb.out (by omega)
    have e5 := hZ.out (by omega)
    have e6 := hN1 (by omega)
    rw [e1] at e2 e3 e4 e5 e6
    refine ⟨e1, e2, e3.trans (lgInt_le f4), ?_, e5.trans (?_ : _ = _), ?_⟩
    · rw [e4, show 2 + pcL q + 8 = 10 + pcL q by omega]; rfl
    · rw [show 2 + pcL q + 8 + 32 = 42 + pcL q by omega]; exact lgInt_le f6
    · rw [show 2 + pcL q + 8 + 32 + 8 = 50 + pcL q by omega] at e6
      exact n_of e6 (Nat.le_trans f3 (by decide))
  replace hn32 := Lib.hid hn32
  clear hN1 hxr hr1 hk13 hz13 hPk12 hRQ12 hL1 hp1 hF hbb hZ
  go_wp2_with fail
  go_loopw [8] (fun v wr => ∃ (i m cE cP : Nat) (AE AP : Option Addr) (xs : List Value) (ts : List Text) (ps : List Pr), v = .int .i64 (i : Int) ∧ Hid (i ≤ n) ∧ Hid (Pk w wr w.heap.size (w.heap.size + 3) gp (pieceCells (strT p) F b (.slice AE i cE) (.slice AP i cP)).toArray (.slice AE i cE) (.slice AP i cP) i i xs ts ps (XB (w.heap.size + 3) (fun _ => False) (.slice AE i cE) (.slice AP i cP))) ∧ Hid (RQ wr (w.heap.size + 1) w.heap.size q m) ∧ Hid (∀ x ∈ ts, x.length ≤ q.length) ∧ Hid (∀ x ∈ ps, x.n ≤ 40) ∧ Hid (pcOk q → m = plc q i ∧ ts = ((pcRows q).take i).map (·.e) ∧ PsOf (pcZ q : Int) ((pcRows q).take i) ps)) (fun v _ => n - (intOf v).toNat)
  case atStart => exact ⟨0, 54 + L, 0, 0, none, none, [], [], [], rfl, Nat.zero_le _, hPk13.out, hRQ13.out, (fun x h => by cases h), (fun x h => by cases h), fun h => ⟨by rw [(hok.out h).1]; rfl, rfl, rfl⟩⟩
  case round =>
    clear hPk13 hRQ13
    obtain ⟨i, m, cE, cP, AE, AP, xs, ts, ps, rfl, hin, hPk, hRQ, hts, hps, hgo⟩ := hrel
    have hn := hn32.out
    have hi32 : (i : Int) < 4294967296 := by have := hin.out; omega
    have hRQ' := hRQ.out
    obtain ⟨q1, s1, hRB, hq1, hq2, hq3⟩ := hRQ'
    have cs1 : wr.cell? ⟨w.heap.size + 1, 1, none⟩ = some (.bool s1) := by
      obtain ⟨-, A9, c9, hb9, -⟩ := hRB
      rw [hb9.cell 1]; rfl
    have hok1 : Hid (pcOk q → i < n → s1 = false) := fun h hl => by
      obtain ⟨g1, -, -⟩ := hgo.out h
      have e := (hok.out h).2.2.2.2.2
      have h2 := (pcOk_row h (i := i) (by omega)).1
      have h3 := nxt_ge (cz (pcZ q)) q (plc q i)
      exact (hq1 (by omega)).2
    clear hRB hq1 hq2 hq3
    by_cases hx : i < n ∧ s1 = false
    · obtain ⟨hlt, rfl⟩ := hx
      have y3 : ((i : Int) < (n : Int)) := by omega
      have hlt' : Hid (i < n) := hlt
      clear hlt hn hok1
      have hgq : Hid (w.heap.size + 3 ≤ wr.heap.size) := by
        have h1 := hPk.out.bk.lt
        have h2 := hgp.out
        show _ ≤ _
        omega
      have hEq : Hid (∀ k, Value.ownBlock (.slice AE i cE) = some k → k ≠ wr.heap.size) := fun k e h => by have := (hPk.out.oe.lt k e).2; omega
      have hPq : Hid (∀ k, Value.ownBlock (.slice AP i cP) = some k → k ≠ wr.heap.size) := fun k e h => by have := (hPk.out.op.lt k e).2; omega
      have hPk2 : Hid (Pk w (wr.alloc (.cells #[.int .i64 Z, .int .i64 0, .slice none 0 0] 48)) w.heap.size (w.heap.size + 3) gp (pieceCells (strT p) F b (.slice AE i cE) (.slice AP i cP)).toArray (.slice AE i cE) (.slice AP i cP) i i xs ts ps (XB (w.heap.size + 3) (· = wr.heap.size) (.slice AE i cE) (.slice AP i cP))) := (hPk.out.weak (fun k hl hx => by
        rcases hx with hx | hx | hx
        · exact .inl hx
        · exact absurd hl (by rw [show k = wr.heap.size from hx]; exact Nat.lt_irrefl _)
        · exact .inr (.inr hx))).alloc _
      have hG2 : Hid (Blk (wr.alloc (.cells #[.int .i64 Z, .int .i64 0, .slice none 0 0] 48)) wr.heap.size 48 #[.int .i64 Z, .int .i64 0, .slice none 0 0]) := Blk.new _ _ _
      have hRQ2 : Hid (RQ (wr.alloc (.cells #[.int .i64 Z, .int .i64 0, .slice none 0 0] 48)) (w.heap.size + 1) w.heap.size q m) := RQ.kept (S := fun _ => False) hRQ.out ((Kept.refl _ wr).alloc _) (fun h => h) (fun _ _ h => h)
      have hsz2 : Hid (wr.heap.size < (wr.alloc (.cells #[.int .i64 Z, .int .i64 0, .slice none 0 0] 48)).heap.size) := by show _ < _; simp
      clear hRQ
      go_wp2_with fail
      clear cs1
      generalize wr.alloc (.cells #[.int .i64 Z, .int .i64 0, .slice none 0 0] 48) = w2 at *
      have hszr : Hid (wr.heap.size < w2.heap.size) := hsz2.out
      refine (number_rq q hq47.out (w.heap.size + 1) w.heap.size m 8 (by decide) _ hRQ2.out).mono ?_
      rintro e w3 ⟨y, rfl, hy, -, hRQ3, hk3, hz3⟩
      have hPk3 := hPk2.out.keptG hk3 (by omega) (by have := hgp.out; omega) (by omega)
      have hG3 : Blk w3 wr.heap.size 48 #[.int .i64 Z, .int .i64 0, .slice none 0 0] := hG2.out.kept hk3 (by have := hgq.out; omega)
      have e1 : w3.cell? ⟨wr.heap.size, 1, none⟩ = some (.int .i64 0) := hG3.cell 1
      have e2 := hG3.frozen 1
      have k4 : Kept (· = wr.heap.size) w3 (w3.setCell ⟨wr.heap.size, 1, none⟩ (.int .i64 y)) := (Kept.refl (· = wr.heap.size) _).setCell (.inl rfl) _
      have hPk4 := Lib.hid (hPk3.keptQ k4 (by have := hgq.out; omega) (by have := hgq.out; have := hgp.out; omega) hEq.out hPq.out rfl)
      have hRQ4 : Hid (RQ (w3.setCell ⟨wr.heap.size, 1, none⟩ (.int .i64 y)) (w.heap.size + 1) w.heap.size q (m + 8)) := RQ.kept hRQ3 k4 (by have := hgq.out; omega) (fun a ha h => by have := hgq.out; omega)
      have hG4 : Hid (Blk (w3.setCell ⟨wr.heap.size, 1, none⟩ (.int .i64 y)) wr.heap.size 48 #[.int .i64 Z, .int .i64 y, .slice none 0 0]) := by
        have := hG3.set_ 1 (.int .i64 y)
        exact Lib.hid (by simpa using this)
      have hsz4 : Hid (wr.heap.size < (w3.setCell ⟨wr.heap.size, 1, none⟩ (.int .i64 y)).heap.size) := by show _ < _; have := hsz2.out; simp; omega
      have h34 : (w3.setCell ⟨wr.heap.size, 1, none⟩ (.int .i64 y)).heap.size = w3.heap.size := by simp
      replace hy := Lib.hid hy
      clear hk3 hz3 hPk3 hG3 k4 hPk2 hRQ2 hG2 hRQ3 hsz2
      go_wp2_with fail
      clear e1 e2
      generalize w3.setCell ⟨wr.heap.size, 1, none⟩ (.int .i64 y) = w4 at *
      rw [← h34]
      clear h34
      generalize wr.heap.size = gq at *
      have hXl : Hid (∀ k, XB (w.heap.size + 3) (· = gq) (.slice AE i cE) (.slice AP i cP) k → k < w4.heap.size) := hPk4.out.lt (by have := hgq.out; have := hsz4.out; omega) (fun k e => by rw [show k = gq from e]; exact hsz4.out)
      have hPk5 : Hid (Pk w (w4.alloc (.cells #[] 5)) w.heap.size (w.heap.size + 3) gp (pieceCells (strT p) F b (.slice AE i cE) (.slice AP i cP)).toArray (.slice AE i cE) (.slice AP i cP) i i xs ts ps (XB (w.heap.size + 3) (fun k => k = gq ∨ k = w4.heap.size) (.slice AE i cE) (.slice AP i cP))) := (hPk4.out.weak (fun k hl hx => by
        rcases hx with hx | hx | hx
        · exact .inl hx
        · rcases hx with hx | hx
          · exact .inr (.inl hx)
          · omega
        · exact .inr (.inr hx))).alloc _
      have hRQ5 : Hid (RQ (w4.alloc (.cells #[] 5)) (w.heap.size + 1) w.heap.size q (m + 8)) := RQ.kept (S := fun _ => False) hRQ4.out ((Kept.refl _ w4).alloc _) (fun h => h) (fun _ _ h => h)
      have hG5 : Hid (Blk (w4.alloc (.cells #[] 5)) gq 48 #[.int .i64 Z, .int .i64 y, .slice none 0 0]) := hG4.out.alloc _
      have hO5 : Hid ((w4.alloc (.cells #[] 5)).ownsRow w4.heap.size 5 1 (.slice (some ⟨w4.heap.size, 0, none⟩) 0 0) 0 (cells8 [])) := own_new w4 w4.heap.size (Nat.le_refl _) 5 #[] 0 rfl (by unfold maxLen; omega)
      have hsz5 : Hid (w4.heap.size < (w4.alloc (.cells #[] 5)).heap.size) := by show _ < _; simp
      refine (number_rq q hq47.out (w.heap.size + 1) w.heap.size (m + 8) 4 (by decide) _ hRQ5.out).mono ?_
      rintro e w6 ⟨x, rfl, hN1, ⟨r, hr1, hxr⟩, hRQ6, hk6, hz6⟩
      obtain ⟨z, hz32, hxz⟩ := lg4 r hr1
      rw [← hxr] at hxz
      subst hxz
      have hPk6 := Lib.hid (hPk5.out.keptG hk6 (by omega) (by have := hgp.out; omega) (by omega))
      have hG6 : Hid (Blk w6 gq 48 #[.int .i64 Z, .int .i64 y, .slice none 0 0]) := hG5.out.kept hk6 (by have := hgq.out; omega)
      have hO6 : Hid (w6.ownsRow w4.heap.size 5 1 (.slice (some ⟨w4.heap.size, 0, none⟩) 0 0) 0 (cells8 [])) := own_keep hO5.out hk6 (fun k e h => by have := (hO5.out.lt k e).1; have := hsz4.out; have := hgq.out; omega)
      have hsz6 : Hid (w4.heap.size < w6.heap.size) := Nat.lt_of_lt_of_le hsz5.out hk6.size
      replace hRQ6 := Lib.hid hRQ6
      replace hN1 := Lib.hid hN1
      replace hz32 := Lib.hid hz32
      clear hxr hr1 hk6 hz6 hPk5 hG5 hO5 hRQ5 hPk4 hG4 hRQ4 hsz5
      go_wp2_with fail
      refine (next_rqN q hq47.out (w.heap.size + 1) w.heap.size (m + 8 + 4) z (by have := hz32.out; omega) _ hRQ6.out).mono ?_
      rintro e w7 ⟨A7, c7, u, rfl, hu7, hu7n, hul, hu1, hRQ7, hk7, hz7⟩
      have hPk7 := Lib.hid (hPk6.out.keptG hk7 (by omega) (by have := hgp.out; omega) (by omega))
      have hG7 : Hid (Blk w7 gq 48 #[.int .i64 Z, .int .i64 y, .slice none 0 0]) := hG6.out.kept hk7 (by have := hgq.out; omega)
      have hO7 : Hid (w7.ownsRow w4.heap.size 5 1 (.slice (some ⟨w4.heap.size, 0, none⟩) 0 0) 0 (cells8 [])) := own_keep hO6.out hk7 (fun k e h => by have := (hO6.out.lt k e).1; have := hsz4.out; have := hgq.out; omega)
      have hsz7 : Hid (w4.heap.size < w7.heap.size) := Nat.lt_of_lt_of_le hsz6.out hk7.size
      obtain ⟨ul, hull⟩ : ∃ x, Hid (u.length = x) := ⟨_, Lib.hid rfl⟩
      have hul2 : Hid (ul ≤ q.length) := by rw [← hull.out]; exact hul
      have hul3 : (ul : Int) < 140737488355328 := by have := hul2.out; have := hq47.out; omega
      rw [hull.out] at hu7 hu7n ⊢
      have hm1 : Hid (0 + ul ≤ maxLen) := by show _ ≤ _; unfold maxLen; omega
      have hm2 : Hid ((0 + ul) * 1 ≤ 140737488355328) := by show _ ≤ _; omega
      replace hu7 := Lib.hid hu7
      replace hu7n := Lib.hid hu7n
      replace hu1 := Lib.hid hu1
      replace hRQ7 := Lib.hid hRQ7
      clear hul hk7 hz7 hPk6 hG6 hO6 hRQ6 hsz6
      go_upto_region 18 with ((with_reducible change wpList _ _ _ ({ dst := some 58, op := _, type := _, pos := _, after := _, guard := _ } :: _) _ _); refine wpList_append_src _ (o := ⟨some 58, _, _, _, _, _⟩) rfl (.tmp 53) (.tmp 57) 29 rfl w4.heap.size 5 i0 (.int .u8 0) 1 1 Try.underlying29 hi hz0 hz1 hz2 rfl (by decide) (.slice (some ⟨w4.heap.size, 0, none⟩) 0 0) 0 (cells8 []) rfl hO7.out A7 ul c7 (cells8 u) rfl hu7.out hu7n.out (Bytes.cells8_one u) hm1.out hm2.out (Nat.le_of_lt hsz7.out) ?_; intro v8 w8 hG; have hO8 := hG.own; rw [Nat.zero_add] at hO8; have hO8 : w8.ownsRow w4.heap.size 5 1 v8 ul (cells8 u) := hO8; obtain ⟨A8, c8, rfl, hc8, hn8, hr8, hA8⟩ := own_reads hO8; replace hr8 := Lib.hid hr8; replace hA8 := Lib.hid hA8; replace hc8 := Lib.hid hc8; replace hn8 := Lib.hid hn8; have hB8 : Hid (∀ a, A8 = some a → a.block < w8.heap.size) := (fun a e => (hO8.lt a.block (by rw [e]; rfl)).2); replace hO8 := Lib.hid hO8; have hkG : Kept (· = w4.heap.size) w7 w8 := (grew_kept hG).mono (fun k _ h => Option.some.inj h); clear hG)
      have hPk8 := Lib.hid (hPk7.out.keptQ hkG (by have := hsz4.out; have := hgq.out; omega) (by have := hsz4.out; have := hgq.out; have := hgp.out; omega) (fun k e h => by have := hXl.out k (.inr (.inr (.inl e.symm))); omega) (fun k e h => by have := hXl.out k (.inr (.inr (.inr e.symm))); omega) (.inr rfl))
      have hPk8 : Hid (Pk w w8 w.heap.size (w.heap.size + 3) gp (pieceCells (strT p) F b (.slice AE i cE) (.slice AP i cP)).toArray (.slice AE i cE) (.slice AP i cP) i i xs ts ps (XB (w.heap.size + 3) (· = gq) (.slice AE i cE) (.slice AP i cP))) := hPk8.out.weak (fun k hl hx => by
        rcases hx with hx | hx | hx
        · exact .inl hx
        · exact .inr (.inl (.inl hx))
        · exact .inr (.inr hx))
      have hRQ8 : Hid (RQ w8 (w.heap.size + 1) w.heap.size q (m + 8 + 4 + z)) := hRQ7.out.kept hkG (by have := hsz4.out; have := hgq.out; omega) (fun a ha h => by have := hsz4.out; have := hgq.out; omega)
      have hG8 : Hid (Blk w8 gq 48 #[.int .i64 Z, .int .i64 y, .slice none 0 0]) := hG7.out.kept hkG (by have := hsz4.out; omega)
      have hsz8 : Hid (w4.heap.size < w8.heap.size) := Nat.lt_of_lt_of_le hsz7.out hkG.size
      have c8y : w8.cell? ⟨gq, 1, none⟩ = some (.int .i64 y) := hG8.out.cell 1
      clear hkG hPk7 hRQ7 hG7 hO7 hu7 hu7n hm1 hm2 hsz7
      go_wp2_with fail
      refine (beside17_any Z y w8).mono ?_
      rintro e w9 ⟨rfl, hw⟩
      have hw := hw.symm
      subst hw
      obtain ⟨bn, hbn⟩ : ∃ x, Hid (bsOf Z y = x) := ⟨_, Lib.hid rfl⟩
      rw [hbn.out]
      go_wp2_with fail
      clear c8y
      refine (way_rqS q hq47.out (w.heap.size + 1) w.heap.size (m + 8 + 4 + z) bn (by have := bsOf_le Z y; have := hbn.out; omega) _ hRQ8.out).mono ?_
      rintro e w9 ⟨l, A9, c9, rfl, hl9, hn9, hc9, hlN, hlf, hnew, hRQ9, hk9⟩
      have hPk9 := hPk8.out.keptG hk9 (by omega) (by have := hgp.out; omega) (by omega)
      have hG9 : Blk w9 gq 48 #[.int .i64 Z, .int .i64 y, .slice none 0 0] := hG8.out.kept hk9 (by have := hgq.out; omega)
      have hr9 : Reads w9 1 A8 ul (cells8 u) := hr8.out.kept hk9 (fun b o e h => by have h1 : w4.heap.size ≤ b := hA8.out _ e; have h2 : b = w.heap.size + 1 := h; have h3 := hsz4.out; have h4 := hgq.out; omega)
      have f1 : w9.cell? ⟨gq, 2, none⟩ = some (.slice none 0 0) := hG9.cell 2
      have f2 := hG9.frozen 2
      have k10 : Kept (· = gq) w9 (w9.setCell ⟨gq, 2, none⟩ (.slice A9 l.length c9)) := (Kept.refl (· = gq) _).setCell (.inl rfl) _
      have hPk10 := Lib.hid (hPk9.keptQ k10 (by have := hgq.out; omega) (by have := hgq.out; have := hgp.out; omega) hEq.out hPq.out rfl)
      have hRQ10 : Hid (RQ (w9.setCell ⟨gq, 2, none⟩ (.slice A9 l.length c9)) (w.heap.size + 1) w.heap.size q (m + 8 + 4 + z + 32 * bn.toNat)) := RQ.kept hRQ9 k10 (by have := hgq.out; omega) (fun a ha h => by have := hgq.out; omega)
      have hG10 : Hid (Blk (w9.setCell ⟨gq, 2, none⟩ (.slice A9 l.length c9)) gq 48 #[.int .i64 Z, .int .i64 y, .slice A9 l.length c9]) := by
        have := hG9.set_ 2 (.slice A9 l.length c9)
        exact Lib.hid (by simpa using this)
      have hr10 : Hid (Reads (w9.setCell ⟨gq, 2, none⟩ (.slice A9 l.length c9)) 1 A8 ul (cells8 u)) := hr9.kept k10 (fun b o e h => by have h1 : w4.heap.size ≤ b := hA8.out _ e; have h2 : b = gq := h; have h3 := hsz4.out; omega)
      have hl10 : Hid (RdD (w9.setCell ⟨gq, 2, none⟩ (.slice A9 l.length c9)) A9 l.length l) := ⟨hl9.1, hl9.2.1, hl9.2.2.kept k10 (fun b o e h => by have h1 : w8.heap.size ≤ b := (hnew _ e).1; have h2 : b = gq := h; have h3 := hsz4.out; have h4 := hsz8.out; omega)⟩
      have hz10 : Hid (w8.heap.size ≤ (w9.setCell ⟨gq, 2, none⟩ (.slice A9 l.length c9)).heap.size) := by show _ ≤ _; have := hk9.size; simp; omega
      have hA9 : Hid (∀ a, A9 = some a → w8.heap.size ≤ a.block ∧ a.block < (w9.setCell ⟨gq, 2, none⟩ (.slice A9 l.length c9)).heap.size) := fun a e => by have := hnew a e; simpa using this
      obtain ⟨ln, hln⟩ : ∃ x, Hid (l.length = x) := ⟨_, Lib.hid rfl⟩
      have hln40 : Hid (ln ≤ 40) := by rw [hln.out] at hlN; have := bsOf_le Z y; have := hbn.out; show _ ≤ _; omega
      rw [hln.out] at hn9 hc9 hA9 hPk10 hRQ10 hG10 hr10 hl10 hz10 ⊢
      replace hn9 := Lib.hid hn9
      replace hc9 := Lib.hid hc9
      replace hlf := Lib.hid hlf
      clear hnew hlN hk9 hPk9 hG9 hr9 k10 hPk8 hRQ8 hG8 hr8 hl9 hRQ9
      have hXl10 : Hid (∀ k, XB (w.heap.size + 3) (· = gq) (.slice AE i cE) (.slice AP i cP) k → k < w4.heap.size) := hXl.out
      have c34 : (w9.setCell ⟨gq, 2, none⟩ (.slice A9 ln c9)).cell? ⟨gp, 34, none⟩ = some (.slice AE i cE) := (hPk10.out.bk.cell 34).trans (by rw [List.getElem?_toArray]; exact pc_events hbl.out)
      go_upto_region 19 with fail
      clear f1 f2
      generalize w9.setCell ⟨gq, 2, none⟩ (.slice A9 ln c9) = w10 at *
      have hB10 : Hid (w.heap.size + 3 ≤ w10.heap.size) := by have := hz10.out; have := hsz8.out; have := hsz4.out; have := hgq.out; show _ ≤ _; omega
      have hnE : Hid (Reads (w10.alloc (.cells #[.slice A8 ul c8] 29)) 1 (some ⟨w10.heap.size, 0, none⟩) 1 [.slice A8 ul c8]) := Blk.reads (Blk.new w10 29 #[.slice A8 ul c8]) 0 _ rfl (fun j u hu => by rw [Nat.zero_add]; simpa using hu)
      have hOE : Hid ((w10.alloc (.cells #[.slice A8 ul c8] 29)).ownsRow (w.heap.size + 3) 29 1 (.slice AE i cE) i xs) := (hPk10.out.alloc _).oe
      have hs1 : Hid (i + 1 ≤ maxLen) := by show _ ≤ _; unfold maxLen; omega
      have hs2 : Hid ((i + 1) * 24 ≤ 140737488355328) := by show _ ≤ _; omega
      have hs3 : Hid (w.heap.size + 3 ≤ (w10.alloc (.cells #[.slice A8 ul c8] 29)).heap.size) := by have := hB10.out; show _ ≤ _; simp; omega
      have hpE : Hid (∀ v11 w11, Grew (w10.alloc (.cells #[.slice A8 ul c8] 29)) (w.heap.size + 3) 29 1 (.slice AE i cE) i 1 xs [.slice A8 ul c8] v11 w11 → _) := fun v11 w11 hG => hPk10.out.pushE hbl.out (by have := hgp.out; omega) (by have := hgp.out; omega) (A := A8) (c := c8) (k := ul) (q := u) hull.out hc8.out hn8.out hr10.out (fun a e _ => by
        have h1 : w4.heap.size ≤ a.block := hA8.out a e
        have h2 : a.block < w8.heap.size := hB8.out a e
        have h3 := hz10.out
        exact ⟨by omega, fun hx => by have := hXl.out _ hx; omega⟩) hG
      go_upto_region 20 with ((with_reducible change wpList _ _ _ ({ dst := some 70, op := _, type := _, pos := _, after := _, guard := _ } :: _) _ _); refine wpList_append_src _ (o := ⟨some 70, _, _, _, _, _⟩) rfl (.tmp 67) (.tmp 69) 41 rfl (w.heap.size + 3) 29 j0 (.slice none 0 0) 1 24 Try.underlying41 hj jz0 jz1 jz2 rfl (by decide) (.slice AE i cE) i xs rfl hOE.out (some ⟨w10.heap.size, 0, none⟩) 1 1 [.slice A8 ul c8] rfl hnE.out (fun e => by cases e) (by intro v hv; simp only [List.mem_singleton] at hv; rw [hv]; rfl) hs1.out hs2.out hs3.out ?_; intro v11 w11 hG; obtain ⟨A11, c11, rfl, -⟩ := Append.Own.reads hG.own; have hpk := Lib.hid (hpE.out _ _ hG); have cE34 : w11.cell? ⟨gp, 34, none⟩ = some (.slice AE i cE) := (hpk.out.2.2.2.2.cell 34).trans (by rw [List.getElem?_toArray]; exact pc_events hbl.out); have fE34 := hpk.out.2.2.2.2.frozen 34; clear hG)
      clear hpE hOE hnE hs1 hs2 hs3 c34
      have k12 : Kept (fun k => some k = Value.ownBlock (.slice AE i cE) ∨ k = gp) w10 (w11.setCell ⟨gp, 34, none⟩ (.slice A11 (i + 1) c11)) := hpk.out.2.1
      have hPk12 := Lib.hid hpk.out.1
      have hEn := Lib.hid hpk.out.2.2.2.1
      have hS12 : Hid (∀ k, (some k = Value.ownBlock (.slice AE i cE) ∨ k = gp) → k < w4.heap.size ∧ k ≠ gq ∧ k ≠ w.heap.size + 1 ∧ w.heap.size ≤ k) := fun k hs => by
        rcases hs with hs | hs
        · have h1 := hXl.out k (.inr (.inr (.inl hs)))
          have h2 := hEq.out k hs.symm
          have h3 := (hPk10.out.oe.lt k hs.symm).1
          exact ⟨h1, h2, by omega, by omega⟩
        · have h1 := hgp.out
          have h2 := hgq.out
          have h3 := hsz4.out
          exact ⟨by omega, by omega, by omega, by omega⟩
      have hRQ12 : Hid (RQ (w11.setCell ⟨gp, 34, none⟩ (.slice A11 (i + 1) c11)) (w.heap.size + 1) w.heap.size q (m + 8 + 4 + z + 32 * bn.toNat)) := hRQ10.out.kept k12 (fun hs => (hS12.out _ hs).2.2.1 rfl) (fun a ha hs => by have := (hS12.out _ hs).2.2.2; omega)
      have hG12 : Hid (Blk (w11.setCell ⟨gp, 34, none⟩ (.slice A11 (i + 1) c11)) gq 48 #[.int .i64 Z, .int .i64 y, .slice A9 ln c9]) := hG10.out.kept k12 (fun hs => (hS12.out _ hs).2.1 rfl)
      have hl12 : Hid (RdD (w11.setCell ⟨gp, 34, none⟩ (.slice A11 (i + 1) c11)) A9 ln l) := ⟨hl10.out.1, hl10.out.2.1, hl10.out.2.2.kept k12 (fun b o e hs => by have h1 := (hS12.out _ hs).1; have h2 := (hA9.out _ e).1; have h3 := hsz8.out; have h2 : w8.heap.size ≤ b := h2; omega)⟩
      have hsz12 : Hid (w10.heap.size ≤ (w11.setCell ⟨gp, 34, none⟩ (.slice A11 (i + 1) c11)).heap.size) := k12.size
      have c35 : (w11.setCell ⟨gp, 34, none⟩ (.slice A11 (i + 1) c11)).cell? ⟨gp, 35, none⟩ = some (.slice AP i cP) := (hPk12.out.bk.cell 35).trans (by rw [List.getElem?_toArray]; exact pc_proofs hbl.out)
      generalize w11.setCell ⟨gp, 34, none⟩ (.slice A11 (i + 1) c11) = w12 at *
      clear hpk k12 hPk10 hRQ10 hG10 hl10 cE34 fE34
      obtain ⟨pr, hpr⟩ : ∃ pr : Pr, Hid (pr = ⟨Z, y, l, A9, ln, c9⟩) := ⟨_, Lib.hid rfl⟩
      have hprc : Hid (pr.cells = [.int .i64 Z, .int .i64 y, .slice A9 ln c9]) := by show _ = _; rw [hpr.out]; rfl
      have q1 : Hid (∀ v ∈ [pr.cells], v.length = 3) := by intro v hv; simp only [List.mem_singleton] at hv; rw [hv]; rfl
      have x1 : Hid ([pr.cells].flatten.toArray = pr.cells.toArray) := by show _ = _; simp
      have hnP : Hid (Reads (w12.alloc (.cells pr.cells.toArray 48)) 3 (some ⟨w12.heap.size, 0, none⟩) 1 pr.cells) := Blk.reads (Blk.new w12 48 pr.cells.toArray) 0 _ rfl (fun j u hu => by rw [Nat.zero_add, List.getElem?_toArray]; exact hu)
      have hOP : Hid ((w12.alloc (.cells pr.cells.toArray 48)).ownsRow (w.heap.size + 3) 48 3 (.slice AP i cP) i (ps.flatMap Pr.cells)) := (hPk12.out.alloc _).op
      have hs1 : Hid (i + 1 ≤ maxLen) := by show _ ≤ _; unfold maxLen; omega
      have hs2 : Hid ((i + 1) * 40 ≤ 140737488355328) := by show _ ≤ _; omega
      have hs3 : Hid (w.heap.size + 3 ≤ (w12.alloc (.cells pr.cells.toArray 48)).heap.size) := by have := hB10.out; have := hsz12.out; show _ ≤ _; simp; omega
      have hone : Hid (∀ v ∈ pr.cells, v.oneCell' = true) := by intro v hv; rw [hprc.out] at hv; simp only [List.mem_cons, List.not_mem_nil, or_false] at hv; rcases hv with rfl | rfl | rfl <;> rfl
      have hpP : Hid (∀ v13 w13, Grew (w12.alloc (.cells pr.cells.toArray 48)) (w.heap.size + 3) 48 3 (.slice AP i cP) i 1 (ps.flatMap Pr.cells) pr.cells v13 w13 → _) := fun v13 w13 hG => hPk12.out.pushP hbl.out (by have := hgp.out; omega) (by have := hgp.out; omega) pr (by rw [hpr.out]; exact hl12.out) (by rw [hpr.out]; exact hc9.out) (fun a e => by
        rw [hpr.out] at e
        obtain ⟨h1, h2⟩ := hA9.out a e
        have h3 := hsz12.out
        refine ⟨by omega, fun hx => ?_⟩
        have h5 := hsz8.out
        rcases hx with hx | hx | hx | hx
        · have := hXl.out _ (.inl hx); omega
        · have := hXl.out _ (.inr (.inl hx)); omega
        · rcases hEn.out _ hx.symm with h4 | h4
          · have := hXl.out _ (.inr (.inr (.inl h4.symm))); omega
          · omega
        · have := hXl.out _ (.inr (.inr (.inr hx))); omega) hG
      go_upto_region 13 with (first
        | ((with_reducible change wpList _ _ _ ({ dst := some 74, op := _, type := _, pos := _, after := _, guard := _ } :: _) _ _); refine wpList_load_row (o := ⟨some 74, _, _, _, _, _⟩) rfl 48 (.tmp 9) rfl (gq) rfl 48 (#[.int .i64 Z, .int .i64 y, .slice A9 ln c9]) (0, 0) _ hG12.out Try.underlying48 rfl sizeIn ?_; rw [show (#[.int .i64 Z, .int .i64 y, .slice A9 ln c9] : Array Value) = pr.cells.toArray by rw [hprc.out]])
        | ((with_reducible change wpList _ _ _ ({ dst := some 75, op := _, type := _, pos := _, after := _, guard := _ } :: _) _ _); refine wpList_buildAggs (o := ⟨some 75, _, _, _, _, _⟩) rfl 42 48 1 _ rfl 3 (by decide) [pr.cells] Try.underlying42 sizeIn zeroIn rfl (by decide) (by decide) q1.out rfl ?_; rw [x1.out])
        | ((with_reducible change wpList _ _ _ ({ dst := some 76, op := _, type := _, pos := _, after := _, guard := _ } :: _) _ _); refine wpList_append_src _ (o := ⟨some 76, _, _, _, _, _⟩) rfl (.tmp 73) (.tmp 75) 42 rfl (w.heap.size + 3) 48 n0 (.agg #[.int .i64 0, .int .i64 0, .slice none 0 0]) 3 40 Try.underlying42 hn0 nz0 nz1 nz2 rfl (by decide) (.slice AP i cP) i (ps.flatMap Pr.cells) rfl hOP.out (some ⟨w12.heap.size, 0, none⟩) 1 1 pr.cells rfl hnP.out (fun e => by cases e) hone.out hs1.out hs2.out hs3.out ?_; intro v13 w13 hG; obtain ⟨A13, c13, rfl, -⟩ := Append.Own.reads hG.own; have hpk := Lib.hid (hpP.out _ _ hG); have cP35 : w13.cell? ⟨gp, 35, none⟩ = some (.slice AP i cP) := (hpk.out.2.2.2.2.cell 35).trans (by rw [List.getElem?_toArray]; exact pc_proofs hbl.out); have fP35 := hpk.out.2.2.2.2.frozen 35; clear hG))
      have k14 : Kept (fun k => some k = Value.ownBlock (.slice AP i cP) ∨ k = gp) w12 (w13.setCell ⟨gp, 35, none⟩ (.slice A13 (i + 1) c13)) := hpk.out.2.1
      have hPkF : Hid (Pk w (w13.setCell ⟨gp, 35, none⟩ (.slice A13 (i + 1) c13)) w.heap.size (w.heap.size + 3) gp (pieceCells (strT p) F b (.slice A11 (i + 1) c11) (.slice A13 (i + 1) c13)).toArray (.slice A11 (i + 1) c11) (.slice A13 (i + 1) c13) (i + 1) (i + 1) (xs ++ [.slice A8 ul c8]) (ts ++ [u]) (ps ++ [pr]) (XB (w.heap.size + 3) (fun _ => False) (.slice A11 (i + 1) c11) (.slice A13 (i + 1) c13))) := hpk.out.1.weak (fun k hl hx => by
        rcases hx with hx | hx | hx
        · exact .inl hx
        · exact hx.elim
        · exact .inr (.inr hx))
      have hRQ14 : Hid (RQ (w13.setCell ⟨gp, 35, none⟩ (.slice A13 (i + 1) c13)) (w.heap.size + 1) w.heap.size q (m + 8 + 4 + z + 32 * bn.toNat)) := hRQ12.out.kept k14 (fun hs => by
        rcases hs with hs | hs
        · have := (hPk12.out.op.lt _ hs.symm).1; omega
        · have := hgp.out; omega) (fun a ha hs => by
        rcases hs with hs | hs
        · have := (hPk12.out.op.lt _ hs.symm).1; omega
        · have := hgp.out; omega)
      have hts' : Hid (∀ x ∈ ts ++ [u], x.length ≤ q.length) := fun x hx => by
        rcases List.mem_append.1 hx with hx | hx
        · exact hts.out x hx
        · rw [List.mem_singleton.1 hx, hull.out]; exact hul2.out
      have hps' : Hid (∀ x ∈ ps ++ [pr], x.n ≤ 40) := fun x hx => by
        rcases List.mem_append.1 hx with hx | hx
        · exact hps.out x hx
        · rw [List.mem_singleton.1 hx, hpr.out]; exact hln40.out
      have hgo' : Hid (pcOk q → m + 8 + 4 + z + 32 * bn.toNat = plc q (i + 1) ∧ ts ++ [u] = ((pcRows q).take (i + 1)).map (·.e) ∧ PsOf (pcZ q : Int) ((pcRows q).take (i + 1)) (ps ++ [pr])) := fun h => by
        obtain ⟨g1, g2, g3⟩ := hgo.out h
        have h0 := hok.out h
        rw [hpr.out]
        exact round_ok h (by rw [← h0.2.2.2.2.2]; exact hlt'.out) h0.2.2.2.2.1 g1 g2 g3 hy.out hN1.out hu1.out hbn.out hlf.out hln.out
      have hin' : Hid (i + 1 ≤ n) := hlt'.out
      clear hpk k14 hPk12 hRQ12 hG12 hl12 cP35 fP35 hpP hOP hnP hone hs1 hs2 hs3 c35 hgo hts hps hy hN1 hu1 hlf
      go_wp2_with fail
      go_roundw
      case rel => exact ⟨i + 1, m + 8 + 4 + z + 32 * bn.toNat, c11, c13, A11, A13, _, _, _, by go_num, hin'.out, hPkF.out, hRQ14.out, hts'.out, hps'.out, hgo'.out⟩
      case measure => (have := hin'.out; simp [intOf]; omega)
    · have hdone : Hid (pcOk q → ts = (pcRows q).map (·.e) ∧ PsOf (pcZ q : Int) (pcRows q) ps) := fun h => by
        obtain ⟨-, g2, g3⟩ := hgo.out h
        have e6 := (hok.out h).2.2.2.2.2
        have hi' : ¬ i < n := fun hl => hx ⟨hl, hok1.out h hl⟩
        have hT : (pcRows q).take i = pcRows q := List.take_of_length_le (by rw [pcRows_len, ← e6]; omega)
        rw [hT] at g2 g3
        exact ⟨g2, g3⟩
      obtain ⟨A', c', e', -, -, hpc, hlt1⟩ := Txa.pieces hPk.out.oe hPk.out.tx
      injection e' with e1 _ e3
      subst e1 e3
      obtain ⟨A', c', e', -, -, hpp, hlp1⟩ := Pra.prs hPk.out.op hPk.out.pa
      injection e' with e1 _ e3
      subst e1 e3
      have hds : Hid (∀ x ∈ ps, Digs x.ds ∧ x.ds.length = x.n) := fun x hx => ⟨(hpp.2 x hx).1.2.1, (hpp.2 x hx).1.1⟩
      have hI := Lib.hid (refPiece_any (strT p) (by rw [strT_size]; have := hpl.out; have := hq47.out; omega) F b hbl.out ts i hlt1 (by have := hn32.out; have := hin.out; omega) AE cE ps i hlp1 AP cP wr hpc hpp (fun e he => by have := hts.out e he; have := hq47.out; omega) (fun x hx => by have := hps.out x hx; omega))
      have hlt1 := Lib.hid hlt1
      clear hpc hpp hlp1 hgo hok1
      by_cases hlt : i < n
      · have y3 : ((i : Int) < (n : Int)) := by omega
        have hs1 : s1 = true := by
          cases s1 with
          | true => rfl
          | false => exact absurd ⟨hlt, rfl⟩ hx
        subst hs1
        clear hlt hx hn
        by_cases hk0 : k = 0
        · have hXX : Hid (X = zAns 8) := by
            show _ = _
            rw [← hX.out]
            exact pcAns_no hqk.out (fun h => by have h1 := (pcOk_facts h).1; have h2 := hkk.out; omega)
          have y4 : ((k : Int) == 0) = true := by rw [hk0]; rfl
          have hRes := Lib.hid hPk.out.rs
          have hbe := Lib.hid hPk.out.be
          clear hk0 hI
          go_wp2_with ((with_reducible change wpList _ _ _ ({ dst := none, op := Op.store 44 _ _, type := _, pos := _, after := _, guard := _ } :: _) _ _); refine wpList_store_row (o := ⟨none, _, _, _, _, _⟩) rfl 44 (.tmp 2) (.tmp 88) rfl (w.heap.size) (zP) rfl rfl 44 (zP) hRes.out zP_size rfl zP_one ?_)
          refine bodyPost_ret (results_cell_row2 rfl _ _ w.heap.size 44 zP (0, 0) _ rfl (setRow_heap _ _ _ _ _ _ hRes.out) Try.underlying44 rfl zP_size) rfl ?_
          rw [hXX.out]
          exact zpost rfl (below_setRow hbe.out (Nat.le_refl _) _)
        · have y4 : ((k : Int) == 0) = false := beq_eq_false_iff_ne.2 (by omega)
          have hkn : Hid (k ≠ 0) := hk0
          have hbk := Lib.hid hPk.out.bk
          clear hk0
          go_wp2_with ((with_reducible change wpList _ _ _ ({ dst := some 82, op := _, type := _, pos := _, after := _, guard := _ } :: _) _ _); refine wpList_load_rowG (o := ⟨some 82, _, _, _, _, _⟩) rfl 44 (.tmp 5) rfl (gp) rfl 44 ((pieceCells (strT p) F b (.slice AE i cE) (.slice AP i cP)).toArray) (0, 0) _ hbk.out Try.underlying44 rfl (pc_info hbl.out) ?_)
          refine hI.out.mono ?_
          rintro e w15 ⟨A4, c4, t, rfl, ht, -, -, hwant, hbt⟩
          have hPk15 := Lib.hid (hPk.out.below hbt)
          have hb47 : t.length < 9223372036854775807 := by
            rcases hwant with h | ⟨-, -, rfl⟩
            · exact Nat.lt_trans (want_len17 hbl.out hds.out h) (by decide)
            · simp
          have hS := Lib.hid (same17_any t q t.length k rfl hkk.out hb47 A4 A c4 c w15 ht (hrr.out.below hPk15.out.be))
          replace hwant := Lib.hid hwant
          clear ht hbt hb47 hPk hI hbk cs1
          by_cases hbq : t = q
          · have hwq : pieceWant (strT p) F b ts ps = some q := by
              rcases hwant.out with h | ⟨-, -, h⟩
              · rw [h, hbq]
              · have hq0 : q = [] := by rw [← hbq, h]
                have h1 := hkk.out
                rw [hq0] at h1
                exact absurd h1.symm hkn.out
            have hpok : Hid (pcOk q) := want_read hbl.out hds.out hwq
            have hXX : Hid (X = pcGot q) := by
              show _ = _
              rw [← hX.out]
              exact pcAns_yes hqk.out hpok.out
            rw [decide_eq_true hbq] at hS
            clear hbq hwq hwant
            go_wp2_with fail
            refine hS.out.mono ?_
            rintro e w20 ⟨rfl, M, rfl⟩
            have hPk20 := Lib.hid (hPk15.out.below (below_drawn (Below.refl _ _) M))
            have hbk20 := Lib.hid hPk20.out.bk
            have hrs20 := Lib.hid hPk20.out.rs
            clear hPk15 hS
            go_wp2_with (first
              | ((with_reducible change wpList _ _ _ ({ dst := some 89, op := _, type := _, pos := _, after := _, guard := _ } :: _) _ _); refine wpList_load_row (o := ⟨some 89, _, _, _, _, _⟩) rfl 44 (.tmp 5) rfl (gp) rfl 44 ((pieceCells (strT p) F b (.slice AE i cE) (.slice AP i cP)).toArray) (0, 0) _ hbk20.out Try.underlying44 rfl (pc_info hbl.out) ?_)
              | ((with_reducible change wpList _ _ _ ({ dst := none, op := Op.store 44 _ _, type := _, pos := _, after := _, guard := _ } :: _) _ _); refine wpList_store_row (o := ⟨none, _, _, _, _, _⟩) rfl 44 (.tmp 2) (.tmp 89) rfl (w.heap.size) ((pieceCells (strT p) F b (.slice AE i cE) (.slice AP i cP)).toArray) rfl rfl 44 (zP) hrs20.out (pc_info hbl.out) (pc_size hbl.out).symm (pc_one rfl rfl) ?_))
            refine bodyPost_ret (results_cell_row2 rfl _ _ w.heap.size 44 (pieceCells (strT p) F b (.slice AE i cE) (.slice AP i cP)).toArray (0, 0) _ rfl (setRow_heap _ _ _ _ _ _ hrs20.out) Try.underlying44 rfl (pc_info hbl.out)) rfl ?_
            rw [hXX.out]
            exact fin_ok (hok.out hpok.out) (hdone.out hpok.out) hPk20.out (by have := hgp.out; omega) _
          · have hXX : Hid (X = zAns 8) := by
              show _ = _
              rw [← hX.out]
              refine pcAns_no hqk.out (fun hp => hbq ?_)
              obtain ⟨-, e2, e3, e4, -, -⟩ := hok.out hp
              obtain ⟨d1, d2⟩ := hdone.out hp
              have h1 := read_want hp d2
              rw [← e2, ← e3, ← e4, ← d1] at h1
              rcases hwant.out with h | ⟨h, -, -⟩
              · rw [h] at h1; exact Option.some.inj h1
              · rw [h] at h1; cases h1
            rw [decide_eq_false hbq] at hS
            clear hbq hwant
            go_wp2_with fail
            refine hS.out.mono ?_
            rintro e w20 ⟨rfl, M, rfl⟩
            have hPk20 := Lib.hid (hPk15.out.below (below_drawn (Below.refl _ _) M))
            have hRes := Lib.hid hPk20.out.rs
            have hbe := Lib.hid hPk20.out.be
            clear hPk15 hS
            go_wp2_with ((with_reducible change wpList _ _ _ ({ dst := none, op := Op.store 44 _ _, type := _, pos := _, after := _, guard := _ } :: _) _ _); refine wpList_store_row (o := ⟨none, _, _, _, _, _⟩) rfl 44 (.tmp 2) (.tmp 88) rfl (w.heap.size) (zP) rfl rfl 44 (zP) hRes.out zP_size rfl zP_one ?_)
            refine bodyPost_ret (results_cell_row2 rfl _ _ w.heap.size 44 zP (0, 0) _ rfl (setRow_heap _ _ _ _ _ _ hRes.out) Try.underlying44 rfl zP_size) rfl ?_
            rw [hXX.out]
            exact zpost rfl (below_setRow hbe.out (Nat.le_refl _) _)
      · have y3 : ¬ ((i : Int) < (n : Int)) := by omega
        clear hlt hx hn
        by_cases hk0 : k = 0
        · have hXX : Hid (X = zAns 8) := by
            show _ = _
            rw [← hX.out]
            exact pcAns_no hqk.out (fun h => by have h1 := (pcOk_facts h).1; have h2 := hkk.out; omega)
          have y4 : ((k : Int) == 0) = true := by rw [hk0]; rfl
          have hRes := Lib.hid hPk.out.rs
          have hbe := Lib.hid hPk.out.be
          clear hk0 hI
          go_wp2_with ((with_reducible change wpList _ _ _ ({ dst := none, op := Op.store 44 _ _, type := _, pos := _, after := _, guard := _ } :: _) _ _); refine wpList_store_row (o := ⟨none, _, _, _, _, _⟩) rfl 44 (.tmp 2) (.tmp 88) rfl (w.heap.size) (zP) rfl rfl 44 (zP) hRes.out zP_size rfl zP_one ?_)
          refine bodyPost_ret (results_cell_row2 rfl _ _ w.heap.size 44 zP (0, 0) _ rfl (setRow_heap _ _ _ _ _ _ hRes.out) Try.underlying44 rfl zP_size) rfl ?_
          rw [hXX.out]
          exact zpost rfl (below_setRow hbe.out (Nat.le_refl _) _)
        · have y4 : ((k : Int) == 0) = false := beq_eq_false_iff_ne.2 (by omega)
          have hkn : Hid (k ≠ 0) := hk0
          have hbk := Lib.hid hPk.out.bk
          clear hk0
          go_wp2_with ((with_reducible change wpList _ _ _ ({ dst := some 82, op := _, type := _, pos := _, after := _, guard := _ } :: _) _ _); refine wpList_load_rowG (o := ⟨some 82, _, _, _, _, _⟩) rfl 44 (.tmp 5) rfl (gp) rfl 44 ((pieceCells (strT p) F b (.slice AE i cE) (.slice AP i cP)).toArray) (0, 0) _ hbk.out Try.underlying44 rfl (pc_info hbl.out) ?_)
          refine hI.out.mono ?_
          rintro e w15 ⟨A4, c4, t, rfl, ht, -, -, hwant, hbt⟩
          have hPk15 := Lib.hid (hPk.out.below hbt)
          have hb47 : t.length < 9223372036854775807 := by
            rcases hwant with h | ⟨-, -, rfl⟩
            · exact Nat.lt_trans (want_len17 hbl.out hds.out h) (by decide)
            · simp
          have hS := Lib.hid (same17_any t q t.length k rfl hkk.out hb47 A4 A c4 c w15 ht (hrr.out.below hPk15.out.be))
          replace hwant := Lib.hid hwant
          clear ht hbt hb47 hPk hI hbk cs1
          by_cases hbq : t = q
          · have hwq : pieceWant (strT p) F b ts ps = some q := by
              rcases hwant.out with h | ⟨-, -, h⟩
              · rw [h, hbq]
              · have hq0 : q = [] := by rw [← hbq, h]
                have h1 := hkk.out
                rw [hq0] at h1
                exact absurd h1.symm hkn.out
            have hpok : Hid (pcOk q) := want_read hbl.out hds.out hwq
            have hXX : Hid (X = pcGot q) := by
              show _ = _
              rw [← hX.out]
              exact pcAns_yes hqk.out hpok.out
            rw [decide_eq_true hbq] at hS
            clear hbq hwq hwant
            go_wp2_with fail
            refine hS.out.mono ?_
            rintro e w20 ⟨rfl, M, rfl⟩
            have hPk20 := Lib.hid (hPk15.out.below (below_drawn (Below.refl _ _) M))
            have hbk20 := Lib.hid hPk20.out.bk
            have hrs20 := Lib.hid hPk20.out.rs
            clear hPk15 hS
            go_wp2_with (first
              | ((with_reducible change wpList _ _ _ ({ dst := some 89, op := _, type := _, pos := _, after := _, guard := _ } :: _) _ _); refine wpList_load_row (o := ⟨some 89, _, _, _, _, _⟩) rfl 44 (.tmp 5) rfl (gp) rfl 44 ((pieceCells (strT p) F b (.slice AE i cE) (.slice AP i cP)).toArray) (0, 0) _ hbk20.out Try.underlying44 rfl (pc_info hbl.out) ?_)
              | ((with_reducible change wpList _ _ _ ({ dst := none, op := Op.store 44 _ _, type := _, pos := _, after := _, guard := _ } :: _) _ _); refine wpList_store_row (o := ⟨none, _, _, _, _, _⟩) rfl 44 (.tmp 2) (.tmp 89) rfl (w.heap.size) ((pieceCells (strT p) F b (.slice AE i cE) (.slice AP i cP)).toArray) rfl rfl 44 (zP) hrs20.out (pc_info hbl.out) (pc_size hbl.out).symm (pc_one rfl rfl) ?_))
            refine bodyPost_ret (results_cell_row2 rfl _ _ w.heap.size 44 (pieceCells (strT p) F b (.slice AE i cE) (.slice AP i cP)).toArray (0, 0) _ rfl (setRow_heap _ _ _ _ _ _ hrs20.out) Try.underlying44 rfl (pc_info hbl.out)) rfl ?_
            rw [hXX.out]
            exact fin_ok (hok.out hpok.out) (hdone.out hpok.out) hPk20.out (by have := hgp.out; omega) _
          · have hXX : Hid (X = zAns 8) := by
              show _ = _
              rw [← hX.out]
              refine pcAns_no hqk.out (fun hp => hbq ?_)
              obtain ⟨-, e2, e3, e4, -, -⟩ := hok.out hp
              obtain ⟨d1, d2⟩ := hdone.out hp
              have h1 := read_want hp d2
              rw [← e2, ← e3, ← e4, ← d1] at h1
              rcases hwant.out with h | ⟨h, -, -⟩
              · rw [h] at h1; exact Option.some.inj h1
              · rw [h] at h1; cases h1
            rw [decide_eq_false hbq] at hS
            clear hbq hwant
            go_wp2_with fail
            refine hS.out.mono ?_
            rintro e w20 ⟨rfl, M, rfl⟩
            have hPk20 := Lib.hid (hPk15.out.below (below_drawn (Below.refl _ _) M))
            have hRes := Lib.hid hPk20.out.rs
            have hbe := Lib.hid hPk20.out.be
            clear hPk15 hS
            go_wp2_with ((with_reducible change wpList _ _ _ ({ dst := none, op := Op.store 44 _ _, type := _, pos := _, after := _, guard := _ } :: _) _ _); refine wpList_store_row (o := ⟨none, _, _, _, _, _⟩) rfl 44 (.tmp 2) (.tmp 88) rfl (w.heap.size) (zP) rfl rfl 44 (zP) hRes.out zP_size rfl zP_one ?_)
            refine bodyPost_ret (results_cell_row2 rfl _ _ w.heap.size 44 zP (0, 0) _ rfl (setRow_heap _ _ _ _ _ _ hRes.out) Try.underlying44 rfl zP_size) rfl ?_
            rw [hXX.out]
            exact zpost rfl (below_setRow hbe.out (Nat.le_refl _) _)
theorem readPiece_any (q : Text) (k : Nat) (hk : q.length = k) (A : Option Addr) (c : Nat) (hkc : k ≤ c) (w : World) (hr : Reads w 1 A k (cells8 q)) (hnil : A = none → k = 0 ∧ c = 0) :
    Calls Try.prog 45 #[.slice A k c] w (PPost w (pcAns q)) := by
  by_cases h9 : 2097152 < k
  · exact read_long q k hk h9 A c w
  · exact read_main q k hk h9 A c hkc w hr hnil
end Go.Proofs.Ytmdkfhfkdcbpgaa.ReadPiece

namespace Go.Proofs.Ytmdkfhfkdcbpgaa.Law17d
open Go Go.RowKit Go.Proofs.Ytmdkfhfkdcbpgaa Go.Proofs.Ytmdkfhfkdcbpgaa.Mem Go.Proofs.Ytmdkfhfkdcbpgaa.Sha Go.Proofs.Ytmdkfhfkdcbpgaa.Bytes Go.Proofs.Ytmdkfhfkdcbpgaa.TreeMem Go.Proofs.Ytmdkfhfkdcbpgaa.TreeRoot Go.Proofs.Ytmdkfhfkdcbpgaa.Held Go.Proofs.Ytmdkfhfkdcbpgaa.Guard Go.Proofs.Ytmdkfhfkdcbpgaa.Book8 Go.Proofs.Ytmdkfhfkdcbpgaa.Law17a Go.Proofs.Ytmdkfhfkdcbpgaa.Prs Go.Proofs.Ytmdkfhfkdcbpgaa.PieceB Go.Proofs.Ytmdkfhfkdcbpgaa.PieceLay Go.Proofs.Ytmdkfhfkdcbpgaa.PieceRead Go.Proofs.Ytmdkfhfkdcbpgaa.PieceMem Go.Proofs.Ytmdkfhfkdcbpgaa.SamePiece Go.Proofs.Ytmdkfhfkdcbpgaa.DecPiece Go.Proofs.Ytmdkfhfkdcbpgaa.ReadPiece

theorem _root_.Go.Proofs.Ytmdkfhfkdcbpgaa.Mem.Blk.onw {w w' : World} {g : Nat} {t : TypeId} {cs : Array Value} (h : Blk w g t cs) (hb : Below w.heap.size w w') : Blk w' g t cs := (hb.block g h.lt).trans h
theorem _root_.Go.Proofs.Ytmdkfhfkdcbpgaa.Bytes.Pieces.onw {w w' : World} {A : Option Addr} {ps : List Text} (h : Pieces w A ps) (hb : Below w.heap.size w w') : Pieces w' A ps := h.below hb
theorem ans_small (q : Text) : (pcAns q).b.length = 32 ∧ (pcAns q).rows.length ≤ 1000 ∧ ∀ r ∈ (pcAns q).rows, r.e.length ≤ 65536 ∧ r.ds.length ≤ 40 := by
  unfold pcAns
  split
  · exact ⟨rfl, Nat.zero_le _, fun r h => by cases h⟩
  · split
    · rename_i hok
      obtain ⟨f1, f2, f3, f4, f5, f6, f7, f8⟩ := pcOk_facts hok
      refine ⟨f8, by show (pcRows q).length ≤ _; rw [pcRows_len]; exact f3, fun r hr => ?_⟩
      obtain ⟨-, -, -, h4, h5, -⟩ := okR_row hok.2.2 r hr
      exact ⟨h4, h5⟩
    · exact ⟨rfl, Nat.zero_le _, fun r h => by cases h⟩
/-- An answer at hand. -/
def Got (w : World) (X : Ans) (A A2 : Option Addr) (n : Nat) (ps : List Pr) : Prop := X.rows.length = n ∧ PsOf X.Z X.rows ps ∧ Pieces w A (X.rows.map (·.e)) ∧ Prs w A2 ps
theorem Got.below {w w' : World} {X : Ans} {A A2 : Option Addr} {n : Nat} {ps : List Pr} (h : Got w X A A2 n ps) (hb : Below w.heap.size w w') : Got w' X A A2 n ps := ⟨h.1, h.2.1, h.2.2.1.below hb, h.2.2.2.below hb⟩
set_option maxRecDepth 100000 in
set_option maxHeartbeats 1000000 in
theorem readsPiece_any (q : Text) (k : Nat) (hk : q.length = k) (hk47 : k < 140737488355328) (A : Option Addr) (c : Nat) (hkc : k ≤ c) (w : World) (hr : Reads w 1 A k (cells8 q)) (hnil : A = none → k = 0 ∧ c = 0) :
    Calls Try.prog 19 #[.slice A k c] w fun e w' => e = .returned (.bool true) ∧ Below w.heap.size w w' := by
  have hRo := Lib.hid (roomy8_any q k hk hk47 165 165 rfl A c w hr)
  have hDe := Lib.hid (fun g w' (h : Reads w' 1 (some ⟨g, 0, none⟩) k (cells8 q)) => decPiece_any q k hk (some ⟨g, 0, none⟩) (k + 80) w' h (fun e => by cases e))
  have hRe := Lib.hid (fun w' (h : Below w.heap.size w w') => readPiece_any q k hk A c hkc w' (hr.below h) hnil)
  have hIn := Lib.hid (fun g w' (h : RoomB w' g q 165) (hb : Below w.heap.size w w') => intact8_any q k hk hk47 165 165 rfl g A c w' h (hr.below hb))
  have hGr : Hid (∀ g w', RoomB w' g q 165 → Reads w' 1 (some ⟨g, 0, none⟩) k (cells8 q)) := fun g w' h => by have := h.reads; rwa [hk] at this
  obtain ⟨hbl, hn1, hsm⟩ := ans_small q
  obtain ⟨Y, hX⟩ : ∃ X, pcAns q = X := ⟨_, rfl⟩
  rw [hX] at hDe hRe hbl hn1 hsm
  clear hX
  obtain ⟨s, hs⟩ : ∃ x, Hid (Y.s = x) := ⟨_, Lib.hid rfl⟩
  obtain ⟨F, hF⟩ : ∃ x, Hid (Y.F = x) := ⟨_, Lib.hid rfl⟩
  obtain ⟨b, hb_⟩ : ∃ x, Hid (Y.b = x) := ⟨_, Lib.hid rfl⟩
  obtain ⟨err, herr⟩ : ∃ x, Hid (Y.err = x) := ⟨_, Lib.hid rfl⟩
  rw [hb_.out] at hbl
  have hD2 : Hid (∀ g w', Reads w' 1 (some ⟨g, 0, none⟩) k (cells8 q) → Calls Try.prog 44 #[.slice (some ⟨g, 0, none⟩) k (k + 80)] w' fun e w'' => ∃ A1 n1 c1 P1 d1 ps1, e = .returned (.tuple #[.agg (pieceCells s F b (.slice A1 n1 c1) (.slice P1 n1 d1)).toArray, .int .i64 err]) ∧ Got w'' Y A1 P1 n1 ps1 ∧ Below w'.heap.size w' w'') := fun g w' h => by
    refine (hDe.out g w' h).mono ?_
    rintro e w'' ⟨A1, n1, c1, P1, d1, ps1, rfl, h1, h2, h3, h4, hb⟩
    exact ⟨A1, n1, c1, P1, d1, ps1, by rw [hs.out, hF.out, hb_.out, herr.out], ⟨h1, h2, h3, h4⟩, hb⟩
  have hR2 : Hid (∀ w', Below w.heap.size w w' → Calls Try.prog 45 #[.slice A k c] w' fun e w'' => ∃ A1 n1 c1 P1 d1 ps1, e = .returned (.tuple #[.agg (pieceCells s F b (.slice A1 n1 c1) (.slice P1 n1 d1)).toArray, .int .i64 err]) ∧ Got w'' Y A1 P1 n1 ps1 ∧ Below w'.heap.size w' w'') := fun w' h => by
    refine (hRe.out w' h).mono ?_
    rintro e w'' ⟨A1, n1, c1, P1, d1, ps1, rfl, h1, h2, h3, h4, hb⟩
    exact ⟨A1, n1, c1, P1, d1, ps1, by rw [hs.out, hF.out, hb_.out, herr.out], ⟨h1, h2, h3, h4⟩, hb⟩
  have X : ∀ g w', (Instr.sliceAt 29 (.slice (some ⟨g, 0, none⟩) (k + 80) (k + 80)) none (some (.int .i64 (k : Int))) none).run Try.prog w' = .ok (.slice (some ⟨g, 0, none⟩) k (k + 80)) w' := fun g => run_headOf (m := k) Try.underlying29 (fun _ => rfl) (by omega) _ rfl
  replace X := Lib.hid X
  have e1 : (err == err) = true := beq_self_eq_true _
  replace hbl := Lib.hid hbl
  replace hn1 := Lib.hid hn1
  replace hsm := Lib.hid hsm
  clear hDe hRe hk hk47 hkc hr hnil hs hF hb_ herr
  go_enter Try.func19, Try.ntmps19
  go_wp2_with fail
  refine hRo.out.mono ?_
  rintro e w1 ⟨g, rfl, -, hG, hb⟩
  replace hG := Lib.hid hG
  replace hb := Lib.hid hb
  have Xg := X.out g
  clear hRo X
  go_wp2_with fail
  refine (hD2.out g w1 (hGr.out g w1 hG.out)).mono ?_
  rintro e w2 ⟨A1, n1, c1, P1, d1, ps1, rfl, hl1, hk1⟩
  replace hb := Lib.hid (hb.out.trans (hk1.mono hb.out.size))
  replace hG : Hid (RoomB w2 g q 165) := hG.out.below hk1 (Tab.lt hG.out)
  replace hl1 := Lib.hid hl1
  clear hk1 hD2
  go_wp2_with ((with_reducible change wpList _ _ _ ({ dst := none, op := Op.store 44 (.tmp 4) _, type := _, pos := _, after := _, guard := _ } :: _) _ _); refine wpList_store_whole (o := ⟨none, _, _, _, _, _⟩) rfl 44 (.tmp 4) (.tmp 16) rfl (w2.heap.size) ((pieceCells s F b (.slice A1 n1 c1) (.slice P1 n1 d1)).toArray) rfl rfl 44 (zP) (Blk.new w2 _ _) (pc_info hbl.out) (pc_size hbl.out).symm (pc_one rfl rfl) ?_; intro w3 hB4 hkx; have hk1 := kept_fresh hkx; replace hb := Lib.hid (hb.out.trans (hk1.mono hb.out.size)); replace hG : Hid (RoomB w3 g q 165) := hG.out.below hk1 (Tab.lt hG.out); replace hl1 := Lib.hid (hl1.out.below hk1); replace hB4 := Lib.hid hB4; clear hk1 hkx; generalize w2.heap.size = g4 at *)
  refine (hR2.out w3 hb.out).mono ?_
  rintro e w4 ⟨A2, n2, c2, P2, d2, ps2, rfl, hl2, hk1⟩
  obtain rfl : n2 = n1 := hl2.1.symm.trans hl1.out.1
  replace hb := Lib.hid (hb.out.trans (hk1.mono hb.out.size))
  replace hG : Hid (RoomB w4 g q 165) := hG.out.below hk1 (Tab.lt hG.out)
  replace hl1 := Lib.hid (hl1.out.below hk1)
  replace hB4 := Lib.hid (Blk.onw hB4.out hk1)
  replace hl2 := Lib.hid hl2
  clear hk1 hR2
  go_wp2_with (first
    | ((with_reducible change wpList _ _ _ ({ dst := none, op := Op.store 44 (.tmp 6) _, type := _, pos := _, after := _, guard := _ } :: _) _ _); refine wpList_store_whole (o := ⟨none, _, _, _, _, _⟩) rfl 44 (.tmp 6) (.tmp 21) rfl (w4.heap.size) ((pieceCells s F b (.slice A2 n2 c2) (.slice P2 n2 d2)).toArray) rfl rfl 44 (zP) (Blk.new w4 _ _) (pc_info hbl.out) (pc_size hbl.out).symm (pc_one rfl rfl) ?_; intro w5 hB6 hkx; have hk1 := kept_fresh hkx; replace hb := Lib.hid (hb.out.trans (hk1.mono hb.out.size)); replace hG : Hid (RoomB w5 g q 165) := hG.out.below hk1 (Tab.lt hG.out); replace hl1 := Lib.hid (hl1.out.below hk1); replace hl2 := Lib.hid (hl2.out.below hk1); replace hB4 := Lib.hid (Blk.onw hB4.out hk1); replace hB6 := Lib.hid hB6; clear hk1 hkx; generalize w4.heap.size = g6 at *)
    | ((with_reducible change wpList _ _ _ ({ dst := some 27, op := _, type := _, pos := _, after := _, guard := _ } :: _) _ _); refine wpList_load_rowG (o := ⟨some 27, _, _, _, _, _⟩) rfl 44 (.tmp 4) rfl (g4) rfl 44 ((pieceCells s F b (.slice A1 n2 c1) (.slice P1 n2 d1)).toArray) (0, 0) _ hB4.out Try.underlying44 rfl (pc_info hbl.out) ?_)
    | ((with_reducible change wpList _ _ _ ({ dst := some 28, op := _, type := _, pos := _, after := _, guard := _ } :: _) _ _); refine wpList_load_rowG (o := ⟨some 28, _, _, _, _, _⟩) rfl 44 (.tmp 6) rfl (g6) rfl 44 ((pieceCells s F b (.slice A2 n2 c2) (.slice P2 n2 d2)).toArray) (0, 0) _ hB6.out Try.underlying44 rfl (pc_info hbl.out) ?_))
  have hsame := samePieces_yes s F b hbl.out (Y.rows.map (·.e)) n2 (by rw [List.length_map]; exact hl1.out.1) (by have := hl1.out.1; have := hn1.out; omega) (fun e he => by
      obtain ⟨r, hr, rfl⟩ := List.mem_map.1 he
      have := (hsm.out r hr).1
      omega) ps1 ps2 (hl1.out.2.1.trans hl2.out.2.1.symm) n2 (hl1.out.2.1.len.trans hl1.out.1) (by have := hl1.out.1; have := hn1.out; omega) (fun p hp => by
      obtain ⟨i, hi, rfl⟩ := List.getElem_of_mem hp
      have hlen := hl1.out.2.1.len
      obtain ⟨-, -, h3, -⟩ := hl1.out.2.1.at_ (List.getElem?_eq_getElem hi) (List.getElem?_eq_getElem (show i < Y.rows.length by omega))
      rw [h3]
      have := (hsm.out _ (List.getElem_mem (show i < Y.rows.length by omega))).2
      omega) A1 A2 P1 P2 c1 c2 d1 d2 w5 hl1.out.2.2.1 hl2.out.2.2.1 hl1.out.2.2.2 hl2.out.2.2.2
  refine hsame.mono ?_
  rintro e w6 ⟨rfl, hk1⟩
  replace hb := Lib.hid (hb.out.trans (hk1.mono hb.out.size))
  replace hG : Hid (RoomB w6 g q 165) := hG.out.below hk1 (Tab.lt hG.out)
  clear hk1 hsame
  go_wp2_with fail
  refine (hIn.out g w6 hG.out hb.out).mono ?_
  rintro e w7 ⟨rfl, m, rfl⟩
  go_wp2_with fail
  go_ret
  exact ⟨rfl, below_drawn hb.out m⟩
end Go.Proofs.Ytmdkfhfkdcbpgaa.Law17d

namespace Go.Proofs.Ytmdkfhfkdcbpgaa.Law17e
open Go Go.RowKit Go.Proofs.Ytmdkfhfkdcbpgaa Go.Proofs.Ytmdkfhfkdcbpgaa.Mem Go.Proofs.Ytmdkfhfkdcbpgaa.Sha Go.Proofs.Ytmdkfhfkdcbpgaa.Bytes Go.Proofs.Ytmdkfhfkdcbpgaa.TreeMem Go.Proofs.Ytmdkfhfkdcbpgaa.Book Go.Proofs.Ytmdkfhfkdcbpgaa.Book8 Go.Proofs.Ytmdkfhfkdcbpgaa.Law17a Go.Proofs.Ytmdkfhfkdcbpgaa.Prs Go.Proofs.Ytmdkfhfkdcbpgaa.Reach Go.Proofs.Ytmdkfhfkdcbpgaa.PieceB Go.Proofs.Ytmdkfhfkdcbpgaa.PieceLay Go.Proofs.Ytmdkfhfkdcbpgaa.PieceRead Go.Proofs.Ytmdkfhfkdcbpgaa.PieceMem Go.Proofs.Ytmdkfhfkdcbpgaa.SamePiece Go.Proofs.Ytmdkfhfkdcbpgaa.HandM Go.Proofs.Ytmdkfhfkdcbpgaa.Hand Go.Proofs.Ytmdkfhfkdcbpgaa.Intact17

theorem undI : Try.prog.underlying 42 = some (.slice (Try.prog.elem 42)) := by kernel_rfl
theorem size3s (w : World) : (sizeOf (Try.prog.elem 42)).run Try.prog w = .ok 3 w := by kernel_rfl
theorem run_headI {A : Option Addr} {n c k : Nat} (hk : k ≤ c) (x : Int) (hx : x = k) (w : World) :
    (Instr.sliceAt 42 (.slice A n c) none (some (.int .i64 x)) none).run Try.prog w = .ok (.slice A k c) w := by
  subst hx
  rw [run_sliceAt_slice w _ _ _ _ _ undI, run_slice_h w _ A n c undI .i64 (k : Int) (by omega) (by omega), size3s]
  simp only [Result.andThen, sliced, Int.toNat_natCast, Nat.zero_mul, Nat.sub_zero]
  cases A with
  | none => simp
  | some a => simp [add_zero]
set_option maxRecDepth 100000 in
theorem fewE_yes (A : Option Addr) (n c N : Nat) (hn : n ≤ N) (w : World) :
    Calls Try.prog 13 #[.slice A n c, .int .i64 (N : Int)] w fun e w' => e = .returned (.slice A n c) ∧ w = w' := by
  have h1 : (n : Int) ≤ (N : Int) := by omega
  go_enter Try.func13, Try.ntmps13
  go_wp2_with fail
  go_ret
  exact ⟨rfl, rfl⟩
set_option maxRecDepth 100000 in
theorem fewE_no (A : Option Addr) (n c N : Nat) (hn : N < n) (hc : n ≤ c) (w : World) :
    Calls Try.prog 13 #[.slice A n c, .int .i64 (N : Int)] w fun e w' => e = .returned (.slice A N c) ∧ w = w' := by
  have h1 : (N : Int) < (n : Int) := by omega
  have X := run_headOf (P := Try.prog) (t := 41) (A := A) (n := n) (c := c) (m := N) Try.underlying41 (fun _ => rfl) (by omega) (N : Int) rfl
  go_enter Try.func13, Try.ntmps13
  go_wp2_with fail
  go_ret
  exact ⟨rfl, rfl⟩
theorem fewE_any (A : Option Addr) (n c N : Nat) (hc : n ≤ c) (w : World) :
    Calls Try.prog 13 #[.slice A n c, .int .i64 (N : Int)] w fun e w' => e = .returned (.slice A (min n N) c) ∧ w = w' := by
  by_cases h : n ≤ N
  · rw [Nat.min_eq_left h]
    exact fewE_yes A n c N h w
  · rw [Nat.min_eq_right (by omega)]
    exact fewE_no A n c N (by omega) hc w
set_option maxRecDepth 100000 in
theorem fewI_yes (A : Option Addr) (n c N : Nat) (hn : n ≤ N) (w : World) :
    Calls Try.prog 14 #[.slice A n c, .int .i64 (N : Int)] w fun e w' => e = .returned (.slice A n c) ∧ w = w' := by
  have h1 : (n : Int) ≤ (N : Int) := by omega
  go_enter Try.func14, Try.ntmps14
  go_wp2_with fail
  go_ret
  exact ⟨rfl, rfl⟩
set_option maxRecDepth 100000 in
theorem fewI_no (A : Option Addr) (n c N : Nat) (hn : N < n) (hc : n ≤ c) (w : World) :
    Calls Try.prog 14 #[.slice A n c, .int .i64 (N : Int)] w fun e w' => e = .returned (.slice A N c) ∧ w = w' := by
  have h1 : (N : Int) < (n : Int) := by omega
  have X := run_headI (A := A) (n := n) (c := c) (k := N) (by omega) (N : Int) rfl
  go_enter Try.func14, Try.ntmps14
  go_wp2_with fail
  go_ret
  exact ⟨rfl, rfl⟩
theorem fewI_any (A : Option Addr) (n c N : Nat) (hc : n ≤ c) (w : World) :
    Calls Try.prog 14 #[.slice A n c, .int .i64 (N : Int)] w fun e w' => e = .returned (.slice A (min n N) c) ∧ w = w' := by
  by_cases h : n ≤ N
  · rw [Nat.min_eq_left h]
    exact fewI_yes A n c N h w
  · rw [Nat.min_eq_right (by omega)]
    exact fewI_no A n c N (by omega) hc w

theorem Pieces.take_ {w : World} {A : Option Addr} {es : List Text} (h : Pieces w A es) (k : Nat) : Pieces w A (es.take k) := fun h0 => by
  obtain ⟨b, o, e, hb, hc⟩ := h (by rw [List.length_take] at h0; omega)
  refine ⟨b, o, e, hb, fun i q hq => hc i q ?_⟩
  rw [List.getElem?_take] at hq
  split at hq
  · exact hq
  · cases hq
theorem Prs.take_ {w : World} {A : Option Addr} {ps : List Pr} (h : Prs w A ps) (k : Nat) : Prs w A (ps.take k) := by
  refine ⟨⟨by rw [flat_len]; omega, fun h0 => ?_⟩, fun p hp => h.2 p (List.mem_of_mem_take hp)⟩
  rw [List.length_take] at h0
  obtain ⟨b, o, e, hb, hc⟩ := h.1.2 (by omega)
  refine ⟨b, o, e, hb, fun j u hu => hc j u ?_⟩
  have hl : j < 3 * (ps.take k).length := by rw [← flat_len]; exact (List.getElem?_eq_some_iff.1 hu).1
  rw [List.length_take] at hl
  have hi : j / 3 < ps.length := by omega
  have hp : ps[j / 3]? = some ps[j / 3] := List.getElem?_eq_getElem hi
  have hp2 : (ps.take k)[j / 3]? = some ps[j / 3] := by rw [List.getElem?_take, if_pos (by omega), hp]
  have e1 := flat_at ps (j / 3) _ (j % 3) hp (by omega)
  have e2 := flat_at (ps.take k) (j / 3) _ (j % 3) hp2 (by omega)
  rw [show 3 * (j / 3) + j % 3 = j by omega] at e1 e2
  rw [e1, ← e2]
  exact hu
/-- The copies as a piece's rows. -/
theorem HF.pieces {w0 W : World} {B n m : Nat} {E P V Q : Value} {gs hs : List Nat} {es : List Text} {ps : List Pr} (h : HF w0 W B E P V Q n m gs hs es ps) : ∃ AE cE, E = .slice AE n cE ∧ n ≤ cE ∧ (AE = none → n = 0 ∧ cE = 0) ∧ (es.length = n → Pieces W AE es) := by
  obtain ⟨A, c, e, hc, -, hnil, hr, -⟩ := Append.Own.reads h.oe
  refine ⟨A, c, e, hc, hnil, fun hl h0 => ?_⟩
  obtain ⟨b, o, e1, hb, hcs⟩ := hr.at_ (by omega)
  refine ⟨b, o, e1, hb, fun i q hq => ?_⟩
  have hi := (List.getElem?_eq_some_iff.1 hq).1
  have hg : gs[i]? = some (gs[i]'(by rw [h.roo.1]; exact hi)) := List.getElem?_eq_getElem _
  obtain ⟨h1, -⟩ := h.roo.2 i _ q hg hq
  exact ⟨_, _, hcs i _ (xsE_at hg hq), by omega, h1.reads, fun e => by cases e⟩
theorem HF.prs {w0 W : World} {B n m : Nat} {E P V Q : Value} {gs hs : List Nat} {es : List Text} {ps : List Pr} (h : HF w0 W B E P V Q n m gs hs es ps) (hl : ps.length = m) (hd : ∀ p ∈ ps, Digs p.ds ∧ p.ds.length = p.n) : ∃ AP cP, P = .slice AP m cP ∧ m ≤ cP ∧ (AP = none → m = 0 ∧ cP = 0) ∧ Prs W AP (psH hs ps) := by
  obtain ⟨A, c, e, hc, -, hnil, hr, -⟩ := Append.Own.reads h.op
  have hlen : (psH hs ps).length = m := by unfold psH; rw [List.length_zipWith, h.rod.1, Nat.min_self]; exact hl
  refine ⟨A, c, e, hc, hnil, by rw [hlen]; exact hr, fun p hp => ?_⟩
  obtain ⟨i, hi, rfl⟩ := List.getElem_of_mem hp
  have hi2 : i < ps.length := by omega
  have hg : hs[i]? = some (hs[i]'(by rw [h.rod.1]; exact hi2)) := List.getElem?_eq_getElem _
  have hx : ps[i]? = some ps[i] := List.getElem?_eq_getElem hi2
  obtain ⟨h1, -⟩ := h.rod.2 i _ _ hg hx
  have e1 := psH_at hg hx
  rw [List.getElem?_eq_getElem hi] at e1
  rw [Option.some.inj e1]
  obtain ⟨d1, d2⟩ := hd _ (List.getElem_mem hi2)
  have h3 := (RowD.rd h1 (d1.append_ (Digs.rep 80 mk0_len))).take_ (ps[i]).n (by rw [List.length_append]; omega)
  rw [List.take_left' d2] at h3
  exact ⟨h3, Nat.le_add_right _ _⟩
theorem psH_alike {w : World} {B : Nat} {hs : List Nat} {ps : List Pr} (h : Rod w B hs ps) : SamePiece.Alike (psH hs ps) ps := by
  unfold SamePiece.Alike
  apply List.ext_getElem?
  intro i
  rw [List.getElem?_map, List.getElem?_map]
  by_cases hi : i < ps.length
  · have hg : hs[i]? = some (hs[i]'(by rw [h.1]; exact hi)) := List.getElem?_eq_getElem _
    have hx : ps[i]? = some ps[i] := List.getElem?_eq_getElem hi
    rw [psH_at hg hx, hx]
    rfl
  · rw [List.getElem?_eq_none (by unfold psH; rw [List.length_zipWith, h.1, Nat.min_self]; omega), List.getElem?_eq_none (by omega)]
/-- A piece's bytes hang on what its proofs hold alone. -/
theorem want_alike {ps qs : List Pr} (h : SamePiece.Alike ps qs) (s : ByteArray) (F : Int) (b : Text) (es : List Text) : pieceWant s F b es ps = pieceWant s F b es qs := by
  have hi : itemsOf es ps = itemsOf es qs := by
    have e : ∀ l : List Pr, itemsOf es l = List.zipWith (fun (e : Text) (k : Int × Int × Nat × List Text) => (⟨e.length, k.1, k.2.1, k.2.2.1, PieceRow.fitB k.1 k.2.1 k.2.2.1 e.length⟩ : PieceP.Item)) es (l.map (fun p => (p.x, p.y, p.n, p.ds))) := fun l => by
      rw [List.zipWith_map_right]
      rfl
    rw [e, e, h]
  have hr : rowsOf es ps = rowsOf es qs := by
    have e : ∀ l : List Pr, rowsOf es l = List.zipWith (fun (e : Text) (k : Int × Int × Nat × List Text) => (⟨k.2.1.toNat, e, k.2.2.2⟩ : Row)) es (l.map (fun p => (p.x, p.y, p.n, p.ds))) := fun l => by
      rw [List.zipWith_map_right]
      rfl
    rw [e, e, h]
  have hf : firstSize ps = firstSize qs := by
    cases ps with
    | nil =>
      have := h.len
      cases qs with
      | nil => rfl
      | cons q qs => simp at this
    | cons p ps =>
      cases qs with
      | nil => have := h.len; simp at this
      | cons q qs => exact (h.at_ (i := 0) rfl rfl).1
  have hl := h.len
  have hn : reachN s F b es ps = reachN s F b es qs := by unfold reachN; rw [hf, hi]
  have ho : okP s F b es ps ↔ okP s F b es qs := by unfold okP; rw [hl, hn]
  have hb : pieceB s F b es ps = pieceB s F b es qs := by unfold pieceB; rw [hf, hr]
  unfold pieceWant
  by_cases h2 : okP s F b es ps
  · rw [if_pos h2, if_pos (ho.1 h2), hb]
  · rw [if_neg h2, if_neg (fun h3 => h2 (ho.2 h3))]
theorem want_pos {s : ByteArray} {F : Int} {b : Text} {es : List Text} {ps : List Pr} {t : Text} (h : pieceWant s F b es ps = some t) : 0 < t.length := by
  unfold pieceWant at h
  split at h
  · rw [← Option.some.inj h]; simp [pieceB]
  · cases h
end Go.Proofs.Ytmdkfhfkdcbpgaa.Law17e

namespace Go.Proofs.Ytmdkfhfkdcbpgaa.ProofPieces
open Go Go.RowKit Go.Proofs.Ytmdkfhfkdcbpgaa Go.Proofs.Ytmdkfhfkdcbpgaa.HeadMem Go.Proofs.Ytmdkfhfkdcbpgaa.Mem Go.Proofs.Ytmdkfhfkdcbpgaa.Sha Go.Proofs.Ytmdkfhfkdcbpgaa.Bytes Go.Proofs.Ytmdkfhfkdcbpgaa.TreeMem Go.Proofs.Ytmdkfhfkdcbpgaa.TreeRoot Go.Proofs.Ytmdkfhfkdcbpgaa.Held Go.Proofs.Ytmdkfhfkdcbpgaa.Guard Go.Proofs.Ytmdkfhfkdcbpgaa.Guard2 Go.Proofs.Ytmdkfhfkdcbpgaa.Want Go.Proofs.Ytmdkfhfkdcbpgaa.ProofEnc Go.Proofs.Ytmdkfhfkdcbpgaa.ProofIdx Go.Proofs.Ytmdkfhfkdcbpgaa.Book Go.Proofs.Ytmdkfhfkdcbpgaa.Book8 Go.Proofs.Ytmdkfhfkdcbpgaa.Law17a Go.Proofs.Ytmdkfhfkdcbpgaa.Prs Go.Proofs.Ytmdkfhfkdcbpgaa.Reach2 Go.Proofs.Ytmdkfhfkdcbpgaa.PieceLay Go.Proofs.Ytmdkfhfkdcbpgaa.EncPiece Go.Proofs.Ytmdkfhfkdcbpgaa.RefPiece Go.Proofs.Ytmdkfhfkdcbpgaa.PieceMem Go.Proofs.Ytmdkfhfkdcbpgaa.HandM Go.Proofs.Ytmdkfhfkdcbpgaa.Hand Go.Proofs.Ytmdkfhfkdcbpgaa.Intact17 Go.Proofs.Ytmdkfhfkdcbpgaa.DecIdx2 Go.Proofs.Ytmdkfhfkdcbpgaa.ReadPiece Go.Proofs.Ytmdkfhfkdcbpgaa.Law17d Go.Proofs.Ytmdkfhfkdcbpgaa.Law17e

set_option maxRecDepth 100000 in
set_option maxHeartbeats 4000000 in
theorem proofPieces_any (s : ByteArray) (hs : s.size ≤ 140737488355328) (F : Int) (b : Text) (hb : b.length = 32) (es0 : List Text) (n0 : Nat) (hn0 : es0.length = n0) (ps0 : List Pr) (m0 : Nat) (hm0 : ps0.length = m0) (A A2 : Option Addr) (c c2 : Nat) (hnc : n0 ≤ c) (hmc : m0 ≤ c2) (hsh0 : ∀ e ∈ es0, e.length < 140737488355328) (hnn0 : ∀ p ∈ ps0, p.n < 4398046511104)
    (q : Text) (k : Nat) (hk : q.length = k) (hk47 : k < 140737488355328) (A3 : Option Addr) (c3 : Nat) (hkc : k ≤ c3) (w : World) (hp0 : Pieces w A es0) (hq0 : Prs w A2 ps0) (hrq : Reads w 1 A3 k (cells8 q)) (hnil : A3 = none → k = 0 ∧ c3 = 0) :
    Calls Try.prog 4 #[.agg (pieceCells s F b (.slice A n0 c) (.slice A2 m0 c2)).toArray, .slice A3 k c3] w fun e w' => e = .returned (.bool true) ∧ Below w.heap.size w w' := by
  obtain ⟨n, hn'⟩ : ∃ n, min n0 1100 = n := ⟨_, rfl⟩
  obtain ⟨m, hm'⟩ : ∃ m, min m0 1100 = m := ⟨_, rfl⟩
  obtain ⟨es, hes⟩ : ∃ es, es0.take n = es := ⟨_, rfl⟩
  obtain ⟨ps, hps⟩ : ∃ ps, ps0.take m = ps := ⟨_, rfl⟩
  have hp : Pieces w A es := by rw [← hes]; exact Law17e.Pieces.take_ hp0 n
  have hq : Prs w A2 ps := by rw [← hps]; exact Law17e.Prs.take_ hq0 m
  have hn : es.length = n := by rw [← hes, List.length_take]; omega
  have hm : ps.length = m := by rw [← hps, List.length_take]; omega
  have hsh : ∀ e ∈ es, e.length < 140737488355328 := fun e he => hsh0 e (by rw [← hes] at he; exact List.mem_of_mem_take he)
  have hnn : ∀ p ∈ ps, p.n < 4398046511104 := fun p he => hnn0 p (by rw [← hps] at he; exact List.mem_of_mem_take he)
  have hnn' : ∀ p ∈ ps, p.n < 140737488355328 := fun p he => by have := hnn p he; omega
  have hds : ∀ p ∈ ps, Digs p.ds ∧ p.ds.length = p.n := fun p hp' => ⟨(hq.2 p hp').1.2.1, (hq.2 p hp').1.1⟩
  have hn6 : n ≤ 1000000 := by omega
  have hm6 : m ≤ 1000000 := by omega
  have hFe : Hid (∀ w', Calls Try.prog 13 #[.slice A n0 c, .int .i64 1100] w' fun e w'' => e = .returned (.slice A n c) ∧ w' = w'') := fun w' => by
    have := fewE_any A n0 c 1100 hnc w'
    rwa [hn'] at this
  have hFi : Hid (∀ w', Calls Try.prog 14 #[.slice A2 m0 c2, .int .i64 1100] w' fun e w'' => e = .returned (.slice A2 m c2) ∧ w' = w'') := fun w' => by
    have := fewI_any A2 m0 c2 1100 hmc w'
    rwa [hm'] at this
  have hHa := Lib.hid (fun w' (h : Below w.heap.size w w') => hand_any es n hn hn6 hsh ps m hm hm6 hnn A A2 c c2 w' (hp.below h) (hq.below h))
  have hIt := Lib.hid (fun w0 w' (h : Below w.heap.size w w') B E P V Q gs hs hF => intact_any es n hn hn6 hsh ps m hm hm6 hnn A A2 c c2 w0 w' (hp.below h) (hq.below h) B E P V Q gs hs hF)
  have hWa := Lib.hid (fun w' (h : Below w.heap.size w w') => refPiece_any s hs F b hb es n hn (by omega) A c ps m hm A2 c2 w' (hp.below h) (hq.below h) hsh hnn')
  have hEn : Hid (∀ w0 w' B E P V Q gs hs_, HF w0 w' B E P V Q n m gs hs_ es ps → ∃ AE cE AP cP, E = .slice AE n cE ∧ P = .slice AP m cP ∧ Calls Try.prog 16 #[.agg (pieceCells s F b E P).toArray] w' fun e w'' => ∃ A4 c4 t err, e = .returned (.tuple #[.slice A4 t.length c4, .int .i64 err]) ∧ Reads w'' 1 A4 t.length (cells8 t) ∧ ((pieceWant s F b es ps = some t ∧ err = 0) ∨ (pieceWant s F b es ps = none ∧ t = [] ∧ err = 170)) ∧ Below w'.heap.size w' w'') := fun w0 w' B E P V Q gs hs_ hF => by
    obtain ⟨AE, cE, rfl, -, -, h1⟩ := Law17e.HF.pieces hF
    obtain ⟨AP, cP, rfl, -, -, h2⟩ := Law17e.HF.prs hF hm hds
    have hal := psH_alike hF.rod
    have hlh : (psH hs_ ps).length = m := by rw [hal.len, hm]
    have := encPiece_any s hs F b hb es n hn (by omega) AE cE (psH hs_ ps) m hlh AP cP w' (h1 hn) h2 hsh (fun p hp' => by
      obtain ⟨i, hi, rfl⟩ := List.getElem_of_mem hp'
      have hi2 : i < ps.length := by omega
      obtain ⟨-, -, h3, -⟩ := hal.at_ (List.getElem?_eq_getElem hi) (List.getElem?_eq_getElem hi2)
      rw [h3]
      exact hnn' _ (List.getElem_mem hi2))
    rw [want_alike hal] at this
    exact ⟨AE, cE, AP, cP, rfl, rfl, this⟩
  have hRq := Lib.hid (fun w' (h : Below w.heap.size w w') => readsPiece_any q k hk hk47 A3 c3 hkc w' (hrq.below h) hnil)
  have hlen : Hid (∀ t, pieceWant s F b es ps = some t → t.length < 140737488355328) := fun t h => Nat.lt_trans (want_len17 hb hds h) (by decide)
  obtain ⟨cs, hcs⟩ : ∃ cs : Array Value, (pieceCells s F b (.slice A n0 c) (.slice A2 m0 c2)).toArray = cs := ⟨_, rfl⟩
  have hP0 : Hid (Blk (w.alloc (.cells cs 44)) w.heap.size 44 (pieceCells s F b (.slice A n0 c) (.slice A2 m0 c2)).toArray) := by rw [hcs]; exact Blk.new w _ _
  have hb0 : Hid (Below w.heap.size w (w.alloc (.cells cs 44))) := Below.heap_below w _
  rw [hcs]
  have c0 : (w.alloc (.cells cs 44)).cell? ⟨w.heap.size, 34, none⟩ = some (.slice A n0 c) := (hP0.out.cell 34).trans (by rw [List.getElem?_toArray]; exact pc_events hb)
  have f0 := hP0.out.frozen 34
  replace hb := Lib.hid hb
  replace hs := Lib.hid hs
  clear hp hq hp0 hq0 hn hm hn0 hm0 hes hps hn' hm' hsh hnn hnn' hds hsh0 hnn0 hn6 hm6 hnc hmc hk hk47 hkc hrq hnil hcs
  go_enter Try.func4, Try.ntmps4
  go_wp2_with fail
  refine (hFe.out _).mono ?_
  rintro e w1 ⟨rfl, rfl⟩
  generalize w.alloc (.cells cs 44) = w1 at *
  have hb1 : Hid (Below w.heap.size w (w1.setCell ⟨w.heap.size, 34, none⟩ (.slice A n c))) := hb0.out.setCell (Nat.le_refl _) _
  have hP1 : Hid (Blk (w1.setCell ⟨w.heap.size, 34, none⟩ (.slice A n c)) w.heap.size 44 (pieceCells s F b (.slice A n c) (.slice A2 m0 c2)).toArray) := by
    have := hP0.out.set_ 34 (.slice A n c)
    rw [pc_setE hb.out] at this
    exact this
  have c1 : (w1.setCell ⟨w.heap.size, 34, none⟩ (.slice A n c)).cell? ⟨w.heap.size, 35, none⟩ = some (.slice A2 m0 c2) := (hP1.out.cell 35).trans (by rw [List.getElem?_toArray]; exact pc_proofs hb.out)
  have f1 := hP1.out.frozen 35
  clear hb0 hP0 hFe
  go_wp2_with fail
  clear c0 f0
  generalize w1.setCell ⟨w.heap.size, 34, none⟩ (.slice A n c) = w2 at *
  refine (hFi.out _).mono ?_
  rintro e w3 ⟨rfl, rfl⟩
  have hb2 : Hid (Below w.heap.size w (w2.setCell ⟨w.heap.size, 35, none⟩ (.slice A2 m c2))) := hb1.out.setCell (Nat.le_refl _) _
  have hP2 : Hid (Blk (w2.setCell ⟨w.heap.size, 35, none⟩ (.slice A2 m c2)) w.heap.size 44 (pieceCells s F b (.slice A n c) (.slice A2 m c2)).toArray) := by
    have := hP1.out.set_ 35 (.slice A2 m c2)
    rw [pc_setP hb.out] at this
    exact this
  have d34 : (w2.setCell ⟨w.heap.size, 35, none⟩ (.slice A2 m c2)).cell? ⟨w.heap.size, 34, none⟩ = some (.slice A n c) := (hP2.out.cell 34).trans (by rw [List.getElem?_toArray]; exact pc_events hb.out)
  have d35 : (w2.setCell ⟨w.heap.size, 35, none⟩ (.slice A2 m c2)).cell? ⟨w.heap.size, 35, none⟩ = some (.slice A2 m c2) := (hP2.out.cell 35).trans (by rw [List.getElem?_toArray]; exact pc_proofs hb.out)
  clear hb1 hP1 hFi
  go_wp2_with fail
  clear c1 f1 d34 d35
  generalize w2.setCell ⟨w.heap.size, 35, none⟩ (.slice A2 m c2) = w3 at *
  refine (hHa.out w3 hb2.out).mono ?_
  rintro e w4 ⟨B, E, P, V, Q, gs, hs_, rfl, hF⟩
  have hb4 : Hid (Below w.heap.size w w4) := hb2.out.trans (hF.be.mono hb2.out.size)
  have hP4 : Hid (Blk w4 w.heap.size 44 (pieceCells s F b (.slice A n c) (.slice A2 m c2)).toArray) := (hF.be.block _ hP2.out.lt).trans hP2.out
  obtain ⟨A5, c5, hE5⟩ := own_len hF.oe
  obtain ⟨A6, c6, hP6⟩ := own_len hF.op
  obtain ⟨A7, c7, hV7⟩ := own_len hF.ov
  obtain ⟨A8, c8, hQ8⟩ := own_len hF.oq
  subst hE5 hP6 hV7 hQ8
  replace hF := Lib.hid hF
  clear hb2 hP2 hHa
  go_upto_region 4 with (first
    | ((with_reducible change wpList _ _ _ ({ dst := none, op := Op.store 51 (.tmp 5) _, type := _, pos := _, after := _, guard := _ } :: _) _ _); refine wpList_store_whole (o := ⟨none, _, _, _, _, _⟩) rfl 51 (.tmp 5) (.tmp 22) rfl (w4.heap.size) ((hc (.slice A5 n c5) (.slice A6 m c6) (.slice A7 n c7) (.slice A8 m c8)).toArray) rfl rfl 51 (zG) (Blk.new w4 _ _) hc_info rfl (hc_one rfl rfl rfl rfl) ?_; intro w5 hG5 hkx; have hk1 := kept_fresh hkx; have hb5 := Lib.hid (hb4.out.trans (hk1.mono hb4.out.size)); have hP5 := Lib.hid (Blk.onw hP4.out hk1); have hF5 := Lib.hid (Intact17.HF.below hF.out hk1); replace hG5 := Lib.hid hG5; clear hk1 hkx hb4 hP4 hF; generalize w4.heap.size = g5 at *))
  have hGc : Hid (∀ j v, (pieceCells ByteArray.empty 0 (List.replicate 32 0) (.slice A5 n c5) (.slice A6 m c6))[j]? = some v → w5.cell? ⟨g5, 0 + j, none⟩ = some v) := fun j v h => by rw [Nat.zero_add]; exact (hG5.out.cell j).trans (hc_piece j v h)
  have sP : Hid ((Try.prog.info? 44).map (·.size) = some (pieceCells ByteArray.empty 0 (List.replicate 32 0) (.slice A5 n c5) (.slice A6 m c6)).length) := by show _ = _; rw [pc_len rfl]; exact size36
  go_upto_region 5 with (first
    | ((with_reducible change wpList _ _ _ ({ dst := some 24, op := _, type := _, pos := _, after := _, guard := _ } :: _) _ _); refine wpList_load_part (o := ⟨some 24, _, _, _, _, _⟩) rfl 44 (.tmp 23) rfl (g5) (0) rfl ((pieceCells ByteArray.empty 0 (List.replicate 32 0) (.slice A5 n c5) (.slice A6 m c6))) _ hGc.out Try.underlying44 rfl sP.out ?_)
    | ((with_reducible change wpList _ _ _ ({ dst := none, op := Op.store 44 (.tmp 6) _, type := _, pos := _, after := _, guard := _ } :: _) _ _); refine wpList_store_whole (o := ⟨none, _, _, _, _, _⟩) rfl 44 (.tmp 6) (.tmp 24) rfl (w5.heap.size) ((pieceCells ByteArray.empty 0 (List.replicate 32 0) (.slice A5 n c5) (.slice A6 m c6)).toArray) rfl rfl 44 (zP) (Blk.new w5 _ _) (pc_info rfl) (pc_size (b := List.replicate 32 0) rfl).symm (pc_one rfl rfl) ?_; intro w6 hG6 hkx; have b6 := Lib.hid (kept_fresh hkx); replace hG6 := Lib.hid hG6; clear hkx))
  obtain ⟨g6, hg6⟩ : ∃ x, Hid (w5.heap.size = x) := ⟨_, Lib.hid rfl⟩
  rw [hg6.out] at hG6 b6 ⊢
  have hlt : Hid (w.heap.size < g6) := by rw [← hg6.out]; exact hP5.out.lt
  have hgs : Hid (g6 ≤ w5.heap.size) := Nat.le_of_eq hg6.out.symm
  have hPb : Hid (∀ w', Below g6 w5 w' → Blk w' w.heap.size 44 (pieceCells s F b (.slice A n c) (.slice A2 m c2)).toArray) := fun w' h => (h.block _ hlt.out).trans hP5.out
  have hFb : Hid (∀ w', Below g6 w5 w' → HF w3 w' B (.slice A5 n c5) (.slice A6 m c6) (.slice A7 n c7) (.slice A8 m c8) n m gs hs_ es ps) := fun w' h => Intact17.HF.below hF5.out (by rw [hg6.out]; exact h)
  have hbb : Hid (∀ w', Below g6 w5 w' → Below w.heap.size w w') := fun w' h => hb5.out.trans (h.mono (Nat.le_of_lt hlt.out))
  have hGb : Hid (∀ w', Below g6 w5 w' → Blk w' g5 51 (hc (.slice A5 n c5) (.slice A6 m c6) (.slice A7 n c7) (.slice A8 m c8)).toArray) := fun w' h => (h.block _ (by rw [← hg6.out]; exact hG5.out.lt)).trans hG5.out
  clear hP5 hF5 hb5 hG5 hGc sP
  have e0 : w6.cell? ⟨w.heap.size, 0, none⟩ = some (.string s) := ((hPb.out _ b6.out).cell 0).trans (by rw [List.getElem?_toArray]; exact pc_name)
  have e1 : w6.cell? ⟨g6, 0, none⟩ = some (.string ByteArray.empty) := hG6.out.cell 0
  have e2 := hG6.out.frozen 0
  have b7 : Hid (Below g6 w5 (w6.setCell ⟨g6, 0, none⟩ (.string s))) := b6.out.setCell (Nat.le_refl _) _
  have hG7 : Hid (Blk (w6.setCell ⟨g6, 0, none⟩ (.string s)) g6 44 (pieceCells s 0 (List.replicate 32 0) (.slice A5 n c5) (.slice A6 m c6)).toArray) := by
    have := hG6.out.set_ 0 (.string s)
    rw [pc_set0] at this
    exact this
  go_upto_region 6 with fail
  clear e0 e1 e2 b6 hG6
  generalize w6.setCell ⟨g6, 0, none⟩ (.string s) = w7 at *
  have e0 : w7.cell? ⟨w.heap.size, 1, none⟩ = some (.int .i64 F) := ((hPb.out _ b7.out).cell 1).trans (by rw [List.getElem?_toArray]; exact pc_first)
  have e1 : w7.cell? ⟨g6, 1, none⟩ = some (.int .i64 0) := hG7.out.cell 1
  have e2 := hG7.out.frozen 1
  have b8 : Hid (Below g6 w5 (w7.setCell ⟨g6, 1, none⟩ (.int .i64 F))) := b7.out.setCell (Nat.le_refl _) _
  have hG8 : Hid (Blk (w7.setCell ⟨g6, 1, none⟩ (.int .i64 F)) g6 44 (pieceCells s F (List.replicate 32 0) (.slice A5 n c5) (.slice A6 m c6)).toArray) := by
    have := hG7.out.set_ 1 (.int .i64 F)
    rw [pc_set1] at this
    exact this
  go_upto_region 7 with fail
  clear e0 e1 e2 b7 hG7
  generalize w7.setCell ⟨g6, 1, none⟩ (.int .i64 F) = w8 at *
  have zd2 : (cells8 b).toArray.size = 32 := by rw [List.size_toArray, cells8_len, hb.out]
  have zd1 : (cells8 b).length = 32 := by rw [cells8_len, hb.out]
  have hdall : Hid (((cells8 b).toArray.all fun v => v.oneCell') = true) := by
    show _ = _
    rw [List.all_toArray]
    exact List.all_eq_true.2 fun v hv => PieceMem.cells8_one v hv
  have hdsz : Hid ((Try.prog.info? 23).map (·.size) = some (cells8 b).toArray.size) := by show _ = _; rw [zd2]; exact size31
  have sD : Hid ((Try.prog.info? 23).map (·.size) = some (cells8 b).length) := by show _ = _; rw [zd1]; exact size31
  go_wp2_with (first
    | ((with_reducible change wpList _ _ _ ({ dst := some 32, op := _, type := _, pos := _, after := _, guard := _ } :: _) _ _); refine wpList_load_part (o := ⟨some 32, _, _, _, _, _⟩) rfl 23 (.tmp 31) rfl (w.heap.size) (2) rfl (cells8 b) _ (fun j v h => ((hPb.out _ b8.out).cell (2 + j)).trans (by rw [List.getElem?_toArray]; exact pc_before j v h)) Try.underlying23 rfl sD.out ?_)
    | ((with_reducible change wpList _ _ _ ({ dst := none, op := Op.store 23 _ _, type := _, pos := _, after := _, guard := _ } :: _) _ _); refine unhid ?_))
  refine Lib.hid ?_
  with_reducible change wpList _ _ _ ({ dst := none, op := Op.store 23 _ _, type := _, pos := _, after := _, guard := _ } :: _) _ _
  refine wpList_store_part (o := ⟨none, _, _, _, _, _⟩) rfl 23 (.tmp 33) (.tmp 32) rfl g6 2 (cells8 b).toArray rfl rfl 44 (pieceCells s F (List.replicate 32 0) (.slice A5 n c5) (.slice A6 m c6)).toArray hG8.out hdsz.out (by rw [zd2]; exact pc_fit rfl) hdall.out ?_
  rw [pc_setB rfl hb.out]
  have b9 : Hid (Below g6 w5 (w8.setRow g6 (pieceCells s F b (.slice A5 n c5) (.slice A6 m c6)).toArray)) := below_setRow b8.out (Nat.le_refl _) _
  have hG9 : Hid (Blk (w8.setRow g6 (pieceCells s F b (.slice A5 n c5) (.slice A6 m c6)).toArray) g6 44 (pieceCells s F b (.slice A5 n c5) (.slice A6 m c6)).toArray) := setRow_heap _ _ _ _ _ _ hG8.out
  generalize w8.setRow g6 (pieceCells s F b (.slice A5 n c5) (.slice A6 m c6)).toArray = w9 at *
  clear b8 hG8 hdall hdsz zd1 zd2
  obtain ⟨AE, cE, AP, cP, hE5, hP6, hEc⟩ := hEn.out w3 w9 B _ _ _ _ gs hs_ (hFb.out w9 b9.out)
  injection hE5 with hE51 _ hE52
  injection hP6 with hP61 _ hP62
  subst hE51 hE52 hP61 hP62
  replace hEc := Lib.hid hEc
  clear hEn
  go_wp2_with ((with_reducible change wpList _ _ _ ({ dst := some 35, op := _, type := _, pos := _, after := _, guard := _ } :: _) _ _); refine wpList_load_row (o := ⟨some 35, _, _, _, _, _⟩) rfl 44 (.tmp 6) rfl (g6) rfl 44 ((pieceCells s F b (.slice A5 n c5) (.slice A6 m c6)).toArray) (0, 0) _ hG9.out Try.underlying44 rfl (pc_info hb.out) ?_)
  refine hEc.out.mono ?_
  rintro e w10 ⟨A4, c4, t, err, rfl, hrb, hbe, hk1⟩
  have b10 : Hid (Below g6 w5 w10) := b9.out.trans (hk1.mono (Nat.le_trans hgs.out b9.out.size))
  replace hrb := Lib.hid hrb
  replace hbe := Lib.hid hbe
  clear hk1 hEc hG9 b9
  have hPx := Lib.hid (hPb.out w10 b10.out)
  go_wp2_with ((with_reducible change wpList _ _ _ ({ dst := some 39, op := _, type := _, pos := _, after := _, guard := _ } :: _) _ _); refine wpList_load_row (o := ⟨some 39, _, _, _, _, _⟩) rfl 44 (.tmp 2) rfl (w.heap.size) rfl 44 ((pieceCells s F b (.slice A n c) (.slice A2 m c2)).toArray) (0, 0) _ hPx.out Try.underlying44 rfl (pc_info hb.out) ?_)
  refine (hWa.out w10 (hbb.out w10 b10.out)).mono ?_
  rintro e w11 ⟨A9, c9, t9, rfl, hr9, hn9, hc9, hb9, hk1⟩
  have b11 : Hid (Below g6 w5 w11) := b10.out.trans (hk1.mono (Nat.le_trans hgs.out b10.out.size))
  replace hrb := Lib.hid (hrb.out.below hk1)
  have hl9 : t9.length < 140737488355328 := by
    rcases hb9 with h | ⟨-, -, h⟩
    · exact hlen.out t9 h
    · rw [h]; decide
  have hRight : Hid (∀ w', Below w11.heap.size w11 w' → Calls Try.prog 10 #[.slice A4 t.length c4, .int .i64 err, .slice A9 t9.length c9] w' fun e w'' => e = .returned (.bool true) ∧ Below w'.heap.size w' w'') := fun w' h => by
    rcases hbe.out with ⟨h1, rfl⟩ | ⟨h1, rfl, rfl⟩
    · rcases hb9 with h2 | ⟨h2, -, -⟩
      · rw [h1] at h2
        obtain rfl := Option.some.inj h2
        cases A9 with
        | none =>
          have := want_pos h1
          have := (hn9 rfl).1
          omega
        | some a => exact right_some t t.length rfl (by omega) A4 c4 a c9 w' (hrb.out.below h) (hr9.below h)
      · rw [h1] at h2; cases h2
    · rcases hb9 with h2 | ⟨-, rfl, rfl⟩
      · rw [h1] at h2; cases h2
      · obtain ⟨rfl⟩ : c9 = 0 := (hn9 rfl).2
        exact right_none A4 c4 w'
  have hRw := Lib.hid (fun w' (h : Below w11.heap.size w11 w') => readsPiece_any t9 t9.length rfl hl9 A9 c9 hc9 w' (hr9.below h) hn9)
  have hRi := Lib.hid (hRight.out w11 (Below.refl _ _))
  clear hk1 hWa hr9 hn9 hc9 hb9 hl9 hrb hbe hPx b10 hRight
  go_wp2_with (first
    | (go_at_call 10; refine hRi.out.mono ?_; rintro e w12 ⟨rfl, hk1⟩; have k12 : Hid (Below w11.heap.size w11 w12) := hk1; have b12 : Hid (Below g6 w5 w12) := b11.out.trans (hk1.mono (Nat.le_trans hgs.out b11.out.size)); have hG12 := Lib.hid (hGb.out w12 b12.out); have x34 : w12.cell? ⟨w.heap.size, 34, none⟩ = some (.slice A n c) := ((hPb.out w12 b12.out).cell 34).trans (by rw [List.getElem?_toArray]; exact pc_events hb.out); have x35 : w12.cell? ⟨w.heap.size, 35, none⟩ = some (.slice A2 m c2) := ((hPb.out w12 b12.out).cell 35).trans (by rw [List.getElem?_toArray]; exact pc_proofs hb.out); have hIx := Lib.hid (hIt.out w3 w12 (hbb.out w12 b12.out) B _ _ _ _ gs hs_ (hFb.out w12 b12.out)); clear hk1 hRi)
    | ((with_reducible change wpList _ _ _ ({ dst := some 47, op := _, type := _, pos := _, after := _, guard := _ } :: _) _ _); refine wpList_load_rowG (o := ⟨some 47, _, _, _, _, _⟩) rfl 51 (.tmp 5) rfl (g5) rfl 51 ((hc (.slice A5 n c5) (.slice A6 m c6) (.slice A7 n c7) (.slice A8 m c8)).toArray) (0, 0) _ hG12.out Try.underlying51 rfl hc_info ?_)
    | (go_at_call 18; refine hIx.out.mono ?_; rintro e w13 ⟨rfl, hk1⟩; have k13 : Hid (Below w11.heap.size w11 w13) := k12.out.trans (hk1.mono k12.out.size); have b13 : Hid (Below g6 w5 w13) := b12.out.trans (hk1.mono (Nat.le_trans hgs.out b12.out.size)); have hQr := Lib.hid (hRq.out w13 (hbb.out w13 b13.out)); clear hk1 hIx x34 x35 hG12)
    | (go_at_call 19; have tok := hQr; refine hQr.out.mono ?_; rintro e w14 ⟨rfl, hk1⟩; have k14 : Hid (Below w11.heap.size w11 w14) := k13.out.trans (hk1.mono k13.out.size); have b14 : Hid (Below g6 w5 w14) := b13.out.trans (hk1.mono (Nat.le_trans hgs.out b13.out.size)); have hQw := Lib.hid (hRw.out w14 k14.out); clear hk1 hQr tok)
    | (go_at_call 19; have tok := hQw; refine hQw.out.mono ?_; rintro e w15 ⟨rfl, hk1⟩; have b15 : Hid (Below g6 w5 w15) := b14.out.trans (hk1.mono (Nat.le_trans hgs.out b14.out.size)); clear hk1 hQw tok))
  go_ret
  exact ⟨rfl, hbb.out _ b15.out⟩
end Go.Proofs.Ytmdkfhfkdcbpgaa.ProofPieces
