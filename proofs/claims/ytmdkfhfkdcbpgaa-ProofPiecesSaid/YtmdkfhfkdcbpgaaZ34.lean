/-
  Texts of the claim, put into one file: RowPiece.
-/
import Derived.Test.YtmdkfhfkdcbpgaaZ11
import Derived.Test.YtmdkfhfkdcbpgaaZ4
import Derived.Test.YtmdkfhfkdcbpgaaZ25
import Derived.Test.YtmdkfhfkdcbpgaaZ31
import Derived.Test.YtmdkfhfkdcbpgaaZ22
import Derived.Deep.Strs

namespace Go.Proofs.Ytmdkfhfkdcbpgaa.RowPiece
open Go Go.RowKit Go.ChangeShapes Go.WideShapes Go.Proofs.Ytmdkfhfkdcbpgaa Go.Proofs.Ytmdkfhfkdcbpgaa.Mem Go.Proofs.Ytmdkfhfkdcbpgaa.Sha Go.Proofs.Ytmdkfhfkdcbpgaa.Bytes Go.Proofs.Ytmdkfhfkdcbpgaa.TreeMem Go.Proofs.Ytmdkfhfkdcbpgaa.Row Go.Proofs.Ytmdkfhfkdcbpgaa.Row2 Go.Proofs.Ytmdkfhfkdcbpgaa.RowIdx Go.Proofs.Ytmdkfhfkdcbpgaa.PieceLay Go.Proofs.Ytmdkfhfkdcbpgaa.Prs

section
variable {H : Type} {enc : TypeId × Value → H} {w : World} {base : Nat} {held : Bool}

/-- A row of texts, inside a value. -/
theorem texts_in {P : Program} {t q e : TypeId} {fuel : Nat} {cs : List Value} {x : DataW H × List MemPlace} (ht : P.underlying t = some (.slice q)) (hq : P.underlying q = some (.slice e)) (he : P.underlying e = some (.int .u8)) (hcq : P.cellsOf q = 1) (hce : P.cellsOf e = 1) (hby : P.bytesOf e = 1)
    (hx : DataW.trod enc P w base (fun _ => true) held fuel t cs = some x) (hw : ∀ k ∈ x.1.weights P t, k ≤ 140737488351232) :
    ∃ A n c es, cs = [.slice A n c] ∧ es.length = n ∧ n ≤ c ∧ Pieces w A es ∧ ∀ x ∈ es, x.length < 140737488355328 := by
  rcases Go.Deep.open_slice1 ht hcq hx with ⟨hcs, hx0⟩ | ⟨a, len, cap, m, n, V, D, Pl, hcs, hb, hl, hm, hmm, hx0, hi⟩
  · exact ⟨none, 0, 0, [], hcs, rfl, Nat.le_refl _, fun h => absurd h (by simp), by simp⟩
  · simp only [if_true] at hmm
    subst hmm
    have hd : x.1 = .slice ((List.range len).map D) ((List.range (m - len)).map fun j => D (len + j)) := congrArg Prod.fst hx0
    obtain ⟨Q, hQ⟩ := Go.Deep.choose_lt (α := Text) (n := len) (p := fun i x => ∃ Ai ci, V i = .slice Ai x.length ci ∧ x.length ≤ ci ∧ (Ai = none → x.length = 0 ∧ ci = 0) ∧ Reads w 1 Ai x.length (cells8 x) ∧ x.length < 140737488355328) (fun i hi' => by
      obtain ⟨_, h2⟩ := hi i (by omega)
      obtain ⟨Ai, ni, ci, xs, hv, g1, g2, g3, g4, g5, g6⟩ := open_flat (ks := [.int .u8]) (N := 1) hq (by simp [flat, he]) hce h2
      obtain ⟨x, hxl, rfl⟩ := fits_bytes ni xs g4
      subst hxl
      refine ⟨x, Ai, ci, by simpa using hv, g1, g3, g5, ?_⟩
      rcases g6 with ⟨h0, _⟩ | ⟨a', elems, rest, _, hDi, hel, hrl⟩
      · have := (g3 h0).1; omega
      · simp only [if_true] at hrl
        have hw' : (elems.length + rest.length) * P.bytesOf e ∈ (D i).weights P q := by
          have : D i = .slice elems rest := hDi
          rw [this]
          simp [DataW.weights, hq]
        have hmem : D i ∈ (List.range len).map D := List.mem_map.2 ⟨i, List.mem_range.2 hi', rfl⟩
        have hall := weightsAll_mem hmem hw'
        have := hw ((elems.length + rest.length) * P.bytesOf e) (by
          rw [hd]
          simp only [DataW.weights, ht, List.mem_cons, List.mem_append]
          exact .inr (.inl hall))
        rw [hby] at this
        omega)
    refine ⟨some a, len, m, (List.range len).map Q, hcs, by simp, hl, fun h0 => ?_, ?_⟩
    · simp only [List.length_map, List.length_range] at h0
      have h00 := (hi 0 (by omega)).1
      obtain ⟨b, off, spot⟩ := a
      have hspot : spot = none := by simpa [Addr.add] using World.cell?_spot h00
      subst hspot
      refine ⟨b, off, rfl, ?_, fun i x hxi => ?_⟩
      · have := World.block_lt_of_cell? w _ h00
        simpa [add_at] using this
      · have hil : i < len := by
          have := (List.getElem?_eq_some_iff.1 hxi).1
          simpa using this
        rw [List.getElem?_map, List.getElem?_range hil] at hxi
        obtain rfl := Option.some.inj hxi
        obtain ⟨Ai, ci, g1, g2, g3, g4, _⟩ := hQ i hil
        have hc := (hi i (by omega)).1
        rw [add_at, g1] at hc
        exact ⟨Ai, ci, hc, g2, g4, g3⟩
    · intro x hx'
      obtain ⟨i, hi', rfl⟩ := List.mem_map.1 hx'
      obtain ⟨_, _, _, _, _, _, g5⟩ := hQ i (List.mem_range.1 hi')
      exact g5

instance : Inhabited Pr := ⟨⟨0, 0, [], none, 0, 0⟩⟩

set_option maxRecDepth 100000 in
/-- A proof of inclusion, inside a value. -/
theorem incl_in {fuel : Nat} {cs : List Value} {x : DataW H × List MemPlace} (hx : DataW.trod enc Try.prog w base (fun _ => true) held fuel 48 cs = some x) (hw : ∀ k ∈ x.1.weights Try.prog 48, k ≤ 140737488351232) :
    ∃ p : Pr, cs = p.cells ∧ RdD w p.A p.n p.ds ∧ p.n ≤ p.c ∧ p.n < 4398046511104 := by
  obtain ⟨y0, y1, y2, f, hxe, hl, h0, h1, h2⟩ := Go.Deep.trod_struct3 Try.underlying48 hx
  obtain ⟨X, e0, -, -⟩ := DataW.trod_int Try.underlying3 h0
  obtain ⟨Y, e1, -, -⟩ := DataW.trod_int Try.underlying3 h1
  obtain ⟨A, n, c, xs, e2, hn, -, hnil, hf, hr, hbk⟩ := open_flat (ks := reps 32 [.int .u8]) (N := 3) Try.underlying26 (by kernel_rfl) (by kernel_rfl) h2
  obtain ⟨qs, hq, hd, rfl⟩ := fits_digs n xs hf
  have hc1 : Try.prog.cellsOf 3 = 1 := by kernel_rfl
  have hc2 : Try.prog.cellsOf 26 = 1 := by kernel_rfl
  have hc3 : Try.prog.cellsOf 48 = 3 := by kernel_rfl
  have hby : Try.prog.bytesOf 23 = 32 := by kernel_rfl
  have e0' : (cs.drop 0).take (Try.prog.cellsOf 3) = [.int .i64 X] := e0
  have e1' : (cs.drop 1).take (Try.prog.cellsOf 3) = [.int .i64 Y] := e1
  have e2' : (cs.drop 2).take (Try.prog.cellsOf 26) = [.slice A n c] := e2
  have hl' : cs.length = 3 := hl.trans hc3
  rw [hc1] at e0' e1'
  rw [hc2] at e2'
  refine ⟨⟨X, Y, qs, A, n, c⟩, ?_, ⟨hq, hd, ?_⟩, hn, ?_⟩
  · match cs, hl', e0', e1', e2' with
    | [a, b, c'], _, k0, k1, k2 =>
      simp at k0 k1 k2
      rw [k0, k1, k2]
      rfl
  · have : (reps 32 [CK.int .u8]).length = 32 := by simp [reps_len]
    rw [this] at hr
    exact hr
  · show n < 4398046511104
    rcases hbk with ⟨hA, _⟩ | ⟨a, elems, rest, rfl, hy, hel, hrl⟩
    · have := (hnil hA).1; omega
    · have hm : (elems.length + rest.length) * Try.prog.bytesOf 23 ∈ x.1.weights Try.prog 48 := by
        rw [hxe]
        have h2' : (elems.length + rest.length) * Try.prog.bytesOf 23 ∈ y2.1.weights Try.prog 26 := by
          rw [hy]
          simp only [DataW.weights, Try.underlying26, List.mem_cons, true_or]
        simp only [DataW.weights, Try.underlying48]
        exact DataW.weights_mem_each (j := 2) rfl rfl _ h2'
      have := hw _ hm
      rw [hby] at this
      simp only [if_true] at hrl
      omega

set_option maxRecDepth 100000 in
/-- A row of proofs of inclusion, inside a value. -/
theorem prs_in {fuel : Nat} {cs : List Value} {x : DataW H × List MemPlace} (hx : DataW.trod enc Try.prog w base (fun _ => true) held fuel 42 cs = some x) (hw : ∀ k ∈ x.1.weights Try.prog 42, k ≤ 140737488351232) :
    ∃ A n c ps, cs = [.slice A n c] ∧ ps.length = n ∧ n ≤ c ∧ Prs w A ps ∧ ∀ p ∈ ps, p.n < 4398046511104 := by
  have hc3 : Try.prog.cellsOf 48 = 3 := by kernel_rfl
  rcases Go.Deep.open_slice Try.underlying42 hx with ⟨hcs, hx0⟩ | ⟨a, len, cap, m, n, D, Pl, hcs, hb, hl, hm, hmm, hx0, hi⟩
  · exact ⟨none, 0, 0, [], hcs, rfl, Nat.le_refl _, ⟨Reads.nil_ w 3 none, by simp⟩, by simp⟩
  · simp only [if_true] at hmm
    subst hmm
    have hd : x.1 = .slice ((List.range len).map D) ((List.range (m - len)).map fun j => D (len + j)) := congrArg Prod.fst hx0
    rw [hc3] at hi
    obtain ⟨Q, hQ⟩ := Go.Deep.choose_lt (α := Pr) (n := len) (p := fun i p => w.cells? base (a.add (i * 3)) 3 = some p.cells ∧ RdD w p.A p.n p.ds ∧ p.n ≤ p.c ∧ p.n < 4398046511104) (fun i hi' => by
      obtain ⟨cs', h1, h2⟩ := hi i (by omega)
      obtain ⟨p, rfl, g1, g2, g3⟩ := incl_in h2 (fun k hk => hw k (by
        rw [hd]
        simp only [DataW.weights, Try.underlying42, List.mem_cons, List.mem_append]
        exact .inr (.inl (weightsAll_mem (List.mem_map.2 ⟨i, List.mem_range.2 hi', rfl⟩) hk))))
      exact ⟨p, h1, g1, g2, g3⟩)
    have hQ0 : ∀ i, i < len → ∀ j u, (Q i).cells[j]? = some u → w.cell? (a.add (i * 3 + j)) = some u := fun i hi' j u hu => by
      obtain ⟨_, hln, hat⟩ := World.cells?_some (hQ i hi').1
      have hj : j < 3 := (List.getElem?_eq_some_iff.1 hu).1
      have := hat j hj
      rw [Go.Deep.add_add] at this
      rw [this, hu]
    have hfl : ∀ l : List Nat, (l.map Q).flatMap Pr.cells = l.flatMap fun i => (Q i).cells := fun l => by
      induction l with
      | nil => rfl
      | cons a l ih => simp [List.flatMap_cons, ih]
    have hlen3 : ∀ k, ((List.range k).flatMap fun i => (Q i).cells).length = k * 3 := by
      intro k
      induction k with
      | zero => simp
      | succ k ih =>
        rw [List.range_succ, List.flatMap_append, List.length_append, ih]
        simp only [List.flatMap_cons, List.flatMap_nil, List.append_nil]
        rw [show (Q k).cells.length = 3 from rfl]
        omega
    have hget : ∀ k, k ≤ len → ∀ j u, ((List.range k).flatMap fun i => (Q i).cells)[j]? = some u → w.cell? (a.add j) = some u := by
      intro k
      induction k with
      | zero => intro _ j u hu; simp at hu
      | succ k ih =>
        intro hk j u hu
        rw [List.range_succ, List.flatMap_append] at hu
        simp only [List.flatMap_cons, List.flatMap_nil, List.append_nil] at hu
        have hlk := hlen3 k
        by_cases hj : j < k * 3
        · rw [List.getElem?_append_left (by omega)] at hu
          exact ih (by omega) j u hu
        · rw [List.getElem?_append_right (by omega), hlk] at hu
          have := hQ0 k (by omega) _ u hu
          rwa [show k * 3 + (j - k * 3) = j by omega] at this
    refine ⟨some a, len, m, (List.range len).map Q, hcs, by simp, hl, ⟨⟨?_, fun hn => ?_⟩, fun p hp => ?_⟩, fun p hp => ?_⟩
    · rw [hfl, hlen3]; simp
    · rw [hfl]
      have hn' : 0 < len := by simp at hn; omega
      have hcell := hQ0 0 hn' 0 _ rfl
      obtain ⟨b, off, spot⟩ := a
      have hspot : spot = none := by simpa [Addr.add] using World.cell?_spot hcell
      subst hspot
      refine ⟨b, off, rfl, ?_, fun j u hu' => ?_⟩
      · have := World.block_lt_of_cell? w _ hcell
        simpa [add_at] using this
      · have := hget len (Nat.le_refl _) j u hu'
        rwa [add_at] at this
    · obtain ⟨i, hi', rfl⟩ := List.mem_map.1 hp
      have := hQ i (List.mem_range.1 hi')
      exact ⟨this.2.1, this.2.2.1⟩
    · obtain ⟨i, hi', rfl⟩ := List.mem_map.1 hp
      exact (hQ i (List.mem_range.1 hi')).2.2.2

theorem five_parts36 (l : List Value) (a b c d e : List Value) (h0 : (l.drop 0).take 1 = a) (h1 : (l.drop 1).take 1 = b) (h2 : (l.drop 2).take 32 = c) (h3 : (l.drop 34).take 1 = d) (h4 : (l.drop 35).take 1 = e) (hl : l.length = 36) : l = a ++ b ++ c ++ (d ++ e) := by
  subst h0 h1 h2 h3 h4
  have e4 : (l.drop 35).take 1 = l.drop 35 := List.take_of_length_le (by rw [List.length_drop]; omega)
  have s3 : (l.drop 34).take 1 ++ l.drop 35 = l.drop 34 := by
    have := List.take_append_drop 1 (l.drop 34)
    rwa [List.drop_drop] at this
  have s2 : (l.drop 2).take 32 ++ l.drop 34 = l.drop 2 := by
    have := List.take_append_drop 32 (l.drop 2)
    rwa [List.drop_drop] at this
  have s1 : (l.drop 1).take 1 ++ l.drop 2 = l.drop 1 := by
    have := List.take_append_drop 1 (l.drop 1)
    rwa [List.drop_drop] at this
  have s0 : (l.drop 0).take 1 ++ l.drop 1 = l := by
    rw [List.drop_zero]
    exact List.take_append_drop 1 l
  rw [e4, s3, List.append_assoc, s2, List.append_assoc, s1, s0]

set_option maxRecDepth 100000 in
theorem open_piece {r : Reach} {b0 : Nat} {v : Value} {d : DataW H} {ps : List MemPlace} (hval : Value.okWide Try.prog w r b0 44 v)
    (h : DataW.Trod enc Try.prog w base (fun _ => true) held 44 v d ps)
    {ts : List TypeId} {ds : List (DataW H)} (hsz : (DataW.weightsEach Try.prog ts ds).all (· ≤ reachBytes) = true) {j : Nat} (hts : ts[j]? = some 44) (hds : ds[j]? = some d) :
    ∃ s F b A n c es A2 m c2 prs, v = .agg (pieceCells s F b (.slice A n c) (.slice A2 m c2)).toArray ∧ s.size ≤ 140737488355328 ∧ b.length = 32 ∧ es.length = n ∧ n ≤ c ∧ Pieces w A es ∧ (∀ e ∈ es, e.length < 140737488355328) ∧ prs.length = m ∧ m ≤ c2 ∧ Prs w A2 prs ∧ (∀ p ∈ prs, p.n < 4398046511104) := by
  obtain ⟨cs, rfl, hsz0⟩ := okWide_struct Try.underlying44 hval
  obtain ⟨fuel, hx⟩ := h
  have hw : ∀ k ∈ d.weights Try.prog 44, k ≤ 140737488351232 := fun k hk => by
    have := List.all_eq_true.1 hsz _ (DataW.weights_mem_each hts hds k hk)
    have h2 := of_decide_eq_true this
    simpa [reachBytes] using h2
  obtain ⟨y0, y1, y2, y3, y4, f, hd, hl, h0, h1, h2, h3, h4⟩ := trod_struct5 Try.underlying44 hx
  have hd' : d = .agg [y0.1, y1.1, y2.1, y3.1, y4.1] := hd
  have hpart : ∀ (j : Nat) (t : TypeId) (d' : DataW H), [9, 3, 23, 41, 42][j]? = some t → [y0.1, y1.1, y2.1, y3.1, y4.1][j]? = some d' → ∀ k ∈ d'.weights Try.prog t, k ≤ 140737488351232 := fun j t d' ht hdd k hk => hw k (by
    rw [hd']
    simp only [DataW.weights, Try.underlying44]
    exact DataW.weights_mem_each (j := j) ht hdd k hk)
  obtain ⟨s, e0, hs0, -⟩ := DataW.trod_string Try.underlying9 h0
  obtain ⟨F, e1, -, -⟩ := DataW.trod_int Try.underlying3 h1
  have k2 := flat_fits 4 23 (reps 32 [.int .u8]) _ _ _ (by kernel_rfl) h2
  obtain ⟨b, hb, e2⟩ := fits_bytes _ _ k2
  obtain ⟨A, n, c, es, e3, hes, hnc, hp, hsh⟩ := texts_in Try.underlying41 Try.underlying29 Try.underlying5 (by kernel_rfl) (by kernel_rfl) (by kernel_rfl) h3 (hpart 3 _ _ rfl rfl)
  obtain ⟨A2, m, c2, prs, e4, hprs, hmc, hq, hnn⟩ := prs_in h4 (hpart 4 _ _ rfl rfl)
  have hss : s.size ≤ 140737488355328 := by
    have := hpart 0 _ _ rfl rfl s.data.toList.length (by rw [hs0]; simp [DataW.weights])
    have h2 : s.data.toList.length = s.size := by simp
    omega
  have hc0 : Try.prog.cellsOf 9 = 1 := by kernel_rfl
  have hc1 : Try.prog.cellsOf 3 = 1 := by kernel_rfl
  have hc2 : Try.prog.cellsOf 23 = 32 := by kernel_rfl
  have hc3 : Try.prog.cellsOf 41 = 1 := by kernel_rfl
  have hc4 : Try.prog.cellsOf 42 = 1 := by kernel_rfl
  have hc5 : Try.prog.cellsOf 44 = 36 := by kernel_rfl
  have e0' : (cs.toList.drop 0).take (Try.prog.cellsOf 9) = [.string s] := e0
  have e1' : (cs.toList.drop 1).take (Try.prog.cellsOf 3) = [.int .i64 F] := e1
  have e2' : (cs.toList.drop 2).take (Try.prog.cellsOf 23) = cells8 b := e2
  have e3' : (cs.toList.drop 34).take (Try.prog.cellsOf 41) = [.slice A n c] := e3
  have e4' : (cs.toList.drop 35).take (Try.prog.cellsOf 42) = [.slice A2 m c2] := e4
  have hl' : cs.toList.length = 36 := hl.trans hc5
  rw [hc0] at e0'
  rw [hc1] at e1'
  rw [hc2] at e2'
  rw [hc3] at e3'
  rw [hc4] at e4'
  have hcs := five_parts36 cs.toList _ _ _ _ _ e0' e1' e2' e3' e4' hl'
  refine ⟨s, F, b, A, n, c, es, A2, m, c2, prs, ?_, hss, hb, hes, hnc, hp, hsh, hprs, hmc, hq, hnn⟩
  congr 1
  apply Array.ext'
  rw [hcs]
  simp [pieceCells]
end
end Go.Proofs.Ytmdkfhfkdcbpgaa.RowPiece
