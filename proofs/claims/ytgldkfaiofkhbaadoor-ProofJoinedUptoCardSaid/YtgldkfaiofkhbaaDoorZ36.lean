/-
  Texts of the claim, put into one file: RowPiece.
-/
import Derived.Test.YtgldkfaiofkhbaaDoorZ6
import Derived.Test.YtgldkfaiofkhbaaDoorZ3
import Derived.Test.YtgldkfaiofkhbaaDoorZ25
import Derived.Test.YtgldkfaiofkhbaaDoorZ29
import Derived.Test.YtgldkfaiofkhbaaDoorZ18
import Derived.Deep.Strs

namespace Go.Proofs.YtgldkfaiofkhbaaDoor.RowPiece
open Go Go.RowKit Go.ChangeShapes Go.WideShapes Go.Proofs.YtgldkfaiofkhbaaDoor Go.Proofs.YtgldkfaiofkhbaaDoor.Mem Go.Proofs.YtgldkfaiofkhbaaDoor.Sha Go.Proofs.YtgldkfaiofkhbaaDoor.Bytes Go.Proofs.YtgldkfaiofkhbaaDoor.TreeMem Go.Proofs.YtgldkfaiofkhbaaDoor.Row Go.Proofs.YtgldkfaiofkhbaaDoor.Row2 Go.Proofs.YtgldkfaiofkhbaaDoor.RowIdx Go.Proofs.YtgldkfaiofkhbaaDoor.PieceLay Go.Proofs.YtgldkfaiofkhbaaDoor.Prs

section
variable {H : Type} {enc : TypeId × Value → H} {w : World} {base : Nat} {held : Bool}

instance : Inhabited Pr := ⟨⟨0, 0, [], none, 0, 0⟩⟩

set_option maxRecDepth 100000 in
/-- A proof of inclusion, inside a value. -/
theorem incl_in {fuel : Nat} {cs : List Value} {x : DataW H × List MemPlace} (hx : DataW.trod enc Tryd.prog w base (fun _ => true) held fuel 51 cs = some x) (hw : ∀ k ∈ x.1.weights Tryd.prog 51, k ≤ 140737488351232) :
    ∃ p : Pr, cs = p.cells ∧ RdD w p.A p.n p.ds ∧ p.n ≤ p.c ∧ p.n < 4398046511104 ∧ (p.A = none → p.n = 0 ∧ p.c = 0) := by
  obtain ⟨y0, y1, y2, f, hxe, hl, h0, h1, h2⟩ := Go.Deep.trod_struct3 Tryd.underlying51 hx
  obtain ⟨X, e0, -, -⟩ := DataW.trod_int Tryd.underlying3 h0
  obtain ⟨Y, e1, -, -⟩ := DataW.trod_int Tryd.underlying3 h1
  obtain ⟨A, n, c, xs, e2, hn, -, hnil, hf, hr, hbk⟩ := open_flat (ks := reps 32 [.int .u8]) (N := 3) Tryd.underlying42 (by kernel_rfl) (by kernel_rfl) h2
  obtain ⟨qs, hq, hd, rfl⟩ := fits_digs n xs hf
  have hc1 : Tryd.prog.cellsOf 3 = 1 := by kernel_rfl
  have hc2 : Tryd.prog.cellsOf 42 = 1 := by kernel_rfl
  have hc3 : Tryd.prog.cellsOf 51 = 3 := by kernel_rfl
  have hby : Tryd.prog.bytesOf 23 = 32 := by kernel_rfl
  have e0' : (cs.drop 0).take (Tryd.prog.cellsOf 3) = [.int .i64 X] := e0
  have e1' : (cs.drop 1).take (Tryd.prog.cellsOf 3) = [.int .i64 Y] := e1
  have e2' : (cs.drop 2).take (Tryd.prog.cellsOf 42) = [.slice A n c] := e2
  have hl' : cs.length = 3 := hl.trans hc3
  rw [hc1] at e0' e1'
  rw [hc2] at e2'
  refine ⟨⟨X, Y, qs, A, n, c⟩, ?_, ⟨hq, hd, ?_⟩, hn, ?_, hnil⟩
  · match cs, hl', e0', e1', e2' with
    | [a, b, c'], _, k0, k1, k2 =>
      simp at k0 k1 k2
      rw [k0, k1, k2]
      rfl
  · have : (reps 32 [CK.int .u8]).length = 32 := by simp [reps_len]
    rw [this] at hr
    exact hr
  · show n < 4398046511104
    rcases hbk with ⟨hA, _⟩ | ⟨a, elems, rest, rfl, hy, hel, hrl⟩
    · have := (hnil hA).1; omega
    · have hm : (elems.length + rest.length) * Tryd.prog.bytesOf 23 ∈ x.1.weights Tryd.prog 51 := by
        rw [hxe]
        have h2' : (elems.length + rest.length) * Tryd.prog.bytesOf 23 ∈ y2.1.weights Tryd.prog 42 := by
          rw [hy]
          simp only [DataW.weights, Tryd.underlying42, List.mem_cons, true_or]
        simp only [DataW.weights, Tryd.underlying51]
        exact DataW.weights_mem_each (j := 2) rfl rfl _ h2'
      have := hw _ hm
      rw [hby] at this
      simp only [if_true] at hrl
      omega

set_option maxRecDepth 100000 in
/-- A row of proofs of inclusion, inside a value. -/
theorem prs_in {fuel : Nat} {cs : List Value} {x : DataW H × List MemPlace} (hx : DataW.trod enc Tryd.prog w base (fun _ => true) held fuel 77 cs = some x) (hw : ∀ k ∈ x.1.weights Tryd.prog 77, k ≤ 140737488351232) :
    ∃ A n c ps, cs = [.slice A n c] ∧ ps.length = n ∧ n ≤ c ∧ Prs w A ps ∧ (∀ p ∈ ps, p.n < 4398046511104) ∧ ∀ p ∈ ps, p.A = none → p.n = 0 ∧ p.c = 0 := by
  have hc3 : Tryd.prog.cellsOf 51 = 3 := by kernel_rfl
  rcases Go.Deep.open_slice Tryd.underlying77 hx with ⟨hcs, hx0⟩ | ⟨a, len, cap, m, n, D, Pl, hcs, hb, hl, hm, hmm, hx0, hi⟩
  · exact ⟨none, 0, 0, [], hcs, rfl, Nat.le_refl _, ⟨Reads.nil_ w 3 none, by simp⟩, by simp, by simp⟩
  · simp only [if_true] at hmm
    subst hmm
    have hd : x.1 = .slice ((List.range len).map D) ((List.range (m - len)).map fun j => D (len + j)) := congrArg Prod.fst hx0
    rw [hc3] at hi
    obtain ⟨Q, hQ⟩ := Go.Deep.choose_lt (α := Pr) (n := len) (p := fun i p => w.cells? base (a.add (i * 3)) 3 = some p.cells ∧ RdD w p.A p.n p.ds ∧ p.n ≤ p.c ∧ p.n < 4398046511104 ∧ (p.A = none → p.n = 0 ∧ p.c = 0)) (fun i hi' => by
      obtain ⟨cs', h1, h2⟩ := hi i (by omega)
      obtain ⟨p, rfl, g1, g2, g3⟩ := incl_in h2 (fun k hk => hw k (by
        rw [hd]
        simp only [DataW.weights, Tryd.underlying77, List.mem_cons, List.mem_append]
        exact .inr (.inl (weightsAll_mem (List.mem_map.2 ⟨i, List.mem_range.2 hi', rfl⟩) hk))))
      exact ⟨p, h1, g1, g2, g3⟩)
    have hQ0 : ∀ i, i < len → ∀ j u, (Q i).cells[j]? = some u → w.cell? (a.add (i * 3 + j)) = some u := fun i hi' j u hu => by
      obtain ⟨_, hln, hat⟩ := World.cells?_some (hQ i hi').1
      have hj : j < 3 := (List.getElem?_eq_some_iff.1 hu).1
      have := hat j hj
      rw [Go.Deep.add_add] at this
      rw [this, hu]
    have hfl : ∀ l : List Nat, (l.map Q).flatMap Pr.cells = l.flatMap fun i => (Q i).cells := fun l => by
      induction l with
      | nil => rfl
      | cons a l ih => simp [List.flatMap_cons, ih]
    have hlen3 : ∀ k, ((List.range k).flatMap fun i => (Q i).cells).length = k * 3 := by
      intro k
      induction k with
      | zero => simp
      | succ k ih =>
        rw [List.range_succ, List.flatMap_append, List.length_append, ih]
        simp only [List.flatMap_cons, List.flatMap_nil, List.append_nil]
        rw [show (Q k).cells.length = 3 from rfl]
        omega
    have hget : ∀ k, k ≤ len → ∀ j u, ((List.range k).flatMap fun i => (Q i).cells)[j]? = some u → w.cell? (a.add j) = some u := by
      intro k
      induction k with
      | zero => intro _ j u hu; simp at hu
      | succ k ih =>
        intro hk j u hu
        rw [List.range_succ, List.flatMap_append] at hu
        simp only [List.flatMap_cons, List.flatMap_nil, List.append_nil] at hu
        have hlk := hlen3 k
        by_cases hj : j < k * 3
        · rw [List.getElem?_append_left (by omega)] at hu
          exact ih (by omega) j u hu
        · rw [List.getElem?_append_right (by omega), hlk] at hu
          have := hQ0 k (by omega) _ u hu
          rwa [show k * 3 + (j - k * 3) = j by omega] at this
    refine ⟨some a, len, m, (List.range len).map Q, hcs, by simp, hl, ⟨⟨?_, fun hn => ?_⟩, fun p hp => ?_⟩, fun p hp => ?_, fun p hp => ?_⟩
    · rw [hfl, hlen3]; simp
    · rw [hfl]
      have hn' : 0 < len := by simp at hn; omega
      have hcell := hQ0 0 hn' 0 _ rfl
      obtain ⟨b, off, spot⟩ := a
      have hspot : spot = none := by simpa [Addr.add] using World.cell?_spot hcell
      subst hspot
      refine ⟨b, off, rfl, ?_, fun j u hu' => ?_⟩
      · have := World.block_lt_of_cell? w _ hcell
        simpa [add_at] using this
      · have := hget len (Nat.le_refl _) j u hu'
        rwa [add_at] at this
    · obtain ⟨i, hi', rfl⟩ := List.mem_map.1 hp
      have := hQ i (List.mem_range.1 hi')
      exact ⟨this.2.1, this.2.2.1⟩
    · obtain ⟨i, hi', rfl⟩ := List.mem_map.1 hp
      exact (hQ i (List.mem_range.1 hi')).2.2.2.1
    · obtain ⟨i, hi', rfl⟩ := List.mem_map.1 hp
      exact (hQ i (List.mem_range.1 hi')).2.2.2.2

set_option maxRecDepth 100000 in
/-- A row of proofs of inclusion as an argument. -/
theorem open_prsN {r : Reach} {b0 : Nat} {v : Value} {d : DataW H} {ps : List MemPlace} (hval : Value.okWide Tryd.prog w r b0 77 v)
    (h : DataW.Trod enc Tryd.prog w base (fun _ => true) held 77 v d ps)
    {ts : List TypeId} {ds : List (DataW H)} (hsz : (DataW.weightsEach Tryd.prog ts ds).all (· ≤ reachBytes) = true) {j : Nat} (hts : ts[j]? = some 77) (hds : ds[j]? = some d) :
    ∃ A n c prs, v = .slice A n c ∧ prs.length = n ∧ n ≤ c ∧ Prs w A prs ∧ (∀ p ∈ prs, p.n < 4398046511104) ∧ ∀ p ∈ prs, p.A = none → p.n = 0 ∧ p.c = 0 := by
  obtain ⟨a0, len0, cap0, rfl⟩ := okWide_slice Tryd.underlying77 hval
  obtain ⟨fuel, hx⟩ := h
  have hw : ∀ k ∈ d.weights Tryd.prog 77, k ≤ 140737488351232 := fun k hk => by
    have := List.all_eq_true.1 hsz _ (DataW.weights_mem_each hts hds k hk)
    have h2 := of_decide_eq_true this
    simpa [reachBytes] using h2
  obtain ⟨A, n, c, prs, hcs, h1, h2, h3, h4⟩ := prs_in hx hw
  simp only [Value.cells, List.cons.injEq, Value.slice.injEq, and_true] at hcs
  obtain ⟨rfl, rfl, rfl⟩ := hcs
  exact ⟨_, _, _, prs, rfl, h1, h2, h3, h4⟩
end
end Go.Proofs.YtgldkfaiofkhbaaDoor.RowPiece
