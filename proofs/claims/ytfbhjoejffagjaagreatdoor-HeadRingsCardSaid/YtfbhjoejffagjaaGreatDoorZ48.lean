/-
  Texts of the claim, put into one file: RowAsks.
-/
import Derived.Test.YtfbhjoejffagjaaGreatDoorZ47
import Derived.Test.YtfbhjoejffagjaaGreatDoorZ46
import Derived.Deep.Strs

namespace Go.Proofs.YtfbhjoejffagjaaGreatDoor.RowAsks
open Go Go.RowKit Go.ChangeShapes Go.WideShapes Go.Proofs.YtfbhjoejffagjaaGreatDoor Go.Proofs.YtfbhjoejffagjaaGreatDoor.Mem Go.Proofs.YtfbhjoejffagjaaGreatDoor.Sha Go.Proofs.YtfbhjoejffagjaaGreatDoor.Bytes Go.Proofs.YtfbhjoejffagjaaGreatDoor.Row Go.Proofs.YtfbhjoejffagjaaGreatDoor.HeadMem Go.Proofs.YtfbhjoejffagjaaGreatDoor.Rise Go.Proofs.YtfbhjoejffagjaaGreatDoor.EncNote Go.Proofs.YtfbhjoejffagjaaGreatDoor.RowNote Go.Proofs.YtfbhjoejffagjaaGreatDoor.HeadRings

section
variable {H : Type} {enc : TypeId × Value → H} {w : World} {base : Nat} {held : Bool}

set_option maxRecDepth 100000 in
/-- A note, inside a value. -/
theorem note_in {fuel : Nat} {cs : List Value} {x : DataW H × List MemPlace} (hx : DataW.trod enc Tryz.prog w base (fun _ => true) held fuel 39 cs = some x) :
    ∃ hd A n c ss, cs = noteCells hd (.slice A n c) ∧ hd.Ok ∧ n ≤ c ∧ Sgs w A n ss := by
  obtain ⟨y0, y1, f, -, hl, h0, h1⟩ := trod_struct2 Tryz.underlying39 hx
  have k0 := flat_fits 5 36 headKs _ _ _ (by kernel_rfl) h0
  obtain ⟨hd, hok, e0⟩ := fits_head _ k0
  obtain ⟨A, n, c, xs, e1, hn, -, hnil, hf, hr, -⟩ := open_flat (ks := signKs) (N := 5) Tryz.underlying37 (by kernel_rfl) (by kernel_rfl) h1
  obtain ⟨ss, hs1, hs2, rfl⟩ := fits_signs n xs hf
  have hc0 : Tryz.prog.cellsOf 36 = 98 := by kernel_rfl
  have hc1 : Tryz.prog.cellsOf 37 = 1 := by kernel_rfl
  have hc2 : Tryz.prog.cellsOf 39 = 99 := by kernel_rfl
  have e0' : (cs.drop 0).take (Tryz.prog.cellsOf 36) = headCells hd := e0
  have e1' : (cs.drop 98).take (Tryz.prog.cellsOf 37) = [.slice A n c] := e1
  have hl' : cs.length = 99 := hl.trans hc2
  rw [hc0, List.drop_zero] at e0'
  rw [hc1] at e1'
  have e2 : cs.drop 98 = [.slice A n c] := by
    rw [← e1', List.take_of_length_le (by rw [List.length_drop, hl']; omega)]
  refine ⟨hd, A, n, c, ss, ?_, hok, hn, hs1, hs2, ?_⟩
  · unfold noteCells
    rw [← e0', ← e2, List.take_append_drop]
  · rw [signKs_len] at hr
    exact hr
set_option maxRecDepth 100000 in
/-- A question, inside a value. -/
theorem ask_in {fuel : Nat} {cs : List Value} {x : DataW H × List MemPlace} (hx : DataW.trod enc Tryz.prog w base (fun _ => true) held fuel 42 cs = some x) :
    ∃ p : AskD, cs = askC p ∧ p.h.Ok ∧ p.n ≤ p.c ∧ Sgs w p.A p.n p.ss := by
  obtain ⟨y0, y1, f, -, hl, h0, h1⟩ := trod_struct2 Tryz.underlying42 hx
  obtain ⟨hd, A, n, c, ss, e0, hok, hn, hS⟩ := note_in h0
  obtain ⟨X, e1, -, -⟩ := DataW.trod_int Tryz.underlying3 h1
  have hc0 : Tryz.prog.cellsOf 39 = 99 := by kernel_rfl
  have hc1 : Tryz.prog.cellsOf 3 = 1 := by kernel_rfl
  have hc2 : Tryz.prog.cellsOf 42 = 100 := by kernel_rfl
  have e0' : (cs.drop 0).take (Tryz.prog.cellsOf 39) = noteCells hd (.slice A n c) := e0
  have e1' : (cs.drop 99).take (Tryz.prog.cellsOf 3) = [.int .i64 X] := e1
  have hl' : cs.length = 100 := hl.trans hc2
  rw [hc0, List.drop_zero] at e0'
  rw [hc1] at e1'
  have e2 : cs.drop 99 = [.int .i64 X] := by
    rw [← e1', List.take_of_length_le (by rw [List.length_drop, hl']; omega)]
  refine ⟨⟨hd, A, n, c, ss, X⟩, ?_, hok, hn, hS⟩
  show cs = noteCells hd (.slice A n c) ++ [.int .i64 X]
  rw [← e0', ← e2, List.take_append_drop]
instance : Inhabited AskD := ⟨⟨NoteM.h0, none, 0, 0, [], 0⟩⟩
set_option maxRecDepth 100000 in
/-- A row of questions, inside a value. -/
theorem asks_in {fuel : Nat} {cs : List Value} {x : DataW H × List MemPlace} (hx : DataW.trod enc Tryz.prog w base (fun _ => true) held fuel 23 cs = some x) (hw : ∀ k ∈ x.1.weights Tryz.prog 23, k ≤ 140737488351232) :
    ∃ A n c ps, cs = [.slice A n c] ∧ n ≤ 140737488355328 ∧ AsksAt w A n ps := by
  have hc3 : Tryz.prog.cellsOf 42 = 100 := by kernel_rfl
  have hby : Tryz.prog.bytesOf 42 = 144 := by kernel_rfl
  rcases Go.Deep.open_slice Tryz.underlying23 hx with ⟨hcs, hx0⟩ | ⟨a, len, cap, m, n, D, Pl, hcs, hb, hl, hm, hmm, hx0, hi⟩
  · exact ⟨none, 0, 0, [], hcs, by omega, ⟨rfl, fun _ h => (by cases h), Reads.nil_ w 100 none⟩⟩
  · simp only [if_true] at hmm
    subst hmm
    have hd : x.1 = .slice ((List.range len).map D) ((List.range (m - len)).map fun j => D (len + j)) := congrArg Prod.fst hx0
    rw [hc3] at hi
    have hlen : len ≤ 140737488355328 := by
      have h2 : (((List.range len).map D).length + ((List.range (m - len)).map fun j => D (len + j)).length) * Tryz.prog.bytesOf 42 ∈ x.1.weights Tryz.prog 23 := by
        rw [hd]
        simp only [DataW.weights, Tryz.underlying23, List.mem_cons, true_or]
      have h3 := hw _ h2
      rw [hby, List.length_map, List.length_range] at h3
      omega
    obtain ⟨Q, hQ⟩ := Go.Deep.choose_lt (α := AskD) (n := len) (p := fun i p => w.cells? base (a.add (i * 100)) 100 = some (askC p) ∧ p.h.Ok ∧ p.n ≤ p.c ∧ Sgs w p.A p.n p.ss) (fun i hi' => by
      obtain ⟨cs', h1, h2⟩ := hi i (by omega)
      obtain ⟨p, rfl, g⟩ := ask_in h2
      exact ⟨p, h1, g⟩)
    have hQl : ∀ i, i < len → (askC (Q i)).length = 100 := fun i hi' => askC_len (hQ i hi').2.1
    have hQ0 : ∀ i, i < len → ∀ j u, (askC (Q i))[j]? = some u → w.cell? (a.add (i * 100 + j)) = some u := fun i hi' j u hu => by
      obtain ⟨_, hln, hat⟩ := World.cells?_some (hQ i hi').1
      have hj : j < 100 := by have := (List.getElem?_eq_some_iff.1 hu).1; have := hQl i hi'; omega
      have := hat j hj
      rw [Go.Deep.add_add] at this
      rw [this, hu]
    have hfl : ∀ l : List Nat, (l.map Q).flatMap askC = l.flatMap fun i => askC (Q i) := fun l => by
      induction l with
      | nil => rfl
      | cons a l ih => simp [List.flatMap_cons, ih]
    have hlen3 : ∀ k, k ≤ len → ((List.range k).flatMap fun i => askC (Q i)).length = k * 100 := by
      intro k
      induction k with
      | zero => simp
      | succ k ih =>
        intro hk
        rw [List.range_succ, List.flatMap_append, List.length_append, ih (by omega)]
        simp only [List.flatMap_cons, List.flatMap_nil, List.append_nil]
        rw [hQl k (by omega)]
        omega
    have hget : ∀ k, k ≤ len → ∀ j u, ((List.range k).flatMap fun i => askC (Q i))[j]? = some u → w.cell? (a.add j) = some u := by
      intro k
      induction k with
      | zero => intro _ j u hu; simp at hu
      | succ k ih =>
        intro hk j u hu
        rw [List.range_succ, List.flatMap_append] at hu
        simp only [List.flatMap_cons, List.flatMap_nil, List.append_nil] at hu
        have hlk := hlen3 k (by omega)
        by_cases hj : j < k * 100
        · rw [List.getElem?_append_left (by omega)] at hu
          exact ih (by omega) j u hu
        · rw [List.getElem?_append_right (by omega), hlk] at hu
          have := hQ0 k (by omega) _ u hu
          rwa [show k * 100 + (j - k * 100) = j by omega] at this
    refine ⟨some a, len, m, (List.range len).map Q, hcs, hlen, ⟨by simp, fun p hp => ?_, ⟨?_, fun hn' => ?_⟩⟩⟩
    · obtain ⟨i, hi', rfl⟩ := List.mem_map.1 hp
      exact (hQ i (List.mem_range.1 hi')).2
    · rw [hfl, hlen3 len (Nat.le_refl _)]
    · rw [hfl]
      replace hn' : 0 < len := by omega
      have h100 := hQl 0 hn'
      obtain ⟨u0, hu0⟩ : ∃ u, (askC (Q 0))[0]? = some u := ⟨_, List.getElem?_eq_getElem (by omega)⟩
      have hcell := hQ0 0 hn' 0 _ hu0
      obtain ⟨b, off, spot⟩ := a
      have hspot : spot = none := by simpa [Addr.add] using World.cell?_spot hcell
      subst hspot
      refine ⟨b, off, rfl, ?_, fun j u hu' => ?_⟩
      · have := World.block_lt_of_cell? w _ hcell
        simpa [add_at] using this
      · have := hget len (Nat.le_refl _) j u hu'
        rwa [add_at] at this
set_option maxRecDepth 100000 in
/-- A row of questions as an argument. -/
theorem open_asks {r : Reach} {b0 : Nat} {v : Value} {d : DataW H} {ps : List MemPlace} (hval : Value.okWide Tryz.prog w r b0 23 v)
    (h : DataW.Trod enc Tryz.prog w base (fun _ => true) held 23 v d ps)
    {ts : List TypeId} {ds : List (DataW H)} (hsz : (DataW.weightsEach Tryz.prog ts ds).all (· ≤ reachBytes) = true) {j : Nat} (hts : ts[j]? = some 23) (hds : ds[j]? = some d) :
    ∃ A n c qs, v = .slice A n c ∧ n ≤ 140737488355328 ∧ AsksAt w A n qs := by
  obtain ⟨a0, len0, cap0, rfl⟩ := okWide_slice Tryz.underlying23 hval
  obtain ⟨fuel, hx⟩ := h
  have hw : ∀ k ∈ d.weights Tryz.prog 23, k ≤ 140737488351232 := fun k hk => by
    have := List.all_eq_true.1 hsz _ (DataW.weights_mem_each hts hds k hk)
    have h2 := of_decide_eq_true this
    simpa [reachBytes] using h2
  obtain ⟨A, n, c, qs, hcs, h1, h2⟩ := asks_in hx hw
  simp only [Value.cells, List.cons.injEq, Value.slice.injEq, and_true] at hcs
  obtain ⟨rfl, rfl, rfl⟩ := hcs
  exact ⟨_, _, _, qs, rfl, h1, h2⟩
end
end Go.Proofs.YtfbhjoejffagjaaGreatDoor.RowAsks
