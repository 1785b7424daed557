/-
  Words for rows: a slice of slices of bytes as an argument. No program in sight.
-/
import Derived.Test.YtngieimjlkpkaaaDoorRow
namespace Go.Proofs.YtngieimjlkpkaaaDoor.Row2
open Go Go.RowKit Go.ChangeShapes Go.WideShapes Go.Proofs.YtngieimjlkpkaaaDoor Go.Proofs.YtngieimjlkpkaaaDoor.Mem Go.Proofs.YtngieimjlkpkaaaDoor.Sha Go.Proofs.YtngieimjlkpkaaaDoor.Bytes Go.Proofs.YtngieimjlkpkaaaDoor.Row

section
variable {H : Type} {enc : TypeId × Value → H} {P : Program} {w : World} {base : Nat} {held : Bool}

theorem weightsAll_mem {e : TypeId} : ∀ {l : List (DataW H)} {d : DataW H} {n : Nat}, d ∈ l → n ∈ d.weights P e → n ∈ DataW.weightsAll P e l
  | x :: l, d, n, hd, hn => by
    simp only [DataW.weightsAll, List.mem_append]
    rcases List.mem_cons.1 hd with rfl | hd
    · exact .inl hn
    · exact .inr (weightsAll_mem hd hn)
  | [], _, _, hd, _ => by cases hd

/-- A row of texts as an argument. -/
theorem open_texts {r : Reach} {b0 : Nat} {t q e : TypeId} {v : Value} {d : DataW H} {ps : List MemPlace} (ht : P.underlying t = some (.slice q)) (hq : P.underlying q = some (.slice e)) (he : P.underlying e = some (.int .u8)) (hcq : P.cellsOf q = 1) (hce : P.cellsOf e = 1) (hby : P.bytesOf e = 1)
    (hval : Value.okWide P w r b0 t v) (h : DataW.Trod enc P w base (fun _ => true) held t v d ps)
    {ts : List TypeId} {ds : List (DataW H)} (hsz : (DataW.weightsEach P ts ds).all (· ≤ reachBytes) = true) {j : Nat} (hts : ts[j]? = some t) (hds : ds[j]? = some d) :
    ∃ A n c es, v = .slice A n c ∧ es.length = n ∧ n ≤ c ∧ c ≤ maxLen ∧ (A = none → n = 0 ∧ c = 0) ∧ Pieces w A es ∧ (∀ x ∈ es, x.length < 140737488355328) ∧ Bulk d c := by
  obtain ⟨a0, len0, cap0, rfl⟩ := okWide_slice ht hval
  obtain ⟨fuel, hx⟩ := h
  rcases Go.Deep.open_slice1 ht hcq hx with ⟨hcs, hx0⟩ | ⟨a, len, cap, m, n, V, D, Pl, hcs, hb, hl, hm, hmm, hx0, hi⟩
  · simp only [Value.cells, List.cons.injEq, Value.slice.injEq, and_true] at hcs
    obtain ⟨rfl, rfl, rfl⟩ := hcs
    exact ⟨none, 0, 0, [], rfl, rfl, Nat.le_refl _, by simp [maxLen], fun _ => ⟨rfl, rfl⟩, fun h => absurd h (by simp), by simp, .inl ⟨congrArg Prod.fst hx0, rfl⟩⟩
  · simp only [Value.cells, List.cons.injEq, Value.slice.injEq, and_true] at hcs
    obtain ⟨rfl, rfl, rfl⟩ := hcs
    simp only [if_true] at hmm
    subst hmm
    have hd : d = .slice ((List.range len0).map D) ((List.range (m - len0)).map fun j => D (len0 + j)) := congrArg Prod.fst hx0
    obtain ⟨Q, hQ⟩ := Go.Deep.choose_lt (α := Text) (n := len0) (p := fun i x => ∃ Ai ci, V i = .slice Ai x.length ci ∧ x.length ≤ ci ∧ (Ai = none → x.length = 0 ∧ ci = 0) ∧ Reads w 1 Ai x.length (cells8 x) ∧ x.length < 140737488355328) (fun i hi' => by
      obtain ⟨_, h2⟩ := hi i (by omega)
      obtain ⟨Ai, ni, ci, xs, hv, g1, g2, g3, g4, g5, g6⟩ := open_flat (ks := [.int .u8]) (N := 1) hq (by simp [flat, he]) hce h2
      obtain ⟨x, hxl, rfl⟩ := fits_bytes ni xs g4
      subst hxl
      refine ⟨x, Ai, ci, by simpa using hv, g1, g3, g5, ?_⟩
      rcases g6 with ⟨h0, _⟩ | ⟨a', elems, rest, _, hDi, hel, hrl⟩
      · have := (g3 h0).1; omega
      · simp only [if_true] at hrl
        have hw : (elems.length + rest.length) * P.bytesOf e ∈ (D i).weights P q := by
          have : D i = .slice elems rest := hDi
          rw [this]
          simp [DataW.weights, hq]
        have hmem : D i ∈ (List.range len0).map D := List.mem_map.2 ⟨i, List.mem_range.2 hi', rfl⟩
        have hall := weightsAll_mem hmem hw
        have hin : (elems.length + rest.length) * P.bytesOf e ∈ DataW.weightsEach P ts ds := DataW.weights_mem_each hts hds _ (by
          rw [hd]
          simp only [DataW.weights, ht, List.mem_cons, List.mem_append]
          exact .inr (.inl hall))
        have := List.all_eq_true.1 hsz _ hin
        rw [hby] at this
        have h2 : (elems.length + rest.length) * 1 ≤ 140737488351232 := by simpa [reachBytes] using this
        omega)
    refine ⟨some a, len0, m, (List.range len0).map Q, rfl, by simp, hl, hm, (fun h => by cases h), fun h0 => ?_, ?_, .inr ⟨_, _, hd, by simp; omega⟩⟩
    · simp only [List.length_map, List.length_range] at h0
      have h00 := (hi 0 (by omega)).1
      obtain ⟨b, off, spot⟩ := a
      have hspot : spot = none := by simpa [Addr.add] using World.cell?_spot h00
      subst hspot
      refine ⟨b, off, rfl, ?_, fun i x hxi => ?_⟩
      · have := World.block_lt_of_cell? w _ h00
        simpa [add_at] using this
      · have hil : i < len0 := by
          have := (List.getElem?_eq_some_iff.1 hxi).1
          simpa using this
        rw [List.getElem?_map, List.getElem?_range hil] at hxi
        obtain rfl := Option.some.inj hxi
        obtain ⟨Ai, ci, g1, g2, g3, g4, _⟩ := hQ i hil
        have hc := (hi i (by omega)).1
        rw [add_at, g1] at hc
        exact ⟨Ai, ci, hc, g2, g4, g3⟩
    · intro x hx'
      obtain ⟨i, hi', rfl⟩ := List.mem_map.1 hx'
      obtain ⟨_, _, _, _, _, _, g5⟩ := hQ i (List.mem_range.1 hi')
      exact g5
end
end Go.Proofs.YtngieimjlkpkaaaDoor.Row2
