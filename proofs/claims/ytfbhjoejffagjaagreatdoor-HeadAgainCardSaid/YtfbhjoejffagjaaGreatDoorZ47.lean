/-
  Texts of the claim, put into one file: RowCalls.
-/
import Derived.Test.YtfbhjoejffagjaaGreatDoorZ34
import Derived.Test.YtfbhjoejffagjaaGreatDoorZ6
import Derived.Test.YtfbhjoejffagjaaGreatDoorZ46
import Derived.Deep.Strs

namespace Go.Proofs.YtfbhjoejffagjaaGreatDoor.RowCalls
open Go Go.RowKit Go.ChangeShapes Go.WideShapes Go.Proofs.YtfbhjoejffagjaaGreatDoor Mem Sha Bytes Row Row2 HeadMem Rise EncNote RowNote HeadAgain

section
variable {H : Type} {enc : TypeId × Value → H} {w : World} {base : Nat} {held : Bool}
theorem trod_struct7 {P : Program} {spare : Nat → Bool} {t : TypeId} {f0 f1 f2 f3 f4 f5 f6 : Field} {fuel : Nat} {cs : List Value} {x : DataW H × List MemPlace} (ht : P.underlying t = some (.struct #[f0, f1, f2, f3, f4, f5, f6])) (h : DataW.trod enc P w base spare held fuel t cs = some x) :
  ∃ y0 y1 y2 y3 y4 y5 y6 n, x.1 = .agg [y0.1, y1.1, y2.1, y3.1, y4.1, y5.1, y6.1] ∧ cs.length = P.cellsOf t ∧ DataW.trod enc P w base spare held n f0.type ((cs.drop f0.offset).take (P.cellsOf f0.type)) = some y0 ∧
   DataW.trod enc P w base spare held n f1.type ((cs.drop f1.offset).take (P.cellsOf f1.type)) = some y1 ∧ DataW.trod enc P w base spare held n f2.type ((cs.drop f2.offset).take (P.cellsOf f2.type)) = some y2 ∧
   DataW.trod enc P w base spare held n f3.type ((cs.drop f3.offset).take (P.cellsOf f3.type)) = some y3 ∧ DataW.trod enc P w base spare held n f4.type ((cs.drop f4.offset).take (P.cellsOf f4.type)) = some y4 ∧
   DataW.trod enc P w base spare held n f5.type ((cs.drop f5.offset).take (P.cellsOf f5.type)) = some y5 ∧ DataW.trod enc P w base spare held n f6.type ((cs.drop f6.offset).take (P.cellsOf f6.type)) = some y6 := by
 obtain ⟨xs, n, _, rfl, hl, hlen, hf⟩ := DataW.trod_struct ht h
 match xs, hlen with
 | [y0, y1, y2, y3, y4, y5, y6], _ => exact ⟨y0, y1, y2, y3, y4, y5, y6, n, by simp, hl, by simpa using hf 0 f0 rfl, by simpa using hf 1 f1 rfl, by simpa using hf 2 f2 rfl, by simpa using hf 3 f3 rfl, by simpa using hf 4 f4 rfl, by simpa using hf 5 f5 rfl, by simpa using hf 6 f6 rfl⟩
theorem part_on (l : List Value) {i k : Nat} {a b : List Value} (h1 : (l.drop i).take k = a) (h2 : l.drop (i + k) = b) : l.drop i = a ++ b := by
 rw [← h1, ← h2, ← List.drop_drop, List.take_append_drop]
theorem text_in {P : Program} {t e : TypeId} {fuel : Nat} {cs : List Value} {x : DataW H × List MemPlace} (ht : P.underlying t = some (.slice e)) (he : P.underlying e = some (.int .u8)) (hce : P.cellsOf e = 1) (hby : P.bytesOf e = 1)
  (hx : DataW.trod enc P w base (fun _ => true) held fuel t cs = some x) (hw : ∀ k ∈ x.1.weights P t, k ≤ 140737488351232) :
  ∃ A q c, cs = [.slice A q.length c] ∧ q.length ≤ c ∧ Reads w 1 A q.length (cells8 q) ∧ q.length < 140737488355328 := by
 obtain ⟨A, n, c, xs, hv, g1, g2, g3, g4, g5, g6⟩ := open_flat (ks := [.int .u8]) (N := 1) ht (by simp [flat, he]) hce hx
 obtain ⟨q, hxl, rfl⟩ := fits_bytes n xs g4
 subst hxl
 refine ⟨A, q, c, hv, g1, g5, ?_⟩
 rcases g6 with ⟨h0, _⟩ | ⟨a', elems, rest, _, hDi, hel, hrl⟩
 ·have := (g3 h0).1; omega
 ·simp only [if_true] at hrl
  have := hw ((elems.length + rest.length) * P.bytesOf e) (by
   have e1 : x.1 = .slice elems rest := hDi
   rw [e1]
   simp [DataW.weights, ht])
  rw [hby] at this
  omega
set_option maxRecDepth 100000 in
theorem note_in {fuel : Nat} {cs : List Value} {x : DataW H × List MemPlace} (hx : DataW.trod enc Tryz.prog w base (fun _ => true) held fuel 39 cs = some x) :
  ∃ hd A n c ss, cs = noteCells hd (.slice A n c) ∧ hd.Ok ∧ n ≤ c ∧ Sgs w A n ss := by
 obtain ⟨y0, y1, f, -, hl, h0, h1⟩ := trod_struct2 Tryz.underlying39 hx
 have k0 := flat_fits 5 36 headKs _ _ _ (by kernel_rfl) h0
 obtain ⟨hd, hok, e0⟩ := fits_head _ k0
 obtain ⟨A, n, c, xs, e1, hn, -, hnil, hf, hr, -⟩ := open_flat (ks := signKs) (N := 5) Tryz.underlying37 (by kernel_rfl) (by kernel_rfl) h1
 obtain ⟨ss, hs1, hs2, rfl⟩ := fits_signs n xs hf
 have hc0 : Tryz.prog.cellsOf 36 = 98 := by kernel_rfl
 have hc1 : Tryz.prog.cellsOf 37 = 1 := by kernel_rfl
 have hc2 : Tryz.prog.cellsOf 39 = 99 := by kernel_rfl
 have e0' : (cs.drop 0).take (Tryz.prog.cellsOf 36) = headCells hd := e0
 have e1' : (cs.drop 98).take (Tryz.prog.cellsOf 37) = [.slice A n c] := e1
 have hl' : cs.length = 99 := hl.trans hc2
 rw [hc0, List.drop_zero] at e0'
 rw [hc1] at e1'
 have e2 : cs.drop 98 = [.slice A n c] := by
  rw [← e1', List.take_of_length_le (by rw [List.length_drop, hl']; omega)]
 refine ⟨hd, A, n, c, ss, ?_, hok, hn, hs1, hs2, ?_⟩
 ·unfold noteCells
  rw [← e0', ← e2, List.take_append_drop]
 ·rw [signKs_len] at hr
  exact hr
set_option maxRecDepth 100000 in
theorem call_in {fuel : Nat} {cs : List Value} {x : DataW H × List MemPlace} (hx : DataW.trod enc Tryz.prog w base (fun _ => true) held fuel 58 cs = some x) (hw : ∀ k ∈ x.1.weights Tryz.prog 58, k ≤ 140737488351232) :
  ∃ p : CallD, cs = callC p ∧ CallOk w p := by
 obtain ⟨y0, y1, y2, y3, y4, y5, y6, f, hd, hl, h0, h1, h2, h3, h4, h5, h6⟩ := trod_struct7 Tryz.underlying58 hx
 have hpart : ∀ (j : Nat) (t : TypeId) (d' : DataW H), [3, 3, 39, 31, 31, 9, 56][j]? = some t → [y0.1, y1.1, y2.1, y3.1, y4.1, y5.1, y6.1][j]? = some d' → ∀ k ∈ d'.weights Tryz.prog t, k ≤ 140737488351232 := fun j t d' ht hdd k hk => hw k (by
  rw [hd]
  simp only [DataW.weights, Tryz.underlying58]
  exact DataW.weights_mem_each (j := j) ht hdd k hk)
 obtain ⟨K, e0, -, -⟩ := DataW.trod_int Tryz.underlying3 h0
 obtain ⟨L, e1, -, -⟩ := DataW.trod_int Tryz.underlying3 h1
 obtain ⟨hd2, A, n, c, ss, e2, hok, hn, hS⟩ := note_in h2
 obtain ⟨A3, key, c3, e3, k1, k2, k3⟩ := text_in Tryz.underlying31 Tryz.underlying5 (by kernel_rfl) (by kernel_rfl) h3 (hpart 3 _ _ rfl rfl)
 obtain ⟨A4, raw, c4, e4, r1, r2, r3⟩ := text_in Tryz.underlying31 Tryz.underlying5 (by kernel_rfl) (by kernel_rfl) h4 (hpart 4 _ _ rfl rfl)
 obtain ⟨s, e5, hs5, -⟩ := DataW.trod_string Tryz.underlying9 h5
 have k6 := flat_fits 5 56 signKs _ _ _ (by kernel_rfl) h6
 obtain ⟨sg, hsg, e6⟩ := fits_sign _ k6
 have hss : s.size ≤ 140737488351232 := by
  have := hpart 5 _ _ rfl rfl s.data.toList.length (by rw [hs5]; simp [DataW.weights])
  have h2 : s.data.toList.length = s.size := by simp
  omega
 have q0 : Tryz.prog.cellsOf 3 = 1 := by kernel_rfl
 have q2 : Tryz.prog.cellsOf 39 = 99 := by kernel_rfl
 have q3 : Tryz.prog.cellsOf 31 = 1 := by kernel_rfl
 have q5 : Tryz.prog.cellsOf 9 = 1 := by kernel_rfl
 have q6 : Tryz.prog.cellsOf 56 = 64 := by kernel_rfl
 have q7 : Tryz.prog.cellsOf 58 = 168 := by kernel_rfl
 have e0' : (cs.drop 0).take (Tryz.prog.cellsOf 3) = [.int .i64 K] := e0
 have e1' : (cs.drop 1).take (Tryz.prog.cellsOf 3) = [.int .i64 L] := e1
 have e2' : (cs.drop 2).take (Tryz.prog.cellsOf 39) = noteCells hd2 (.slice A n c) := e2
 have e3' : (cs.drop 101).take (Tryz.prog.cellsOf 31) = [.slice A3 key.length c3] := e3
 have e4' : (cs.drop 102).take (Tryz.prog.cellsOf 31) = [.slice A4 raw.length c4] := e4
 have e5' : (cs.drop 103).take (Tryz.prog.cellsOf 9) = [.string s] := e5
 have e6' : (cs.drop 104).take (Tryz.prog.cellsOf 56) = cells8 sg := e6
 have hl' : cs.length = 168 := hl.trans q7
 rw [q0] at e0' e1'
 rw [q2] at e2'
 rw [q3] at e3' e4'
 rw [q5] at e5'
 rw [q6] at e6'
 have z6 : cs.drop 104 = cells8 sg := by rw [← e6', List.take_of_length_le (by rw [List.length_drop, hl']; omega)]
 have z5 := part_on cs e5' z6
 have z4 := part_on cs e4' z5
 have z3 := part_on cs e3' z4
 have z2 := part_on cs e2' z3
 have z1 := part_on cs e1' z2
 have z0 := part_on cs e0' z1
 rw [List.drop_zero] at z0
 refine ⟨⟨K, L, hd2, A, n, c, ss, key, A3, c3, raw, A4, c4, s, sg⟩, ?_, ⟨hok, hn, hS, k2, k1, k3, r2, r1, r3, by show s.size < _; omega, hsg⟩⟩
 rw [z0]
 rfl
instance : Inhabited CallD := ⟨⟨0, 0, NoteM.h0, none, 0, 0, [], [], none, 0, [], none, 0, ⟨#[]⟩, []⟩⟩
set_option maxRecDepth 100000 in
theorem calls_in {fuel : Nat} {cs : List Value} {x : DataW H × List MemPlace} (hx : DataW.trod enc Tryz.prog w base (fun _ => true) held fuel 54 cs = some x) (hw : ∀ k ∈ x.1.weights Tryz.prog 54, k ≤ 140737488351232) :
  ∃ A n c ps, cs = [.slice A n c] ∧ n ≤ 140737488355328 ∧ CallsAt w A n ps := by
 have hc3 : Tryz.prog.cellsOf 58 = 168 := by kernel_rfl
 have hby : Tryz.prog.bytesOf 58 = 280 := by kernel_rfl
 rcases Go.Deep.open_slice Tryz.underlying54 hx with ⟨hcs, hx0⟩ | ⟨a, len, cap, m, n, D, Pl, hcs, hb, hl, hm, hmm, hx0, hi⟩
 ·exact ⟨none, 0, 0, [], hcs, by omega, ⟨rfl, fun _ h => (by cases h), Reads.nil_ w 168 none⟩⟩
 ·simp only [if_true] at hmm
  subst hmm
  have hd : x.1 = .slice ((List.range len).map D) ((List.range (m - len)).map fun j => D (len + j)) := congrArg Prod.fst hx0
  rw [hc3] at hi
  have hlen : len ≤ 140737488355328 := by
   have h2 : (((List.range len).map D).length + ((List.range (m - len)).map fun j => D (len + j)).length) * Tryz.prog.bytesOf 58 ∈ x.1.weights Tryz.prog 54 := by
    rw [hd]
    simp only [DataW.weights, Tryz.underlying54, List.mem_cons, true_or]
   have h3 := hw _ h2
   rw [hby, List.length_map, List.length_range] at h3
   omega
  obtain ⟨Q, hQ⟩ := Go.Deep.choose_lt (α := CallD) (n := len) (p := fun i p => w.cells? base (a.add (i * 168)) 168 = some (callC p) ∧ CallOk w p) (fun i hi' => by
   obtain ⟨cs', h1, h2⟩ := hi i (by omega)
   obtain ⟨p, rfl, g⟩ := call_in h2 (fun k hk => hw k (by
    rw [hd]
    simp only [DataW.weights, Tryz.underlying54, List.mem_cons, List.mem_append]
    exact .inr (.inl (weightsAll_mem (List.mem_map.2 ⟨i, List.mem_range.2 hi', rfl⟩) hk))))
   exact ⟨p, h1, g⟩)
  have hQl : ∀ i, i < len → (callC (Q i)).length = 168 := fun i hi' => callC_len (hQ i hi').2
  have hQ0 : ∀ i, i < len → ∀ j u, (callC (Q i))[j]? = some u → w.cell? (a.add (i * 168 + j)) = some u := fun i hi' j u hu => by
   obtain ⟨_, hln, hat⟩ := World.cells?_some (hQ i hi').1
   have hj : j < 168 := by have := (List.getElem?_eq_some_iff.1 hu).1; have := hQl i hi'; omega
   have := hat j hj
   rw [Go.Deep.add_add] at this
   rw [this, hu]
  have hfl : ∀ l : List Nat, (l.map Q).flatMap callC = l.flatMap fun i => callC (Q i) := fun l => by
   induction l with
   | nil => rfl
   | cons a l ih => simp [List.flatMap_cons, ih]
  have hlen3 : ∀ k, k ≤ len → ((List.range k).flatMap fun i => callC (Q i)).length = k * 168 := by
   intro k
   induction k with
   | zero => simp
   | succ k ih =>
    intro hk
    rw [List.range_succ, List.flatMap_append, List.length_append, ih (by omega)]
    simp only [List.flatMap_cons, List.flatMap_nil, List.append_nil]
    rw [hQl k (by omega)]
    omega
  have hget : ∀ k, k ≤ len → ∀ j u, ((List.range k).flatMap fun i => callC (Q i))[j]? = some u → w.cell? (a.add j) = some u := by
   intro k
   induction k with
   | zero => intro _ j u hu; simp at hu
   | succ k ih =>
    intro hk j u hu
    rw [List.range_succ, List.flatMap_append] at hu
    simp only [List.flatMap_cons, List.flatMap_nil, List.append_nil] at hu
    have hlk := hlen3 k (by omega)
    by_cases hj : j < k * 168
    ·rw [List.getElem?_append_left (by omega)] at hu
     exact ih (by omega) j u hu
    ·rw [List.getElem?_append_right (by omega), hlk] at hu
     have := hQ0 k (by omega) _ u hu
     rwa [show k * 168 + (j - k * 168) = j by omega] at this
  refine ⟨some a, len, m, (List.range len).map Q, hcs, hlen, ⟨by simp, fun p hp => ?_, ⟨?_, fun hn' => ?_⟩⟩⟩
  ·obtain ⟨i, hi', rfl⟩ := List.mem_map.1 hp
   exact (hQ i (List.mem_range.1 hi')).2
  ·rw [hfl, hlen3 len (Nat.le_refl _)]
  ·rw [hfl]
   replace hn' : 0 < len := by omega
   have h168 := hQl 0 hn'
   obtain ⟨u0, hu0⟩ : ∃ u, (callC (Q 0))[0]? = some u := ⟨_, List.getElem?_eq_getElem (by omega)⟩
   have hcell := hQ0 0 hn' 0 _ hu0
   obtain ⟨b, off, spot⟩ := a
   have hspot : spot = none := by simpa [Addr.add] using World.cell?_spot hcell
   subst hspot
   refine ⟨b, off, rfl, ?_, fun j u hu' => ?_⟩
   ·have := World.block_lt_of_cell? w _ hcell
    simpa [add_at] using this
   ·have := hget len (Nat.le_refl _) j u hu'
    rwa [add_at] at this
set_option maxRecDepth 100000 in
theorem open_calls {r : Reach} {b0 : Nat} {v : Value} {d : DataW H} {ps : List MemPlace} (hval : Value.okWide Tryz.prog w r b0 54 v)
  (h : DataW.Trod enc Tryz.prog w base (fun _ => true) held 54 v d ps)
  {ts : List TypeId} {ds : List (DataW H)} (hsz : (DataW.weightsEach Tryz.prog ts ds).all (· ≤ reachBytes) = true) {j : Nat} (hts : ts[j]? = some 54) (hds : ds[j]? = some d) :
  ∃ A n c qs, v = .slice A n c ∧ n ≤ 140737488355328 ∧ CallsAt w A n qs := by
 obtain ⟨a0, len0, cap0, rfl⟩ := okWide_slice Tryz.underlying54 hval
 obtain ⟨fuel, hx⟩ := h
 have hw : ∀ k ∈ d.weights Tryz.prog 54, k ≤ 140737488351232 := fun k hk => by
  have := List.all_eq_true.1 hsz _ (DataW.weights_mem_each hts hds k hk)
  have h2 := of_decide_eq_true this
  simpa [reachBytes] using h2
 obtain ⟨A, n, c, qs, hcs, h1, h2⟩ := calls_in hx hw
 simp only [Value.cells, List.cons.injEq, Value.slice.injEq, and_true] at hcs
 obtain ⟨rfl, rfl, rfl⟩ := hcs
 exact ⟨_, _, _, qs, rfl, h1, h2⟩
end
end Go.Proofs.YtfbhjoejffagjaaGreatDoor.RowCalls
