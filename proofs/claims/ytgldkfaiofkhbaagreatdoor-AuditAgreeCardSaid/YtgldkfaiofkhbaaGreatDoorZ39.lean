/-
  Texts of the claim, put into one file: RowNote, RowOffers.
-/
import Derived.Test.YtgldkfaiofkhbaaGreatDoorZ5
import Derived.Test.YtgldkfaiofkhbaaGreatDoorZ29
import Derived.Deep.Strs
import Derived.Test.YtgldkfaiofkhbaaGreatDoorZ38
import Derived.Test.YtgldkfaiofkhbaaGreatDoorZ37

namespace Go.Proofs.YtgldkfaiofkhbaaGreatDoor.RowNote
open Go Go.RowKit Go.ChangeShapes Go.WideShapes Go.Proofs.YtgldkfaiofkhbaaGreatDoor Mem Sha Bytes Row HeadMem Rise EncNote

def headKs : List CK := reps 32 [.int .u8] ++ ([.int .i64] ++ (reps 32 [.int .u8] ++ (reps 32 [.int .u8] ++ [.int .i64])))
theorem fits_i64 {cs : List Value} (h : Fits [.int .i64] cs) : ∃ n : Int, cs = [.int .i64 n] ∧ -9223372036854775808 ≤ n ∧ n ≤ 9223372036854775807 := by
 have hl := h.length
 match cs, hl, h with
 | [v], _, h =>
  obtain ⟨n, rfl, hw⟩ := h.1
  exact ⟨n, rfl, by simpa [Lit.wf, IntKind.min, IntKind.max, IntKind.signed, IntKind.bits] using hw⟩
theorem fits_head (cs : List Value) (h : Fits headKs cs) : ∃ h : HeadMem.HeadD, h.Ok ∧ cs = HeadMem.headCells h := by
 unfold headKs at h
 obtain ⟨h1, h2⟩ := h.split
 obtain ⟨h3, h4⟩ := h2.split
 obtain ⟨h5, h6⟩ := h4.split
 obtain ⟨h7, h8⟩ := h6.split
 obtain ⟨q1, e1, f1⟩ := fits_bytes _ _ h1
 obtain ⟨n2, f2, b2⟩ := fits_i64 h3
 obtain ⟨q3, e3, f3⟩ := fits_bytes _ _ h5
 obtain ⟨q4, e4, f4⟩ := fits_bytes _ _ h7
 obtain ⟨n5, f5, b5⟩ := fits_i64 h8
 refine ⟨⟨q1, n2, q3, q4, n5⟩, ⟨e1, e3, e4, b2, b5⟩, ?_⟩
 unfold HeadMem.headCells
 show cs = cells8 q1 ++ ([.int .i64 n2] ++ (cells8 q3 ++ (cells8 q4 ++ [.int .i64 n5])))
 rw [← f1, ← f2, ← f3, ← f4, ← f5, List.take_append_drop, List.take_append_drop, List.take_append_drop, List.take_append_drop]
def signKs : List CK := reps 32 [.int .u8] ++ reps 32 [.int .u8]
theorem signKs_len : signKs.length = 64 := by simp [signKs, reps_len]
theorem fits_sign (cs : List Value) (h : Fits signKs cs) : ∃ s : Text, s.length = 64 ∧ cs = cells8 s := by
 unfold signKs at h
 obtain ⟨h1, h2⟩ := h.split
 obtain ⟨q1, e1, f1⟩ := fits_bytes _ _ h1
 obtain ⟨q2, e2, f2⟩ := fits_bytes _ _ h2
 refine ⟨q1 ++ q2, by rw [List.length_append, e1, e2], ?_⟩
 have e : cells8 (q1 ++ q2) = cells8 q1 ++ cells8 q2 := by simp [cells8]
 rw [e, ← f1, ← f2, List.take_append_drop]
theorem fits_signs : ∀ (n : Nat) (xs : List Value), Fits (reps n signKs) xs → ∃ ss : List Text, ss.length = n ∧ (∀ t ∈ ss, t.length = 64) ∧ xs = ss.flatMap cells8
 | 0, xs, h => by
  have := h.length
  rw [reps_len] at this
  obtain rfl : xs = [] := List.eq_nil_of_length_eq_zero (by simpa using this)
  exact ⟨[], rfl, by simp, rfl⟩
 | n + 1, xs, h => by
  rw [reps_succ] at h
  obtain ⟨h1, h2⟩ := h.split
  obtain ⟨qs, hq, hl, he⟩ := fits_signs n _ h1
  obtain ⟨q, hq1, he1⟩ := fits_sign _ h2
  refine ⟨qs ++ [q], by simp [hq], fun x hx => ?_, ?_⟩
  ·rcases List.mem_append.1 hx with hx | hx
   ·exact hl x hx
   ·simp only [List.mem_singleton] at hx; rw [hx]; exact hq1
  ·rw [List.flatMap_append, ← he]
   simp only [List.flatMap_cons, List.flatMap_nil, List.append_nil]
   rw [← he1, List.take_append_drop]
section
variable {H : Type} {enc : TypeId × Value → H} {w : World} {base : Nat} {held : Bool}

end
end Go.Proofs.YtgldkfaiofkhbaaGreatDoor.RowNote

namespace Go.Proofs.YtgldkfaiofkhbaaGreatDoor.RowOffers
open Go Go.RowKit Go.ChangeShapes Go.WideShapes Go.Proofs.YtgldkfaiofkhbaaGreatDoor Mem Sha Bytes Row Row2 HeadMem Rise EncNote RowNote TreeMem Offers

section
variable {H : Type} {enc : TypeId × Value → H} {w : World} {base : Nat} {held : Bool}

set_option maxRecDepth 100000 in
theorem note_in {fuel : Nat} {cs : List Value} {x : DataW H × List MemPlace} (hx : DataW.trod enc Tryz.prog w base (fun _ => true) held fuel 39 cs = some x) :
  ∃ hd A n c ss, cs = noteCells hd (.slice A n c) ∧ hd.Ok ∧ (A = none → n = 0 ∧ c = 0) ∧ Sgs w A n ss := by
 obtain ⟨y0, y1, f, -, hl, h0, h1⟩ := trod_struct2 Tryz.underlying39 hx
 have k0 := flat_fits 5 36 headKs _ _ _ (by kernel_rfl) h0
 obtain ⟨hd, hok, e0⟩ := fits_head _ k0
 obtain ⟨A, n, c, xs, e1, hn, -, hnil, hf, hr, -⟩ := open_flat (ks := signKs) (N := 5) Tryz.underlying37 (by kernel_rfl) (by kernel_rfl) h1
 obtain ⟨ss, hs1, hs2, rfl⟩ := fits_signs n xs hf
 have hc0 : Tryz.prog.cellsOf 36 = 98 := by kernel_rfl
 have hc1 : Tryz.prog.cellsOf 37 = 1 := by kernel_rfl
 have hc2 : Tryz.prog.cellsOf 39 = 99 := by kernel_rfl
 have e0' : (cs.drop 0).take (Tryz.prog.cellsOf 36) = headCells hd := e0
 have e1' : (cs.drop 98).take (Tryz.prog.cellsOf 37) = [.slice A n c] := e1
 have hl' : cs.length = 99 := hl.trans hc2
 rw [hc0, List.drop_zero] at e0'
 rw [hc1] at e1'
 have e2 : cs.drop 98 = [.slice A n c] := by
  rw [← e1', List.take_of_length_le (by rw [List.length_drop, hl']; omega)]
 refine ⟨hd, A, n, c, ss, ?_, hok, hnil, hs1, hs2, ?_⟩
 ·unfold noteCells
  rw [← e0', ← e2, List.take_append_drop]
 ·rw [signKs_len] at hr
  exact hr
set_option maxRecDepth 100000 in
theorem cons_in {fuel : Nat} {cs : List Value} {x : DataW H × List MemPlace} (hx : DataW.trod enc Tryz.prog w base (fun _ => true) held fuel 46 cs = some x) (hw : ∀ k ∈ x.1.weights Tryz.prog 46, k ≤ 140737488351232) :
  ∃ a b A n c qs, cs = [.int .i64 a, .int .i64 b, .slice A n c] ∧ n < 140737488355328 ∧ RdD w A n qs := by
 obtain ⟨y0, y1, y2, f, hd, hl, h0, h1, h2⟩ := Go.Deep.trod_struct3 Tryz.underlying46 hx
 have hpart : ∀ (j : Nat) (t : TypeId) (d' : DataW H), [3, 3, 44][j]? = some t → [y0.1, y1.1, y2.1][j]? = some d' → ∀ k ∈ d'.weights Tryz.prog t, k ≤ 140737488351232 := fun j t d' ht hdd k hk => hw k (by
  rw [hd]
  simp only [DataW.weights, Tryz.underlying46]
  exact DataW.weights_mem_each (j := j) ht hdd k hk)
 obtain ⟨a, e0, -, -⟩ := DataW.trod_int Tryz.underlying3 h0
 obtain ⟨b, e1, -, -⟩ := DataW.trod_int Tryz.underlying3 h1
 obtain ⟨A, n, c, xs, e2, hn, g2, g3, hf, hr, g6⟩ := open_flat (ks := reps 32 [.int .u8]) (N := 3) Tryz.underlying44 (by kernel_rfl) (by kernel_rfl) h2
 obtain ⟨qs, hq, hdq, rfl⟩ := fits_digs n xs hf
 have hby : Tryz.prog.bytesOf 23 = 32 := by kernel_rfl
 have hn47 : n < 140737488355328 := by
  rcases g6 with ⟨h0, _⟩ | ⟨a', elems, rest, _, hDi, hel, hrl⟩
  ·have := (g3 h0).1; omega
  ·simp only [if_true] at hrl
   have := hpart 2 _ _ rfl rfl ((elems.length + rest.length) * Tryz.prog.bytesOf 23) (by
    have e1 : y2.1 = .slice elems rest := hDi
    rw [e1]
    simp [DataW.weights, Tryz.underlying44])
   rw [hby] at this
   omega
 have hc1 : Tryz.prog.cellsOf 3 = 1 := by kernel_rfl
 have hc2 : Tryz.prog.cellsOf 44 = 1 := by kernel_rfl
 have hc3 : Tryz.prog.cellsOf 46 = 3 := by kernel_rfl
 have e0' : (cs.drop 0).take (Tryz.prog.cellsOf 3) = [.int .i64 a] := e0
 have e1' : (cs.drop 1).take (Tryz.prog.cellsOf 3) = [.int .i64 b] := e1
 have e2' : (cs.drop 2).take (Tryz.prog.cellsOf 44) = [.slice A n c] := e2
 have hl' : cs.length = 3 := hl.trans hc3
 rw [hc1] at e0' e1'
 rw [hc2] at e2'
 refine ⟨a, b, A, n, c, qs, ?_, hn47, hq, hdq, ?_⟩
 ·match hcl : cs, hl' with
  | [u, v, z], _ =>
   simp at e0' e1' e2'
   rw [e0', e1', e2']
 ·have : (reps 32 [CK.int .u8]).length = 32 := by simp [reps_len]
  rw [this] at hr
  exact hr
set_option maxRecDepth 100000 in
theorem ask_in {fuel : Nat} {cs : List Value} {x : DataW H × List MemPlace} (hx : DataW.trod enc Tryz.prog w base (fun _ => true) held fuel 69 cs = some x) (hw : ∀ k ∈ x.1.weights Tryz.prog 69, k ≤ 140737488351232) :
  ∃ p : OfferD, cs = offC p ∧ OfferOk w p := by
 obtain ⟨y0, y1, f, hd, hl, h0, h1⟩ := trod_struct2 Tryz.underlying69 hx
 obtain ⟨hdd, A, n, c, ss, e0, hok, hnil, hS⟩ := note_in h0
 have hpart : ∀ (j : Nat) (t : TypeId) (d' : DataW H), [39, 46][j]? = some t → [y0.1, y1.1][j]? = some d' → ∀ k ∈ d'.weights Tryz.prog t, k ≤ 140737488351232 := fun j t d' ht hdd k hk => hw k (by
  rw [hd]
  simp only [DataW.weights, Tryz.underlying69]
  exact DataW.weights_mem_each (j := j) ht hdd k hk)
 obtain ⟨a, b, A2, m, c2, qs, e1, hm, hr⟩ := cons_in h1 (hpart 1 _ _ rfl rfl)
 have hc0 : Tryz.prog.cellsOf 39 = 99 := by kernel_rfl
 have hc1 : Tryz.prog.cellsOf 46 = 3 := by kernel_rfl
 have hc2 : Tryz.prog.cellsOf 69 = 102 := by kernel_rfl
 have e0' : (cs.drop 0).take (Tryz.prog.cellsOf 39) = noteCells hdd (.slice A n c) := e0
 have e1' : (cs.drop 99).take (Tryz.prog.cellsOf 46) = [.int .i64 a, .int .i64 b, .slice A2 m c2] := e1
 have hl' : cs.length = 102 := hl.trans hc2
 rw [hc0, List.drop_zero] at e0'
 rw [hc1] at e1'
 have e2 : cs.drop 99 = [.int .i64 a, .int .i64 b, .slice A2 m c2] := by
  rw [← e1', List.take_of_length_le (by rw [List.length_drop, hl']; omega)]
 refine ⟨⟨hdd, A, n, c, ss, a, b, A2, m, c2, qs⟩, ?_, hok, hnil, hS, hm, hr⟩
 show cs = noteCells hdd (.slice A n c) ++ [.int .i64 a, .int .i64 b, .slice A2 m c2]
 rw [← e0', ← e2, List.take_append_drop]
instance : Inhabited OfferD := ⟨⟨NoteM.h0, none, 0, 0, [], 0, 0, none, 0, 0, []⟩⟩
set_option maxRecDepth 100000 in
theorem offers_in {fuel : Nat} {cs : List Value} {x : DataW H × List MemPlace} (hx : DataW.trod enc Tryz.prog w base (fun _ => true) held fuel 62 cs = some x) (hw : ∀ k ∈ x.1.weights Tryz.prog 62, k ≤ 140737488351232) :
  ∃ A n c ps, cs = [.slice A n c] ∧ n ≤ 140737488355328 ∧ OffersAt w A n ps ∧ n ≤ c ∧ (A = none → n = 0 ∧ c = 0) := by
 have hc3 : Tryz.prog.cellsOf 69 = 102 := by kernel_rfl
 have hby : Tryz.prog.bytesOf 69 = 176 := by kernel_rfl
 rcases Go.Deep.open_slice Tryz.underlying62 hx with ⟨hcs, hx0⟩ | ⟨a, len, cap, m, n, D, Pl, hcs, hb, hl, hm, hmm, hx0, hi⟩
 ·exact ⟨none, 0, 0, [], hcs, by omega, ⟨rfl, fun _ h => (by cases h), Reads.nil_ w 102 none⟩, Nat.le_refl _, fun _ => ⟨rfl, rfl⟩⟩
 ·simp only [if_true] at hmm
  subst hmm
  have hd : x.1 = .slice ((List.range len).map D) ((List.range (m - len)).map fun j => D (len + j)) := congrArg Prod.fst hx0
  rw [hc3] at hi
  have hlen : len ≤ 140737488355328 := by
   have h2 : (((List.range len).map D).length + ((List.range (m - len)).map fun j => D (len + j)).length) * Tryz.prog.bytesOf 69 ∈ x.1.weights Tryz.prog 62 := by
    rw [hd]
    simp only [DataW.weights, Tryz.underlying62, List.mem_cons, true_or]
   have h3 := hw _ h2
   rw [hby, List.length_map, List.length_range] at h3
   omega
  obtain ⟨Q, hQ⟩ := Go.Deep.choose_lt (α := OfferD) (n := len) (p := fun i p => w.cells? base (a.add (i * 102)) 102 = some (offC p) ∧ OfferOk w p) (fun i hi' => by
   obtain ⟨cs', h1, h2⟩ := hi i (by omega)
   obtain ⟨p, rfl, g⟩ := ask_in h2 (fun k hk => hw k (by
    rw [hd]
    simp only [DataW.weights, Tryz.underlying62, List.mem_cons, List.mem_append]
    exact .inr (.inl (weightsAll_mem (List.mem_map.2 ⟨i, List.mem_range.2 hi', rfl⟩) hk))))
   exact ⟨p, h1, g⟩)
  have hQl : ∀ i, i < len → (offC (Q i)).length = 102 := fun i hi' => offC_len (hQ i hi').2.ok
  have hQ0 : ∀ i, i < len → ∀ j u, (offC (Q i))[j]? = some u → w.cell? (a.add (i * 102 + j)) = some u := fun i hi' j u hu => by
   obtain ⟨_, hln, hat⟩ := World.cells?_some (hQ i hi').1
   have hj : j < 102 := by have := (List.getElem?_eq_some_iff.1 hu).1; have := hQl i hi'; omega
   have := hat j hj
   rw [Go.Deep.add_add] at this
   rw [this, hu]
  have hfl : ∀ l : List Nat, (l.map Q).flatMap offC = l.flatMap fun i => offC (Q i) := fun l => by
   induction l with
   | nil => rfl
   | cons a l ih => simp [List.flatMap_cons, ih]
  have hlen3 : ∀ k, k ≤ len → ((List.range k).flatMap fun i => offC (Q i)).length = k * 102 := by
   intro k
   induction k with
   | zero => simp
   | succ k ih =>
    intro hk
    rw [List.range_succ, List.flatMap_append, List.length_append, ih (by omega)]
    simp only [List.flatMap_cons, List.flatMap_nil, List.append_nil]
    rw [hQl k (by omega)]
    omega
  have hget : ∀ k, k ≤ len → ∀ j u, ((List.range k).flatMap fun i => offC (Q i))[j]? = some u → w.cell? (a.add j) = some u := by
   intro k
   induction k with
   | zero => intro _ j u hu; simp at hu
   | succ k ih =>
    intro hk j u hu
    rw [List.range_succ, List.flatMap_append] at hu
    simp only [List.flatMap_cons, List.flatMap_nil, List.append_nil] at hu
    have hlk := hlen3 k (by omega)
    by_cases hj : j < k * 102
    ·rw [List.getElem?_append_left (by omega)] at hu
     exact ih (by omega) j u hu
    ·rw [List.getElem?_append_right (by omega), hlk] at hu
     have := hQ0 k (by omega) _ u hu
     rwa [show k * 102 + (j - k * 102) = j by omega] at this
  refine ⟨some a, len, m, (List.range len).map Q, hcs, hlen, ⟨by simp, fun p hp => ?_, ⟨?_, fun hn' => ?_⟩⟩, by omega, fun h => by cases h⟩
  ·obtain ⟨i, hi', rfl⟩ := List.mem_map.1 hp
   exact (hQ i (List.mem_range.1 hi')).2
  ·rw [hfl, hlen3 len (Nat.le_refl _)]
  ·rw [hfl]
   replace hn' : 0 < len := by omega
   have h102 := hQl 0 hn'
   obtain ⟨u0, hu0⟩ : ∃ u, (offC (Q 0))[0]? = some u := ⟨_, List.getElem?_eq_getElem (by omega)⟩
   have hcell := hQ0 0 hn' 0 _ hu0
   obtain ⟨b, off, spot⟩ := a
   have hspot : spot = none := by simpa [Addr.add] using World.cell?_spot hcell
   subst hspot
   refine ⟨b, off, rfl, ?_, fun j u hu' => ?_⟩
   ·have := World.block_lt_of_cell? w _ hcell
    simpa [add_at] using this
   ·have := hget len (Nat.le_refl _) j u hu'
    rwa [add_at] at this
set_option maxRecDepth 100000 in
theorem open_offers {r : Reach} {b0 : Nat} {v : Value} {d : DataW H} {ps : List MemPlace} (hval : Value.okWide Tryz.prog w r b0 62 v)
  (h : DataW.Trod enc Tryz.prog w base (fun _ => true) held 62 v d ps)
  {ts : List TypeId} {ds : List (DataW H)} (hsz : (DataW.weightsEach Tryz.prog ts ds).all (· ≤ reachBytes) = true) {j : Nat} (hts : ts[j]? = some 62) (hds : ds[j]? = some d) :
  ∃ A n c qs, v = .slice A n c ∧ n ≤ 140737488355328 ∧ OffersAt w A n qs ∧ n ≤ c ∧ (A = none → n = 0 ∧ c = 0) := by
 obtain ⟨a0, len0, cap0, rfl⟩ := okWide_slice Tryz.underlying62 hval
 obtain ⟨fuel, hx⟩ := h
 have hw : ∀ k ∈ d.weights Tryz.prog 62, k ≤ 140737488351232 := fun k hk => by
  have := List.all_eq_true.1 hsz _ (DataW.weights_mem_each hts hds k hk)
  have h2 := of_decide_eq_true this
  simpa [reachBytes] using h2
 obtain ⟨A, n, c, qs, hcs, h1, h2, h3, h4⟩ := offers_in hx hw
 simp only [Value.cells, List.cons.injEq, Value.slice.injEq, and_true] at hcs
 obtain ⟨rfl, rfl, rfl⟩ := hcs
 exact ⟨_, _, _, qs, rfl, h1, h2, h3, h4⟩
end
end Go.Proofs.YtgldkfaiofkhbaaGreatDoor.RowOffers
