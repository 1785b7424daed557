/-
  DecodeHead, walked.
-/
import Derived.Test.YtngieimjlkpkaaaHeadTake2
namespace Go.Proofs.Ytngieimjlkpkaaa.Decode
open Go Go.RowKit Go.Proofs.Ytngieimjlkpkaaa Go.Proofs.Ytngieimjlkpkaaa.Mem Go.Proofs.Ytngieimjlkpkaaa.Sha Go.Proofs.Ytngieimjlkpkaaa.Bytes Go.Proofs.Ytngieimjlkpkaaa.Append Go.Proofs.Ytngieimjlkpkaaa.Octet Go.Proofs.Ytngieimjlkpkaaa.QuietTail Go.Proofs.Ytngieimjlkpkaaa.Grown Go.Proofs.Ytngieimjlkpkaaa.Reader Go.Proofs.Ytngieimjlkpkaaa.Reader2 Go.Proofs.Ytngieimjlkpkaaa.Reader3 Go.Proofs.Ytngieimjlkpkaaa.HeadMem Go.Proofs.Ytngieimjlkpkaaa.HeadTake Go.Proofs.Ytngieimjlkpkaaa.HeadTake2

theorem wpList_store_all {P : Program} {ops : Array Oper} {rest : List Oper} {o : Oper} {a : Act} {w : World} {Q : Exit → Act → World → Prop} (hgd : o.guard = none) (ty : TypeId) (x y : Operand) (ho : o.op = .store ty x y)
    (g : Nat) (cells : Array Value) (hx : a.eval x = .pointer (some ⟨g, 0, none⟩)) (hy : a.eval y = .agg cells)
    (t : TypeId) (old : Array Value) (hg : Blk w g t old) (hi : (P.info? ty).map (·.size) = some cells.size)
    (hold : old.size = cells.size) (h1 : cells.all (·.oneCell') = true)
    (h : ∀ w', Hid (Blk w' g t cells) → Kept (· = g) w w' → wpList P ops Q rest (a.put o.dst undef) w') : wpList P ops Q (o :: rest) a w :=
  wpList_store_row hgd ty x y ho g cells hx hy t old hg hi hold h1 (h _ (setRow_heap _ _ _ _ _ _ hg) (Bytes.Kept.setRow (S := (· = g)) (Kept.refl _ w) rfl _))

def decOk (q : Text) : Bool := decide (q.length = 113) && okH q
def decOut (q : Text) : Value := .tuple (if decOk q = true then #[.agg (headCells (headOf q)).toArray, .int .i64 0] else #[.agg Z98, .int .i64 8])
theorem decOut_yes {q : Text} (h : decOk q = true) : decOut q = .tuple #[.agg (headCells (headOf q)).toArray, .int .i64 0] := by unfold decOut; rw [if_pos h]
theorem decOut_no {q : Text} (h : ¬ decOk q = true) : decOut q = .tuple #[.agg Z98, .int .i64 8] := by unfold decOut; rw [if_neg h]

theorem head_sizes {h : HeadD} (ok : h.Ok) : Hid ((Try.prog.info? 30).map (·.size) = some (headCells h).toArray.size) ∧ Hid ((headCells h).toArray.all (fun v => v.oneCell') = true) ∧ Hid ((Z98 : Array Value).size = (headCells h).toArray.size) :=
  ⟨by show _ = _; rw [List.size_toArray, headCells_len ok]; exact size98, by show _ = _; rw [List.all_toArray]; exact List.all_eq_true.2 (headCells_one h), z98_size.trans (by rw [List.size_toArray, headCells_len ok])⟩

/-- What stands when the head was taken: the reader's block is above, the result's cell lies. -/
structure Dec (w0 w : World) (g : Nat) (q : Text) (A : Option Addr) (c need : Nat) : Prop where
  rd : Rd w g q A c need
  res : Blk w w0.heap.size 30 Z98
  below : Below w0.heap.size w0 w
  hg : w0.heap.size < g
section
variable {w0 w w' : World} {g c need need' : Nat} {q : Text} {A : Option Addr}
theorem Dec.call (h : Dec w0 w g q A c need) (hr : Rd w' g q A c need') (hk : Kept (· = g) w w') : Dec w0 w' g q A c need' :=
  ⟨hr, h.res.kept hk (by have := h.hg; omega), h.below.trans (Kept.below_of hk (by have := h.hg; omega) h.below.size), h.hg⟩
theorem Dec.far (h : Dec w0 w g q A c need) (hk : Below w.heap.size w w') : Dec w0 w' g q A c need :=
  ⟨h.rd.below hk, h.res.kept (S := fun _ => False) (Kept.of_below hk) (fun x => x), h.below.trans (hk.mono h.below.size), h.hg⟩
theorem Dec.end_ (h : Dec w0 w g q A c need) (X : Array Value) : Below w0.heap.size w0 (w.setRow w0.heap.size X) := below_setRow h.below (Nat.le_refl _) X
end
theorem below_new {w w' : World} {o : Obj} (hk : Kept (· = w.heap.size) (w.alloc o) w') : Below w.heap.size w w' :=
  (Below.heap_below w o).trans (Kept.below_of hk (Nat.le_refl _) (by simp))

set_option maxRecDepth 100000 in
set_option maxHeartbeats 1000000 in
theorem decode_any (q : Text) (k : Nat) (hk : q.length = k) (hk47 : k < 140737488355328) (A : Option Addr) (c : Nat) (w : World) (hr : Reads w 1 A k (cells8 q)) (hnil : A = none → k = 0 ∧ c = 0) :
    Calls Try.prog 34 #[.slice A k c] w fun e w' => e = .returned (decOut q) ∧ Below w.heap.size w w' := by
  subst hk
  have hr0 : Hid (Reads (w.alloc (.cells Z98 30)) 1 A q.length (cells8 q)) := hr.alloc _
  have hb0 : Hid (Below w.heap.size w (w.alloc (.cells Z98 30))) := Below.heap_below w _
  have hZ : Hid (Blk (w.alloc (.cells Z98 30)) w.heap.size 30 Z98) := Blk.new w _ _
  have hZs : Hid ((w.alloc (.cells Z98 30)).heap.size = w.heap.size + 1) := by show _ = _; simp
  have hT : Hid (∀ w' : World, Below (w.heap.size + 1) (w.alloc (.cells Z98 30)) w' → ∀ g A' c', w.heap.size + 1 ≤ g → Rd w' g q A' c' 0 → Dec w w' g q A' c' 0) := fun w' hb g A' c' hg hr => ⟨hr, hZ.out.kept (S := fun _ => False) (Kept.of_below (by rw [hZs.out]; exact hb)) (fun x => x), hb0.out.trans (hb.mono (Nat.le_succ _)), hg⟩
  replace hnil := Lib.hid hnil
  replace hk47 := Lib.hid hk47
  clear hr
  by_cases ht : 113 ≤ q.length ∧ okH q = true
  · have hX : takeOut q = .tuple #[.agg (headCells (headOf q)).toArray, .bool true] := takeOut_yes ht.1 ht.2
    obtain ⟨hz, ho, hs⟩ := head_sizes (headOf_ok q ht.1 ht.2)
    by_cases hd : q.length = 113
    · have hY : Hid (decOut q = .tuple #[.agg (headCells (headOf q)).toArray, .int .i64 0]) := decOut_yes (by simp [decOk, hd, ht.2])
      have hDn : Hid (doneOf 113 q.length = 0) := if_pos hd.symm
      clear ht hd
      go_enter Try.func34, Try.ntmps34
      go_wp2_with (first
        | (go_at_call 53; refine (read_any q q.length rfl hk47.out A c (w.alloc (.cells Z98 30)) hr0.out hnil.out).mono ?_; rintro e w1 ⟨g, A1, c1, rfl, hg, hb1, hR1⟩; rw [hZs.out] at hg hb1; have D1 := Lib.hid (hT.out w1 hb1 g A1 c1 hg hR1); clear hg hb1 hR1 hT hb0)
        | (go_at_call 54; refine (take_any q hk47.out g A1 c1 w1 D1.out.rd).mono ?_; rw [hX]; rintro e w2 ⟨rfl, hR2, hk2⟩; have D2 := Lib.hid (D1.out.call hR2 hk2); clear hR2 hk2 D1)
        | ((with_reducible change wpList _ _ _ ({ dst := none, op := Op.store 30 (.tmp 5) (.tmp 12), type := _, pos := _, after := _, guard := _ } :: _) _ _); refine wpList_store_all (o := ⟨none, _, _, _, _, _⟩) rfl 30 (.tmp 5) (.tmp 12) rfl w2.heap.size (headCells (headOf q)).toArray rfl rfl 30 Z98 (Blk.new w2 _ _) hz.out hs.out ho.out ?_; intro w3 hB3 hk3; have D3 := Lib.hid (D2.out.far (below_new hk3)); clear hk3 D2; generalize w2.heap.size = m at *)
        | (go_at_call 55; refine (done_any q hk47.out g 113 A1 c1 w3 D3.out.rd).mono ?_; rw [hDn.out]; rintro e w4' ⟨rfl, n4, rfl⟩; have hB4 := Lib.hid (hB3.out.drewN n4); have D4 := Lib.hid (D3.out.far (below_drawn (Below.refl _ w3) n4)); clear hB3 D3; generalize w3.drewN n4 = w4 at *)
        | ((with_reducible change wpList _ _ _ ({ dst := some 22, op := _, type := _, pos := _, after := _, guard := _ } :: _) _ _); refine wpList_load_row (o := ⟨some 22, _, _, _, _, _⟩) rfl 30 (.tmp 5) rfl m rfl 30 (headCells (headOf q)).toArray (0, 0) _ hB4.out Try.underlying30 rfl hz.out ?_)
        | ((with_reducible change wpList _ _ _ ({ dst := none, op := Op.store 30 (.tmp 2) (.tmp 22), type := _, pos := _, after := _, guard := _ } :: _) _ _); refine wpList_store_row (o := ⟨none, _, _, _, _, _⟩) rfl 30 (.tmp 2) (.tmp 22) rfl w.heap.size (headCells (headOf q)).toArray rfl rfl 30 Z98 D4.out.res hz.out hs.out ho.out ?_))
      refine bodyPost_ret (results_cell_row2 rfl _ _ w.heap.size 30 (headCells (headOf q)).toArray (0, 0) _ rfl (setRow_heap _ _ _ _ _ _ D4.out.res) Try.underlying30 rfl hz.out) rfl ?_
      exact ⟨by rw [hY.out]; rfl, D4.out.end_ _⟩
    · have hY : Hid (decOut q = .tuple #[.agg Z98, .int .i64 8]) := decOut_no (by simp [decOk, hd])
      have hDn : Hid (doneOf 113 q.length = 8) := if_neg (fun e => hd e.symm)
      clear ht hd
      go_enter Try.func34, Try.ntmps34
      go_wp2_with (first
        | (go_at_call 53; refine (read_any q q.length rfl hk47.out A c (w.alloc (.cells Z98 30)) hr0.out hnil.out).mono ?_; rintro e w1 ⟨g, A1, c1, rfl, hg, hb1, hR1⟩; rw [hZs.out] at hg hb1; have D1 := Lib.hid (hT.out w1 hb1 g A1 c1 hg hR1); clear hg hb1 hR1 hT hb0)
        | (go_at_call 54; refine (take_any q hk47.out g A1 c1 w1 D1.out.rd).mono ?_; rw [hX]; rintro e w2 ⟨rfl, hR2, hk2⟩; have D2 := Lib.hid (D1.out.call hR2 hk2); clear hR2 hk2 D1)
        | ((with_reducible change wpList _ _ _ ({ dst := none, op := Op.store 30 (.tmp 5) (.tmp 12), type := _, pos := _, after := _, guard := _ } :: _) _ _); refine wpList_store_all (o := ⟨none, _, _, _, _, _⟩) rfl 30 (.tmp 5) (.tmp 12) rfl w2.heap.size (headCells (headOf q)).toArray rfl rfl 30 Z98 (Blk.new w2 _ _) hz.out hs.out ho.out ?_; intro w3 hB3 hk3; have D3 := Lib.hid (D2.out.far (below_new hk3)); clear hk3 D2; generalize w2.heap.size = m at *)
        | (go_at_call 55; refine (done_any q hk47.out g 113 A1 c1 w3 D3.out.rd).mono ?_; rw [hDn.out]; rintro e w4' ⟨rfl, n4, rfl⟩; have hB4 := Lib.hid (hB3.out.drewN n4); have D4 := Lib.hid (D3.out.far (below_drawn (Below.refl _ w3) n4)); clear hB3 D3; generalize w3.drewN n4 = w4 at *)
        | ((with_reducible change wpList _ _ _ ({ dst := none, op := Op.store 30 (.tmp 2) (.tmp 21), type := _, pos := _, after := _, guard := _ } :: _) _ _); refine wpList_store_row (o := ⟨none, _, _, _, _, _⟩) rfl 30 (.tmp 2) (.tmp 21) rfl w.heap.size Z98 rfl rfl 30 Z98 D4.out.res size98' rfl one98 ?_))
      refine bodyPost_ret (results_cell_row2 rfl _ _ w.heap.size 30 Z98 (0, 0) _ rfl (setRow_heap _ _ _ _ _ _ D4.out.res) Try.underlying30 rfl size98') rfl ?_
      exact ⟨by rw [hY.out]; rfl, D4.out.end_ _⟩
  · have hX : takeOut q = .tuple #[.agg Z98, .bool false] := takeOut_no ht
    have hY : Hid (decOut q = .tuple #[.agg Z98, .int .i64 8]) := decOut_no (fun h => ht (by simp [decOk] at h; exact ⟨by omega, h.2⟩))
    clear ht
    go_enter Try.func34, Try.ntmps34
    go_wp2_with (first
      | (go_at_call 53; refine (read_any q q.length rfl hk47.out A c (w.alloc (.cells Z98 30)) hr0.out hnil.out).mono ?_; rintro e w1 ⟨g, A1, c1, rfl, hg, hb1, hR1⟩; rw [hZs.out] at hg hb1; have D1 := Lib.hid (hT.out w1 hb1 g A1 c1 hg hR1); clear hg hb1 hR1 hT hb0)
      | (go_at_call 54; refine (take_any q hk47.out g A1 c1 w1 D1.out.rd).mono ?_; rw [hX]; rintro e w2 ⟨rfl, hR2, hk2⟩; have D2 := Lib.hid (D1.out.call hR2 hk2); clear hR2 hk2 D1)
      | ((with_reducible change wpList _ _ _ ({ dst := none, op := Op.store 30 (.tmp 5) (.tmp 12), type := _, pos := _, after := _, guard := _ } :: _) _ _); refine wpList_store_all (o := ⟨none, _, _, _, _, _⟩) rfl 30 (.tmp 5) (.tmp 12) rfl w2.heap.size Z98 rfl rfl 30 Z98 (Blk.new w2 _ _) size98' rfl one98 ?_; intro w3 hB3 hk3; have D3 := Lib.hid (D2.out.far (below_new hk3)); clear hk3 D2; generalize w2.heap.size = m at *)
      | ((with_reducible change wpList _ _ _ ({ dst := none, op := Op.store 30 (.tmp 2) (.tmp 21), type := _, pos := _, after := _, guard := _ } :: _) _ _); refine wpList_store_row (o := ⟨none, _, _, _, _, _⟩) rfl 30 (.tmp 2) (.tmp 21) rfl w.heap.size Z98 rfl rfl 30 Z98 D3.out.res size98' rfl one98 ?_))
    refine bodyPost_ret (results_cell_row2 rfl _ _ w.heap.size 30 Z98 (0, 0) _ rfl (setRow_heap _ _ _ _ _ _ D3.out.res) Try.underlying30 rfl size98') rfl ?_
    exact ⟨by rw [hY.out]; rfl, D3.out.end_ _⟩
end Go.Proofs.Ytngieimjlkpkaaa.Decode
