/-
  Texts of the claim, put into one file: Add, RefAdd, HeadAdds.
-/
import Derived.Test.YteelanamlhfmgaaDoorZ40
import Derived.Test.YteelanamlhfmgaaDoorZ32
import Derived.Deep.Cut
import Derived.Test.YteelanamlhfmgaaDoorZ39
import Derived.Test.YteelanamlhfmgaaDoorZ33
import Derived.Test.YteelanamlhfmgaaDoorZ29
import Derived.Test.YteelanamlhfmgaaDoorZ5
import Derived.Test.YteelanamlhfmgaaDoorZ9
import Derived.Deep.CutRange

namespace Go.Proofs.YteelanamlhfmgaaDoor.Add
open Go Go.RowKit Go.Proofs.YteelanamlhfmgaaDoor Go.Proofs.YteelanamlhfmgaaDoor.Mem Go.Proofs.YteelanamlhfmgaaDoor.Sha Go.Proofs.YteelanamlhfmgaaDoor.Bytes Go.Proofs.YteelanamlhfmgaaDoor.SortP Go.Proofs.YteelanamlhfmgaaDoor.NoteP Go.Proofs.YteelanamlhfmgaaDoor.Grown Go.Proofs.YteelanamlhfmgaaDoor.Want Go.Proofs.YteelanamlhfmgaaDoor.Append Go.Proofs.YteelanamlhfmgaaDoor.Own Go.Proofs.YteelanamlhfmgaaDoor.Rise Go.Proofs.YteelanamlhfmgaaDoor.SortM Go.Proofs.YteelanamlhfmgaaDoor.SgM Go.Proofs.YteelanamlhfmgaaDoor.HashMem Go.Proofs.YteelanamlhfmgaaDoor.HeadMem Go.Proofs.YteelanamlhfmgaaDoor.EncNoteP Go.Proofs.YteelanamlhfmgaaDoor.EncNote Go.Proofs.YteelanamlhfmgaaDoor.RowS Go.Proofs.YteelanamlhfmgaaDoor.NoteM Go.Proofs.YteelanamlhfmgaaDoor.RefNote Go.Proofs.YteelanamlhfmgaaDoor.Insert Go.Proofs.YteelanamlhfmgaaDoor.Bin Go.Proofs.YteelanamlhfmgaaDoor.Sign Go.Proofs.YteelanamlhfmgaaDoor.Signs Go.Proofs.YteelanamlhfmgaaDoor.AddP Go.Proofs.YteelanamlhfmgaaDoor.Rising0 Go.Proofs.YteelanamlhfmgaaDoor.Decode Go.Proofs.YteelanamlhfmgaaDoor.HeadTake Go.Proofs.YteelanamlhfmgaaDoor.Fill

theorem size26 : (Tryd.prog.info? 43).map (·.size) = some 64 := by kernel_rfl
theorem zero26 : ((Tryd.prog.info? 43).bind (·.zero)).isSome = true := by kernel_rfl
theorem own_off {S : Nat → Prop} {w w' : World} {B n : Nat} {v : Value} {ds : List Text} (h : OwnS w B v n ds) (hk : Kept S w w') (hS : ∀ k, S k → k < B) : OwnS w' B v n ds := by
  obtain ⟨h1, h2, hFl, hown⟩ := h
  refine ⟨h1, h2, hFl, ?_⟩
  rcases hown with h | ⟨g, c, cur, hv, hBg, hg, hnc, hcm, hcs, htk⟩
  · exact .inl h
  · exact .inr ⟨g, c, cur, hv, hBg, Blk.kept hg hk (fun x => by have := hS g x; omega), hnc, hcm, hcs, htk⟩
def AddYes (ss : List Text) (s : Text) (h : HeadD) (w : World) (e : Ending) (w' : World) : Prop := ∃ V k2 o, e = .returned (.tuple #[V, .int .i64 k2]) ∧ Below w.heap.size w w' ∧ Hid (addFin ss s = (o, k2)) ∧ AddPost w.heap.size w' h V o
theorem own_sign (w : World) {x : Text} (hx : x.length = 64) : OwnS (w.alloc (.cells ([cells8 x].flatten).toArray 43)) w.heap.size (.slice (some ⟨w.heap.size, 0, none⟩) 1 1) 1 [x] := by
  have h8 : (cells8 x).length = 64 := by rw [cells8_len, hx]
  refine ⟨Sns.one hx, rfl, by simp [h8], .inr ⟨w.heap.size, 1, _, rfl, Nat.le_refl _, Blk.new w _ _, Nat.le_refl _, by unfold maxLen; omega, by simp [h8], ?_⟩⟩
  rw [List.toList_toArray, List.flatten_cons, List.flatten_nil, List.append_nil, List.take_of_length_le (by omega)]
  simp
theorem one_flat (xs : List Value) : ([xs].flatten) = xs := by simp

set_option maxRecDepth 100000 in
set_option maxHeartbeats 4000000 in
theorem add_refused (h : HeadD) (ok : h.Ok) (ss : List Text) (n : Nat) (hn47 : n ≤ 1099511627776) (A : Option Addr) (c : Nat) (hnil : A = none → n = 0 ∧ c = 0) (q : Text) (k : Nat) (hk : q.length = k) (Ak : Option Addr) (ck : Nat) (hkc : k ≤ ck) (hkn : Ak = none → k = 0 ∧ ck = 0) (s : Text) (hs : Hid ((signAns h q).1 = s)) (k1 : Int) (hk1 : Hid ((signAns h q).2 = k1)) (hk0 : ¬ k1 = 0) (w : World) (hB : Base w) (hS : Sgs w A n ss) (hq : Reads w 1 Ak k (cells8 q)) :
    Calls Tryd.prog 9 #[.agg (noteCells h (.slice A n c)).toArray, .slice Ak k ck] w fun e w' => e = .returned (.tuple #[.agg Z99, .int .i64 k1]) ∧ Below w.heap.size w w' := by
  have ok' := Lib.hid ok
  have hn7 := Lib.hid hn47
  have hnl := Lib.hid hnil
  have hk' := Lib.hid hk
  have hkc' := Lib.hid hkc
  have hkn' := Lib.hid hkn
  have hs64 : Hid (s.length = 64) := by show _ = _; rw [← hs.out]; exact signAns_len h q
  obtain ⟨w0, hw0⟩ : ∃ w0, Hid ((w.alloc (.cells (noteCells h (.slice A n c)).toArray 28)).alloc (.cells Z99 28) = w0) := ⟨_, Lib.hid rfl⟩
  have D0 : Hid (AD w w0 h A n c) := by show AD _ _ _ _ _ _; rw [← hw0.out]; exact AD.new
  have hw0' : (w.alloc (.cells (noteCells h (.slice A n c)).toArray 28)).alloc (.cells Tryd.zeroCells28 28) = w0 := hw0.out
  have hS0 : Hid (∀ w', Below w.heap.size w w' → Sgs w' A n ss) := fun w' hb => hS.below hb
  have hq0 : Hid (∀ w', Below w.heap.size w w' → Reads w' 1 Ak k (cells8 q)) := fun w' hb => hq.below hb
  have hBs : Hid (∀ w', Below w.heap.size w w' → Base w') := fun w' hb => hB.below hb hB.1
  have hsz : Hid ((Tryd.prog.info? 25).map (·.size) = some (headCells h).length) := by show _ = _; rw [headCells_len ok]; exact size98
  have s1 := Lib.hid (sign_size s hs64.out)
  have s2 := Lib.hid (sign_zero s hs64.out)
  have s3 := Lib.hid (sign_one s)
  have z1 := Lib.hid (fun v => note_size ok v)
  have z2 := Lib.hid (fun v => note_zero ok v)
  have z3 := Lib.hid (fun A n c => note_one (h := h) A n c)
  have hbn := Lib.hid (fun A n c w' => run_note ok A n c w')
  clear hw0 ok hnil hk hkc hkn hB hS hq hn47
  go_enter Tryd.func9, Tryd.ntmps9
  go_wp2_with (first
    | (((with_reducible change wpList _ _ _ ({ dst := some 14, op := _, type := _, pos := _, after := _, guard := _ } :: _) _ _); refine wpList_load_part (o := ⟨some 14, _, _, _, _, _⟩) rfl 25 (.tmp 13) rfl (w.heap.size) (0) rfl (headCells h) _ D0.out.head Tryd.underlying25 rfl hsz.out ?_))
    | (go_at_call 23; refine (headSign_any h ok'.out q k hk'.out Ak ck w0 (hBs.out w0 D0.out.far) (hq0.out w0 D0.out.far) hkc'.out hkn'.out).mono ?_; rw [hs.out, hk1.out]; rintro e w1 ⟨rfl, hb1⟩; have D1 := Lib.hid (D0.out.below hb1); clear hb1 D0)
    | ((with_reducible change wpList _ _ _ ({ dst := none, op := Op.store 43 (.tmp 6) (.tmp 17), type := _, pos := _, after := _, guard := _ } :: _) _ _); refine wpList_store_all (o := ⟨none, _, _, _, _, _⟩) rfl 43 (.tmp 6) (.tmp 17) rfl w1.heap.size (cells8 s).toArray rfl rfl 43 Z64 (Blk.new w1 _ _) s1.out s2.out s3.out ?_; intro w2 hB2 hk2; have D2 := Lib.hid (D1.out.below (Held.kept_fresh hk2)); have S2 : Hid (Blk w2 w1.heap.size 43 (cells8 s).toArray) := hB2; have hg1 : Hid (w.heap.size + 1 < w1.heap.size) := D1.out.size; clear hk2 hB2 D1; generalize w1.heap.size = gs at *; have r2 := D2.out.row ok'.out)
    | ((with_reducible change wpList _ _ _ ({ dst := none, op := Op.store 28 (.tmp 4) (.tmp 21), type := _, pos := _, after := _, guard := _ } :: _) _ _); refine wpList_store_row (o := ⟨none, _, _, _, _, _⟩) rfl 28 (.tmp 4) (.tmp 21) rfl (w.heap.size + 1) Z99 rfl rfl 28 Z99 D2.out.res size99' rfl one99 ?_))
  refine bodyPost_ret (results_cell_row2 rfl _ _ (w.heap.size + 1) 28 Z99 (0, 0) _ rfl (setRow_heap _ _ _ _ _ _ D2.out.res) Tryd.underlying28 rfl size99') rfl ?_
  exact ⟨rfl, below_setRow D2.out.far (by omega) _⟩

set_option maxRecDepth 100000 in
set_option maxHeartbeats 4000000 in
theorem add_twice (h : HeadD) (ok : h.Ok) (ss : List Text) (n : Nat) (hn47 : n ≤ 1099511627776) (A : Option Addr) (c : Nat) (hnil : A = none → n = 0 ∧ c = 0) (q : Text) (k : Nat) (hk : q.length = k) (Ak : Option Addr) (ck : Nat) (hkc : k ≤ ck) (hkn : Ak = none → k = 0 ∧ ck = 0) (s : Text) (hs : Hid ((signAns h q).1 = s)) (k1 : Int) (hk1 : Hid ((signAns h q).2 = k1)) (hk0 : k1 = 0) (hno : Hid (rising kyS ss = none)) (w : World) (hB : Base w) (hS : Sgs w A n ss) (hq : Reads w 1 Ak k (cells8 q)) :
    Calls Tryd.prog 9 #[.agg (noteCells h (.slice A n c)).toArray, .slice Ak k ck] w fun e w' => e = .returned (.tuple #[.agg Z99, .int .i64 92]) ∧ Below w.heap.size w w' := by
  have ok' := Lib.hid ok
  have hn7 := Lib.hid hn47
  have hnl := Lib.hid hnil
  have hk' := Lib.hid hk
  have hkc' := Lib.hid hkc
  have hkn' := Lib.hid hkn
  have hs64 : Hid (s.length = 64) := by show _ = _; rw [← hs.out]; exact signAns_len h q
  obtain ⟨w0, hw0⟩ : ∃ w0, Hid ((w.alloc (.cells (noteCells h (.slice A n c)).toArray 28)).alloc (.cells Z99 28) = w0) := ⟨_, Lib.hid rfl⟩
  have D0 : Hid (AD w w0 h A n c) := by show AD _ _ _ _ _ _; rw [← hw0.out]; exact AD.new
  have hw0' : (w.alloc (.cells (noteCells h (.slice A n c)).toArray 28)).alloc (.cells Tryd.zeroCells28 28) = w0 := hw0.out
  have hS0 : Hid (∀ w', Below w.heap.size w w' → Sgs w' A n ss) := fun w' hb => hS.below hb
  have hq0 : Hid (∀ w', Below w.heap.size w w' → Reads w' 1 Ak k (cells8 q)) := fun w' hb => hq.below hb
  have hBs : Hid (∀ w', Below w.heap.size w w' → Base w') := fun w' hb => hB.below hb hB.1
  have hsz : Hid ((Tryd.prog.info? 25).map (·.size) = some (headCells h).length) := by show _ = _; rw [headCells_len ok]; exact size98
  have s1 := Lib.hid (sign_size s hs64.out)
  have s2 := Lib.hid (sign_zero s hs64.out)
  have s3 := Lib.hid (sign_one s)
  have z1 := Lib.hid (fun v => note_size ok v)
  have z2 := Lib.hid (fun v => note_zero ok v)
  have z3 := Lib.hid (fun A n c => note_one (h := h) A n c)
  have hbn := Lib.hid (fun A n c w' => run_note ok A n c w')
  clear hw0 ok hnil hk hkc hkn hB hS hq hn47
  subst hk0
  go_enter Tryd.func9, Tryd.ntmps9
  go_wp2_with (first
    | (((with_reducible change wpList _ _ _ ({ dst := some 14, op := _, type := _, pos := _, after := _, guard := _ } :: _) _ _); refine wpList_load_part (o := ⟨some 14, _, _, _, _, _⟩) rfl 25 (.tmp 13) rfl (w.heap.size) (0) rfl (headCells h) _ D0.out.head Tryd.underlying25 rfl hsz.out ?_))
    | (go_at_call 23; refine (headSign_any h ok'.out q k hk'.out Ak ck w0 (hBs.out w0 D0.out.far) (hq0.out w0 D0.out.far) hkc'.out hkn'.out).mono ?_; rw [hs.out, hk1.out]; rintro e w1 ⟨rfl, hb1⟩; have D1 := Lib.hid (D0.out.below hb1); clear hb1 D0)
    | ((with_reducible change wpList _ _ _ ({ dst := none, op := Op.store 43 (.tmp 6) (.tmp 17), type := _, pos := _, after := _, guard := _ } :: _) _ _); refine wpList_store_all (o := ⟨none, _, _, _, _, _⟩) rfl 43 (.tmp 6) (.tmp 17) rfl w1.heap.size (cells8 s).toArray rfl rfl 43 Z64 (Blk.new w1 _ _) s1.out s2.out s3.out ?_; intro w2 hB2 hk2; have D2 := Lib.hid (D1.out.below (Held.kept_fresh hk2)); have S2 : Hid (Blk w2 w1.heap.size 43 (cells8 s).toArray) := hB2; have hg1 : Hid (w.heap.size + 1 < w1.heap.size) := D1.out.size; clear hk2 hB2 D1; generalize w1.heap.size = gs at *; have r2 := D2.out.row ok'.out)
    | (go_at_call 26; refine (rising_all ss n (by have := hn7.out; omega) A c w2 (hS0.out w2 D2.out.far) hnl.out).mono ?_; rintro e w3 ⟨A1, c1, ds, rfl, hri, hO3, hb3⟩; have D3 := Lib.hid (D2.out.below hb3.out); have S3 : Hid (Blk w3 gs 43 (cells8 s).toArray) := (hb3.out.block _ S2.out.lt).trans S2.out; rw [hno.out] at hri; have hr0 := none_no hri.out; rw [hr0]; clear hri)
    | ((with_reducible change wpList _ _ _ ({ dst := none, op := Op.store 28 (.tmp 4) (.tmp 31), type := _, pos := _, after := _, guard := _ } :: _) _ _); refine wpList_store_row (o := ⟨none, _, _, _, _, _⟩) rfl 28 (.tmp 4) (.tmp 31) rfl (w.heap.size + 1) Z99 rfl rfl 28 Z99 D3.out.res size99' rfl one99 ?_))
  refine bodyPost_ret (results_cell_row2 rfl _ _ (w.heap.size + 1) 28 Z99 (0, 0) _ rfl (setRow_heap _ _ _ _ _ _ D3.out.res) Tryd.underlying28 rfl size99') rfl ?_
  exact ⟨rfl, below_setRow D3.out.far (by omega) _⟩

set_option maxRecDepth 100000 in
set_option maxHeartbeats 4000000 in
theorem add_yes (h : HeadD) (ok : h.Ok) (ss : List Text) (n : Nat) (hn47 : n ≤ 1099511627776) (A : Option Addr) (c : Nat) (hnil : A = none → n = 0 ∧ c = 0) (q : Text) (k : Nat) (hk : q.length = k) (Ak : Option Addr) (ck : Nat) (hkc : k ≤ ck) (hkn : Ak = none → k = 0 ∧ ck = 0) (s : Text) (hs : Hid ((signAns h q).1 = s)) (k1 : Int) (hk1 : Hid ((signAns h q).2 = k1)) (hk0 : k1 = 0) (rs : List Text) (hrs : Hid (rising kyS ss = some rs)) (w : World) (hB : Base w) (hS : Sgs w A n ss) (hq : Reads w 1 Ak k (cells8 q)) :
    Calls Tryd.prog 9 #[.agg (noteCells h (.slice A n c)).toArray, .slice Ak k ck] w fun e w' => AddYes ss s h w e w' := by
  have ok' := Lib.hid ok
  have hn7 := Lib.hid hn47
  have hnl := Lib.hid hnil
  have hk' := Lib.hid hk
  have hkc' := Lib.hid hkc
  have hkn' := Lib.hid hkn
  have hs64 : Hid (s.length = 64) := by show _ = _; rw [← hs.out]; exact signAns_len h q
  obtain ⟨w0, hw0⟩ : ∃ w0, Hid ((w.alloc (.cells (noteCells h (.slice A n c)).toArray 28)).alloc (.cells Z99 28) = w0) := ⟨_, Lib.hid rfl⟩
  have D0 : Hid (AD w w0 h A n c) := by show AD _ _ _ _ _ _; rw [← hw0.out]; exact AD.new
  have hw0' : (w.alloc (.cells (noteCells h (.slice A n c)).toArray 28)).alloc (.cells Tryd.zeroCells28 28) = w0 := hw0.out
  have hS0 : Hid (∀ w', Below w.heap.size w w' → Sgs w' A n ss) := fun w' hb => hS.below hb
  have hq0 : Hid (∀ w', Below w.heap.size w w' → Reads w' 1 Ak k (cells8 q)) := fun w' hb => hq.below hb
  have hBs : Hid (∀ w', Below w.heap.size w w' → Base w') := fun w' hb => hB.below hb hB.1
  have hsz : Hid ((Tryd.prog.info? 25).map (·.size) = some (headCells h).length) := by show _ = _; rw [headCells_len ok]; exact size98
  have s1 := Lib.hid (sign_size s hs64.out)
  have s2 := Lib.hid (sign_zero s hs64.out)
  have s3 := Lib.hid (sign_one s)
  have z1 := Lib.hid (fun v => note_size ok v)
  have z2 := Lib.hid (fun v => note_zero ok v)
  have z3 := Lib.hid (fun A n c => note_one (h := h) A n c)
  have hbn := Lib.hid (fun A n c w' => run_note ok A n c w')
  clear hw0 ok hnil hk hkc hkn hB hS hq hn47
  subst hk0
  have hrsl := Lib.hid (rising_some hrs.out)
  go_enter Tryd.func9, Tryd.ntmps9
  go_upto_region 8 with (first
    | (((with_reducible change wpList _ _ _ ({ dst := some 14, op := _, type := _, pos := _, after := _, guard := _ } :: _) _ _); refine wpList_load_part (o := ⟨some 14, _, _, _, _, _⟩) rfl 25 (.tmp 13) rfl (w.heap.size) (0) rfl (headCells h) _ D0.out.head Tryd.underlying25 rfl hsz.out ?_))
    | (go_at_call 23; refine (headSign_any h ok'.out q k hk'.out Ak ck w0 (hBs.out w0 D0.out.far) (hq0.out w0 D0.out.far) hkc'.out hkn'.out).mono ?_; rw [hs.out, hk1.out]; rintro e w1 ⟨rfl, hb1⟩; have D1 := Lib.hid (D0.out.below hb1); clear hb1 D0)
    | ((with_reducible change wpList _ _ _ ({ dst := none, op := Op.store 43 (.tmp 6) (.tmp 17), type := _, pos := _, after := _, guard := _ } :: _) _ _); refine wpList_store_all (o := ⟨none, _, _, _, _, _⟩) rfl 43 (.tmp 6) (.tmp 17) rfl w1.heap.size (cells8 s).toArray rfl rfl 43 Z64 (Blk.new w1 _ _) s1.out s2.out s3.out ?_; intro w2 hB2 hk2; have D2 := Lib.hid (D1.out.below (Held.kept_fresh hk2)); have S2 : Hid (Blk w2 w1.heap.size 43 (cells8 s).toArray) := hB2; have hg1 : Hid (w.heap.size + 1 < w1.heap.size) := D1.out.size; clear hk2 hB2 D1; generalize w1.heap.size = gs at *; have r2 := D2.out.row ok'.out)
    | (go_at_call 26; refine (rising_all ss n (by have := hn7.out; omega) A c w2 (hS0.out w2 D2.out.far) hnl.out).mono ?_; rintro e w3 ⟨A1, c1, ds, rfl, hri, hO3, hb3⟩; have D3 := Lib.hid (D2.out.below hb3.out); have S3 : Hid (Blk w3 gs 43 (cells8 s).toArray) := (hb3.out.block _ S2.out.lt).trans S2.out; rw [hrs.out] at hri; obtain ⟨hr0, rfl⟩ := some_yes hri.out; rw [hr0]; clear hri; have hSg3 : Hid (Sgs w3 A1 n rs) := (by obtain ⟨A9, c9, e9, -, -, -, x, -⟩ := hO3.out.reads; injection e9 with e9 _ e10; subst e9 e10; exact x); have hg2 : Hid (w.heap.size + 1 < w2.heap.size ∧ gs < w2.heap.size) := ⟨D2.out.size, S2.out.lt⟩; have hb3s : Hid (w2.heap.size ≤ w3.heap.size) := hb3.out.size; clear D2 S2 hb3; generalize w2.heap.size = B2 at *)
    | (((with_reducible change wpList _ _ _ ({ dst := some 34, op := _, type := _, pos := _, after := _, guard := _ } :: _) _ _); refine wpList_load_row (o := ⟨some 34, _, _, _, _, _⟩) rfl 43 (.tmp 6) rfl (gs) rfl 43 ((cells8 s).toArray) (0, 0) _ S3.out Tryd.underlying43 rfl s1.out ?_))
    | (go_at_call 27; refine (bin_any rs n hn7.out hrsl.out.1 s hs64.out A1 c1 w3 hSg3.out).mono ?_; rintro e w4 ⟨i, f, rfl, hAt, hb4⟩; have D4 := Lib.hid (D3.out.below hb4); have S4 : Hid (Blk w4 gs 43 (cells8 s).toArray) := (hb4.block _ S3.out.lt).trans S3.out; have hO4 := Lib.hid (hO3.out.below hb4); replace hAt := Lib.hid hAt; have hb34 : Hid (B2 ≤ w4.heap.size) := (by have := hb3s.out; have := hb4.size; show _ ≤ _; omega); clear hb4 S3 D3 hO3 hSg3))
  have hrl : Hid (rs.length = n) := hO4.out.2.1
  have hBw : Hid (w.heap.size ≤ B2) := by show _ ≤ _; have := hg2.out.1; omega
  have hsl : Hid (B2 ≤ w4.heap.size) := hb34.out
  cases f with
  | true =>
    obtain ⟨hr5, hm5, hi5⟩ := add_found hrs.out hAt.out
    rw [hrl.out] at hm5 hi5
    replace hr5 := Lib.hid hr5
    replace hm5 := Lib.hid hm5
    have hz1 : (i : Int) < (n : Int) := by omega
    have hz0 : (0 : Int) ≤ (i : Int) := by omega
    have hi5' := Lib.hid hi5
    obtain ⟨gr, hgr⟩ := own_some hO4.out (by omega)
    subst hgr
    obtain ⟨hBg, cur, hBc, hfit, hset⟩ := own_set hO4.out hi5 hs64.out
    replace hBg := Lib.hid hBg
    replace hBc := Lib.hid hBc
    replace hfit := Lib.hid hfit
    replace hset := Lib.hid hset
    clear hi5
    go_upto_region 11 with (first
    | (((with_reducible change wpList _ _ _ ({ dst := some 41, op := _, type := _, pos := _, after := _, guard := _ } :: _) _ _); refine wpList_load_row (o := ⟨some 41, _, _, _, _, _⟩) rfl 43 (.tmp 6) rfl (gs) rfl 43 ((cells8 s).toArray) (0, 0) _ S4.out Tryd.underlying43 rfl s1.out ?_))
    | ((with_reducible change wpList _ _ _ ({ dst := none, op := Op.store 43 (.tmp 42) (.tmp 41), type := _, pos := _, after := _, guard := _ } :: _) _ _); refine wpList_store_at (o := ⟨none, _, _, _, _, _⟩) rfl 43 (.tmp 42) (.tmp 41) rfl gr (i * 64) (cells8 s) rfl rfl 43 cur hBc.out (size26.trans (congrArg some (by rw [cells8_len, hs64.out]))) hfit.out (cells8_one _) ?_; intro w5 hB5 hk5; have hO5 := Lib.hid (hset.out w5 hB5.out); have D5 := Lib.hid (D4.out.on hg2.out.1 (Kept.below_of hk5 hBg.out hsl.out)); clear hk5 hB5 D4 S4 hO4 hBc hset))
    by_cases h16 : 16 < n
    · have x6 : (16 : Int) < ((n : Nat) : Int) := by omega
      go_wp2_with ((with_reducible change wpList _ _ _ ({ dst := none, op := Op.store 28 (.tmp 4) (.tmp 51), type := _, pos := _, after := _, guard := _ } :: _) _ _); refine wpList_store_row (o := ⟨none, _, _, _, _, _⟩) rfl 28 (.tmp 4) (.tmp 51) rfl (w.heap.size + 1) Z99 rfl rfl 28 Z99 D5.out.res size99' rfl one99 ?_)
      refine bodyPost_ret (results_cell_row2 rfl _ _ (w.heap.size + 1) 28 Z99 (0, 0) _ rfl (setRow_heap _ _ _ _ _ _ D5.out.res) Tryd.underlying28 rfl size99') rfl ?_
      exact ⟨_, _, none, rfl, below_setRow D5.out.far (by omega) _, fin_many hm5.out h16, rfl⟩
    · have x6 : ¬ ((16 : Int) < ((n : Nat) : Int)) := by omega
      obtain ⟨NC, hNC⟩ : ∃ NC, Hid ((noteCells h (.slice (some ⟨gr, 0, none⟩) (n) c1)).toArray = NC) := ⟨_, Lib.hid rfl⟩
      have y1 := z1.out (.slice (some ⟨gr, 0, none⟩) (n) c1)
      have y2 := z2.out (.slice (some ⟨gr, 0, none⟩) (n) c1)
      have y3 := z3.out (some ⟨gr, 0, none⟩) (n) c1
      have y4 := Lib.hid (fun w' => hbn.out (some ⟨gr, 0, none⟩) (n) c1 w')
      rw [hNC.out] at y1 y2 y3 y4
      replace y1 := Lib.hid y1
      replace y2 := Lib.hid y2
      replace y3 := Lib.hid y3
      go_wp2_with (first
        | (((with_reducible change wpList _ _ _ ({ dst := some 53, op := _, type := _, pos := _, after := _, guard := _ } :: _) _ _); refine wpList_load_part (o := ⟨some 53, _, _, _, _, _⟩) rfl 25 (.tmp 52) rfl (w.heap.size) (0) rfl (headCells h) _ D5.out.head Tryd.underlying25 rfl hsz.out ?_))
        | ((with_reducible change wpList _ _ _ ({ dst := some 55, op := _, type := _, pos := _, after := _, guard := _ } :: _) _ _); refine wpList_buildF (o := ⟨some 55, _, _, _, _, _⟩) rfl 28 #[(0, .tmp 53), (1, .tmp 54)] rfl #[(0, .agg (headCells h).toArray), (1, .slice (some ⟨gr, 0, none⟩) (n) c1)] (by simp; exact ⟨rfl, rfl⟩) _ (y4.out _) ?_)
        | ((with_reducible change wpList _ _ _ ({ dst := none, op := Op.store 28 (.tmp 4) (.tmp 55), type := _, pos := _, after := _, guard := _ } :: _) _ _); refine wpList_store_all (o := ⟨none, _, _, _, _, _⟩) rfl 28 (.tmp 4) (.tmp 55) rfl (w.heap.size + 1) NC rfl rfl 28 Z99 D5.out.res y1.out y2.out y3.out ?_; intro w9 hB9 hk9; have hO9 := Lib.hid (own_off hO5.out hk9 (by intro k e; have := hg2.out.1; omega)); have hb9 : Hid (Below w.heap.size w w9) := D5.out.far.trans (Kept.below_of hk9 (by omega) D5.out.far.size); have hR9 := hB9; clear hk9 hB9))
      refine bodyPost_ret (results_cell_row2 rfl _ _ (w.heap.size + 1) 28 NC (0, 0) _ rfl hR9.out Tryd.underlying28 rfl y1.out) rfl ?_
      exact ⟨_, _, some (rs.set i s), rfl, hb9.out, fin_some hm5.out h16 hr5.out, (some ⟨gr, 0, none⟩), c1, by rw [hO5.out.2.1, ← hNC.out], by rw [hO5.out.2.1]; exact hO9.out.base hBw.out⟩
  | false =>
    obtain ⟨hr5, hm5⟩ := add_new hrs.out hAt.out
    rw [hrl.out] at hm5
    replace hr5 := Lib.hid hr5
    replace hm5 := Lib.hid hm5
    have hin : Hid (i ≤ n) := by show _ ≤ _; rw [← hrl.out]; exact hAt.out.le
    have hA1 : Hid (A1 ≠ some ⟨w4.heap.size, 0, none⟩) := fun e => by
      rcases hO4.out.2.2.2 with ⟨x, -⟩ | ⟨g9, c9, cur9, x, -, hg9, -⟩
      · injection x with x
        rw [e] at x; cases x
      · injection x with x
        rw [e] at x
        injection x with x
        injection x with x
        have := Blk.lt hg9
        omega
    go_upto_region 11 with (first
    | (((with_reducible change wpList _ _ _ ({ dst := some 45, op := _, type := _, pos := _, after := _, guard := _ } :: _) _ _); refine wpList_load_row (o := ⟨some 45, _, _, _, _, _⟩) rfl 43 (.tmp 6) rfl (gs) rfl 43 ((cells8 s).toArray) (0, 0) _ S4.out Tryd.underlying43 rfl s1.out ?_))
    | ((with_reducible change wpList _ _ _ ({ dst := some 46, op := _, type := _, pos := _, after := _, guard := _ } :: _) _ _); refine wpList_buildAggs (o := ⟨some 46, _, _, _, _, _⟩) rfl 26 43 1 _ rfl 64 (by decide) [cells8 s] Tryd.underlying26 size26 zero26 rfl (by decide) (by decide) (by intro v hv; simp only [List.mem_cons, List.not_mem_nil, or_false] at hv; rw [hv, cells8_len, hs64.out]) rfl ?_; rw [one_flat])
    | (go_at_call 29; refine (insert_any rs n i hn7.out hin.out s hs64.out A1 c1 B2 w4.heap.size _ (hO4.out.below (Below.heap_below w4 _)) (Blk.new w4 _ _) hA1.out (by simp; have := hsl.out; omega)).mono ?_; rintro e w5 ⟨v, rfl, hO5, hb5⟩; have D5 := Lib.hid ((D4.out.below (Below.heap_below w4 _)).on hg2.out.1 hb5); obtain ⟨A9, c9, rfl, -⟩ := hO5.reads; replace hO5 := Lib.hid hO5; clear hb5 D4 S4 hO4))
    by_cases h16 : 16 < n + 1
    · have x6 : (16 : Int) < ((n + 1 : Nat) : Int) := by omega
      go_wp2_with ((with_reducible change wpList _ _ _ ({ dst := none, op := Op.store 28 (.tmp 4) (.tmp 51), type := _, pos := _, after := _, guard := _ } :: _) _ _); refine wpList_store_row (o := ⟨none, _, _, _, _, _⟩) rfl 28 (.tmp 4) (.tmp 51) rfl (w.heap.size + 1) Z99 rfl rfl 28 Z99 D5.out.res size99' rfl one99 ?_)
      refine bodyPost_ret (results_cell_row2 rfl _ _ (w.heap.size + 1) 28 Z99 (0, 0) _ rfl (setRow_heap _ _ _ _ _ _ D5.out.res) Tryd.underlying28 rfl size99') rfl ?_
      exact ⟨_, _, none, rfl, below_setRow D5.out.far (by omega) _, fin_many hm5.out h16, rfl⟩
    · have x6 : ¬ ((16 : Int) < ((n + 1 : Nat) : Int)) := by omega
      obtain ⟨NC, hNC⟩ : ∃ NC, Hid ((noteCells h (.slice A9 (n + 1) c9)).toArray = NC) := ⟨_, Lib.hid rfl⟩
      have y1 := z1.out (.slice A9 (n + 1) c9)
      have y2 := z2.out (.slice A9 (n + 1) c9)
      have y3 := z3.out A9 (n + 1) c9
      have y4 := Lib.hid (fun w' => hbn.out A9 (n + 1) c9 w')
      rw [hNC.out] at y1 y2 y3 y4
      replace y1 := Lib.hid y1
      replace y2 := Lib.hid y2
      replace y3 := Lib.hid y3
      go_wp2_with (first
        | (((with_reducible change wpList _ _ _ ({ dst := some 53, op := _, type := _, pos := _, after := _, guard := _ } :: _) _ _); refine wpList_load_part (o := ⟨some 53, _, _, _, _, _⟩) rfl 25 (.tmp 52) rfl (w.heap.size) (0) rfl (headCells h) _ D5.out.head Tryd.underlying25 rfl hsz.out ?_))
        | ((with_reducible change wpList _ _ _ ({ dst := some 55, op := _, type := _, pos := _, after := _, guard := _ } :: _) _ _); refine wpList_buildF (o := ⟨some 55, _, _, _, _, _⟩) rfl 28 #[(0, .tmp 53), (1, .tmp 54)] rfl #[(0, .agg (headCells h).toArray), (1, .slice A9 (n + 1) c9)] (by simp; exact ⟨rfl, rfl⟩) _ (y4.out _) ?_)
        | ((with_reducible change wpList _ _ _ ({ dst := none, op := Op.store 28 (.tmp 4) (.tmp 55), type := _, pos := _, after := _, guard := _ } :: _) _ _); refine wpList_store_all (o := ⟨none, _, _, _, _, _⟩) rfl 28 (.tmp 4) (.tmp 55) rfl (w.heap.size + 1) NC rfl rfl 28 Z99 D5.out.res y1.out y2.out y3.out ?_; intro w9 hB9 hk9; have hO9 := Lib.hid (own_off hO5.out hk9 (by intro k e; have := hg2.out.1; omega)); have hb9 : Hid (Below w.heap.size w w9) := D5.out.far.trans (Kept.below_of hk9 (by omega) D5.out.far.size); have hR9 := hB9; clear hk9 hB9))
      refine bodyPost_ret (results_cell_row2 rfl _ _ (w.heap.size + 1) 28 NC (0, 0) _ rfl hR9.out Tryd.underlying28 rfl y1.out) rfl ?_
      exact ⟨_, _, some (mid rs i s), rfl, hb9.out, fin_some hm5.out h16 hr5.out, A9, c9, by rw [hO5.out.2.1, ← hNC.out], by rw [hO5.out.2.1]; exact hO9.out.base hBw.out⟩

def AddOut (h : HeadD) (ss : List Text) (q : Text) (w : World) (e : Ending) (w' : World) : Prop := ∃ V, e = .returned (.tuple #[V, .int .i64 (addAns h ss q).2]) ∧ Below w.heap.size w w' ∧ AddPost w.heap.size w' h V (addAns h ss q).1
theorem out_refused {h : HeadD} {ss : List Text} {q : Text} {w w' : World} {e : Ending} {k1 : Int} (hk : (signAns h q).2 = k1) (hk0 : ¬ k1 = 0) (he : e = .returned (.tuple #[.agg Z99, .int .i64 k1])) (hb : Below w.heap.size w w') : AddOut h ss q w e w' := by
  have : addAns h ss q = (none, k1) := by unfold addAns; rw [hk, if_neg hk0]
  exact ⟨_, by rw [this]; exact he, hb, by rw [this]; exact rfl⟩
theorem out_twice {h : HeadD} {ss : List Text} {q : Text} {w w' : World} {e : Ending} (hk : (signAns h q).2 = 0) (hr : rising kyS ss = none) (he : e = .returned (.tuple #[.agg Z99, .int .i64 92])) (hb : Below w.heap.size w w') : AddOut h ss q w e w' := by
  have : addAns h ss q = (none, 92) := by unfold addAns; rw [if_pos hk, hr]; rfl
  exact ⟨_, by rw [this]; exact he, hb, by rw [this]; exact rfl⟩
theorem out_yes {h : HeadD} {ss rs : List Text} {q : Text} {w w' : World} {e : Ending} (hk : (signAns h q).2 = 0) (hr : rising kyS ss = some rs) (hy : AddYes ss (signAns h q).1 h w e w') : AddOut h ss q w e w' := by
  obtain ⟨V, k2, o, he, hb, hf, hp⟩ := hy
  have : addAns h ss q = (o, k2) := by unfold addAns; rw [if_pos hk, hr, ← hf.out]; rfl
  exact ⟨V, by rw [this]; exact he, hb, by rw [this]; exact hp⟩
theorem add_any (h : HeadD) (ok : h.Ok) (ss : List Text) (n : Nat) (hn47 : n ≤ 1099511627776) (A : Option Addr) (c : Nat) (hnil : A = none → n = 0 ∧ c = 0) (q : Text) (k : Nat) (hk : q.length = k) (Ak : Option Addr) (ck : Nat) (hkc : k ≤ ck) (hkn : Ak = none → k = 0 ∧ ck = 0) (w : World) (hB : Base w) (hS : Sgs w A n ss) (hq : Reads w 1 Ak k (cells8 q)) :
    Calls Tryd.prog 9 #[.agg (noteCells h (.slice A n c)).toArray, .slice Ak k ck] w (AddOut h ss q w) := by
  by_cases h0 : (signAns h q).2 = 0
  · cases hr : rising kyS ss with
    | none => exact (add_twice h ok ss n hn47 A c hnil q k hk Ak ck hkc hkn _ rfl _ rfl h0 hr w hB hS hq).mono fun e w' ⟨he, hb⟩ => out_twice h0 hr he hb
    | some rs => exact (add_yes h ok ss n hn47 A c hnil q k hk Ak ck hkc hkn _ rfl _ rfl h0 rs hr w hB hS hq).mono fun e w' hy => out_yes h0 hr hy
  · exact (add_refused h ok ss n hn47 A c hnil q k hk Ak ck hkc hkn _ rfl _ rfl h0 w hB hS hq).mono fun e w' ⟨he, hb⟩ => out_refused rfl h0 he hb
end Go.Proofs.YteelanamlhfmgaaDoor.Add

namespace Go.Proofs.YteelanamlhfmgaaDoor.RefAdd
open Go Go.RowKit Go.Proofs.YteelanamlhfmgaaDoor Go.Proofs.YteelanamlhfmgaaDoor.Mem Go.Proofs.YteelanamlhfmgaaDoor.Sha Go.Proofs.YteelanamlhfmgaaDoor.Bytes Go.Proofs.YteelanamlhfmgaaDoor.SortP Go.Proofs.YteelanamlhfmgaaDoor.NoteP Go.Proofs.YteelanamlhfmgaaDoor.QuietTail Go.Proofs.YteelanamlhfmgaaDoor.Grown Go.Proofs.YteelanamlhfmgaaDoor.Want Go.Proofs.YteelanamlhfmgaaDoor.Append Go.Proofs.YteelanamlhfmgaaDoor.Own Go.Proofs.YteelanamlhfmgaaDoor.Rise Go.Proofs.YteelanamlhfmgaaDoor.SortM Go.Proofs.YteelanamlhfmgaaDoor.SgM Go.Proofs.YteelanamlhfmgaaDoor.HashMem Go.Proofs.YteelanamlhfmgaaDoor.HeadMem Go.Proofs.YteelanamlhfmgaaDoor.EncNoteP Go.Proofs.YteelanamlhfmgaaDoor.EncNote Go.Proofs.YteelanamlhfmgaaDoor.RowS Go.Proofs.YteelanamlhfmgaaDoor.NoteM Go.Proofs.YteelanamlhfmgaaDoor.RefNote Go.Proofs.YteelanamlhfmgaaDoor.Insert Go.Proofs.YteelanamlhfmgaaDoor.Bin Go.Proofs.YteelanamlhfmgaaDoor.Sign Go.Proofs.YteelanamlhfmgaaDoor.Signs Go.Proofs.YteelanamlhfmgaaDoor.RefSigns Go.Proofs.YteelanamlhfmgaaDoor.RefRising Go.Proofs.YteelanamlhfmgaaDoor.AddP Go.Proofs.YteelanamlhfmgaaDoor.Add Go.Proofs.YteelanamlhfmgaaDoor.Decode Go.Proofs.YteelanamlhfmgaaDoor.HeadTake Go.Proofs.YteelanamlhfmgaaDoor.Fill Go.Proofs.YteelanamlhfmgaaDoor.DigEq

theorem fin_is {ss rs : List Text} {s : Text} (hr : rising kyS ss = some rs) : ∃ r, rising kyS (s :: others ss s) = some r := by
  cases h : rising kyS (s :: others ss s) with
  | some r => exact ⟨r, rfl⟩
  | none =>
    refine absurd ?_ (rising_none h)
    obtain ⟨h1, h2⟩ := rising_some hr
    have h3 : rs.Pairwise (fun a b => kyS a ≠ kyS b) := h1.imp fun x => lex_ne x
    have h4 : ss.Pairwise (fun a b => kyS a ≠ kyS b) := (h2.pairwise_iff (fun {_ _} x => x.symm)).1 h3
    rw [List.pairwise_cons]
    refine ⟨fun y hy => ?_, h4.sublist List.filter_sublist⟩
    have := (List.mem_filter.1 hy).2
    simp at this
    exact fun e => this e.symm
theorem others_step {ss : List Text} {s x : Text} {i : Nat} (hx : ss[i]? = some x) : others (ss.take (i + 1)) s = others (ss.take i) s ++ (if decide (kyS x = kyS s) = true then [] else [x]) := by
  unfold others
  rw [List.take_add_one, hx, List.filter_append]
  congr 1
  by_cases e : kyS x = kyS s <;> simp [e]

set_option maxRecDepth 100000 in
set_option maxHeartbeats 4000000 in
theorem refadd_refused (h : HeadD) (ok : h.Ok) (ss : List Text) (n : Nat) (hn47 : n ≤ 1099511627776) (A : Option Addr) (c : Nat) (hnil : A = none → n = 0 ∧ c = 0) (q : Text) (k : Nat) (hk : q.length = k) (Ak : Option Addr) (ck : Nat) (hkc : k ≤ ck) (hkn : Ak = none → k = 0 ∧ ck = 0) (s : Text) (hs : Hid ((signAns h q).1 = s)) (k1 : Int) (hk1 : Hid ((signAns h q).2 = k1)) (hk0 : ¬ k1 = 0) (w : World) (hS : Sgs w A n ss) (hq : Reads w 1 Ak k (cells8 q)) :
    Calls Tryd.prog 10 #[.agg (noteCells h (.slice A n c)).toArray, .slice Ak k ck] w fun e w' => e = .returned (.tuple #[.agg Z99, .int .i64 k1]) ∧ Below w.heap.size w w' := by
  have ok' := Lib.hid ok
  have hn7 := Lib.hid hn47
  have hnl := Lib.hid hnil
  have hk' := Lib.hid hk
  have hkc' := Lib.hid hkc
  have hkn' := Lib.hid hkn
  have hs64 : Hid (s.length = 64) := by show _ = _; rw [← hs.out]; exact signAns_len h q
  obtain ⟨w0, hw0⟩ : ∃ w0, Hid ((w.alloc (.cells (noteCells h (.slice A n c)).toArray 28)).alloc (.cells Z99 28) = w0) := ⟨_, Lib.hid rfl⟩
  have D0 : Hid (AD w w0 h A n c) := by show AD _ _ _ _ _ _; rw [← hw0.out]; exact AD.new
  have hw0' : (w.alloc (.cells (noteCells h (.slice A n c)).toArray 28)).alloc (.cells Tryd.zeroCells28 28) = w0 := hw0.out
  have hS0 : Hid (∀ w', Below w.heap.size w w' → Sgs w' A n ss) := fun w' hb => hS.below hb
  have hq0 : Hid (∀ w', Below w.heap.size w w' → Reads w' 1 Ak k (cells8 q)) := fun w' hb => hq.below hb
  have hsz : Hid ((Tryd.prog.info? 25).map (·.size) = some (headCells h).length) := by show _ = _; rw [headCells_len ok]; exact size98
  have s1 := Lib.hid (sign_size s hs64.out)
  have s2 := Lib.hid (sign_zero s hs64.out)
  have s3 := Lib.hid (sign_one s)
  have z1 := Lib.hid (fun v => note_size ok v)
  have z2 := Lib.hid (fun v => note_zero ok v)
  have z3 := Lib.hid (fun A n c => note_one (h := h) A n c)
  have hbn := Lib.hid (fun A n c w' => run_note ok A n c w')
  clear hw0 ok hnil hk hkc hkn hS hq hn47
  go_enter Tryd.func10, Tryd.ntmps10
  go_wp2_with (first
    | (((with_reducible change wpList _ _ _ ({ dst := some 14, op := _, type := _, pos := _, after := _, guard := _ } :: _) _ _); refine wpList_load_part (o := ⟨some 14, _, _, _, _, _⟩) rfl 25 (.tmp 13) rfl (w.heap.size) (0) rfl (headCells h) _ D0.out.head Tryd.underlying25 rfl hsz.out ?_))
    | (go_at_call 30; refine (refSign_any h ok'.out q k hk'.out Ak ck w0 (hq0.out w0 D0.out.far) hkc'.out hkn'.out).mono ?_; rw [hs.out, hk1.out]; rintro e w1 ⟨rfl, hb1⟩; have D1 := Lib.hid (D0.out.below hb1); clear hb1 D0)
    | ((with_reducible change wpList _ _ _ ({ dst := none, op := Op.store 43 (.tmp 6) (.tmp 17), type := _, pos := _, after := _, guard := _ } :: _) _ _); refine wpList_store_all (o := ⟨none, _, _, _, _, _⟩) rfl 43 (.tmp 6) (.tmp 17) rfl w1.heap.size (cells8 s).toArray rfl rfl 43 Z64 (Blk.new w1 _ _) s1.out s2.out s3.out ?_; intro w2 hB2 hk2; have D2 := Lib.hid (D1.out.below (Held.kept_fresh hk2)); have S2 : Hid (Blk w2 w1.heap.size 43 (cells8 s).toArray) := hB2; have hg1 : Hid (w.heap.size + 1 < w1.heap.size) := D1.out.size; clear hk2 hB2 D1; generalize w1.heap.size = gs at *; have r2 := D2.out.row ok'.out)
    | ((with_reducible change wpList _ _ _ ({ dst := none, op := Op.store 28 (.tmp 4) (.tmp 21), type := _, pos := _, after := _, guard := _ } :: _) _ _); refine wpList_store_row (o := ⟨none, _, _, _, _, _⟩) rfl 28 (.tmp 4) (.tmp 21) rfl (w.heap.size + 1) Z99 rfl rfl 28 Z99 D2.out.res size99' rfl one99 ?_))
  refine bodyPost_ret (results_cell_row2 rfl _ _ (w.heap.size + 1) 28 Z99 (0, 0) _ rfl (setRow_heap _ _ _ _ _ _ D2.out.res) Tryd.underlying28 rfl size99') rfl ?_
  exact ⟨rfl, below_setRow D2.out.far (by omega) _⟩

set_option maxRecDepth 100000 in
set_option maxHeartbeats 4000000 in
theorem refadd_twice (h : HeadD) (ok : h.Ok) (ss : List Text) (n : Nat) (hn47 : n ≤ 1099511627776) (A : Option Addr) (c : Nat) (hnil : A = none → n = 0 ∧ c = 0) (q : Text) (k : Nat) (hk : q.length = k) (Ak : Option Addr) (ck : Nat) (hkc : k ≤ ck) (hkn : Ak = none → k = 0 ∧ ck = 0) (s : Text) (hs : Hid ((signAns h q).1 = s)) (k1 : Int) (hk1 : Hid ((signAns h q).2 = k1)) (hk0 : k1 = 0) (hno : Hid (rising kyS ss = none)) (w : World) (hS : Sgs w A n ss) (hq : Reads w 1 Ak k (cells8 q)) :
    Calls Tryd.prog 10 #[.agg (noteCells h (.slice A n c)).toArray, .slice Ak k ck] w fun e w' => e = .returned (.tuple #[.agg Z99, .int .i64 92]) ∧ Below w.heap.size w w' := by
  have ok' := Lib.hid ok
  have hn7 := Lib.hid hn47
  have hnl := Lib.hid hnil
  have hk' := Lib.hid hk
  have hkc' := Lib.hid hkc
  have hkn' := Lib.hid hkn
  have hs64 : Hid (s.length = 64) := by show _ = _; rw [← hs.out]; exact signAns_len h q
  obtain ⟨w0, hw0⟩ : ∃ w0, Hid ((w.alloc (.cells (noteCells h (.slice A n c)).toArray 28)).alloc (.cells Z99 28) = w0) := ⟨_, Lib.hid rfl⟩
  have D0 : Hid (AD w w0 h A n c) := by show AD _ _ _ _ _ _; rw [← hw0.out]; exact AD.new
  have hw0' : (w.alloc (.cells (noteCells h (.slice A n c)).toArray 28)).alloc (.cells Tryd.zeroCells28 28) = w0 := hw0.out
  have hS0 : Hid (∀ w', Below w.heap.size w w' → Sgs w' A n ss) := fun w' hb => hS.below hb
  have hq0 : Hid (∀ w', Below w.heap.size w w' → Reads w' 1 Ak k (cells8 q)) := fun w' hb => hq.below hb
  have hsz : Hid ((Tryd.prog.info? 25).map (·.size) = some (headCells h).length) := by show _ = _; rw [headCells_len ok]; exact size98
  have s1 := Lib.hid (sign_size s hs64.out)
  have s2 := Lib.hid (sign_zero s hs64.out)
  have s3 := Lib.hid (sign_one s)
  have z1 := Lib.hid (fun v => note_size ok v)
  have z2 := Lib.hid (fun v => note_zero ok v)
  have z3 := Lib.hid (fun A n c => note_one (h := h) A n c)
  have hbn := Lib.hid (fun A n c w' => run_note ok A n c w')
  clear hw0 ok hnil hk hkc hkn hS hq hn47
  subst hk0
  go_enter Tryd.func10, Tryd.ntmps10
  go_wp2_with (first
    | (((with_reducible change wpList _ _ _ ({ dst := some 14, op := _, type := _, pos := _, after := _, guard := _ } :: _) _ _); refine wpList_load_part (o := ⟨some 14, _, _, _, _, _⟩) rfl 25 (.tmp 13) rfl (w.heap.size) (0) rfl (headCells h) _ D0.out.head Tryd.underlying25 rfl hsz.out ?_))
    | (go_at_call 30; refine (refSign_any h ok'.out q k hk'.out Ak ck w0 (hq0.out w0 D0.out.far) hkc'.out hkn'.out).mono ?_; rw [hs.out, hk1.out]; rintro e w1 ⟨rfl, hb1⟩; have D1 := Lib.hid (D0.out.below hb1); clear hb1 D0)
    | ((with_reducible change wpList _ _ _ ({ dst := none, op := Op.store 43 (.tmp 6) (.tmp 17), type := _, pos := _, after := _, guard := _ } :: _) _ _); refine wpList_store_all (o := ⟨none, _, _, _, _, _⟩) rfl 43 (.tmp 6) (.tmp 17) rfl w1.heap.size (cells8 s).toArray rfl rfl 43 Z64 (Blk.new w1 _ _) s1.out s2.out s3.out ?_; intro w2 hB2 hk2; have D2 := Lib.hid (D1.out.below (Held.kept_fresh hk2)); have S2 : Hid (Blk w2 w1.heap.size 43 (cells8 s).toArray) := hB2; have hg1 : Hid (w.heap.size + 1 < w1.heap.size) := D1.out.size; clear hk2 hB2 D1; generalize w1.heap.size = gs at *; have r2 := D2.out.row ok'.out)
    | (go_at_call 31; refine (refrising_any ss n (by have := hn7.out; omega) A c w2 (hS0.out w2 D2.out.far)).mono ?_; rintro e w3 ⟨v3, rfl, hb3, -⟩; have D3 := Lib.hid (D2.out.below hb3); have S3 : Hid (Blk w3 gs 43 (cells8 s).toArray) := (hb3.block _ S2.out.lt).trans S2.out; rw [hno.out, Option.isNone_none])
    | ((with_reducible change wpList _ _ _ ({ dst := none, op := Op.store 28 (.tmp 4) (.tmp 30), type := _, pos := _, after := _, guard := _ } :: _) _ _); refine wpList_store_row (o := ⟨none, _, _, _, _, _⟩) rfl 28 (.tmp 4) (.tmp 30) rfl (w.heap.size + 1) Z99 rfl rfl 28 Z99 D3.out.res size99' rfl one99 ?_))
  refine bodyPost_ret (results_cell_row2 rfl _ _ (w.heap.size + 1) 28 Z99 (0, 0) _ rfl (setRow_heap _ _ _ _ _ _ D3.out.res) Tryd.underlying28 rfl size99') rfl ?_
  exact ⟨rfl, below_setRow D3.out.far (by omega) _⟩

set_option maxRecDepth 100000 in
set_option maxHeartbeats 4000000 in
theorem refadd_yes (h : HeadD) (ok : h.Ok) (ss : List Text) (n : Nat) (hn47 : n ≤ 1099511627776) (A : Option Addr) (c : Nat) (hnil : A = none → n = 0 ∧ c = 0) (q : Text) (k : Nat) (hk : q.length = k) (Ak : Option Addr) (ck : Nat) (hkc : k ≤ ck) (hkn : Ak = none → k = 0 ∧ ck = 0) (s : Text) (hs : Hid ((signAns h q).1 = s)) (k1 : Int) (hk1 : Hid ((signAns h q).2 = k1)) (hk0 : k1 = 0) (rs : List Text) (hrs : Hid (rising kyS ss = some rs)) (w : World) (hS : Sgs w A n ss) (hq : Reads w 1 Ak k (cells8 q)) :
    Calls Tryd.prog 10 #[.agg (noteCells h (.slice A n c)).toArray, .slice Ak k ck] w fun e w' => AddYes ss s h w e w' := by
  have ok' := Lib.hid ok
  have hn7 := Lib.hid hn47
  have hnl := Lib.hid hnil
  have hk' := Lib.hid hk
  have hkc' := Lib.hid hkc
  have hkn' := Lib.hid hkn
  have hs64 : Hid (s.length = 64) := by show _ = _; rw [← hs.out]; exact signAns_len h q
  obtain ⟨w0, hw0⟩ : ∃ w0, Hid ((w.alloc (.cells (noteCells h (.slice A n c)).toArray 28)).alloc (.cells Z99 28) = w0) := ⟨_, Lib.hid rfl⟩
  have D0 : Hid (AD w w0 h A n c) := by show AD _ _ _ _ _ _; rw [← hw0.out]; exact AD.new
  have hw0' : (w.alloc (.cells (noteCells h (.slice A n c)).toArray 28)).alloc (.cells Tryd.zeroCells28 28) = w0 := hw0.out
  have hS0 : Hid (∀ w', Below w.heap.size w w' → Sgs w' A n ss) := fun w' hb => hS.below hb
  have hq0 : Hid (∀ w', Below w.heap.size w w' → Reads w' 1 Ak k (cells8 q)) := fun w' hb => hq.below hb
  have hsz : Hid ((Tryd.prog.info? 25).map (·.size) = some (headCells h).length) := by show _ = _; rw [headCells_len ok]; exact size98
  have s1 := Lib.hid (sign_size s hs64.out)
  have s2 := Lib.hid (sign_zero s hs64.out)
  have s3 := Lib.hid (sign_one s)
  have z1 := Lib.hid (fun v => note_size ok v)
  have z2 := Lib.hid (fun v => note_zero ok v)
  have z3 := Lib.hid (fun A n c => note_one (h := h) A n c)
  have hbn := Lib.hid (fun A n c w' => run_note ok A n c w')
  clear hw0 ok hnil hk hkc hkn hS hq hn47
  subst hk0
  obtain ⟨r, hr⟩ : ∃ r, Hid (rising kyS (s :: others ss s) = some r) := fin_is hrs.out
  obtain ⟨i0, ii, iz0, iz1, iz2⟩ := info_partsN info64
  have q1 : Hid (∀ x : Text, x.length = 64 → ∀ v ∈ [cells8 x], v.length = 64) := fun x hx v hv => by simp only [List.mem_singleton] at hv; rw [hv, cells8_len, hx]
  have sS : Hid ((Tryd.prog.info? 23).map (·.size) = some (cells8 (kyS s)).length) := by show _ = _; rw [cells8_len, kyS_len hs64.out]; exact size32r
  have hSs := Lib.hid (hS0.out w (Below.refl _ _))
  go_enter Tryd.func10, Tryd.ntmps10
  go_upto_region 8 with (first
    | (((with_reducible change wpList _ _ _ ({ dst := some 14, op := _, type := _, pos := _, after := _, guard := _ } :: _) _ _); refine wpList_load_part (o := ⟨some 14, _, _, _, _, _⟩) rfl 25 (.tmp 13) rfl (w.heap.size) (0) rfl (headCells h) _ D0.out.head Tryd.underlying25 rfl hsz.out ?_))
    | (go_at_call 30; refine (refSign_any h ok'.out q k hk'.out Ak ck w0 (hq0.out w0 D0.out.far) hkc'.out hkn'.out).mono ?_; rw [hs.out, hk1.out]; rintro e w1 ⟨rfl, hb1⟩; have D1 := Lib.hid (D0.out.below hb1); clear hb1 D0)
    | ((with_reducible change wpList _ _ _ ({ dst := none, op := Op.store 43 (.tmp 6) (.tmp 17), type := _, pos := _, after := _, guard := _ } :: _) _ _); refine wpList_store_all (o := ⟨none, _, _, _, _, _⟩) rfl 43 (.tmp 6) (.tmp 17) rfl w1.heap.size (cells8 s).toArray rfl rfl 43 Z64 (Blk.new w1 _ _) s1.out s2.out s3.out ?_; intro w2 hB2 hk2; have D2 := Lib.hid (D1.out.below (Held.kept_fresh hk2)); have S2 : Hid (Blk w2 w1.heap.size 43 (cells8 s).toArray) := hB2; have hg1 : Hid (w.heap.size + 1 < w1.heap.size) := D1.out.size; clear hk2 hB2 D1; generalize w1.heap.size = gs at *; have r2 := D2.out.row ok'.out)
    | (go_at_call 31; refine (refrising_any ss n (by have := hn7.out; omega) A c w2 (hS0.out w2 D2.out.far)).mono ?_; rintro e w3 ⟨v3, rfl, hb3, -⟩; have D3 := Lib.hid (D2.out.below hb3); have S3 : Hid (Blk w3 gs 43 (cells8 s).toArray) := (hb3.block _ S2.out.lt).trans S2.out; rw [hrs.out, Option.isNone_some]; have hg2 : Hid (w.heap.size + 1 < w2.heap.size ∧ gs < w2.heap.size) := ⟨D2.out.size, S2.out.lt⟩; have hb3s : Hid (w2.heap.size ≤ w3.heap.size) := hb3.size; clear D2 S2 hb3; generalize w2.heap.size = B2 at *)
    | (((with_reducible change wpList _ _ _ ({ dst := some 31, op := _, type := _, pos := _, after := _, guard := _ } :: _) _ _); refine wpList_load_row (o := ⟨some 31, _, _, _, _, _⟩) rfl 43 (.tmp 6) rfl (gs) rfl 43 ((cells8 s).toArray) (0, 0) _ S3.out Tryd.underlying43 rfl s1.out ?_))
    | ((with_reducible change wpList _ _ _ ({ dst := some 32, op := _, type := _, pos := _, after := _, guard := _ } :: _) _ _); refine wpList_buildAggs (o := ⟨some 32, _, _, _, _, _⟩) rfl 26 43 1 _ rfl 64 (by decide) [cells8 s] Tryd.underlying26 size26 zero26 rfl (by decide) (by decide) (q1.out s hs64.out) rfl ?_; obtain ⟨w4, hw4⟩ : ∃ w4, Hid (w3.alloc (.cells ([cells8 s].flatten).toArray 43) = w4) := ⟨_, Lib.hid rfl⟩; rw [hw4.out]; have hb4 : Hid (Below w3.heap.size w3 w4) := (by show Below _ _ _; rw [← hw4.out]; exact Below.heap_below w3 _); have hO4 : Hid (OwnS w4 B2 (.slice (some ⟨w3.heap.size, 0, none⟩) 1 1) 1 [s]) := (by have := own_sign w3 hs64.out; rw [hw4.out] at this; exact this.base hb3s.out); have D4 := Lib.hid (D3.out.below hb4.out); have S4 : Hid (Blk w4 gs 43 (cells8 s).toArray) := (hb4.out.block _ S3.out.lt).trans S3.out; have hB4 : Hid (B2 ≤ w4.heap.size) := (by show _ ≤ _; have := hb4.out.size; have := hb3s.out; omega); clear hw4 hb4 D3 S3 hb3s; generalize w3.heap.size = g4 at *))
  go_wp2_with fail
  go_loopw [10, 11] (fun v10 v11 wr => ∃ (i m : Nat) (A1 : Option Addr) (c1 : Nat) (l : List Text), v11 = .int .i64 (i : Int) ∧ v10 = .slice A1 m c1 ∧ Hid (i ≤ n) ∧ Hid (m ≤ i + 1) ∧ Hid (l = s :: others (ss.take i) s) ∧ Hid (OwnS wr B2 (.slice A1 m c1) m l) ∧ Hid (AD w wr h A n c) ∧ Hid (Blk wr gs 43 (cells8 s).toArray) ∧ Hid (B2 ≤ wr.heap.size)) (fun _ v _ => n - (intOf v).toNat)
  case atStart => exact ⟨0, 1, _, 1, [s], rfl, rfl, Nat.zero_le _, Nat.le_refl _, rfl, hO4.out, D4.out, S4.out, hB4.out⟩
  case round =>
    clear hO4 D4 S4 hB4
    obtain ⟨i, m, A1, c1, l, rfl, rfl, hin, hmi, hl, hO, Dr, Sr, hBr⟩ := hrel
    have hi6 : (i : Int) ≤ 1099511627776 := by have := hin.out; have := hn7.out; omega
    have hR := Dr.out.row ok'.out
    by_cases hlt : i < n
    · have hz : (i : Int) < (n : Int) := by omega
      have hz0 : (0 : Int) ≤ (i : Int) := by omega
      have hlt' : Hid (i < n) := hlt
      obtain ⟨x, hx⟩ : ∃ x, Hid (ss[i]? = some x) := ⟨_, List.getElem?_eq_getElem (by rw [hSs.out.len]; exact hlt)⟩
      have hxl := Lib.hid (hSs.out.all x (List.mem_of_getElem? hx.out))
      obtain ⟨b0, o0, hA, hb0, hcx⟩ := hSs.out.at_ hx.out
      subst hA
      have hfx : Hid (∀ w', Below w.heap.size w w' → ∀ j u, (cells8 x)[j]? = some u → w'.cell? ⟨b0, o0 + i * 64 + j, none⟩ = some u) := fun w' hb' j u hu => (hb'.cell (p := ⟨b0, o0 + i * 64 + j, none⟩) hb0).trans (hcx j u hu)
      have hfk : Hid (∀ w', Below w.heap.size w w' → ∀ j u, (cells8 (kyS x))[j]? = some u → w'.cell? ⟨b0, o0 + i * 64 + j, none⟩ = some u) := fun w' hb' j u hu => by have := hfx.out w' hb' (0 + j) u (ky_cell hu); rwa [Nat.zero_add] at this
      have sX : Hid ((Tryd.prog.info? 23).map (·.size) = some (cells8 (kyS x)).length) := by show _ = _; rw [cells8_len, kyS_len hxl.out]; exact size32r
      have sX64 : Hid ((Tryd.prog.info? 43).map (·.size) = some (cells8 x).length) := by show _ = _; rw [cells8_len, hxl.out]; exact size26
      obtain ⟨eb, heb⟩ : ∃ eb, Hid (decide (kyS x = kyS s) = eb) := ⟨_, Lib.hid rfl⟩
      have hcE : Hid (∀ w', (binOp .neq 23 (.agg (cells8 (kyS x)).toArray) (.agg (cells8 (kyS s)).toArray)).run Tryd.prog w' = .ok (.bool (!eb)) w') := fun w' => by rw [neq_dig _ _ (kyS_len hxl.out) (kyS_len hs64.out), heb.out]
      have hst := Lib.hid (others_step (s := s) hx.out)
      rw [heb.out] at hst
      clear hcx hlt
      go_upto_region 11 with fail
      refine q_region (Class wr) (by kernel_rfl) (by kernel_rfl) (Class.mk_ ((Below.refl _ _).drew)) ?_
      refine q_val (v := .pointer (some ⟨w.heap.size, 98, none⟩)) rfl (fun w' hw' => by go_simp) ?_
      (intro K hK; go_simp; refine hK _ ?_; clear hK K)
      refine q_val (v := .slice (some ⟨b0, o0, none⟩) n c) rfl (fun w' hw' => by have hc := (Dr.out.below hw'.below).row ok'.out; go_simp) ?_
      (intro K hK; go_simp; refine hK _ ?_; clear hK K)
      refine q_move rfl (.tmp 11) rfl ?_
      (intro K hK; go_simp; refine hK _ ?_; clear hK K)
      refine q_val (v := .pointer (some ⟨b0, o0 + i * 64, none⟩)) rfl (fun w' hw' => by go_simp) ?_
      (intro K hK; go_simp; refine hK _ ?_; clear hK K)
      refine q_val (v := .pointer (some ⟨b0, o0 + i * 64, none⟩)) rfl (fun w' hw' => by go_simp) ?_
      (intro K hK; go_simp; refine hK _ ?_; clear hK K)
      refine q_part rfl 23 (.tmp 44) rfl b0 ((o0 + i * 64)) rfl (cells8 (kyS x)) _ (fun w' hw' => hfk.out _ (Dr.out.below hw'.below).far) Tryd.underlying23 rfl sX.out ?_
      (intro K hK; go_simp; refine hK _ ?_; clear hK K)
      refine q_val (v := .pointer (some ⟨gs, 0, none⟩)) rfl (fun w' hw' => by go_simp) ?_
      (intro K hK; go_simp; refine hK _ ?_; clear hK K)
      refine q_part rfl 23 (.tmp 46) rfl gs (0) rfl (cells8 (kyS s)) _ (fun w' hw' => fun j u hu => ((hw'.below.block _ Sr.out.lt).trans Sr.out |> Blk.cell) (0 + j) |>.trans (by rw [List.getElem?_toArray]; exact ky_cell hu)) Tryd.underlying23 rfl sS.out ?_
      (intro K hK; go_simp; refine hK _ ?_; clear hK K)
      refine q_val (v := .bool (!eb)) rfl (fun w' hw' => run_cmp rfl rfl rfl qDR (hcE.out w')) ?_
      (intro K hK; go_simp; refine hK _ ?_; clear hK K)
      refine q_nil ?_
      intro w5 hw5
      have D5 := Lib.hid (Dr.out.below hw5.below)
      have S5 : Hid (Blk w5 gs 43 (cells8 s).toArray) := (hw5.below.block _ Sr.out.lt).trans Sr.out
      have hO5 := Lib.hid (hO.out.below hw5.below)
      have hB5 : Hid (B2 ≤ w5.heap.size) := by show _ ≤ _; have := hw5.below.size; have := hBr.out; omega
      clear hw5
      have hR5 := D5.out.row ok'.out
      cases eb with
      | true =>
        have hl2 : Hid (l = s :: others (ss.take (i + 1)) s) := by show _ = _; rw [hst.out, if_pos rfl, List.append_nil]; exact hl.out
        clear hR
        go_wp2_with fail
        go_roundw
        case rel => exact ⟨i + 1, m, A1, c1, l, by go_num, rfl, hlt'.out, (by have := hmi.out; show _ ≤ _; omega), hl2.out, hO5.out, D5.out, S5.out, hB5.out⟩
        case measure => (have := hlt'.out; simp [intOf]; omega)
      | false =>
        have hl2 : Hid (l ++ [x] = s :: others (ss.take (i + 1)) s) := by show _ = _; rw [hst.out, if_neg (by simp), hl.out]; rfl
        have m1 : Hid (m + 1 ≤ maxLen) := by show _ ≤ _; have := hmi.out; have := hlt'.out; have := hn7.out; unfold maxLen; omega
        have m2 : Hid ((m + 1) * 64 ≤ 140737488355328) := by show _ ≤ _; have := hmi.out; have := hlt'.out; have := hn7.out; omega
        obtain ⟨X1, x1⟩ : ∃ X, Hid (X = ([cells8 x].flatten).toArray) := ⟨_, rfl⟩
        clear hR
        go_wp2_with (first
    | (((with_reducible change wpList _ _ _ ({ dst := some 54, op := _, type := _, pos := _, after := _, guard := _ } :: _) _ _); refine wpList_load_part (o := ⟨some 54, _, _, _, _, _⟩) rfl 43 (.tmp 53) rfl (b0) ((o0 + i * 64)) rfl (cells8 x) _ (hfx.out _ D5.out.far) Tryd.underlying43 rfl sX64.out ?_))
    | ((with_reducible change wpList _ _ _ ({ dst := some 55, op := _, type := _, pos := _, after := _, guard := _ } :: _) _ _); refine wpList_buildAggs (o := ⟨some 55, _, _, _, _, _⟩) rfl 26 43 1 _ rfl 64 (by decide) [cells8 x] Tryd.underlying26 size26 zero26 rfl (by decide) (by decide) (q1.out x hxl.out) rfl ?_; rw [← x1.out]; have hN1 : Hid (Sgs (w5.alloc (.cells X1 43)) (some ⟨w5.heap.size, 0, none⟩) 1 [x]) := (by show Sgs _ _ _ _; rw [x1.out]; exact sgs_one w5 hxl.out); have hO6 := Lib.hid (hO5.out.below (Below.heap_below w5 (.cells X1 43))); have D6 := Lib.hid (D5.out.below (Below.heap_below w5 (.cells X1 43))); have S6 : Hid (Blk (w5.alloc (.cells X1 43)) gs 43 (cells8 s).toArray) := ((Below.heap_below w5 (.cells X1 43)).block _ S5.out.lt).trans S5.out; have hB6 : Hid (B2 ≤ (w5.alloc (.cells X1 43)).heap.size) := (by show _ ≤ _; have := hB5.out; simp; omega); clear D5 S5 hO5 hB5)
    | ((with_reducible change wpList _ _ _ ({ dst := some 56, op := _, type := _, pos := _, after := _, guard := _ } :: _) _ _); refine wpList_append_src _ (o := ⟨some 56, _, _, _, _, _⟩) rfl (.tmp 49) (.tmp 55) 26 rfl B2 43 i0 (.agg Z64) 64 64 Tryd.underlying26 ii iz0 iz1 iz2 rfl (by decide) (.slice A1 m c1) m (l.flatMap cells8) rfl hO6.out.2.2 (some ⟨w5.heap.size, 0, none⟩) 1 1 ([x].flatMap cells8) rfl hN1.out.rd (fun e => by cases e) (one_signs [x]) m1.out m2.out hB6.out ?_; intro v7 w7 hG; obtain ⟨hO7, hb7⟩ := grew_signs hG (Below.refl _ _) hB6.out hO6.out hN1.out.all hN1.out.len; have D7 := Lib.hid (D6.out.on hg2.out.1 hb7); have S7 : Hid (Blk w7 gs 43 (cells8 s).toArray) := (hb7.block _ hg2.out.2).trans S6.out; have hB7 : Hid (B2 ≤ w7.heap.size) := (by show _ ≤ _; have := hb7.size; have := hB6.out; omega); obtain ⟨A7, c7, rfl, -⟩ := OwnS.reads hO7; replace hO7 := Lib.hid hO7; clear hG hb7 D6 S6 hO6))
        go_roundw
        case rel => exact ⟨i + 1, m + 1, A7, c7, l ++ [x], by go_num, rfl, hlt'.out, (by have := hmi.out; show _ ≤ _; omega), hl2.out, hO7.out, D7.out, S7.out, hB7.out⟩
        case measure => (have := hlt'.out; simp [intOf]; omega)
    · have hz : ¬ ((i : Int) < (n : Int)) := by omega
      have hin' : i = n := by have := hin.out; omega
      subst hin'
      have hl2 : Hid (l = s :: others ss s) := by show _ = _; rw [hl.out, List.take_of_length_le (by rw [hSs.out.len]; exact Nat.le_refl _)]
      have hm5 : Hid ((others ss s).length + 1 = m) := by show _ = _; rw [← hO.out.2.1, hl2.out]; rfl
      have hlr : Hid (rising kyS l = some r) := by show _ = _; rw [hl2.out]; exact hr.out
      have hr5 := hr
      have hSl : Hid (Sgs wr A1 m l) := by obtain ⟨A9, c9, e9, -, -, -, x, -⟩ := hO.out.reads; injection e9 with e9 _ e10; subst e9 e10; exact x
      clear hlt hl
      go_upto_region 13 with fail
      by_cases h16 : 16 < m
      · have x6 : (16 : Int) < (m : Int) := by omega
        go_wp2_with ((with_reducible change wpList _ _ _ ({ dst := none, op := Op.store 28 (.tmp 4) (.tmp 60), type := _, pos := _, after := _, guard := _ } :: _) _ _); refine wpList_store_row (o := ⟨none, _, _, _, _, _⟩) rfl 28 (.tmp 4) (.tmp 60) rfl (w.heap.size + 1) Z99 rfl rfl 28 Z99 Dr.out.res size99' rfl one99 ?_)
        refine bodyPost_ret (results_cell_row2 rfl _ _ (w.heap.size + 1) 28 Z99 (0, 0) _ rfl (setRow_heap _ _ _ _ _ _ Dr.out.res) Tryd.underlying28 rfl size99') rfl ?_
        exact ⟨_, _, none, rfl, below_setRow Dr.out.far (by omega) _, fin_many hm5.out h16, rfl⟩
      · have x6 : ¬ ((16 : Int) < (m : Int)) := by omega
        go_upto_region 16 with (go_at_call 31; refine (refrising_any l m (by have := hmi.out; have := hn7.out; omega) A1 c1 wr hSl.out).mono ?_; rw [hlr.out]; rintro e w8 ⟨v8, rfl, hb8, hO8⟩; have D8 := Lib.hid (Dr.out.below hb8); obtain ⟨A8, c8, rfl, -⟩ := OwnS.reads hO8; replace hO8 := Lib.hid (OwnS.base (B' := B2) hO8 hBr.out); clear hb8 Dr Sr hO)
        obtain ⟨NC, hNC⟩ : ∃ NC, Hid ((noteCells h (.slice A8 m c8)).toArray = NC) := ⟨_, Lib.hid rfl⟩
        have y1 := z1.out (.slice A8 m c8)
        have y2 := z2.out (.slice A8 m c8)
        have y3 := z3.out A8 m c8
        have y4 := Lib.hid (fun w' => hbn.out A8 m c8 w')
        rw [hNC.out] at y1 y2 y3 y4
        replace y1 := Lib.hid y1
        replace y2 := Lib.hid y2
        replace y3 := Lib.hid y3
        go_wp2_with (first
    | (((with_reducible change wpList _ _ _ ({ dst := some 67, op := _, type := _, pos := _, after := _, guard := _ } :: _) _ _); refine wpList_load_part (o := ⟨some 67, _, _, _, _, _⟩) rfl 25 (.tmp 66) rfl (w.heap.size) (0) rfl (headCells h) _ D8.out.head Tryd.underlying25 rfl hsz.out ?_))
    | ((with_reducible change wpList _ _ _ ({ dst := some 69, op := _, type := _, pos := _, after := _, guard := _ } :: _) _ _); refine wpList_buildF (o := ⟨some 69, _, _, _, _, _⟩) rfl 28 #[(0, .tmp 67), (1, .tmp 68)] rfl #[(0, .agg (headCells h).toArray), (1, .slice A8 m c8)] (by simp; exact ⟨rfl, rfl⟩) _ (y4.out _) ?_)
    | ((with_reducible change wpList _ _ _ ({ dst := none, op := Op.store 28 (.tmp 4) (.tmp 69), type := _, pos := _, after := _, guard := _ } :: _) _ _); refine wpList_store_all (o := ⟨none, _, _, _, _, _⟩) rfl 28 (.tmp 4) (.tmp 69) rfl (w.heap.size + 1) NC rfl rfl 28 Z99 D8.out.res y1.out y2.out y3.out ?_; intro w9 hB9 hk9; have hO9 := Lib.hid (own_off hO8.out hk9 (by intro k e; have := hg2.out.1; omega)); have hb9 : Hid (Below w.heap.size w w9) := D8.out.far.trans (Kept.below_of hk9 (by omega) D8.out.far.size); have hR9 := hB9; clear hk9 hB9))
        refine bodyPost_ret (results_cell_row2 rfl _ _ (w.heap.size + 1) 28 NC (0, 0) _ rfl hR9.out Tryd.underlying28 rfl y1.out) rfl ?_
        exact ⟨_, _, some r, rfl, hb9.out, fin_some hm5.out h16 hr5.out, A8, c8, by rw [hO8.out.2.1, ← hNC.out], by rw [hO8.out.2.1]; exact hO9.out.base (by have := hg2.out.1; omega)⟩
theorem refadd_any (h : HeadD) (ok : h.Ok) (ss : List Text) (n : Nat) (hn47 : n ≤ 1099511627776) (A : Option Addr) (c : Nat) (hnil : A = none → n = 0 ∧ c = 0) (q : Text) (k : Nat) (hk : q.length = k) (Ak : Option Addr) (ck : Nat) (hkc : k ≤ ck) (hkn : Ak = none → k = 0 ∧ ck = 0) (w : World) (hS : Sgs w A n ss) (hq : Reads w 1 Ak k (cells8 q)) :
    Calls Tryd.prog 10 #[.agg (noteCells h (.slice A n c)).toArray, .slice Ak k ck] w (AddOut h ss q w) := by
  by_cases h0 : (signAns h q).2 = 0
  · cases hr : rising kyS ss with
    | none => exact (refadd_twice h ok ss n hn47 A c hnil q k hk Ak ck hkc hkn _ rfl _ rfl h0 hr w hS hq).mono fun e w' ⟨he, hb⟩ => out_twice h0 hr he hb
    | some rs => exact (refadd_yes h ok ss n hn47 A c hnil q k hk Ak ck hkc hkn _ rfl _ rfl h0 rs hr w hS hq).mono fun e w' hy => out_yes h0 hr hy
  · exact (refadd_refused h ok ss n hn47 A c hnil q k hk Ak ck hkc hkn _ rfl _ rfl h0 w hS hq).mono fun e w' ⟨he, hb⟩ => out_refused rfl h0 he hb
end Go.Proofs.YteelanamlhfmgaaDoor.RefAdd

namespace Go.Proofs.YteelanamlhfmgaaDoor.HeadAdds
open Go Go.RowKit Go.Proofs.YteelanamlhfmgaaDoor Go.Proofs.YteelanamlhfmgaaDoor.Mem Go.Proofs.YteelanamlhfmgaaDoor.Sha Go.Proofs.YteelanamlhfmgaaDoor.Bytes Go.Proofs.YteelanamlhfmgaaDoor.SortP Go.Proofs.YteelanamlhfmgaaDoor.NoteP Go.Proofs.YteelanamlhfmgaaDoor.QuietTail Go.Proofs.YteelanamlhfmgaaDoor.Grown Go.Proofs.YteelanamlhfmgaaDoor.Want Go.Proofs.YteelanamlhfmgaaDoor.Guard2 Go.Proofs.YteelanamlhfmgaaDoor.Append Go.Proofs.YteelanamlhfmgaaDoor.Own Go.Proofs.YteelanamlhfmgaaDoor.Rise Go.Proofs.YteelanamlhfmgaaDoor.SortM Go.Proofs.YteelanamlhfmgaaDoor.SgM Go.Proofs.YteelanamlhfmgaaDoor.HashMem Go.Proofs.YteelanamlhfmgaaDoor.HeadMem Go.Proofs.YteelanamlhfmgaaDoor.EncNoteP Go.Proofs.YteelanamlhfmgaaDoor.EncNote Go.Proofs.YteelanamlhfmgaaDoor.RowS Go.Proofs.YteelanamlhfmgaaDoor.Fill Go.Proofs.YteelanamlhfmgaaDoor.NoteM Go.Proofs.YteelanamlhfmgaaDoor.SignEq Go.Proofs.YteelanamlhfmgaaDoor.CmpW Go.Proofs.YteelanamlhfmgaaDoor.SameSigns Go.Proofs.YteelanamlhfmgaaDoor.Stranger Go.Proofs.YteelanamlhfmgaaDoor.Given Go.Proofs.YteelanamlhfmgaaDoor.HeadTake Go.Proofs.YteelanamlhfmgaaDoor.HeadTake2 Go.Proofs.YteelanamlhfmgaaDoor.Decode Go.Proofs.YteelanamlhfmgaaDoor.Kept16 Go.Proofs.YteelanamlhfmgaaDoor.RefNote Go.Proofs.YteelanamlhfmgaaDoor.Sign Go.Proofs.YteelanamlhfmgaaDoor.Signs Go.Proofs.YteelanamlhfmgaaDoor.AddP Go.Proofs.YteelanamlhfmgaaDoor.Add Go.Proofs.YteelanamlhfmgaaDoor.RefAdd Go.Proofs.YteelanamlhfmgaaDoor.Law16 Go.Proofs.YteelanamlhfmgaaDoor.Held

def addH (h : HeadD) : Option (List Text) → HeadD
  | none => h0
  | some _ => h
theorem addH_ok {h : HeadD} (ok : h.Ok) (o : Option (List Text)) : (addH h o).Ok := by
  cases o with
  | none => exact h0_ok
  | some _ => exact ok
theorem add_zero {h : HeadD} {ss : List Text} {q : Text} {o : Option (List Text)} {k : Int} (ha : addAns h ss q = (o, k)) (hk : k = 0) : addH h o = h ∧ (o.getD []).length ≤ 16 := by
  subst hk
  unfold addAns at ha
  by_cases h1 : (signAns h q).2 = 0
  · rw [if_pos h1] at ha
    cases hr : rising kyS ss with
    | none => rw [hr] at ha; cases ha
    | some rs =>
      rw [hr] at ha
      have ha : addFin ss (signAns h q).1 = (o, 0) := ha
      unfold addFin at ha
      by_cases h2 : 16 < (others ss (signAns h q).1).length + 1
      · rw [if_pos h2] at ha; cases ha
      · rw [if_neg h2] at ha
        obtain ⟨r, h3⟩ := fin_is (s := (signAns h q).1) hr
        rw [h3] at ha
        injection ha with ha
        subst ha
        refine ⟨rfl, ?_⟩
        show r.length ≤ 16
        rw [rising_len h3, List.length_cons]
        omega
  · rw [if_neg h1] at ha
    injection ha with _ ha
    exact absurd ha h1
theorem add_len {h : HeadD} {ss : List Text} {q : Text} {o : Option (List Text)} {k : Int} (ha : addAns h ss q = (o, k)) : (o.getD []).length ≤ 16 := by
  by_cases hk : k = 0
  · exact (add_zero ha hk).2
  · cases o with
    | none => simp
    | some r =>
      unfold addAns at ha
      by_cases h1 : (signAns h q).2 = 0
      · rw [if_pos h1] at ha
        split at ha
        · unfold addFin at ha
          split at ha
          · cases ha
          · injection ha with _ ha; exact absurd ha.symm hk
        · cases ha
      · rw [if_neg h1] at ha; cases ha
/-- What adding leaves, with letters for its answer. -/
theorem out_note {h H : HeadD} {ss r : List Text} {q : Text} {w w' : World} {e : Ending} {o : Option (List Text)} {k : Int} {m : Nat} (ha : addAns h ss q = (o, k)) (hH : addH h o = H) (hr : o.getD [] = r) (hm : r.length = m) (ho : AddOut h ss q w e w') :
    ∃ A c, e = .returned (.tuple #[.agg (noteCells H (.slice A m c)).toArray, .int .i64 k]) ∧ Below w.heap.size w w' ∧ OwnS w' w.heap.size (.slice A m c) m r := by
  obtain ⟨V, he, hb, hp⟩ := ho
  rw [ha] at he hp
  subst hr hH hm
  cases o with
  | none =>
    obtain rfl : V = .agg Z99 := hp
    exact ⟨none, 0, by rw [he, ← z99_eq]; rfl, hb, OwnS.nil _ _⟩
  | some r =>
    obtain ⟨A, c, rfl, hO⟩ := hp
    exact ⟨A, c, he, hb, hO⟩
structure FitN (cs : Array Value) : Prop where
  size : (Tryd.prog.info? 28).map (·.size) = some cs.size
  zero : Z99.size = cs.size
  one : cs.all (fun v => v.oneCell') = true
theorem fitN {h : HeadD} (ok : h.Ok) (A : Option Addr) (n c : Nat) : FitN (noteCells h (.slice A n c)).toArray := ⟨note_size ok _, note_zero ok _, note_one _ _ _⟩
theorem _root_.Go.Proofs.YteelanamlhfmgaaDoor.SgM.OwnS.keptN {w w' : World} {B n m : Nat} {v : Value} {ds : List Text} {cs : Array Value} (h : OwnS w B v n ds) (bb : Blk w m 28 cs) (hk : Kept (· = m) w w') : OwnS w' B v n ds := by
  obtain ⟨h1, h2, hFl, hown⟩ := h
  refine ⟨h1, h2, hFl, ?_⟩
  rcases hown with h | ⟨g, c, cur, hv, hBg, hg, hnc, hcm, hcs, htk⟩
  · exact .inl h
  · refine .inr ⟨g, c, cur, hv, hBg, Blk.kept hg hk (fun x => ?_), hnc, hcm, hcs, htk⟩
    have x : g = m := x
    subst x
    have e : some (Obj.cells cur 43 (0, 0)) = some (Obj.cells cs 28 (0, 0)) := hg.symm.trans bb
    simp at e
theorem own_sgs {w : World} {B n c : Nat} {A : Option Addr} {ds : List Text} (h : OwnS w B (.slice A n c) n ds) : Sgs w A n ds ∧ (A = none → n = 0 ∧ c = 0) := by
  obtain ⟨A9, c9, e9, -, -, x0, x, -⟩ := h.reads
  injection e9 with e9 _ e10
  subst e9 e10
  exact ⟨x, x0⟩
set_option maxRecDepth 100000 in
set_option maxHeartbeats 8000000 in
theorem headAdds_any (h : HeadD) (ok : h.Ok) (ss : List Text) (n : Nat) (A : Option Addr) (c : Nat) (hc : n ≤ c) (hnil : A = none → n = 0 ∧ c = 0) (es : List Text) (p : Nat) (hp : es.length = p) (hp47 : p < 140737488355328) (Ap : Option Addr) (cp : Nat) (w : World) (hB : Base w) (hS : Sgs w A n ss) (hP : Pieces w Ap es) (hsh : ∀ q ∈ es, q.length < 140737488355228) :
    Calls Tryd.prog 3 #[.agg (noteCells h (.slice A n c)).toArray, .slice Ap p cp] w fun e w' => e = .returned (.bool true) ∧ Below w.heap.size w w' := by
  obtain ⟨w0, hw0⟩ : ∃ w0, w.alloc (.cells (noteCells h (.slice A n c)).toArray 28) = w0 := ⟨_, rfl⟩
  have N0 : Hid (NoteAt w0 w.heap.size h A n c ss) := by show NoteAt _ _ _ _ _ _ _; rw [← hw0]; exact NoteAt.new hS
  have hb0 : Hid (Below w.heap.size w w0) := by show Below _ _ _; rw [← hw0]; exact Below.heap_below w _
  have hPs : Hid (∀ w', Below w.heap.size w w' → Pieces w' Ap es) := fun w' hb => hP.below hb
  have hSs : Hid (∀ w', Below w.heap.size w w' → Sgs w' A n ss) := fun w' hb => hS.below hb
  have hBs : Hid (∀ w', Below w.heap.size w w' → Base w') := fun w' hb => hB.below hb hB.1
  have hP0 := Lib.hid hP
  have zN := Lib.hid (fun v => note_size ok v)
  have oN := Lib.hid (fun A n c => note_one (h := h) A n c)
  have sN : Hid (∀ v u, (noteCells h v).toArray.size = (noteCells h u).toArray.size) := fun v u => by rw [← note_zero ok v, ← note_zero ok u]
  have s0N := Lib.hid (fun v => note_zero ok v)
  have ok' := Lib.hid ok
  have hc0 := Lib.hid hc
  have hnl := Lib.hid hnil
  have hp0 := Lib.hid hp
  have hp7 := Lib.hid hp47
  have hsh0 := Lib.hid hsh
  clear hS ok hc hnil hp hp47 hB hP hsh
  go_enter Tryd.func3, Tryd.ntmps3
  go_upto_region 2 with (first
    | (((with_reducible change wpList _ _ _ ({ dst := some 12, op := _, type := _, pos := _, after := _, guard := _ } :: _) _ _); refine wpList_load_row (o := ⟨some 12, _, _, _, _, _⟩) rfl 28 (.tmp 2) rfl (w.heap.size) rfl 28 ((noteCells h (.slice A n c)).toArray) (0, 0) _ N0.out.blk Tryd.underlying28 rfl (zN.out _) ?_))
    | (go_at_call 6; refine (short_any h ok'.out ss n A c hc0.out w0 N0.out.sgs).mono ?_; rintro e w1 ⟨m, hm, rfl, -, hb1⟩; have B1 : Hid (Blk w1 w.heap.size 28 (noteCells h (.slice A n c)).toArray) := (hb1.block _ N0.out.blk.lt).trans N0.out.blk; have bb1 : Hid (Below w.heap.size w w1) := hb0.out.trans (hb1.mono hb0.out.size); clear hb1 N0 hb0 hw0)
    | ((with_reducible change wpList _ _ _ ({ dst := none, op := Op.store 28 (.tmp 2) (.tmp 13), type := _, pos := _, after := _, guard := _ } :: _) _ _); refine wpList_store_all (o := ⟨none, _, _, _, _, _⟩) rfl 28 (.tmp 2) (.tmp 13) rfl w.heap.size (noteCells h (.slice A m c)).toArray rfl rfl 28 (noteCells h (.slice A n c)).toArray B1.out (zN.out _) (sN.out _ _) (oN.out _ _ _) ?_; intro wN hBN hkN; have bbN : Hid (Below w.heap.size w wN) := bb1.out.trans (Kept.below_of hkN (Nat.le_refl _) bb1.out.size); have NN : Hid (NoteAt wN w.heap.size h A m c (ss.take m)) := ⟨hBN.out, (hSs.out wN bbN.out).take_ m hm.out.2⟩; clear hkN hBN B1 bb1))

  go_wp2_with fail
  go_loopw [5] (fun v5 wr => ∃ (i n2 c2 : Nat) (A2 : Option Addr) (ss2 : List Text), v5 = .int .i64 (i : Int) ∧ Hid (i ≤ p) ∧ Hid (n2 ≤ 100) ∧ Hid (A2 = none → n2 = 0 ∧ c2 = 0) ∧ Hid (NoteAt wr w.heap.size h A2 n2 c2 ss2) ∧ Hid (Below w.heap.size w wr)) (fun v _ => p - (intOf v).toNat)
  case atStart => exact ⟨0, m, c, A, ss.take m, rfl, Nat.zero_le _, hm.out.1, (fun e => by obtain ⟨x1, x2⟩ := hnl.out e; exact ⟨by have := hm.out.2; omega, x2⟩), NN.out, bbN.out⟩
  case round =>
    clear NN bbN hm
    obtain ⟨i, n2, c2, A2, ss2, rfl, hip, hn2, hn0, N, hbe⟩ := hrel
    have hi6 : (i : Int) ≤ 140737488355328 := by have := hip.out; have := hp7.out; omega
    have hz0 : (0 : Int) ≤ (i : Int) := by omega
    by_cases hlt : i < p
    · have hz : (i : Int) < (p : Int) := by omega
      by_cases hl1 : i < 100
      · have hz1 : (i : Int) < 100 := by omega
        have hlt' := Lib.hid hlt
        obtain ⟨q, hq⟩ : ∃ q, Hid (es[i]? = some q) := ⟨_, List.getElem?_eq_getElem (by rw [hp0.out]; exact hlt)⟩
        obtain ⟨b, o, hAp, hbp, hcp⟩ := hP0.out (by rw [hp0.out]; omega)
        obtain ⟨Ak, ck, hck, hkc, -, hkn⟩ := hcp i q hq.out
        subst hAp
        have hql : Hid (q.length < 140737488355228) := hsh0.out q (List.mem_of_getElem? hq.out)
        have hRq : Hid (∀ w', Below w.heap.size w w' → Reads w' 1 Ak q.length (cells8 q)) := fun w' hb => by
          obtain ⟨b2, o2, e2, -, hc2⟩ := hPs.out w' hb (by rw [hp0.out]; omega)
          obtain ⟨Ak2, ck2, hck2, -, hr2, -⟩ := hc2 i q hq.out
          injection e2 with e2
          injection e2 with e2 e3
          subst e2 e3
          have : some (Value.slice Ak q.length ck) = some (Value.slice Ak2 q.length ck2) := by rw [← hck, ← hck2]; exact (hb.cell (p := ⟨b, o + i, none⟩) hbp).symm
          injection this with this
          injection this with this
          rw [this]
          exact hr2
        have hcq : Hid (∀ w', Below w.heap.size w w' → w'.cell? ⟨b, o + i, none⟩ = some (.slice Ak q.length ck)) := fun w' hb => (hb.cell (p := ⟨b, o + i, none⟩) hbp).trans hck
        obtain ⟨k, hk⟩ : ∃ k, Hid (q.length = k) := ⟨_, Lib.hid rfl⟩
        rw [hk.out] at hql hRq hcq hkc hkn
        have hkc0 := Lib.hid hkc
        have hkn0 := Lib.hid hkn
        obtain ⟨o7, k7, ha7⟩ : ∃ o7 k7, Hid (addAns h ss2 q = (o7, k7)) := ⟨_, _, rfl⟩
        obtain ⟨H7, hH7⟩ : ∃ H7, Hid (addH h o7 = H7) := ⟨_, Lib.hid rfl⟩
        obtain ⟨r7, hr7⟩ : ∃ r7, Hid (o7.getD [] = r7) := ⟨_, Lib.hid rfl⟩
        obtain ⟨m7, hm7⟩ : ∃ m7, Hid (r7.length = m7) := ⟨_, Lib.hid rfl⟩
        have okH : Hid (H7.Ok) := by show HeadD.Ok _; rw [← hH7.out]; exact addH_ok ok'.out o7
        have hm16 : Hid (m7 ≤ 16) := by show _ ≤ _; rw [← hm7.out, ← hr7.out]; exact add_len ha7.out
        have zH := Lib.hid (fun v => note_size okH.out v)
        have oH := Lib.hid (fun A n c => note_one (h := H7) A n c)
        have sH := Lib.hid (fun v => note_zero okH.out v)
        have hsH : Hid (∀ v, k7 = 0 → (noteCells h v).toArray.size = 99 ∧ H7 = h) := fun v e => ⟨(s0N.out v).symm.trans z99_size, by rw [← hH7.out]; exact (add_zero ha7.out e).1⟩
        clear hlt hl1 hcp hck hkc hkn hbp
        go_upto_region 8 with (first
    | (((with_reducible change wpList _ _ _ ({ dst := some 24, op := _, type := _, pos := _, after := _, guard := _ } :: _) _ _); refine wpList_load_row (o := ⟨some 24, _, _, _, _, _⟩) rfl 28 (.tmp 2) rfl (w.heap.size) rfl 28 ((noteCells h (.slice A2 n2 c2)).toArray) (0, 0) _ N.out.blk Tryd.underlying28 rfl (zN.out _) ?_))
    | (go_at_call 7; refine (given_any h ok'.out ss2 n2 (by have := hn2.out; omega) A2 c2 wr N.out.sgs).mono ?_; rintro e w1 ⟨g, rfl, -, hG1, hb1⟩; have N1 := Lib.hid (N.out.below hb1); replace hG1 := Lib.hid hG1; have bb1 : Hid (Below w.heap.size w w1) := hbe.out.trans (hb1.mono hbe.out.size); clear hb1 N hbe)
    | ((with_reducible change wpList _ _ _ ({ dst := none, op := Op.store 28 (.tmp 6) (.tmp 25), type := _, pos := _, after := _, guard := _ } :: _) _ _); refine wpList_store_all (o := ⟨none, _, _, _, _, _⟩) rfl 28 (.tmp 6) (.tmp 25) rfl w1.heap.size (noteCells h (.slice (some ⟨g, 0, none⟩) n2 (n2 + 40))).toArray rfl rfl 28 Z99 (Blk.new w1 _ _) (zN.out _) (s0N.out _) (oN.out _ _ _) ?_; intro w2 hB2 hk2; have hbn := below_new hk2; have G2 := Lib.hid (hG1.out.below hbn); have N2 := Lib.hid (N1.out.below hbn); have bb2 : Hid (Below w.heap.size w w2) := bb1.out.trans (hbn.mono bb1.out.size); have M2 : Hid (NoteAt w2 w1.heap.size h (some ⟨g, 0, none⟩) n2 (n2 + 40) ss2) := ⟨hB2.out, G2.out.rd N2.out.sgs.all N2.out.sgs.len⟩; clear hk2 hbn hB2 hG1 N1 bb1; generalize w1.heap.size = m6 at *; have kc2 := hcq.out w2 bb2.out)
    | (go_at_call 8; refine (roomy_any q k hk.out (by have := hql.out; omega) Ak ck w2 (hRq.out w2 bb2.out)).mono ?_; rintro e w3 ⟨gr, rfl, -, R3, hb3⟩; replace R3 := Lib.hid R3; have G3 := Lib.hid (G2.out.below hb3); have N3 := Lib.hid (N2.out.below hb3); have M3 := Lib.hid (M2.out.below hb3); have bb3 : Hid (Below w.heap.size w w3) := bb2.out.trans (hb3.mono bb2.out.size); clear hb3 kc2 G2 N2 M2 bb2)
    | (((with_reducible change wpList _ _ _ ({ dst := some 32, op := _, type := _, pos := _, after := _, guard := _ } :: _) _ _); refine wpList_load_row (o := ⟨some 32, _, _, _, _, _⟩) rfl 28 (.tmp 6) rfl (m6) rfl 28 ((noteCells h (.slice (some ⟨g, 0, none⟩) n2 (n2 + 40))).toArray) (0, 0) _ M3.out.blk Tryd.underlying28 rfl (zN.out _) ?_))
    | (go_at_call 9; refine (add_any h ok'.out ss2 n2 (by have := hn2.out; omega) (some ⟨g, 0, none⟩) (n2 + 40) (fun e => by cases e) q k hk.out (some ⟨gr, 0, none⟩) (k + 100) (by omega) (fun e => by cases e) w3 (hBs.out w3 bb3.out) M3.out.sgs (by have := R3.out.reads; rw [hk.out] at this; exact this)).mono ?_; intro e w4 hAO; obtain ⟨A4, c4, rfl, hb4, hO4⟩ := out_note ha7.out hH7.out hr7.out hm7.out hAO; have hS4 := Lib.hid (own_sgs hO4).1; have R4 := Lib.hid (R3.out.below hb4 (Tab.lt R3.out)); have G4 := Lib.hid (G3.out.below hb4); have N4 := Lib.hid (N3.out.below hb4); have M4 := Lib.hid (M3.out.below hb4); have bb4 : Hid (Below w.heap.size w w4) := bb3.out.trans (hb4.mono bb3.out.size); clear hb4 hAO hO4 G3 N3 M3 R3 bb3)
    | ((with_reducible change wpList _ _ _ ({ dst := none, op := Op.store 28 (.tmp 8) (.tmp 35), type := _, pos := _, after := _, guard := _ } :: _) _ _); refine wpList_store_all (o := ⟨none, _, _, _, _, _⟩) rfl 28 (.tmp 8) (.tmp 35) rfl w4.heap.size (noteCells H7 (.slice A4 m7 c4)).toArray rfl rfl 28 Z99 (Blk.new w4 _ _) (zH.out _) (sH.out _) (oH.out _ _ _) ?_; intro wE hB5 hk5; have hbn := below_new hk5; have G5 := Lib.hid (G4.out.below hbn); have N5 := Lib.hid (N4.out.below hbn); have M5 := Lib.hid (M4.out.below hbn); have R5 := Lib.hid (R4.out.below hbn (Tab.lt R4.out)); have bb5 : Hid (Below w.heap.size w wE) := bb4.out.trans (hbn.mono bb4.out.size); have P5 : Hid (NoteAt wE w4.heap.size H7 A4 m7 c4 r7) := ⟨hB5.out, hS4.out.below hbn⟩; clear hk5 hbn hB5 hS4 G4 N4 M4 R4 bb4; generalize w4.heap.size = m8 at *; have kc5 := hcq.out wE bb5.out))

        go_cut [10, 11] from 37 to 46 (fun v u wx => ∃ (mb B0 : Nat) (A0 : Option Addr) (c0 : Nat), v = .pointer (some ⟨mb, 0, none⟩) ∧ u = .int .i64 k7 ∧ Hid (Blk wx mb 28 (noteCells H7 (.slice A0 m7 c0)).toArray) ∧ Hid (OwnS wx B0 (.slice A0 m7 c0) m7 r7) ∧ Hid (Below wE.heap.size wE wx))
        case first =>
          have s0 : Hid (Below wE.heap.size wE wE.drew) := (Below.refl _ _).drew
          refine held_start (fun w' => Below wE.heap.size wE w') 12 rfl (by kernel_rfl) ?_
          refine held_take (i := 0) (v := .agg ((noteCells h (.slice A2 n2 c2)).toArray)) rfl (by kernel_rfl) (by kernel_rfl) (by kernel_rfl) (fun _ _ _ h => h) s0.out (by rfl) (fun w' hw' => exec_row 28 (.tmp 2) rfl (w.heap.size) rfl 28 ((noteCells h (.slice A2 n2 c2)).toArray) (0, 0) _ ((N5.out.below hw').blk) Tryd.underlying28 rfl (zN.out _)) ?_
          (intro K hK; go_simp; refine hK _ ?_; clear hK K)
          refine held_take (i := 1) (v := .slice (some ⟨b, o, none⟩) p cp) rfl (by kernel_rfl) (by kernel_rfl) (by kernel_rfl) (fun _ _ _ h => h) s0.out (by rfl) (fun w' hw' => run_mv (.tmp 1) rfl w') ?_
          (intro K hK; go_simp; refine hK _ ?_; clear hK K)
          refine held_take (i := 2) (v := .int .i64 (i : Int)) rfl (by kernel_rfl) (by kernel_rfl) (by kernel_rfl) (fun _ _ _ h => h) s0.out (by rfl) (fun w' hw' => run_mv (.tmp 5) rfl w') ?_
          (intro K hK; go_simp; refine hK _ ?_; clear hK K)
          refine held_take (i := 3) (v := .pointer (some ⟨b, o + i, none⟩)) rfl (by kernel_rfl) (by kernel_rfl) (by kernel_rfl) (fun _ _ _ h => h) s0.out (by rfl) (fun w' hw' => by go_simp) ?_
          (intro K hK; go_simp; refine hK _ ?_; clear hK K)
          refine held_take (i := 4) (v := .slice Ak k ck) rfl (by kernel_rfl) (by kernel_rfl) (by kernel_rfl) (fun _ _ _ h => h) s0.out (by rfl) (fun w' hw' => by have kc' := hcq.out w' (bb5.out.trans ((hw').mono bb5.out.size)); go_simp) ?_
          (intro K hK; go_simp; refine hK _ ?_; clear hK K)
          refine held_two (i := 5) (j := 9) rfl rfl (by kernel_rfl) (by rfl) (by rfl) (fun K hK => ?_) (fun K hK => ?_)
          · refine wp_fn (R := fun v w'' => ∃ (B0 : Nat) (A0 : Option Addr) (c0 : Nat), v = .tuple #[.agg (noteCells H7 (.slice A0 m7 c0)).toArray, .int .i64 k7] ∧ OwnS w'' B0 (.slice A0 m7 c0) m7 r7 ∧ Below wE.heap.size wE w'' ∧ Below (wE.drew).heap.size (wE.drew) w'') (args := #[.agg (noteCells h (.slice A2 n2 c2)).toArray, .slice Ak k ck]) _ _ rfl rfl Tryd.func10 (by kernel_rfl) (by kernel_rfl) ((refadd_any h ok'.out ss2 n2 (by have := hn2.out; omega) A2 c2 hn0.out q k hk.out Ak ck hkc0.out hkn0.out (wE.drew) (N5.out.below (s0.out)).sgs (hRq.out _ (bb5.out.trans ((s0.out).mono bb5.out.size)))).mono fun e w'' ho => by obtain ⟨A0, c0, he, hb, hT⟩ := out_note ha7.out hH7.out hr7.out hm7.out ho; exact ⟨_, he, _, A0, c0, rfl, hT, s0.out.trans (hb.mono s0.out.size), hb⟩) ?_
            rintro qq w5 ⟨B0, A0, c0, rfl, hT, h5, kk1⟩
            replace h5 := Lib.hid h5
            replace kk1 := Lib.hid kk1
            replace hT := Lib.hid hT
            have FN := Lib.hid (fitN okH.out A0 m7 c0)
            clear kk1
            go_simp
            refine hK _ _ h5.out ?_
            clear hK K
            refine held_take (i := 6) (v := .tuple #[.agg (noteCells H7 (.slice A0 m7 c0)).toArray, .int .i64 k7]) rfl (by kernel_rfl) (by kernel_rfl) (by kernel_rfl) (fun _ _ _ h => h) h5.out (by rfl) (fun w' hw' => run_mv (.tmp 43) rfl w') ?_
            (intro K hK; go_simp; refine hK _ ?_; clear hK K)
            refine held_take (i := 7) (v := .agg (noteCells H7 (.slice A0 m7 c0)).toArray) rfl (by kernel_rfl) (by kernel_rfl) (by kernel_rfl) (fun _ _ _ h => h) h5.out (by rfl) (fun w' hw' => by go_simp) ?_
            (intro K hK; go_simp; refine hK _ ?_; clear hK K)
            refine held_take (i := 8) (v := .int .i64 k7) rfl (by kernel_rfl) (by kernel_rfl) (by kernel_rfl) (fun _ _ _ h => h) h5.out (by rfl) (fun w' hw' => by go_simp) ?_
            (intro K hK; go_simp; refine hK _ ?_; clear hK K)
            refine held_only (i := 9) rfl (by kernel_rfl) (by rfl) (fun K hK => ?_)
            have h6 := Lib.hid (h5.out.alloc h5.out.size (.cells Z99 28))
            have bb : Hid (Blk (w5.alloc (.cells Z99 28)) w5.heap.size 28 Z99) := Blk.new _ _ _
            replace hT := Lib.hid (hT.out.below (Below.heap_below _ (.cells Z99 28)))
            go_simp
            refine hK _ _ h6.out ?_
            clear hK K
            refine held_only (i := 10) rfl (by kernel_rfl) (by rfl) (fun K hK => ?_)
            refine wp_store_whole 28 (.tmp 10) (.tmp 44) rfl (w5.heap.size) ((noteCells H7 (.slice A0 m7 c0)).toArray) rfl rfl 28 (Z99) (bb.out) FN.out.size FN.out.zero FN.out.one ?_
            intro w99 B9 k9
            have b9 : Hid (Below wE.heap.size wE w99) := h6.out.trans (Kept.below_of k9 (h5.out.size) h6.out.size)
            replace hT := Lib.hid (hT.out.keptN bb.out k9)
            go_simp
            refine hK _ _ b9.out ?_
            clear hK K
            refine held_take (i := 11) (v := .int .i64 k7) rfl (by kernel_rfl) (by kernel_rfl) (by kernel_rfl) (fun _ _ _ h => h) b9.out (by rfl) (fun w' hw' => by first | go_simp | rfl) ?_
            (intro K hK; go_simp; refine hK _ ?_; clear hK K)
            refine held_end (by kernel_rfl) ?_
            go_wp2_with fail
            go_meet
            case rel => exact ⟨_, _, _, _, rfl, rfl, B9, hT.out, b9.out⟩
          · have h5 := Lib.hid (s0.out.alloc s0.out.size (.cells Z99 28))
            have bb : Hid (Blk (wE.drew.alloc (.cells Z99 28)) wE.heap.size 28 Z99) := Blk.new _ _ _
            go_simp
            refine hK _ _ h5.out ?_
            clear hK K
            refine held_only (i := 5) rfl (by kernel_rfl) (by rfl) (fun K hK => ?_)
            refine wp_fn (R := fun v w'' => ∃ (B0 : Nat) (A0 : Option Addr) (c0 : Nat), v = .tuple #[.agg (noteCells H7 (.slice A0 m7 c0)).toArray, .int .i64 k7] ∧ OwnS w'' B0 (.slice A0 m7 c0) m7 r7 ∧ Below wE.heap.size wE w'' ∧ Below ((wE.drew.alloc (.cells Z99 28))).heap.size ((wE.drew.alloc (.cells Z99 28))) w'') (args := #[.agg (noteCells h (.slice A2 n2 c2)).toArray, .slice Ak k ck]) _ _ rfl rfl Tryd.func10 (by kernel_rfl) (by kernel_rfl) ((refadd_any h ok'.out ss2 n2 (by have := hn2.out; omega) A2 c2 hn0.out q k hk.out Ak ck hkc0.out hkn0.out ((wE.drew.alloc (.cells Z99 28))) (N5.out.below (h5.out)).sgs (hRq.out _ (bb5.out.trans ((h5.out).mono bb5.out.size)))).mono fun e w'' ho => by obtain ⟨A0, c0, he, hb, hT⟩ := out_note ha7.out hH7.out hr7.out hm7.out ho; exact ⟨_, he, _, A0, c0, rfl, hT, h5.out.trans (hb.mono h5.out.size), hb⟩) ?_
            rintro qq w6 ⟨B0, A0, c0, rfl, hT, h6, kk1⟩
            replace h6 := Lib.hid h6
            replace kk1 := Lib.hid kk1
            replace hT := Lib.hid hT
            have FN := Lib.hid (fitN okH.out A0 m7 c0)
            replace bb := Lib.hid ((kk1.out.block _ (Blk.lt bb.out)).trans bb.out)
            clear kk1
            go_simp
            refine hK _ _ h6.out ?_
            clear hK K
            refine held_take (i := 6) (v := .tuple #[.agg (noteCells H7 (.slice A0 m7 c0)).toArray, .int .i64 k7]) rfl (by kernel_rfl) (by kernel_rfl) (by kernel_rfl) (fun _ _ _ h => h) h6.out (by rfl) (fun w' hw' => run_mv (.tmp 43) rfl w') ?_
            (intro K hK; go_simp; refine hK _ ?_; clear hK K)
            refine held_take (i := 7) (v := .agg (noteCells H7 (.slice A0 m7 c0)).toArray) rfl (by kernel_rfl) (by kernel_rfl) (by kernel_rfl) (fun _ _ _ h => h) h6.out (by rfl) (fun w' hw' => by go_simp) ?_
            (intro K hK; go_simp; refine hK _ ?_; clear hK K)
            refine held_take (i := 8) (v := .int .i64 k7) rfl (by kernel_rfl) (by kernel_rfl) (by kernel_rfl) (fun _ _ _ h => h) h6.out (by rfl) (fun w' hw' => by go_simp) ?_
            (intro K hK; go_simp; refine hK _ ?_; clear hK K)
            refine held_only (i := 10) rfl (by kernel_rfl) (by rfl) (fun K hK => ?_)
            refine wp_store_whole 28 (.tmp 10) (.tmp 44) rfl (wE.heap.size) ((noteCells H7 (.slice A0 m7 c0)).toArray) rfl rfl 28 (Z99) (bb.out) FN.out.size FN.out.zero FN.out.one ?_
            intro w99 B9 k9
            have b9 : Hid (Below wE.heap.size wE w99) := h6.out.trans (Kept.below_of k9 (s0.out.size) h6.out.size)
            replace hT := Lib.hid (hT.out.keptN bb.out k9)
            go_simp
            refine hK _ _ b9.out ?_
            clear hK K
            refine held_take (i := 11) (v := .int .i64 k7) rfl (by kernel_rfl) (by kernel_rfl) (by kernel_rfl) (fun _ _ _ h => h) b9.out (by rfl) (fun w' hw' => by first | go_simp | rfl) ?_
            (intro K hK; go_simp; refine hK _ ?_; clear hK K)
            refine held_end (by kernel_rfl) ?_
            go_wp2_with fail
            go_meet
            case rel => exact ⟨_, _, _, _, rfl, rfl, B9, hT.out, b9.out⟩
        case rest =>
          obtain ⟨mb, B0, A6, c6, rfl, rfl, hB6, hO6, hb6⟩ := hcut
          obtain ⟨w6, rfl⟩ : ∃ w6, w6 = wc := ⟨_, rfl⟩
          have G6 := Lib.hid (G5.out.below hb6.out)
          have N6 := Lib.hid (N5.out.below hb6.out)
          have M6 := Lib.hid (M5.out.below hb6.out)
          have P6 := Lib.hid (P5.out.below hb6.out)
          have R6 := Lib.hid (R5.out.below hb6.out (Tab.lt R5.out))
          have bb6 : Hid (Below w.heap.size w w6) := bb5.out.trans (hb6.out.mono bb5.out.size)
          have Q6 : Hid (NoteAt w6 mb H7 A6 m7 c6 r7) := ⟨hB6.out, (own_sgs hO6.out).1⟩
          have hn6 := Lib.hid (own_sgs hO6.out).2
          have O6 := hO6
          have kc6 := hcq.out w6 bb6.out
          clear G5 N5 M5 P5 R5 bb5 hB6 hO6 hb6 kc5
          go_upto_region 11 with (first
    | ((with_reducible change wpList _ _ _ ({ dst := some 50, op := _, type := _, pos := _, after := _, guard := _ } :: _) _ _); (with_reducible refine Veil.out ?_); refine wpList_rowW (o := ⟨some 50, _, _, _, _, _⟩) rfl 28 (.tmp 8) rfl (m8) rfl 28 ((noteCells H7 (.slice A4 m7 c4)).toArray) (0, 0) _ P6.out.blk Tryd.underlying28 rfl (zH.out _) ?_)
    | ((with_reducible change wpList _ _ _ ({ dst := some 51, op := _, type := _, pos := _, after := _, guard := _ } :: _) _ _); (with_reducible refine Veil.out ?_); refine wpList_rowW (o := ⟨some 51, _, _, _, _, _⟩) rfl 28 (.tmp 10) rfl (mb) rfl 28 ((noteCells H7 (.slice A6 m7 c6)).toArray) (0, 0) _ Q6.out.blk Tryd.underlying28 rfl (zH.out _) ?_)
    | (go_at_call 11; refine (sameNotes_any H7 okH.out r7 m7 (by have := hm16.out; omega) A4 A6 c4 c6 w6 P6.out.sgs Q6.out.sgs).mono ?_; rintro e w7 ⟨rfl, hb7⟩; have G7 := Lib.hid (G6.out.below hb7); have N7 := Lib.hid (N6.out.below hb7); have M7 := Lib.hid (M6.out.below hb7); have Q7 := Lib.hid (Q6.out.below hb7); have O7 := Lib.hid (O6.out.below hb7); have R7 := Lib.hid (R6.out.below hb7 (Tab.lt R6.out)); have bb7 : Hid (Below w.heap.size w w7) := bb6.out.trans (hb7.mono bb6.out.size); clear hb7 O6 G6 N6 M6 P6 Q6 R6 bb6 kc6)
    | ((with_reducible change wpList _ _ _ ({ dst := some 56, op := _, type := _, pos := _, after := _, guard := _ } :: _) _ _); (with_reducible refine Veil.out ?_); refine wpList_rowW (o := ⟨some 56, _, _, _, _, _⟩) rfl 28 (.tmp 6) rfl (m6) rfl 28 ((noteCells h (.slice (some ⟨g, 0, none⟩) n2 (n2 + 40))).toArray) (0, 0) _ M7.out.blk Tryd.underlying28 rfl (zN.out _) ?_)
    | ((with_reducible change wpList _ _ _ ({ dst := some 57, op := _, type := _, pos := _, after := _, guard := _ } :: _) _ _); (with_reducible refine Veil.out ?_); refine wpList_rowW (o := ⟨some 57, _, _, _, _, _⟩) rfl 28 (.tmp 2) rfl (w.heap.size) rfl 28 ((noteCells h (.slice A2 n2 c2)).toArray) (0, 0) _ N7.out.blk Tryd.underlying28 rfl (zN.out _) ?_)
    | (go_at_call 12; refine (kept_any h ok'.out ss2 n2 (by have := hn2.out; omega) g A2 c2 w7 G7.out N7.out.sgs).mono ?_; rintro e w8' ⟨rfl, hb8⟩; have N7' := Lib.hid (N7.out.below hb8); have Q7' := Lib.hid (Q7.out.below hb8); have O7' := Lib.hid (O7.out.below hb8); have R7' := Lib.hid (R7.out.below hb8 (Tab.lt R7.out)); have bb7' : Hid (Below w.heap.size w w8') := bb7.out.trans (hb8.mono bb7.out.size); have kc7 := hcq.out w8' bb7'.out; clear hb8 O7 G7 N7 M7 Q7 R7 bb7)
    | (go_at_call 13; refine (left_any q k hk.out (by have := hql.out; omega) gr Ak ck w8' R7'.out (hRq.out w8' bb7'.out)).mono ?_; rintro e w9' ⟨rfl, n9, rfl⟩; have hb9 : Below w8'.heap.size w8' (w8'.drewN n9) := below_drawn (Below.refl _ _) n9; have N8 := Lib.hid (N7'.out.below hb9); have Q8 := Lib.hid (Q7'.out.below hb9); have O8 := Lib.hid (O7'.out.below hb9); have bb8 : Hid (Below w.heap.size w (w8'.drewN n9)) := bb7'.out.trans (hb9.mono bb7'.out.size); clear hb9 O7' N7' Q7' R7' bb7' kc7; generalize w8'.drewN n9 = w8 at *))

          by_cases h70 : k7 = 0
          · obtain ⟨-, hHh⟩ := hsH.out (.slice A6 m7 c6) h70
            subst hHh h70
            go_wp2_with (first
    | (((with_reducible change wpList _ _ _ ({ dst := some 72, op := _, type := _, pos := _, after := _, guard := _ } :: _) _ _); refine wpList_load_row (o := ⟨some 72, _, _, _, _, _⟩) rfl 28 (.tmp 10) rfl (mb) rfl 28 ((noteCells H7 (.slice A6 m7 c6)).toArray) (0, 0) _ Q8.out.blk Tryd.underlying28 rfl (zH.out _) ?_))
    | ((with_reducible change wpList _ _ _ ({ dst := none, op := Op.store 28 (.tmp 2) (.tmp 72), type := _, pos := _, after := _, guard := _ } :: _) _ _); refine wpList_store_all (o := ⟨none, _, _, _, _, _⟩) rfl 28 (.tmp 2) (.tmp 72) rfl w.heap.size (noteCells H7 (.slice A6 m7 c6)).toArray rfl rfl 28 (noteCells H7 (.slice A2 n2 c2)).toArray N8.out.blk (zH.out _) (by rw [← s0N.out, ← sH.out]) (oH.out _ _ _) ?_; intro w9 hB9 hk9; have bb9 : Hid (Below w.heap.size w w9) := bb8.out.trans (Kept.below_of hk9 (Nat.le_refl _) bb8.out.size); have N9 : Hid (NoteAt w9 w.heap.size H7 A6 m7 c6 r7) := ⟨hB9.out, (own_sgs (O8.out.keptN N8.out.blk hk9)).1⟩; clear hk9 hB9))

            go_roundw
            case rel => exact ⟨i + 1, m7, c6, A6, r7, by go_num, hlt'.out, (by have := hm16.out; show _ ≤ _; omega), hn6.out, N9.out, bb9.out⟩
            case measure => (have := hlt'.out; simp [intOf]; omega)
          · have hk70 : (k7 == 0) = false := by simp; exact h70
            go_wp2_with fail
            go_roundw
            case rel => exact ⟨i + 1, n2, c2, A2, ss2, by go_num, hlt'.out, hn2.out, hn0.out, N8.out, bb8.out⟩
            case measure => (have := hlt'.out; simp [intOf]; omega)
      · have hz1 : ¬ ((i : Int) < 100) := by omega
        clear hlt hl1
        go_wp2_with fail
        go_ret
        exact ⟨rfl, hbe.out⟩
    · have hz : ¬ ((i : Int) < (p : Int)) := by omega
      clear hlt
      go_wp2_with fail
      go_ret
      exact ⟨rfl, hbe.out⟩
end Go.Proofs.YteelanamlhfmgaaDoor.HeadAdds
