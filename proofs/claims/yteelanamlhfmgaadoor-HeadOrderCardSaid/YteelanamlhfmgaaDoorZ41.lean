/-
  Texts of the claim, put into one file: Add, RefAdd, HeadAdds, Mixed.
-/
import Derived.Test.YteelanamlhfmgaaDoorZ39
import Derived.Test.YteelanamlhfmgaaDoorZ40
import Derived.Deep.Cut
import Derived.Test.YteelanamlhfmgaaDoorZ31
import Derived.Test.YteelanamlhfmgaaDoorZ32
import Derived.Test.YteelanamlhfmgaaDoorZ29
import Derived.Test.YteelanamlhfmgaaDoorZ5
import Derived.Test.YteelanamlhfmgaaDoorZ8
import Derived.Deep.CutRange
import Derived.Test.YteelanamlhfmgaaDoorZ12

namespace Go.Proofs.YteelanamlhfmgaaDoor.Add
open Go Go.RowKit Go.Proofs.YteelanamlhfmgaaDoor Go.Proofs.YteelanamlhfmgaaDoor.Mem Go.Proofs.YteelanamlhfmgaaDoor.Sha Go.Proofs.YteelanamlhfmgaaDoor.Bytes Go.Proofs.YteelanamlhfmgaaDoor.SortP Go.Proofs.YteelanamlhfmgaaDoor.NoteP Go.Proofs.YteelanamlhfmgaaDoor.Grown Go.Proofs.YteelanamlhfmgaaDoor.Want Go.Proofs.YteelanamlhfmgaaDoor.Append Go.Proofs.YteelanamlhfmgaaDoor.Own Go.Proofs.YteelanamlhfmgaaDoor.Rise Go.Proofs.YteelanamlhfmgaaDoor.SortM Go.Proofs.YteelanamlhfmgaaDoor.SgM Go.Proofs.YteelanamlhfmgaaDoor.HashMem Go.Proofs.YteelanamlhfmgaaDoor.HeadMem Go.Proofs.YteelanamlhfmgaaDoor.EncNoteP Go.Proofs.YteelanamlhfmgaaDoor.EncNote Go.Proofs.YteelanamlhfmgaaDoor.RowS Go.Proofs.YteelanamlhfmgaaDoor.NoteM Go.Proofs.YteelanamlhfmgaaDoor.RefNote Go.Proofs.YteelanamlhfmgaaDoor.Insert Go.Proofs.YteelanamlhfmgaaDoor.Bin Go.Proofs.YteelanamlhfmgaaDoor.Sign Go.Proofs.YteelanamlhfmgaaDoor.Signs Go.Proofs.YteelanamlhfmgaaDoor.AddP Go.Proofs.YteelanamlhfmgaaDoor.Rising0 Go.Proofs.YteelanamlhfmgaaDoor.Decode Go.Proofs.YteelanamlhfmgaaDoor.HeadTake Go.Proofs.YteelanamlhfmgaaDoor.Fill

theorem size26 : (Tryd.prog.info? 43).map (·.size) = some 64 := by kernel_rfl
theorem zero26 : ((Tryd.prog.info? 43).bind (·.zero)).isSome = true := by kernel_rfl
theorem own_off {S : Nat → Prop} {w w' : World} {B n : Nat} {v : Value} {ds : List Text} (h : OwnS w B v n ds) (hk : Kept S w w') (hS : ∀ k, S k → k < B) : OwnS w' B v n ds := by
  obtain ⟨h1, h2, hFl, hown⟩ := h
  refine ⟨h1, h2, hFl, ?_⟩
  rcases hown with h | ⟨g, c, cur, hv, hBg, hg, hnc, hcm, hcs, htk⟩
  · exact .inl h
  · exact .inr ⟨g, c, cur, hv, hBg, Blk.kept hg hk (fun x => by have := hS g x; omega), hnc, hcm, hcs, htk⟩
def AddYes (ss : List Text) (s : Text) (h : HeadD) (w : World) (e : Ending) (w' : World) : Prop := ∃ V k2 o, e = .returned (.tuple #[V, .int .i64 k2]) ∧ Below w.heap.size w w' ∧ Hid (addFin ss s = (o, k2)) ∧ AddPost w.heap.size w' h V o
theorem one_flat (xs : List Value) : ([xs].flatten) = xs := by simp

set_option maxRecDepth 100000 in
set_option maxHeartbeats 4000000 in
theorem add_refused (h : HeadD) (ok : h.Ok) (ss : List Text) (n : Nat) (hn47 : n ≤ 1099511627776) (A : Option Addr) (c : Nat) (hnil : A = none → n = 0 ∧ c = 0) (q : Text) (k : Nat) (hk : q.length = k) (Ak : Option Addr) (ck : Nat) (hkc : k ≤ ck) (hkn : Ak = none → k = 0 ∧ ck = 0) (s : Text) (hs : Hid ((signAns h q).1 = s)) (k1 : Int) (hk1 : Hid ((signAns h q).2 = k1)) (hk0 : ¬ k1 = 0) (w : World) (hB : Base w) (hS : Sgs w A n ss) (hq : Reads w 1 Ak k (cells8 q)) :
    Calls Tryd.prog 9 #[.agg (noteCells h (.slice A n c)).toArray, .slice Ak k ck] w fun e w' => e = .returned (.tuple #[.agg Z99, .int .i64 k1]) ∧ Below w.heap.size w w' := by
  have ok' := Lib.hid ok
  have hn7 := Lib.hid hn47
  have hnl := Lib.hid hnil
  have hk' := Lib.hid hk
  have hkc' := Lib.hid hkc
  have hkn' := Lib.hid hkn
  have hs64 : Hid (s.length = 64) := by show _ = _; rw [← hs.out]; exact signAns_len h q
  obtain ⟨w0, hw0⟩ : ∃ w0, Hid ((w.alloc (.cells (noteCells h (.slice A n c)).toArray 28)).alloc (.cells Z99 28) = w0) := ⟨_, Lib.hid rfl⟩
  have D0 : Hid (AD w w0 h A n c) := by show AD _ _ _ _ _ _; rw [← hw0.out]; exact AD.new
  have hw0' : (w.alloc (.cells (noteCells h (.slice A n c)).toArray 28)).alloc (.cells Tryd.zeroCells28 28) = w0 := hw0.out
  have hS0 : Hid (∀ w', Below w.heap.size w w' → Sgs w' A n ss) := fun w' hb => hS.below hb
  have hq0 : Hid (∀ w', Below w.heap.size w w' → Reads w' 1 Ak k (cells8 q)) := fun w' hb => hq.below hb
  have hBs : Hid (∀ w', Below w.heap.size w w' → Base w') := fun w' hb => hB.below hb hB.1
  have hsz : Hid ((Tryd.prog.info? 25).map (·.size) = some (headCells h).length) := by show _ = _; rw [headCells_len ok]; exact size98
  have s1 := Lib.hid (sign_size s hs64.out)
  have s2 := Lib.hid (sign_zero s hs64.out)
  have s3 := Lib.hid (sign_one s)
  have z1 := Lib.hid (fun v => note_size ok v)
  have z2 := Lib.hid (fun v => note_zero ok v)
  have z3 := Lib.hid (fun A n c => note_one (h := h) A n c)
  have hbn := Lib.hid (fun A n c w' => run_note ok A n c w')
  clear hw0 ok hnil hk hkc hkn hB hS hq hn47
  go_enter Tryd.func9, Tryd.ntmps9
  go_wp2_with (first
    | (((with_reducible change wpList _ _ _ ({ dst := some 14, op := _, type := _, pos := _, after := _, guard := _ } :: _) _ _); refine wpList_load_part (o := ⟨some 14, _, _, _, _, _⟩) rfl 25 (.tmp 13) rfl (w.heap.size) (0) rfl (headCells h) _ D0.out.head Tryd.underlying25 rfl hsz.out ?_))
    | (go_at_call 23; refine (headSign_any h ok'.out q k hk'.out Ak ck w0 (hBs.out w0 D0.out.far) (hq0.out w0 D0.out.far) hkc'.out hkn'.out).mono ?_; rw [hs.out, hk1.out]; rintro e w1 ⟨rfl, hb1⟩; have D1 := Lib.hid (D0.out.below hb1); clear hb1 D0)
    | ((with_reducible change wpList _ _ _ ({ dst := none, op := Op.store 43 (.tmp 6) (.tmp 17), type := _, pos := _, after := _, guard := _ } :: _) _ _); refine wpList_store_all (o := ⟨none, _, _, _, _, _⟩) rfl 43 (.tmp 6) (.tmp 17) rfl w1.heap.size (cells8 s).toArray rfl rfl 43 Z64 (Blk.new w1 _ _) s1.out s2.out s3.out ?_; intro w2 hB2 hk2; have D2 := Lib.hid (D1.out.below (Held.kept_fresh hk2)); have S2 : Hid (Blk w2 w1.heap.size 43 (cells8 s).toArray) := hB2; have hg1 : Hid (w.heap.size + 1 < w1.heap.size) := D1.out.size; clear hk2 hB2 D1; generalize w1.heap.size = gs at *; have r2 := D2.out.row ok'.out)
    | ((with_reducible change wpList _ _ _ ({ dst := none, op := Op.store 28 (.tmp 4) (.tmp 21), type := _, pos := _, after := _, guard := _ } :: _) _ _); refine wpList_store_row (o := ⟨none, _, _, _, _, _⟩) rfl 28 (.tmp 4) (.tmp 21) rfl (w.heap.size + 1) Z99 rfl rfl 28 Z99 D2.out.res size99' rfl one99 ?_))
  refine bodyPost_ret (results_cell_row2 rfl _ _ (w.heap.size + 1) 28 Z99 (0, 0) _ rfl (setRow_heap _ _ _ _ _ _ D2.out.res) Tryd.underlying28 rfl size99') rfl ?_
  exact ⟨rfl, below_setRow D2.out.far (by omega) _⟩

set_option maxRecDepth 100000 in
set_option maxHeartbeats 4000000 in
theorem add_twice (h : HeadD) (ok : h.Ok) (ss : List Text) (n : Nat) (hn47 : n ≤ 1099511627776) (A : Option Addr) (c : Nat) (hnil : A = none → n = 0 ∧ c = 0) (q : Text) (k : Nat) (hk : q.length = k) (Ak : Option Addr) (ck : Nat) (hkc : k ≤ ck) (hkn : Ak = none → k = 0 ∧ ck = 0) (s : Text) (hs : Hid ((signAns h q).1 = s)) (k1 : Int) (hk1 : Hid ((signAns h q).2 = k1)) (hk0 : k1 = 0) (hno : Hid (rising kyS ss = none)) (w : World) (hB : Base w) (hS : Sgs w A n ss) (hq : Reads w 1 Ak k (cells8 q)) :
    Calls Tryd.prog 9 #[.agg (noteCells h (.slice A n c)).toArray, .slice Ak k ck] w fun e w' => e = .returned (.tuple #[.agg Z99, .int .i64 92]) ∧ Below w.heap.size w w' := by
  have ok' := Lib.hid ok
  have hn7 := Lib.hid hn47
  have hnl := Lib.hid hnil
  have hk' := Lib.hid hk
  have hkc' := Lib.hid hkc
  have hkn' := Lib.hid hkn
  have hs64 : Hid (s.length = 64) := by show _ = _; rw [← hs.out]; exact signAns_len h q
  obtain ⟨w0, hw0⟩ : ∃ w0, Hid ((w.alloc (.cells (noteCells h (.slice A n c)).toArray 28)).alloc (.cells Z99 28) = w0) := ⟨_, Lib.hid rfl⟩
  have D0 : Hid (AD w w0 h A n c) := by show AD _ _ _ _ _ _; rw [← hw0.out]; exact AD.new
  have hw0' : (w.alloc (.cells (noteCells h (.slice A n c)).toArray 28)).alloc (.cells Tryd.zeroCells28 28) = w0 := hw0.out
  have hS0 : Hid (∀ w', Below w.heap.size w w' → Sgs w' A n ss) := fun w' hb => hS.below hb
  have hq0 : Hid (∀ w', Below w.heap.size w w' → Reads w' 1 Ak k (cells8 q)) := fun w' hb => hq.below hb
  have hBs : Hid (∀ w', Below w.heap.size w w' → Base w') := fun w' hb => hB.below hb hB.1
  have hsz : Hid ((Tryd.prog.info? 25).map (·.size) = some (headCells h).length) := by show _ = _; rw [headCells_len ok]; exact size98
  have s1 := Lib.hid (sign_size s hs64.out)
  have s2 := Lib.hid (sign_zero s hs64.out)
  have s3 := Lib.hid (sign_one s)
  have z1 := Lib.hid (fun v => note_size ok v)
  have z2 := Lib.hid (fun v => note_zero ok v)
  have z3 := Lib.hid (fun A n c => note_one (h := h) A n c)
  have hbn := Lib.hid (fun A n c w' => run_note ok A n c w')
  clear hw0 ok hnil hk hkc hkn hB hS hq hn47
  subst hk0
  go_enter Tryd.func9, Tryd.ntmps9
  go_wp2_with (first
    | (((with_reducible change wpList _ _ _ ({ dst := some 14, op := _, type := _, pos := _, after := _, guard := _ } :: _) _ _); refine wpList_load_part (o := ⟨some 14, _, _, _, _, _⟩) rfl 25 (.tmp 13) rfl (w.heap.size) (0) rfl (headCells h) _ D0.out.head Tryd.underlying25 rfl hsz.out ?_))
    | (go_at_call 23; refine (headSign_any h ok'.out q k hk'.out Ak ck w0 (hBs.out w0 D0.out.far) (hq0.out w0 D0.out.far) hkc'.out hkn'.out).mono ?_; rw [hs.out, hk1.out]; rintro e w1 ⟨rfl, hb1⟩; have D1 := Lib.hid (D0.out.below hb1); clear hb1 D0)
    | ((with_reducible change wpList _ _ _ ({ dst := none, op := Op.store 43 (.tmp 6) (.tmp 17), type := _, pos := _, after := _, guard := _ } :: _) _ _); refine wpList_store_all (o := ⟨none, _, _, _, _, _⟩) rfl 43 (.tmp 6) (.tmp 17) rfl w1.heap.size (cells8 s).toArray rfl rfl 43 Z64 (Blk.new w1 _ _) s1.out s2.out s3.out ?_; intro w2 hB2 hk2; have D2 := Lib.hid (D1.out.below (Held.kept_fresh hk2)); have S2 : Hid (Blk w2 w1.heap.size 43 (cells8 s).toArray) := hB2; have hg1 : Hid (w.heap.size + 1 < w1.heap.size) := D1.out.size; clear hk2 hB2 D1; generalize w1.heap.size = gs at *; have r2 := D2.out.row ok'.out)
    | (go_at_call 26; refine (rising_all ss n (by have := hn7.out; omega) A c w2 (hS0.out w2 D2.out.far) hnl.out).mono ?_; rintro e w3 ⟨A1, c1, ds, rfl, hri, hO3, hb3⟩; have D3 := Lib.hid (D2.out.below hb3.out); have S3 : Hid (Blk w3 gs 43 (cells8 s).toArray) := (hb3.out.block _ S2.out.lt).trans S2.out; rw [hno.out] at hri; have hr0 := none_no hri.out; rw [hr0]; clear hri)
    | ((with_reducible change wpList _ _ _ ({ dst := none, op := Op.store 28 (.tmp 4) (.tmp 31), type := _, pos := _, after := _, guard := _ } :: _) _ _); refine wpList_store_row (o := ⟨none, _, _, _, _, _⟩) rfl 28 (.tmp 4) (.tmp 31) rfl (w.heap.size + 1) Z99 rfl rfl 28 Z99 D3.out.res size99' rfl one99 ?_))
  refine bodyPost_ret (results_cell_row2 rfl _ _ (w.heap.size + 1) 28 Z99 (0, 0) _ rfl (setRow_heap _ _ _ _ _ _ D3.out.res) Tryd.underlying28 rfl size99') rfl ?_
  exact ⟨rfl, below_setRow D3.out.far (by omega) _⟩

set_option maxRecDepth 100000 in
set_option maxHeartbeats 4000000 in
theorem add_yes (h : HeadD) (ok : h.Ok) (ss : List Text) (n : Nat) (hn47 : n ≤ 1099511627776) (A : Option Addr) (c : Nat) (hnil : A = none → n = 0 ∧ c = 0) (q : Text) (k : Nat) (hk : q.length = k) (Ak : Option Addr) (ck : Nat) (hkc : k ≤ ck) (hkn : Ak = none → k = 0 ∧ ck = 0) (s : Text) (hs : Hid ((signAns h q).1 = s)) (k1 : Int) (hk1 : Hid ((signAns h q).2 = k1)) (hk0 : k1 = 0) (rs : List Text) (hrs : Hid (rising kyS ss = some rs)) (w : World) (hB : Base w) (hS : Sgs w A n ss) (hq : Reads w 1 Ak k (cells8 q)) :
    Calls Tryd.prog 9 #[.agg (noteCells h (.slice A n c)).toArray, .slice Ak k ck] w fun e w' => AddYes ss s h w e w' := by
  have ok' := Lib.hid ok
  have hn7 := Lib.hid hn47
  have hnl := Lib.hid hnil
  have hk' := Lib.hid hk
  have hkc' := Lib.hid hkc
  have hkn' := Lib.hid hkn
  have hs64 : Hid (s.length = 64) := by show _ = _; rw [← hs.out]; exact signAns_len h q
  obtain ⟨w0, hw0⟩ : ∃ w0, Hid ((w.alloc (.cells (noteCells h (.slice A n c)).toArray 28)).alloc (.cells Z99 28) = w0) := ⟨_, Lib.hid rfl⟩
  have D0 : Hid (AD w w0 h A n c) := by show AD _ _ _ _ _ _; rw [← hw0.out]; exact AD.new
  have hw0' : (w.alloc (.cells (noteCells h (.slice A n c)).toArray 28)).alloc (.cells Tryd.zeroCells28 28) = w0 := hw0.out
  have hS0 : Hid (∀ w', Below w.heap.size w w' → Sgs w' A n ss) := fun w' hb => hS.below hb
  have hq0 : Hid (∀ w', Below w.heap.size w w' → Reads w' 1 Ak k (cells8 q)) := fun w' hb => hq.below hb
  have hBs : Hid (∀ w', Below w.heap.size w w' → Base w') := fun w' hb => hB.below hb hB.1
  have hsz : Hid ((Tryd.prog.info? 25).map (·.size) = some (headCells h).length) := by show _ = _; rw [headCells_len ok]; exact size98
  have s1 := Lib.hid (sign_size s hs64.out)
  have s2 := Lib.hid (sign_zero s hs64.out)
  have s3 := Lib.hid (sign_one s)
  have z1 := Lib.hid (fun v => note_size ok v)
  have z2 := Lib.hid (fun v => note_zero ok v)
  have z3 := Lib.hid (fun A n c => note_one (h := h) A n c)
  have hbn := Lib.hid (fun A n c w' => run_note ok A n c w')
  clear hw0 ok hnil hk hkc hkn hB hS hq hn47
  subst hk0
  have hrsl := Lib.hid (rising_some hrs.out)
  go_enter Tryd.func9, Tryd.ntmps9
  go_upto_region 8 with (first
    | (((with_reducible change wpList _ _ _ ({ dst := some 14, op := _, type := _, pos := _, after := _, guard := _ } :: _) _ _); refine wpList_load_part (o := ⟨some 14, _, _, _, _, _⟩) rfl 25 (.tmp 13) rfl (w.heap.size) (0) rfl (headCells h) _ D0.out.head Tryd.underlying25 rfl hsz.out ?_))
    | (go_at_call 23; refine (headSign_any h ok'.out q k hk'.out Ak ck w0 (hBs.out w0 D0.out.far) (hq0.out w0 D0.out.far) hkc'.out hkn'.out).mono ?_; rw [hs.out, hk1.out]; rintro e w1 ⟨rfl, hb1⟩; have D1 := Lib.hid (D0.out.below hb1); clear hb1 D0)
    | ((with_reducible change wpList _ _ _ ({ dst := none, op := Op.store 43 (.tmp 6) (.tmp 17), type := _, pos := _, after := _, guard := _ } :: _) _ _); refine wpList_store_all (o := ⟨none, _, _, _, _, _⟩) rfl 43 (.tmp 6) (.tmp 17) rfl w1.heap.size (cells8 s).toArray rfl rfl 43 Z64 (Blk.new w1 _ _) s1.out s2.out s3.out ?_; intro w2 hB2 hk2; have D2 := Lib.hid (D1.out.below (Held.kept_fresh hk2)); have S2 : Hid (Blk w2 w1.heap.size 43 (cells8 s).toArray) := hB2; have hg1 : Hid (w.heap.size + 1 < w1.heap.size) := D1.out.size; clear hk2 hB2 D1; generalize w1.heap.size = gs at *; have r2 := D2.out.row ok'.out)
    | (go_at_call 26; refine (rising_all ss n (by have := hn7.out; omega) A c w2 (hS0.out w2 D2.out.far) hnl.out).mono ?_; rintro e w3 ⟨A1, c1, ds, rfl, hri, hO3, hb3⟩; have D3 := Lib.hid (D2.out.below hb3.out); have S3 : Hid (Blk w3 gs 43 (cells8 s).toArray) := (hb3.out.block _ S2.out.lt).trans S2.out; rw [hrs.out] at hri; obtain ⟨hr0, rfl⟩ := some_yes hri.out; rw [hr0]; clear hri; have hSg3 : Hid (Sgs w3 A1 n rs) := (by obtain ⟨A9, c9, e9, -, -, -, x, -⟩ := hO3.out.reads; injection e9 with e9 _ e10; subst e9 e10; exact x); have hg2 : Hid (w.heap.size + 1 < w2.heap.size ∧ gs < w2.heap.size) := ⟨D2.out.size, S2.out.lt⟩; have hb3s : Hid (w2.heap.size ≤ w3.heap.size) := hb3.out.size; clear D2 S2 hb3; generalize w2.heap.size = B2 at *)
    | (((with_reducible change wpList _ _ _ ({ dst := some 34, op := _, type := _, pos := _, after := _, guard := _ } :: _) _ _); refine wpList_load_row (o := ⟨some 34, _, _, _, _, _⟩) rfl 43 (.tmp 6) rfl (gs) rfl 43 ((cells8 s).toArray) (0, 0) _ S3.out Tryd.underlying43 rfl s1.out ?_))
    | (go_at_call 27; refine (bin_any rs n hn7.out hrsl.out.1 s hs64.out A1 c1 w3 hSg3.out).mono ?_; rintro e w4 ⟨i, f, rfl, hAt, hb4⟩; have D4 := Lib.hid (D3.out.below hb4); have S4 : Hid (Blk w4 gs 43 (cells8 s).toArray) := (hb4.block _ S3.out.lt).trans S3.out; have hO4 := Lib.hid (hO3.out.below hb4); replace hAt := Lib.hid hAt; have hb34 : Hid (B2 ≤ w4.heap.size) := (by have := hb3s.out; have := hb4.size; show _ ≤ _; omega); clear hb4 S3 D3 hO3 hSg3))
  have hrl : Hid (rs.length = n) := hO4.out.2.1
  have hBw : Hid (w.heap.size ≤ B2) := by show _ ≤ _; have := hg2.out.1; omega
  have hsl : Hid (B2 ≤ w4.heap.size) := hb34.out
  cases f with
  | true =>
    obtain ⟨hr5, hm5, hi5⟩ := add_found hrs.out hAt.out
    rw [hrl.out] at hm5 hi5
    replace hr5 := Lib.hid hr5
    replace hm5 := Lib.hid hm5
    have hz1 : (i : Int) < (n : Int) := by omega
    have hz0 : (0 : Int) ≤ (i : Int) := by omega
    have hi5' := Lib.hid hi5
    obtain ⟨gr, hgr⟩ := own_some hO4.out (by omega)
    subst hgr
    obtain ⟨hBg, cur, hBc, hfit, hset⟩ := own_set hO4.out hi5 hs64.out
    replace hBg := Lib.hid hBg
    replace hBc := Lib.hid hBc
    replace hfit := Lib.hid hfit
    replace hset := Lib.hid hset
    clear hi5
    go_upto_region 11 with (first
    | (((with_reducible change wpList _ _ _ ({ dst := some 41, op := _, type := _, pos := _, after := _, guard := _ } :: _) _ _); refine wpList_load_row (o := ⟨some 41, _, _, _, _, _⟩) rfl 43 (.tmp 6) rfl (gs) rfl 43 ((cells8 s).toArray) (0, 0) _ S4.out Tryd.underlying43 rfl s1.out ?_))
    | ((with_reducible change wpList _ _ _ ({ dst := none, op := Op.store 43 (.tmp 42) (.tmp 41), type := _, pos := _, after := _, guard := _ } :: _) _ _); refine wpList_store_at (o := ⟨none, _, _, _, _, _⟩) rfl 43 (.tmp 42) (.tmp 41) rfl gr (i * 64) (cells8 s) rfl rfl 43 cur hBc.out (size26.trans (congrArg some (by rw [cells8_len, hs64.out]))) hfit.out (cells8_one _) ?_; intro w5 hB5 hk5; have hO5 := Lib.hid (hset.out w5 hB5.out); have D5 := Lib.hid (D4.out.on hg2.out.1 (Kept.below_of hk5 hBg.out hsl.out)); clear hk5 hB5 D4 S4 hO4 hBc hset))
    by_cases h16 : 16 < n
    · have x6 : (16 : Int) < ((n : Nat) : Int) := by omega
      go_wp2_with ((with_reducible change wpList _ _ _ ({ dst := none, op := Op.store 28 (.tmp 4) (.tmp 51), type := _, pos := _, after := _, guard := _ } :: _) _ _); refine wpList_store_row (o := ⟨none, _, _, _, _, _⟩) rfl 28 (.tmp 4) (.tmp 51) rfl (w.heap.size + 1) Z99 rfl rfl 28 Z99 D5.out.res size99' rfl one99 ?_)
      refine bodyPost_ret (results_cell_row2 rfl _ _ (w.heap.size + 1) 28 Z99 (0, 0) _ rfl (setRow_heap _ _ _ _ _ _ D5.out.res) Tryd.underlying28 rfl size99') rfl ?_
      exact ⟨_, _, none, rfl, below_setRow D5.out.far (by omega) _, fin_many hm5.out h16, rfl⟩
    · have x6 : ¬ ((16 : Int) < ((n : Nat) : Int)) := by omega
      obtain ⟨NC, hNC⟩ : ∃ NC, Hid ((noteCells h (.slice (some ⟨gr, 0, none⟩) (n) c1)).toArray = NC) := ⟨_, Lib.hid rfl⟩
      have y1 := z1.out (.slice (some ⟨gr, 0, none⟩) (n) c1)
      have y2 := z2.out (.slice (some ⟨gr, 0, none⟩) (n) c1)
      have y3 := z3.out (some ⟨gr, 0, none⟩) (n) c1
      have y4 := Lib.hid (fun w' => hbn.out (some ⟨gr, 0, none⟩) (n) c1 w')
      rw [hNC.out] at y1 y2 y3 y4
      replace y1 := Lib.hid y1
      replace y2 := Lib.hid y2
      replace y3 := Lib.hid y3
      go_wp2_with (first
        | (((with_reducible change wpList _ _ _ ({ dst := some 53, op := _, type := _, pos := _, after := _, guard := _ } :: _) _ _); refine wpList_load_part (o := ⟨some 53, _, _, _, _, _⟩) rfl 25 (.tmp 52) rfl (w.heap.size) (0) rfl (headCells h) _ D5.out.head Tryd.underlying25 rfl hsz.out ?_))
        | ((with_reducible change wpList _ _ _ ({ dst := some 55, op := _, type := _, pos := _, after := _, guard := _ } :: _) _ _); refine wpList_buildF (o := ⟨some 55, _, _, _, _, _⟩) rfl 28 #[(0, .tmp 53), (1, .tmp 54)] rfl #[(0, .agg (headCells h).toArray), (1, .slice (some ⟨gr, 0, none⟩) (n) c1)] (by simp; exact ⟨rfl, rfl⟩) _ (y4.out _) ?_)
        | ((with_reducible change wpList _ _ _ ({ dst := none, op := Op.store 28 (.tmp 4) (.tmp 55), type := _, pos := _, after := _, guard := _ } :: _) _ _); refine wpList_store_all (o := ⟨none, _, _, _, _, _⟩) rfl 28 (.tmp 4) (.tmp 55) rfl (w.heap.size + 1) NC rfl rfl 28 Z99 D5.out.res y1.out y2.out y3.out ?_; intro w9 hB9 hk9; have hO9 := Lib.hid (own_off hO5.out hk9 (by intro k e; have := hg2.out.1; omega)); have hb9 : Hid (Below w.heap.size w w9) := D5.out.far.trans (Kept.below_of hk9 (by omega) D5.out.far.size); have hR9 := hB9; clear hk9 hB9))
      refine bodyPost_ret (results_cell_row2 rfl _ _ (w.heap.size + 1) 28 NC (0, 0) _ rfl hR9.out Tryd.underlying28 rfl y1.out) rfl ?_
      exact ⟨_, _, some (rs.set i s), rfl, hb9.out, fin_some hm5.out h16 hr5.out, (some ⟨gr, 0, none⟩), c1, by rw [hO5.out.2.1, ← hNC.out], by rw [hO5.out.2.1]; exact hO9.out.base hBw.out⟩
  | false =>
    obtain ⟨hr5, hm5⟩ := add_new hrs.out hAt.out
    rw [hrl.out] at hm5
    replace hr5 := Lib.hid hr5
    replace hm5 := Lib.hid hm5
    have hin : Hid (i ≤ n) := by show _ ≤ _; rw [← hrl.out]; exact hAt.out.le
    have hA1 : Hid (A1 ≠ some ⟨w4.heap.size, 0, none⟩) := fun e => by
      rcases hO4.out.2.2.2 with ⟨x, -⟩ | ⟨g9, c9, cur9, x, -, hg9, -⟩
      · injection x with x
        rw [e] at x; cases x
      · injection x with x
        rw [e] at x
        injection x with x
        injection x with x
        have := Blk.lt hg9
        omega
    go_upto_region 11 with (first
    | (((with_reducible change wpList _ _ _ ({ dst := some 45, op := _, type := _, pos := _, after := _, guard := _ } :: _) _ _); refine wpList_load_row (o := ⟨some 45, _, _, _, _, _⟩) rfl 43 (.tmp 6) rfl (gs) rfl 43 ((cells8 s).toArray) (0, 0) _ S4.out Tryd.underlying43 rfl s1.out ?_))
    | ((with_reducible change wpList _ _ _ ({ dst := some 46, op := _, type := _, pos := _, after := _, guard := _ } :: _) _ _); refine wpList_buildAggs (o := ⟨some 46, _, _, _, _, _⟩) rfl 26 43 1 _ rfl 64 (by decide) [cells8 s] Tryd.underlying26 size26 zero26 rfl (by decide) (by decide) (by intro v hv; simp only [List.mem_cons, List.not_mem_nil, or_false] at hv; rw [hv, cells8_len, hs64.out]) rfl ?_; rw [one_flat])
    | (go_at_call 29; refine (insert_any rs n i hn7.out hin.out s hs64.out A1 c1 B2 w4.heap.size _ (hO4.out.below (Below.heap_below w4 _)) (Blk.new w4 _ _) hA1.out (by simp; have := hsl.out; omega)).mono ?_; rintro e w5 ⟨v, rfl, hO5, hb5⟩; have D5 := Lib.hid ((D4.out.below (Below.heap_below w4 _)).on hg2.out.1 hb5); obtain ⟨A9, c9, rfl, -⟩ := hO5.reads; replace hO5 := Lib.hid hO5; clear hb5 D4 S4 hO4))
    by_cases h16 : 16 < n + 1
    · have x6 : (16 : Int) < ((n + 1 : Nat) : Int) := by omega
      go_wp2_with ((with_reducible change wpList _ _ _ ({ dst := none, op := Op.store 28 (.tmp 4) (.tmp 51), type := _, pos := _, after := _, guard := _ } :: _) _ _); refine wpList_store_row (o := ⟨none, _, _, _, _, _⟩) rfl 28 (.tmp 4) (.tmp 51) rfl (w.heap.size + 1) Z99 rfl rfl 28 Z99 D5.out.res size99' rfl one99 ?_)
      refine bodyPost_ret (results_cell_row2 rfl _ _ (w.heap.size + 1) 28 Z99 (0, 0) _ rfl (setRow_heap _ _ _ _ _ _ D5.out.res) Tryd.underlying28 rfl size99') rfl ?_
      exact ⟨_, _, none, rfl, below_setRow D5.out.far (by omega) _, fin_many hm5.out h16, rfl⟩
    · have x6 : ¬ ((16 : Int) < ((n + 1 : Nat) : Int)) := by omega
      obtain ⟨NC, hNC⟩ : ∃ NC, Hid ((noteCells h (.slice A9 (n + 1) c9)).toArray = NC) := ⟨_, Lib.hid rfl⟩
      have y1 := z1.out (.slice A9 (n + 1) c9)
      have y2 := z2.out (.slice A9 (n + 1) c9)
      have y3 := z3.out A9 (n + 1) c9
      have y4 := Lib.hid (fun w' => hbn.out A9 (n + 1) c9 w')
      rw [hNC.out] at y1 y2 y3 y4
      replace y1 := Lib.hid y1
      replace y2 := Lib.hid y2
      replace y3 := Lib.hid y3
      go_wp2_with (first
        | (((with_reducible change wpList _ _ _ ({ dst := some 53, op := _, type := _, pos := _, after := _, guard := _ } :: _) _ _); refine wpList_load_part (o := ⟨some 53, _, _, _, _, _⟩) rfl 25 (.tmp 52) rfl (w.heap.size) (0) rfl (headCells h) _ D5.out.head Tryd.underlying25 rfl hsz.out ?_))
        | ((with_reducible change wpList _ _ _ ({ dst := some 55, op := _, type := _, pos := _, after := _, guard := _ } :: _) _ _); refine wpList_buildF (o := ⟨some 55, _, _, _, _, _⟩) rfl 28 #[(0, .tmp 53), (1, .tmp 54)] rfl #[(0, .agg (headCells h).toArray), (1, .slice A9 (n + 1) c9)] (by simp; exact ⟨rfl, rfl⟩) _ (y4.out _) ?_)
        | ((with_reducible change wpList _ _ _ ({ dst := none, op := Op.store 28 (.tmp 4) (.tmp 55), type := _, pos := _, after := _, guard := _ } :: _) _ _); refine wpList_store_all (o := ⟨none, _, _, _, _, _⟩) rfl 28 (.tmp 4) (.tmp 55) rfl (w.heap.size + 1) NC rfl rfl 28 Z99 D5.out.res y1.out y2.out y3.out ?_; intro w9 hB9 hk9; have hO9 := Lib.hid (own_off hO5.out hk9 (by intro k e; have := hg2.out.1; omega)); have hb9 : Hid (Below w.heap.size w w9) := D5.out.far.trans (Kept.below_of hk9 (by omega) D5.out.far.size); have hR9 := hB9; clear hk9 hB9))
      refine bodyPost_ret (results_cell_row2 rfl _ _ (w.heap.size + 1) 28 NC (0, 0) _ rfl hR9.out Tryd.underlying28 rfl y1.out) rfl ?_
      exact ⟨_, _, some (mid rs i s), rfl, hb9.out, fin_some hm5.out h16 hr5.out, A9, c9, by rw [hO5.out.2.1, ← hNC.out], by rw [hO5.out.2.1]; exact hO9.out.base hBw.out⟩

def AddOut (h : HeadD) (ss : List Text) (q : Text) (w : World) (e : Ending) (w' : World) : Prop := ∃ V, e = .returned (.tuple #[V, .int .i64 (addAns h ss q).2]) ∧ Below w.heap.size w w' ∧ AddPost w.heap.size w' h V (addAns h ss q).1
theorem out_refused {h : HeadD} {ss : List Text} {q : Text} {w w' : World} {e : Ending} {k1 : Int} (hk : (signAns h q).2 = k1) (hk0 : ¬ k1 = 0) (he : e = .returned (.tuple #[.agg Z99, .int .i64 k1])) (hb : Below w.heap.size w w') : AddOut h ss q w e w' := by
  have : addAns h ss q = (none, k1) := by unfold addAns; rw [hk, if_neg hk0]
  exact ⟨_, by rw [this]; exact he, hb, by rw [this]; exact rfl⟩
theorem out_twice {h : HeadD} {ss : List Text} {q : Text} {w w' : World} {e : Ending} (hk : (signAns h q).2 = 0) (hr : rising kyS ss = none) (he : e = .returned (.tuple #[.agg Z99, .int .i64 92])) (hb : Below w.heap.size w w') : AddOut h ss q w e w' := by
  have : addAns h ss q = (none, 92) := by unfold addAns; rw [if_pos hk, hr]; rfl
  exact ⟨_, by rw [this]; exact he, hb, by rw [this]; exact rfl⟩
theorem out_yes {h : HeadD} {ss rs : List Text} {q : Text} {w w' : World} {e : Ending} (hk : (signAns h q).2 = 0) (hr : rising kyS ss = some rs) (hy : AddYes ss (signAns h q).1 h w e w') : AddOut h ss q w e w' := by
  obtain ⟨V, k2, o, he, hb, hf, hp⟩ := hy
  have : addAns h ss q = (o, k2) := by unfold addAns; rw [if_pos hk, hr, ← hf.out]; rfl
  exact ⟨V, by rw [this]; exact he, hb, by rw [this]; exact hp⟩
theorem add_any (h : HeadD) (ok : h.Ok) (ss : List Text) (n : Nat) (hn47 : n ≤ 1099511627776) (A : Option Addr) (c : Nat) (hnil : A = none → n = 0 ∧ c = 0) (q : Text) (k : Nat) (hk : q.length = k) (Ak : Option Addr) (ck : Nat) (hkc : k ≤ ck) (hkn : Ak = none → k = 0 ∧ ck = 0) (w : World) (hB : Base w) (hS : Sgs w A n ss) (hq : Reads w 1 Ak k (cells8 q)) :
    Calls Tryd.prog 9 #[.agg (noteCells h (.slice A n c)).toArray, .slice Ak k ck] w (AddOut h ss q w) := by
  by_cases h0 : (signAns h q).2 = 0
  · cases hr : rising kyS ss with
    | none => exact (add_twice h ok ss n hn47 A c hnil q k hk Ak ck hkc hkn _ rfl _ rfl h0 hr w hB hS hq).mono fun e w' ⟨he, hb⟩ => out_twice h0 hr he hb
    | some rs => exact (add_yes h ok ss n hn47 A c hnil q k hk Ak ck hkc hkn _ rfl _ rfl h0 rs hr w hB hS hq).mono fun e w' hy => out_yes h0 hr hy
  · exact (add_refused h ok ss n hn47 A c hnil q k hk Ak ck hkc hkn _ rfl _ rfl h0 w hB hS hq).mono fun e w' ⟨he, hb⟩ => out_refused rfl h0 he hb
end Go.Proofs.YteelanamlhfmgaaDoor.Add

namespace Go.Proofs.YteelanamlhfmgaaDoor.RefAdd
open Go Go.RowKit Go.Proofs.YteelanamlhfmgaaDoor Go.Proofs.YteelanamlhfmgaaDoor.Mem Go.Proofs.YteelanamlhfmgaaDoor.Sha Go.Proofs.YteelanamlhfmgaaDoor.Bytes Go.Proofs.YteelanamlhfmgaaDoor.SortP Go.Proofs.YteelanamlhfmgaaDoor.NoteP Go.Proofs.YteelanamlhfmgaaDoor.QuietTail Go.Proofs.YteelanamlhfmgaaDoor.Grown Go.Proofs.YteelanamlhfmgaaDoor.Want Go.Proofs.YteelanamlhfmgaaDoor.Append Go.Proofs.YteelanamlhfmgaaDoor.Own Go.Proofs.YteelanamlhfmgaaDoor.Rise Go.Proofs.YteelanamlhfmgaaDoor.SortM Go.Proofs.YteelanamlhfmgaaDoor.SgM Go.Proofs.YteelanamlhfmgaaDoor.HashMem Go.Proofs.YteelanamlhfmgaaDoor.HeadMem Go.Proofs.YteelanamlhfmgaaDoor.EncNoteP Go.Proofs.YteelanamlhfmgaaDoor.EncNote Go.Proofs.YteelanamlhfmgaaDoor.RowS Go.Proofs.YteelanamlhfmgaaDoor.NoteM Go.Proofs.YteelanamlhfmgaaDoor.RefNote Go.Proofs.YteelanamlhfmgaaDoor.Insert Go.Proofs.YteelanamlhfmgaaDoor.Bin Go.Proofs.YteelanamlhfmgaaDoor.Sign Go.Proofs.YteelanamlhfmgaaDoor.Signs Go.Proofs.YteelanamlhfmgaaDoor.RefSigns Go.Proofs.YteelanamlhfmgaaDoor.RefRising Go.Proofs.YteelanamlhfmgaaDoor.AddP Go.Proofs.YteelanamlhfmgaaDoor.Add Go.Proofs.YteelanamlhfmgaaDoor.Decode Go.Proofs.YteelanamlhfmgaaDoor.HeadTake Go.Proofs.YteelanamlhfmgaaDoor.Fill Go.Proofs.YteelanamlhfmgaaDoor.DigEq

theorem fin_is {ss rs : List Text} {s : Text} (hr : rising kyS ss = some rs) : ∃ r, rising kyS (s :: others ss s) = some r := by
  cases h : rising kyS (s :: others ss s) with
  | some r => exact ⟨r, rfl⟩
  | none =>
    refine absurd ?_ (rising_none h)
    obtain ⟨h1, h2⟩ := rising_some hr
    have h3 : rs.Pairwise (fun a b => kyS a ≠ kyS b) := h1.imp fun x => lex_ne x
    have h4 : ss.Pairwise (fun a b => kyS a ≠ kyS b) := (h2.pairwise_iff (fun {_ _} x => x.symm)).1 h3
    rw [List.pairwise_cons]
    refine ⟨fun y hy => ?_, h4.sublist List.filter_sublist⟩
    have := (List.mem_filter.1 hy).2
    simp at this
    exact fun e => this e.symm
end Go.Proofs.YteelanamlhfmgaaDoor.RefAdd

namespace Go.Proofs.YteelanamlhfmgaaDoor.HeadAdds
open Go Go.RowKit Go.Proofs.YteelanamlhfmgaaDoor Go.Proofs.YteelanamlhfmgaaDoor.Mem Go.Proofs.YteelanamlhfmgaaDoor.Sha Go.Proofs.YteelanamlhfmgaaDoor.Bytes Go.Proofs.YteelanamlhfmgaaDoor.SortP Go.Proofs.YteelanamlhfmgaaDoor.NoteP Go.Proofs.YteelanamlhfmgaaDoor.QuietTail Go.Proofs.YteelanamlhfmgaaDoor.Grown Go.Proofs.YteelanamlhfmgaaDoor.Want Go.Proofs.YteelanamlhfmgaaDoor.Guard2 Go.Proofs.YteelanamlhfmgaaDoor.Append Go.Proofs.YteelanamlhfmgaaDoor.Own Go.Proofs.YteelanamlhfmgaaDoor.Rise Go.Proofs.YteelanamlhfmgaaDoor.SortM Go.Proofs.YteelanamlhfmgaaDoor.SgM Go.Proofs.YteelanamlhfmgaaDoor.HashMem Go.Proofs.YteelanamlhfmgaaDoor.HeadMem Go.Proofs.YteelanamlhfmgaaDoor.EncNoteP Go.Proofs.YteelanamlhfmgaaDoor.EncNote Go.Proofs.YteelanamlhfmgaaDoor.RowS Go.Proofs.YteelanamlhfmgaaDoor.Fill Go.Proofs.YteelanamlhfmgaaDoor.NoteM Go.Proofs.YteelanamlhfmgaaDoor.SignEq Go.Proofs.YteelanamlhfmgaaDoor.CmpW Go.Proofs.YteelanamlhfmgaaDoor.SameSigns Go.Proofs.YteelanamlhfmgaaDoor.Stranger Go.Proofs.YteelanamlhfmgaaDoor.Given Go.Proofs.YteelanamlhfmgaaDoor.HeadTake Go.Proofs.YteelanamlhfmgaaDoor.HeadTake2 Go.Proofs.YteelanamlhfmgaaDoor.Decode Go.Proofs.YteelanamlhfmgaaDoor.Kept16 Go.Proofs.YteelanamlhfmgaaDoor.RefNote Go.Proofs.YteelanamlhfmgaaDoor.Sign Go.Proofs.YteelanamlhfmgaaDoor.Signs Go.Proofs.YteelanamlhfmgaaDoor.AddP Go.Proofs.YteelanamlhfmgaaDoor.Add Go.Proofs.YteelanamlhfmgaaDoor.RefAdd Go.Proofs.YteelanamlhfmgaaDoor.Law16 Go.Proofs.YteelanamlhfmgaaDoor.Held

def addH (h : HeadD) : Option (List Text) → HeadD
  | none => h0
  | some _ => h
theorem addH_ok {h : HeadD} (ok : h.Ok) (o : Option (List Text)) : (addH h o).Ok := by
  cases o with
  | none => exact h0_ok
  | some _ => exact ok
theorem add_zero {h : HeadD} {ss : List Text} {q : Text} {o : Option (List Text)} {k : Int} (ha : addAns h ss q = (o, k)) (hk : k = 0) : addH h o = h ∧ (o.getD []).length ≤ 16 := by
  subst hk
  unfold addAns at ha
  by_cases h1 : (signAns h q).2 = 0
  · rw [if_pos h1] at ha
    cases hr : rising kyS ss with
    | none => rw [hr] at ha; cases ha
    | some rs =>
      rw [hr] at ha
      have ha : addFin ss (signAns h q).1 = (o, 0) := ha
      unfold addFin at ha
      by_cases h2 : 16 < (others ss (signAns h q).1).length + 1
      · rw [if_pos h2] at ha; cases ha
      · rw [if_neg h2] at ha
        obtain ⟨r, h3⟩ := fin_is (s := (signAns h q).1) hr
        rw [h3] at ha
        injection ha with ha
        subst ha
        refine ⟨rfl, ?_⟩
        show r.length ≤ 16
        rw [rising_len h3, List.length_cons]
        omega
  · rw [if_neg h1] at ha
    injection ha with _ ha
    exact absurd ha h1
theorem add_len {h : HeadD} {ss : List Text} {q : Text} {o : Option (List Text)} {k : Int} (ha : addAns h ss q = (o, k)) : (o.getD []).length ≤ 16 := by
  by_cases hk : k = 0
  · exact (add_zero ha hk).2
  · cases o with
    | none => simp
    | some r =>
      unfold addAns at ha
      by_cases h1 : (signAns h q).2 = 0
      · rw [if_pos h1] at ha
        split at ha
        · unfold addFin at ha
          split at ha
          · cases ha
          · injection ha with _ ha; exact absurd ha.symm hk
        · cases ha
      · rw [if_neg h1] at ha; cases ha
/-- What adding leaves, with letters for its answer. -/
theorem out_note {h H : HeadD} {ss r : List Text} {q : Text} {w w' : World} {e : Ending} {o : Option (List Text)} {k : Int} {m : Nat} (ha : addAns h ss q = (o, k)) (hH : addH h o = H) (hr : o.getD [] = r) (hm : r.length = m) (ho : AddOut h ss q w e w') :
    ∃ A c, e = .returned (.tuple #[.agg (noteCells H (.slice A m c)).toArray, .int .i64 k]) ∧ Below w.heap.size w w' ∧ OwnS w' w.heap.size (.slice A m c) m r := by
  obtain ⟨V, he, hb, hp⟩ := ho
  rw [ha] at he hp
  subst hr hH hm
  cases o with
  | none =>
    obtain rfl : V = .agg Z99 := hp
    exact ⟨none, 0, by rw [he, ← z99_eq]; rfl, hb, OwnS.nil _ _⟩
  | some r =>
    obtain ⟨A, c, rfl, hO⟩ := hp
    exact ⟨A, c, he, hb, hO⟩
structure FitN (cs : Array Value) : Prop where
  size : (Tryd.prog.info? 28).map (·.size) = some cs.size
  zero : Z99.size = cs.size
  one : cs.all (fun v => v.oneCell') = true
theorem fitN {h : HeadD} (ok : h.Ok) (A : Option Addr) (n c : Nat) : FitN (noteCells h (.slice A n c)).toArray := ⟨note_size ok _, note_zero ok _, note_one _ _ _⟩
theorem _root_.Go.Proofs.YteelanamlhfmgaaDoor.SgM.OwnS.keptN {w w' : World} {B n m : Nat} {v : Value} {ds : List Text} {cs : Array Value} (h : OwnS w B v n ds) (bb : Blk w m 28 cs) (hk : Kept (· = m) w w') : OwnS w' B v n ds := by
  obtain ⟨h1, h2, hFl, hown⟩ := h
  refine ⟨h1, h2, hFl, ?_⟩
  rcases hown with h | ⟨g, c, cur, hv, hBg, hg, hnc, hcm, hcs, htk⟩
  · exact .inl h
  · refine .inr ⟨g, c, cur, hv, hBg, Blk.kept hg hk (fun x => ?_), hnc, hcm, hcs, htk⟩
    have x : g = m := x
    subst x
    have e : some (Obj.cells cur 43 (0, 0)) = some (Obj.cells cs 28 (0, 0)) := hg.symm.trans bb
    simp at e
theorem own_sgs {w : World} {B n c : Nat} {A : Option Addr} {ds : List Text} (h : OwnS w B (.slice A n c) n ds) : Sgs w A n ds ∧ (A = none → n = 0 ∧ c = 0) := by
  obtain ⟨A9, c9, e9, -, -, x0, x, -⟩ := h.reads
  injection e9 with e9 _ e10
  subst e9 e10
  exact ⟨x, x0⟩
end Go.Proofs.YteelanamlhfmgaaDoor.HeadAdds

namespace Go.Proofs.YteelanamlhfmgaaDoor.Mixed
open Go Go.RowKit Go.Proofs.YteelanamlhfmgaaDoor Go.Proofs.YteelanamlhfmgaaDoor.Mem Go.Proofs.YteelanamlhfmgaaDoor.Sha Go.Proofs.YteelanamlhfmgaaDoor.Bytes Go.Proofs.YteelanamlhfmgaaDoor.SortP Go.Proofs.YteelanamlhfmgaaDoor.NoteP Go.Proofs.YteelanamlhfmgaaDoor.Grown Go.Proofs.YteelanamlhfmgaaDoor.Want Go.Proofs.YteelanamlhfmgaaDoor.Append Go.Proofs.YteelanamlhfmgaaDoor.Own Go.Proofs.YteelanamlhfmgaaDoor.Rise Go.Proofs.YteelanamlhfmgaaDoor.SortM Go.Proofs.YteelanamlhfmgaaDoor.SgM Go.Proofs.YteelanamlhfmgaaDoor.HashMem Go.Proofs.YteelanamlhfmgaaDoor.HeadMem Go.Proofs.YteelanamlhfmgaaDoor.EncNoteP Go.Proofs.YteelanamlhfmgaaDoor.EncNote Go.Proofs.YteelanamlhfmgaaDoor.RowS Go.Proofs.YteelanamlhfmgaaDoor.NoteM Go.Proofs.YteelanamlhfmgaaDoor.RefNote Go.Proofs.YteelanamlhfmgaaDoor.Insert Go.Proofs.YteelanamlhfmgaaDoor.Bin Go.Proofs.YteelanamlhfmgaaDoor.Signs Go.Proofs.YteelanamlhfmgaaDoor.Held Go.Proofs.YteelanamlhfmgaaDoor.Book Go.Proofs.YteelanamlhfmgaaDoor.QuietTail Go.Proofs.YteelanamlhfmgaaDoor.AddP Go.Proofs.YteelanamlhfmgaaDoor.Add Go.Proofs.YteelanamlhfmgaaDoor.HeadAdds

/-- A row of numbers, each in its range. -/
structure Ints (w : World) (A : Option Addr) (n : Nat) (xs : List Int) : Prop where
  len : xs.length = n
  all : ∀ x ∈ xs, -9223372036854775808 ≤ x ∧ x < 9223372036854775808
  rd : Reads w 1 A n (xs.map fun x => Value.int .i64 x)
theorem Ints.below {w w' : World} {A : Option Addr} {n : Nat} {xs : List Int} (h : Ints w A n xs) (hb : Below w.heap.size w w') : Ints w' A n xs := ⟨h.len, h.all, h.rd.below hb⟩
theorem Ints.at_ {w : World} {A : Option Addr} {n i : Nat} {xs : List Int} {x : Int} (h : Ints w A n xs) (hx : xs[i]? = some x) : ∃ b o, A = some ⟨b, o, none⟩ ∧ b < w.heap.size ∧ w.cell? ⟨b, o + i, none⟩ = some (.int .i64 x) := by
  have hi := (List.getElem?_eq_some_iff.1 hx).1
  obtain ⟨b, o, e, hb, hc⟩ := h.rd.2 (by have := h.len; omega)
  exact ⟨b, o, e, hb, hc i _ (by rw [List.getElem?_map, hx]; rfl)⟩
theorem swap_perm {α : Type} {xs : List α} {i j : Nat} {x y : α} (hx : xs[i]? = some x) (hy : xs[j]? = some y) : ((xs.set i y).set j x).Perm xs := by
  obtain ⟨hi, ex⟩ := List.getElem?_eq_some_iff.1 hx
  obtain ⟨hj, ey⟩ := List.getElem?_eq_some_iff.1 hy
  have hp := (Array.swap_perm (xs := xs.toArray) (i := i) (j := j) (by simpa using hi) (by simpa using hj)).toList
  subst ex ey
  simpa [Array.swap_def] using hp
theorem tmod_bounds (x m : Int) (hm : 0 < m) : -m < x.tmod m ∧ x.tmod m < m := by
  have h := Int.tmod_eq_emod (a := x) (b := m)
  have h1 := Int.emod_nonneg x (show m ≠ 0 by omega)
  have h2 := Int.emod_lt_of_pos x hm
  have hn : ((m.natAbs : Nat) : Int) = m := by omega
  by_cases hc : 0 ≤ x ∨ m ∣ x
  · rw [if_pos hc] at h; omega
  · rw [if_neg hc] at h
    have : x % m ≠ 0 := fun e => hc (.inr (Int.dvd_of_emod_eq_zero e))
    omega
theorem wp_store_at {P : Program} {o : Oper} {a : Act} {w : World} {K : Act → World → Prop} {Q : Exit → Act → World → Prop} (ty : TypeId) (x y : Operand) (ho : o.op = .store ty x y)
    (g off : Nat) (cs : List Value) (hx : a.eval x = .pointer (some ⟨g, off, none⟩)) (hy : a.eval y = .agg cs.toArray)
    (t : TypeId) (cur : Array Value) (hg : Blk w g t cur) (hi : (P.info? ty).map (·.size) = some cs.length)
    (hfit : off + cs.length ≤ cur.size) (h1 : ∀ v ∈ cs, v.oneCell' = true)
    (h : ∀ w', Hid (Blk w' g t (splice cur.toList off cs).toArray) → Kept (· = g) w w' → K (a.put o.dst undef) w') : o.wp P a w K Q := by
  have hrun : (storeVar ty ⟨g, off, none⟩ (.agg cs.toArray)).run P w = .ok () (w.setRow g (splice cur.toList off cs).toArray) := by
    have := run_storeCells_at (P := P) g off t cs 0 cur w hg (by simpa using hfit) h1
    cases hq : P.info? ty with
    | none => simp [hq] at hi
    | some i =>
      have hs : cs.length = i.size := by simp [hq] at hi; omega
      simp [storeVar, sizeOf, typeInfo, hq, Value.cells, hs]
      simpa [splice, hs] using this
  unfold Oper.wp execOp
  simp only [ho, hx, hy, Instr.storeAt, Instr.sureAddr, Sem.run_bind, Sem.run_pure, Result.andThen_ok, hrun]
  exact h _ (setRow_heap w g _ _ t _ hg) (Bytes.Kept.setRow (S := (· = g)) (Kept.refl _ w) rfl _)
set_option maxRecDepth 100000 in
set_option maxHeartbeats 1000000 in
theorem at_any (x : Int) (n : Nat) (h0 : 1 ≤ n) (hn : n ≤ 1099511627776) (w : World) :
    Calls Tryd.prog 34 #[.int .i64 x, .int .i64 (n : Int)] w fun e w' => ∃ j : Nat, e = .returned (.int .i64 (j : Int)) ∧ j < n ∧ w = w' := by
  obtain ⟨h3, h4⟩ := tmod_bounds x n (by omega)
  have k0 : (n : Int) ≠ 0 := by omega
  have k1 : ((n : Int) == 0) = false := beq_eq_false_iff_ne.2 (by omega)
  have k2 : ((n : Int) == -1) = false := beq_eq_false_iff_ne.2 (by omega)
  obtain ⟨y, hy⟩ : ∃ y, x.tmod (n : Int) = y := ⟨_, rfl⟩
  rw [hy] at h3 h4
  have hw : IntKind.i64.wrap y = y := IntWalk.i64_in _ (by omega)
  clear h0
  by_cases hneg : y < 0
  · obtain ⟨j, hj⟩ : ∃ j : Nat, y + (n : Int) = (j : Int) := ⟨(y + (n : Int)).toNat, by omega⟩
    have hjn : Hid (j < n) := by show _ < _; omega
    have hw2 : IntKind.i64.wrap (y + (n : Int)) = (j : Int) := by rw [hj]; exact IntWalk.i64_in _ (by omega)
    clear h3 h4 hj
    go_enter Tryd.func34, Tryd.ntmps34
    go_wp2_with fail
    go_ret
    exact ⟨j, rfl, hjn.out, rfl⟩
  · obtain ⟨j, rfl⟩ : ∃ j : Nat, y = (j : Int) := ⟨y.toNat, by omega⟩
    have hjn : Hid (j < n) := by show _ < _; omega
    clear h3 h4
    go_enter Tryd.func34, Tryd.ntmps34
    go_wp2_with fail
    go_ret
    exact ⟨j, rfl, hjn.out, rfl⟩
/-- A zero row that was laid just now. -/
theorem own_zero (w : World) (B : Nat) (hB : B ≤ w.heap.size) (cs : Array Value) (hcs : cs.size = 0) : OwnS (w.alloc (.cells cs 43)) B (.slice (some ⟨w.heap.size, 0, none⟩) 0 0) 0 [] :=
  ⟨Sns.nil, rfl, rfl, .inr ⟨w.heap.size, 0, cs, rfl, hB, heap_alloc_new w _, Nat.le_refl _, Nat.zero_le _, by omega, by simp⟩⟩
set_option maxRecDepth 100000 in
set_option maxHeartbeats 4000000 in
theorem mixed_any (ss : List Text) (n : Nat) (hn : n ≤ 1099511627776) (A : Option Addr) (c : Nat) (ts : List Int) (p : Nat) (hp : p ≤ 140737488355328) (At : Option Addr) (cp : Nat) (w : World) (hnil : A = none → n = 0 ∧ c = 0) (hS : Sgs w A n ss) (hT : Ints w At p ts) :
    Calls Tryd.prog 15 #[.slice A n c, .slice At p cp] w fun e w' => ∃ v xs, e = .returned v ∧ xs.Perm ss ∧ OwnS w' w.heap.size v n xs ∧ Below w.heap.size w w' := by
  have hS0 := Lib.hid hS
  have hT0 := Lib.hid hT
  have hn0 := Lib.hid hn
  have hp0 := Lib.hid hp
  have hn6 : (n : Int) ≤ 1099511627776 := by omega
  have hsns : Hid (Sns ss) := hS.all
  have hnl := Lib.hid hnil
  have hc1 : Hid (0 + n ≤ maxLen) := by show _ ≤ _; unfold maxLen; omega
  have hc2 : Hid ((0 + n) * 64 ≤ 140737488355328) := by show _ ≤ _; omega
  obtain ⟨i0, ii, iz0, iz1, iz2⟩ := SgM.info_partsN info64
  clear hS hT hn hp hnil
  go_enter Tryd.func15, Tryd.ntmps15
  go_upto_region 1 with fail
  go_wp2_with (at_builtin; refine wpList_append_src _ rfl (.tmp 8) (.tmp 9) 26 rfl w.heap.size 43 i0 (.agg Z64) 64 64 Tryd.underlying26 ii iz0 iz1 iz2 rfl (by decide) (.slice (some ⟨w.heap.size, 0, none⟩) 0 0) 0 [] rfl (own_zero w w.heap.size (Nat.le_refl _) _ rfl).2.2 A n c (ss.flatMap cells8) rfl (hS0.out.below (Below.heap_below w _)).rd hnl.out (one_signs ss) hc1.out hc2.out (by simp) ?_; intro v1 w1 hG; obtain ⟨hO1, hb1⟩ := grew_signs (xs := []) hG (Below.heap_below w _) (by simp) (own_zero w w.heap.size (Nat.le_refl _) _ rfl) hsns.out hS0.out.len; rw [Nat.zero_add, List.nil_append] at hO1; obtain ⟨A5, c5, rfl, -⟩ := OwnS.reads hO1; replace hO1 := Lib.hid hO1; replace hb1 := Lib.hid hb1; clear hG)
  go_loopw [6] (fun v wr => ∃ (i : Nat) (xs : List Text), v = .int .i64 (i : Int) ∧ Hid (i ≤ p) ∧ Hid (xs.Perm ss) ∧ Hid (OwnS wr w.heap.size (.slice A5 n c5) n xs) ∧ Hid (Below w.heap.size w wr)) (fun v _ => p - (intOf v).toNat)
  case atStart => exact ⟨0, ss, rfl, Nat.zero_le _, List.Perm.refl _, hO1.out, hb1.out⟩
  case round =>
    clear hO1 hb1
    obtain ⟨i, xs, rfl, hip, hpm, hO, hbe⟩ := hrel
    have hi6 : (i : Int) ≤ 140737488355328 := by have := hip.out; have := hp0.out; omega
    have hz0 : (0 : Int) ≤ (i : Int) := by omega
    by_cases hlt : i < p
    · have hz : (i : Int) < (p : Int) := by omega
      by_cases hln : i < n
      · have hz1 : (i : Int) < (n : Int) := by omega
        have hlt' := Lib.hid hlt
        have hln' := Lib.hid hln
        obtain ⟨x, hx⟩ : ∃ x, Hid (ts[i]? = some x) := ⟨_, List.getElem?_eq_getElem (by rw [hT0.out.len]; exact hlt)⟩
        obtain ⟨hx1, hx2⟩ := hT0.out.all x (List.mem_of_getElem? hx.out)
        obtain ⟨bt, ot, hAt, hbt, hct⟩ := hT0.out.at_ hx.out
        subst hAt
        have hcx : wr.cell? ⟨bt, ot + i, none⟩ = some (.int .i64 x) := (hbe.out.cell (p := ⟨bt, ot + i, none⟩) hbt).trans hct
        have hx1' := Lib.hid hx1
        have hx2' := Lib.hid hx2
        clear hlt hln hx1 hx2 hct
        go_upto_region 6 with (go_at_call 34; refine (at_any x n (Nat.lt_of_le_of_lt (Nat.zero_le _) hln'.out) hn0.out wr).mono ?_; rintro e w7 ⟨j, rfl, hjn, rfl⟩; replace hjn := Lib.hid hjn)
        obtain ⟨g, rfl⟩ := own_some hO.out (Nat.lt_of_le_of_lt (Nat.zero_le _) hln'.out)
        have hj1 : (j : Int) < (n : Int) := by have := hjn.out; omega
        have hj0 : (0 : Int) ≤ (j : Int) := by omega
        obtain ⟨a, ha⟩ : ∃ a, Hid (xs[i]? = some a) := ⟨_, List.getElem?_eq_getElem (by rw [hO.out.2.1]; exact hln'.out)⟩
        obtain ⟨b, hb⟩ : ∃ b, Hid (xs[j]? = some b) := ⟨_, List.getElem?_eq_getElem (by rw [hO.out.2.1]; exact hjn.out)⟩
        have hal := Lib.hid (hO.out.1 a (List.mem_of_getElem? ha.out))
        have hbl := Lib.hid (hO.out.1 b (List.mem_of_getElem? hb.out))
        have hpm2 : Hid (((xs.set i b).set j a).Perm ss) := (swap_perm ha.out hb.out).trans hpm.out
        obtain ⟨hBg, cur, hBc, hfit, hset⟩ := own_set hO.out hln'.out hbl.out
        replace hBg := Lib.hid hBg
        have hBc1 : Hid (Blk wr.drew g 43 cur) := Blk.drewN hBc 1
        replace hfit := Lib.hid hfit
        replace hset := Lib.hid hset
        have hR := (own_sgs hO.out).1
        obtain ⟨b1, o1, e1, -, hca⟩ := hR.at_ ha.out
        obtain ⟨b2, o2, e2, -, hcb⟩ := hR.at_ hb.out
        injection e1 with e1
        injection e1 with e1 e3
        injection e2 with e2
        injection e2 with e2 e4
        subst e1 e2 e3 e4
        have hfa : Hid (∀ m u, (cells8 a)[m]? = some u → wr.drew.cell? ⟨g, i * 64 + m, none⟩ = some u) := fun m u hu => by have := hca m u hu; rw [Nat.zero_add] at this; exact this
        have hfb : Hid (∀ m u, (cells8 b)[m]? = some u → wr.drew.cell? ⟨g, j * 64 + m, none⟩ = some u) := fun m u hu => by have := hcb m u hu; rw [Nat.zero_add] at this; exact this
        have sA : Hid ((Tryd.prog.info? 43).map (·.size) = some (cells8 a).length) := by show _ = _; rw [cells8_len, hal.out]; exact size26
        have sB : Hid ((Tryd.prog.info? 43).map (·.size) = some (cells8 b).length) := by show _ = _; rw [cells8_len, hbl.out]; exact size26
        have hb6 : Hid (Below w.heap.size w wr.drew) := hbe.out.drew
        clear hR hca hcb hO hBc hbe hx1' hx2' hcx
        refine held_start (fun _ => True) 16 rfl (by kernel_rfl) ?_
        refine held_take (i := 0) (v := .slice (some ⟨g, 0, none⟩) n c5) rfl (by kernel_rfl) (by kernel_rfl) (by kernel_rfl) (fun _ _ _ h => h) trivial (by rfl) (fun w' hw' => run_mv (.tmp 5) rfl w') ?_
        (intro K hK; go_simp; refine hK _ ?_; clear hK K)
        refine held_take (i := 1) (v := .int .i64 (i : Int)) rfl (by kernel_rfl) (by kernel_rfl) (by kernel_rfl) (fun _ _ _ h => h) trivial (by rfl) (fun w' hw' => run_mv (.tmp 6) rfl w') ?_
        (intro K hK; go_simp; refine hK _ ?_; clear hK K)
        refine held_take (i := 2) (v := .slice (some ⟨g, 0, none⟩) n c5) rfl (by kernel_rfl) (by kernel_rfl) (by kernel_rfl) (fun _ _ _ h => h) trivial (by rfl) (fun w' hw' => run_mv (.tmp 5) rfl w') ?_
        (intro K hK; go_simp; refine hK _ ?_; clear hK K)
        refine held_take (i := 3) (v := .int .i64 (j : Int)) rfl (by kernel_rfl) (by kernel_rfl) (by kernel_rfl) (fun _ _ _ h => h) trivial (by rfl) (fun w' hw' => run_mv (.tmp 7) rfl w') ?_
        (intro K hK; go_simp; refine hK _ ?_; clear hK K)
        refine held_take (i := 4) (v := .slice (some ⟨g, 0, none⟩) n c5) rfl (by kernel_rfl) (by kernel_rfl) (by kernel_rfl) (fun _ _ _ h => h) trivial (by rfl) (fun w' hw' => run_mv (.tmp 5) rfl w') ?_
        (intro K hK; go_simp; refine hK _ ?_; clear hK K)
        refine held_take (i := 5) (v := .int .i64 (j : Int)) rfl (by kernel_rfl) (by kernel_rfl) (by kernel_rfl) (fun _ _ _ h => h) trivial (by rfl) (fun w' hw' => run_mv (.tmp 7) rfl w') ?_
        (intro K hK; go_simp; refine hK _ ?_; clear hK K)
        refine held_take (i := 6) (v := .pointer (some ⟨g, j * 64, none⟩)) rfl (by kernel_rfl) (by kernel_rfl) (by kernel_rfl) (fun _ _ _ h => h) trivial (by rfl) (fun w' hw' => by go_simp) ?_
        (intro K hK; go_simp; refine hK _ ?_; clear hK K)
        refine held_take (i := 8) (v := .slice (some ⟨g, 0, none⟩) n c5) rfl (by kernel_rfl) (by kernel_rfl) (by kernel_rfl) (fun _ _ _ h => h) trivial (by rfl) (fun w' hw' => run_mv (.tmp 5) rfl w') ?_
        (intro K hK; go_simp; refine hK _ ?_; clear hK K)
        refine held_take (i := 9) (v := .int .i64 (i : Int)) rfl (by kernel_rfl) (by kernel_rfl) (by kernel_rfl) (fun _ _ _ h => h) trivial (by rfl) (fun w' hw' => run_mv (.tmp 6) rfl w') ?_
        (intro K hK; go_simp; refine hK _ ?_; clear hK K)
        refine held_take (i := 10) (v := .pointer (some ⟨g, i * 64, none⟩)) rfl (by kernel_rfl) (by kernel_rfl) (by kernel_rfl) (fun _ _ _ h => h) trivial (by rfl) (fun w' hw' => by go_simp) ?_
        (intro K hK; go_simp; refine hK _ ?_; clear hK K)
        refine held_two (i := 7) (j := 11) rfl rfl (by kernel_rfl) (by rfl) (by rfl) (fun K hK => ?_) (fun K hK => ?_)
        · refine wp_load_partH 43 (.tmp 36) rfl g (j * 64) rfl (cells8 b) _ (fun k v hv => hfb.out k v hv) Tryd.underlying43 rfl sB.out ?_
          go_simp
          refine hK _ _ trivial ?_
          clear hK K
          refine held_only (i := 11) rfl (by kernel_rfl) (by rfl) (fun K hK => ?_)
          refine wp_load_partH 43 (.tmp 40) rfl g (i * 64) rfl (cells8 a) _ (fun k v hv => hfa.out k v hv) Tryd.underlying43 rfl sA.out ?_
          go_simp
          refine hK _ _ trivial ?_
          clear hK K
          refine held_take (i := 12) (v := .pointer (some ⟨g, i * 64, none⟩)) rfl (by kernel_rfl) (by kernel_rfl) (by kernel_rfl) (fun _ _ _ h => h) trivial (by rfl) (fun w' hw' => by go_simp) ?_
          (intro K hK; go_simp; refine hK _ ?_; clear hK K)
          refine held_only (i := 13) rfl (by kernel_rfl) (by rfl) (fun K hK => ?_)
          refine wp_store_at 43 (.tmp 42) (.tmp 37) rfl g (i * 64) (cells8 b) rfl rfl 43 cur hBc1.out sB.out hfit.out (cells8_one _) ?_
          intro w8 hB8 hk8
          have hO8 := hset.out w8 hB8.out
          have hb8 : Hid (Below w.heap.size w w8) := hb6.out.trans (Kept.below_of hk8 hBg.out hb6.out.size)
          obtain ⟨-, cur2, hBc2, hfit2, hset2⟩ := own_set hO8 hjn.out hal.out
          replace hBc2 := Lib.hid hBc2
          replace hfit2 := Lib.hid hfit2
          replace hset2 := Lib.hid hset2
          clear hB8 hk8 hO8 hset hfit hBc1 hfa hfb
          go_simp
          refine hK _ _ trivial ?_
          clear hK K
          refine held_take (i := 14) (v := .pointer (some ⟨g, j * 64, none⟩)) rfl (by kernel_rfl) (by kernel_rfl) (by kernel_rfl) (fun _ _ _ h => h) trivial (by rfl) (fun w' hw' => by go_simp) ?_
          (intro K hK; go_simp; refine hK _ ?_; clear hK K)
          refine held_only (i := 15) rfl (by kernel_rfl) (by rfl) (fun K hK => ?_)
          refine wp_store_at 43 (.tmp 43) (.tmp 41) rfl g (j * 64) (cells8 a) rfl rfl 43 cur2 hBc2.out sA.out hfit2.out (cells8_one _) ?_
          intro w9 hB9 hk9
          have hO9 := Lib.hid (hset2.out w9 hB9.out)
          have hb9 : Hid (Below w.heap.size w w9) := hb8.out.trans (Kept.below_of hk9 hBg.out hb8.out.size)
          clear hB9 hk9 hset2 hfit2 hBc2 hb8
          go_simp
          refine hK _ _ trivial ?_
          clear hK K
          refine held_end (by kernel_rfl) ?_
          go_wp2_with fail
          go_roundw
          case rel => exact ⟨i + 1, _, by go_num, hlt'.out, hpm2.out, hO9.out, hb9.out⟩
          case measure => (have := hlt'.out; simp [intOf]; omega)
        · refine wp_load_partH 43 (.tmp 40) rfl g (i * 64) rfl (cells8 a) _ (fun k v hv => hfa.out k v hv) Tryd.underlying43 rfl sA.out ?_
          go_simp
          refine hK _ _ trivial ?_
          clear hK K
          refine held_only (i := 7) rfl (by kernel_rfl) (by rfl) (fun K hK => ?_)
          refine wp_load_partH 43 (.tmp 36) rfl g (j * 64) rfl (cells8 b) _ (fun k v hv => hfb.out k v hv) Tryd.underlying43 rfl sB.out ?_
          go_simp
          refine hK _ _ trivial ?_
          clear hK K
          refine held_take (i := 12) (v := .pointer (some ⟨g, i * 64, none⟩)) rfl (by kernel_rfl) (by kernel_rfl) (by kernel_rfl) (fun _ _ _ h => h) trivial (by rfl) (fun w' hw' => by go_simp) ?_
          (intro K hK; go_simp; refine hK _ ?_; clear hK K)
          refine held_only (i := 13) rfl (by kernel_rfl) (by rfl) (fun K hK => ?_)
          refine wp_store_at 43 (.tmp 42) (.tmp 37) rfl g (i * 64) (cells8 b) rfl rfl 43 cur hBc1.out sB.out hfit.out (cells8_one _) ?_
          intro w8 hB8 hk8
          have hO8 := hset.out w8 hB8.out
          have hb8 : Hid (Below w.heap.size w w8) := hb6.out.trans (Kept.below_of hk8 hBg.out hb6.out.size)
          obtain ⟨-, cur2, hBc2, hfit2, hset2⟩ := own_set hO8 hjn.out hal.out
          replace hBc2 := Lib.hid hBc2
          replace hfit2 := Lib.hid hfit2
          replace hset2 := Lib.hid hset2
          clear hB8 hk8 hO8 hset hfit hBc1 hfa hfb
          go_simp
          refine hK _ _ trivial ?_
          clear hK K
          refine held_take (i := 14) (v := .pointer (some ⟨g, j * 64, none⟩)) rfl (by kernel_rfl) (by kernel_rfl) (by kernel_rfl) (fun _ _ _ h => h) trivial (by rfl) (fun w' hw' => by go_simp) ?_
          (intro K hK; go_simp; refine hK _ ?_; clear hK K)
          refine held_only (i := 15) rfl (by kernel_rfl) (by rfl) (fun K hK => ?_)
          refine wp_store_at 43 (.tmp 43) (.tmp 41) rfl g (j * 64) (cells8 a) rfl rfl 43 cur2 hBc2.out sA.out hfit2.out (cells8_one _) ?_
          intro w9 hB9 hk9
          have hO9 := Lib.hid (hset2.out w9 hB9.out)
          have hb9 : Hid (Below w.heap.size w w9) := hb8.out.trans (Kept.below_of hk9 hBg.out hb8.out.size)
          clear hB9 hk9 hset2 hfit2 hBc2 hb8
          go_simp
          refine hK _ _ trivial ?_
          clear hK K
          refine held_end (by kernel_rfl) ?_
          go_wp2_with fail
          go_roundw
          case rel => exact ⟨i + 1, _, by go_num, hlt'.out, hpm2.out, hO9.out, hb9.out⟩
          case measure => (have := hlt'.out; simp [intOf]; omega)
      · have hz1 : ¬ ((i : Int) < (n : Int)) := by omega
        clear hlt hln
        go_wp2_with fail
        go_ret
        exact ⟨_, rfl, xs, hpm.out, hO.out, hbe.out⟩
    · have hz : ¬ ((i : Int) < (p : Int)) := by omega
      clear hlt
      go_wp2_with fail
      go_ret
      exact ⟨_, rfl, xs, hpm.out, hO.out, hbe.out⟩
end Go.Proofs.YteelanamlhfmgaaDoor.Mixed
