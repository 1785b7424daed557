/-
  Texts of the claim, put into one file: Add, RefAdd, HeadAdds.
-/
import Derived.Test.YteelanamlhfmgaaDoorZ37
import Derived.Test.YteelanamlhfmgaaDoorZ38
import Derived.Deep.Cut
import Derived.Test.YteelanamlhfmgaaDoorZ24
import Derived.Test.YteelanamlhfmgaaDoorZ35
import Derived.Test.YteelanamlhfmgaaDoorZ33
import Derived.Test.YteelanamlhfmgaaDoorZ5
import Derived.Test.YteelanamlhfmgaaDoorZ7
import Derived.Deep.CutRange

namespace Go.Proofs.YteelanamlhfmgaaDoor.Add
open Go Go.RowKit Go.Proofs.YteelanamlhfmgaaDoor Go.Proofs.YteelanamlhfmgaaDoor.Mem Go.Proofs.YteelanamlhfmgaaDoor.Sha Go.Proofs.YteelanamlhfmgaaDoor.Bytes Go.Proofs.YteelanamlhfmgaaDoor.SortP Go.Proofs.YteelanamlhfmgaaDoor.NoteP Go.Proofs.YteelanamlhfmgaaDoor.Grown Go.Proofs.YteelanamlhfmgaaDoor.Want Go.Proofs.YteelanamlhfmgaaDoor.Append Go.Proofs.YteelanamlhfmgaaDoor.Own Go.Proofs.YteelanamlhfmgaaDoor.Rise Go.Proofs.YteelanamlhfmgaaDoor.SortM Go.Proofs.YteelanamlhfmgaaDoor.SgM Go.Proofs.YteelanamlhfmgaaDoor.HashMem Go.Proofs.YteelanamlhfmgaaDoor.HeadMem Go.Proofs.YteelanamlhfmgaaDoor.EncNoteP Go.Proofs.YteelanamlhfmgaaDoor.EncNote Go.Proofs.YteelanamlhfmgaaDoor.RowS Go.Proofs.YteelanamlhfmgaaDoor.NoteM Go.Proofs.YteelanamlhfmgaaDoor.RefNote Go.Proofs.YteelanamlhfmgaaDoor.Insert Go.Proofs.YteelanamlhfmgaaDoor.Bin Go.Proofs.YteelanamlhfmgaaDoor.Sign Go.Proofs.YteelanamlhfmgaaDoor.Signs Go.Proofs.YteelanamlhfmgaaDoor.AddP Go.Proofs.YteelanamlhfmgaaDoor.Rising0 Go.Proofs.YteelanamlhfmgaaDoor.Decode Go.Proofs.YteelanamlhfmgaaDoor.HeadTake Go.Proofs.YteelanamlhfmgaaDoor.Fill

theorem size26 : (Tryd.prog.info? 43).map (·.size) = some 64 := by kernel_rfl
theorem zero26 : ((Tryd.prog.info? 43).bind (·.zero)).isSome = true := by kernel_rfl
theorem own_off {S : Nat → Prop} {w w' : World} {B n : Nat} {v : Value} {ds : List Text} (h : OwnS w B v n ds) (hk : Kept S w w') (hS : ∀ k, S k → k < B) : OwnS w' B v n ds := by
  obtain ⟨h1, h2, hFl, hown⟩ := h
  refine ⟨h1, h2, hFl, ?_⟩
  rcases hown with h | ⟨g, c, cur, hv, hBg, hg, hnc, hcm, hcs, htk⟩
  · exact .inl h
  · exact .inr ⟨g, c, cur, hv, hBg, Blk.kept hg hk (fun x => by have := hS g x; omega), hnc, hcm, hcs, htk⟩
def AddYes (ss : List Text) (s : Text) (h : HeadD) (w : World) (e : Ending) (w' : World) : Prop := ∃ V k2 o, e = .returned (.tuple #[V, .int .i64 k2]) ∧ Below w.heap.size w w' ∧ Hid (addFin ss s = (o, k2)) ∧ AddPost w.heap.size w' h V o
theorem one_flat (xs : List Value) : ([xs].flatten) = xs := by simp

set_option maxRecDepth 100000 in
set_option maxHeartbeats 4000000 in
theorem add_refused (h : HeadD) (ok : h.Ok) (ss : List Text) (n : Nat) (hn47 : n ≤ 1099511627776) (A : Option Addr) (c : Nat) (hnil : A = none → n = 0 ∧ c = 0) (q : Text) (k : Nat) (hk : q.length = k) (Ak : Option Addr) (ck : Nat) (hkc : k ≤ ck) (hkn : Ak = none → k = 0 ∧ ck = 0) (s : Text) (hs : Hid ((signAns h q).1 = s)) (k1 : Int) (hk1 : Hid ((signAns h q).2 = k1)) (hk0 : ¬ k1 = 0) (w : World) (hB : Base w) (hS : Sgs w A n ss) (hq : Reads w 1 Ak k (cells8 q)) :
    Calls Tryd.prog 9 #[.agg (noteCells h (.slice A n c)).toArray, .slice Ak k ck] w fun e w' => e = .returned (.tuple #[.agg Z99, .int .i64 k1]) ∧ Below w.heap.size w w' := by
  have ok' := Lib.hid ok
  have hn7 := Lib.hid hn47
  have hnl := Lib.hid hnil
  have hk' := Lib.hid hk
  have hkc' := Lib.hid hkc
  have hkn' := Lib.hid hkn
  have hs64 : Hid (s.length = 64) := by show _ = _; rw [← hs.out]; exact signAns_len h q
  obtain ⟨w0, hw0⟩ : ∃ w0, Hid ((w.alloc (.cells (noteCells h (.slice A n c)).toArray 28)).alloc (.cells Z99 28) = w0) := ⟨_, Lib.hid rfl⟩
  have D0 : Hid (AD w w0 h A n c) := by show AD _ _ _ _ _ _; rw [← hw0.out]; exact AD.new
  have hw0' : (w.alloc (.cells (noteCells h (.slice A n c)).toArray 28)).alloc (.cells Tryd.zeroCells28 28) = w0 := hw0.out
  have hS0 : Hid (∀ w', Below w.heap.size w w' → Sgs w' A n ss) := fun w' hb => hS.below hb
  have hq0 : Hid (∀ w', Below w.heap.size w w' → Reads w' 1 Ak k (cells8 q)) := fun w' hb => hq.below hb
  have hBs : Hid (∀ w', Below w.heap.size w w' → Base w') := fun w' hb => hB.below hb hB.1
  have hsz : Hid ((Tryd.prog.info? 25).map (·.size) = some (headCells h).length) := by show _ = _; rw [headCells_len ok]; exact size98
  have s1 := Lib.hid (sign_size s hs64.out)
  have s2 := Lib.hid (sign_zero s hs64.out)
  have s3 := Lib.hid (sign_one s)
  have z1 := Lib.hid (fun v => note_size ok v)
  have z2 := Lib.hid (fun v => note_zero ok v)
  have z3 := Lib.hid (fun A n c => note_one (h := h) A n c)
  have hbn := Lib.hid (fun A n c w' => run_note ok A n c w')
  clear hw0 ok hnil hk hkc hkn hB hS hq hn47
  go_enter Tryd.func9, Tryd.ntmps9
  go_wp2_with (first
    | (((with_reducible change wpList _ _ _ ({ dst := some 14, op := _, type := _, pos := _, after := _, guard := _ } :: _) _ _); refine wpList_load_part (o := ⟨some 14, _, _, _, _, _⟩) rfl 25 (.tmp 13) rfl (w.heap.size) (0) rfl (headCells h) _ D0.out.head Tryd.underlying25 rfl hsz.out ?_))
    | (go_at_call 23; refine (headSign_any h ok'.out q k hk'.out Ak ck w0 (hBs.out w0 D0.out.far) (hq0.out w0 D0.out.far) hkc'.out hkn'.out).mono ?_; rw [hs.out, hk1.out]; rintro e w1 ⟨rfl, hb1⟩; have D1 := Lib.hid (D0.out.below hb1); clear hb1 D0)
    | ((with_reducible change wpList _ _ _ ({ dst := none, op := Op.store 43 (.tmp 6) (.tmp 17), type := _, pos := _, after := _, guard := _ } :: _) _ _); refine wpList_store_all (o := ⟨none, _, _, _, _, _⟩) rfl 43 (.tmp 6) (.tmp 17) rfl w1.heap.size (cells8 s).toArray rfl rfl 43 Z64 (Blk.new w1 _ _) s1.out s2.out s3.out ?_; intro w2 hB2 hk2; have D2 := Lib.hid (D1.out.below (Held.kept_fresh hk2)); have S2 : Hid (Blk w2 w1.heap.size 43 (cells8 s).toArray) := hB2; have hg1 : Hid (w.heap.size + 1 < w1.heap.size) := D1.out.size; clear hk2 hB2 D1; generalize w1.heap.size = gs at *; have r2 := D2.out.row ok'.out)
    | ((with_reducible change wpList _ _ _ ({ dst := none, op := Op.store 28 (.tmp 4) (.tmp 21), type := _, pos := _, after := _, guard := _ } :: _) _ _); refine wpList_store_row (o := ⟨none, _, _, _, _, _⟩) rfl 28 (.tmp 4) (.tmp 21) rfl (w.heap.size + 1) Z99 rfl rfl 28 Z99 D2.out.res size99' rfl one99 ?_))
  refine bodyPost_ret (results_cell_row2 rfl _ _ (w.heap.size + 1) 28 Z99 (0, 0) _ rfl (setRow_heap _ _ _ _ _ _ D2.out.res) Tryd.underlying28 rfl size99') rfl ?_
  exact ⟨rfl, below_setRow D2.out.far (by omega) _⟩

set_option maxRecDepth 100000 in
set_option maxHeartbeats 4000000 in
theorem add_twice (h : HeadD) (ok : h.Ok) (ss : List Text) (n : Nat) (hn47 : n ≤ 1099511627776) (A : Option Addr) (c : Nat) (hnil : A = none → n = 0 ∧ c = 0) (q : Text) (k : Nat) (hk : q.length = k) (Ak : Option Addr) (ck : Nat) (hkc : k ≤ ck) (hkn : Ak = none → k = 0 ∧ ck = 0) (s : Text) (hs : Hid ((signAns h q).1 = s)) (k1 : Int) (hk1 : Hid ((signAns h q).2 = k1)) (hk0 : k1 = 0) (hno : Hid (rising kyS ss = none)) (w : World) (hB : Base w) (hS : Sgs w A n ss) (hq : Reads w 1 Ak k (cells8 q)) :
    Calls Tryd.prog 9 #[.agg (noteCells h (.slice A n c)).toArray, .slice Ak k ck] w fun e w' => e = .returned (.tuple #[.agg Z99, .int .i64 92]) ∧ Below w.heap.size w w' := by
  have ok' := Lib.hid ok
  have hn7 := Lib.hid hn47
  have hnl := Lib.hid hnil
  have hk' := Lib.hid hk
  have hkc' := Lib.hid hkc
  have hkn' := Lib.hid hkn
  have hs64 : Hid (s.length = 64) := by show _ = _; rw [← hs.out]; exact signAns_len h q
  obtain ⟨w0, hw0⟩ : ∃ w0, Hid ((w.alloc (.cells (noteCells h (.slice A n c)).toArray 28)).alloc (.cells Z99 28) = w0) := ⟨_, Lib.hid rfl⟩
  have D0 : Hid (AD w w0 h A n c) := by show AD _ _ _ _ _ _; rw [← hw0.out]; exact AD.new
  have hw0' : (w.alloc (.cells (noteCells h (.slice A n c)).toArray 28)).alloc (.cells Tryd.zeroCells28 28) = w0 := hw0.out
  have hS0 : Hid (∀ w', Below w.heap.size w w' → Sgs w' A n ss) := fun w' hb => hS.below hb
  have hq0 : Hid (∀ w', Below w.heap.size w w' → Reads w' 1 Ak k (cells8 q)) := fun w' hb => hq.below hb
  have hBs : Hid (∀ w', Below w.heap.size w w' → Base w') := fun w' hb => hB.below hb hB.1
  have hsz : Hid ((Tryd.prog.info? 25).map (·.size) = some (headCells h).length) := by show _ = _; rw [headCells_len ok]; exact size98
  have s1 := Lib.hid (sign_size s hs64.out)
  have s2 := Lib.hid (sign_zero s hs64.out)
  have s3 := Lib.hid (sign_one s)
  have z1 := Lib.hid (fun v => note_size ok v)
  have z2 := Lib.hid (fun v => note_zero ok v)
  have z3 := Lib.hid (fun A n c => note_one (h := h) A n c)
  have hbn := Lib.hid (fun A n c w' => run_note ok A n c w')
  clear hw0 ok hnil hk hkc hkn hB hS hq hn47
  subst hk0
  go_enter Tryd.func9, Tryd.ntmps9
  go_wp2_with (first
    | (((with_reducible change wpList _ _ _ ({ dst := some 14, op := _, type := _, pos := _, after := _, guard := _ } :: _) _ _); refine wpList_load_part (o := ⟨some 14, _, _, _, _, _⟩) rfl 25 (.tmp 13) rfl (w.heap.size) (0) rfl (headCells h) _ D0.out.head Tryd.underlying25 rfl hsz.out ?_))
    | (go_at_call 23; refine (headSign_any h ok'.out q k hk'.out Ak ck w0 (hBs.out w0 D0.out.far) (hq0.out w0 D0.out.far) hkc'.out hkn'.out).mono ?_; rw [hs.out, hk1.out]; rintro e w1 ⟨rfl, hb1⟩; have D1 := Lib.hid (D0.out.below hb1); clear hb1 D0)
    | ((with_reducible change wpList _ _ _ ({ dst := none, op := Op.store 43 (.tmp 6) (.tmp 17), type := _, pos := _, after := _, guard := _ } :: _) _ _); refine wpList_store_all (o := ⟨none, _, _, _, _, _⟩) rfl 43 (.tmp 6) (.tmp 17) rfl w1.heap.size (cells8 s).toArray rfl rfl 43 Z64 (Blk.new w1 _ _) s1.out s2.out s3.out ?_; intro w2 hB2 hk2; have D2 := Lib.hid (D1.out.below (Held.kept_fresh hk2)); have S2 : Hid (Blk w2 w1.heap.size 43 (cells8 s).toArray) := hB2; have hg1 : Hid (w.heap.size + 1 < w1.heap.size) := D1.out.size; clear hk2 hB2 D1; generalize w1.heap.size = gs at *; have r2 := D2.out.row ok'.out)
    | (go_at_call 26; refine (rising_all ss n (by have := hn7.out; omega) A c w2 (hS0.out w2 D2.out.far) hnl.out).mono ?_; rintro e w3 ⟨A1, c1, ds, rfl, hri, hO3, hb3⟩; have D3 := Lib.hid (D2.out.below hb3.out); have S3 : Hid (Blk w3 gs 43 (cells8 s).toArray) := (hb3.out.block _ S2.out.lt).trans S2.out; rw [hno.out] at hri; have hr0 := none_no hri.out; rw [hr0]; clear hri)
    | ((with_reducible change wpList _ _ _ ({ dst := none, op := Op.store 28 (.tmp 4) (.tmp 31), type := _, pos := _, after := _, guard := _ } :: _) _ _); refine wpList_store_row (o := ⟨none, _, _, _, _, _⟩) rfl 28 (.tmp 4) (.tmp 31) rfl (w.heap.size + 1) Z99 rfl rfl 28 Z99 D3.out.res size99' rfl one99 ?_))
  refine bodyPost_ret (results_cell_row2 rfl _ _ (w.heap.size + 1) 28 Z99 (0, 0) _ rfl (setRow_heap _ _ _ _ _ _ D3.out.res) Tryd.underlying28 rfl size99') rfl ?_
  exact ⟨rfl, below_setRow D3.out.far (by omega) _⟩

set_option maxRecDepth 100000 in
set_option maxHeartbeats 4000000 in
theorem add_yes (h : HeadD) (ok : h.Ok) (ss : List Text) (n : Nat) (hn47 : n ≤ 1099511627776) (A : Option Addr) (c : Nat) (hnil : A = none → n = 0 ∧ c = 0) (q : Text) (k : Nat) (hk : q.length = k) (Ak : Option Addr) (ck : Nat) (hkc : k ≤ ck) (hkn : Ak = none → k = 0 ∧ ck = 0) (s : Text) (hs : Hid ((signAns h q).1 = s)) (k1 : Int) (hk1 : Hid ((signAns h q).2 = k1)) (hk0 : k1 = 0) (rs : List Text) (hrs : Hid (rising kyS ss = some rs)) (w : World) (hB : Base w) (hS : Sgs w A n ss) (hq : Reads w 1 Ak k (cells8 q)) :
    Calls Tryd.prog 9 #[.agg (noteCells h (.slice A n c)).toArray, .slice Ak k ck] w fun e w' => AddYes ss s h w e w' := by
  have ok' := Lib.hid ok
  have hn7 := Lib.hid hn47
  have hnl := Lib.hid hnil
  have hk' := Lib.hid hk
  have hkc' := Lib.hid hkc
  have hkn' := Lib.hid hkn
  have hs64 : Hid (s.length = 64) := by show _ = _; rw [← hs.out]; exact signAns_len h q
  obtain ⟨w0, hw0⟩ : ∃ w0, Hid ((w.alloc (.cells (noteCells h (.slice A n c)).toArray 28)).alloc (.cells Z99 28) = w0) := ⟨_, Lib.hid rfl⟩
  have D0 : Hid (AD w w0 h A n c) := by show AD _ _ _ _ _ _; rw [← hw0.out]; exact AD.new
  have hw0' : (w.alloc (.cells (noteCells h (.slice A n c)).toArray 28)).alloc (.cells Tryd.zeroCells28 28) = w0 := hw0.out
  have hS0 : Hid (∀ w', Below w.heap.size w w' → Sgs w' A n ss) := fun w' hb => hS.below hb
  have hq0 : Hid (∀ w', Below w.heap.size w w' → Reads w' 1 Ak k (cells8 q)) := fun w' hb => hq.below hb
  have hBs : Hid (∀ w', Below w.heap.size w w' → Base w') := fun w' hb => hB.below hb hB.1
  have hsz : Hid ((Tryd.prog.info? 25).map (·.size) = some (headCells h).length) := by show _ = _; rw [headCells_len ok]; exact size98
  have s1 := Lib.hid (sign_size s hs64.out)
  have s2 := Lib.hid (sign_zero s hs64.out)
  have s3 := Lib.hid (sign_one s)
  have z1 := Lib.hid (fun v => note_size ok v)
  have z2 := Lib.hid (fun v => note_zero ok v)
  have z3 := Lib.hid (fun A n c => note_one (h := h) A n c)
  have hbn := Lib.hid (fun A n c w' => run_note ok A n c w')
  clear hw0 ok hnil hk hkc hkn hB hS hq hn47
  subst hk0
  have hrsl := Lib.hid (rising_some hrs.out)
  go_enter Tryd.func9, Tryd.ntmps9
  go_upto_region 8 with (first
    | (((with_reducible change wpList _ _ _ ({ dst := some 14, op := _, type := _, pos := _, after := _, guard := _ } :: _) _ _); refine wpList_load_part (o := ⟨some 14, _, _, _, _, _⟩) rfl 25 (.tmp 13) rfl (w.heap.size) (0) rfl (headCells h) _ D0.out.head Tryd.underlying25 rfl hsz.out ?_))
    | (go_at_call 23; refine (headSign_any h ok'.out q k hk'.out Ak ck w0 (hBs.out w0 D0.out.far) (hq0.out w0 D0.out.far) hkc'.out hkn'.out).mono ?_; rw [hs.out, hk1.out]; rintro e w1 ⟨rfl, hb1⟩; have D1 := Lib.hid (D0.out.below hb1); clear hb1 D0)
    | ((with_reducible change wpList _ _ _ ({ dst := none, op := Op.store 43 (.tmp 6) (.tmp 17), type := _, pos := _, after := _, guard := _ } :: _) _ _); refine wpList_store_all (o := ⟨none, _, _, _, _, _⟩) rfl 43 (.tmp 6) (.tmp 17) rfl w1.heap.size (cells8 s).toArray rfl rfl 43 Z64 (Blk.new w1 _ _) s1.out s2.out s3.out ?_; intro w2 hB2 hk2; have D2 := Lib.hid (D1.out.below (Held.kept_fresh hk2)); have S2 : Hid (Blk w2 w1.heap.size 43 (cells8 s).toArray) := hB2; have hg1 : Hid (w.heap.size + 1 < w1.heap.size) := D1.out.size; clear hk2 hB2 D1; generalize w1.heap.size = gs at *; have r2 := D2.out.row ok'.out)
    | (go_at_call 26; refine (rising_all ss n (by have := hn7.out; omega) A c w2 (hS0.out w2 D2.out.far) hnl.out).mono ?_; rintro e w3 ⟨A1, c1, ds, rfl, hri, hO3, hb3⟩; have D3 := Lib.hid (D2.out.below hb3.out); have S3 : Hid (Blk w3 gs 43 (cells8 s).toArray) := (hb3.out.block _ S2.out.lt).trans S2.out; rw [hrs.out] at hri; obtain ⟨hr0, rfl⟩ := some_yes hri.out; rw [hr0]; clear hri; have hSg3 : Hid (Sgs w3 A1 n rs) := (by obtain ⟨A9, c9, e9, -, -, -, x, -⟩ := hO3.out.reads; injection e9 with e9 _ e10; subst e9 e10; exact x); have hg2 : Hid (w.heap.size + 1 < w2.heap.size ∧ gs < w2.heap.size) := ⟨D2.out.size, S2.out.lt⟩; have hb3s : Hid (w2.heap.size ≤ w3.heap.size) := hb3.out.size; clear D2 S2 hb3; generalize w2.heap.size = B2 at *)
    | (((with_reducible change wpList _ _ _ ({ dst := some 34, op := _, type := _, pos := _, after := _, guard := _ } :: _) _ _); refine wpList_load_row (o := ⟨some 34, _, _, _, _, _⟩) rfl 43 (.tmp 6) rfl (gs) rfl 43 ((cells8 s).toArray) (0, 0) _ S3.out Tryd.underlying43 rfl s1.out ?_))
    | (go_at_call 27; refine (bin_any rs n hn7.out hrsl.out.1 s hs64.out A1 c1 w3 hSg3.out).mono ?_; rintro e w4 ⟨i, f, rfl, hAt, hb4⟩; have D4 := Lib.hid (D3.out.below hb4); have S4 : Hid (Blk w4 gs 43 (cells8 s).toArray) := (hb4.block _ S3.out.lt).trans S3.out; have hO4 := Lib.hid (hO3.out.below hb4); replace hAt := Lib.hid hAt; have hb34 : Hid (B2 ≤ w4.heap.size) := (by have := hb3s.out; have := hb4.size; show _ ≤ _; omega); clear hb4 S3 D3 hO3 hSg3))
  have hrl : Hid (rs.length = n) := hO4.out.2.1
  have hBw : Hid (w.heap.size ≤ B2) := by show _ ≤ _; have := hg2.out.1; omega
  have hsl : Hid (B2 ≤ w4.heap.size) := hb34.out
  cases f with
  | true =>
    obtain ⟨hr5, hm5, hi5⟩ := add_found hrs.out hAt.out
    rw [hrl.out] at hm5 hi5
    replace hr5 := Lib.hid hr5
    replace hm5 := Lib.hid hm5
    have hz1 : (i : Int) < (n : Int) := by omega
    have hz0 : (0 : Int) ≤ (i : Int) := by omega
    have hi5' := Lib.hid hi5
    obtain ⟨gr, hgr⟩ := own_some hO4.out (by omega)
    subst hgr
    obtain ⟨hBg, cur, hBc, hfit, hset⟩ := own_set hO4.out hi5 hs64.out
    replace hBg := Lib.hid hBg
    replace hBc := Lib.hid hBc
    replace hfit := Lib.hid hfit
    replace hset := Lib.hid hset
    clear hi5
    go_upto_region 11 with (first
    | (((with_reducible change wpList _ _ _ ({ dst := some 41, op := _, type := _, pos := _, after := _, guard := _ } :: _) _ _); refine wpList_load_row (o := ⟨some 41, _, _, _, _, _⟩) rfl 43 (.tmp 6) rfl (gs) rfl 43 ((cells8 s).toArray) (0, 0) _ S4.out Tryd.underlying43 rfl s1.out ?_))
    | ((with_reducible change wpList _ _ _ ({ dst := none, op := Op.store 43 (.tmp 42) (.tmp 41), type := _, pos := _, after := _, guard := _ } :: _) _ _); refine wpList_store_at (o := ⟨none, _, _, _, _, _⟩) rfl 43 (.tmp 42) (.tmp 41) rfl gr (i * 64) (cells8 s) rfl rfl 43 cur hBc.out (size26.trans (congrArg some (by rw [cells8_len, hs64.out]))) hfit.out (cells8_one _) ?_; intro w5 hB5 hk5; have hO5 := Lib.hid (hset.out w5 hB5.out); have D5 := Lib.hid (D4.out.on hg2.out.1 (Kept.below_of hk5 hBg.out hsl.out)); clear hk5 hB5 D4 S4 hO4 hBc hset))
    by_cases h16 : 16 < n
    · have x6 : (16 : Int) < ((n : Nat) : Int) := by omega
      go_wp2_with ((with_reducible change wpList _ _ _ ({ dst := none, op := Op.store 28 (.tmp 4) (.tmp 51), type := _, pos := _, after := _, guard := _ } :: _) _ _); refine wpList_store_row (o := ⟨none, _, _, _, _, _⟩) rfl 28 (.tmp 4) (.tmp 51) rfl (w.heap.size + 1) Z99 rfl rfl 28 Z99 D5.out.res size99' rfl one99 ?_)
      refine bodyPost_ret (results_cell_row2 rfl _ _ (w.heap.size + 1) 28 Z99 (0, 0) _ rfl (setRow_heap _ _ _ _ _ _ D5.out.res) Tryd.underlying28 rfl size99') rfl ?_
      exact ⟨_, _, none, rfl, below_setRow D5.out.far (by omega) _, fin_many hm5.out h16, rfl⟩
    · have x6 : ¬ ((16 : Int) < ((n : Nat) : Int)) := by omega
      obtain ⟨NC, hNC⟩ : ∃ NC, Hid ((noteCells h (.slice (some ⟨gr, 0, none⟩) (n) c1)).toArray = NC) := ⟨_, Lib.hid rfl⟩
      have y1 := z1.out (.slice (some ⟨gr, 0, none⟩) (n) c1)
      have y2 := z2.out (.slice (some ⟨gr, 0, none⟩) (n) c1)
      have y3 := z3.out (some ⟨gr, 0, none⟩) (n) c1
      have y4 := Lib.hid (fun w' => hbn.out (some ⟨gr, 0, none⟩) (n) c1 w')
      rw [hNC.out] at y1 y2 y3 y4
      replace y1 := Lib.hid y1
      replace y2 := Lib.hid y2
      replace y3 := Lib.hid y3
      go_wp2_with (first
        | (((with_reducible change wpList _ _ _ ({ dst := some 53, op := _, type := _, pos := _, after := _, guard := _ } :: _) _ _); refine wpList_load_part (o := ⟨some 53, _, _, _, _, _⟩) rfl 25 (.tmp 52) rfl (w.heap.size) (0) rfl (headCells h) _ D5.out.head Tryd.underlying25 rfl hsz.out ?_))
        | ((with_reducible change wpList _ _ _ ({ dst := some 55, op := _, type := _, pos := _, after := _, guard := _ } :: _) _ _); refine wpList_buildF (o := ⟨some 55, _, _, _, _, _⟩) rfl 28 #[(0, .tmp 53), (1, .tmp 54)] rfl #[(0, .agg (headCells h).toArray), (1, .slice (some ⟨gr, 0, none⟩) (n) c1)] (by simp; exact ⟨rfl, rfl⟩) _ (y4.out _) ?_)
        | ((with_reducible change wpList _ _ _ ({ dst := none, op := Op.store 28 (.tmp 4) (.tmp 55), type := _, pos := _, after := _, guard := _ } :: _) _ _); refine wpList_store_all (o := ⟨none, _, _, _, _, _⟩) rfl 28 (.tmp 4) (.tmp 55) rfl (w.heap.size + 1) NC rfl rfl 28 Z99 D5.out.res y1.out y2.out y3.out ?_; intro w9 hB9 hk9; have hO9 := Lib.hid (own_off hO5.out hk9 (by intro k e; have := hg2.out.1; omega)); have hb9 : Hid (Below w.heap.size w w9) := D5.out.far.trans (Kept.below_of hk9 (by omega) D5.out.far.size); have hR9 := hB9; clear hk9 hB9))
      refine bodyPost_ret (results_cell_row2 rfl _ _ (w.heap.size + 1) 28 NC (0, 0) _ rfl hR9.out Tryd.underlying28 rfl y1.out) rfl ?_
      exact ⟨_, _, some (rs.set i s), rfl, hb9.out, fin_some hm5.out h16 hr5.out, (some ⟨gr, 0, none⟩), c1, by rw [hO5.out.2.1, ← hNC.out], by rw [hO5.out.2.1]; exact hO9.out.base hBw.out⟩
  | false =>
    obtain ⟨hr5, hm5⟩ := add_new hrs.out hAt.out
    rw [hrl.out] at hm5
    replace hr5 := Lib.hid hr5
    replace hm5 := Lib.hid hm5
    have hin : Hid (i ≤ n) := by show _ ≤ _; rw [← hrl.out]; exact hAt.out.le
    have hA1 : Hid (A1 ≠ some ⟨w4.heap.size, 0, none⟩) := fun e => by
      rcases hO4.out.2.2.2 with ⟨x, -⟩ | ⟨g9, c9, cur9, x, -, hg9, -⟩
      · injection x with x
        rw [e] at x; cases x
      · injection x with x
        rw [e] at x
        injection x with x
        injection x with x
        have := Blk.lt hg9
        omega
    go_upto_region 11 with (first
    | (((with_reducible change wpList _ _ _ ({ dst := some 45, op := _, type := _, pos := _, after := _, guard := _ } :: _) _ _); refine wpList_load_row (o := ⟨some 45, _, _, _, _, _⟩) rfl 43 (.tmp 6) rfl (gs) rfl 43 ((cells8 s).toArray) (0, 0) _ S4.out Tryd.underlying43 rfl s1.out ?_))
    | ((with_reducible change wpList _ _ _ ({ dst := some 46, op := _, type := _, pos := _, after := _, guard := _ } :: _) _ _); refine wpList_buildAggs (o := ⟨some 46, _, _, _, _, _⟩) rfl 26 43 1 _ rfl 64 (by decide) [cells8 s] Tryd.underlying26 size26 zero26 rfl (by decide) (by decide) (by intro v hv; simp only [List.mem_cons, List.not_mem_nil, or_false] at hv; rw [hv, cells8_len, hs64.out]) rfl ?_; rw [one_flat])
    | (go_at_call 29; refine (insert_any rs n i hn7.out hin.out s hs64.out A1 c1 B2 w4.heap.size _ (hO4.out.below (Below.heap_below w4 _)) (Blk.new w4 _ _) hA1.out (by simp; have := hsl.out; omega)).mono ?_; rintro e w5 ⟨v, rfl, hO5, hb5⟩; have D5 := Lib.hid ((D4.out.below (Below.heap_below w4 _)).on hg2.out.1 hb5); obtain ⟨A9, c9, rfl, -⟩ := hO5.reads; replace hO5 := Lib.hid hO5; clear hb5 D4 S4 hO4))
    by_cases h16 : 16 < n + 1
    · have x6 : (16 : Int) < ((n + 1 : Nat) : Int) := by omega
      go_wp2_with ((with_reducible change wpList _ _ _ ({ dst := none, op := Op.store 28 (.tmp 4) (.tmp 51), type := _, pos := _, after := _, guard := _ } :: _) _ _); refine wpList_store_row (o := ⟨none, _, _, _, _, _⟩) rfl 28 (.tmp 4) (.tmp 51) rfl (w.heap.size + 1) Z99 rfl rfl 28 Z99 D5.out.res size99' rfl one99 ?_)
      refine bodyPost_ret (results_cell_row2 rfl _ _ (w.heap.size + 1) 28 Z99 (0, 0) _ rfl (setRow_heap _ _ _ _ _ _ D5.out.res) Tryd.underlying28 rfl size99') rfl ?_
      exact ⟨_, _, none, rfl, below_setRow D5.out.far (by omega) _, fin_many hm5.out h16, rfl⟩
    · have x6 : ¬ ((16 : Int) < ((n + 1 : Nat) : Int)) := by omega
      obtain ⟨NC, hNC⟩ : ∃ NC, Hid ((noteCells h (.slice A9 (n + 1) c9)).toArray = NC) := ⟨_, Lib.hid rfl⟩
      have y1 := z1.out (.slice A9 (n + 1) c9)
      have y2 := z2.out (.slice A9 (n + 1) c9)
      have y3 := z3.out A9 (n + 1) c9
      have y4 := Lib.hid (fun w' => hbn.out A9 (n + 1) c9 w')
      rw [hNC.out] at y1 y2 y3 y4
      replace y1 := Lib.hid y1
      replace y2 := Lib.hid y2
      replace y3 := Lib.hid y3
      go_wp2_with (first
        | (((with_reducible change wpList _ _ _ ({ dst := some 53, op := _, type := _, pos := _, after := _, guard := _ } :: _) _ _); refine wpList_load_part (o := ⟨some 53, _, _, _, _, _⟩) rfl 25 (.tmp 52) rfl (w.heap.size) (0) rfl (headCells h) _ D5.out.head Tryd.underlying25 rfl hsz.out ?_))
        | ((with_reducible change wpList _ _ _ ({ dst := some 55, op := _, type := _, pos := _, after := _, guard := _ } :: _) _ _); refine wpList_buildF (o := ⟨some 55, _, _, _, _, _⟩) rfl 28 #[(0, .tmp 53), (1, .tmp 54)] rfl #[(0, .agg (headCells h).toArray), (1, .slice A9 (n + 1) c9)] (by simp; exact ⟨rfl, rfl⟩) _ (y4.out _) ?_)
        | ((with_reducible change wpList _ _ _ ({ dst := none, op := Op.store 28 (.tmp 4) (.tmp 55), type := _, pos := _, after := _, guard := _ } :: _) _ _); refine wpList_store_all (o := ⟨none, _, _, _, _, _⟩) rfl 28 (.tmp 4) (.tmp 55) rfl (w.heap.size + 1) NC rfl rfl 28 Z99 D5.out.res y1.out y2.out y3.out ?_; intro w9 hB9 hk9; have hO9 := Lib.hid (own_off hO5.out hk9 (by intro k e; have := hg2.out.1; omega)); have hb9 : Hid (Below w.heap.size w w9) := D5.out.far.trans (Kept.below_of hk9 (by omega) D5.out.far.size); have hR9 := hB9; clear hk9 hB9))
      refine bodyPost_ret (results_cell_row2 rfl _ _ (w.heap.size + 1) 28 NC (0, 0) _ rfl hR9.out Tryd.underlying28 rfl y1.out) rfl ?_
      exact ⟨_, _, some (mid rs i s), rfl, hb9.out, fin_some hm5.out h16 hr5.out, A9, c9, by rw [hO5.out.2.1, ← hNC.out], by rw [hO5.out.2.1]; exact hO9.out.base hBw.out⟩

def AddOut (h : HeadD) (ss : List Text) (q : Text) (w : World) (e : Ending) (w' : World) : Prop := ∃ V, e = .returned (.tuple #[V, .int .i64 (addAns h ss q).2]) ∧ Below w.heap.size w w' ∧ AddPost w.heap.size w' h V (addAns h ss q).1
theorem out_refused {h : HeadD} {ss : List Text} {q : Text} {w w' : World} {e : Ending} {k1 : Int} (hk : (signAns h q).2 = k1) (hk0 : ¬ k1 = 0) (he : e = .returned (.tuple #[.agg Z99, .int .i64 k1])) (hb : Below w.heap.size w w') : AddOut h ss q w e w' := by
  have : addAns h ss q = (none, k1) := by unfold addAns; rw [hk, if_neg hk0]
  exact ⟨_, by rw [this]; exact he, hb, by rw [this]; exact rfl⟩
theorem out_twice {h : HeadD} {ss : List Text} {q : Text} {w w' : World} {e : Ending} (hk : (signAns h q).2 = 0) (hr : rising kyS ss = none) (he : e = .returned (.tuple #[.agg Z99, .int .i64 92])) (hb : Below w.heap.size w w') : AddOut h ss q w e w' := by
  have : addAns h ss q = (none, 92) := by unfold addAns; rw [if_pos hk, hr]; rfl
  exact ⟨_, by rw [this]; exact he, hb, by rw [this]; exact rfl⟩
theorem out_yes {h : HeadD} {ss rs : List Text} {q : Text} {w w' : World} {e : Ending} (hk : (signAns h q).2 = 0) (hr : rising kyS ss = some rs) (hy : AddYes ss (signAns h q).1 h w e w') : AddOut h ss q w e w' := by
  obtain ⟨V, k2, o, he, hb, hf, hp⟩ := hy
  have : addAns h ss q = (o, k2) := by unfold addAns; rw [if_pos hk, hr, ← hf.out]; rfl
  exact ⟨V, by rw [this]; exact he, hb, by rw [this]; exact hp⟩
theorem add_any (h : HeadD) (ok : h.Ok) (ss : List Text) (n : Nat) (hn47 : n ≤ 1099511627776) (A : Option Addr) (c : Nat) (hnil : A = none → n = 0 ∧ c = 0) (q : Text) (k : Nat) (hk : q.length = k) (Ak : Option Addr) (ck : Nat) (hkc : k ≤ ck) (hkn : Ak = none → k = 0 ∧ ck = 0) (w : World) (hB : Base w) (hS : Sgs w A n ss) (hq : Reads w 1 Ak k (cells8 q)) :
    Calls Tryd.prog 9 #[.agg (noteCells h (.slice A n c)).toArray, .slice Ak k ck] w (AddOut h ss q w) := by
  by_cases h0 : (signAns h q).2 = 0
  · cases hr : rising kyS ss with
    | none => exact (add_twice h ok ss n hn47 A c hnil q k hk Ak ck hkc hkn _ rfl _ rfl h0 hr w hB hS hq).mono fun e w' ⟨he, hb⟩ => out_twice h0 hr he hb
    | some rs => exact (add_yes h ok ss n hn47 A c hnil q k hk Ak ck hkc hkn _ rfl _ rfl h0 rs hr w hB hS hq).mono fun e w' hy => out_yes h0 hr hy
  · exact (add_refused h ok ss n hn47 A c hnil q k hk Ak ck hkc hkn _ rfl _ rfl h0 w hB hS hq).mono fun e w' ⟨he, hb⟩ => out_refused rfl h0 he hb
end Go.Proofs.YteelanamlhfmgaaDoor.Add

namespace Go.Proofs.YteelanamlhfmgaaDoor.RefAdd
open Go Go.RowKit Go.Proofs.YteelanamlhfmgaaDoor Go.Proofs.YteelanamlhfmgaaDoor.Mem Go.Proofs.YteelanamlhfmgaaDoor.Sha Go.Proofs.YteelanamlhfmgaaDoor.Bytes Go.Proofs.YteelanamlhfmgaaDoor.SortP Go.Proofs.YteelanamlhfmgaaDoor.NoteP Go.Proofs.YteelanamlhfmgaaDoor.QuietTail Go.Proofs.YteelanamlhfmgaaDoor.Grown Go.Proofs.YteelanamlhfmgaaDoor.Want Go.Proofs.YteelanamlhfmgaaDoor.Append Go.Proofs.YteelanamlhfmgaaDoor.Own Go.Proofs.YteelanamlhfmgaaDoor.Rise Go.Proofs.YteelanamlhfmgaaDoor.SortM Go.Proofs.YteelanamlhfmgaaDoor.SgM Go.Proofs.YteelanamlhfmgaaDoor.HashMem Go.Proofs.YteelanamlhfmgaaDoor.HeadMem Go.Proofs.YteelanamlhfmgaaDoor.EncNoteP Go.Proofs.YteelanamlhfmgaaDoor.EncNote Go.Proofs.YteelanamlhfmgaaDoor.RowS Go.Proofs.YteelanamlhfmgaaDoor.NoteM Go.Proofs.YteelanamlhfmgaaDoor.RefNote Go.Proofs.YteelanamlhfmgaaDoor.Insert Go.Proofs.YteelanamlhfmgaaDoor.Bin Go.Proofs.YteelanamlhfmgaaDoor.Sign Go.Proofs.YteelanamlhfmgaaDoor.Signs Go.Proofs.YteelanamlhfmgaaDoor.RefSigns Go.Proofs.YteelanamlhfmgaaDoor.RefRising Go.Proofs.YteelanamlhfmgaaDoor.AddP Go.Proofs.YteelanamlhfmgaaDoor.Add Go.Proofs.YteelanamlhfmgaaDoor.Decode Go.Proofs.YteelanamlhfmgaaDoor.HeadTake Go.Proofs.YteelanamlhfmgaaDoor.Fill Go.Proofs.YteelanamlhfmgaaDoor.DigEq

theorem fin_is {ss rs : List Text} {s : Text} (hr : rising kyS ss = some rs) : ∃ r, rising kyS (s :: others ss s) = some r := by
  cases h : rising kyS (s :: others ss s) with
  | some r => exact ⟨r, rfl⟩
  | none =>
    refine absurd ?_ (rising_none h)
    obtain ⟨h1, h2⟩ := rising_some hr
    have h3 : rs.Pairwise (fun a b => kyS a ≠ kyS b) := h1.imp fun x => lex_ne x
    have h4 : ss.Pairwise (fun a b => kyS a ≠ kyS b) := (h2.pairwise_iff (fun {_ _} x => x.symm)).1 h3
    rw [List.pairwise_cons]
    refine ⟨fun y hy => ?_, h4.sublist List.filter_sublist⟩
    have := (List.mem_filter.1 hy).2
    simp at this
    exact fun e => this e.symm
end Go.Proofs.YteelanamlhfmgaaDoor.RefAdd

namespace Go.Proofs.YteelanamlhfmgaaDoor.HeadAdds
open Go Go.RowKit Go.Proofs.YteelanamlhfmgaaDoor Go.Proofs.YteelanamlhfmgaaDoor.Mem Go.Proofs.YteelanamlhfmgaaDoor.Sha Go.Proofs.YteelanamlhfmgaaDoor.Bytes Go.Proofs.YteelanamlhfmgaaDoor.SortP Go.Proofs.YteelanamlhfmgaaDoor.NoteP Go.Proofs.YteelanamlhfmgaaDoor.QuietTail Go.Proofs.YteelanamlhfmgaaDoor.Grown Go.Proofs.YteelanamlhfmgaaDoor.Want Go.Proofs.YteelanamlhfmgaaDoor.Guard2 Go.Proofs.YteelanamlhfmgaaDoor.Append Go.Proofs.YteelanamlhfmgaaDoor.Own Go.Proofs.YteelanamlhfmgaaDoor.Rise Go.Proofs.YteelanamlhfmgaaDoor.SortM Go.Proofs.YteelanamlhfmgaaDoor.SgM Go.Proofs.YteelanamlhfmgaaDoor.HashMem Go.Proofs.YteelanamlhfmgaaDoor.HeadMem Go.Proofs.YteelanamlhfmgaaDoor.EncNoteP Go.Proofs.YteelanamlhfmgaaDoor.EncNote Go.Proofs.YteelanamlhfmgaaDoor.RowS Go.Proofs.YteelanamlhfmgaaDoor.Fill Go.Proofs.YteelanamlhfmgaaDoor.NoteM Go.Proofs.YteelanamlhfmgaaDoor.SignEq Go.Proofs.YteelanamlhfmgaaDoor.CmpW Go.Proofs.YteelanamlhfmgaaDoor.SameSigns Go.Proofs.YteelanamlhfmgaaDoor.Stranger Go.Proofs.YteelanamlhfmgaaDoor.Given Go.Proofs.YteelanamlhfmgaaDoor.HeadTake Go.Proofs.YteelanamlhfmgaaDoor.HeadTake2 Go.Proofs.YteelanamlhfmgaaDoor.Decode Go.Proofs.YteelanamlhfmgaaDoor.Kept16 Go.Proofs.YteelanamlhfmgaaDoor.RefNote Go.Proofs.YteelanamlhfmgaaDoor.Sign Go.Proofs.YteelanamlhfmgaaDoor.Signs Go.Proofs.YteelanamlhfmgaaDoor.AddP Go.Proofs.YteelanamlhfmgaaDoor.Add Go.Proofs.YteelanamlhfmgaaDoor.RefAdd Go.Proofs.YteelanamlhfmgaaDoor.Law16 Go.Proofs.YteelanamlhfmgaaDoor.Held

def addH (h : HeadD) : Option (List Text) → HeadD
  | none => h0
  | some _ => h
theorem add_zero {h : HeadD} {ss : List Text} {q : Text} {o : Option (List Text)} {k : Int} (ha : addAns h ss q = (o, k)) (hk : k = 0) : addH h o = h ∧ (o.getD []).length ≤ 16 := by
  subst hk
  unfold addAns at ha
  by_cases h1 : (signAns h q).2 = 0
  · rw [if_pos h1] at ha
    cases hr : rising kyS ss with
    | none => rw [hr] at ha; cases ha
    | some rs =>
      rw [hr] at ha
      have ha : addFin ss (signAns h q).1 = (o, 0) := ha
      unfold addFin at ha
      by_cases h2 : 16 < (others ss (signAns h q).1).length + 1
      · rw [if_pos h2] at ha; cases ha
      · rw [if_neg h2] at ha
        obtain ⟨r, h3⟩ := fin_is (s := (signAns h q).1) hr
        rw [h3] at ha
        injection ha with ha
        subst ha
        refine ⟨rfl, ?_⟩
        show r.length ≤ 16
        rw [rising_len h3, List.length_cons]
        omega
  · rw [if_neg h1] at ha
    injection ha with _ ha
    exact absurd ha h1
/-- What adding leaves, with letters for its answer. -/
theorem out_note {h H : HeadD} {ss r : List Text} {q : Text} {w w' : World} {e : Ending} {o : Option (List Text)} {k : Int} {m : Nat} (ha : addAns h ss q = (o, k)) (hH : addH h o = H) (hr : o.getD [] = r) (hm : r.length = m) (ho : AddOut h ss q w e w') :
    ∃ A c, e = .returned (.tuple #[.agg (noteCells H (.slice A m c)).toArray, .int .i64 k]) ∧ Below w.heap.size w w' ∧ OwnS w' w.heap.size (.slice A m c) m r := by
  obtain ⟨V, he, hb, hp⟩ := ho
  rw [ha] at he hp
  subst hr hH hm
  cases o with
  | none =>
    obtain rfl : V = .agg Z99 := hp
    exact ⟨none, 0, by rw [he, ← z99_eq]; rfl, hb, OwnS.nil _ _⟩
  | some r =>
    obtain ⟨A, c, rfl, hO⟩ := hp
    exact ⟨A, c, he, hb, hO⟩
structure FitN (cs : Array Value) : Prop where
  size : (Tryd.prog.info? 28).map (·.size) = some cs.size
  zero : Z99.size = cs.size
  one : cs.all (fun v => v.oneCell') = true
theorem fitN {h : HeadD} (ok : h.Ok) (A : Option Addr) (n c : Nat) : FitN (noteCells h (.slice A n c)).toArray := ⟨note_size ok _, note_zero ok _, note_one _ _ _⟩
theorem _root_.Go.Proofs.YteelanamlhfmgaaDoor.SgM.OwnS.keptN {w w' : World} {B n m : Nat} {v : Value} {ds : List Text} {cs : Array Value} (h : OwnS w B v n ds) (bb : Blk w m 28 cs) (hk : Kept (· = m) w w') : OwnS w' B v n ds := by
  obtain ⟨h1, h2, hFl, hown⟩ := h
  refine ⟨h1, h2, hFl, ?_⟩
  rcases hown with h | ⟨g, c, cur, hv, hBg, hg, hnc, hcm, hcs, htk⟩
  · exact .inl h
  · refine .inr ⟨g, c, cur, hv, hBg, Blk.kept hg hk (fun x => ?_), hnc, hcm, hcs, htk⟩
    have x : g = m := x
    subst x
    have e : some (Obj.cells cur 43 (0, 0)) = some (Obj.cells cs 28 (0, 0)) := hg.symm.trans bb
    simp at e
theorem own_sgs {w : World} {B n c : Nat} {A : Option Addr} {ds : List Text} (h : OwnS w B (.slice A n c) n ds) : Sgs w A n ds ∧ (A = none → n = 0 ∧ c = 0) := by
  obtain ⟨A9, c9, e9, -, -, x0, x, -⟩ := h.reads
  injection e9 with e9 _ e10
  subst e9 e10
  exact ⟨x, x0⟩
end Go.Proofs.YteelanamlhfmgaaDoor.HeadAdds
