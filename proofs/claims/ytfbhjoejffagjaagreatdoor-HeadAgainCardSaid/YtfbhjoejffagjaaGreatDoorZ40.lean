/-
  Texts of the claim, put into one file: AddP, Add, RefAdd, HeadAdds.
-/
import Derived.Test.YtfbhjoejffagjaaGreatDoorZ29
import Derived.Test.YtfbhjoejffagjaaGreatDoorZ39
import Derived.Test.YtfbhjoejffagjaaGreatDoorZ24
import Derived.Test.YtfbhjoejffagjaaGreatDoorZ35
import Derived.Test.YtfbhjoejffagjaaGreatDoorZ31
import Derived.Test.YtfbhjoejffagjaaGreatDoorZ30
import Derived.Deep.Cut
import Derived.Test.YtfbhjoejffagjaaGreatDoorZ33
import Derived.Test.YtfbhjoejffagjaaGreatDoorZ32
import Derived.Test.YtfbhjoejffagjaaGreatDoorZ5
import Derived.Test.YtfbhjoejffagjaaGreatDoorZ10
import Derived.Deep.CutRange

namespace Go.Proofs.YtfbhjoejffagjaaGreatDoor.AddP
open Go Go.RowKit Go.Proofs.YtfbhjoejffagjaaGreatDoor Mem Sha Bytes SortP NoteP Grown Want Go.Proofs.YtfbhjoejffagjaaGreatDoor.Append Own Rise SortM SgM HashMem HeadMem EncNoteP EncNote RowS NoteM RefNote Go.Proofs.YtfbhjoejffagjaaGreatDoor.Insert Bin Signs

def others (ss : List Text) (s : Text) : List Text := ss.filter (fun y => !decide (kyS y = kyS s))
def addFin (ss : List Text) (s : Text) : Option (List Text) × Int := if 16 < (others ss s).length + 1 then (none, 7) else (rising kyS (s :: others ss s), 0)
def addAns (h : HeadD) (ss : List Text) (q : Text) : Option (List Text) × Int :=
 if (signAns h q).2 = 0 then (if (rising kyS ss).isSome then addFin ss (signAns h q).1 else (none, 92)) else (none, (signAns h q).2)
theorem place_found {rs : List Text} {s : Text} {i : Nat} (h : (rs[i]?).map kyS = some (kyS s)) : place (ky := kyS) s i rs = rs.set i s ∧ i < rs.length := by
 have hi : i < rs.length := by
  by_cases hi : i < rs.length
  ·exact hi
  ·rw [List.getElem?_eq_none (by omega)] at h; cases h
 refine ⟨?_, hi⟩
 unfold place
 rw [if_pos h, List.set_eq_take_append_cons_drop, if_pos hi]
theorem place_new {rs : List Text} {s : Text} {i : Nat} (h : ¬ (rs[i]?).map kyS = some (kyS s)) : place (ky := kyS) s i rs = mid rs i s := by
 unfold place mid
 rw [if_neg h]
 simp
theorem add_at {ss rs : List Text} {s : Text} {i : Nat} {f : Bool} (hr : rising kyS ss = some rs) (h : At rs s i f) : rising kyS (s :: others ss s) = some (place (ky := kyS) s i rs) ∧ (others ss s).length + 1 = (place (ky := kyS) s i rs).length := by
 obtain ⟨h1, h2⟩ := rising_some hr
 have h3 := (place_rising (x := s) (n := i) h1 h2 h.low h.high).1
 refine ⟨h3, ?_⟩
 have h4 := rising_len h3
 rw [h4]
 rfl
theorem add_found {ss rs : List Text} {s : Text} {i : Nat} (hr : rising kyS ss = some rs) (h : At rs s i true) : rising kyS (s :: others ss s) = some (rs.set i s) ∧ (others ss s).length + 1 = rs.length ∧ i < rs.length := by
 have hf : (rs[i]?).map kyS = some (kyS s) := by simpa using h.found.symm
 obtain ⟨h1, h2⟩ := add_at hr h
 obtain ⟨h3, h4⟩ := place_found hf
 rw [h3] at h1 h2
 exact ⟨h1, by rw [h2, List.length_set], h4⟩
theorem add_new {ss rs : List Text} {s : Text} {i : Nat} (hr : rising kyS ss = some rs) (h : At rs s i false) : rising kyS (s :: others ss s) = some (mid rs i s) ∧ (others ss s).length + 1 = rs.length + 1 := by
 have hf : ¬ (rs[i]?).map kyS = some (kyS s) := by simpa using h.found.symm
 obtain ⟨h1, h2⟩ := add_at hr h
 rw [place_new hf] at h1 h2
 exact ⟨h1, by rw [h2, mid_len rfl]⟩
theorem fin_many {ss : List Text} {s : Text} {m : Nat} (h : (others ss s).length + 1 = m) (h16 : 16 < m) : addFin ss s = (none, 7) := by unfold addFin; rw [h, if_pos h16]
theorem fin_some {ss r : List Text} {s : Text} {m : Nat} (h : (others ss s).length + 1 = m) (h16 : ¬ 16 < m) (hr : rising kyS (s :: others ss s) = some r) : addFin ss s = (some r, 0) := by unfold addFin; rw [h, if_neg h16, hr]
def AddPost (B : Nat) (w' : World) (h : HeadD) (V : Value) : Option (List Text) → Prop
 | none => V = .agg Z99
 | some r => ∃ A c, V = .agg (noteCells h (.slice A r.length c)).toArray ∧ OwnS w' B (.slice A r.length c) r.length r
structure AD (w0 w : World) (h : HeadD) (A : Option Addr) (n c : Nat) : Prop where
 note : Blk w w0.heap.size 39 (noteCells h (.slice A n c)).toArray
 res : Blk w (w0.heap.size + 1) 39 Z99
 far : Below w0.heap.size w0 w
theorem AD.size {w0 w : World} {h : HeadD} {A : Option Addr} {n c : Nat} (k : AD w0 w h A n c) : w0.heap.size + 1 < w.heap.size := k.res.lt
theorem AD.on {w0 w w' : World} {h : HeadD} {A : Option Addr} {n c B : Nat} (k : AD w0 w h A n c) (hB : w0.heap.size + 1 < B) (hb : Below B w w') : AD w0 w' h A n c :=
 ⟨(hb.block _ (by omega)).trans k.note, (hb.block _ hB).trans k.res, k.far.trans (Below.mono hb (by omega))⟩
theorem AD.below {w0 w w' : World} {h : HeadD} {A : Option Addr} {n c : Nat} (k : AD w0 w h A n c) (hb : Below w.heap.size w w') : AD w0 w' h A n c := k.on k.size hb
theorem AD.new {w : World} {h : HeadD} {A : Option Addr} {n c : Nat} : AD w ((w.alloc (.cells (noteCells h (.slice A n c)).toArray 39)).alloc (.cells Z99 39)) h A n c :=
 ⟨heap_alloc2_old w _ _, heap_alloc2_new w _ _, ((Below.refl _ w).alloc (Nat.le_refl _) _).alloc (by simp) _⟩
theorem AD.head {w0 w : World} {h : HeadD} {A : Option Addr} {n c : Nat} (k : AD w0 w h A n c) (j : Nat) (u : Value) (hu : (headCells h)[j]? = some u) : w.cell? ⟨w0.heap.size, 0 + j, none⟩ = some u := by
 rw [k.note.cell (0 + j), List.getElem?_toArray]
 exact noteCells_head _ j u hu
theorem AD.row {w0 w : World} {h : HeadD} {A : Option Addr} {n c : Nat} (k : AD w0 w h A n c) (ok : h.Ok) : w.cell? ⟨w0.heap.size, 98, none⟩ = some (.slice A n c) := by
 rw [k.note.cell 98, List.getElem?_toArray]
 exact noteCells_row ok _
theorem own_set {w : World} {B n c g i : Nat} {rs : List Text} {s : Text} (hO : OwnS w B (.slice (some ⟨g, 0, none⟩) n c) n rs) (hi : i < n) (hs : s.length = 64) :
  B ≤ g ∧ ∃ cur : Array Value, Blk w g 56 cur ∧ i * 64 + (cells8 s).length ≤ cur.size ∧ ∀ w', Blk w' g 56 (splice cur.toList (i * 64) (cells8 s)).toArray → OwnS w' B (.slice (some ⟨g, 0, none⟩) n c) n (rs.set i s) := by
 obtain ⟨h1, h2, hFl, hown⟩ := hO
 rcases hown with ⟨h3, -⟩ | ⟨g2, c2, cur, h3, hBg, hg, hnc, hcm, hcs, htk⟩
 ·injection h3 with h3; cases h3
 ·injection h3 with h3 h4 h5
  injection h3 with h3
  injection h3 with h3
  subst h3 h5
  have hsz : i * 64 + 64 ≤ cur.size := by rw [hcs]; have : (i + 1) * 64 ≤ c * 64 := Nat.mul_le_mul_right _ (by omega); omega
  have h8 : (cells8 s).length = 64 := by rw [cells8_len, hs]
  refine ⟨hBg, cur, hg, by rw [h8]; exact hsz, fun w' hb => ⟨Sns.set_ h1 i hs, by rw [List.length_set]; exact h2, ?_, .inr ⟨g, c, _, rfl, hBg, hb, hnc, hcm, ?_, ?_⟩⟩⟩
  ·rw [flat_len _ (Sns.set_ h1 i hs), List.length_set, h2]
  ·unfold splice
   simp only [List.size_toArray, List.length_append, List.length_take, List.length_drop, Array.length_toList, h8]
   omega
  ·rw [← flat_set rs h1 i (by omega) s, ← htk]
   unfold splice
   have e1 : i * 64 + 64 ≤ n * 64 := by omega
   have e2 : n * 64 ≤ cur.toList.length := by rw [Array.length_toList, hcs]; omega
   rw [List.toList_toArray, h8]
   apply List.ext_getElem?
   intro j
   simp only [List.getElem?_take, List.getElem?_append, List.length_append, List.length_take, List.getElem?_drop, h8]
   grind
end Go.Proofs.YtfbhjoejffagjaaGreatDoor.AddP

namespace Go.Proofs.YtfbhjoejffagjaaGreatDoor.Add
open Go Go.RowKit Go.Proofs.YtfbhjoejffagjaaGreatDoor Mem Sha Bytes SortP NoteP Grown Want Go.Proofs.YtfbhjoejffagjaaGreatDoor.Append Own Rise SortM SgM HashMem HeadMem EncNoteP EncNote RowS NoteM RefNote Go.Proofs.YtfbhjoejffagjaaGreatDoor.Insert Bin Sign Signs AddP Rising0 Decode HeadTake Fill

theorem size26 : (Tryz.prog.info? 56).map (·.size) = some 64 := by kernel_rfl
theorem zero26 : ((Tryz.prog.info? 56).bind (·.zero)).isSome = true := by kernel_rfl
theorem own_off {S : Nat → Prop} {w w' : World} {B n : Nat} {v : Value} {ds : List Text} (h : OwnS w B v n ds) (hk : Kept S w w') (hS : ∀ k, S k → k < B) : OwnS w' B v n ds := by
 obtain ⟨h1, h2, hFl, hown⟩ := h
 refine ⟨h1, h2, hFl, ?_⟩
 rcases hown with h | ⟨g, c, cur, hv, hBg, hg, hnc, hcm, hcs, htk⟩
 ·exact .inl h
 ·exact .inr ⟨g, c, cur, hv, hBg, Blk.kept hg hk (fun x => by have := hS g x; omega), hnc, hcm, hcs, htk⟩
def AddYes (ss : List Text) (s : Text) (h : HeadD) (w : World) (e : Ending) (w' : World) : Prop := ∃ V k2 o, e = .returned (.tuple #[V, .int .i64 k2]) ∧ Below w.heap.size w w' ∧ Hid (addFin ss s = (o, k2)) ∧ AddPost w.heap.size w' h V o
theorem own_sign (w : World) {x : Text} (hx : x.length = 64) : OwnS (w.alloc (.cells ([cells8 x].flatten).toArray 56)) w.heap.size (.slice (some ⟨w.heap.size, 0, none⟩) 1 1) 1 [x] := by
 have h8 : (cells8 x).length = 64 := by rw [cells8_len, hx]
 refine ⟨Sns.one hx, rfl, by simp [h8], .inr ⟨w.heap.size, 1, _, rfl, Nat.le_refl _, Blk.new w _ _, Nat.le_refl _, by unfold maxLen; omega, by simp [h8], ?_⟩⟩
 rw [List.toList_toArray, List.flatten_cons, List.flatten_nil, List.append_nil, List.take_of_length_le (by omega)]
 simp
theorem one_flat (xs : List Value) : ([xs].flatten) = xs := by simp

set_option maxRecDepth 100000 in
set_option maxHeartbeats 4000000 in
theorem add_refused (h : HeadD) (ok : h.Ok) (ss : List Text) (n : Nat) (hn47 : n ≤ 1099511627776) (A : Option Addr) (c : Nat) (hnil : A = none → n = 0 ∧ c = 0) (q : Text) (k : Nat) (hk : q.length = k) (Ak : Option Addr) (ck : Nat) (hkc : k ≤ ck) (hkn : Ak = none → k = 0 ∧ ck = 0) (s : Text) (hs : Hid ((signAns h q).1 = s)) (k1 : Int) (hk1 : Hid ((signAns h q).2 = k1)) (hk0 : ¬ k1 = 0) (w : World) (hB : Base w) (hS : Sgs w A n ss) (hq : Reads w 1 Ak k (cells8 q)) :
  Calls Tryz.prog 40 #[.agg (noteCells h (.slice A n c)).toArray, .slice Ak k ck] w fun e w' => e = .returned (.tuple #[.agg Z99, .int .i64 k1]) ∧ Below w.heap.size w w' := by
 have ok' := Lib.hid ok
 have hn7 := Lib.hid hn47
 have hnl := Lib.hid hnil
 have hk' := Lib.hid hk
 have hkc' := Lib.hid hkc
 have hkn' := Lib.hid hkn
 have hs64 : Hid (s.length = 64) := by show _ = _; rw [← hs.out]; exact signAns_len h q
 obtain ⟨w0, hw0⟩ : ∃ w0, Hid ((w.alloc (.cells (noteCells h (.slice A n c)).toArray 39)).alloc (.cells Z99 39) = w0) := ⟨_, Lib.hid rfl⟩
 have D0 : Hid (AD w w0 h A n c) := by show AD _ _ _ _ _ _; rw [← hw0.out]; exact AD.new
 have hw0' : (w.alloc (.cells (noteCells h (.slice A n c)).toArray 39)).alloc (.cells Tryz.zeroCells39 39) = w0 := hw0.out
 have hS0 : Hid (∀ w', Below w.heap.size w w' → Sgs w' A n ss) := fun w' hb => hS.below hb
 have hq0 : Hid (∀ w', Below w.heap.size w w' → Reads w' 1 Ak k (cells8 q)) := fun w' hb => hq.below hb
 have hBs : Hid (∀ w', Below w.heap.size w w' → Base w') := fun w' hb => hB.below hb hB.1
 have hsz : Hid ((Tryz.prog.info? 36).map (·.size) = some (headCells h).length) := by show _ = _; rw [headCells_len ok]; exact size98
 have s1 := Lib.hid (sign_size s hs64.out)
 have s2 := Lib.hid (sign_zero s hs64.out)
 have s3 := Lib.hid (sign_one s)
 have z1 := Lib.hid (fun v => note_size ok v)
 have z2 := Lib.hid (fun v => note_zero ok v)
 have z3 := Lib.hid (fun A n c => note_one (h := h) A n c)
 have hbn := Lib.hid (fun A n c w' => run_note ok A n c w')
 clear hw0 ok hnil hk hkc hkn hB hS hq hn47
 go_enter Tryz.func40, Tryz.ntmps40
 go_wp2_with (first
  | (((with_reducible change wpList _ _ _ (⟨some 14, _, _, _, _, _⟩ :: _) _ _); refine wpList_load_part (o := ⟨some 14, _, _, _, _, _⟩) rfl 36 (.tmp 13) rfl (w.heap.size) (0) rfl (headCells h) _ D0.out.head Tryz.underlying36 rfl hsz.out ?_))
  | (go_at_call 49; refine (headSign_any h ok'.out q k hk'.out Ak ck w0 (hBs.out w0 D0.out.far) (hq0.out w0 D0.out.far) hkc'.out hkn'.out).mono ?_; rw [hs.out, hk1.out]; rintro e w1 ⟨rfl, hb1⟩; have D1 := Lib.hid (D0.out.below hb1); clear hb1 D0)
  | ((with_reducible change wpList _ _ _ ({ dst := none, op := Op.store 56 (.tmp 6) (.tmp 17), type := _, pos := _, after := _, guard := _ } :: _) _ _); refine wpList_store_all (o := ⟨none, _, _, _, _, _⟩) rfl 56 (.tmp 6) (.tmp 17) rfl w1.heap.size (cells8 s).toArray rfl rfl 56 Z64 (Blk.new w1 _ _) s1.out s2.out s3.out ?_; intro w2 hB2 hk2; have D2 := Lib.hid (D1.out.below (Held.kept_fresh hk2)); have S2 : Hid (Blk w2 w1.heap.size 56 (cells8 s).toArray) := hB2; have hg1 : Hid (w.heap.size + 1 < w1.heap.size) := D1.out.size; clear hk2 hB2 D1; generalize w1.heap.size = gs at *; have r2 := D2.out.row ok'.out)
  | ((with_reducible change wpList _ _ _ ({ dst := none, op := Op.store 39 (.tmp 4) (.tmp 21), type := _, pos := _, after := _, guard := _ } :: _) _ _); refine wpList_store_row (o := ⟨none, _, _, _, _, _⟩) rfl 39 (.tmp 4) (.tmp 21) rfl (w.heap.size + 1) Z99 rfl rfl 39 Z99 D2.out.res size99' rfl one99 ?_))
 refine bodyPost_ret (results_cell_row2 rfl _ _ (w.heap.size + 1) 39 Z99 (0, 0) _ rfl (setRow_heap _ _ _ _ _ _ D2.out.res) Tryz.underlying39 rfl size99') rfl ?_
 exact ⟨rfl, below_setRow D2.out.far (by omega) _⟩

set_option maxRecDepth 100000 in
set_option maxHeartbeats 4000000 in
theorem add_twice (h : HeadD) (ok : h.Ok) (ss : List Text) (n : Nat) (hn47 : n ≤ 1099511627776) (A : Option Addr) (c : Nat) (hnil : A = none → n = 0 ∧ c = 0) (q : Text) (k : Nat) (hk : q.length = k) (Ak : Option Addr) (ck : Nat) (hkc : k ≤ ck) (hkn : Ak = none → k = 0 ∧ ck = 0) (s : Text) (hs : Hid ((signAns h q).1 = s)) (k1 : Int) (hk1 : Hid ((signAns h q).2 = k1)) (hk0 : k1 = 0) (hno : Hid (rising kyS ss = none)) (w : World) (hB : Base w) (hS : Sgs w A n ss) (hq : Reads w 1 Ak k (cells8 q)) :
  Calls Tryz.prog 40 #[.agg (noteCells h (.slice A n c)).toArray, .slice Ak k ck] w fun e w' => e = .returned (.tuple #[.agg Z99, .int .i64 92]) ∧ Below w.heap.size w w' := by
 have ok' := Lib.hid ok
 have hn7 := Lib.hid hn47
 have hnl := Lib.hid hnil
 have hk' := Lib.hid hk
 have hkc' := Lib.hid hkc
 have hkn' := Lib.hid hkn
 have hs64 : Hid (s.length = 64) := by show _ = _; rw [← hs.out]; exact signAns_len h q
 obtain ⟨w0, hw0⟩ : ∃ w0, Hid ((w.alloc (.cells (noteCells h (.slice A n c)).toArray 39)).alloc (.cells Z99 39) = w0) := ⟨_, Lib.hid rfl⟩
 have D0 : Hid (AD w w0 h A n c) := by show AD _ _ _ _ _ _; rw [← hw0.out]; exact AD.new
 have hw0' : (w.alloc (.cells (noteCells h (.slice A n c)).toArray 39)).alloc (.cells Tryz.zeroCells39 39) = w0 := hw0.out
 have hS0 : Hid (∀ w', Below w.heap.size w w' → Sgs w' A n ss) := fun w' hb => hS.below hb
 have hq0 : Hid (∀ w', Below w.heap.size w w' → Reads w' 1 Ak k (cells8 q)) := fun w' hb => hq.below hb
 have hBs : Hid (∀ w', Below w.heap.size w w' → Base w') := fun w' hb => hB.below hb hB.1
 have hsz : Hid ((Tryz.prog.info? 36).map (·.size) = some (headCells h).length) := by show _ = _; rw [headCells_len ok]; exact size98
 have s1 := Lib.hid (sign_size s hs64.out)
 have s2 := Lib.hid (sign_zero s hs64.out)
 have s3 := Lib.hid (sign_one s)
 have z1 := Lib.hid (fun v => note_size ok v)
 have z2 := Lib.hid (fun v => note_zero ok v)
 have z3 := Lib.hid (fun A n c => note_one (h := h) A n c)
 have hbn := Lib.hid (fun A n c w' => run_note ok A n c w')
 clear hw0 ok hnil hk hkc hkn hB hS hq hn47
 subst hk0
 go_enter Tryz.func40, Tryz.ntmps40
 go_wp2_with (first
  | (((with_reducible change wpList _ _ _ (⟨some 14, _, _, _, _, _⟩ :: _) _ _); refine wpList_load_part (o := ⟨some 14, _, _, _, _, _⟩) rfl 36 (.tmp 13) rfl (w.heap.size) (0) rfl (headCells h) _ D0.out.head Tryz.underlying36 rfl hsz.out ?_))
  | (go_at_call 49; refine (headSign_any h ok'.out q k hk'.out Ak ck w0 (hBs.out w0 D0.out.far) (hq0.out w0 D0.out.far) hkc'.out hkn'.out).mono ?_; rw [hs.out, hk1.out]; rintro e w1 ⟨rfl, hb1⟩; have D1 := Lib.hid (D0.out.below hb1); clear hb1 D0)
  | ((with_reducible change wpList _ _ _ ({ dst := none, op := Op.store 56 (.tmp 6) (.tmp 17), type := _, pos := _, after := _, guard := _ } :: _) _ _); refine wpList_store_all (o := ⟨none, _, _, _, _, _⟩) rfl 56 (.tmp 6) (.tmp 17) rfl w1.heap.size (cells8 s).toArray rfl rfl 56 Z64 (Blk.new w1 _ _) s1.out s2.out s3.out ?_; intro w2 hB2 hk2; have D2 := Lib.hid (D1.out.below (Held.kept_fresh hk2)); have S2 : Hid (Blk w2 w1.heap.size 56 (cells8 s).toArray) := hB2; have hg1 : Hid (w.heap.size + 1 < w1.heap.size) := D1.out.size; clear hk2 hB2 D1; generalize w1.heap.size = gs at *; have r2 := D2.out.row ok'.out)
  | (go_at_call 60; refine (rising_all ss n (by have := hn7.out; omega) A c w2 (hS0.out w2 D2.out.far) hnl.out).mono ?_; rintro e w3 ⟨A1, c1, ds, rfl, hri, hO3, hb3⟩; have D3 := Lib.hid (D2.out.below hb3.out); have S3 : Hid (Blk w3 gs 56 (cells8 s).toArray) := (hb3.out.block _ S2.out.lt).trans S2.out; rw [hno.out] at hri; have hr0 := none_no hri.out; rw [hr0]; clear hri)
  | ((with_reducible change wpList _ _ _ ({ dst := none, op := Op.store 39 (.tmp 4) (.tmp 31), type := _, pos := _, after := _, guard := _ } :: _) _ _); refine wpList_store_row (o := ⟨none, _, _, _, _, _⟩) rfl 39 (.tmp 4) (.tmp 31) rfl (w.heap.size + 1) Z99 rfl rfl 39 Z99 D3.out.res size99' rfl one99 ?_))
 refine bodyPost_ret (results_cell_row2 rfl _ _ (w.heap.size + 1) 39 Z99 (0, 0) _ rfl (setRow_heap _ _ _ _ _ _ D3.out.res) Tryz.underlying39 rfl size99') rfl ?_
 exact ⟨rfl, below_setRow D3.out.far (by omega) _⟩

set_option maxRecDepth 100000 in
set_option maxHeartbeats 4000000 in
theorem add_yes (h : HeadD) (ok : h.Ok) (ss : List Text) (n : Nat) (hn47 : n ≤ 1099511627776) (A : Option Addr) (c : Nat) (hnil : A = none → n = 0 ∧ c = 0) (q : Text) (k : Nat) (hk : q.length = k) (Ak : Option Addr) (ck : Nat) (hkc : k ≤ ck) (hkn : Ak = none → k = 0 ∧ ck = 0) (s : Text) (hs : Hid ((signAns h q).1 = s)) (k1 : Int) (hk1 : Hid ((signAns h q).2 = k1)) (hk0 : k1 = 0) (rs : List Text) (hrs : Hid (rising kyS ss = some rs)) (w : World) (hB : Base w) (hS : Sgs w A n ss) (hq : Reads w 1 Ak k (cells8 q)) :
  Calls Tryz.prog 40 #[.agg (noteCells h (.slice A n c)).toArray, .slice Ak k ck] w fun e w' => AddYes ss s h w e w' := by
 have ok' := Lib.hid ok
 have hn7 := Lib.hid hn47
 have hnl := Lib.hid hnil
 have hk' := Lib.hid hk
 have hkc' := Lib.hid hkc
 have hkn' := Lib.hid hkn
 have hs64 : Hid (s.length = 64) := by show _ = _; rw [← hs.out]; exact signAns_len h q
 obtain ⟨w0, hw0⟩ : ∃ w0, Hid ((w.alloc (.cells (noteCells h (.slice A n c)).toArray 39)).alloc (.cells Z99 39) = w0) := ⟨_, Lib.hid rfl⟩
 have D0 : Hid (AD w w0 h A n c) := by show AD _ _ _ _ _ _; rw [← hw0.out]; exact AD.new
 have hw0' : (w.alloc (.cells (noteCells h (.slice A n c)).toArray 39)).alloc (.cells Tryz.zeroCells39 39) = w0 := hw0.out
 have hS0 : Hid (∀ w', Below w.heap.size w w' → Sgs w' A n ss) := fun w' hb => hS.below hb
 have hq0 : Hid (∀ w', Below w.heap.size w w' → Reads w' 1 Ak k (cells8 q)) := fun w' hb => hq.below hb
 have hBs : Hid (∀ w', Below w.heap.size w w' → Base w') := fun w' hb => hB.below hb hB.1
 have hsz : Hid ((Tryz.prog.info? 36).map (·.size) = some (headCells h).length) := by show _ = _; rw [headCells_len ok]; exact size98
 have s1 := Lib.hid (sign_size s hs64.out)
 have s2 := Lib.hid (sign_zero s hs64.out)
 have s3 := Lib.hid (sign_one s)
 have z1 := Lib.hid (fun v => note_size ok v)
 have z2 := Lib.hid (fun v => note_zero ok v)
 have z3 := Lib.hid (fun A n c => note_one (h := h) A n c)
 have hbn := Lib.hid (fun A n c w' => run_note ok A n c w')
 clear hw0 ok hnil hk hkc hkn hB hS hq hn47
 subst hk0
 have hrsl := Lib.hid (rising_some hrs.out)
 go_enter Tryz.func40, Tryz.ntmps40
 go_upto_region 8 with (first
  | (((with_reducible change wpList _ _ _ (⟨some 14, _, _, _, _, _⟩ :: _) _ _); refine wpList_load_part (o := ⟨some 14, _, _, _, _, _⟩) rfl 36 (.tmp 13) rfl (w.heap.size) (0) rfl (headCells h) _ D0.out.head Tryz.underlying36 rfl hsz.out ?_))
  | (go_at_call 49; refine (headSign_any h ok'.out q k hk'.out Ak ck w0 (hBs.out w0 D0.out.far) (hq0.out w0 D0.out.far) hkc'.out hkn'.out).mono ?_; rw [hs.out, hk1.out]; rintro e w1 ⟨rfl, hb1⟩; have D1 := Lib.hid (D0.out.below hb1); clear hb1 D0)
  | ((with_reducible change wpList _ _ _ ({ dst := none, op := Op.store 56 (.tmp 6) (.tmp 17), type := _, pos := _, after := _, guard := _ } :: _) _ _); refine wpList_store_all (o := ⟨none, _, _, _, _, _⟩) rfl 56 (.tmp 6) (.tmp 17) rfl w1.heap.size (cells8 s).toArray rfl rfl 56 Z64 (Blk.new w1 _ _) s1.out s2.out s3.out ?_; intro w2 hB2 hk2; have D2 := Lib.hid (D1.out.below (Held.kept_fresh hk2)); have S2 : Hid (Blk w2 w1.heap.size 56 (cells8 s).toArray) := hB2; have hg1 : Hid (w.heap.size + 1 < w1.heap.size) := D1.out.size; clear hk2 hB2 D1; generalize w1.heap.size = gs at *; have r2 := D2.out.row ok'.out)
  | (go_at_call 60; refine (rising_all ss n (by have := hn7.out; omega) A c w2 (hS0.out w2 D2.out.far) hnl.out).mono ?_; rintro e w3 ⟨A1, c1, ds, rfl, hri, hO3, hb3⟩; have D3 := Lib.hid (D2.out.below hb3.out); have S3 : Hid (Blk w3 gs 56 (cells8 s).toArray) := (hb3.out.block _ S2.out.lt).trans S2.out; rw [hrs.out] at hri; obtain ⟨hr0, rfl⟩ := some_yes hri.out; rw [hr0]; clear hri; have hSg3 : Hid (Sgs w3 A1 n rs) := (by obtain ⟨A9, c9, e9, -, -, -, x, -⟩ := hO3.out.reads; injection e9 with e9 _ e10; subst e9 e10; exact x); have hg2 : Hid (w.heap.size + 1 < w2.heap.size ∧ gs < w2.heap.size) := ⟨D2.out.size, S2.out.lt⟩; have hb3s : Hid (w2.heap.size ≤ w3.heap.size) := hb3.out.size; clear D2 S2 hb3; generalize w2.heap.size = B2 at *)
  | (((with_reducible change wpList _ _ _ (⟨some 34, _, _, _, _, _⟩ :: _) _ _); refine wpList_load_row (o := ⟨some 34, _, _, _, _, _⟩) rfl 56 (.tmp 6) rfl (gs) rfl 56 ((cells8 s).toArray) (0, 0) _ S3.out Tryz.underlying56 rfl s1.out ?_))
  | (go_at_call 78; refine (bin_any rs n hn7.out hrsl.out.1 s hs64.out A1 c1 w3 hSg3.out).mono ?_; rintro e w4 ⟨i, f, rfl, hAt, hb4⟩; have D4 := Lib.hid (D3.out.below hb4); have S4 : Hid (Blk w4 gs 56 (cells8 s).toArray) := (hb4.block _ S3.out.lt).trans S3.out; have hO4 := Lib.hid (hO3.out.below hb4); replace hAt := Lib.hid hAt; have hb34 : Hid (B2 ≤ w4.heap.size) := (by have := hb3s.out; have := hb4.size; show _ ≤ _; omega); clear hb4 S3 D3 hO3 hSg3))
 have hrl : Hid (rs.length = n) := hO4.out.2.1
 have hBw : Hid (w.heap.size ≤ B2) := by show _ ≤ _; have := hg2.out.1; omega
 have hsl : Hid (B2 ≤ w4.heap.size) := hb34.out
 cases f with
 | true =>
  obtain ⟨hr5, hm5, hi5⟩ := add_found hrs.out hAt.out
  rw [hrl.out] at hm5 hi5
  replace hr5 := Lib.hid hr5
  replace hm5 := Lib.hid hm5
  have hz1 : (i : Int) < (n : Int) := by omega
  have hz0 : (0 : Int) ≤ (i : Int) := by omega
  have hi5' := Lib.hid hi5
  obtain ⟨gr, hgr⟩ := own_some hO4.out (by omega)
  subst hgr
  obtain ⟨hBg, cur, hBc, hfit, hset⟩ := own_set hO4.out hi5 hs64.out
  replace hBg := Lib.hid hBg
  replace hBc := Lib.hid hBc
  replace hfit := Lib.hid hfit
  replace hset := Lib.hid hset
  clear hi5
  go_upto_region 11 with (first
  | (((with_reducible change wpList _ _ _ (⟨some 41, _, _, _, _, _⟩ :: _) _ _); refine wpList_load_row (o := ⟨some 41, _, _, _, _, _⟩) rfl 56 (.tmp 6) rfl (gs) rfl 56 ((cells8 s).toArray) (0, 0) _ S4.out Tryz.underlying56 rfl s1.out ?_))
  | ((with_reducible change wpList _ _ _ ({ dst := none, op := Op.store 56 (.tmp 42) (.tmp 41), type := _, pos := _, after := _, guard := _ } :: _) _ _); refine wpList_store_at (o := ⟨none, _, _, _, _, _⟩) rfl 56 (.tmp 42) (.tmp 41) rfl gr (i * 64) (cells8 s) rfl rfl 56 cur hBc.out (size26.trans (congrArg some (by rw [cells8_len, hs64.out]))) hfit.out (cells8_one _) ?_; intro w5 hB5 hk5; have hO5 := Lib.hid (hset.out w5 hB5.out); have D5 := Lib.hid (D4.out.on hg2.out.1 (Kept.below_of hk5 hBg.out hsl.out)); clear hk5 hB5 D4 S4 hO4 hBc hset))
  by_cases h16 : 16 < n
  ·have x6 : (16 : Int) < ((n : Nat) : Int) := by omega
   go_wp2_with ((with_reducible change wpList _ _ _ ({ dst := none, op := Op.store 39 (.tmp 4) (.tmp 51), type := _, pos := _, after := _, guard := _ } :: _) _ _); refine wpList_store_row (o := ⟨none, _, _, _, _, _⟩) rfl 39 (.tmp 4) (.tmp 51) rfl (w.heap.size + 1) Z99 rfl rfl 39 Z99 D5.out.res size99' rfl one99 ?_)
   refine bodyPost_ret (results_cell_row2 rfl _ _ (w.heap.size + 1) 39 Z99 (0, 0) _ rfl (setRow_heap _ _ _ _ _ _ D5.out.res) Tryz.underlying39 rfl size99') rfl ?_
   exact ⟨_, _, none, rfl, below_setRow D5.out.far (by omega) _, fin_many hm5.out h16, rfl⟩
  ·have x6 : ¬ ((16 : Int) < ((n : Nat) : Int)) := by omega
   obtain ⟨NC, hNC⟩ : ∃ NC, Hid ((noteCells h (.slice (some ⟨gr, 0, none⟩) (n) c1)).toArray = NC) := ⟨_, Lib.hid rfl⟩
   have y1 := z1.out (.slice (some ⟨gr, 0, none⟩) (n) c1)
   have y2 := z2.out (.slice (some ⟨gr, 0, none⟩) (n) c1)
   have y3 := z3.out (some ⟨gr, 0, none⟩) (n) c1
   have y4 := Lib.hid (fun w' => hbn.out (some ⟨gr, 0, none⟩) (n) c1 w')
   rw [hNC.out] at y1 y2 y3 y4
   replace y1 := Lib.hid y1
   replace y2 := Lib.hid y2
   replace y3 := Lib.hid y3
   go_wp2_with (first
    | (((with_reducible change wpList _ _ _ (⟨some 53, _, _, _, _, _⟩ :: _) _ _); refine wpList_load_part (o := ⟨some 53, _, _, _, _, _⟩) rfl 36 (.tmp 52) rfl (w.heap.size) (0) rfl (headCells h) _ D5.out.head Tryz.underlying36 rfl hsz.out ?_))
    | ((with_reducible change wpList _ _ _ (⟨some 55, _, _, _, _, _⟩ :: _) _ _); refine wpList_buildF (o := ⟨some 55, _, _, _, _, _⟩) rfl 39 #[(0, .tmp 53), (1, .tmp 54)] rfl #[(0, .agg (headCells h).toArray), (1, .slice (some ⟨gr, 0, none⟩) (n) c1)] (by simp; exact ⟨rfl, rfl⟩) _ (y4.out _) ?_)
    | ((with_reducible change wpList _ _ _ ({ dst := none, op := Op.store 39 (.tmp 4) (.tmp 55), type := _, pos := _, after := _, guard := _ } :: _) _ _); refine wpList_store_all (o := ⟨none, _, _, _, _, _⟩) rfl 39 (.tmp 4) (.tmp 55) rfl (w.heap.size + 1) NC rfl rfl 39 Z99 D5.out.res y1.out y2.out y3.out ?_; intro w9 hB9 hk9; have hO9 := Lib.hid (own_off hO5.out hk9 (by intro k e; have := hg2.out.1; omega)); have hb9 : Hid (Below w.heap.size w w9) := D5.out.far.trans (Kept.below_of hk9 (by omega) D5.out.far.size); have hR9 := hB9; clear hk9 hB9))
   refine bodyPost_ret (results_cell_row2 rfl _ _ (w.heap.size + 1) 39 NC (0, 0) _ rfl hR9.out Tryz.underlying39 rfl y1.out) rfl ?_
   exact ⟨_, _, some (rs.set i s), rfl, hb9.out, fin_some hm5.out h16 hr5.out, (some ⟨gr, 0, none⟩), c1, by rw [hO5.out.2.1, ← hNC.out], by rw [hO5.out.2.1]; exact hO9.out.base hBw.out⟩
 | false =>
  obtain ⟨hr5, hm5⟩ := add_new hrs.out hAt.out
  rw [hrl.out] at hm5
  replace hr5 := Lib.hid hr5
  replace hm5 := Lib.hid hm5
  have hin : Hid (i ≤ n) := by show _ ≤ _; rw [← hrl.out]; exact hAt.out.le
  have hA1 : Hid (A1 ≠ some ⟨w4.heap.size, 0, none⟩) := fun e => by
   rcases hO4.out.2.2.2 with ⟨x, -⟩ | ⟨g9, c9, cur9, x, -, hg9, -⟩
   ·injection x with x
    rw [e] at x; cases x
   ·injection x with x
    rw [e] at x
    injection x with x
    injection x with x
    have := Blk.lt hg9
    omega
  go_upto_region 11 with (first
  | (((with_reducible change wpList _ _ _ (⟨some 45, _, _, _, _, _⟩ :: _) _ _); refine wpList_load_row (o := ⟨some 45, _, _, _, _, _⟩) rfl 56 (.tmp 6) rfl (gs) rfl 56 ((cells8 s).toArray) (0, 0) _ S4.out Tryz.underlying56 rfl s1.out ?_))
  | ((with_reducible change wpList _ _ _ (⟨some 46, _, _, _, _, _⟩ :: _) _ _); refine wpList_buildAggs (o := ⟨some 46, _, _, _, _, _⟩) rfl 37 56 1 _ rfl 64 (by decide) [cells8 s] Tryz.underlying37 size26 zero26 rfl (by decide) (by decide) (by intro v hv; simp only [List.mem_cons, List.not_mem_nil, or_false] at hv; rw [hv, cells8_len, hs64.out]) rfl ?_; rw [one_flat])
  | (go_at_call 80; refine (insert_any rs n i hn7.out hin.out s hs64.out A1 c1 B2 w4.heap.size _ (hO4.out.below (Below.heap_below w4 _)) (Blk.new w4 _ _) hA1.out (by simp; have := hsl.out; omega)).mono ?_; rintro e w5 ⟨v, rfl, hO5, hb5⟩; have D5 := Lib.hid ((D4.out.below (Below.heap_below w4 _)).on hg2.out.1 hb5); obtain ⟨A9, c9, rfl, -⟩ := hO5.reads; replace hO5 := Lib.hid hO5; clear hb5 D4 S4 hO4))
  by_cases h16 : 16 < n + 1
  ·have x6 : (16 : Int) < ((n + 1 : Nat) : Int) := by omega
   go_wp2_with ((with_reducible change wpList _ _ _ ({ dst := none, op := Op.store 39 (.tmp 4) (.tmp 51), type := _, pos := _, after := _, guard := _ } :: _) _ _); refine wpList_store_row (o := ⟨none, _, _, _, _, _⟩) rfl 39 (.tmp 4) (.tmp 51) rfl (w.heap.size + 1) Z99 rfl rfl 39 Z99 D5.out.res size99' rfl one99 ?_)
   refine bodyPost_ret (results_cell_row2 rfl _ _ (w.heap.size + 1) 39 Z99 (0, 0) _ rfl (setRow_heap _ _ _ _ _ _ D5.out.res) Tryz.underlying39 rfl size99') rfl ?_
   exact ⟨_, _, none, rfl, below_setRow D5.out.far (by omega) _, fin_many hm5.out h16, rfl⟩
  ·have x6 : ¬ ((16 : Int) < ((n + 1 : Nat) : Int)) := by omega
   obtain ⟨NC, hNC⟩ : ∃ NC, Hid ((noteCells h (.slice A9 (n + 1) c9)).toArray = NC) := ⟨_, Lib.hid rfl⟩
   have y1 := z1.out (.slice A9 (n + 1) c9)
   have y2 := z2.out (.slice A9 (n + 1) c9)
   have y3 := z3.out A9 (n + 1) c9
   have y4 := Lib.hid (fun w' => hbn.out A9 (n + 1) c9 w')
   rw [hNC.out] at y1 y2 y3 y4
   replace y1 := Lib.hid y1
   replace y2 := Lib.hid y2
   replace y3 := Lib.hid y3
   go_wp2_with (first
    | (((with_reducible change wpList _ _ _ (⟨some 53, _, _, _, _, _⟩ :: _) _ _); refine wpList_load_part (o := ⟨some 53, _, _, _, _, _⟩) rfl 36 (.tmp 52) rfl (w.heap.size) (0) rfl (headCells h) _ D5.out.head Tryz.underlying36 rfl hsz.out ?_))
    | ((with_reducible change wpList _ _ _ (⟨some 55, _, _, _, _, _⟩ :: _) _ _); refine wpList_buildF (o := ⟨some 55, _, _, _, _, _⟩) rfl 39 #[(0, .tmp 53), (1, .tmp 54)] rfl #[(0, .agg (headCells h).toArray), (1, .slice A9 (n + 1) c9)] (by simp; exact ⟨rfl, rfl⟩) _ (y4.out _) ?_)
    | ((with_reducible change wpList _ _ _ ({ dst := none, op := Op.store 39 (.tmp 4) (.tmp 55), type := _, pos := _, after := _, guard := _ } :: _) _ _); refine wpList_store_all (o := ⟨none, _, _, _, _, _⟩) rfl 39 (.tmp 4) (.tmp 55) rfl (w.heap.size + 1) NC rfl rfl 39 Z99 D5.out.res y1.out y2.out y3.out ?_; intro w9 hB9 hk9; have hO9 := Lib.hid (own_off hO5.out hk9 (by intro k e; have := hg2.out.1; omega)); have hb9 : Hid (Below w.heap.size w w9) := D5.out.far.trans (Kept.below_of hk9 (by omega) D5.out.far.size); have hR9 := hB9; clear hk9 hB9))
   refine bodyPost_ret (results_cell_row2 rfl _ _ (w.heap.size + 1) 39 NC (0, 0) _ rfl hR9.out Tryz.underlying39 rfl y1.out) rfl ?_
   exact ⟨_, _, some (mid rs i s), rfl, hb9.out, fin_some hm5.out h16 hr5.out, A9, c9, by rw [hO5.out.2.1, ← hNC.out], by rw [hO5.out.2.1]; exact hO9.out.base hBw.out⟩

def AddOut (h : HeadD) (ss : List Text) (q : Text) (w : World) (e : Ending) (w' : World) : Prop := ∃ V, e = .returned (.tuple #[V, .int .i64 (addAns h ss q).2]) ∧ Below w.heap.size w w' ∧ AddPost w.heap.size w' h V (addAns h ss q).1
theorem out_refused {h : HeadD} {ss : List Text} {q : Text} {w w' : World} {e : Ending} {k1 : Int} (hk : (signAns h q).2 = k1) (hk0 : ¬ k1 = 0) (he : e = .returned (.tuple #[.agg Z99, .int .i64 k1])) (hb : Below w.heap.size w w') : AddOut h ss q w e w' := by
 have : addAns h ss q = (none, k1) := by unfold addAns; rw [hk, if_neg hk0]
 exact ⟨_, by rw [this]; exact he, hb, by rw [this]; exact rfl⟩
theorem out_twice {h : HeadD} {ss : List Text} {q : Text} {w w' : World} {e : Ending} (hk : (signAns h q).2 = 0) (hr : rising kyS ss = none) (he : e = .returned (.tuple #[.agg Z99, .int .i64 92])) (hb : Below w.heap.size w w') : AddOut h ss q w e w' := by
 have : addAns h ss q = (none, 92) := by unfold addAns; rw [if_pos hk, hr]; rfl
 exact ⟨_, by rw [this]; exact he, hb, by rw [this]; exact rfl⟩
theorem out_yes {h : HeadD} {ss rs : List Text} {q : Text} {w w' : World} {e : Ending} (hk : (signAns h q).2 = 0) (hr : rising kyS ss = some rs) (hy : AddYes ss (signAns h q).1 h w e w') : AddOut h ss q w e w' := by
 obtain ⟨V, k2, o, he, hb, hf, hp⟩ := hy
 have : addAns h ss q = (o, k2) := by unfold addAns; rw [if_pos hk, hr, ← hf.out]; rfl
 exact ⟨V, by rw [this]; exact he, hb, by rw [this]; exact hp⟩
theorem add_any (h : HeadD) (ok : h.Ok) (ss : List Text) (n : Nat) (hn47 : n ≤ 1099511627776) (A : Option Addr) (c : Nat) (hnil : A = none → n = 0 ∧ c = 0) (q : Text) (k : Nat) (hk : q.length = k) (Ak : Option Addr) (ck : Nat) (hkc : k ≤ ck) (hkn : Ak = none → k = 0 ∧ ck = 0) (w : World) (hB : Base w) (hS : Sgs w A n ss) (hq : Reads w 1 Ak k (cells8 q)) :
  Calls Tryz.prog 40 #[.agg (noteCells h (.slice A n c)).toArray, .slice Ak k ck] w (AddOut h ss q w) := by
 by_cases h0 : (signAns h q).2 = 0
 ·cases hr : rising kyS ss with
  | none => exact (add_twice h ok ss n hn47 A c hnil q k hk Ak ck hkc hkn _ rfl _ rfl h0 hr w hB hS hq).mono fun e w' ⟨he, hb⟩ => out_twice h0 hr he hb
  | some rs => exact (add_yes h ok ss n hn47 A c hnil q k hk Ak ck hkc hkn _ rfl _ rfl h0 rs hr w hB hS hq).mono fun e w' hy => out_yes h0 hr hy
 ·exact (add_refused h ok ss n hn47 A c hnil q k hk Ak ck hkc hkn _ rfl _ rfl h0 w hB hS hq).mono fun e w' ⟨he, hb⟩ => out_refused rfl h0 he hb
end Go.Proofs.YtfbhjoejffagjaaGreatDoor.Add

namespace Go.Proofs.YtfbhjoejffagjaaGreatDoor.RefAdd
open Go Go.RowKit Go.Proofs.YtfbhjoejffagjaaGreatDoor Mem Sha Bytes SortP NoteP QuietTail Grown Want Go.Proofs.YtfbhjoejffagjaaGreatDoor.Append Own Rise SortM SgM HashMem HeadMem EncNoteP EncNote RowS NoteM RefNote Go.Proofs.YtfbhjoejffagjaaGreatDoor.Insert Bin Sign Signs RefSigns RefRising AddP Go.Proofs.YtfbhjoejffagjaaGreatDoor.Add Decode HeadTake Fill DigEq

theorem fin_is {ss rs : List Text} {s : Text} (hr : rising kyS ss = some rs) : ∃ r, rising kyS (s :: others ss s) = some r := by
 cases h : rising kyS (s :: others ss s) with
 | some r => exact ⟨r, rfl⟩
 | none =>
  refine absurd ?_ (rising_none h)
  obtain ⟨h1, h2⟩ := rising_some hr
  have h3 : rs.Pairwise (fun a b => kyS a ≠ kyS b) := h1.imp fun x => lex_ne x
  have h4 : ss.Pairwise (fun a b => kyS a ≠ kyS b) := (h2.pairwise_iff (fun {_ _} x => x.symm)).1 h3
  rw [List.pairwise_cons]
  refine ⟨fun y hy => ?_, h4.sublist List.filter_sublist⟩
  have := (List.mem_filter.1 hy).2
  simp at this
  exact fun e => this e.symm
theorem others_step {ss : List Text} {s x : Text} {i : Nat} (hx : ss[i]? = some x) : others (ss.take (i + 1)) s = others (ss.take i) s ++ (if decide (kyS x = kyS s) = true then [] else [x]) := by
 unfold others
 rw [List.take_add_one, hx, List.filter_append]
 congr 1
 by_cases e : kyS x = kyS s <;> simp [e]

set_option maxRecDepth 100000 in
set_option maxHeartbeats 4000000 in
theorem refadd_refused (h : HeadD) (ok : h.Ok) (ss : List Text) (n : Nat) (hn47 : n ≤ 1099511627776) (A : Option Addr) (c : Nat) (hnil : A = none → n = 0 ∧ c = 0) (q : Text) (k : Nat) (hk : q.length = k) (Ak : Option Addr) (ck : Nat) (hkc : k ≤ ck) (hkn : Ak = none → k = 0 ∧ ck = 0) (s : Text) (hs : Hid ((signAns h q).1 = s)) (k1 : Int) (hk1 : Hid ((signAns h q).2 = k1)) (hk0 : ¬ k1 = 0) (w : World) (hS : Sgs w A n ss) (hq : Reads w 1 Ak k (cells8 q)) :
  Calls Tryz.prog 41 #[.agg (noteCells h (.slice A n c)).toArray, .slice Ak k ck] w fun e w' => e = .returned (.tuple #[.agg Z99, .int .i64 k1]) ∧ Below w.heap.size w w' := by
 have ok' := Lib.hid ok
 have hn7 := Lib.hid hn47
 have hnl := Lib.hid hnil
 have hk' := Lib.hid hk
 have hkc' := Lib.hid hkc
 have hkn' := Lib.hid hkn
 have hs64 : Hid (s.length = 64) := by show _ = _; rw [← hs.out]; exact signAns_len h q
 obtain ⟨w0, hw0⟩ : ∃ w0, Hid ((w.alloc (.cells (noteCells h (.slice A n c)).toArray 39)).alloc (.cells Z99 39) = w0) := ⟨_, Lib.hid rfl⟩
 have D0 : Hid (AD w w0 h A n c) := by show AD _ _ _ _ _ _; rw [← hw0.out]; exact AD.new
 have hw0' : (w.alloc (.cells (noteCells h (.slice A n c)).toArray 39)).alloc (.cells Tryz.zeroCells39 39) = w0 := hw0.out
 have hS0 : Hid (∀ w', Below w.heap.size w w' → Sgs w' A n ss) := fun w' hb => hS.below hb
 have hq0 : Hid (∀ w', Below w.heap.size w w' → Reads w' 1 Ak k (cells8 q)) := fun w' hb => hq.below hb
 have hsz : Hid ((Tryz.prog.info? 36).map (·.size) = some (headCells h).length) := by show _ = _; rw [headCells_len ok]; exact size98
 have s1 := Lib.hid (sign_size s hs64.out)
 have s2 := Lib.hid (sign_zero s hs64.out)
 have s3 := Lib.hid (sign_one s)
 have z1 := Lib.hid (fun v => note_size ok v)
 have z2 := Lib.hid (fun v => note_zero ok v)
 have z3 := Lib.hid (fun A n c => note_one (h := h) A n c)
 have hbn := Lib.hid (fun A n c w' => run_note ok A n c w')
 clear hw0 ok hnil hk hkc hkn hS hq hn47
 go_enter Tryz.func41, Tryz.ntmps41
 go_wp2_with (first
  | (((with_reducible change wpList _ _ _ (⟨some 14, _, _, _, _, _⟩ :: _) _ _); refine wpList_load_part (o := ⟨some 14, _, _, _, _, _⟩) rfl 36 (.tmp 13) rfl (w.heap.size) (0) rfl (headCells h) _ D0.out.head Tryz.underlying36 rfl hsz.out ?_))
  | (go_at_call 50; refine (refSign_any h ok'.out q k hk'.out Ak ck w0 (hq0.out w0 D0.out.far) hkc'.out hkn'.out).mono ?_; rw [hs.out, hk1.out]; rintro e w1 ⟨rfl, hb1⟩; have D1 := Lib.hid (D0.out.below hb1); clear hb1 D0)
  | ((with_reducible change wpList _ _ _ ({ dst := none, op := Op.store 56 (.tmp 6) (.tmp 17), type := _, pos := _, after := _, guard := _ } :: _) _ _); refine wpList_store_all (o := ⟨none, _, _, _, _, _⟩) rfl 56 (.tmp 6) (.tmp 17) rfl w1.heap.size (cells8 s).toArray rfl rfl 56 Z64 (Blk.new w1 _ _) s1.out s2.out s3.out ?_; intro w2 hB2 hk2; have D2 := Lib.hid (D1.out.below (Held.kept_fresh hk2)); have S2 : Hid (Blk w2 w1.heap.size 56 (cells8 s).toArray) := hB2; have hg1 : Hid (w.heap.size + 1 < w1.heap.size) := D1.out.size; clear hk2 hB2 D1; generalize w1.heap.size = gs at *; have r2 := D2.out.row ok'.out)
  | ((with_reducible change wpList _ _ _ ({ dst := none, op := Op.store 39 (.tmp 4) (.tmp 21), type := _, pos := _, after := _, guard := _ } :: _) _ _); refine wpList_store_row (o := ⟨none, _, _, _, _, _⟩) rfl 39 (.tmp 4) (.tmp 21) rfl (w.heap.size + 1) Z99 rfl rfl 39 Z99 D2.out.res size99' rfl one99 ?_))
 refine bodyPost_ret (results_cell_row2 rfl _ _ (w.heap.size + 1) 39 Z99 (0, 0) _ rfl (setRow_heap _ _ _ _ _ _ D2.out.res) Tryz.underlying39 rfl size99') rfl ?_
 exact ⟨rfl, below_setRow D2.out.far (by omega) _⟩

set_option maxRecDepth 100000 in
set_option maxHeartbeats 4000000 in
theorem refadd_twice (h : HeadD) (ok : h.Ok) (ss : List Text) (n : Nat) (hn47 : n ≤ 1099511627776) (A : Option Addr) (c : Nat) (hnil : A = none → n = 0 ∧ c = 0) (q : Text) (k : Nat) (hk : q.length = k) (Ak : Option Addr) (ck : Nat) (hkc : k ≤ ck) (hkn : Ak = none → k = 0 ∧ ck = 0) (s : Text) (hs : Hid ((signAns h q).1 = s)) (k1 : Int) (hk1 : Hid ((signAns h q).2 = k1)) (hk0 : k1 = 0) (hno : Hid (rising kyS ss = none)) (w : World) (hS : Sgs w A n ss) (hq : Reads w 1 Ak k (cells8 q)) :
  Calls Tryz.prog 41 #[.agg (noteCells h (.slice A n c)).toArray, .slice Ak k ck] w fun e w' => e = .returned (.tuple #[.agg Z99, .int .i64 92]) ∧ Below w.heap.size w w' := by
 have ok' := Lib.hid ok
 have hn7 := Lib.hid hn47
 have hnl := Lib.hid hnil
 have hk' := Lib.hid hk
 have hkc' := Lib.hid hkc
 have hkn' := Lib.hid hkn
 have hs64 : Hid (s.length = 64) := by show _ = _; rw [← hs.out]; exact signAns_len h q
 obtain ⟨w0, hw0⟩ : ∃ w0, Hid ((w.alloc (.cells (noteCells h (.slice A n c)).toArray 39)).alloc (.cells Z99 39) = w0) := ⟨_, Lib.hid rfl⟩
 have D0 : Hid (AD w w0 h A n c) := by show AD _ _ _ _ _ _; rw [← hw0.out]; exact AD.new
 have hw0' : (w.alloc (.cells (noteCells h (.slice A n c)).toArray 39)).alloc (.cells Tryz.zeroCells39 39) = w0 := hw0.out
 have hS0 : Hid (∀ w', Below w.heap.size w w' → Sgs w' A n ss) := fun w' hb => hS.below hb
 have hq0 : Hid (∀ w', Below w.heap.size w w' → Reads w' 1 Ak k (cells8 q)) := fun w' hb => hq.below hb
 have hsz : Hid ((Tryz.prog.info? 36).map (·.size) = some (headCells h).length) := by show _ = _; rw [headCells_len ok]; exact size98
 have s1 := Lib.hid (sign_size s hs64.out)
 have s2 := Lib.hid (sign_zero s hs64.out)
 have s3 := Lib.hid (sign_one s)
 have z1 := Lib.hid (fun v => note_size ok v)
 have z2 := Lib.hid (fun v => note_zero ok v)
 have z3 := Lib.hid (fun A n c => note_one (h := h) A n c)
 have hbn := Lib.hid (fun A n c w' => run_note ok A n c w')
 clear hw0 ok hnil hk hkc hkn hS hq hn47
 subst hk0
 go_enter Tryz.func41, Tryz.ntmps41
 go_wp2_with (first
  | (((with_reducible change wpList _ _ _ (⟨some 14, _, _, _, _, _⟩ :: _) _ _); refine wpList_load_part (o := ⟨some 14, _, _, _, _, _⟩) rfl 36 (.tmp 13) rfl (w.heap.size) (0) rfl (headCells h) _ D0.out.head Tryz.underlying36 rfl hsz.out ?_))
  | (go_at_call 50; refine (refSign_any h ok'.out q k hk'.out Ak ck w0 (hq0.out w0 D0.out.far) hkc'.out hkn'.out).mono ?_; rw [hs.out, hk1.out]; rintro e w1 ⟨rfl, hb1⟩; have D1 := Lib.hid (D0.out.below hb1); clear hb1 D0)
  | ((with_reducible change wpList _ _ _ ({ dst := none, op := Op.store 56 (.tmp 6) (.tmp 17), type := _, pos := _, after := _, guard := _ } :: _) _ _); refine wpList_store_all (o := ⟨none, _, _, _, _, _⟩) rfl 56 (.tmp 6) (.tmp 17) rfl w1.heap.size (cells8 s).toArray rfl rfl 56 Z64 (Blk.new w1 _ _) s1.out s2.out s3.out ?_; intro w2 hB2 hk2; have D2 := Lib.hid (D1.out.below (Held.kept_fresh hk2)); have S2 : Hid (Blk w2 w1.heap.size 56 (cells8 s).toArray) := hB2; have hg1 : Hid (w.heap.size + 1 < w1.heap.size) := D1.out.size; clear hk2 hB2 D1; generalize w1.heap.size = gs at *; have r2 := D2.out.row ok'.out)
  | (go_at_call 62; refine (refrising_any ss n (by have := hn7.out; omega) A c w2 (hS0.out w2 D2.out.far)).mono ?_; rintro e w3 ⟨v3, rfl, hb3, -⟩; have D3 := Lib.hid (D2.out.below hb3); have S3 : Hid (Blk w3 gs 56 (cells8 s).toArray) := (hb3.block _ S2.out.lt).trans S2.out; rw [hno.out, Option.isNone_none])
  | ((with_reducible change wpList _ _ _ ({ dst := none, op := Op.store 39 (.tmp 4) (.tmp 30), type := _, pos := _, after := _, guard := _ } :: _) _ _); refine wpList_store_row (o := ⟨none, _, _, _, _, _⟩) rfl 39 (.tmp 4) (.tmp 30) rfl (w.heap.size + 1) Z99 rfl rfl 39 Z99 D3.out.res size99' rfl one99 ?_))
 refine bodyPost_ret (results_cell_row2 rfl _ _ (w.heap.size + 1) 39 Z99 (0, 0) _ rfl (setRow_heap _ _ _ _ _ _ D3.out.res) Tryz.underlying39 rfl size99') rfl ?_
 exact ⟨rfl, below_setRow D3.out.far (by omega) _⟩

set_option maxRecDepth 100000 in
set_option maxHeartbeats 4000000 in
theorem refadd_yes (h : HeadD) (ok : h.Ok) (ss : List Text) (n : Nat) (hn47 : n ≤ 1099511627776) (A : Option Addr) (c : Nat) (hnil : A = none → n = 0 ∧ c = 0) (q : Text) (k : Nat) (hk : q.length = k) (Ak : Option Addr) (ck : Nat) (hkc : k ≤ ck) (hkn : Ak = none → k = 0 ∧ ck = 0) (s : Text) (hs : Hid ((signAns h q).1 = s)) (k1 : Int) (hk1 : Hid ((signAns h q).2 = k1)) (hk0 : k1 = 0) (rs : List Text) (hrs : Hid (rising kyS ss = some rs)) (w : World) (hS : Sgs w A n ss) (hq : Reads w 1 Ak k (cells8 q)) :
  Calls Tryz.prog 41 #[.agg (noteCells h (.slice A n c)).toArray, .slice Ak k ck] w fun e w' => AddYes ss s h w e w' := by
 have ok' := Lib.hid ok
 have hn7 := Lib.hid hn47
 have hnl := Lib.hid hnil
 have hk' := Lib.hid hk
 have hkc' := Lib.hid hkc
 have hkn' := Lib.hid hkn
 have hs64 : Hid (s.length = 64) := by show _ = _; rw [← hs.out]; exact signAns_len h q
 obtain ⟨w0, hw0⟩ : ∃ w0, Hid ((w.alloc (.cells (noteCells h (.slice A n c)).toArray 39)).alloc (.cells Z99 39) = w0) := ⟨_, Lib.hid rfl⟩
 have D0 : Hid (AD w w0 h A n c) := by show AD _ _ _ _ _ _; rw [← hw0.out]; exact AD.new
 have hw0' : (w.alloc (.cells (noteCells h (.slice A n c)).toArray 39)).alloc (.cells Tryz.zeroCells39 39) = w0 := hw0.out
 have hS0 : Hid (∀ w', Below w.heap.size w w' → Sgs w' A n ss) := fun w' hb => hS.below hb
 have hq0 : Hid (∀ w', Below w.heap.size w w' → Reads w' 1 Ak k (cells8 q)) := fun w' hb => hq.below hb
 have hsz : Hid ((Tryz.prog.info? 36).map (·.size) = some (headCells h).length) := by show _ = _; rw [headCells_len ok]; exact size98
 have s1 := Lib.hid (sign_size s hs64.out)
 have s2 := Lib.hid (sign_zero s hs64.out)
 have s3 := Lib.hid (sign_one s)
 have z1 := Lib.hid (fun v => note_size ok v)
 have z2 := Lib.hid (fun v => note_zero ok v)
 have z3 := Lib.hid (fun A n c => note_one (h := h) A n c)
 have hbn := Lib.hid (fun A n c w' => run_note ok A n c w')
 clear hw0 ok hnil hk hkc hkn hS hq hn47
 subst hk0
 obtain ⟨r, hr⟩ : ∃ r, Hid (rising kyS (s :: others ss s) = some r) := fin_is hrs.out
 obtain ⟨i0, ii, iz0, iz1, iz2⟩ := info_partsN info64
 have q1 : Hid (∀ x : Text, x.length = 64 → ∀ v ∈ [cells8 x], v.length = 64) := fun x hx v hv => by simp only [List.mem_singleton] at hv; rw [hv, cells8_len, hx]
 have sS : Hid ((Tryz.prog.info? 34).map (·.size) = some (cells8 (kyS s)).length) := by show _ = _; rw [cells8_len, kyS_len hs64.out]; exact size32r
 have hSs := Lib.hid (hS0.out w (Below.refl _ _))
 go_enter Tryz.func41, Tryz.ntmps41
 go_upto_region 8 with (first
  | (((with_reducible change wpList _ _ _ (⟨some 14, _, _, _, _, _⟩ :: _) _ _); refine wpList_load_part (o := ⟨some 14, _, _, _, _, _⟩) rfl 36 (.tmp 13) rfl (w.heap.size) (0) rfl (headCells h) _ D0.out.head Tryz.underlying36 rfl hsz.out ?_))
  | (go_at_call 50; refine (refSign_any h ok'.out q k hk'.out Ak ck w0 (hq0.out w0 D0.out.far) hkc'.out hkn'.out).mono ?_; rw [hs.out, hk1.out]; rintro e w1 ⟨rfl, hb1⟩; have D1 := Lib.hid (D0.out.below hb1); clear hb1 D0)
  | ((with_reducible change wpList _ _ _ ({ dst := none, op := Op.store 56 (.tmp 6) (.tmp 17), type := _, pos := _, after := _, guard := _ } :: _) _ _); refine wpList_store_all (o := ⟨none, _, _, _, _, _⟩) rfl 56 (.tmp 6) (.tmp 17) rfl w1.heap.size (cells8 s).toArray rfl rfl 56 Z64 (Blk.new w1 _ _) s1.out s2.out s3.out ?_; intro w2 hB2 hk2; have D2 := Lib.hid (D1.out.below (Held.kept_fresh hk2)); have S2 : Hid (Blk w2 w1.heap.size 56 (cells8 s).toArray) := hB2; have hg1 : Hid (w.heap.size + 1 < w1.heap.size) := D1.out.size; clear hk2 hB2 D1; generalize w1.heap.size = gs at *; have r2 := D2.out.row ok'.out)
  | (go_at_call 62; refine (refrising_any ss n (by have := hn7.out; omega) A c w2 (hS0.out w2 D2.out.far)).mono ?_; rintro e w3 ⟨v3, rfl, hb3, -⟩; have D3 := Lib.hid (D2.out.below hb3); have S3 : Hid (Blk w3 gs 56 (cells8 s).toArray) := (hb3.block _ S2.out.lt).trans S2.out; rw [hrs.out, Option.isNone_some]; have hg2 : Hid (w.heap.size + 1 < w2.heap.size ∧ gs < w2.heap.size) := ⟨D2.out.size, S2.out.lt⟩; have hb3s : Hid (w2.heap.size ≤ w3.heap.size) := hb3.size; clear D2 S2 hb3; generalize w2.heap.size = B2 at *)
  | (((with_reducible change wpList _ _ _ (⟨some 31, _, _, _, _, _⟩ :: _) _ _); refine wpList_load_row (o := ⟨some 31, _, _, _, _, _⟩) rfl 56 (.tmp 6) rfl (gs) rfl 56 ((cells8 s).toArray) (0, 0) _ S3.out Tryz.underlying56 rfl s1.out ?_))
  | ((with_reducible change wpList _ _ _ (⟨some 32, _, _, _, _, _⟩ :: _) _ _); refine wpList_buildAggs (o := ⟨some 32, _, _, _, _, _⟩) rfl 37 56 1 _ rfl 64 (by decide) [cells8 s] Tryz.underlying37 size26 zero26 rfl (by decide) (by decide) (q1.out s hs64.out) rfl ?_; obtain ⟨w4, hw4⟩ : ∃ w4, Hid (w3.alloc (.cells ([cells8 s].flatten).toArray 56) = w4) := ⟨_, Lib.hid rfl⟩; rw [hw4.out]; have hb4 : Hid (Below w3.heap.size w3 w4) := (by show Below _ _ _; rw [← hw4.out]; exact Below.heap_below w3 _); have hO4 : Hid (OwnS w4 B2 (.slice (some ⟨w3.heap.size, 0, none⟩) 1 1) 1 [s]) := (by have := own_sign w3 hs64.out; rw [hw4.out] at this; exact this.base hb3s.out); have D4 := Lib.hid (D3.out.below hb4.out); have S4 : Hid (Blk w4 gs 56 (cells8 s).toArray) := (hb4.out.block _ S3.out.lt).trans S3.out; have hB4 : Hid (B2 ≤ w4.heap.size) := (by show _ ≤ _; have := hb4.out.size; have := hb3s.out; omega); clear hw4 hb4 D3 S3 hb3s; generalize w3.heap.size = g4 at *))
 go_wp2_with fail
 go_loopw [10, 11] (fun v10 v11 wr => ∃ (i m : Nat) (A1 : Option Addr) (c1 : Nat) (l : List Text), v11 = .int .i64 (i : Int) ∧ v10 = .slice A1 m c1 ∧ Hid (i ≤ n) ∧ Hid (m ≤ i + 1) ∧ Hid (l = s :: others (ss.take i) s) ∧ Hid (OwnS wr B2 (.slice A1 m c1) m l) ∧ Hid (AD w wr h A n c) ∧ Hid (Blk wr gs 56 (cells8 s).toArray) ∧ Hid (B2 ≤ wr.heap.size)) (fun _ v _ => n - (intOf v).toNat)
 case atStart => exact ⟨0, 1, _, 1, [s], rfl, rfl, Nat.zero_le _, Nat.le_refl _, rfl, hO4.out, D4.out, S4.out, hB4.out⟩
 case round =>
  clear hO4 D4 S4 hB4
  obtain ⟨i, m, A1, c1, l, rfl, rfl, hin, hmi, hl, hO, Dr, Sr, hBr⟩ := hrel
  have hi6 : (i : Int) ≤ 1099511627776 := by have := hin.out; have := hn7.out; omega
  have hR := Dr.out.row ok'.out
  by_cases hlt : i < n
  ·have hz : (i : Int) < (n : Int) := by omega
   have hz0 : (0 : Int) ≤ (i : Int) := by omega
   have hlt' : Hid (i < n) := hlt
   obtain ⟨x, hx⟩ : ∃ x, Hid (ss[i]? = some x) := ⟨_, List.getElem?_eq_getElem (by rw [hSs.out.len]; exact hlt)⟩
   have hxl := Lib.hid (hSs.out.all x (List.mem_of_getElem? hx.out))
   obtain ⟨b0, o0, hA, hb0, hcx⟩ := hSs.out.at_ hx.out
   subst hA
   have hfx : Hid (∀ w', Below w.heap.size w w' → ∀ j u, (cells8 x)[j]? = some u → w'.cell? ⟨b0, o0 + i * 64 + j, none⟩ = some u) := fun w' hb' j u hu => (hb'.cell (p := ⟨b0, o0 + i * 64 + j, none⟩) hb0).trans (hcx j u hu)
   have hfk : Hid (∀ w', Below w.heap.size w w' → ∀ j u, (cells8 (kyS x))[j]? = some u → w'.cell? ⟨b0, o0 + i * 64 + j, none⟩ = some u) := fun w' hb' j u hu => by have := hfx.out w' hb' (0 + j) u (ky_cell hu); rwa [Nat.zero_add] at this
   have sX : Hid ((Tryz.prog.info? 34).map (·.size) = some (cells8 (kyS x)).length) := by show _ = _; rw [cells8_len, kyS_len hxl.out]; exact size32r
   have sX64 : Hid ((Tryz.prog.info? 56).map (·.size) = some (cells8 x).length) := by show _ = _; rw [cells8_len, hxl.out]; exact size26
   obtain ⟨eb, heb⟩ : ∃ eb, Hid (decide (kyS x = kyS s) = eb) := ⟨_, Lib.hid rfl⟩
   have hcE : Hid (∀ w', (binOp .neq 34 (.agg (cells8 (kyS x)).toArray) (.agg (cells8 (kyS s)).toArray)).run Tryz.prog w' = .ok (.bool (!eb)) w') := fun w' => by rw [neq_dig _ _ (kyS_len hxl.out) (kyS_len hs64.out), heb.out]
   have hst := Lib.hid (others_step (s := s) hx.out)
   rw [heb.out] at hst
   clear hcx hlt
   go_upto_region 11 with fail
   refine q_region (Class wr) (by kernel_rfl) (by kernel_rfl) (Class.mk_ ((Below.refl _ _).drew)) ?_
   refine Want.qv0 (.pointer (some ⟨w.heap.size, 98, none⟩)) ?_
   (intro K k; go_simp; apply k; clear k K)
   refine q_val (v := .slice (some ⟨b0, o0, none⟩) n c) rfl (fun w' hw' => by have hc := (Dr.out.below hw'.below).row ok'.out; go_simp) ?_
   (intro K k; go_simp; apply k; clear k K)
   refine q_move rfl (.tmp 11) rfl ?_
   (intro K k; go_simp; apply k; clear k K)
   refine Want.qv0 (.pointer (some ⟨b0, o0 + i * 64, none⟩)) ?_
   (intro K k; go_simp; apply k; clear k K)
   refine Want.qv0 (.pointer (some ⟨b0, o0 + i * 64, none⟩)) ?_
   (intro K k; go_simp; apply k; clear k K)
   refine q_part rfl 34 (.tmp 44) rfl b0 ((o0 + i * 64)) rfl (cells8 (kyS x)) _ (fun w' hw' => hfk.out _ (Dr.out.below hw'.below).far) Tryz.underlying34 rfl sX.out ?_
   (intro K k; go_simp; apply k; clear k K)
   refine Want.qv0 (.pointer (some ⟨gs, 0, none⟩)) ?_
   (intro K k; go_simp; apply k; clear k K)
   refine q_part rfl 34 (.tmp 46) rfl gs (0) rfl (cells8 (kyS s)) _ (fun w' hw' => fun j u hu => ((hw'.below.block _ Sr.out.lt).trans Sr.out |> Blk.cell) (0 + j) |>.trans (by rw [List.getElem?_toArray]; exact ky_cell hu)) Tryz.underlying34 rfl sS.out ?_
   (intro K k; go_simp; apply k; clear k K)
   refine q_val (v := .bool (!eb)) rfl (fun w' hw' => run_cmp rfl rfl rfl qDR (hcE.out w')) ?_
   (intro K k; go_simp; apply k; clear k K)
   refine q_nil ?_
   intro w5 hw5
   have D5 := Lib.hid (Dr.out.below hw5.below)
   have S5 : Hid (Blk w5 gs 56 (cells8 s).toArray) := (hw5.below.block _ Sr.out.lt).trans Sr.out
   have hO5 := Lib.hid (hO.out.below hw5.below)
   have hB5 : Hid (B2 ≤ w5.heap.size) := by show _ ≤ _; have := hw5.below.size; have := hBr.out; omega
   clear hw5
   have hR5 := D5.out.row ok'.out
   cases eb with
   | true =>
    have hl2 : Hid (l = s :: others (ss.take (i + 1)) s) := by show _ = _; rw [hst.out, if_pos rfl, List.append_nil]; exact hl.out
    clear hR
    go_wp2_with fail
    go_roundw
    case rel => exact ⟨i + 1, m, A1, c1, l, by go_num, rfl, hlt'.out, (by have := hmi.out; show _ ≤ _; omega), hl2.out, hO5.out, D5.out, S5.out, hB5.out⟩
    case measure => (have := hlt'.out; simp [intOf]; omega)
   | false =>
    have hl2 : Hid (l ++ [x] = s :: others (ss.take (i + 1)) s) := by show _ = _; rw [hst.out, if_neg (by simp), hl.out]; rfl
    have m1 : Hid (m + 1 ≤ maxLen) := by show _ ≤ _; have := hmi.out; have := hlt'.out; have := hn7.out; unfold maxLen; omega
    have m2 : Hid ((m + 1) * 64 ≤ 140737488355328) := by show _ ≤ _; have := hmi.out; have := hlt'.out; have := hn7.out; omega
    obtain ⟨X1, x1⟩ : ∃ X, Hid (X = ([cells8 x].flatten).toArray) := ⟨_, rfl⟩
    clear hR
    go_wp2_with (first
  | (((with_reducible change wpList _ _ _ (⟨some 54, _, _, _, _, _⟩ :: _) _ _); refine wpList_load_part (o := ⟨some 54, _, _, _, _, _⟩) rfl 56 (.tmp 53) rfl (b0) ((o0 + i * 64)) rfl (cells8 x) _ (hfx.out _ D5.out.far) Tryz.underlying56 rfl sX64.out ?_))
  | ((with_reducible change wpList _ _ _ (⟨some 55, _, _, _, _, _⟩ :: _) _ _); refine wpList_buildAggs (o := ⟨some 55, _, _, _, _, _⟩) rfl 37 56 1 _ rfl 64 (by decide) [cells8 x] Tryz.underlying37 size26 zero26 rfl (by decide) (by decide) (q1.out x hxl.out) rfl ?_; rw [← x1.out]; have hN1 : Hid (Sgs (w5.alloc (.cells X1 56)) (some ⟨w5.heap.size, 0, none⟩) 1 [x]) := (by show Sgs _ _ _ _; rw [x1.out]; exact sgs_one w5 hxl.out); have hO6 := Lib.hid (hO5.out.below (Below.heap_below w5 (.cells X1 56))); have D6 := Lib.hid (D5.out.below (Below.heap_below w5 (.cells X1 56))); have S6 : Hid (Blk (w5.alloc (.cells X1 56)) gs 56 (cells8 s).toArray) := ((Below.heap_below w5 (.cells X1 56)).block _ S5.out.lt).trans S5.out; have hB6 : Hid (B2 ≤ (w5.alloc (.cells X1 56)).heap.size) := (by show _ ≤ _; have := hB5.out; simp; omega); clear D5 S5 hO5 hB5)
  | ((with_reducible change wpList _ _ _ (⟨some 56, _, _, _, _, _⟩ :: _) _ _); refine wpList_append_src _ (o := ⟨some 56, _, _, _, _, _⟩) rfl (.tmp 49) (.tmp 55) 37 rfl B2 56 i0 (.agg Z64) 64 64 Tryz.underlying37 ii iz0 iz1 iz2 rfl (by decide) (.slice A1 m c1) m (l.flatMap cells8) rfl hO6.out.2.2 (some ⟨w5.heap.size, 0, none⟩) 1 1 ([x].flatMap cells8) rfl hN1.out.rd (fun e => by cases e) (one_signs [x]) m1.out m2.out hB6.out ?_; intro v7 w7 hG; obtain ⟨hO7, hb7⟩ := grew_signs hG (Below.refl _ _) hB6.out hO6.out hN1.out.all hN1.out.len; have D7 := Lib.hid (D6.out.on hg2.out.1 hb7); have S7 : Hid (Blk w7 gs 56 (cells8 s).toArray) := (hb7.block _ hg2.out.2).trans S6.out; have hB7 : Hid (B2 ≤ w7.heap.size) := (by show _ ≤ _; have := hb7.size; have := hB6.out; omega); obtain ⟨A7, c7, rfl, -⟩ := OwnS.reads hO7; replace hO7 := Lib.hid hO7; clear hG hb7 D6 S6 hO6))
    go_roundw
    case rel => exact ⟨i + 1, m + 1, A7, c7, l ++ [x], by go_num, rfl, hlt'.out, (by have := hmi.out; show _ ≤ _; omega), hl2.out, hO7.out, D7.out, S7.out, hB7.out⟩
    case measure => (have := hlt'.out; simp [intOf]; omega)
  ·have hz : ¬ ((i : Int) < (n : Int)) := by omega
   have hin' : i = n := by have := hin.out; omega
   subst hin'
   have hl2 : Hid (l = s :: others ss s) := by show _ = _; rw [hl.out, List.take_of_length_le (by rw [hSs.out.len]; exact Nat.le_refl _)]
   have hm5 : Hid ((others ss s).length + 1 = m) := by show _ = _; rw [← hO.out.2.1, hl2.out]; rfl
   have hlr : Hid (rising kyS l = some r) := by show _ = _; rw [hl2.out]; exact hr.out
   have hr5 := hr
   have hSl : Hid (Sgs wr A1 m l) := by obtain ⟨A9, c9, e9, -, -, -, x, -⟩ := hO.out.reads; injection e9 with e9 _ e10; subst e9 e10; exact x
   clear hlt hl
   go_upto_region 13 with fail
   by_cases h16 : 16 < m
   ·have x6 : (16 : Int) < (m : Int) := by omega
    go_wp2_with ((with_reducible change wpList _ _ _ ({ dst := none, op := Op.store 39 (.tmp 4) (.tmp 60), type := _, pos := _, after := _, guard := _ } :: _) _ _); refine wpList_store_row (o := ⟨none, _, _, _, _, _⟩) rfl 39 (.tmp 4) (.tmp 60) rfl (w.heap.size + 1) Z99 rfl rfl 39 Z99 Dr.out.res size99' rfl one99 ?_)
    refine bodyPost_ret (results_cell_row2 rfl _ _ (w.heap.size + 1) 39 Z99 (0, 0) _ rfl (setRow_heap _ _ _ _ _ _ Dr.out.res) Tryz.underlying39 rfl size99') rfl ?_
    exact ⟨_, _, none, rfl, below_setRow Dr.out.far (by omega) _, fin_many hm5.out h16, rfl⟩
   ·have x6 : ¬ ((16 : Int) < (m : Int)) := by omega
    go_upto_region 16 with (go_at_call 62; refine (refrising_any l m (by have := hmi.out; have := hn7.out; omega) A1 c1 wr hSl.out).mono ?_; rw [hlr.out]; rintro e w8 ⟨v8, rfl, hb8, hO8⟩; have D8 := Lib.hid (Dr.out.below hb8); obtain ⟨A8, c8, rfl, -⟩ := OwnS.reads hO8; replace hO8 := Lib.hid (OwnS.base (B' := B2) hO8 hBr.out); clear hb8 Dr Sr hO)
    obtain ⟨NC, hNC⟩ : ∃ NC, Hid ((noteCells h (.slice A8 m c8)).toArray = NC) := ⟨_, Lib.hid rfl⟩
    have y1 := z1.out (.slice A8 m c8)
    have y2 := z2.out (.slice A8 m c8)
    have y3 := z3.out A8 m c8
    have y4 := Lib.hid (fun w' => hbn.out A8 m c8 w')
    rw [hNC.out] at y1 y2 y3 y4
    replace y1 := Lib.hid y1
    replace y2 := Lib.hid y2
    replace y3 := Lib.hid y3
    go_wp2_with (first
  | (((with_reducible change wpList _ _ _ (⟨some 67, _, _, _, _, _⟩ :: _) _ _); refine wpList_load_part (o := ⟨some 67, _, _, _, _, _⟩) rfl 36 (.tmp 66) rfl (w.heap.size) (0) rfl (headCells h) _ D8.out.head Tryz.underlying36 rfl hsz.out ?_))
  | ((with_reducible change wpList _ _ _ (⟨some 69, _, _, _, _, _⟩ :: _) _ _); refine wpList_buildF (o := ⟨some 69, _, _, _, _, _⟩) rfl 39 #[(0, .tmp 67), (1, .tmp 68)] rfl #[(0, .agg (headCells h).toArray), (1, .slice A8 m c8)] (by simp; exact ⟨rfl, rfl⟩) _ (y4.out _) ?_)
  | ((with_reducible change wpList _ _ _ ({ dst := none, op := Op.store 39 (.tmp 4) (.tmp 69), type := _, pos := _, after := _, guard := _ } :: _) _ _); refine wpList_store_all (o := ⟨none, _, _, _, _, _⟩) rfl 39 (.tmp 4) (.tmp 69) rfl (w.heap.size + 1) NC rfl rfl 39 Z99 D8.out.res y1.out y2.out y3.out ?_; intro w9 hB9 hk9; have hO9 := Lib.hid (own_off hO8.out hk9 (by intro k e; have := hg2.out.1; omega)); have hb9 : Hid (Below w.heap.size w w9) := D8.out.far.trans (Kept.below_of hk9 (by omega) D8.out.far.size); have hR9 := hB9; clear hk9 hB9))
    refine bodyPost_ret (results_cell_row2 rfl _ _ (w.heap.size + 1) 39 NC (0, 0) _ rfl hR9.out Tryz.underlying39 rfl y1.out) rfl ?_
    exact ⟨_, _, some r, rfl, hb9.out, fin_some hm5.out h16 hr5.out, A8, c8, by rw [hO8.out.2.1, ← hNC.out], by rw [hO8.out.2.1]; exact hO9.out.base (by have := hg2.out.1; omega)⟩
theorem refadd_any (h : HeadD) (ok : h.Ok) (ss : List Text) (n : Nat) (hn47 : n ≤ 1099511627776) (A : Option Addr) (c : Nat) (hnil : A = none → n = 0 ∧ c = 0) (q : Text) (k : Nat) (hk : q.length = k) (Ak : Option Addr) (ck : Nat) (hkc : k ≤ ck) (hkn : Ak = none → k = 0 ∧ ck = 0) (w : World) (hS : Sgs w A n ss) (hq : Reads w 1 Ak k (cells8 q)) :
  Calls Tryz.prog 41 #[.agg (noteCells h (.slice A n c)).toArray, .slice Ak k ck] w (AddOut h ss q w) := by
 by_cases h0 : (signAns h q).2 = 0
 ·cases hr : rising kyS ss with
  | none => exact (refadd_twice h ok ss n hn47 A c hnil q k hk Ak ck hkc hkn _ rfl _ rfl h0 hr w hS hq).mono fun e w' ⟨he, hb⟩ => out_twice h0 hr he hb
  | some rs => exact (refadd_yes h ok ss n hn47 A c hnil q k hk Ak ck hkc hkn _ rfl _ rfl h0 rs hr w hS hq).mono fun e w' hy => out_yes h0 hr hy
 ·exact (refadd_refused h ok ss n hn47 A c hnil q k hk Ak ck hkc hkn _ rfl _ rfl h0 w hS hq).mono fun e w' ⟨he, hb⟩ => out_refused rfl h0 he hb
end Go.Proofs.YtfbhjoejffagjaaGreatDoor.RefAdd

namespace Go.Proofs.YtfbhjoejffagjaaGreatDoor.HeadAdds
open Go Go.RowKit Go.Proofs.YtfbhjoejffagjaaGreatDoor Mem Sha Bytes SortP NoteP QuietTail Grown Want Guard2 Go.Proofs.YtfbhjoejffagjaaGreatDoor.Append Own Rise SortM SgM HashMem HeadMem EncNoteP EncNote RowS Fill NoteM SignEq CmpW SameSigns Stranger Given HeadTake HeadTake2 Decode Kept16 RefNote Sign Signs AddP Go.Proofs.YtfbhjoejffagjaaGreatDoor.Add RefAdd Law16 Held

def addH (h : HeadD) : Option (List Text) → HeadD
 | none => h0
 | some _ => h
theorem addH_ok {h : HeadD} (ok : h.Ok) (o : Option (List Text)) : (addH h o).Ok := by
 cases o with
 | none => exact h0_ok
 | some _ => exact ok
theorem add_zero {h : HeadD} {ss : List Text} {q : Text} {o : Option (List Text)} {k : Int} (ha : addAns h ss q = (o, k)) (hk : k = 0) : addH h o = h ∧ (o.getD []).length ≤ 16 := by
 subst hk
 unfold addAns at ha
 by_cases h1 : (signAns h q).2 = 0
 ·rw [if_pos h1] at ha
  cases hr : rising kyS ss with
  | none => rw [hr] at ha; cases ha
  | some rs =>
   rw [hr] at ha
   have ha : addFin ss (signAns h q).1 = (o, 0) := ha
   unfold addFin at ha
   by_cases h2 : 16 < (others ss (signAns h q).1).length + 1
   ·rw [if_pos h2] at ha; cases ha
   ·rw [if_neg h2] at ha
    obtain ⟨r, h3⟩ := fin_is (s := (signAns h q).1) hr
    rw [h3] at ha
    injection ha with ha
    subst ha
    refine ⟨rfl, ?_⟩
    show r.length ≤ 16
    rw [rising_len h3, List.length_cons]
    omega
 ·rw [if_neg h1] at ha
  injection ha with _ ha
  exact absurd ha h1
theorem add_len {h : HeadD} {ss : List Text} {q : Text} {o : Option (List Text)} {k : Int} (ha : addAns h ss q = (o, k)) : (o.getD []).length ≤ 16 := by
 by_cases hk : k = 0
 ·exact (add_zero ha hk).2
 ·cases o with
  | none => simp
  | some r =>
   unfold addAns at ha
   by_cases h1 : (signAns h q).2 = 0
   ·rw [if_pos h1] at ha
    split at ha
    ·unfold addFin at ha
     split at ha
     ·cases ha
     ·injection ha with _ ha; exact absurd ha.symm hk
    ·cases ha
   ·rw [if_neg h1] at ha; cases ha
theorem out_note {h H : HeadD} {ss r : List Text} {q : Text} {w w' : World} {e : Ending} {o : Option (List Text)} {k : Int} {m : Nat} (ha : addAns h ss q = (o, k)) (hH : addH h o = H) (hr : o.getD [] = r) (hm : r.length = m) (ho : AddOut h ss q w e w') :
  ∃ A c, e = .returned (.tuple #[.agg (noteCells H (.slice A m c)).toArray, .int .i64 k]) ∧ Below w.heap.size w w' ∧ OwnS w' w.heap.size (.slice A m c) m r := by
 obtain ⟨V, he, hb, hp⟩ := ho
 rw [ha] at he hp
 subst hr hH hm
 cases o with
 | none =>
  obtain rfl : V = .agg Z99 := hp
  exact ⟨none, 0, by rw [he, ← z99_eq]; rfl, hb, OwnS.nil _ _⟩
 | some r =>
  obtain ⟨A, c, rfl, hO⟩ := hp
  exact ⟨A, c, he, hb, hO⟩
structure FitN (cs : Array Value) : Prop where
 size : (Tryz.prog.info? 39).map (·.size) = some cs.size
 zero : Z99.size = cs.size
 one : cs.all (fun v => v.oneCell') = true
theorem fitN {h : HeadD} (ok : h.Ok) (A : Option Addr) (n c : Nat) : FitN (noteCells h (.slice A n c)).toArray := ⟨note_size ok _, note_zero ok _, note_one _ _ _⟩
theorem own_sgs {w : World} {B n c : Nat} {A : Option Addr} {ds : List Text} (h : OwnS w B (.slice A n c) n ds) : Sgs w A n ds ∧ (A = none → n = 0 ∧ c = 0) := by
 obtain ⟨A9, c9, e9, -, -, x0, x, -⟩ := h.reads
 injection e9 with e9 _ e10
 subst e9 e10
 exact ⟨x, x0⟩
end Go.Proofs.YtfbhjoejffagjaaGreatDoor.HeadAdds
