/-
  Texts of the claim, put into one file: ReadNote.
-/
import Derived.Test.YtfbhjoejffagjaaGreatDoorZ31
import Derived.Test.YtfbhjoejffagjaaGreatDoorZ16
import Derived.Test.YtfbhjoejffagjaaGreatDoorZ33
import Derived.Deep.Cut

namespace Go.Proofs.YtfbhjoejffagjaaGreatDoor.ReadNote
open Go Go.RowKit Go.Proofs.YtfbhjoejffagjaaGreatDoor Mem Sha Bytes SortP NoteP QuietTail Grown Want Go.Proofs.YtfbhjoejffagjaaGreatDoor.Append Own Reader Reader2 Reader3 Rise SortM SgM HeadMem HeadTake HeadTake2 EncNoteP EncNote RowS Fill NoteM Decode ReadHead RefLess

theorem okH_take (l : Text) : okH (l.take 113) = okH l := by
 unfold okH
 have e1 : (l.take 113).getD 0 0 = l.getD 0 0 := by rw [List.getD_eq_getElem?_getD, List.getD_eq_getElem?_getD, List.getElem?_take, if_pos (by omega)]
 have e2 : ((l.take 113).drop 33).take 8 = (l.drop 33).take 8 := by rw [List.drop_take, List.take_take]; rfl
 have e3 : ((l.take 113).drop 105).take 8 = (l.drop 105).take 8 := by rw [List.drop_take, List.take_take]; rfl
 rw [e1, e2, e3]
theorem headOf_take (l : Text) : headOf (l.take 113) = headOf l := by
 unfold headOf
 have e0 : ((l.take 113).drop 1).take 32 = (l.drop 1).take 32 := by rw [List.drop_take, List.take_take]; rfl
 have e1 : ((l.take 113).drop 41).take 32 = (l.drop 41).take 32 := by rw [List.drop_take, List.take_take]; rfl
 have e4 : ((l.take 113).drop 73).take 32 = (l.drop 73).take 32 := by rw [List.drop_take, List.take_take]; rfl
 have e2 : ((l.take 113).drop 33).take 8 = (l.drop 33).take 8 := by rw [List.drop_take, List.take_take]; rfl
 have e3 : ((l.take 113).drop 105).take 8 = (l.drop 105).take 8 := by rw [List.drop_take, List.take_take]; rfl
 rw [e0, e1, e2, e3, e4]
theorem fill2 (x y : Text) (hx : x.length = 32) (hy : y.length = 32) : (splice (splice Z64.toList 0 (cells8 x)).toArray.toList 32 (cells8 y)).toArray = (cells8 (x ++ y)).toArray := by
 have hz : Z64.toList.length = 64 := rfl
 unfold splice
 rw [List.toList_toArray, cells8_len, cells8_len, hx, hy]
 congr 1
 have e : cells8 (x ++ y) = cells8 x ++ cells8 y := by simp [cells8]
 have h1 : (Z64.toList.take 0 ++ (cells8 x ++ Z64.toList.drop (0 + 32))).take 32 = cells8 x := by
  rw [List.take_zero, List.nil_append, List.take_append_of_le_length (by rw [cells8_len, hx]; exact Nat.le_refl _), List.take_of_length_le (by rw [cells8_len, hx]; exact Nat.le_refl _)]
 have h2 : (Z64.toList.take 0 ++ (cells8 x ++ Z64.toList.drop (0 + 32))).drop (32 + 32) = [] := by
  apply List.drop_of_length_le
  rw [List.take_zero, List.nil_append, List.length_append, cells8_len, hx, List.length_drop, hz]
  omega
 first
 | rw [h1, h2, e, List.append_nil]
 | (simp only [List.append_assoc] at h1 h2 ⊢; rw [h1, h2, e, List.append_nil])
theorem halves (a b : Text) (ha : a.length = 32) : kyS (a ++ b) = a ∧ tgS (a ++ b) = b := ⟨List.take_left' ha, List.drop_left' ha⟩
theorem row_next {q : Text} (i : Nat) : signsOf q (i + 1) = signsOf q i ++ [signAt q i] := by unfold signsOf; rw [List.range_succ, List.map_append]; rfl
theorem note_set {H : HeadD} (ok : H.Ok) (v u : Value) : (noteCells H v).toArray.setIfInBounds 98 u = (noteCells H u).toArray := by
 unfold noteCells
 rw [List.setIfInBounds_toArray, List.set_append_right _ _ (by rw [headCells_len ok]; exact Nat.le_refl _), headCells_len ok]
 rfl
structure RN (w0 w : World) (gn B : Nat) (H : HeadD) (A : Option Addr) (i c : Nat) (ds : List Text) : Prop where
 res : Blk w w0.heap.size 39 Z99
 note : Blk w gn 39 (noteCells H (.slice A i c)).toArray
 own : OwnS w B (.slice A i c) i ds
 below : Below w0.heap.size w0 w
 hg : w0.heap.size < gn
 hB : gn < B
 hw : B ≤ w.heap.size
theorem RN.far {w0 w w' : World} {gn B : Nat} {H : HeadD} {A : Option Addr} {i c : Nat} {ds : List Text} (h : RN w0 w gn B H A i c ds) (hk : Below w.heap.size w w') : RN w0 w' gn B H A i c ds :=
 ⟨h.res.kept (S := fun _ => False) (Kept.of_below hk) (fun x => x), h.note.kept (S := fun _ => False) (Kept.of_below hk) (fun x => x), h.own.below hk, h.below.trans (hk.mono h.below.size), h.hg, h.hB, Nat.le_trans h.hw hk.size⟩
theorem RN.push {w0 w w' : World} {gn B : Nat} {H : HeadD} (ok : H.Ok) {A A' : Option Addr} {i c c' : Nat} {ds ds' : List Text} (h : RN w0 w gn B H A i c ds) (hb : Below B w w') (ho : OwnS w' B (.slice A' (i + 1) c') (i + 1) ds') : RN w0 (w'.setCell ⟨gn, 98, none⟩ (.slice A' (i + 1) c')) gn B H A' (i + 1) c' ds' := by
 have hn : Blk w' gn 39 (noteCells H (.slice A i c)).toArray := (hb.block gn h.hB).trans h.note
 have hr : Blk w' w0.heap.size 39 Z99 := (hb.block w0.heap.size (by have := h.hg; have := h.hB; omega)).trans h.res
 have hk : Kept (· = gn) w' (w'.setCell ⟨gn, 98, none⟩ (.slice A' (i + 1) c')) := (Kept.refl (· = gn) w').setCell (p := ⟨gn, 98, none⟩) (.inl rfl) _
 refine ⟨hr.kept hk (by have := h.hg; omega), ?_, ?_, ?_, h.hg, h.hB, Nat.le_trans (Nat.le_trans h.hw hb.size) hk.size⟩
 ·have := hn.set_ 98 (.slice A' (i + 1) c')
  rwa [note_set ok] at this
 ·refine ⟨ho.1, ho.2.1, ho.2.2.1, ho.2.2.2.imp id fun ⟨g, cap, cur, h1, h2, h3, h4⟩ => ⟨g, cap, cur, h1, h2, (hk.block g (Array.getElem?_eq_some_iff.1 h3).1 (by have := h.hB; omega)).trans h3, h4⟩⟩
 ·have hb' : Below w0.heap.size w w' := hb.mono (by have := h.hg; have := h.hB; omega)
  exact (h.below.trans hb').trans (Kept.below_of hk (by have := h.hg; omega) (by have := h.below.size; have := hb.size; omega))
theorem RN.end_ {w0 w : World} {gn B : Nat} {H : HeadD} {A : Option Addr} {i c : Nat} {ds : List Text} (h : RN w0 w gn B H A i c ds) (X : Array Value) : Below w0.heap.size w0 (w.setRow w0.heap.size X) := below_setRow h.below (Nat.le_refl _) X

set_option maxRecDepth 100000 in
set_option maxHeartbeats 4000000 in
theorem read_short (q : Text) (k : Nat) (hk : q.length = k) (hk47 : k < 140737488355328) (hs : k < 115) (A : Option Addr) (c : Nat) (_ : k ≤ c) (w : World) (_ : Reads w 1 A k (cells8 q)) :
  Calls Tryz.prog 38 #[.slice A k c] w fun e w' => ∃ v, e = .returned (.tuple #[v, .bool (noteOk q)]) ∧ Below w.heap.size w w' ∧ DecPost q w.heap.size w' v := by
 have hb0 : Hid (Below w.heap.size w (w.alloc (.cells Z99 39))) := Below.heap_below w _
 have hZ : Hid (Blk (w.alloc (.cells Z99 39)) w.heap.size 39 Z99) := Blk.new w _ _
 have hZs : Hid ((w.alloc (.cells Z99 39)).heap.size = w.heap.size + 1) := by show _ = _; simp
 obtain ⟨k8, hk8⟩ : ∃ k8 : Bool, Hid (noteOk q = k8) := ⟨_, Lib.hid rfl⟩
 rw [hk8.out]
 have hno : Hid (noteOk q = false) := noteOk_no (fun h => by omega)
 have x1 : (k : Int) < 115 := by omega
 clear hs hk
 go_enter Tryz.func38, Tryz.ntmps38
 go_wp2_with ((with_reducible change wpList _ _ _ ({ dst := none, op := Op.store 39 (.tmp 2) (.tmp 19), type := _, pos := _, after := _, guard := _ } :: _) _ _); refine wpList_store_row (o := ⟨none, _, _, _, _, _⟩) rfl 39 (.tmp 2) (.tmp 19) rfl w.heap.size Z99 rfl rfl 39 Z99 hZ.out size99' rfl one99 ?_)
 refine bodyPost_ret (results_cell_row2 rfl _ _ w.heap.size 39 Z99 (0, 0) _ rfl (setRow_heap _ _ _ _ _ _ hZ.out) Tryz.underlying39 rfl size99') rfl ?_
 exact ⟨_, by rw [← hk8.out, hno.out]; rfl, below_setRow hb0.out (Nat.le_refl _) _, dec_no hno.out _ _⟩

set_option maxRecDepth 100000 in
set_option maxHeartbeats 4000000 in
theorem read_kind (q : Text) (k : Nat) (hk : q.length = k) (hk47 : k < 140737488355328) (hl : 115 ≤ k) (h33 : ¬ q.getD 0 0 = 33) (A : Option Addr) (c : Nat) (_ : k ≤ c) (w : World) (hr : Reads w 1 A k (cells8 q)) :
  Calls Tryz.prog 38 #[.slice A k c] w fun e w' => ∃ v, e = .returned (.tuple #[v, .bool (noteOk q)]) ∧ Below w.heap.size w w' ∧ DecPost q w.heap.size w' v := by
 have hb0 : Hid (Below w.heap.size w (w.alloc (.cells Z99 39))) := Below.heap_below w _
 have hZ : Hid (Blk (w.alloc (.cells Z99 39)) w.heap.size 39 Z99) := Blk.new w _ _
 have hZs : Hid ((w.alloc (.cells Z99 39)).heap.size = w.heap.size + 1) := by show _ = _; simp
 obtain ⟨k8, hk8⟩ : ∃ k8 : Bool, Hid (noteOk q = k8) := ⟨_, Lib.hid rfl⟩
 rw [hk8.out]
 obtain ⟨b, o, rfl, hbl, hcell⟩ := hr.2 (by omega)
 have hc : Hid (∀ w', Below w.heap.size w w' → ∀ j, j < k → w'.cell? ⟨b, o + j, none⟩ = some (.int .u8 (b8 (q.getD j 0)))) := fun w' hb j hj => (hb.cell (p := ⟨b, o + j, none⟩) hbl).trans (hcell j _ (cells8_at q j (by omega)))
 obtain ⟨yk, hyk⟩ : ∃ yk, Hid (b8 (q.getD 0 0) = yk) := ⟨_, Lib.hid rfl⟩
 have hc0 : (w.alloc (.cells Z99 39)).cell? ⟨b, o, none⟩ = some (.int .u8 yk) := by have := hc.out _ hb0.out 0 (by omega); rw [hyk.out] at this; exact this
 change (w.alloc (.cells Tryz.zeroCells39 39)).cell? ⟨b, o, none⟩ = some (.int .u8 yk) at hc0
 have x1 : ((k : Int) < 115) = False := eq_false (by omega)
 have x0 : (0 : Int) < (k : Int) := by omega
 have hno : Hid (noteOk q = false) := noteOk_no (fun h => h33 h.2.1)
 have hne : ¬ (yk = 33) := fun e => h33 (BitVec.eq_of_toNat_eq (by have h := hyk.out; rw [e] at h; unfold b8 at h; have : (33 : BitVec 8).toNat = 33 := rfl; omega))
 clear hl h33 hr hk hcell
 go_enter Tryz.func38, Tryz.ntmps38
 go_wp2_with ((with_reducible change wpList _ _ _ ({ dst := none, op := Op.store 39 (.tmp 2) (.tmp 19), type := _, pos := _, after := _, guard := _ } :: _) _ _); refine wpList_store_row (o := ⟨none, _, _, _, _, _⟩) rfl 39 (.tmp 2) (.tmp 19) rfl w.heap.size Z99 rfl rfl 39 Z99 hZ.out size99' rfl one99 ?_)
 refine bodyPost_ret (results_cell_row2 rfl _ _ w.heap.size 39 Z99 (0, 0) _ rfl (setRow_heap _ _ _ _ _ _ hZ.out) Tryz.underlying39 rfl size99') rfl ?_
 exact ⟨_, by rw [← hk8.out, hno.out]; rfl, below_setRow hb0.out (Nat.le_refl _) _, dec_no hno.out _ _⟩

set_option maxRecDepth 100000 in
set_option maxHeartbeats 4000000 in
theorem read_bad (q : Text) (k : Nat) (hk : q.length = k) (hk47 : k < 140737488355328) (hl : 115 ≤ k) (h33 : q.getD 0 0 = 33) (hok : ¬ okH (q.drop 1) = true) (A : Option Addr) (c : Nat) (hkc : k ≤ c) (w : World) (hr : Reads w 1 A k (cells8 q)) :
  Calls Tryz.prog 38 #[.slice A k c] w fun e w' => ∃ v, e = .returned (.tuple #[v, .bool (noteOk q)]) ∧ Below w.heap.size w w' ∧ DecPost q w.heap.size w' v := by
 have hb0 : Hid (Below w.heap.size w (w.alloc (.cells Z99 39))) := Below.heap_below w _
 have hZ : Hid (Blk (w.alloc (.cells Z99 39)) w.heap.size 39 Z99) := Blk.new w _ _
 have hZs : Hid ((w.alloc (.cells Z99 39)).heap.size = w.heap.size + 1) := by show _ = _; simp
 obtain ⟨k8, hk8⟩ : ∃ k8 : Bool, Hid (noteOk q = k8) := ⟨_, Lib.hid rfl⟩
 rw [hk8.out]
 obtain ⟨b, o, rfl, hbl, hcell⟩ := hr.2 (by omega)
 have hc : Hid (∀ w', Below w.heap.size w w' → ∀ j, j < k → w'.cell? ⟨b, o + j, none⟩ = some (.int .u8 (b8 (q.getD j 0)))) := fun w' hb j hj => (hb.cell (p := ⟨b, o + j, none⟩) hbl).trans (hcell j _ (cells8_at q j (by omega)))
 obtain ⟨yk, hyk⟩ : ∃ yk, Hid (b8 (q.getD 0 0) = yk) := ⟨_, Lib.hid rfl⟩
 have hc0 : (w.alloc (.cells Z99 39)).cell? ⟨b, o, none⟩ = some (.int .u8 yk) := by have := hc.out _ hb0.out 0 (by omega); rw [hyk.out] at this; exact this
 change (w.alloc (.cells Tryz.zeroCells39 39)).cell? ⟨b, o, none⟩ = some (.int .u8 yk) at hc0
 have x1 : ((k : Int) < 115) = False := eq_false (by omega)
 have x0 : (0 : Int) < (k : Int) := by omega
 obtain ⟨n, hn⟩ : ∃ n, Hid (cntOf q = n) := ⟨_, Lib.hid rfl⟩
 have hn6 : (n : Int) < 256 := by have h := hn.out; unfold cntOf at h; have := (q.getD 114 0).isLt; omega
 have x4 : IntKind.i64.wrap (n : Int) = (n : Int) := IntWalk.i64_in _ (by omega)
 have hc114 : Hid (∀ w', Below w.heap.size w w' → w'.cell? ⟨b, o + 114, none⟩ = some (.int .u8 (n : Int))) := fun w' hb => by
  have := hc.out w' hb 114 (by omega)
  rw [this, show b8 (q.getD 114 0) = (n : Int) from congrArg Int.ofNat hn.out]
 have x7 : (114 : Int) < (k : Int) := by omega
 have hc113 : Hid (113 ≤ c - 1) := by show _ ≤ _; omega
 obtain ⟨p, hp⟩ : ∃ p, Hid ((q.drop 1).take 113 = p) := ⟨_, Lib.hid rfl⟩
 have hpl : Hid (p.length = 113) := by show _ = _; rw [← hp.out, List.length_take, List.length_drop]; omega
 have hpo : Hid (okH p = okH (q.drop 1)) := by show _ = _; rw [← hp.out]; exact okH_take _
 have hph : Hid (headOf p = headOf (q.drop 1)) := by show _ = _; rw [← hp.out]; exact headOf_take _
 have hrp : Hid (Reads (w.alloc (.cells Z99 39)) 1 (some ⟨b, o + 1, none⟩) 113 (cells8 p)) := by
  show Reads _ _ _ _ _
  rw [← hp.out]
  have h9 := hr.below hb0.out
  rw [← hk] at h9
  exact reads_sub (c := c) h9 1 113 (by omega) (by omega) (by omega)
 have X1 : ∀ w', (Instr.sliceAt 31 (.slice (some ⟨b, o, none⟩) k c) (some (.int .i64 1)) (some (.int .i64 114)) none).run Tryz.prog w' = .ok (.slice (some ⟨b, o + 1, none⟩) 113 (c - 1)) w' := fun w' => by
  rw [run_mid (l := 1) (h := 114) Tryz.underlying31 (fun _ => rfl) (by omega) (by omega) 1 114 rfl rfl w']
  simp only [cutA, if_neg (show ¬ c = 1 by omega), Option.map_some, add_at]
 have hyk' : yk = 33 := by rw [← hyk.out, h33]; rfl
 subst hyk'
 have h33' : Hid (q.getD 0 0 = 33) := h33
 have hX : readOut p = .tuple #[.agg Z98, .bool false] := readOut_no (fun h => hok (by have h2 : (decide (p.length = 113) && okH p) = true := h; rw [hpo.out, Bool.and_eq_true] at h2; exact h2.2))
 have hno : Hid (noteOk q = false) := noteOk_no (fun h => hok h.2.2.1)
 clear h33 hok hr hcell
 go_enter Tryz.func38, Tryz.ntmps38
 go_wp2_with (first
  | (go_at_call 46; refine (readHead_any p 113 hpl.out (by omega) (some ⟨b, o + 1, none⟩) (c - 1) hc113.out (w.alloc (.cells Z99 39)) hrp.out).mono ?_; rw [hX]; rintro e w2 ⟨rfl, hb2⟩; rw [hZs.out] at hb2; have hZ2 := Lib.hid ((hb2.block w.heap.size (by omega)).trans hZ.out); have hbb2 : Hid (Below w.heap.size w w2) := hb0.out.trans (hb2.mono (by omega)); have hlt2 : Hid (w.heap.size < w2.heap.size) := (by have := hb2.size; rw [hZs.out] at this; exact this); clear hb2)
  | ((with_reducible change wpList _ _ _ ({ dst := none, op := Op.store 36 (.tmp 4) (.tmp 24), type := _, pos := _, after := _, guard := _ } :: _) _ _); refine wpList_store_all (o := ⟨none, _, _, _, _, _⟩) rfl 36 (.tmp 4) (.tmp 24) rfl w2.heap.size Z98 rfl rfl 36 Z98 (Blk.new w2 _ _) size98' rfl one98 ?_; intro w3 hB3 hk3; have hbn3 := below_new hk3; have hZ3 := Lib.hid ((hbn3.block w.heap.size hlt2.out).trans hZ2.out); have hbb3 : Hid (Below w.heap.size w w3) := hbb2.out.trans (hbn3.mono hbb2.out.size); have hlt3 : Hid (w2.heap.size < w3.heap.size) := hB3.out.lt; have hq3 := hc114.out w3 hbb3.out; clear hbn3 hk3 hZ2; generalize w2.heap.size = gh at *)
  | ((with_reducible change wpList _ _ _ ({ dst := none, op := Op.store 39 (.tmp 2) (.tmp 48), type := _, pos := _, after := _, guard := _ } :: _) _ _); refine wpList_store_row (o := ⟨none, _, _, _, _, _⟩) rfl 39 (.tmp 2) (.tmp 48) rfl w.heap.size Z99 rfl rfl 39 Z99 hZ3.out size99' rfl one99 ?_))
 refine bodyPost_ret (results_cell_row2 rfl _ _ w.heap.size 39 Z99 (0, 0) _ rfl (setRow_heap _ _ _ _ _ _ hZ3.out) Tryz.underlying39 rfl size99') rfl ?_
 exact ⟨_, by rw [← hk8.out, hno.out]; rfl, below_setRow hbb3.out (Nat.le_refl _) _, dec_no hno.out _ _⟩

set_option maxRecDepth 100000 in
set_option maxHeartbeats 4000000 in
theorem read_cnt (q : Text) (k : Nat) (hk : q.length = k) (hk47 : k < 140737488355328) (hl : 115 ≤ k) (h33 : q.getD 0 0 = 33) (hok : okH (q.drop 1) = true) (hcn : ¬ (1 ≤ cntOf q ∧ cntOf q ≤ 16 ∧ k = 115 + 64 * cntOf q)) (A : Option Addr) (c : Nat) (hkc : k ≤ c) (w : World) (hr : Reads w 1 A k (cells8 q)) :
  Calls Tryz.prog 38 #[.slice A k c] w fun e w' => ∃ v, e = .returned (.tuple #[v, .bool (noteOk q)]) ∧ Below w.heap.size w w' ∧ DecPost q w.heap.size w' v := by
 have hb0 : Hid (Below w.heap.size w (w.alloc (.cells Z99 39))) := Below.heap_below w _
 have hZ : Hid (Blk (w.alloc (.cells Z99 39)) w.heap.size 39 Z99) := Blk.new w _ _
 have hZs : Hid ((w.alloc (.cells Z99 39)).heap.size = w.heap.size + 1) := by show _ = _; simp
 obtain ⟨k8, hk8⟩ : ∃ k8 : Bool, Hid (noteOk q = k8) := ⟨_, Lib.hid rfl⟩
 rw [hk8.out]
 obtain ⟨b, o, rfl, hbl, hcell⟩ := hr.2 (by omega)
 have hc : Hid (∀ w', Below w.heap.size w w' → ∀ j, j < k → w'.cell? ⟨b, o + j, none⟩ = some (.int .u8 (b8 (q.getD j 0)))) := fun w' hb j hj => (hb.cell (p := ⟨b, o + j, none⟩) hbl).trans (hcell j _ (cells8_at q j (by omega)))
 obtain ⟨yk, hyk⟩ : ∃ yk, Hid (b8 (q.getD 0 0) = yk) := ⟨_, Lib.hid rfl⟩
 have hc0 : (w.alloc (.cells Z99 39)).cell? ⟨b, o, none⟩ = some (.int .u8 yk) := by have := hc.out _ hb0.out 0 (by omega); rw [hyk.out] at this; exact this
 change (w.alloc (.cells Tryz.zeroCells39 39)).cell? ⟨b, o, none⟩ = some (.int .u8 yk) at hc0
 have x1 : ((k : Int) < 115) = False := eq_false (by omega)
 have x0 : (0 : Int) < (k : Int) := by omega
 obtain ⟨n, hn⟩ : ∃ n, Hid (cntOf q = n) := ⟨_, Lib.hid rfl⟩
 have hn6 : (n : Int) < 256 := by have h := hn.out; unfold cntOf at h; have := (q.getD 114 0).isLt; omega
 have x4 : IntKind.i64.wrap (n : Int) = (n : Int) := IntWalk.i64_in _ (by omega)
 have hc114 : Hid (∀ w', Below w.heap.size w w' → w'.cell? ⟨b, o + 114, none⟩ = some (.int .u8 (n : Int))) := fun w' hb => by
  have := hc.out w' hb 114 (by omega)
  rw [this, show b8 (q.getD 114 0) = (n : Int) from congrArg Int.ofNat hn.out]
 have x7 : (114 : Int) < (k : Int) := by omega
 have hc113 : Hid (113 ≤ c - 1) := by show _ ≤ _; omega
 obtain ⟨p, hp⟩ : ∃ p, Hid ((q.drop 1).take 113 = p) := ⟨_, Lib.hid rfl⟩
 have hpl : Hid (p.length = 113) := by show _ = _; rw [← hp.out, List.length_take, List.length_drop]; omega
 have hpo : Hid (okH p = okH (q.drop 1)) := by show _ = _; rw [← hp.out]; exact okH_take _
 have hph : Hid (headOf p = headOf (q.drop 1)) := by show _ = _; rw [← hp.out]; exact headOf_take _
 have hrp : Hid (Reads (w.alloc (.cells Z99 39)) 1 (some ⟨b, o + 1, none⟩) 113 (cells8 p)) := by
  show Reads _ _ _ _ _
  rw [← hp.out]
  have h9 := hr.below hb0.out
  rw [← hk] at h9
  exact reads_sub (c := c) h9 1 113 (by omega) (by omega) (by omega)
 have X1 : ∀ w', (Instr.sliceAt 31 (.slice (some ⟨b, o, none⟩) k c) (some (.int .i64 1)) (some (.int .i64 114)) none).run Tryz.prog w' = .ok (.slice (some ⟨b, o + 1, none⟩) 113 (c - 1)) w' := fun w' => by
  rw [run_mid (l := 1) (h := 114) Tryz.underlying31 (fun _ => rfl) (by omega) (by omega) 1 114 rfl rfl w']
  simp only [cutA, if_neg (show ¬ c = 1 by omega), Option.map_some, add_at]
 have hyk' : yk = 33 := by rw [← hyk.out, h33]; rfl
 subst hyk'
 have h33' : Hid (q.getD 0 0 = 33) := h33
 have hX : readOut p = .tuple #[.agg (headCells (headOf p)).toArray, .bool true] := readOut_yes (by unfold decOk; rw [hpo.out, hok, hpl.out]; rfl)
 obtain ⟨H, hH⟩ : ∃ H, Hid (headOf p = H) := ⟨_, Lib.hid rfl⟩
 rw [hH.out] at hX
 have hHq : Hid (headOf (q.drop 1) = H) := hph.out.symm.trans hH.out
 have hHok : Hid H.Ok := by show H.Ok; rw [← hHq.out]; exact headOf_ok _ (by rw [List.length_drop]; omega) hok
 obtain ⟨hz, ho, hs⟩ := head_sizes hHok.out
 have hno : Hid (noteOk q = false) := noteOk_no (fun h => hcn ⟨h.2.2.2.1, h.2.2.2.2.1, hk ▸ h.2.2.2.2.2.1⟩)
 rw [hn.out] at hcn
 clear h33 hok hr hcell
 by_cases h1 : n < 1
 ·have y1 : (n : Int) < 1 := by omega
  clear hcn h1
  go_enter Tryz.func38, Tryz.ntmps38
  go_wp2_with (first
   | (go_at_call 46; refine (readHead_any p 113 hpl.out (by omega) (some ⟨b, o + 1, none⟩) (c - 1) hc113.out (w.alloc (.cells Z99 39)) hrp.out).mono ?_; rw [hX]; rintro e w2 ⟨rfl, hb2⟩; rw [hZs.out] at hb2; have hZ2 := Lib.hid ((hb2.block w.heap.size (by omega)).trans hZ.out); have hbb2 : Hid (Below w.heap.size w w2) := hb0.out.trans (hb2.mono (by omega)); have hlt2 : Hid (w.heap.size < w2.heap.size) := (by have := hb2.size; rw [hZs.out] at this; exact this); clear hb2)
   | ((with_reducible change wpList _ _ _ ({ dst := none, op := Op.store 36 (.tmp 4) (.tmp 24), type := _, pos := _, after := _, guard := _ } :: _) _ _); refine wpList_store_all (o := ⟨none, _, _, _, _, _⟩) rfl 36 (.tmp 4) (.tmp 24) rfl w2.heap.size (headCells H).toArray rfl rfl 36 Z98 (Blk.new w2 _ _) hz.out hs.out ho.out ?_; intro w3 hB3 hk3; have hbn3 := below_new hk3; have hZ3 := Lib.hid ((hbn3.block w.heap.size hlt2.out).trans hZ2.out); have hbb3 : Hid (Below w.heap.size w w3) := hbb2.out.trans (hbn3.mono hbb2.out.size); have hlt3 : Hid (w2.heap.size < w3.heap.size) := hB3.out.lt; have hq3 := hc114.out w3 hbb3.out; clear hbn3 hk3 hZ2; generalize w2.heap.size = gh at *)
   | ((with_reducible change wpList _ _ _ ({ dst := none, op := Op.store 39 (.tmp 2) (.tmp 48), type := _, pos := _, after := _, guard := _ } :: _) _ _); refine wpList_store_row (o := ⟨none, _, _, _, _, _⟩) rfl 39 (.tmp 2) (.tmp 48) rfl w.heap.size Z99 rfl rfl 39 Z99 hZ3.out size99' rfl one99 ?_))
  refine bodyPost_ret (results_cell_row2 rfl _ _ w.heap.size 39 Z99 (0, 0) _ rfl (setRow_heap _ _ _ _ _ _ hZ3.out) Tryz.underlying39 rfl size99') rfl ?_
  exact ⟨_, by rw [← hk8.out, hno.out]; rfl, below_setRow hbb3.out (Nat.le_refl _) _, dec_no hno.out _ _⟩
 by_cases h16 : 16 < n
 ·have y1 : ((n : Int) < 1) = False := eq_false (by omega)
  have y2 : (16 : Int) < (n : Int) := by omega
  clear hcn h1 h16
  go_enter Tryz.func38, Tryz.ntmps38
  go_wp2_with (first
   | (go_at_call 46; refine (readHead_any p 113 hpl.out (by omega) (some ⟨b, o + 1, none⟩) (c - 1) hc113.out (w.alloc (.cells Z99 39)) hrp.out).mono ?_; rw [hX]; rintro e w2 ⟨rfl, hb2⟩; rw [hZs.out] at hb2; have hZ2 := Lib.hid ((hb2.block w.heap.size (by omega)).trans hZ.out); have hbb2 : Hid (Below w.heap.size w w2) := hb0.out.trans (hb2.mono (by omega)); have hlt2 : Hid (w.heap.size < w2.heap.size) := (by have := hb2.size; rw [hZs.out] at this; exact this); clear hb2)
   | ((with_reducible change wpList _ _ _ ({ dst := none, op := Op.store 36 (.tmp 4) (.tmp 24), type := _, pos := _, after := _, guard := _ } :: _) _ _); refine wpList_store_all (o := ⟨none, _, _, _, _, _⟩) rfl 36 (.tmp 4) (.tmp 24) rfl w2.heap.size (headCells H).toArray rfl rfl 36 Z98 (Blk.new w2 _ _) hz.out hs.out ho.out ?_; intro w3 hB3 hk3; have hbn3 := below_new hk3; have hZ3 := Lib.hid ((hbn3.block w.heap.size hlt2.out).trans hZ2.out); have hbb3 : Hid (Below w.heap.size w w3) := hbb2.out.trans (hbn3.mono hbb2.out.size); have hlt3 : Hid (w2.heap.size < w3.heap.size) := hB3.out.lt; have hq3 := hc114.out w3 hbb3.out; clear hbn3 hk3 hZ2; generalize w2.heap.size = gh at *)
   | ((with_reducible change wpList _ _ _ ({ dst := none, op := Op.store 39 (.tmp 2) (.tmp 48), type := _, pos := _, after := _, guard := _ } :: _) _ _); refine wpList_store_row (o := ⟨none, _, _, _, _, _⟩) rfl 39 (.tmp 2) (.tmp 48) rfl w.heap.size Z99 rfl rfl 39 Z99 hZ3.out size99' rfl one99 ?_))
  refine bodyPost_ret (results_cell_row2 rfl _ _ w.heap.size 39 Z99 (0, 0) _ rfl (setRow_heap _ _ _ _ _ _ hZ3.out) Tryz.underlying39 rfl size99') rfl ?_
  exact ⟨_, by rw [← hk8.out, hno.out]; rfl, below_setRow hbb3.out (Nat.le_refl _) _, dec_no hno.out _ _⟩
 have y1 : ((n : Int) < 1) = False := eq_false (by omega)
 have y2 : ((16 : Int) < (n : Int)) = False := eq_false (by omega)
 have y3 : ((k : Int) != 115 + 64 * (n : Int)) = true := by simp; omega
 clear hcn h1 h16
 go_enter Tryz.func38, Tryz.ntmps38
 go_wp2_with (first
  | (go_at_call 46; refine (readHead_any p 113 hpl.out (by omega) (some ⟨b, o + 1, none⟩) (c - 1) hc113.out (w.alloc (.cells Z99 39)) hrp.out).mono ?_; rw [hX]; rintro e w2 ⟨rfl, hb2⟩; rw [hZs.out] at hb2; have hZ2 := Lib.hid ((hb2.block w.heap.size (by omega)).trans hZ.out); have hbb2 : Hid (Below w.heap.size w w2) := hb0.out.trans (hb2.mono (by omega)); have hlt2 : Hid (w.heap.size < w2.heap.size) := (by have := hb2.size; rw [hZs.out] at this; exact this); clear hb2)
  | ((with_reducible change wpList _ _ _ ({ dst := none, op := Op.store 36 (.tmp 4) (.tmp 24), type := _, pos := _, after := _, guard := _ } :: _) _ _); refine wpList_store_all (o := ⟨none, _, _, _, _, _⟩) rfl 36 (.tmp 4) (.tmp 24) rfl w2.heap.size (headCells H).toArray rfl rfl 36 Z98 (Blk.new w2 _ _) hz.out hs.out ho.out ?_; intro w3 hB3 hk3; have hbn3 := below_new hk3; have hZ3 := Lib.hid ((hbn3.block w.heap.size hlt2.out).trans hZ2.out); have hbb3 : Hid (Below w.heap.size w w3) := hbb2.out.trans (hbn3.mono hbb2.out.size); have hlt3 : Hid (w2.heap.size < w3.heap.size) := hB3.out.lt; have hq3 := hc114.out w3 hbb3.out; clear hbn3 hk3 hZ2; generalize w2.heap.size = gh at *)
  | ((with_reducible change wpList _ _ _ ({ dst := none, op := Op.store 39 (.tmp 2) (.tmp 48), type := _, pos := _, after := _, guard := _ } :: _) _ _); refine wpList_store_row (o := ⟨none, _, _, _, _, _⟩) rfl 39 (.tmp 2) (.tmp 48) rfl w.heap.size Z99 rfl rfl 39 Z99 hZ3.out size99' rfl one99 ?_))
 refine bodyPost_ret (results_cell_row2 rfl _ _ w.heap.size 39 Z99 (0, 0) _ rfl (setRow_heap _ _ _ _ _ _ hZ3.out) Tryz.underlying39 rfl size99') rfl ?_
 exact ⟨_, by rw [← hk8.out, hno.out]; rfl, below_setRow hbb3.out (Nat.le_refl _) _, dec_no hno.out _ _⟩

set_option maxRecDepth 100000 in
set_option maxHeartbeats 4000000 in
theorem read_main (q : Text) (k : Nat) (hk : q.length = k) (hk47 : k < 140737488355328) (_ : 115 ≤ k) (h33 : q.getD 0 0 = 33) (hok : okH (q.drop 1) = true) (hcn : 1 ≤ cntOf q ∧ cntOf q ≤ 16 ∧ k = 115 + 64 * cntOf q) (A : Option Addr) (c : Nat) (hkc : k ≤ c) (w : World) (hr : Reads w 1 A k (cells8 q)) :
  Calls Tryz.prog 38 #[.slice A k c] w fun e w' => ∃ v, e = .returned (.tuple #[v, .bool (noteOk q)]) ∧ Below w.heap.size w w' ∧ DecPost q w.heap.size w' v := by
 have hb0 : Hid (Below w.heap.size w (w.alloc (.cells Z99 39))) := Below.heap_below w _
 have hZ : Hid (Blk (w.alloc (.cells Z99 39)) w.heap.size 39 Z99) := Blk.new w _ _
 have hZs : Hid ((w.alloc (.cells Z99 39)).heap.size = w.heap.size + 1) := by show _ = _; simp
 obtain ⟨k8, hk8⟩ : ∃ k8 : Bool, Hid (noteOk q = k8) := ⟨_, Lib.hid rfl⟩
 rw [hk8.out]
 obtain ⟨i0, ii, iz0, iz1, iz2⟩ := info_partsN info64
 obtain ⟨b, o, rfl, hbl, hcell⟩ := hr.2 (by omega)
 have hc : Hid (∀ w', Below w.heap.size w w' → ∀ j, j < k → w'.cell? ⟨b, o + j, none⟩ = some (.int .u8 (b8 (q.getD j 0)))) := fun w' hb j hj => (hb.cell (p := ⟨b, o + j, none⟩) hbl).trans (hcell j _ (cells8_at q j (by omega)))
 obtain ⟨yk, hyk⟩ : ∃ yk, Hid (b8 (q.getD 0 0) = yk) := ⟨_, Lib.hid rfl⟩
 have hc0 : (w.alloc (.cells Z99 39)).cell? ⟨b, o, none⟩ = some (.int .u8 yk) := by have := hc.out _ hb0.out 0 (by omega); rw [hyk.out] at this; exact this
 change (w.alloc (.cells Tryz.zeroCells39 39)).cell? ⟨b, o, none⟩ = some (.int .u8 yk) at hc0
 have x1 : ((k : Int) < 115) = False := eq_false (by omega)
 have x0 : (0 : Int) < (k : Int) := by omega
 obtain ⟨n, hn⟩ : ∃ n, Hid (cntOf q = n) := ⟨_, Lib.hid rfl⟩
 have hn6 : (n : Int) < 256 := by have h := hn.out; unfold cntOf at h; have := (q.getD 114 0).isLt; omega
 have x4 : IntKind.i64.wrap (n : Int) = (n : Int) := IntWalk.i64_in _ (by omega)
 have hc114 : Hid (∀ w', Below w.heap.size w w' → w'.cell? ⟨b, o + 114, none⟩ = some (.int .u8 (n : Int))) := fun w' hb => by
  have := hc.out w' hb 114 (by omega)
  rw [this, show b8 (q.getD 114 0) = (n : Int) from congrArg Int.ofNat hn.out]
 have x7 : (114 : Int) < (k : Int) := by omega
 have hc113 : Hid (113 ≤ c - 1) := by show _ ≤ _; omega
 obtain ⟨p, hp⟩ : ∃ p, Hid ((q.drop 1).take 113 = p) := ⟨_, Lib.hid rfl⟩
 have hpl : Hid (p.length = 113) := by show _ = _; rw [← hp.out, List.length_take, List.length_drop]; omega
 have hpo : Hid (okH p = okH (q.drop 1)) := by show _ = _; rw [← hp.out]; exact okH_take _
 have hph : Hid (headOf p = headOf (q.drop 1)) := by show _ = _; rw [← hp.out]; exact headOf_take _
 have hrp : Hid (Reads (w.alloc (.cells Z99 39)) 1 (some ⟨b, o + 1, none⟩) 113 (cells8 p)) := by
  show Reads _ _ _ _ _
  rw [← hp.out]
  have h9 := hr.below hb0.out
  rw [← hk] at h9
  exact reads_sub (c := c) h9 1 113 (by omega) (by omega) (by omega)
 have X1 : ∀ w', (Instr.sliceAt 31 (.slice (some ⟨b, o, none⟩) k c) (some (.int .i64 1)) (some (.int .i64 114)) none).run Tryz.prog w' = .ok (.slice (some ⟨b, o + 1, none⟩) 113 (c - 1)) w' := fun w' => by
  rw [run_mid (l := 1) (h := 114) Tryz.underlying31 (fun _ => rfl) (by omega) (by omega) 1 114 rfl rfl w']
  simp only [cutA, if_neg (show ¬ c = 1 by omega), Option.map_some, add_at]
 have hyk' : yk = 33 := by rw [← hyk.out, h33]; rfl
 subst hyk'
 have h33' : Hid (q.getD 0 0 = 33) := h33
 have hX : readOut p = .tuple #[.agg (headCells (headOf p)).toArray, .bool true] := readOut_yes (by unfold decOk; rw [hpo.out, hok, hpl.out]; rfl)
 obtain ⟨H, hH⟩ : ∃ H, Hid (headOf p = H) := ⟨_, Lib.hid rfl⟩
 rw [hH.out] at hX
 have hHq : Hid (headOf (q.drop 1) = H) := hph.out.symm.trans hH.out
 have hHok : Hid H.Ok := by show H.Ok; rw [← hHq.out]; exact headOf_ok _ (by rw [List.length_drop]; omega) hok
 obtain ⟨hz, ho, hs⟩ := head_sizes hHok.out
 rw [hn.out] at hcn
 have y1 : ((n : Int) < 1) = False := eq_false (by omega)
 have y2 : ((16 : Int) < (n : Int)) = False := eq_false (by omega)
 have y3 : ((k : Int) != 115 + 64 * (n : Int)) = false := by simp; omega
 have hn1 : Hid (1 ≤ n) := hcn.1
 have hn16 : Hid (n ≤ 16) := hcn.2.1
 have hkn : Hid (k = 115 + 64 * n) := hcn.2.2
 have hk' := Lib.hid hk
 have hok' := Lib.hid hok
 have hkc' := Lib.hid hkc
 obtain ⟨ans, hans⟩ : ∃ x, Hid (riseB (ky := kyS) (signsOf q n) = x) := ⟨_, Lib.hid rfl⟩
 have hst0 : Hid (riseB (ky := kyS) ((signsOf q n).drop (0 - 1)) = ans) := hans.out
 have hk8' : Hid (k8 = ans) := by
  show _ = _
  rw [← hk8.out, ← hans.out]
  cases hq : riseB (ky := kyS) (signsOf q n) with
  | true => exact noteOk_mk ⟨by omega, h33, hok, by rw [hn.out]; omega, by rw [hn.out]; omega, by rw [hn.out]; omega, by rw [hn.out]; exact hq⟩
  | false => exact noteOk_no (fun h => by have h7 := h.2.2.2.2.2.2; rw [hn.out, hq] at h7; cases h7)
 have hsub : Hid (∀ w', Below w.heap.size w w' → ∀ at_ m, at_ + m ≤ k → at_ < k → Reads w' 1 (some ⟨b, o + at_, none⟩) m (cells8 ((q.drop at_).take m))) := fun w' hb at_ m h1 h2 => by
  have h9 := hr.below hb
  rw [← hk] at h9
  exact reads_sub (c := c) h9 at_ m (by omega) (by omega) (by omega)
 have hXs : Hid (∀ (l m : Nat), l ≤ m → m ≤ c → l < c → ∀ (x y : Int), x = l → y = m → ∀ w', (Instr.sliceAt 31 (.slice (some ⟨b, o, none⟩) k c) (some (.int .i64 x)) (some (.int .i64 y)) none).run Tryz.prog w' = .ok (.slice (some ⟨b, o + l, none⟩) (m - l) (c - l)) w') := fun l m h1 h2 h3 x y hx hy w' => by
  rw [run_mid (l := l) (h := m) Tryz.underlying31 (fun _ => rfl) h1 h2 x y hx hy w']
  simp only [cutA, if_neg (show ¬ c = l by omega), Option.map_some, add_at]
 have hbnR := Lib.hid (fun w' : World => run_note0 hHok.out w')
 have hzN := Lib.hid (fun v => note_size hHok.out v)
 have hoN := Lib.hid (fun A n c => note_one (h := H) A n c)
 have hsN := Lib.hid (fun v => note_zero hHok.out v)
 clear h33 hok hr hcell hcn hk hkc
 go_enter Tryz.func38, Tryz.ntmps38
 go_wp2_with (first
  | (go_at_call 46; refine (readHead_any p 113 hpl.out (by omega) (some ⟨b, o + 1, none⟩) (c - 1) hc113.out (w.alloc (.cells Z99 39)) hrp.out).mono ?_; rw [hX]; rintro e w2 ⟨rfl, hb2⟩; rw [hZs.out] at hb2; have hZ2 := Lib.hid ((hb2.block w.heap.size (by omega)).trans hZ.out); have hbb2 : Hid (Below w.heap.size w w2) := hb0.out.trans (hb2.mono (by omega)); have hlt2 : Hid (w.heap.size < w2.heap.size) := (by have := hb2.size; rw [hZs.out] at this; exact this); clear hb2)
  | ((with_reducible change wpList _ _ _ ({ dst := none, op := Op.store 36 (.tmp 4) (.tmp 24), type := _, pos := _, after := _, guard := _ } :: _) _ _); refine wpList_store_all (o := ⟨none, _, _, _, _, _⟩) rfl 36 (.tmp 4) (.tmp 24) rfl w2.heap.size (headCells H).toArray rfl rfl 36 Z98 (Blk.new w2 _ _) hz.out hs.out ho.out ?_; intro w3 hB3 hk3; have hbn3 := below_new hk3; have hZ3 := Lib.hid ((hbn3.block w.heap.size hlt2.out).trans hZ2.out); have hbb3 : Hid (Below w.heap.size w w3) := hbb2.out.trans (hbn3.mono hbb2.out.size); have hlt3 : Hid (w2.heap.size < w3.heap.size) := hB3.out.lt; have hq3 := hc114.out w3 hbb3.out; clear hbn3 hk3 hZ2; generalize w2.heap.size = gh at *)
  | (((with_reducible change wpList _ _ _ (⟨some 49, _, _, _, _, _⟩ :: _) _ _); refine wpList_load_row (o := ⟨some 49, _, _, _, _, _⟩) rfl 36 (.tmp 4) rfl (gh) rfl 36 ((headCells H).toArray) (0, 0) _ hB3.out Tryz.underlying36 rfl hz.out ?_))
  | ((with_reducible change wpList _ _ _ (⟨some 50, _, _, _, _, _⟩ :: _) _ _); refine wpList_buildF (o := ⟨some 50, _, _, _, _, _⟩) rfl 39 #[(0, .tmp 49)] rfl #[(0, .agg (headCells H).toArray)] (by simp; rfl) _ (hbnR.out _) ?_)
  | ((with_reducible change wpList _ _ _ ({ dst := none, op := Op.store 39 (.tmp 7) (.tmp 50), type := _, pos := _, after := _, guard := _ } :: _) _ _); refine wpList_store_all (o := ⟨none, _, _, _, _, _⟩) rfl 39 (.tmp 7) (.tmp 50) rfl w3.heap.size (noteCells H (.slice none 0 0)).toArray rfl rfl 39 Z99 (Blk.new w3 _ _) (hzN.out _) (hsN.out _) (hoN.out _ _ _) ?_; intro w5 hB5 hk5; have hbn5 := below_new hk5; have RB : Hid (RN w w5 w3.heap.size w5.heap.size H none 0 0 (signsOf q 0)) := ⟨(hbn5.block w.heap.size (by have := hbb3.out.size; have := hlt3.out; have := hlt2.out; omega)).trans hZ3.out, hB5.out, OwnS.nil _ _, hbb3.out.trans (hbn5.mono hbb3.out.size), by have := hlt3.out; have := hlt2.out; omega, hB5.out.lt, Nat.le_refl _⟩; clear hk5 hbn5 hZ3 hB5; generalize w3.heap.size = gn at *))
 obtain ⟨wB, hwB⟩ : ∃ wB, Hid (wB = w5) := ⟨_, Lib.hid rfl⟩
 rw [← hwB.out] at RB
 have RB' : Hid (RN w w5 gn wB.heap.size H none 0 0 (signsOf q 0)) := by have := RB.out; rw [hwB.out] at this ⊢; exact this
 clear RB
 go_loopw [8] (fun v wr => ∃ (i : Nat) (A9 : Option Addr) (c9 : Nat), v = .int .i64 (i : Int) ∧ Hid (i ≤ n) ∧ Hid (RN w wr gn wB.heap.size H A9 i c9 (signsOf q i)) ∧ Hid (riseB (ky := kyS) ((signsOf q n).drop (i - 1)) = ans)) (fun v _ => n - (intOf v).toNat)
 case atStart => exact ⟨0, none, 0, rfl, Nat.zero_le _, RB'.out, hst0.out⟩
 case round =>
  clear RB' hst0
  obtain ⟨i, A9, c9, rfl, hin, Ri, hre⟩ := hrel
  have hi6 : (i : Int) ≤ 16 := by have := hin.out; have := hn16.out; omega
  by_cases hlt : i < n
  ·have hz1 : (i : Int) < (n : Int) := by omega
   have hz0 : (0 : Int) ≤ (i : Int) := by omega
   have hlt' := Lib.hid hlt
   have hiL : Hid (115 + 64 * i + 64 ≤ k) := by show _ ≤ _; have := hkn.out; omega
   obtain ⟨x, hx⟩ : ∃ x, Hid (signAt q i = x) := ⟨_, Lib.hid rfl⟩
   have hxl : Hid (x.length = 64) := by show _ = _; rw [← hx.out]; exact signAt_len (n := n) (hk'.out.trans hkn.out) hlt
   have hxp : Hid ((q.drop (115 + 64 * i)).take 32 = kyS x ∧ (q.drop (115 + 64 * i + 32)).take 32 = tgS x) := by
    show _ ∧ _
    have e := sign_parts (q := q) i
    rw [hx.out] at e
    have l1 : ((q.drop (115 + 64 * i)).take 32).length = 32 := by rw [List.length_take, List.length_drop, hk'.out]; have := hiL.out; omega
    have e2 := halves ((q.drop (115 + 64 * i)).take 32) ((q.drop (115 + 64 * i + 32)).take 32) l1
    rw [← e] at e2
    exact ⟨e2.1.symm, e2.2.symm⟩
   have X2 := hXs.out (115 + 64 * i) (115 + 64 * i + 32) (by omega) (by have := hiL.out; have := hkc'.out; omega) (by have := hiL.out; have := hkc'.out; omega) (115 + 64 * (i : Int)) (147 + 64 * (i : Int)) (by omega) (by omega)
   have X3 := hXs.out (115 + 64 * i + 32) (115 + 64 * i + 64) (by omega) (by have := hiL.out; have := hkc'.out; omega) (by have := hiL.out; have := hkc'.out; omega) (147 + 64 * (i : Int)) (179 + 64 * (i : Int)) (by omega) (by omega)
   rw [Nat.add_sub_cancel_left] at X2
   replace X2 := Lib.hid X2
   rw [show 115 + 64 * i + 64 - (115 + 64 * i + 32) = 32 by omega] at X3
   replace X3 := Lib.hid X3
   have XD : ∀ (g o : Nat) (w' : World), (Instr.sliceAt 34 (.pointer (some ⟨g, o, none⟩)) none none none).run Tryz.prog w' = .ok (.slice (some ⟨g, o, none⟩) 32 32) w' := fun g o w' => by
    have hl : Tryz.prog.arrayLen 34 = 32 := by kernel_rfl
    have hs : (sizeOf (Tryz.prog.elem 34)).run Tryz.prog w' = .ok 1 w' := by kernel_rfl
    rw [run_sliceAt_array_all w' 34 _ Tryz.underlying34, hs]
    simp [Result.andThen, slicedAt, hl, Bytes.add_zero]
   replace XD := Lib.hid XD
   have wa : IntKind.i64.wrap (64 * (i : Int)) = 64 * (i : Int) := IntWalk.i64_in _ (by omega)
   have wb : IntKind.i64.wrap (115 + 64 * (i : Int)) = 115 + 64 * (i : Int) := IntWalk.i64_in _ (by omega)
   have wc : IntKind.i64.wrap (147 + 64 * (i : Int)) = 147 + 64 * (i : Int) := IntWalk.i64_in _ (by omega)
   have wd : IntKind.i64.wrap (179 + 64 * (i : Int)) = 179 + 64 * (i : Int) := IntWalk.i64_in _ (by omega)
   obtain ⟨ws, hws⟩ : ∃ ws, ws = wr.alloc (.cells Z64 56) := ⟨_, rfl⟩
   have G5 : Hid (Blk ws wr.heap.size 56 Z64) := by show Blk _ _ _ _; rw [hws]; exact Blk.new _ _ _
   have K5 : Hid (Kept (· = wr.heap.size) (wr.alloc (.cells Z64 56)) ws) := by show Kept _ _ _; rw [hws]; exact Kept.refl _ _
   clear hlt
   go_wp2_with fail
   have hww : wr.alloc (.cells Z64 56) = ws := hws.symm
   unfold Z64 at hww
   rw [hww]
   clear hww
   obtain ⟨gs, hgs⟩ : ∃ gs, Hid (wr.heap.size = gs) := ⟨_, Lib.hid rfl⟩
   rw [hgs.out] at G5 K5 ⊢
   refine wp_region_class_tail 10 (fun w' => ∃ m, w' = ws.drewN m) (by kernel_rfl) (by kernel_rfl) (⟨1, rfl⟩) ?_
   refine wpQuiet_val (v := .pointer (some ⟨gs, 0, none⟩)) rfl (fun w' hw' => by go_simp) ?_
   (intro K k; go_simp; apply k; clear k K)
   refine wpQuiet_val (v := .slice (some ⟨gs, 0, none⟩) 32 32) rfl (fun w' hw' => by have := XD.out gs 0 w'; go_simp) ?_
   (intro K k; go_simp; apply k; clear k K)
   refine wpQuiet_move rfl (.tmp 0) rfl ?_
   (intro K k; go_simp; apply k; clear k K)
   refine wpQuiet_move rfl (.tmp 8) rfl ?_
   (intro K k; go_simp; apply k; clear k K)
   refine wpQuiet_val (v := .int .i64 (64 * (i : Int))) rfl (fun w' hw' => by go_simp) ?_
   (intro K k; go_simp; apply k; clear k K)
   refine wpQuiet_val (v := .int .i64 (115 + 64 * (i : Int))) rfl (fun w' hw' => by go_simp) ?_
   (intro K k; go_simp; apply k; clear k K)
   refine wpQuiet_move rfl (.tmp 8) rfl ?_
   (intro K k; go_simp; apply k; clear k K)
   refine wpQuiet_val (v := .int .i64 (64 * (i : Int))) rfl (fun w' hw' => by go_simp) ?_
   (intro K k; go_simp; apply k; clear k K)
   refine wpQuiet_val (v := .int .i64 (147 + 64 * (i : Int))) rfl (fun w' hw' => by go_simp) ?_
   (intro K k; go_simp; apply k; clear k K)
   refine wpQuiet_val (v := .slice (some ⟨b, o + (115 + 64 * i), none⟩) 32 (c - (115 + 64 * i))) rfl (fun w' hw' => by have := X2.out w'; go_simp) ?_
   (intro K k; go_simp; apply k; clear k K)
   refine wpQuiet_nil ?_
   intro w_ hw'
   obtain ⟨n6, rfl⟩ := hw'
   simp only [List.drop]
   have K6 : Hid (Kept (· = gs) (wr.alloc (.cells Z64 56)) (ws.drewN n6)) := K5.out.drewN n6
   have G6 : Hid (Blk (ws.drewN n6) gs 56 Z64) := G5.out.drewN n6
   clear K5 G5 hws
   generalize ws.drewN n6 = w6 at *
   have B6 : Hid (Below w.heap.size w w6) := Ri.out.below.trans ((Held.kept_fresh (by rw [hgs.out]; exact K6.out)).mono Ri.out.below.size)
   have C6 := Lib.hid (reads_pos (X := some (⟨gs, 0, none⟩ : Addr) = some ⟨gs, 0, none⟩) (p := kyS x) (by rw [kyS_len hxl.out]; have := hsub.out w6 B6.out (115 + 64 * i) 32 (by have := hiL.out; omega) (by have := hiL.out; omega); rw [hxp.out.1] at this; exact this) rfl)
   have L6 : Hid ((cells8 (kyS x)).length = 32) := by show _ = _; rw [cells8_len, kyS_len hxl.out]
   have F6 : Hid (0 + (cells8 (kyS x)).length ≤ Z64.size) := by show _ ≤ _; rw [L6.out]; decide
   go_wp2_with ((with_reducible change wpList _ _ _ (⟨some 66, _, _, _, _, _⟩ :: _) _ _); refine wpList_copy_into (o := ⟨some 66, _, _, _, _, _⟩) rfl (.tmp 57) (.tmp 65) 31 31 rfl 5 Tryz.underlying31 size8 (some ⟨gs, 0, none⟩) (some ⟨b, o + (115 + 64 * i), none⟩) 32 32 32 _ rfl rfl gs 0 (Z64) 56 G6.out (cells8 (kyS x)) L6.out C6.out F6.out (cells8_one _) w6 (Kept.refl _ w6) 32 L6.out ?_; intro w7 hba hka; have K7 : Hid (Kept (· = gs) (wr.alloc (.cells Z64 56)) w7) := K6.out.trans hka (fun _ _ x => x); have G7 := hba; clear hba hka K6 G6 C6 B6)
   go_wp2_with fail
   refine wp_region_class_tail 10 (fun w' => ∃ m, w' = w7.drewN m) (by kernel_rfl) (by kernel_rfl) (⟨1, rfl⟩) ?_
   refine wpQuiet_val (v := .pointer (some ⟨gs, 32, none⟩)) rfl (fun w' hw' => by go_simp) ?_
   (intro K k; go_simp; apply k; clear k K)
   refine wpQuiet_val (v := .slice (some ⟨gs, 32, none⟩) 32 32) rfl (fun w' hw' => by have := XD.out gs 32 w'; go_simp) ?_
   (intro K k; go_simp; apply k; clear k K)
   refine wpQuiet_move rfl (.tmp 0) rfl ?_
   (intro K k; go_simp; apply k; clear k K)
   refine wpQuiet_move rfl (.tmp 8) rfl ?_
   (intro K k; go_simp; apply k; clear k K)
   refine wpQuiet_val (v := .int .i64 (64 * (i : Int))) rfl (fun w' hw' => by go_simp) ?_
   (intro K k; go_simp; apply k; clear k K)
   refine wpQuiet_val (v := .int .i64 (147 + 64 * (i : Int))) rfl (fun w' hw' => by go_simp) ?_
   (intro K k; go_simp; apply k; clear k K)
   refine wpQuiet_move rfl (.tmp 8) rfl ?_
   (intro K k; go_simp; apply k; clear k K)
   refine wpQuiet_val (v := .int .i64 (64 * (i : Int))) rfl (fun w' hw' => by go_simp) ?_
   (intro K k; go_simp; apply k; clear k K)
   refine wpQuiet_val (v := .int .i64 (179 + 64 * (i : Int))) rfl (fun w' hw' => by go_simp) ?_
   (intro K k; go_simp; apply k; clear k K)
   refine wpQuiet_val (v := .slice (some ⟨b, o + (115 + 64 * i + 32), none⟩) 32 (c - (115 + 64 * i + 32))) rfl (fun w' hw' => by have := X3.out w'; go_simp) ?_
   (intro K k; go_simp; apply k; clear k K)
   refine wpQuiet_nil ?_
   intro w_ hw'
   obtain ⟨n7, rfl⟩ := hw'
   simp only [List.drop]
   have K9 : Hid (Kept (· = gs) (wr.alloc (.cells Z64 56)) (w7.drewN n7)) := K7.out.drewN n7
   have G9 : Hid (Blk (w7.drewN n7) gs 56 (splice Z64.toList 0 (cells8 (kyS x))).toArray) := G7.out.drewN n7
   clear K7 G7
   generalize w7.drewN n7 = w8a at *
   have B9 : Hid (Below w.heap.size w w8a) := Ri.out.below.trans ((Held.kept_fresh (by rw [hgs.out]; exact K9.out)).mono Ri.out.below.size)
   have C9 := Lib.hid (reads_pos (X := some (⟨gs, 32, none⟩ : Addr) = some ⟨gs, 32, none⟩) (p := tgS x) (by rw [tgS_len hxl.out]; have := hsub.out w8a B9.out (115 + 64 * i + 32) 32 (by have := hiL.out; omega) (by have := hiL.out; omega); rw [hxp.out.2] at this; exact this) rfl)
   have L9 : Hid ((cells8 (tgS x)).length = 32) := by show _ = _; rw [cells8_len, tgS_len hxl.out]
   have F9 : Hid (32 + (cells8 (tgS x)).length ≤ (splice Z64.toList 0 (cells8 (kyS x))).toArray.size) := by show _ ≤ _; rw [List.size_toArray, len_splice _ _ _ (by rw [L6.out]; decide), L9.out]; decide
   go_wp2_with ((with_reducible change wpList _ _ _ (⟨some 77, _, _, _, _, _⟩ :: _) _ _); refine wpList_copy_into (o := ⟨some 77, _, _, _, _, _⟩) rfl (.tmp 68) (.tmp 76) 31 31 rfl 5 Tryz.underlying31 size8 (some ⟨gs, 32, none⟩) (some ⟨b, o + (115 + 64 * i + 32), none⟩) 32 32 32 _ rfl rfl gs 32 ((splice Z64.toList 0 (cells8 (kyS x))).toArray) 56 G9.out (cells8 (tgS x)) L9.out C9.out F9.out (cells8_one _) w8a (Kept.refl _ w8a) 32 L9.out ?_; intro w8 hba hka; have K8 : Hid (Kept (· = gs) (wr.alloc (.cells Z64 56)) w8) := K9.out.trans hka (fun _ _ x => x); have G8a := hba; clear hba hka K9 G9 C9 B9)
   have G8 : Hid (Blk w8 gs 56 (cells8 x).toArray) := by have := G8a.out; rw [fill2 _ _ (kyS_len hxl.out) (tgS_len hxl.out)] at this; have e := kt_eq x; simp at e; rw [e] at this; exact this
   have R8 := Lib.hid (Ri.out.far (Held.kept_fresh (by rw [hgs.out]; exact K8.out)))
   clear G8a K8 X2 X3 L6 L9 F9 F6 wa wb wc wd
   by_cases hi0 : i = 0
   ·have hz2 : ((0 : Int) < (i : Int)) = False := eq_false (by omega)
    have hst2 : Hid (riseB (ky := kyS) ((signsOf q n).drop (i + 1 - 1)) = ans) := by show _ = _; have := hre.out; rw [hi0] at this ⊢; exact this
    have hi0' := Lib.hid hi0
    clear hi0 hre
    go_upto_region 14 with fail
    refine q_region (Class w8) (by kernel_rfl) (by kernel_rfl) (Class.mk_ ((Below.refl _ _).drew)) ?_
    refine q_move rfl (.tmp 8) rfl ?_
    (intro K k; go_simp; apply k; clear k K)
    refine q_val (v := .bool false) rfl (fun w' hw' => by have hz9 := hi0'.out; go_simp) ?_
    (intro K k; go_simp; apply k; clear k K)
    refine Want.qv0 (.bool false) ?_
    (intro K k; go_simp; apply k; clear k K)
    refine q_skip rfl ?_
    (intro K k; go_simp; apply k; clear k K)
    refine q_skip rfl ?_
    (intro K k; go_simp; apply k; clear k K)
    refine q_skip rfl ?_
    (intro K k; go_simp; apply k; clear k K)
    refine q_skip rfl ?_
    (intro K k; go_simp; apply k; clear k K)
    refine q_skip rfl ?_
    (intro K k; go_simp; apply k; clear k K)
    refine q_skip rfl ?_
    (intro K k; go_simp; apply k; clear k K)
    refine q_skip rfl ?_
    (intro K k; go_simp; apply k; clear k K)
    refine q_skip rfl ?_
    (intro K k; go_simp; apply k; clear k K)
    refine q_skip rfl ?_
    (intro K k; go_simp; apply k; clear k K)
    refine q_skip rfl ?_
    (intro K k; go_simp; apply k; clear k K)
    refine q_skip rfl ?_
    (intro K k; go_simp; apply k; clear k K)
    refine Want.qv0 (.bool false) ?_
    (intro K k; go_simp; apply k; clear k K)
    refine q_nil ?_
    intro w9 hw9
    have hb9 : Hid (Below w8.heap.size w8 w9) := hw9.below
    clear hw9
    have R9 := Lib.hid (R8.out.far hb9.out)
    have G9 : Hid (Blk w9 gs 56 (cells8 x).toArray) := (hb9.out.block gs G8.out.lt).trans G8.out
    obtain ⟨A3, c3, e3, hic3, -, hnil3, -, -⟩ := OwnS.reads R9.out.own
    injection e3 with e3 _ e4
    subst e3 e4
    clear hic3 hnil3
    have hR9 : w9.cell? ⟨gn, 98, none⟩ = some (.slice A9 i c9) := by rw [R9.out.note.cell 98, List.getElem?_toArray]; exact noteCells_row hHok.out _
    have hfr : w9.frozen? ⟨gn, 98, none⟩ = false := R9.out.note.frozen 98
    have q1 : Hid (∀ v ∈ [cells8 x], v.length = 64) := fun v hv => by simp only [List.mem_singleton] at hv; rw [hv, cells8_len, hxl.out]
    have s64 : Hid ((Tryz.prog.info? 56).map (·.size) = some (cells8 x).toArray.size) := RefRising.size64r.trans (congrArg some (by rw [List.size_toArray, cells8_len, hxl.out]))
    have m1 : Hid (i + 1 ≤ maxLen) := by show _ ≤ _; have := hlt'.out; have := hn16.out; unfold maxLen; omega
    have m2 : Hid ((i + 1) * 64 ≤ 140737488355328) := by show _ ≤ _; have := hlt'.out; have := hn16.out; omega
    obtain ⟨Y1, y1'⟩ : ∃ X, Hid (X = ([cells8 x].flatten).toArray) := ⟨_, rfl⟩
    go_wp2_with (first
     | (((with_reducible change wpList _ _ _ (⟨some 96, _, _, _, _, _⟩ :: _) _ _); refine wpList_load_row (o := ⟨some 96, _, _, _, _, _⟩) rfl 56 (.tmp 9) rfl (gs) rfl 56 ((cells8 x).toArray) (0, 0) _ G9.out Tryz.underlying56 rfl s64.out ?_))
     | ((with_reducible change wpList _ _ _ (⟨some 97, _, _, _, _, _⟩ :: _) _ _); refine wpList_buildAggs (o := ⟨some 97, _, _, _, _, _⟩) rfl 37 56 1 _ rfl 64 (by decide) [cells8 x] Tryz.underlying37 RefRising.size64r zero64 rfl (by decide) (by decide) q1.out rfl ?_; rw [← y1'.out]; have hN1 : Hid (Sgs (w9.alloc (.cells Y1 56)) (some ⟨w9.heap.size, 0, none⟩) 1 [x]) := (by show Sgs _ _ _ _; rw [y1'.out]; exact sgs_one w9 hxl.out); have R10 := Lib.hid (R9.out.far (Below.heap_below w9 (.cells Y1 56))); have hfr2 : (w9.alloc (.cells Y1 56)).frozen? ⟨gn, 98, none⟩ = false := R10.out.note.frozen 98)
     | ((with_reducible change wpList _ _ _ (⟨some 98, _, _, _, _, _⟩ :: _) _ _); refine wpList_append_src _ (o := ⟨some 98, _, _, _, _, _⟩) rfl (.tmp 95) (.tmp 97) 37 rfl wB.heap.size 56 i0 (.agg Z64) 64 64 Tryz.underlying37 ii iz0 iz1 iz2 rfl (by decide) (.slice A9 i c9) i ((signsOf q i).flatMap cells8) rfl R10.out.own.2.2 (some ⟨w9.heap.size, 0, none⟩) 1 1 ([x].flatMap cells8) rfl hN1.out.rd (fun e => by cases e) (one_signs [x]) m1.out m2.out R10.out.hw ?_; intro v11 w11 hG; have hOB := Lib.hid (grew_signs hG (Below.refl _ _) R10.out.hw R10.out.own hN1.out.all hN1.out.len); obtain ⟨A11, c11, rfl, -⟩ := OwnS.reads hOB.out.1; have R11 := Lib.hid (R10.out.push hHok.out hOB.out.2 hOB.out.1); have hcl11 : w11.cell? ⟨gn, 98, none⟩ = some (.slice A9 i c9) := (by have hbk : Blk w11 gn 39 (noteCells H (.slice A9 i c9)).toArray := (hOB.out.2.block gn R10.out.hB).trans R10.out.note; rw [hbk.cell 98, List.getElem?_toArray]; exact noteCells_row hHok.out _); have hfr11 : w11.frozen? ⟨gn, 98, none⟩ = false := (by have hbk : Blk w11 gn 39 (noteCells H (.slice A9 i c9)).toArray := (hOB.out.2.block gn R10.out.hB).trans R10.out.note; exact hbk.frozen 98); clear hG))
    rw [← hx.out, ← row_next] at R11
    go_roundw
    case rel => exact ⟨i + 1, A11, c11, by go_num, hlt'.out, R11.out, hst2.out⟩
    case measure => (have := hlt'.out; simp [intOf]; omega)
   ·have hz2 : (0 : Int) < (i : Int) := by omega
    obtain ⟨m, hm⟩ : ∃ m, Hid (i = m + 1) := ⟨i - 1, Lib.hid (by omega)⟩
    have z1 : IntKind.i64.wrap ((i : Int) - 1) = (m : Int) := by rw [IntWalk.i64_in _ (by omega)]; have := hm.out; omega
    have z2 : (m : Int) < (i : Int) := by have := hm.out; omega
    have z3 : (0 : Int) ≤ (m : Int) := by omega
    obtain ⟨y, hy⟩ : ∃ y, Hid (signAt q m = y) := ⟨_, Lib.hid rfl⟩
    have hyl : Hid (y.length = 64) := by show _ = _; rw [← hy.out]; exact signAt_len (n := n) (hk'.out.trans hkn.out) (by have := hm.out; have := hlt'.out; omega)
    obtain ⟨A3, c3, e3, -, -, -, hS3, -⟩ := OwnS.reads R8.out.own
    injection e3 with e3 _ e4
    subst e3 e4
    have hyi : (signsOf q i)[m]? = some y := by rw [signsOf_at q (by have := hm.out; omega), hy.out]
    obtain ⟨b9, o9, hA9, hb9', hcy⟩ := hS3.at_ hyi
    subst hA9
    have hfy : Hid (∀ w', Below w8.heap.size w8 w' → ∀ j u, (cells8 (kyS y))[j]? = some u → w'.cell? ⟨b9, o9 + m * 64 + j, none⟩ = some u) := fun w' hb' j u hu => (hb'.cell (p := ⟨b9, o9 + m * 64 + j, none⟩) hb9').trans (by have := hcy (0 + j) u (ky_cell hu); rwa [Nat.zero_add] at this)
    have hfx : Hid (∀ w', Below w8.heap.size w8 w' → ∀ j u, (cells8 (kyS x))[j]? = some u → w'.cell? ⟨gs, 0 + j, none⟩ = some u) := fun w' hb' j u hu => (hb'.cell (p := ⟨gs, 0 + j, none⟩) G8.out.lt).trans ((G8.out.cell (0 + j)).trans (by rw [List.getElem?_toArray]; exact ky_cell hu))
    have hSl : Hid (∀ w', Below w8.heap.size w8 w' → w'.cell? ⟨gn, 98, none⟩ = some (.slice (some ⟨b9, o9, none⟩) i c9)) := fun w' hb' => (hb'.cell (p := ⟨gn, 98, none⟩) R8.out.note.lt).trans ((R8.out.note.cell 98).trans (by rw [List.getElem?_toArray]; exact noteCells_row hHok.out _))
    have sY : Hid ((Tryz.prog.info? 34).map (·.size) = some (cells8 (kyS y)).length) := by show _ = _; rw [cells8_len, kyS_len hyl.out]; exact RefRising.size32r
    have sX : Hid ((Tryz.prog.info? 34).map (·.size) = some (cells8 (kyS x)).length) := by show _ = _; rw [cells8_len, kyS_len hxl.out]; exact RefRising.size32r
    have hst : Hid (riseB (ky := kyS) ((signsOf q n).drop (i - 1)) = (lex (kyS y) (kyS x) && riseB (ky := kyS) ((signsOf q n).drop i))) := by
     show _ = _
     have e1 : i - 1 = m := by have := hm.out; omega
     rw [e1, hm.out]
     exact rise_drop (by rw [signsOf_at q (by have := hm.out; have := hlt'.out; omega), hy.out]) (by rw [← hm.out, signsOf_at q hlt'.out, hx.out])
    obtain ⟨lb, hlb⟩ : ∃ lb, Hid (lex (kyS y) (kyS x) = lb) := ⟨_, Lib.hid rfl⟩
    clear hcy hyi hS3
    go_upto_region 14 with fail
    refine q_region (Class w8) (by kernel_rfl) (by kernel_rfl) (Class.mk_ ((Below.refl _ _).drew)) ?_
    refine q_move rfl (.tmp 8) rfl ?_
    (intro K k; go_simp; apply k; clear k K)
    refine q_val (v := .bool true) rfl (fun w' hw' => by have hz9 : 0 < i := (by have := hm.out; omega); go_simp) ?_
    (intro K k; go_simp; apply k; clear k K)
    refine Want.qv0 (.bool true) ?_
    (intro K k; go_simp; apply k; clear k K)
    refine Want.qv0 (.pointer (some ⟨gn, 98, none⟩)) ?_
    (intro K k; go_simp; apply k; clear k K)
    refine q_val (v := .slice (some ⟨b9, o9, none⟩) i c9) rfl (fun w' hw' => by have := hSl.out w' hw'.below; go_simp) ?_
    (intro K k; go_simp; apply k; clear k K)
    refine q_move rfl (.tmp 8) rfl ?_
    (intro K k; go_simp; apply k; clear k K)
    refine Want.qv0 (.int .i64 (m : Int)) ?_
    (intro K k; go_simp; apply k; clear k K)
    refine Want.qv0 (.pointer (some ⟨b9, o9 + m * 64, none⟩)) ?_
    (intro K k; go_simp; apply k; clear k K)
    refine Want.qv0 (.pointer (some ⟨b9, o9 + m * 64, none⟩)) ?_
    (intro K k; go_simp; apply k; clear k K)
    refine q_part rfl 34 (.tmp 86) rfl b9 ((o9 + m * 64)) rfl (cells8 (kyS y)) _ (fun w' hw' => hfy.out w' hw'.below) Tryz.underlying34 rfl sY.out ?_
    (intro K k; go_simp; apply k; clear k K)
    refine Want.qv0 (.pointer (some ⟨gs, 0, none⟩)) ?_
    (intro K k; go_simp; apply k; clear k K)
    refine q_part rfl 34 (.tmp 88) rfl gs (0) rfl (cells8 (kyS x)) _ (fun w' hw' => hfx.out w' hw'.below) Tryz.underlying34 rfl sX.out ?_
    (intro K k; go_simp; apply k; clear k K)
    refine q_fn (v := .bool lb) (args := #[.agg (cells8 (kyS y)).toArray, .agg (cells8 (kyS x)).toArray]) rfl _ _ rfl rfl Tryz.func77 (by kernel_rfl) (by kernel_rfl) (fun w' hw' => ((less_any (kyS y) (kyS x) (kyS_len hyl.out) (kyS_len hxl.out) w').mono fun e w'' ⟨he, hb⟩ => ⟨by rw [he, hlb.out], hw'.next hb⟩)) ?_
    (intro K k; go_simp; apply k; clear k K)
    refine Want.qv0 (.bool (!lb)) ?_
    (intro K k; go_simp; apply k; clear k K)
    refine Want.qv0 (.bool (!lb)) ?_
    (intro K k; go_simp; apply k; clear k K)
    refine q_nil ?_
    intro w9 hw9
    have hb9 : Hid (Below w8.heap.size w8 w9) := hw9.below
    clear hw9
    cases lb with
    | false =>
     have hno : Hid (noteOk q = false) := by
      show _ = _
      rw [hk8.out, hk8'.out, ← hre.out, hst.out, hlb.out]
      rfl
     have R9 := Lib.hid (R8.out.far hb9.out)
     go_wp2_with ((with_reducible change wpList _ _ _ ({ dst := none, op := Op.store 39 (.tmp 2) (.tmp 93), type := _, pos := _, after := _, guard := _ } :: _) _ _); refine wpList_store_row (o := ⟨none, _, _, _, _, _⟩) rfl 39 (.tmp 2) (.tmp 93) rfl w.heap.size Z99 rfl rfl 39 Z99 R9.out.res size99' rfl one99 ?_)
     refine bodyPost_ret (results_cell_row2 rfl _ _ w.heap.size 39 Z99 (0, 0) _ rfl (setRow_heap _ _ _ _ _ _ R9.out.res) Tryz.underlying39 rfl size99') rfl ?_
     exact ⟨_, by rw [← hk8.out, hno.out]; rfl, R9.out.end_ _, dec_no hno.out _ _⟩
    | true =>
     have hst2 : Hid (riseB (ky := kyS) ((signsOf q n).drop (i + 1 - 1)) = ans) := by
      show _ = _
      rw [Nat.add_sub_cancel, ← hre.out, hst.out, hlb.out]
      rfl
     clear hre hst
     have R9 := Lib.hid (R8.out.far hb9.out)
     have G9 : Hid (Blk w9 gs 56 (cells8 x).toArray) := (hb9.out.block gs G8.out.lt).trans G8.out
     obtain ⟨A3, c3, e3, hic3, -, hnil3, -, -⟩ := OwnS.reads R9.out.own
     injection e3 with e3 _ e4
     subst e3 e4
     clear hic3 hnil3
     have hR9 : w9.cell? ⟨gn, 98, none⟩ = some (.slice (some ⟨b9, o9, none⟩) i c9) := by rw [R9.out.note.cell 98, List.getElem?_toArray]; exact noteCells_row hHok.out _
     have hfr : w9.frozen? ⟨gn, 98, none⟩ = false := R9.out.note.frozen 98
     have q1 : Hid (∀ v ∈ [cells8 x], v.length = 64) := fun v hv => by simp only [List.mem_singleton] at hv; rw [hv, cells8_len, hxl.out]
     have s64 : Hid ((Tryz.prog.info? 56).map (·.size) = some (cells8 x).toArray.size) := RefRising.size64r.trans (congrArg some (by rw [List.size_toArray, cells8_len, hxl.out]))
     have m1 : Hid (i + 1 ≤ maxLen) := by show _ ≤ _; have := hlt'.out; have := hn16.out; unfold maxLen; omega
     have m2 : Hid ((i + 1) * 64 ≤ 140737488355328) := by show _ ≤ _; have := hlt'.out; have := hn16.out; omega
     obtain ⟨Y1, y1'⟩ : ∃ X, Hid (X = ([cells8 x].flatten).toArray) := ⟨_, rfl⟩
     go_wp2_with (first
      | (((with_reducible change wpList _ _ _ (⟨some 96, _, _, _, _, _⟩ :: _) _ _); refine wpList_load_row (o := ⟨some 96, _, _, _, _, _⟩) rfl 56 (.tmp 9) rfl (gs) rfl 56 ((cells8 x).toArray) (0, 0) _ G9.out Tryz.underlying56 rfl s64.out ?_))
      | ((with_reducible change wpList _ _ _ (⟨some 97, _, _, _, _, _⟩ :: _) _ _); refine wpList_buildAggs (o := ⟨some 97, _, _, _, _, _⟩) rfl 37 56 1 _ rfl 64 (by decide) [cells8 x] Tryz.underlying37 RefRising.size64r zero64 rfl (by decide) (by decide) q1.out rfl ?_; rw [← y1'.out]; have hN1 : Hid (Sgs (w9.alloc (.cells Y1 56)) (some ⟨w9.heap.size, 0, none⟩) 1 [x]) := (by show Sgs _ _ _ _; rw [y1'.out]; exact sgs_one w9 hxl.out); have R10 := Lib.hid (R9.out.far (Below.heap_below w9 (.cells Y1 56))); have hfr2 : (w9.alloc (.cells Y1 56)).frozen? ⟨gn, 98, none⟩ = false := R10.out.note.frozen 98)
      | ((with_reducible change wpList _ _ _ (⟨some 98, _, _, _, _, _⟩ :: _) _ _); refine wpList_append_src _ (o := ⟨some 98, _, _, _, _, _⟩) rfl (.tmp 95) (.tmp 97) 37 rfl wB.heap.size 56 i0 (.agg Z64) 64 64 Tryz.underlying37 ii iz0 iz1 iz2 rfl (by decide) (.slice (some ⟨b9, o9, none⟩) i c9) i ((signsOf q i).flatMap cells8) rfl R10.out.own.2.2 (some ⟨w9.heap.size, 0, none⟩) 1 1 ([x].flatMap cells8) rfl hN1.out.rd (fun e => by cases e) (one_signs [x]) m1.out m2.out R10.out.hw ?_; intro v11 w11 hG; have hOB := Lib.hid (grew_signs hG (Below.refl _ _) R10.out.hw R10.out.own hN1.out.all hN1.out.len); obtain ⟨A11, c11, rfl, -⟩ := OwnS.reads hOB.out.1; have R11 := Lib.hid (R10.out.push hHok.out hOB.out.2 hOB.out.1); have hcl11 : w11.cell? ⟨gn, 98, none⟩ = some (.slice (some ⟨b9, o9, none⟩) i c9) := (by have hbk : Blk w11 gn 39 (noteCells H (.slice (some ⟨b9, o9, none⟩) i c9)).toArray := (hOB.out.2.block gn R10.out.hB).trans R10.out.note; rw [hbk.cell 98, List.getElem?_toArray]; exact noteCells_row hHok.out _); have hfr11 : w11.frozen? ⟨gn, 98, none⟩ = false := (by have hbk : Blk w11 gn 39 (noteCells H (.slice (some ⟨b9, o9, none⟩) i c9)).toArray := (hOB.out.2.block gn R10.out.hB).trans R10.out.note; exact hbk.frozen 98); clear hG))
     rw [← hx.out, ← row_next] at R11
     go_roundw
     case rel => exact ⟨i + 1, A11, c11, by go_num, hlt'.out, R11.out, hst2.out⟩
     case measure => (have := hlt'.out; simp [intOf]; omega)
  ·have hz1 : ¬ ((i : Int) < (n : Int)) := by omega
   have hin' : i = n := by have := hin.out; omega
   subst hin'
   have hyes : Hid (ans = true) := by
    show _ = _
    rw [← hre.out]
    exact rise_last (by rw [signsOf_len]; omega)
   have hyesN : Hid (noteOk q = true) := by show _ = _; rw [hk8.out, hk8'.out, hyes.out]
   clear hlt
   go_wp2_with (first
    | (((with_reducible change wpList _ _ _ (⟨some 100, _, _, _, _, _⟩ :: _) _ _); refine wpList_load_row (o := ⟨some 100, _, _, _, _, _⟩) rfl 39 (.tmp 7) rfl (gn) rfl 39 ((noteCells H (.slice A9 i c9)).toArray) (0, 0) _ Ri.out.note Tryz.underlying39 rfl (hzN.out _) ?_))
    | ((with_reducible change wpList _ _ _ ({ dst := none, op := Op.store 39 (.tmp 2) (.tmp 100), type := _, pos := _, after := _, guard := _ } :: _) _ _); refine wpList_store_row (o := ⟨none, _, _, _, _, _⟩) rfl 39 (.tmp 2) (.tmp 100) rfl w.heap.size (noteCells H (.slice A9 i c9)).toArray rfl rfl 39 Z99 Ri.out.res (hzN.out _) (hsN.out _) (hoN.out _ _ _) ?_))
   refine bodyPost_ret (results_cell_row2 rfl _ _ w.heap.size 39 (noteCells H (.slice A9 i c9)).toArray (0, 0) _ rfl (setRow_heap _ _ _ _ _ _ Ri.out.res) Tryz.underlying39 rfl (hzN.out _)) rfl ?_
   obtain ⟨A3, c3, e3, hic3, -, hnil3, hS3, hB3'⟩ := OwnS.reads Ri.out.own
   injection e3 with e3 _ e4
   subst e3 e4
   refine ⟨_, by rw [hk8'.out, hyes.out]; rfl, Ri.out.end_ _, ?_⟩
   rw [← hHq.out]
   refine dec_yes hyesN.out _ _ i hn.out _ c9 hic3 hnil3 ⟨hS3.len, hS3.all, hS3.rd.kept (Bytes.Kept.setRow (S := (· = w.heap.size)) (Kept.refl _ wr) rfl _) (fun b' o' e' => by have h9 := hB3' _ e'; have := Ri.out.hg; have := Ri.out.hB; show ¬ b' = w.heap.size; have h10 : wB.heap.size ≤ b' := h9; omega)⟩ (fun a e' => by have h9 := hB3' a e'; have := Ri.out.hg; have := Ri.out.hB; omega)
theorem readnote_any (q : Text) (k : Nat) (hk : q.length = k) (hk47 : k < 140737488355328) (A : Option Addr) (c : Nat) (hkc : k ≤ c) (w : World) (hr : Reads w 1 A k (cells8 q)) :
  Calls Tryz.prog 38 #[.slice A k c] w fun e w' => ∃ v, e = .returned (.tuple #[v, .bool (noteOk q)]) ∧ Below w.heap.size w w' ∧ DecPost q w.heap.size w' v := by
 by_cases hl : 115 ≤ k
 ·by_cases h33 : q.getD 0 0 = 33
  ·by_cases hok : okH (q.drop 1) = true
   ·by_cases hcn : 1 ≤ cntOf q ∧ cntOf q ≤ 16 ∧ k = 115 + 64 * cntOf q
    ·exact read_main q k hk hk47 hl h33 hok hcn A c hkc w hr
    ·exact read_cnt q k hk hk47 hl h33 hok hcn A c hkc w hr
   ·exact read_bad q k hk hk47 hl h33 hok A c hkc w hr
  ·exact read_kind q k hk hk47 hl h33 A c hkc w hr
 ·exact read_short q k hk hk47 (by omega) A c hkc w hr
end Go.Proofs.YtfbhjoejffagjaaGreatDoor.ReadNote
