/-
  Texts of the claim, put into one file: NoteM, DecNote.
-/
import Derived.Test.YtfbhjoejffagjaaGreatDoorZ30
import Derived.Test.YtfbhjoejffagjaaGreatDoorZ29
import Derived.Test.YtfbhjoejffagjaaGreatDoorZ16
import Derived.Test.YtfbhjoejffagjaaGreatDoorZ18
import Derived.Deep.Cut

namespace Go.Proofs.YtfbhjoejffagjaaGreatDoor.NoteM
open Go Go.RowKit Go.Proofs.YtfbhjoejffagjaaGreatDoor Mem Sha Bytes SortP NoteP Reader Reader2 Reader3 Rise SortM SgM HeadMem HeadTake EncNoteP EncNote RowS Fill

def h0 : HeadD := ⟨List.replicate 32 0, 0, List.replicate 32 0, List.replicate 32 0, 0⟩
theorem h0_ok : h0.Ok := ⟨by simp [h0], by simp [h0], by simp [h0], ⟨by decide, by decide⟩, ⟨by decide, by decide⟩⟩
theorem h0_cells : headCells h0 = Z98.toList := by kernel_rfl
def Z99 : Array Value := #[Value.int IntKind.u8 0, Value.int IntKind.u8 0, Value.int IntKind.u8 0, Value.int IntKind.u8 0, Value.int IntKind.u8 0, Value.int IntKind.u8 0, Value.int IntKind.u8 0, Value.int IntKind.u8 0, Value.int IntKind.u8 0, Value.int IntKind.u8 0, Value.int IntKind.u8 0, Value.int IntKind.u8 0, Value.int IntKind.u8 0, Value.int IntKind.u8 0, Value.int IntKind.u8 0, Value.int IntKind.u8 0, Value.int IntKind.u8 0, Value.int IntKind.u8 0, Value.int IntKind.u8 0, Value.int IntKind.u8 0, Value.int IntKind.u8 0, Value.int IntKind.u8 0, Value.int IntKind.u8 0, Value.int IntKind.u8 0, Value.int IntKind.u8 0, Value.int IntKind.u8 0, Value.int IntKind.u8 0, Value.int IntKind.u8 0, Value.int IntKind.u8 0, Value.int IntKind.u8 0, Value.int IntKind.u8 0, Value.int IntKind.u8 0, Value.int IntKind.i64 0, Value.int IntKind.u8 0, Value.int IntKind.u8 0, Value.int IntKind.u8 0, Value.int IntKind.u8 0, Value.int IntKind.u8 0, Value.int IntKind.u8 0, Value.int IntKind.u8 0, Value.int IntKind.u8 0, Value.int IntKind.u8 0, Value.int IntKind.u8 0, Value.int IntKind.u8 0, Value.int IntKind.u8 0, Value.int IntKind.u8 0, Value.int IntKind.u8 0, Value.int IntKind.u8 0, Value.int IntKind.u8 0, Value.int IntKind.u8 0, Value.int IntKind.u8 0, Value.int IntKind.u8 0, Value.int IntKind.u8 0, Value.int IntKind.u8 0, Value.int IntKind.u8 0, Value.int IntKind.u8 0, Value.int IntKind.u8 0, Value.int IntKind.u8 0, Value.int IntKind.u8 0, Value.int IntKind.u8 0, Value.int IntKind.u8 0, Value.int IntKind.u8 0, Value.int IntKind.u8 0, Value.int IntKind.u8 0, Value.int IntKind.u8 0, Value.int IntKind.u8 0, Value.int IntKind.u8 0, Value.int IntKind.u8 0, Value.int IntKind.u8 0, Value.int IntKind.u8 0, Value.int IntKind.u8 0, Value.int IntKind.u8 0, Value.int IntKind.u8 0, Value.int IntKind.u8 0, Value.int IntKind.u8 0, Value.int IntKind.u8 0, Value.int IntKind.u8 0, Value.int IntKind.u8 0, Value.int IntKind.u8 0, Value.int IntKind.u8 0, Value.int IntKind.u8 0, Value.int IntKind.u8 0, Value.int IntKind.u8 0, Value.int IntKind.u8 0, Value.int IntKind.u8 0, Value.int IntKind.u8 0, Value.int IntKind.u8 0, Value.int IntKind.u8 0, Value.int IntKind.u8 0, Value.int IntKind.u8 0, Value.int IntKind.u8 0, Value.int IntKind.u8 0, Value.int IntKind.u8 0, Value.int IntKind.u8 0, Value.int IntKind.u8 0, Value.int IntKind.u8 0, Value.int IntKind.u8 0, Value.int IntKind.i64 0, Value.slice none 0 0]
theorem z99_eq : (noteCells h0 (.slice none 0 0)).toArray = Z99 := by kernel_rfl
theorem z99_size : Z99.size = 99 := by kernel_rfl
theorem size99 : (Tryz.prog.info? 39).map (·.size) = some 99 := by kernel_rfl
theorem size99' : (Tryz.prog.info? 39).map (·.size) = some Z99.size := by rw [z99_size]; exact size99
theorem one99 : Z99.all (fun v => v.oneCell') = true := by kernel_rfl
theorem built_note (parts : List (Nat × Value)) : Tryz.prog.built 39 parts = Instr.fill (#[((0 : Nat), (98 : Nat)), (98, 1)][·]?) (Z98.toList ++ [Value.slice none 0 0]).toArray parts := by kernel_rfl
theorem run_note {h : HeadD} (ok : h.Ok) (A : Option Addr) (n c : Nat) (w : World) : (Instr.build 39 #[(0, .agg (headCells h).toArray), (1, .slice A n c)]).run Tryz.prog w = .ok (.agg (noteCells h (.slice A n c)).toArray) w := by
 refine run_build w _ _ _ ?_
 rw [built_note]
 have e1 := fill_one (place := (#[((0 : Nat), (98 : Nat)), (98, 1)][·]?)) (i := 0) (v := .agg (headCells h).toArray) (xs := headCells h) (old := Z98.toList) (pre := []) (post := [.slice none 0 0]) (rest := [(1, .slice A n c)]) rfl rfl (headCells_len ok) rfl (by rw [Array.length_toList]; exact z98_size)
 have e2 := fill_one (place := (#[((0 : Nat), (98 : Nat)), (98, 1)][·]?)) (i := 1) (v := .slice A n c) (xs := [.slice A n c]) (old := [.slice none 0 0]) (pre := headCells h) (post := []) (rest := []) rfl rfl rfl (headCells_len ok) rfl
 rw [List.nil_append, List.nil_append] at e1
 rw [List.append_nil, List.append_nil, fill_nil] at e2
 exact e1.trans e2
theorem run_note0 {h : HeadD} (ok : h.Ok) (w : World) : (Instr.build 39 #[(0, .agg (headCells h).toArray)]).run Tryz.prog w = .ok (.agg (noteCells h (.slice none 0 0)).toArray) w := by
 refine run_build w _ _ _ ?_
 rw [built_note]
 have e1 := fill_one (place := (#[((0 : Nat), (98 : Nat)), (98, 1)][·]?)) (i := 0) (v := .agg (headCells h).toArray) (xs := headCells h) (old := Z98.toList) (pre := []) (post := [.slice none 0 0]) (rest := []) rfl rfl (headCells_len ok) rfl (by rw [Array.length_toList]; exact z98_size)
 rw [List.nil_append, List.nil_append, fill_nil] at e1
 exact e1
theorem note_size {h : HeadD} (ok : h.Ok) (v : Value) : (Tryz.prog.info? 39).map (·.size) = some (noteCells h v).toArray.size := by rw [List.size_toArray, noteCells_len ok]; exact size99
theorem note_one {h : HeadD} (A : Option Addr) (n c : Nat) : (noteCells h (.slice A n c)).toArray.all (fun v => v.oneCell') = true := by
 rw [List.all_toArray]
 refine List.all_eq_true.2 fun v hv => ?_
 rcases List.mem_append.1 hv with hv | hv
 ·exact headCells_one h v hv
 ·simp only [List.mem_singleton] at hv
  subst hv
  rfl
theorem note_zero {h : HeadD} (ok : h.Ok) (v : Value) : Z99.size = (noteCells h v).toArray.size := z99_size.trans (show 99 = (noteCells h v).length from (noteCells_len ok v).symm)
theorem sign_fill (z : Array Value) (hz : z.size = 64) (xs ys : List Value) (hx : xs.length = 32) (hy : ys.length = 32) :
  Instr.fill (#[((0 : Nat), (32 : Nat)), (32, 32)][·]?) z [(0, .agg xs.toArray), (1, .agg ys.toArray)] = some (xs ++ ys).toArray := by
 have h := Great.fill_whole (s := 32) (by omega) [.agg xs.toArray, .agg ys.toArray] z (fun v hv => by
  rcases List.mem_cons.1 hv with rfl | hv
  ·exact hx
  ·rcases List.mem_cons.1 hv with rfl | hv
   ·exact hy
   ·cases hv) (by rw [hz]; rfl)
 have e : ([Value.agg xs.toArray, .agg ys.toArray].flatMap fun v => v.cells.toList) = xs ++ ys := by
  simp [Value.cells]
 rw [e] at h
 exact h
theorem built_any (parts : List (Nat × Value)) : Tryz.prog.built 56 parts = Instr.fill (#[((0 : Nat), (32 : Nat)), (32, 32)][·]?) (Array.replicate 64 (.int .u8 0)) parts := by kernel_rfl
theorem run_signT (x y : Text) (hx : x.length = 32) (hy : y.length = 32) (w : World) : (Instr.build 56 #[(0, .agg (cells8 x).toArray), (1, .agg (cells8 y).toArray)]).run Tryz.prog w = .ok (.agg (cells8 (x ++ y)).toArray) w := by
 have e : cells8 (x ++ y) = cells8 x ++ cells8 y := by simp [cells8]
 rw [e]
 refine run_build w _ _ _ ?_
 rw [built_any]
 exact sign_fill (Array.replicate 64 (.int .u8 0)) (by simp) _ _ (by rw [cells8_len, hx]) (by rw [cells8_len, hy])
def decH (q : Text) : HeadD := if noteOk q = true then headOf (q.drop 1) else h0
def decS (q : Text) : List Text := if noteOk q = true then signsOf q (cntOf q) else []
theorem noteOk_parts {q : Text} (h : noteOk q = true) : 115 ≤ q.length ∧ q.getD 0 0 = 33 ∧ okH (q.drop 1) = true ∧ 1 ≤ cntOf q ∧ cntOf q ≤ 16 ∧ q.length = 115 + 64 * cntOf q ∧ riseB (ky := kyS) (signsOf q (cntOf q)) = true := by
 unfold noteOk at h
 simpa [Bool.and_eq_true] using h
theorem noteOk_mk {q : Text} (h : 115 ≤ q.length ∧ q.getD 0 0 = 33 ∧ okH (q.drop 1) = true ∧ 1 ≤ cntOf q ∧ cntOf q ≤ 16 ∧ q.length = 115 + 64 * cntOf q ∧ riseB (ky := kyS) (signsOf q (cntOf q)) = true) : noteOk q = true := by
 unfold noteOk
 simpa [Bool.and_eq_true] using h
theorem noteOk_no {q : Text} (h : ¬ (115 ≤ q.length ∧ q.getD 0 0 = 33 ∧ okH (q.drop 1) = true ∧ 1 ≤ cntOf q ∧ cntOf q ≤ 16 ∧ q.length = 115 + 64 * cntOf q ∧ riseB (ky := kyS) (signsOf q (cntOf q)) = true)) : noteOk q = false := by
 cases hq : noteOk q with
 | false => rfl
 | true => exact absurd (noteOk_parts hq) h
theorem decH_ok (q : Text) : (decH q).Ok := by
 unfold decH
 by_cases h : noteOk q = true
 ·rw [if_pos h]
  obtain ⟨h1, -, h3, -⟩ := noteOk_parts h
  exact headOf_ok _ (by rw [List.length_drop]; omega) h3
 ·rw [if_neg h]
  exact h0_ok
theorem decS_len (q : Text) : (decS q).length ≤ 16 := by
 unfold decS
 by_cases h : noteOk q = true
 ·rw [if_pos h, signsOf_len]
  exact (noteOk_parts h).2.2.2.2.1
 ·rw [if_neg h]
  simp
def DecPost (q : Text) (B : Nat) (w' : World) (v : Value) : Prop := ∃ (A : Option Addr) (c : Nat), v = .agg (noteCells (decH q) (.slice A (decS q).length c)).toArray ∧ (decS q).length ≤ c ∧ (A = none → (decS q).length = 0 ∧ c = 0) ∧ Sgs w' A (decS q).length (decS q) ∧ ∀ a, A = some a → B ≤ a.block
theorem dec_no {q : Text} (h : noteOk q = false) (B : Nat) (w' : World) : DecPost q B w' (.agg Z99) := by
 have e1 : decS q = [] := by unfold decS; rw [if_neg (by rw [h]; simp)]
 have e2 : decH q = h0 := by unfold decH; rw [if_neg (by rw [h]; simp)]
 refine ⟨none, 0, ?_, by rw [e1]; exact Nat.le_refl _, fun _ => by rw [e1]; exact ⟨rfl, rfl⟩, by rw [e1]; exact Sgs.nil_ w' none, fun a e => by cases e⟩
 rw [e1, e2]
 show _ = Value.agg (noteCells h0 (.slice none 0 0)).toArray
 rw [z99_eq]
theorem dec_yes {q : Text} (h : noteOk q = true) (B : Nat) (w' : World) (n : Nat) (hn : cntOf q = n) (A : Option Addr) (c : Nat) (hc : n ≤ c) (hA : A = none → n = 0 ∧ c = 0) (hS : Sgs w' A n (signsOf q n)) (hB : ∀ a, A = some a → B ≤ a.block) : DecPost q B w' (.agg (noteCells (headOf (q.drop 1)) (.slice A n c)).toArray) := by
 subst hn
 have e1 : decS q = signsOf q (cntOf q) := by unfold decS; rw [if_pos h]
 have e2 : decH q = headOf (q.drop 1) := by unfold decH; rw [if_pos h]
 refine ⟨A, c, ?_, ?_, ?_, ?_, hB⟩ <;> rw [e1]
 ·rw [e2, signsOf_len]
 ·rw [signsOf_len]; exact hc
 ·rw [signsOf_len]; exact hA
 ·rw [signsOf_len]; exact hS
theorem sign_parts {q : Text} (i : Nat) : signAt q i = (q.drop (115 + 64 * i)).take 32 ++ (q.drop (115 + 64 * i + 32)).take 32 := by
 unfold signAt
 rw [show 64 = 32 + 32 from rfl, List.take_add, List.drop_drop]
theorem signs_ext {q : Text} {n : Nat} {r : List Text} (hr : r.length = n) (h : ∀ j, j < n → r[j]? = some (signAt q j)) : r = signsOf q n := by
 apply List.ext_getElem?
 intro j
 by_cases hj : j < n
 ·rw [h j hj, signsOf_at q hj]
 ·rw [List.getElem?_eq_none (by omega), List.getElem?_eq_none (by rw [signsOf_len]; omega)]
structure DN (w0 w : World) (g gh : Nat) (q : Text) (A : Option Addr) (c need : Nat) (hc : Array Value) : Prop where
 rd : Rd w g q A c need
 res : Blk w w0.heap.size 39 Z99
 head : Blk w gh 36 hc
 below : Below w0.heap.size w0 w
 hg : w0.heap.size < g
 hh : w0.heap.size < gh
 ne : g ≠ gh
section
variable {w0 w w' : World} {g gh c need need' : Nat} {q : Text} {A : Option Addr} {hc : Array Value}
theorem DN.call (h : DN w0 w g gh q A c need hc) (hr : Rd w' g q A c need') (hk : Kept (· = g) w w') : DN w0 w' g gh q A c need' hc :=
 ⟨hr, h.res.kept hk (by have := h.hg; omega), h.head.kept hk (fun e => h.ne e.symm), h.below.trans (Kept.below_of hk (by have := h.hg; omega) h.below.size), h.hg, h.hh, h.ne⟩
theorem DN.far (h : DN w0 w g gh q A c need hc) (hk : Below w.heap.size w w') : DN w0 w' g gh q A c need hc :=
 ⟨h.rd.below hk, h.res.kept (S := fun _ => False) (Kept.of_below hk) (fun x => x), h.head.kept (S := fun _ => False) (Kept.of_below hk) (fun x => x), h.below.trans (hk.mono h.below.size), h.hg, h.hh, h.ne⟩
theorem DN.off {gs : Nat} (h : DN w0 w g gh q A c need hc) (hk : Kept (· = gs) w w') (h1 : w0.heap.size < gs) (h2 : g ≠ gs) (h3 : gh ≠ gs) (h4 : 0 < q.length → ∀ a, A = some a → a.block < gs) : DN w0 w' g gh q A c need hc :=
 ⟨h.rd.keptOff hk h2 (fun h0 a ea e => by have := h4 h0 a ea; omega), h.res.kept hk (by omega), h.head.kept hk h3, h.below.trans (Kept.below_of hk (by omega) h.below.size), h.hg, h.hh, h.ne⟩
theorem DN.end_ (h : DN w0 w g gh q A c need hc) (X : Array Value) : Below w0.heap.size w0 (w.setRow w0.heap.size X) := below_setRow h.below (Nat.le_refl _) X
end
structure DN0 (w0 w : World) (g : Nat) (q : Text) (A : Option Addr) (c need : Nat) : Prop where
 rd : Rd w g q A c need
 res : Blk w w0.heap.size 39 Z99
 below : Below w0.heap.size w0 w
 hg : w0.heap.size < g
section
variable {w0 w w' : World} {g c need need' : Nat} {q : Text} {A : Option Addr} {hc : Array Value}
theorem DN0.call (h : DN0 w0 w g q A c need) (hr : Rd w' g q A c need') (hk : Kept (· = g) w w') : DN0 w0 w' g q A c need' :=
 ⟨hr, h.res.kept hk (by have := h.hg; omega), h.below.trans (Kept.below_of hk (by have := h.hg; omega) h.below.size), h.hg⟩
theorem DN0.head (h : DN0 w0 w g q A c need) {o : Obj} (hk : Kept (· = w.heap.size) (w.alloc o) w') (hb : Blk w' w.heap.size 36 hc) : DN w0 w' g w.heap.size q A c need hc := by
 have hbb := Decode.below_new hk
 have hlt := h.rd.lt
 exact ⟨h.rd.below hbb, h.res.kept (S := fun _ => False) (Kept.of_below hbb) (fun x => x), hb, h.below.trans (hbb.mono h.below.size), h.hg, by have := h.res.lt; exact this, by omega⟩
end
end Go.Proofs.YtfbhjoejffagjaaGreatDoor.NoteM

namespace Go.Proofs.YtfbhjoejffagjaaGreatDoor.DecNote
open Go Go.RowKit Go.Proofs.YtfbhjoejffagjaaGreatDoor Mem Sha Bytes SortP NoteP Reader Reader2 Reader3 Rise SortM SgM HeadMem HeadTake HeadTake2 HeadTake3 EncNoteP EncNote RowS Fill NoteM Decode

theorem splice_set (ds : List Text) (h : Sns ds) (i : Nat) (hi : i < ds.length) (x : Text) (hx : x.length = 64) : (splice (ds.flatMap cells8).toArray.toList (i * 64) (cells8 x)).toArray = ((ds.set i x).flatMap cells8).toArray := by
 unfold splice
 rw [List.toList_toArray, cells8_len, hx, ← List.append_assoc, flat_set ds h i hi x]
theorem row_fit {ds : List Text} (h : Sns ds) {i n : Nat} (hl : ds.length = n) (hi : i < n) {x : Text} (hx : x.length = 64) : i * 64 + (cells8 x).length ≤ (ds.flatMap cells8).toArray.size := by
 rw [List.size_toArray, flat_len ds h, cells8_len, hx, hl]
 omega

set_option maxRecDepth 100000 in
set_option maxHeartbeats 4000000 in
theorem dec_bad (q q1 : Text) (hq1 : Hid (q.drop 1 = q1)) (hk47 : q.length < 140737488355328) (ht : ¬ (113 ≤ q1.length ∧ okH q1 = true)) (A : Option Addr) (c : Nat) (w : World) (hr : Reads w 1 A q.length (cells8 q)) (hnil : A = none → q.length = 0 ∧ c = 0) :
  Calls Tryz.prog 34 #[.slice A q.length c] w fun e w' => ∃ v, e = .returned (.tuple #[v, .int .i64 (if noteOk q = true then 0 else 8)]) ∧ Below w.heap.size w w' ∧ DecPost q w.heap.size w' v := by
 have hr0 : Hid (Reads (w.alloc (.cells Z99 39)) 1 A q.length (cells8 q)) := hr.alloc _
 have hb0 : Hid (Below w.heap.size w (w.alloc (.cells Z99 39))) := Below.heap_below w _
 have hZ : Hid (Blk (w.alloc (.cells Z99 39)) w.heap.size 39 Z99) := Blk.new w _ _
 have hZs : Hid ((w.alloc (.cells Z99 39)).heap.size = w.heap.size + 1) := by show _ = _; simp
 have hT : Hid (∀ w' : World, Below (w.heap.size + 1) (w.alloc (.cells Z99 39)) w' → ∀ g A' c', w.heap.size + 1 ≤ g → Rd w' g q A' c' 0 → DN0 w w' g q A' c' 0) := fun w' hb g A' c' hg hr => ⟨hr, hZ.out.kept (S := fun _ => False) (Kept.of_below (by rw [hZs.out]; exact hb)) (fun x => x), hb0.out.trans (hb.mono (Nat.le_succ _)), hg⟩
 replace hnil := Lib.hid hnil
 replace hk47 := Lib.hid hk47
 obtain ⟨yk, hyk⟩ : ∃ yk, Hid (b8 (q.getD 0 0) = yk) := ⟨_, Lib.hid rfl⟩
 clear hr
 obtain ⟨k8, hk8⟩ : ∃ k8 : Int, Hid ((if noteOk q = true then (0 : Int) else 8) = k8) := ⟨_, Lib.hid rfl⟩
 rw [hk8.out]
 have hX : takeOut q1 = .tuple #[.agg Z98, .bool false] := takeOut_no ht
 have hno : Hid (noteOk q = false) := noteOk_no (fun h => ht ⟨by rw [← hq1.out, List.length_drop]; omega, by rw [← hq1.out]; exact h.2.2.1⟩)
 clear ht
 go_enter Tryz.func34, Tryz.ntmps34
 go_wp2_with (first
  | (go_at_call 70; refine (read_any q q.length rfl hk47.out A c (w.alloc (.cells Z99 39)) hr0.out hnil.out).mono ?_; rintro e w1 ⟨g, A1, c1, rfl, hg, hb1, hR1⟩; rw [hZs.out] at hg hb1; have D1 := Lib.hid (hT.out w1 hb1 g A1 c1 hg hR1); clear hg hb1 hR1 hT hb0)
  | (go_at_call 71; refine (take1_any q hk47.out g 0 A1 c1 w1 D1.out.rd).mono ?_; rintro e w2 ⟨y1, rfl, hy1, hR2, hk2⟩; obtain ⟨yy, hyy⟩ : ∃ yy, Hid (b8 y1 = yy) := ⟨_, Lib.hid rfl⟩; rw [hyy.out]; have D2 := Lib.hid (D1.out.call hR2 hk2); clear hR2 hk2 D1 hy1)
  | (go_at_call 72; refine (take1_at q q1 hq1 hk47.out g A1 c1 w2 D2.out.rd).mono ?_; rw [hX]; rintro e w3 ⟨rfl, hR3, hk3⟩; have D3 := Lib.hid (D2.out.call hR3 hk3); clear hR3 hk3 D2)
  | ((with_reducible change wpList _ _ _ ({ dst := none, op := Op.store 36 (.tmp 6) (.tmp 18), type := _, pos := _, after := _, guard := _ } :: _) _ _); refine wpList_store_all (o := ⟨none, _, _, _, _, _⟩) rfl 36 (.tmp 6) (.tmp 18) rfl w3.heap.size Z98 rfl rfl 36 Z98 (Blk.new w3 _ _) size98' rfl one98 ?_; intro w4 hB4 hk4; have D4 := Lib.hid (D3.out.head hk4 hB4.out); clear hk4 hB4 D3; generalize w3.heap.size = gh at *)
  | (go_at_call 71; refine (take1_any q hk47.out g 114 A1 c1 w4 D4.out.rd).mono ?_; rintro e w5 ⟨y2, rfl, hy2, hR5, hk5⟩; obtain ⟨n, hn⟩ : ∃ n, Hid (y2.toNat = n) := ⟨_, Lib.hid rfl⟩; rw [show b8 y2 = (n : Int) from congrArg Int.ofNat hn.out]; have hn6 : (n : Int) < 256 := (by have := y2.isLt; have := hn.out; omega); have x4 : IntKind.i64.wrap (n : Int) = (n : Int) := IntWalk.i64_in _ (by omega); have D5 := Lib.hid (D4.out.call hR5 hk5); have hcnt : Hid (115 ≤ q.length → cntOf q = n) := (fun h => by unfold cntOf; rw [← hy2 (by omega)]; exact hn.out); clear hR5 hk5 D4 hy2 hn)
  | ((with_reducible change wpList _ _ _ ({ dst := none, op := Op.store 39 (.tmp 2) (.tmp 37), type := _, pos := _, after := _, guard := _ } :: _) _ _); refine wpList_store_row (o := ⟨none, _, _, _, _, _⟩) rfl 39 (.tmp 2) (.tmp 37) rfl w.heap.size Z99 rfl rfl 39 Z99 D5.out.res size99' rfl one99 ?_))
 refine bodyPost_ret (results_cell_row2 rfl _ _ w.heap.size 39 Z99 (0, 0) _ rfl (setRow_heap _ _ _ _ _ _ D5.out.res) Tryz.underlying39 rfl size99') rfl ?_
 exact ⟨_, by rw [← hk8.out, hno.out]; rfl, D5.out.end_ _, dec_no hno.out _ _⟩

set_option maxRecDepth 100000 in
set_option maxHeartbeats 4000000 in
theorem dec_kind (q q1 : Text) (hq1 : Hid (q.drop 1 = q1)) (hk47 : q.length < 140737488355328) (ht : 113 ≤ q1.length ∧ okH q1 = true) (h33 : ¬ q.getD 0 0 = 33) (A : Option Addr) (c : Nat) (w : World) (hr : Reads w 1 A q.length (cells8 q)) (hnil : A = none → q.length = 0 ∧ c = 0) :
  Calls Tryz.prog 34 #[.slice A q.length c] w fun e w' => ∃ v, e = .returned (.tuple #[v, .int .i64 (if noteOk q = true then 0 else 8)]) ∧ Below w.heap.size w w' ∧ DecPost q w.heap.size w' v := by
 have hr0 : Hid (Reads (w.alloc (.cells Z99 39)) 1 A q.length (cells8 q)) := hr.alloc _
 have hb0 : Hid (Below w.heap.size w (w.alloc (.cells Z99 39))) := Below.heap_below w _
 have hZ : Hid (Blk (w.alloc (.cells Z99 39)) w.heap.size 39 Z99) := Blk.new w _ _
 have hZs : Hid ((w.alloc (.cells Z99 39)).heap.size = w.heap.size + 1) := by show _ = _; simp
 have hT : Hid (∀ w' : World, Below (w.heap.size + 1) (w.alloc (.cells Z99 39)) w' → ∀ g A' c', w.heap.size + 1 ≤ g → Rd w' g q A' c' 0 → DN0 w w' g q A' c' 0) := fun w' hb g A' c' hg hr => ⟨hr, hZ.out.kept (S := fun _ => False) (Kept.of_below (by rw [hZs.out]; exact hb)) (fun x => x), hb0.out.trans (hb.mono (Nat.le_succ _)), hg⟩
 replace hnil := Lib.hid hnil
 replace hk47 := Lib.hid hk47
 obtain ⟨yk, hyk⟩ : ∃ yk, Hid (b8 (q.getD 0 0) = yk) := ⟨_, Lib.hid rfl⟩
 clear hr
 obtain ⟨k8, hk8⟩ : ∃ k8 : Int, Hid ((if noteOk q = true then (0 : Int) else 8) = k8) := ⟨_, Lib.hid rfl⟩
 rw [hk8.out]
 have hX : takeOut q1 = .tuple #[.agg (headCells (headOf q1)).toArray, .bool true] := takeOut_yes ht.1 ht.2
 obtain ⟨hz, ho, hs⟩ := head_sizes (headOf_ok q1 ht.1 ht.2)
 have hl : Hid (114 ≤ q.length) := len0 hq1.out ht.1
 have hno : Hid (noteOk q = false) := noteOk_no (fun h => h33 h.2.1)
 have hne : ¬ (yk = 33) := fun e => h33 (BitVec.eq_of_toNat_eq (by have h := hyk.out; rw [e] at h; unfold b8 at h; have : (33 : BitVec 8).toNat = 33 := rfl; omega))
 clear ht h33
 go_enter Tryz.func34, Tryz.ntmps34
 go_wp2_with (first
  | (go_at_call 70; refine (read_any q q.length rfl hk47.out A c (w.alloc (.cells Z99 39)) hr0.out hnil.out).mono ?_; rintro e w1 ⟨g, A1, c1, rfl, hg, hb1, hR1⟩; rw [hZs.out] at hg hb1; have D1 := Lib.hid (hT.out w1 hb1 g A1 c1 hg hR1); clear hg hb1 hR1 hT hb0)
  | (go_at_call 71; refine (take1_any q hk47.out g 0 A1 c1 w1 D1.out.rd).mono ?_; rintro e w2 ⟨y1, rfl, hy1, hR2, hk2⟩; rw [hy1 (by have := hl.out; omega), hyk.out]; have D2 := Lib.hid (D1.out.call hR2 hk2); clear hR2 hk2 D1 hy1)
  | (go_at_call 72; refine (take1_at q q1 hq1 hk47.out g A1 c1 w2 D2.out.rd).mono ?_; rw [hX]; rintro e w3 ⟨rfl, hR3, hk3⟩; have D3 := Lib.hid (D2.out.call hR3 hk3); clear hR3 hk3 D2)
  | ((with_reducible change wpList _ _ _ ({ dst := none, op := Op.store 36 (.tmp 6) (.tmp 18), type := _, pos := _, after := _, guard := _ } :: _) _ _); refine wpList_store_all (o := ⟨none, _, _, _, _, _⟩) rfl 36 (.tmp 6) (.tmp 18) rfl w3.heap.size (headCells (headOf q1)).toArray rfl rfl 36 Z98 (Blk.new w3 _ _) hz.out hs.out ho.out ?_; intro w4 hB4 hk4; have D4 := Lib.hid (D3.out.head hk4 hB4.out); clear hk4 hB4 D3; generalize w3.heap.size = gh at *)
  | (go_at_call 71; refine (take1_any q hk47.out g 114 A1 c1 w4 D4.out.rd).mono ?_; rintro e w5 ⟨y2, rfl, hy2, hR5, hk5⟩; obtain ⟨n, hn⟩ : ∃ n, Hid (y2.toNat = n) := ⟨_, Lib.hid rfl⟩; rw [show b8 y2 = (n : Int) from congrArg Int.ofNat hn.out]; have hn6 : (n : Int) < 256 := (by have := y2.isLt; have := hn.out; omega); have x4 : IntKind.i64.wrap (n : Int) = (n : Int) := IntWalk.i64_in _ (by omega); have D5 := Lib.hid (D4.out.call hR5 hk5); have hcnt : Hid (115 ≤ q.length → cntOf q = n) := (fun h => by unfold cntOf; rw [← hy2 (by omega)]; exact hn.out); clear hR5 hk5 D4 hy2 hn)
  | ((with_reducible change wpList _ _ _ ({ dst := none, op := Op.store 39 (.tmp 2) (.tmp 37), type := _, pos := _, after := _, guard := _ } :: _) _ _); refine wpList_store_row (o := ⟨none, _, _, _, _, _⟩) rfl 39 (.tmp 2) (.tmp 37) rfl w.heap.size Z99 rfl rfl 39 Z99 D5.out.res size99' rfl one99 ?_))
 refine bodyPost_ret (results_cell_row2 rfl _ _ w.heap.size 39 Z99 (0, 0) _ rfl (setRow_heap _ _ _ _ _ _ D5.out.res) Tryz.underlying39 rfl size99') rfl ?_
 exact ⟨_, by rw [← hk8.out, hno.out]; rfl, D5.out.end_ _, dec_no hno.out _ _⟩

set_option maxRecDepth 100000 in
set_option maxHeartbeats 4000000 in
theorem dec_main (q q1 : Text) (hq1 : Hid (q.drop 1 = q1)) (hk47 : q.length < 140737488355328) (ht : 113 ≤ q1.length ∧ okH q1 = true) (h33 : q.getD 0 0 = 33) (A : Option Addr) (c : Nat) (w : World) (hr : Reads w 1 A q.length (cells8 q)) (hnil : A = none → q.length = 0 ∧ c = 0) :
  Calls Tryz.prog 34 #[.slice A q.length c] w fun e w' => ∃ v, e = .returned (.tuple #[v, .int .i64 (if noteOk q = true then 0 else 8)]) ∧ Below w.heap.size w w' ∧ DecPost q w.heap.size w' v := by
 have hr0 : Hid (Reads (w.alloc (.cells Z99 39)) 1 A q.length (cells8 q)) := hr.alloc _
 have hb0 : Hid (Below w.heap.size w (w.alloc (.cells Z99 39))) := Below.heap_below w _
 have hZ : Hid (Blk (w.alloc (.cells Z99 39)) w.heap.size 39 Z99) := Blk.new w _ _
 have hZs : Hid ((w.alloc (.cells Z99 39)).heap.size = w.heap.size + 1) := by show _ = _; simp
 have hT : Hid (∀ w' : World, Below (w.heap.size + 1) (w.alloc (.cells Z99 39)) w' → ∀ g A' c', w.heap.size + 1 ≤ g → Rd w' g q A' c' 0 → DN0 w w' g q A' c' 0) := fun w' hb g A' c' hg hr => ⟨hr, hZ.out.kept (S := fun _ => False) (Kept.of_below (by rw [hZs.out]; exact hb)) (fun x => x), hb0.out.trans (hb.mono (Nat.le_succ _)), hg⟩
 replace hnil := Lib.hid hnil
 replace hk47 := Lib.hid hk47
 obtain ⟨yk, hyk⟩ : ∃ yk, Hid (b8 (q.getD 0 0) = yk) := ⟨_, Lib.hid rfl⟩
 clear hr
 obtain ⟨k8, hk8⟩ : ∃ k8 : Int, Hid ((if noteOk q = true then (0 : Int) else 8) = k8) := ⟨_, Lib.hid rfl⟩
 rw [hk8.out]
 obtain ⟨i0, ii, iz0, iz1, iz2⟩ := info_partsN info64
 have hX : takeOut q1 = .tuple #[.agg (headCells (headOf q1)).toArray, .bool true] := takeOut_yes ht.1 ht.2
 obtain ⟨hz, ho, hs⟩ := head_sizes (headOf_ok q1 ht.1 ht.2)
 have hl : Hid (114 ≤ q.length) := len0 hq1.out ht.1
 have hyk' : yk = 33 := by rw [← hyk.out, h33]; rfl
 subst hyk'
 have hok : Hid (okH (q.drop 1) = true) := by show _ = _; rw [hq1.out]; exact ht.2
 have hHok : Hid ((headOf q1).Ok) := headOf_ok q1 ht.1 ht.2
 have h33' : Hid (q.getD 0 0 = 33) := h33
 clear ht h33
 go_enter Tryz.func34, Tryz.ntmps34
 go_upto_region 5 with (first
  | (go_at_call 70; refine (read_any q q.length rfl hk47.out A c (w.alloc (.cells Z99 39)) hr0.out hnil.out).mono ?_; rintro e w1 ⟨g, A1, c1, rfl, hg, hb1, hR1⟩; rw [hZs.out] at hg hb1; have D1 := Lib.hid (hT.out w1 hb1 g A1 c1 hg hR1); clear hg hb1 hR1 hT hb0)
  | (go_at_call 71; refine (take1_any q hk47.out g 0 A1 c1 w1 D1.out.rd).mono ?_; rintro e w2 ⟨y1, rfl, hy1, hR2, hk2⟩; rw [hy1 (by have := hl.out; omega), hyk.out]; have D2 := Lib.hid (D1.out.call hR2 hk2); clear hR2 hk2 D1 hy1)
  | (go_at_call 72; refine (take1_at q q1 hq1 hk47.out g A1 c1 w2 D2.out.rd).mono ?_; rw [hX]; rintro e w3 ⟨rfl, hR3, hk3⟩; have D3 := Lib.hid (D2.out.call hR3 hk3); clear hR3 hk3 D2)
  | ((with_reducible change wpList _ _ _ ({ dst := none, op := Op.store 36 (.tmp 6) (.tmp 18), type := _, pos := _, after := _, guard := _ } :: _) _ _); refine wpList_store_all (o := ⟨none, _, _, _, _, _⟩) rfl 36 (.tmp 6) (.tmp 18) rfl w3.heap.size (headCells (headOf q1)).toArray rfl rfl 36 Z98 (Blk.new w3 _ _) hz.out hs.out ho.out ?_; intro w4 hB4 hk4; have D4 := Lib.hid (D3.out.head hk4 hB4.out); clear hk4 hB4 D3; generalize w3.heap.size = gh at *)
  | (go_at_call 71; refine (take1_any q hk47.out g 114 A1 c1 w4 D4.out.rd).mono ?_; rintro e w5 ⟨y2, rfl, hy2, hR5, hk5⟩; obtain ⟨n, hn⟩ : ∃ n, Hid (y2.toNat = n) := ⟨_, Lib.hid rfl⟩; rw [show b8 y2 = (n : Int) from congrArg Int.ofNat hn.out]; have hn6 : (n : Int) < 256 := (by have := y2.isLt; have := hn.out; omega); have x4 : IntKind.i64.wrap (n : Int) = (n : Int) := IntWalk.i64_in _ (by omega); have D5 := Lib.hid (D4.out.call hR5 hk5); have hcnt : Hid (115 ≤ q.length → cntOf q = n) := (fun h => by unfold cntOf; rw [← hy2 (by omega)]; exact hn.out); clear hR5 hk5 D4 hy2 hn))
 by_cases hn0 : n = 0
 ·subst hn0
  have hno : Hid (noteOk q = false) := noteOk_no (fun h => by have := hcnt.out h.1; omega)
  go_wp2_with ((with_reducible change wpList _ _ _ ({ dst := none, op := Op.store 39 (.tmp 2) (.tmp 37), type := _, pos := _, after := _, guard := _ } :: _) _ _); refine wpList_store_row (o := ⟨none, _, _, _, _, _⟩) rfl 39 (.tmp 2) (.tmp 37) rfl w.heap.size Z99 rfl rfl 39 Z99 D5.out.res size99' rfl one99 ?_)
  refine bodyPost_ret (results_cell_row2 rfl _ _ w.heap.size 39 Z99 (0, 0) _ rfl (setRow_heap _ _ _ _ _ _ D5.out.res) Tryz.underlying39 rfl size99') rfl ?_
  exact ⟨_, by rw [← hk8.out, hno.out]; rfl, D5.out.end_ _, dec_no hno.out _ _⟩
 by_cases hn16 : 16 < n
 ·have hno : Hid (noteOk q = false) := noteOk_no (fun h => by have := hcnt.out h.1; omega)
  have x5 : ((n : Int) == 0) = false := by simp; omega
  have x6 : (16 : Int) < (n : Int) := by omega
  clear hn0 hn16
  go_wp2_with ((with_reducible change wpList _ _ _ ({ dst := none, op := Op.store 39 (.tmp 2) (.tmp 37), type := _, pos := _, after := _, guard := _ } :: _) _ _); refine wpList_store_row (o := ⟨none, _, _, _, _, _⟩) rfl 39 (.tmp 2) (.tmp 37) rfl w.heap.size Z99 rfl rfl 39 Z99 D5.out.res size99' rfl one99 ?_)
  refine bodyPost_ret (results_cell_row2 rfl _ _ w.heap.size 39 Z99 (0, 0) _ rfl (setRow_heap _ _ _ _ _ _ D5.out.res) Tryz.underlying39 rfl size99') rfl ?_
  exact ⟨_, by rw [← hk8.out, hno.out]; rfl, D5.out.end_ _, dec_no hno.out _ _⟩
 have x5 : ((n : Int) == 0) = false := by simp; omega
 have x6 : ((16 : Int) < (n : Int)) = False := eq_false (by omega)
 have hn1 : Hid (1 ≤ n) := by show _ ≤ _; omega
 have hnL : Hid (n ≤ 16) := by show _ ≤ _; omega
 have b2 : Hid (i0.bytes * n ≤ 281474976710656) := by show _ ≤ _; rw [iz2]; omega
 have b3 : Hid (n ≤ maxLen) := by show _ ≤ _; unfold maxLen; omega
 clear hn0 hn16
 go_wp2_with (at_make; refine wpList_make_full _ rfl (.tmp 38) (.tmp 38) 37 rfl w5.heap.size 56 i0 (.agg Z64) 64 Tryz.underlying37 ii iz0 iz1 .i64 .i64 (n : Int) (n : Int) n rfl rfl rfl rfl b2.out b3.out (Nat.le_refl _) ?_; intro w6 hown hgrow; rw [made64, ← flat_zero] at hown; have hG6 : Hid (RowS w6 w5.heap.size (List.replicate n z64)) := ownBlkS hown; have hb6 : Hid (Below w5.heap.size w5 w6) := (Below.refl _ _).grown hgrow (Nat.le_refl _) (fun _ e => by cases e); have D6 := Lib.hid (D5.out.far hb6.out); have hgs1 : Hid (w.heap.size < w5.heap.size ∧ g ≠ w5.heap.size ∧ gh ≠ w5.heap.size ∧ (0 < q.length → ∀ a, A1 = some a → a.block < w5.heap.size)) := ⟨by have := D5.out.res.lt; omega, by have := D5.out.rd.lt; omega, by have := D5.out.head.lt; omega, D5.out.rd.old⟩; clear hown hgrow hb6 D5; generalize w5.heap.size = gs at *)
 go_loopw [42] (fun v wr => ∃ (i : Nat) (r : List Text), v = .int .i64 (i : Int) ∧ Hid (i ≤ n) ∧ Hid (r.length = n) ∧ Hid (Sns r) ∧ Hid (∀ j, j < i → 115 + 64 * (j + 1) ≤ q.length → r[j]? = some (signAt q j)) ∧ Hid (RowS wr gs r) ∧ Hid (DN w wr g gh q A1 c1 (115 + 64 * i) (headCells (headOf q1)).toArray)) (fun v _ => n - (intOf v).toNat)
 case atStart => exact ⟨0, List.replicate n z64, rfl, Nat.zero_le _, List.length_replicate, Sns.rep n z64_len, (fun j hj => absurd hj (Nat.not_lt_zero j)), hG6.out, D6.out⟩
 case round =>
  clear hG6 D6
  obtain ⟨i, r, rfl, hin, hrl, hrs, hrj, hGi, Di⟩ := hrel
  have hi6 : (i : Int) ≤ 16 := by have := hin.out; have := hnL.out; omega
  by_cases hlt : i < n
  ·have hz1 : (i : Int) < (n : Int) := by omega
   have hz0 : (0 : Int) ≤ (i : Int) := by omega
   have hlt' := Lib.hid hlt
   clear hlt
   go_wp2_with (first
    | (go_at_call 73; refine (digest_any q hk47.out g (115 + 64 * i) A1 c1 wr Di.out.rd).mono ?_; rintro e w7 ⟨d1, rfl, hd1, he1, hR7, hk7⟩; have D7 := Lib.hid (Di.out.call hR7 hk7); have hG7 := Lib.hid (hGi.out.kept hk7 (by have := hgs1.out.2.1; omega)); replace hd1 := Lib.hid hd1; replace he1 := Lib.hid he1; clear hR7 hk7 Di hGi)
    | (go_at_call 73; refine (digest_any q hk47.out g (115 + 64 * i + 32) A1 c1 w7 D7.out.rd).mono ?_; rintro e w8 ⟨d2, rfl, hd2, he2, hR8, hk8⟩; have D8 := Lib.hid (D7.out.call hR8 hk8); have hG8 := Lib.hid (hG7.out.kept hk8 (by have := hgs1.out.2.1; omega)); replace hd2 := Lib.hid hd2; replace he2 := Lib.hid he2; have hx64 : Hid ((d1 ++ d2).length = 64) := (by show _ = _; rw [List.length_append, hd1.out, hd2.out]); obtain ⟨x, hx⟩ : ∃ x, Hid (d1 ++ d2 = x) := ⟨_, Lib.hid rfl⟩; have hbs := Lib.hid (fun w' : World => run_signT d1 d2 hd1.out hd2.out w'); rw [hx.out] at hbs hx64; clear hR8 hk8 D7 hG7)
    | ((with_reducible change wpList _ _ _ (⟨some 51, _, _, _, _, _⟩ :: _) _ _); refine wpList_buildF (o := ⟨some 51, _, _, _, _, _⟩) rfl 56 #[(0, .tmp 48), (1, .tmp 50)] rfl #[(0, .agg (cells8 d1).toArray), (1, .agg (cells8 d2).toArray)] (by simp; exact ⟨rfl, rfl⟩) _ (hbs.out w8) ?_)
    | ((with_reducible change wpList _ _ _ ({ dst := none, op := Op.store 56 (.tmp 52) (.tmp 51), type := _, pos := _, after := _, guard := _ } :: _) _ _); refine wpList_store_at (o := ⟨none, _, _, _, _, _⟩) rfl 56 (.tmp 52) (.tmp 51) rfl gs (i * 64) (cells8 x) rfl rfl 56 (r.flatMap cells8).toArray hG8.out (size64.trans (congrArg some (by rw [cells8_len, hx64.out]))) (row_fit hrs.out hrl.out hlt'.out hx64.out) (cells8_one _) ?_; intro w9 hb9 hk9; rw [splice_set r hrs.out i (by rw [hrl.out]; exact hlt'.out) x hx64.out] at hb9; have D9 := Lib.hid (D8.out.off hk9 hgs1.out.1 hgs1.out.2.1 hgs1.out.2.2.1 hgs1.out.2.2.2); replace hb9 : Hid (RowS w9 gs (r.set i x)) := hb9; clear hk9 D8 hG8))
   have hnx : Hid (∀ j, j < i + 1 → 115 + 64 * (j + 1) ≤ q.length → (r.set i x)[j]? = some (signAt q j)) := fun j hj hL => by
    rw [List.getElem?_set]
    by_cases e : i = j
    ·subst e
     rw [if_pos rfl, if_pos (by rw [hrl.out]; exact hlt'.out), ← hx.out, he1.out (by omega), he2.out (by omega), sign_parts]
    ·rw [if_neg e]
     exact hrj.out j (by omega) hL
   have hnd : Hid (115 + 64 * i + 32 + 32 = 115 + 64 * (i + 1)) := by show _ = _; omega
   rw [hnd.out] at D9
   go_roundw
   case rel => exact ⟨i + 1, r.set i x, by go_num, hlt'.out, (by rw [List.length_set]; exact hrl.out), Sns.set_ hrs.out i hx64.out, hnx.out, hb9.out, D9.out⟩
   case measure => (have := hlt'.out; simp [intOf]; omega)
  ·have hz1 : ¬ ((i : Int) < (n : Int)) := by omega
   have hin' : i = n := by have := hin.out; omega
   subst hin'
   clear hlt
   by_cases hL : 115 + 64 * i = q.length
   ·have hDn : Hid (doneOf (115 + 64 * i) q.length = 0) := if_pos hL
    have hr9 : Hid (r = signsOf q i) := signs_ext hrl.out (fun j hj => hrj.out j hj (by omega))
    have hc9 : Hid (cntOf q = i) := hcnt.out (by omega)
    have hL' := Lib.hid hL
    clear hL hrj
    cases hri : riseB (ky := kyS) r with
    | true =>
     have hri' : Hid (riseB (ky := kyS) r = true) := hri
     have hyes : Hid (noteOk q = true) := noteOk_mk ⟨by have := hL'.out; omega, h33'.out, hok.out, by rw [hc9.out]; exact hn1.out, by rw [hc9.out]; exact hnL.out, by rw [hc9.out]; exact hL'.out.symm, by rw [hc9.out, ← hr9.out]; exact hri'.out⟩
     have hbn := Lib.hid (fun w' : World => run_note hHok.out (some ⟨gs, 0, none⟩) i i w')
     have hzN := Lib.hid (note_size hHok.out (.slice (some ⟨gs, 0, none⟩) i i))
     have hoN := Lib.hid (note_one (h := headOf q1) (some ⟨gs, 0, none⟩) i i)
     have hsN := Lib.hid (note_zero hHok.out (.slice (some ⟨gs, 0, none⟩) i i))
     clear hri
     go_wp2_with (first
      | (go_at_call 74; refine (done_any q hk47.out g (115 + 64 * i) A1 c1 wr Di.out.rd).mono ?_; rw [hDn.out]; rintro e w7 ⟨rfl, m7, rfl⟩; have D7 := Lib.hid (Di.out.far (below_drawn (Below.refl _ wr) m7)); have hS7 := Lib.hid (hGi.out.below (below_drawn (Below.refl _ wr) m7)); clear Di hGi)
      | (go_at_call 75; refine (rise_any r i (by omega) _ i (wr.drewN m7) (by have := hS7.out.rd hrs.out; rw [hrl.out] at this; exact this)).mono ?_; rintro e w8 ⟨rfl, hb8⟩; have D8 := Lib.hid (D7.out.far hb8); have hS8 := Lib.hid (hS7.out.below hb8); rw [hri'.out]; clear hb8 D7 hS7)
      | (((with_reducible change wpList _ _ _ (⟨some 63, _, _, _, _, _⟩ :: _) _ _); refine wpList_load_row (o := ⟨some 63, _, _, _, _, _⟩) rfl 36 (.tmp 6) rfl (gh) rfl 36 ((headCells (headOf q1)).toArray) (0, 0) _ D8.out.head Tryz.underlying36 rfl hz.out ?_))
      | ((with_reducible change wpList _ _ _ (⟨some 65, _, _, _, _, _⟩ :: _) _ _); refine wpList_buildF (o := ⟨some 65, _, _, _, _, _⟩) rfl 39 #[(0, .tmp 63), (1, .tmp 64)] rfl #[(0, .agg (headCells (headOf q1)).toArray), (1, .slice (some ⟨gs, 0, none⟩) i i)] (by simp; exact ⟨rfl, rfl⟩) _ (hbn.out _) ?_)
      | ((with_reducible change wpList _ _ _ ({ dst := none, op := Op.store 39 (.tmp 2) (.tmp 65), type := _, pos := _, after := _, guard := _ } :: _) _ _); refine wpList_store_row (o := ⟨none, _, _, _, _, _⟩) rfl 39 (.tmp 2) (.tmp 65) rfl w.heap.size (noteCells (headOf q1) (.slice (some ⟨gs, 0, none⟩) i i)).toArray rfl rfl 39 Z99 D8.out.res hzN.out hsN.out hoN.out ?_))
     refine bodyPost_ret (results_cell_row2 rfl _ _ w.heap.size 39 (noteCells (headOf q1) (.slice (some ⟨gs, 0, none⟩) i i)).toArray (0, 0) _ rfl (setRow_heap _ _ _ _ _ _ D8.out.res) Tryz.underlying39 rfl hzN.out) rfl ?_
     refine ⟨_, by rw [← hk8.out, hyes.out]; rfl, D8.out.end_ _, ?_⟩
     have e1 := hq1.out
     subst e1
     refine dec_yes hyes.out _ _ i hc9.out _ i (Nat.le_refl _) (fun e => by cases e) ?_ (fun a e => by injection e with e; subst e; exact Nat.le_of_lt hgs1.out.1)
     have hS9 := (hS8.out.kept (Bytes.Kept.setRow (S := (· = w.heap.size)) (Kept.refl _ w8) rfl (noteCells (headOf (q.drop 1)) (.slice (some ⟨gs, 0, none⟩) i i)).toArray) (by have := hgs1.out.1; omega)).rd hrs.out
     rw [hrl.out] at hS9
     rw [← hr9.out]
     exact hS9
    | false =>
     have hri' : Hid (riseB (ky := kyS) r = false) := hri
     have hno : Hid (noteOk q = false) := noteOk_no (fun h => by have h7 := h.2.2.2.2.2.2; rw [hc9.out, ← hr9.out, hri'.out] at h7; cases h7)
     clear hri
     go_wp2_with (first
      | (go_at_call 74; refine (done_any q hk47.out g (115 + 64 * i) A1 c1 wr Di.out.rd).mono ?_; rw [hDn.out]; rintro e w7 ⟨rfl, m7, rfl⟩; have D7 := Lib.hid (Di.out.far (below_drawn (Below.refl _ wr) m7)); have hS7 := Lib.hid (hGi.out.below (below_drawn (Below.refl _ wr) m7)); clear Di hGi)
      | (go_at_call 75; refine (rise_any r i (by omega) _ i (wr.drewN m7) (by have := hS7.out.rd hrs.out; rw [hrl.out] at this; exact this)).mono ?_; rintro e w8 ⟨rfl, hb8⟩; have D8 := Lib.hid (D7.out.far hb8); have hS8 := Lib.hid (hS7.out.below hb8); rw [hri'.out]; clear hb8 D7 hS7)
      | ((with_reducible change wpList _ _ _ ({ dst := none, op := Op.store 39 (.tmp 2) (.tmp 62), type := _, pos := _, after := _, guard := _ } :: _) _ _); refine wpList_store_row (o := ⟨none, _, _, _, _, _⟩) rfl 39 (.tmp 2) (.tmp 62) rfl w.heap.size Z99 rfl rfl 39 Z99 D8.out.res size99' rfl one99 ?_))
     refine bodyPost_ret (results_cell_row2 rfl _ _ w.heap.size 39 Z99 (0, 0) _ rfl (setRow_heap _ _ _ _ _ _ D8.out.res) Tryz.underlying39 rfl size99') rfl ?_
     exact ⟨_, by rw [← hk8.out, hno.out]; rfl, D8.out.end_ _, dec_no hno.out _ _⟩
   ·have hDn : Hid (doneOf (115 + 64 * i) q.length = 8) := if_neg hL
    have hno : Hid (noteOk q = false) := noteOk_no (fun h => hL (by have := hcnt.out h.1; have := h.2.2.2.2.2.1; omega))
    clear hL hrj
    go_wp2_with (first
     | (go_at_call 74; refine (done_any q hk47.out g (115 + 64 * i) A1 c1 wr Di.out.rd).mono ?_; rw [hDn.out]; rintro e w7 ⟨rfl, m7, rfl⟩; have D7 := Lib.hid (Di.out.far (below_drawn (Below.refl _ wr) m7)); have hS7 := Lib.hid (hGi.out.below (below_drawn (Below.refl _ wr) m7)); clear Di hGi)
     | ((with_reducible change wpList _ _ _ ({ dst := none, op := Op.store 39 (.tmp 2) (.tmp 62), type := _, pos := _, after := _, guard := _ } :: _) _ _); refine wpList_store_row (o := ⟨none, _, _, _, _, _⟩) rfl 39 (.tmp 2) (.tmp 62) rfl w.heap.size Z99 rfl rfl 39 Z99 D7.out.res size99' rfl one99 ?_))
    refine bodyPost_ret (results_cell_row2 rfl _ _ w.heap.size 39 Z99 (0, 0) _ rfl (setRow_heap _ _ _ _ _ _ D7.out.res) Tryz.underlying39 rfl size99') rfl ?_
    exact ⟨_, by rw [← hk8.out, hno.out]; rfl, D7.out.end_ _, dec_no hno.out _ _⟩

theorem decnote_any (q : Text) (k : Nat) (hk : q.length = k) (hk47 : k < 140737488355328) (A : Option Addr) (c : Nat) (w : World) (hr : Reads w 1 A k (cells8 q)) (hnil : A = none → k = 0 ∧ c = 0) :
  Calls Tryz.prog 34 #[.slice A k c] w fun e w' => ∃ v, e = .returned (.tuple #[v, .int .i64 (if noteOk q = true then 0 else 8)]) ∧ Below w.heap.size w w' ∧ DecPost q w.heap.size w' v := by
 subst hk
 by_cases ht : 113 ≤ (q.drop 1).length ∧ okH (q.drop 1) = true
 ·by_cases h33 : q.getD 0 0 = 33
  ·exact dec_main q (q.drop 1) rfl hk47 ht h33 A c w hr hnil
  ·exact dec_kind q (q.drop 1) rfl hk47 ht h33 A c w hr hnil
 ·exact dec_bad q (q.drop 1) rfl hk47 ht A c w hr hnil
end Go.Proofs.YtfbhjoejffagjaaGreatDoor.DecNote
