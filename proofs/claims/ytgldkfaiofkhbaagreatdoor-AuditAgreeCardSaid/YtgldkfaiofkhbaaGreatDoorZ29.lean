/-
  Texts of the claim, put into one file: Rising, EncNote, NoteM, RefNote, Rising0, SameN20, Law20b.
-/
import Derived.Test.YtgldkfaiofkhbaaGreatDoorZ28
import Derived.Test.YtgldkfaiofkhbaaGreatDoorShelf
import Derived.Test.YtgldkfaiofkhbaaGreatDoorZ24
import Derived.Deep.Cut
import Derived.Test.YtgldkfaiofkhbaaGreatDoorZ25
import Derived.Test.YtgldkfaiofkhbaaGreatDoorZ3
import Derived.LoopN
import Derived.Test.YtgldkfaiofkhbaaGreatDoorZ12
import Derived.Test.YtgldkfaiofkhbaaGreatDoorZ18

namespace Go.Proofs.YtgldkfaiofkhbaaGreatDoor.Rising
open Go Go.RowKit Go.Proofs.YtgldkfaiofkhbaaGreatDoor Mem Sha Bytes SortP NoteP Rise SortM Go.Proofs.YtgldkfaiofkhbaaGreatDoor.Append Own SgM

theorem sorted_riseB {l d : List Text} (hp : d.Perm l) (hs : d.Pairwise fun a b => lex (kyS b) (kyS a) = false) : rising kyS l = if riseB (ky := kyS) d = true then some d else none := by
 have h := sorted_rising (ky := kyS) hp hs
 by_cases hr : riseB (ky := kyS) d = true
 ·rw [if_pos hr, h, if_pos]
  exact (hp.pairwise_iff (R := fun a b => kyS a ≠ kyS b) (fun hab => fun e => hab e.symm)).1 ((riseB_iff.1 hr).imp fun hab => lex_ne hab)
 ·rw [if_neg hr]
  cases hq : rising kyS l with
  | none => rfl
  | some r =>
   exfalso
   rw [hq] at h
   by_cases hd : l.Pairwise (fun a b => kyS a ≠ kyS b)
   ·rw [if_pos hd] at h
    obtain rfl : r = d := Option.some.inj h
    exact hr (riseB_iff.2 (rising_some hq).1)
   ·rw [if_neg hd] at h
    cases h
set_option maxRecDepth 100000 in
theorem sort_own (ss : List Text) (n B g c : Nat) (hn47 : n ≤ 2199023255552) (w : World) (h : OwnS w B (.slice (some ⟨g, 0, none⟩) n c) n ss) (hB : B ≤ w.heap.size) :
  Calls Tryz.prog 211 #[.slice (some ⟨g, 0, none⟩) n c, .func (.func 212) #[] #[]] w fun e w' => e = .returned (.tuple #[]) ∧ ∃ ds : List Text, Hid (rising kyS ss = if riseB (ky := kyS) ds = true then some ds else none) ∧ Hid (OwnS w' B (.slice (some ⟨g, 0, none⟩) n c) n ds) ∧ Hid (Below B w w') := by
 have hg : g < w.heap.size ∧ B ≤ g := by
  rcases h.2.2.2 with ⟨h2, -⟩ | ⟨g2, c2, cur, h2, hB, hg, -⟩
  ·cases h2
  ·injection h2 with h3
   injection h3 with h3
   injection h3 with h3
   subst h3
   exact ⟨(Array.getElem?_eq_some_iff.1 hg).1, hB⟩
 have eg : ∀ args w, (callFunc 212 args).run Tryz.prog w = .ok (.enter 212 args) w := enters_of Tryz.func212 (by kernel_rfl) rfl
 have hsn : ∀ t ∈ ss, t.length = 64 := h.1
 have hsz : (arr ss hsn).size = n := (arr_size ss hsn).trans h.2.1
 have hcon := AnyQ.slices_SortFunc Tryz.sortSigns 64 (fun _ => rfl) (fun _ => rfl) enc enc_len enc_one cfS swo 212 #[] g 0 c (arr ss hsn) w eg (byKey_lays g 0 _ w) (holds_own hsn h.2.2) hg.1 (by rw [hsz]; omega)
 simp only [hsz] at hcon
 change Calls _ 211 _ _ _ at hcon
 refine hcon.mono fun e w' ⟨he, d', k, os, hp, hs, hw⟩ => ?_
 have hp' : Sort.PermIn 0 (arr ss hsn).size (arr ss hsn) d' := by rw [hsz]; exact hp
 have hs' : Sort.SortedIn (ltOf cfS) 0 (arr ss hsn).size d' := by rw [hsz]; exact hs
 obtain ⟨h1, h2, h3⟩ := sorted_vals hp' hs'
 rw [arr_vals] at h2
 refine ⟨he, vals d', sorted_riseB h2 h3, ?_, ?_⟩
 ·show OwnS w' _ _ _ _
  rw [hw]
  refine ⟨vals_all d', by rw [h1, hsz], own_sorted h.2.2 k d' (by rw [← vals_len, h1, hsz]) os⟩
 ·show Below B w w'
  rw [hw]
  exact below_sorted hg.2 hB k d' os
set_option maxRecDepth 100000 in
set_option maxHeartbeats 1000000 in
theorem rising_any (ss : List Text) (n : Nat) (hn0 : 0 < n) (hn47 : n ≤ 2199023255552) (A : Option Addr) (c : Nat) (w : World) (h : Sgs w A n ss) :
  Calls Tryz.prog 126 #[.slice A n c] w fun e w' => ∃ (g c' : Nat) (ds : List Text), e = .returned (.tuple #[.slice (some ⟨g, 0, none⟩) n c', .bool (riseB (ky := kyS) ds)]) ∧ Hid (rising kyS ss = if riseB (ky := kyS) ds = true then some ds else none) ∧ Hid (OwnS w' w.heap.size (.slice (some ⟨g, 0, none⟩) n c') n ds) ∧ Hid (Below w.heap.size w w') := by
 obtain ⟨i0, ii, iz0, iz1, iz2⟩ := info_partsN info64
 obtain ⟨b0, o0, rfl, -, -⟩ := h.rd.2 (by omega)
 have hx0 := Lib.hid h.rd
 have hall : Hid (Sns ss) := h.all
 have hlen : Hid (ss.length = n) := h.len
 have hc1 : Hid (0 + n ≤ maxLen) := by show _ ≤ _; unfold maxLen; omega
 have hc2 : Hid ((0 + n) * 64 ≤ 140737488355328) := by show _ ≤ _; omega
 have hn47' := Lib.hid hn47
 have hn0' := Lib.hid hn0
 clear h hn0 hn47
 go_enter Tryz.func126, Tryz.ntmps126
 go_wp2_with (first
  | (at_builtin; refine wpList_append_src _ rfl (.const (.slice none 0 0)) (.tmp 5) 37 rfl w.heap.size 57 i0 (.agg Z64) 64 64 Tryz.underlying37 ii iz0 iz1 iz2 rfl (by decide) (.slice none 0 0) 0 [] rfl (World.ownsRow_nil _ _ _ _) (some ⟨b0, o0, none⟩) n c (ss.flatMap cells8) rfl hx0.out (fun e => by cases e) (one_signs ss) hc1.out hc2.out (Nat.le_refl _) ?_; intro v1 w1 hG; have hOB := Lib.hid (grew_signs (xs := []) hG (Below.refl _ w) (Nat.le_refl _) (OwnS.nil w _) hall.out hlen.out); rw [Nat.zero_add, List.nil_append] at hOB; obtain ⟨A1, c1, rfl, -, -, hnil1, -, -⟩ := OwnS.reads hOB.out.1; obtain ⟨g1, rfl⟩ := own_some hOB.out.1 hn0'.out; clear hG)
  | (go_at_call 211; refine (sort_own ss n w.heap.size g1 c1 hn47'.out w1 hOB.out.1 hOB.out.2.size).mono ?_; rintro e w2 ⟨rfl, ds, hri, hO2, hb2⟩; obtain ⟨A2, c2, e2, -, -, -, hS2, -⟩ := OwnS.reads hO2.out; injection e2 with e2 _ e3; subst e2 e3; replace hS2 := Lib.hid hS2)
  | (go_at_call 213; refine (rise_any ds n (by have := hn47'.out; omega) _ c1 w2 hS2.out).mono ?_; rintro e w3 ⟨rfl, hb3⟩))
 go_ret2
 exact ⟨g1, c1, ds, rfl, hri, hO2.out.below hb3, (hOB.out.2.trans hb2.out).trans (hb3.mono (by have := hOB.out.2.size; have := hb2.out.size; omega))⟩
end Go.Proofs.YtgldkfaiofkhbaaGreatDoor.Rising

namespace Go.Proofs.YtgldkfaiofkhbaaGreatDoor.EncNote
open Go Go.RowKit Go.Proofs.YtgldkfaiofkhbaaGreatDoor Mem Sha Bytes SortP NoteP Rise SortM Go.Proofs.YtgldkfaiofkhbaaGreatDoor.Append Own SgM EncNoteP Rising Octet Octet2 HeadMem

def noteCells (h : HeadD) (v : Value) : List Value := headCells h ++ [v]
theorem noteCells_len {h : HeadD} (ok : h.Ok) (v : Value) : (noteCells h v).length = 99 := by unfold noteCells; rw [List.length_append, headCells_len ok]; rfl
theorem noteCells_head {h : HeadD} (v : Value) (j : Nat) (u : Value) (hu : (headCells h)[j]? = some u) : (noteCells h v)[0 + j]? = some u := by
 unfold noteCells
 rw [Nat.zero_add, List.getElem?_append_left (List.getElem?_eq_some_iff.1 hu).1]
 exact hu
theorem noteCells_row {h : HeadD} (ok : h.Ok) (v : Value) : (noteCells h v)[98]? = some v := by
 unfold noteCells
 rw [List.getElem?_append_right (by rw [headCells_len ok]; exact Nat.le_refl _), headCells_len ok]
 rfl
theorem head_from {w0 w : World} {g : Nat} {r : Option Nat} {l : Text} (h : HeadD) (ok : h.Ok) (hr : rightB h = true) (hl : l.length + 113 ≤ 140737488355328) (hW : Wrote w0 g r l w) :
  Calls Tryz.prog 210 #[.pointer (some ⟨g, 0, none⟩), .agg (headCells h).toArray] w fun e w' => e = .returned (.tuple #[]) ∧ Wrote w0 g r (l ++ headBytes h) w' := by
 obtain ⟨r1, h1, k1, c1⟩ := hW
 exact (lay_any h ok hr g r1 l w hl h1).mono fun e w' ⟨he, hx⟩ => ⟨he, Wrote.trans1 k1 c1 hx⟩
theorem all_from {w0 w : World} {g : Nat} {r : Option Nat} {l : Text} (hl : l.length ≤ 140737488355328) (hW : Wrote w0 g r l w) :
  Calls Tryz.prog 133 #[.pointer (some ⟨g, 0, none⟩)] w fun e w' => ∃ v, e = .returned v ∧ Below w.heap.size w w' ∧ w'.ownsRow w.heap.size 5 1 v l.length (cells8 l) := by
 obtain ⟨r1, h1, k1, c1⟩ := hW
 exact all_any g r1 l w hl h1
theorem none_no {α : Type} {b : Bool} {d : α} (h : none = if b = true then some d else none) : b = false := by
 cases b with
 | false => rfl
 | true => cases h
theorem some_yes {α : Type} {b : Bool} {r d : α} (h : some r = if b = true then some d else none) : b = true ∧ r = d := by
 cases b with
 | false => cases h
 | true => exact ⟨rfl, Option.some.inj h⟩
structure NoteAt (w : World) (g : Nat) (h : HeadD) (A : Option Addr) (n c : Nat) (ss : List Text) : Prop where
 blk : Blk w g 39 (noteCells h (.slice A n c)).toArray
 sgs : Sgs w A n ss
theorem NoteAt.below {w w' : World} {g n c : Nat} {h : HeadD} {A : Option Addr} {ss : List Text} (k : NoteAt w g h A n c ss) (hb : Below w.heap.size w w') : NoteAt w' g h A n c ss := ⟨(hb.block g k.blk.lt).trans k.blk, k.sgs.below hb⟩
theorem NoteAt.head {w : World} {g n c : Nat} {h : HeadD} {A : Option Addr} {ss : List Text} (k : NoteAt w g h A n c ss) (j : Nat) (u : Value) (hu : (headCells h)[j]? = some u) : w.cell? ⟨g, 0 + j, none⟩ = some u := by
 rw [k.blk.cell (0 + j), List.getElem?_toArray]
 exact noteCells_head _ j u hu
theorem NoteAt.row {w : World} {g n c : Nat} {h : HeadD} {A : Option Addr} {ss : List Text} (k : NoteAt w g h A n c ss) (ok : h.Ok) : w.cell? ⟨g, 98, none⟩ = some (.slice A n c) := by
 rw [k.blk.cell 98, List.getElem?_toArray]
 exact noteCells_row ok _
theorem NoteAt.new {w : World} {n c : Nat} {h : HeadD} {A : Option Addr} {ss : List Text} (k : Sgs w A n ss) : NoteAt (w.alloc (.cells (noteCells h (.slice A n c)).toArray 39)) w.heap.size h A n c ss := ⟨Blk.new _ _ _, k.below (Below.heap_below w _)⟩
theorem len_note (h : HeadD) (ok : h.Ok) {ds : List Text} (hd : Sns ds) {n i : Nat} (hn : ds.length = n) (hi : i ≤ n) : ([] ++ [33] ++ headBytes h ++ [BitVec.ofNat 8 n] ++ (ds.take i).flatten).length = 115 + 64 * i := by
 simp only [List.length_append, List.length_nil, List.length_singleton, headBytes_len ok]
 rw [flatten_len (Sns.take_ hd i), List.length_take]
 omega
theorem b8_cnt {n : Nat} (h : n ≤ 16) : b8 (BitVec.ofNat 8 n) = (n : Int) := by
 unfold b8
 simp
 omega

set_option maxRecDepth 100000 in
set_option maxHeartbeats 2000000 in
theorem enc_wrong (h : HeadD) (ok : h.Ok) (ss : List Text) (n : Nat) (hrB : Hid (rightB h = false)) (A : Option Addr) (c : Nat) (w : World) (hS : Sgs w A n ss) :
  Calls Tryz.prog 125 #[.agg (noteCells h (.slice A n c)).toArray] w fun e w' => e = .returned (.tuple #[.slice none 0 0, .int .i64 1]) ∧ Below w.heap.size w w' := by
 have hb0 : Hid (Below w.heap.size w (w.alloc (.cells (noteCells h (.slice A n c)).toArray 39))) := Below.heap_below w _
 have hN0 : Hid (NoteAt (w.alloc (.cells (noteCells h (.slice A n c)).toArray 39)) w.heap.size h A n c ss) := NoteAt.new hS
 have hsz : Hid ((Tryz.prog.info? 36).map (·.size) = some (headCells h).length) := by show _ = _; rw [headCells_len ok]; exact size98
 have hz : Hid ((w.alloc (.cells (noteCells h (.slice A n c)).toArray 39)).heap.size = w.heap.size + 1) := by show _ = _; simp
 have hR0 : (w.alloc (.cells (noteCells h (.slice A n c)).toArray 39)).cell? ⟨w.heap.size, 98, none⟩ = some (.slice A n c) := hN0.out.row ok
 have ok' := Lib.hid ok
 clear ok hS
 go_enter Tryz.func125, Tryz.ntmps125
 go_wp2_with (first
  | (((with_reducible change wpList _ _ _ (⟨some 10, _, _, _, _, _⟩ :: _) _ _); refine wpList_load_part (o := ⟨some 10, _, _, _, _, _⟩) rfl 36 (.tmp 9) rfl (w.heap.size) (0) rfl (headCells h) _ hN0.out.head Tryz.underlying36 rfl hsz.out ?_))
  | (go_at_call 209; refine (right_any h ok'.out _).mono ?_; rw [hrB.out]; rintro e w2 ⟨rfl, hb2⟩; have hN2 := Lib.hid (hN0.out.below hb2); have hR2 := hN2.out.row ok'.out; have hbb : Hid (Below w.heap.size w w2) := hb0.out.trans (hb2.mono (by rw [hz.out]; omega)); clear hb2))
 go_ret2
 exact ⟨rfl, hbb.out⟩

set_option maxRecDepth 100000 in
set_option maxHeartbeats 2000000 in
theorem enc_none (h : HeadD) (ok : h.Ok) (ss : List Text) (n : Nat) (hrB : Hid (rightB h = true)) (h0 : n = 0) (A : Option Addr) (c : Nat) (w : World) (hS : Sgs w A n ss) :
  Calls Tryz.prog 125 #[.agg (noteCells h (.slice A n c)).toArray] w fun e w' => e = .returned (.tuple #[.slice none 0 0, .int .i64 7]) ∧ Below w.heap.size w w' := by
 have hb0 : Hid (Below w.heap.size w (w.alloc (.cells (noteCells h (.slice A n c)).toArray 39))) := Below.heap_below w _
 have hN0 : Hid (NoteAt (w.alloc (.cells (noteCells h (.slice A n c)).toArray 39)) w.heap.size h A n c ss) := NoteAt.new hS
 have hsz : Hid ((Tryz.prog.info? 36).map (·.size) = some (headCells h).length) := by show _ = _; rw [headCells_len ok]; exact size98
 have hz : Hid ((w.alloc (.cells (noteCells h (.slice A n c)).toArray 39)).heap.size = w.heap.size + 1) := by show _ = _; simp
 have hR0 : (w.alloc (.cells (noteCells h (.slice A n c)).toArray 39)).cell? ⟨w.heap.size, 98, none⟩ = some (.slice A n c) := hN0.out.row ok
 have ok' := Lib.hid ok
 clear ok hS
 subst h0
 go_enter Tryz.func125, Tryz.ntmps125
 go_wp2_with (first
  | (((with_reducible change wpList _ _ _ (⟨some 10, _, _, _, _, _⟩ :: _) _ _); refine wpList_load_part (o := ⟨some 10, _, _, _, _, _⟩) rfl 36 (.tmp 9) rfl (w.heap.size) (0) rfl (headCells h) _ hN0.out.head Tryz.underlying36 rfl hsz.out ?_))
  | (go_at_call 209; refine (right_any h ok'.out _).mono ?_; rw [hrB.out]; rintro e w2 ⟨rfl, hb2⟩; have hN2 := Lib.hid (hN0.out.below hb2); have hR2 := hN2.out.row ok'.out; have hbb : Hid (Below w.heap.size w w2) := hb0.out.trans (hb2.mono (by rw [hz.out]; omega)); clear hb2))
 go_ret2
 exact ⟨rfl, hbb.out⟩

set_option maxRecDepth 100000 in
set_option maxHeartbeats 2000000 in
theorem enc_many (h : HeadD) (ok : h.Ok) (ss : List Text) (n : Nat) (hrB : Hid (rightB h = true)) (h16 : 16 < n) (A : Option Addr) (c : Nat) (w : World) (hS : Sgs w A n ss) :
  Calls Tryz.prog 125 #[.agg (noteCells h (.slice A n c)).toArray] w fun e w' => e = .returned (.tuple #[.slice none 0 0, .int .i64 7]) ∧ Below w.heap.size w w' := by
 have hb0 : Hid (Below w.heap.size w (w.alloc (.cells (noteCells h (.slice A n c)).toArray 39))) := Below.heap_below w _
 have hN0 : Hid (NoteAt (w.alloc (.cells (noteCells h (.slice A n c)).toArray 39)) w.heap.size h A n c ss) := NoteAt.new hS
 have hsz : Hid ((Tryz.prog.info? 36).map (·.size) = some (headCells h).length) := by show _ = _; rw [headCells_len ok]; exact size98
 have hz : Hid ((w.alloc (.cells (noteCells h (.slice A n c)).toArray 39)).heap.size = w.heap.size + 1) := by show _ = _; simp
 have hR0 : (w.alloc (.cells (noteCells h (.slice A n c)).toArray 39)).cell? ⟨w.heap.size, 98, none⟩ = some (.slice A n c) := hN0.out.row ok
 have ok' := Lib.hid ok
 clear ok hS
 have x1 : ¬ ((n : Int) = 0) := by omega
 have x2 : (16 : Int) < (n : Int) := by omega
 clear h16
 go_enter Tryz.func125, Tryz.ntmps125
 go_wp2_with (first
  | (((with_reducible change wpList _ _ _ (⟨some 10, _, _, _, _, _⟩ :: _) _ _); refine wpList_load_part (o := ⟨some 10, _, _, _, _, _⟩) rfl 36 (.tmp 9) rfl (w.heap.size) (0) rfl (headCells h) _ hN0.out.head Tryz.underlying36 rfl hsz.out ?_))
  | (go_at_call 209; refine (right_any h ok'.out _).mono ?_; rw [hrB.out]; rintro e w2 ⟨rfl, hb2⟩; have hN2 := Lib.hid (hN0.out.below hb2); have hR2 := hN2.out.row ok'.out; have hbb : Hid (Below w.heap.size w w2) := hb0.out.trans (hb2.mono (by rw [hz.out]; omega)); clear hb2))
 go_ret2
 exact ⟨rfl, hbb.out⟩

set_option maxRecDepth 100000 in
set_option maxHeartbeats 2000000 in
theorem enc_twice (h : HeadD) (ok : h.Ok) (ss : List Text) (n : Nat) (hrB : Hid (rightB h = true)) (h0 : 0 < n) (h16 : n ≤ 16) (hri0 : Hid (rising kyS ss = none)) (A : Option Addr) (c : Nat) (w : World) (hS : Sgs w A n ss) :
  Calls Tryz.prog 125 #[.agg (noteCells h (.slice A n c)).toArray] w fun e w' => e = .returned (.tuple #[.slice none 0 0, .int .i64 92]) ∧ Below w.heap.size w w' := by
 have hb0 : Hid (Below w.heap.size w (w.alloc (.cells (noteCells h (.slice A n c)).toArray 39))) := Below.heap_below w _
 have hN0 : Hid (NoteAt (w.alloc (.cells (noteCells h (.slice A n c)).toArray 39)) w.heap.size h A n c ss) := NoteAt.new hS
 have hsz : Hid ((Tryz.prog.info? 36).map (·.size) = some (headCells h).length) := by show _ = _; rw [headCells_len ok]; exact size98
 have hz : Hid ((w.alloc (.cells (noteCells h (.slice A n c)).toArray 39)).heap.size = w.heap.size + 1) := by show _ = _; simp
 have hR0 : (w.alloc (.cells (noteCells h (.slice A n c)).toArray 39)).cell? ⟨w.heap.size, 98, none⟩ = some (.slice A n c) := hN0.out.row ok
 have ok' := Lib.hid ok
 clear ok hS
 have x1 : ((n : Int) == 0) = false := by simp; omega
 have x2 : ((16 : Int) < (n : Int)) = False := eq_false (by omega)
 have hn0 := Lib.hid h0
 have hn16 := Lib.hid h16
 clear h0 h16
 go_enter Tryz.func125, Tryz.ntmps125
 go_wp2_with (first
  | (((with_reducible change wpList _ _ _ (⟨some 10, _, _, _, _, _⟩ :: _) _ _); refine wpList_load_part (o := ⟨some 10, _, _, _, _, _⟩) rfl 36 (.tmp 9) rfl (w.heap.size) (0) rfl (headCells h) _ hN0.out.head Tryz.underlying36 rfl hsz.out ?_))
  | (go_at_call 209; refine (right_any h ok'.out _).mono ?_; rw [hrB.out]; rintro e w2 ⟨rfl, hb2⟩; have hN2 := Lib.hid (hN0.out.below hb2); have hR2 := hN2.out.row ok'.out; have hbb : Hid (Below w.heap.size w w2) := hb0.out.trans (hb2.mono (by rw [hz.out]; omega)); clear hb2)
  | (go_at_call 126; refine (rising_any ss n hn0.out (by have := hn16.out; omega) A c w2 hN2.out.sgs).mono ?_; rintro e w3 ⟨gr, cr, ds, rfl, hri, hO3, hb3⟩; have hN3 := Lib.hid (hN2.out.below hb3.out); have hbc : Hid (Below w.heap.size w w3) := hbb.out.trans (hb3.out.mono hbb.out.size); rw [hri0.out] at hri; have hno := none_no hri.out; rw [hno]))
 go_ret2
 exact ⟨rfl, hbc.out⟩

set_option maxRecDepth 100000 in
set_option maxHeartbeats 2000000 in
theorem enc_yes (h : HeadD) (ok : h.Ok) (ss : List Text) (n : Nat) (hrB : Hid (rightB h = true)) (h0 : 0 < n) (h16 : n ≤ 16) (rs : List Text) (hri0 : Hid (rising kyS ss = some rs)) (A : Option Addr) (c : Nat) (w : World) (hS : Sgs w A n ss) :
  Calls Tryz.prog 125 #[.agg (noteCells h (.slice A n c)).toArray] w fun e w' => ∃ v, e = .returned (.tuple #[v, .int .i64 0]) ∧ Below w.heap.size w w' ∧ w'.ownsRow w.heap.size 5 1 v (115 + 64 * n) (cells8 (noteB h rs)) := by
 have hb0 : Hid (Below w.heap.size w (w.alloc (.cells (noteCells h (.slice A n c)).toArray 39))) := Below.heap_below w _
 have hN0 : Hid (NoteAt (w.alloc (.cells (noteCells h (.slice A n c)).toArray 39)) w.heap.size h A n c ss) := NoteAt.new hS
 have hsz : Hid ((Tryz.prog.info? 36).map (·.size) = some (headCells h).length) := by show _ = _; rw [headCells_len ok]; exact size98
 have hz : Hid ((w.alloc (.cells (noteCells h (.slice A n c)).toArray 39)).heap.size = w.heap.size + 1) := by show _ = _; simp
 have hR0 : (w.alloc (.cells (noteCells h (.slice A n c)).toArray 39)).cell? ⟨w.heap.size, 98, none⟩ = some (.slice A n c) := hN0.out.row ok
 have ok' := Lib.hid ok
 clear ok hS
 have x1 : ((n : Int) == 0) = false := by simp; omega
 have x2 : ((16 : Int) < (n : Int)) = False := eq_false (by omega)
 have hn0 := Lib.hid h0
 have hn16 := Lib.hid h16
 clear h0 h16
 have x3 : IntKind.u8.wrap (n : Int) = (n : Int) := by have := hn16.out; simp [IntKind.wrap, IntKind.bits, IntKind.signed]; omega
 have s32 : Hid ((Tryz.prog.info? 23).map (·.size) = some 32) := size32
 have s64 : Hid (∀ x : Text, x.length = 64 → (Tryz.prog.info? 57).map (·.size) = some (cells8 x).length) := fun x hx => by rw [cells8_len, hx]; exact size64
 have s64a : Hid (∀ x : Text, x.length = 64 → (Tryz.prog.info? 57).map (·.size) = some (cells8 x).toArray.size) := fun x hx => by rw [List.size_toArray, cells8_len, hx]; exact size64
 have one64 : Hid (∀ x : Text, ((cells8 x).toArray.all fun v => v.oneCell') = true) := fun x => by rw [List.all_toArray]; exact List.all_eq_true.2 (cells8_one x)
 have z64 : Hid (∀ x : Text, x.length = 64 → (Z64 : Array Value).size = (cells8 x).toArray.size) := fun x hx => by show (64 : Nat) = (cells8 x).length; rw [cells8_len, hx]
 have s32x : Hid (∀ x : Text, x.length = 32 → (Tryz.prog.info? 23).map (·.size) = some (cells8 x).length) := fun x hx => by rw [cells8_len, hx]; exact size32
 go_enter Tryz.func125, Tryz.ntmps125
 go_wp2_with (first
  | (((with_reducible change wpList _ _ _ (⟨some 10, _, _, _, _, _⟩ :: _) _ _); refine wpList_load_part (o := ⟨some 10, _, _, _, _, _⟩) rfl 36 (.tmp 9) rfl (w.heap.size) (0) rfl (headCells h) _ hN0.out.head Tryz.underlying36 rfl hsz.out ?_))
  | (go_at_call 209; refine (right_any h ok'.out _).mono ?_; rw [hrB.out]; rintro e w2 ⟨rfl, hb2⟩; have hN2 := Lib.hid (hN0.out.below hb2); have hR2 := hN2.out.row ok'.out; have hbb : Hid (Below w.heap.size w w2) := hb0.out.trans (hb2.mono (by rw [hz.out]; omega)); clear hb2)
  | (go_at_call 126; refine (rising_any ss n hn0.out (by have := hn16.out; omega) A c w2 hN2.out.sgs).mono ?_; rintro e w3 ⟨gr, cr, ds, rfl, hri, hO3, hb3⟩; have hN3 := Lib.hid (hN2.out.below hb3.out); have hbc : Hid (Below w.heap.size w w3) := hbb.out.trans (hb3.out.mono hbb.out.size); rw [hri0.out] at hri; obtain ⟨hyes, hds⟩ := some_yes hri.out; subst hds; rw [hyes]; have hlen : Hid (rs.length = n) := hO3.out.2.1; have hsns : Hid (Sns rs) := hO3.out.1; obtain ⟨A9, c9, e9, -, -, -, hS3, hA9⟩ := OwnS.reads hO3.out; injection e9 with e9 _ e10; subst e9 e10; replace hS3 := Lib.hid hS3; have hgr : Hid (gr < w3.heap.size) := (by obtain ⟨bx, ox, ex, hx, -⟩ := hS3.out.rd.2 (by have := hn0.out; omega); injection ex with ex; injection ex with ex1 ex2; subst ex1; exact hx); clear hri hO3 hA9 hb3)
  | (go_at_call 130; refine (new_any w3).mono ?_; rintro e w4 ⟨rfl, hw4⟩; have hW4 : Hid (Wrote w4 w3.heap.size none [] w4) := (by show Wrote _ _ _ _ _; rw [hw4]; exact (WrAt.new w3).refl); have hb4 : Hid (Below w3.heap.size w3 w4) := (by show Below _ _ _; rw [hw4]; exact Below.heap_below w3 _); have hz4 : Hid (w4.heap.size = w3.heap.size + 1) := (by show _ = _; rw [hw4]; simp); obtain ⟨gw, hgw⟩ : ∃ gw, Hid (w3.heap.size = gw) := ⟨_, Lib.hid rfl⟩; rw [hgw.out] at hW4 ⊢; have hb5 : Hid (∀ l wx, Wrote w4 gw none l wx → Below w3.heap.size w3 wx) := (fun l wx hx => hb4.out.trans (hx.below (fun k e => by cases e) (by rw [hgw.out]; exact Nat.le_refl _) (by rw [hz4.out]; omega))); clear hw4)
  | (go_at_call 131; refine (put1_from 33 33 rfl (by simp) hW4.out).mono ?_; rintro e w5 ⟨rfl, hW5⟩; replace hW5 := Lib.hid hW5; have hN5 := Lib.hid (hN3.out.below (hb5.out _ _ hW5.out)); clear hW4)
  | (((with_reducible change wpList _ _ _ (⟨some 36, _, _, _, _, _⟩ :: _) _ _); refine wpList_load_part (o := ⟨some 36, _, _, _, _, _⟩) rfl 36 (.tmp 35) rfl (w.heap.size) (0) rfl (headCells h) _ hN5.out.head Tryz.underlying36 rfl hsz.out ?_))
  | (go_at_call 210; refine (head_from h ok'.out hrB.out (by simp) hW5.out).mono ?_; rintro e w6 ⟨rfl, hW6⟩; replace hW6 := Lib.hid hW6; clear hN5)
  | (go_at_call 131; refine (put1_from (n : Int) (BitVec.ofNat 8 n) (b8_cnt hn16.out) (by simp [headBytes_len ok'.out]) hW6.out).mono ?_; rintro e w7 ⟨rfl, hW7⟩; replace hW7 := Lib.hid hW7; clear hW5 hW6))
 go_loopw [45] (fun v wr => ∃ i : Nat, v = .int .i64 (i : Int) ∧ Hid (i ≤ n) ∧ Hid (Wrote w4 gw none ([] ++ [33] ++ headBytes h ++ [BitVec.ofNat 8 n] ++ (rs.take i).flatten) wr)) (fun v _ => n - (intOf v).toNat)
 case atStart => exact ⟨0, rfl, Nat.zero_le _, by show Wrote _ _ _ _ _; simpa using hW7.out⟩
 case round =>
  clear hW7
  obtain ⟨i, rfl, hin, hWi⟩ := hrel
  have hi6 : (i : Int) ≤ 16 := by have := hin.out; have := hn16.out; omega
  have hll := Lib.hid (len_note h ok'.out hsns.out hlen.out hin.out)
  by_cases hlt : i < n
  ·have hz1 : (i : Int) < (n : Int) := by omega
   have hz0 : (0 : Int) ≤ (i : Int) := by omega
   have hlt' := Lib.hid hlt
   obtain ⟨x, hx⟩ : ∃ x, Hid (rs[i]? = some x) := ⟨_, List.getElem?_eq_getElem (by rw [hlen.out]; exact hlt)⟩
   have hxl := Lib.hid (Sns.at_ hsns.out hx.out)
   have hstep : Hid ((rs.take (i + 1)).flatten = (rs.take i).flatten ++ [kyS x, tgS x].flatten) := by show _ = _; rw [List.take_add_one, hx.out, kt_eq]; simp
   have hbi := Lib.hid (hb5.out _ _ hWi.out)
   obtain ⟨bx, ox, ex, hbx, hcx⟩ := (hS3.out.below hbi.out).at_ hx.out
   injection ex with ex
   injection ex with ex1 ex2
   subst ex1 ex2
   have hcx' : Hid (∀ j u, (cells8 x)[j]? = some u → wr.cell? ⟨gr, 0 + i * 64 + j, none⟩ = some u) := hcx
   clear hcx hlt
   obtain ⟨w8, hw8⟩ : ∃ w8, Hid (w8 = wr.alloc (.cells (cells8 x).toArray 57)) := ⟨_, Lib.hid rfl⟩
   have hst : (storeCells ⟨wr.heap.size, 0, none⟩ (cells8 x)).run Tryz.prog (wr.alloc (.cells Z64 57)) = .ok () w8 := by rw [hw8.out, ← alloc_setRow wr Z64 (cells8 x).toArray 57]; exact storeCells_row (Blk.new _ _ _) (by show (64 : Nat) = (cells8 x).length; rw [cells8_len, hxl.out]) (cells8_one x)
   unfold Z64 at hst
   have hx64 : (cells8 x).length = 64 := by rw [cells8_len, hxl.out]
   have B8 : Hid (Blk w8 wr.heap.size 57 (cells8 x).toArray) := by show Blk _ _ _ _; rw [hw8.out]; exact Blk.new _ _ _
   have hW8 : Hid (Wrote w4 gw none ([] ++ [33] ++ headBytes h ++ [BitVec.ofNat 8 n] ++ (rs.take i).flatten) w8) := by show Wrote _ _ _ _ _; rw [hw8.out]; exact hWi.out.alloc _
   have q2 : Hid (∀ v ∈ [cells8 (kyS x), cells8 (tgS x)], v.length = 32) := by
    intro v hv
    simp only [List.mem_cons, List.not_mem_nil, or_false] at hv
    rcases hv with rfl | rfl
    ·rw [cells8_len, kyS_len hxl.out]
    ·rw [cells8_len, tgS_len hxl.out]
   have d2 : Hid (∀ d ∈ [kyS x, tgS x], d.length = 32) := by
    intro v hv
    simp only [List.mem_cons, List.not_mem_nil, or_false] at hv
    rcases hv with rfl | rfl
    ·exact kyS_len hxl.out
    ·exact tgS_len hxl.out
   obtain ⟨X2, x2'⟩ : ∃ X, Hid (X = ([cells8 (kyS x), cells8 (tgS x)].flatten).toArray) := ⟨_, rfl⟩
   go_wp2_with (first
    | (((with_reducible change wpList _ _ _ (⟨some 48, _, _, _, _, _⟩ :: _) _ _); refine wpList_load_part (o := ⟨some 48, _, _, _, _, _⟩) rfl 57 (.tmp 47) rfl (gr) ((i * 64)) rfl (cells8 x) _ (by have := hcx'.out; simpa using this) Tryz.underlying57 rfl (s64.out x hxl.out) ?_))
    | (((with_reducible change wpList _ _ _ (⟨some 51, _, _, _, _, _⟩ :: _) _ _); refine wpList_load_part (o := ⟨some 51, _, _, _, _, _⟩) rfl 23 (.tmp 50) rfl (wr.heap.size) (0) rfl (cells8 (kyS x)) _ (fun j u hu => (B8.out.cell (0 + j)).trans (by rw [List.getElem?_toArray]; exact ky_cell hu)) Tryz.underlying23 rfl (s32x.out _ (kyS_len hxl.out)) ?_))
    | (((with_reducible change wpList _ _ _ (⟨some 53, _, _, _, _, _⟩ :: _) _ _); refine wpList_load_part (o := ⟨some 53, _, _, _, _, _⟩) rfl 23 (.tmp 52) rfl (wr.heap.size) (32) rfl (cells8 (tgS x)) _ (fun j u hu => (B8.out.cell (32 + j)).trans (by rw [List.getElem?_toArray]; exact tg_cell hu)) Tryz.underlying23 rfl (s32x.out _ (tgS_len hxl.out)) ?_))
    | ((with_reducible change wpList _ _ _ (⟨some 54, _, _, _, _, _⟩ :: _) _ _); refine wpList_buildAggs (o := ⟨some 54, _, _, _, _, _⟩) rfl 44 23 2 _ rfl 32 (by decide) [cells8 (kyS x), cells8 (tgS x)] Tryz.underlying44 size32 zero32 rfl (by decide) (by decide) q2.out rfl ?_; rw [← x2'.out])
    | (go_at_call 156; rw [show X2 = (([kyS x, tgS x].map cells8).flatten).toArray from x2'.out]; refine (digests_new [kyS x, tgS x] 2 rfl d2.out (by rw [hll.out]; omega) hW8.out).mono ?_; rintro e w9 ⟨rfl, hW9⟩; replace hW9 := Lib.hid hW9))
   go_roundw
   case rel => exact ⟨i + 1, by go_num, hlt'.out, by show Wrote _ _ _ _ _; rw [hstep.out]; have := hW9.out; simpa using this⟩
   case measure => (have := hlt'.out; simp [intOf]; omega)
  ·have hz1 : ¬ ((i : Int) < (n : Int)) := by omega
   have hin' : i = n := by have := hin.out; omega
   subst hin'
   clear hlt
   have hbi := Lib.hid (hb5.out _ _ hWi.out)
   have hfin : Hid ([] ++ [33] ++ headBytes h ++ [BitVec.ofNat 8 i] ++ (rs.take i).flatten = noteB h rs) := by show _ = _; unfold noteB; rw [List.take_of_length_le (by rw [hlen.out]; exact Nat.le_refl _), hlen.out]; simp
   rw [hfin.out] at hWi hll
   go_wp2_with (go_at_call 133; refine (all_from (by rw [hll.out]; omega) hWi.out).mono ?_; rintro e w9 ⟨v, rfl, hb9, ho9⟩; rw [hll.out] at ho9; obtain ⟨Av, cv, rfl, -⟩ := Own.reads ho9; replace ho9 := Lib.hid ho9; replace hb9 := Lib.hid hb9)
   go_ret2
   have hbw : Below w.heap.size w wr := hbc.out.trans (hbi.out.mono hbc.out.size)
   exact ⟨.slice Av (115 + 64 * i) cv, rfl, hbw.trans (hb9.out.mono hbw.size), ownsRow_base ho9.out hbw.size⟩
end Go.Proofs.YtgldkfaiofkhbaaGreatDoor.EncNote

namespace Go.Proofs.YtgldkfaiofkhbaaGreatDoor.NoteM
open Go Go.RowKit Go.Proofs.YtgldkfaiofkhbaaGreatDoor Mem Sha Bytes SortP NoteP Reader Reader2 Reader3 Rise SortM SgM HeadMem HeadTake EncNoteP EncNote RowS Fill

def h0 : HeadD := ⟨List.replicate 32 0, 0, List.replicate 32 0, List.replicate 32 0, 0⟩
def Z99 : Array Value := #[Value.int IntKind.u8 0, Value.int IntKind.u8 0, Value.int IntKind.u8 0, Value.int IntKind.u8 0, Value.int IntKind.u8 0, Value.int IntKind.u8 0, Value.int IntKind.u8 0, Value.int IntKind.u8 0, Value.int IntKind.u8 0, Value.int IntKind.u8 0, Value.int IntKind.u8 0, Value.int IntKind.u8 0, Value.int IntKind.u8 0, Value.int IntKind.u8 0, Value.int IntKind.u8 0, Value.int IntKind.u8 0, Value.int IntKind.u8 0, Value.int IntKind.u8 0, Value.int IntKind.u8 0, Value.int IntKind.u8 0, Value.int IntKind.u8 0, Value.int IntKind.u8 0, Value.int IntKind.u8 0, Value.int IntKind.u8 0, Value.int IntKind.u8 0, Value.int IntKind.u8 0, Value.int IntKind.u8 0, Value.int IntKind.u8 0, Value.int IntKind.u8 0, Value.int IntKind.u8 0, Value.int IntKind.u8 0, Value.int IntKind.u8 0, Value.int IntKind.i64 0, Value.int IntKind.u8 0, Value.int IntKind.u8 0, Value.int IntKind.u8 0, Value.int IntKind.u8 0, Value.int IntKind.u8 0, Value.int IntKind.u8 0, Value.int IntKind.u8 0, Value.int IntKind.u8 0, Value.int IntKind.u8 0, Value.int IntKind.u8 0, Value.int IntKind.u8 0, Value.int IntKind.u8 0, Value.int IntKind.u8 0, Value.int IntKind.u8 0, Value.int IntKind.u8 0, Value.int IntKind.u8 0, Value.int IntKind.u8 0, Value.int IntKind.u8 0, Value.int IntKind.u8 0, Value.int IntKind.u8 0, Value.int IntKind.u8 0, Value.int IntKind.u8 0, Value.int IntKind.u8 0, Value.int IntKind.u8 0, Value.int IntKind.u8 0, Value.int IntKind.u8 0, Value.int IntKind.u8 0, Value.int IntKind.u8 0, Value.int IntKind.u8 0, Value.int IntKind.u8 0, Value.int IntKind.u8 0, Value.int IntKind.u8 0, Value.int IntKind.u8 0, Value.int IntKind.u8 0, Value.int IntKind.u8 0, Value.int IntKind.u8 0, Value.int IntKind.u8 0, Value.int IntKind.u8 0, Value.int IntKind.u8 0, Value.int IntKind.u8 0, Value.int IntKind.u8 0, Value.int IntKind.u8 0, Value.int IntKind.u8 0, Value.int IntKind.u8 0, Value.int IntKind.u8 0, Value.int IntKind.u8 0, Value.int IntKind.u8 0, Value.int IntKind.u8 0, Value.int IntKind.u8 0, Value.int IntKind.u8 0, Value.int IntKind.u8 0, Value.int IntKind.u8 0, Value.int IntKind.u8 0, Value.int IntKind.u8 0, Value.int IntKind.u8 0, Value.int IntKind.u8 0, Value.int IntKind.u8 0, Value.int IntKind.u8 0, Value.int IntKind.u8 0, Value.int IntKind.u8 0, Value.int IntKind.u8 0, Value.int IntKind.u8 0, Value.int IntKind.u8 0, Value.int IntKind.u8 0, Value.int IntKind.i64 0, Value.slice none 0 0]
theorem z99_size : Z99.size = 99 := by kernel_rfl
theorem size99 : (Tryz.prog.info? 39).map (·.size) = some 99 := by kernel_rfl
theorem built_note (parts : List (Nat × Value)) : Tryz.prog.built 39 parts = Instr.fill (#[((0 : Nat), (98 : Nat)), (98, 1)][·]?) (Z98.toList ++ [Value.slice none 0 0]).toArray parts := by kernel_rfl
theorem run_note {h : HeadD} (ok : h.Ok) (A : Option Addr) (n c : Nat) (w : World) : (Instr.build 39 #[(0, .agg (headCells h).toArray), (1, .slice A n c)]).run Tryz.prog w = .ok (.agg (noteCells h (.slice A n c)).toArray) w := by
 refine run_build w _ _ _ ?_
 rw [built_note]
 have e1 := fill_one (place := (#[((0 : Nat), (98 : Nat)), (98, 1)][·]?)) (i := 0) (v := .agg (headCells h).toArray) (xs := headCells h) (old := Z98.toList) (pre := []) (post := [.slice none 0 0]) (rest := [(1, .slice A n c)]) rfl rfl (headCells_len ok) rfl (by rw [Array.length_toList]; exact z98_size)
 have e2 := fill_one (place := (#[((0 : Nat), (98 : Nat)), (98, 1)][·]?)) (i := 1) (v := .slice A n c) (xs := [.slice A n c]) (old := [.slice none 0 0]) (pre := headCells h) (post := []) (rest := []) rfl rfl rfl (headCells_len ok) rfl
 rw [List.nil_append, List.nil_append] at e1
 rw [List.append_nil, List.append_nil, fill_nil] at e2
 exact e1.trans e2
theorem run_note0 {h : HeadD} (ok : h.Ok) (w : World) : (Instr.build 39 #[(0, .agg (headCells h).toArray)]).run Tryz.prog w = .ok (.agg (noteCells h (.slice none 0 0)).toArray) w := by
 refine run_build w _ _ _ ?_
 rw [built_note]
 have e1 := fill_one (place := (#[((0 : Nat), (98 : Nat)), (98, 1)][·]?)) (i := 0) (v := .agg (headCells h).toArray) (xs := headCells h) (old := Z98.toList) (pre := []) (post := [.slice none 0 0]) (rest := []) rfl rfl (headCells_len ok) rfl (by rw [Array.length_toList]; exact z98_size)
 rw [List.nil_append, List.nil_append, fill_nil] at e1
 exact e1
theorem note_size {h : HeadD} (ok : h.Ok) (v : Value) : (Tryz.prog.info? 39).map (·.size) = some (noteCells h v).toArray.size := by rw [List.size_toArray, noteCells_len ok]; exact size99
theorem note_one {h : HeadD} (A : Option Addr) (n c : Nat) : (noteCells h (.slice A n c)).toArray.all (fun v => v.oneCell') = true := by
 rw [List.all_toArray]
 refine List.all_eq_true.2 fun v hv => ?_
 rcases List.mem_append.1 hv with hv | hv
 ·exact headCells_one h v hv
 ·simp only [List.mem_singleton] at hv
  subst hv
  rfl
theorem note_zero {h : HeadD} (ok : h.Ok) (v : Value) : Z99.size = (noteCells h v).toArray.size := z99_size.trans (show 99 = (noteCells h v).length from (noteCells_len ok v).symm)
theorem sign_fill (z : Array Value) (hz : z.size = 64) (xs ys : List Value) (hx : xs.length = 32) (hy : ys.length = 32) :
  Instr.fill (#[((0 : Nat), (32 : Nat)), (32, 32)][·]?) z [(0, .agg xs.toArray), (1, .agg ys.toArray)] = some (xs ++ ys).toArray := by
 have h := Great.fill_whole (s := 32) (by omega) [.agg xs.toArray, .agg ys.toArray] z (fun v hv => by
  rcases List.mem_cons.1 hv with rfl | hv
  ·exact hx
  ·rcases List.mem_cons.1 hv with rfl | hv
   ·exact hy
   ·cases hv) (by rw [hz]; rfl)
 have e : ([Value.agg xs.toArray, .agg ys.toArray].flatMap fun v => v.cells.toList) = xs ++ ys := by
  simp [Value.cells]
 rw [e] at h
 exact h
theorem built_any (parts : List (Nat × Value)) : Tryz.prog.built 57 parts = Instr.fill (#[((0 : Nat), (32 : Nat)), (32, 32)][·]?) (Array.replicate 64 (.int .u8 0)) parts := by kernel_rfl
structure DN (w0 w : World) (g gh : Nat) (q : Text) (A : Option Addr) (c need : Nat) (hc : Array Value) : Prop where
 rd : Rd w g q A c need
 res : Blk w w0.heap.size 39 Z99
 head : Blk w gh 36 hc
 below : Below w0.heap.size w0 w
 hg : w0.heap.size < g
 hh : w0.heap.size < gh
 ne : g ≠ gh
section
variable {w0 w w' : World} {g gh c need need' : Nat} {q : Text} {A : Option Addr} {hc : Array Value}
theorem DN.call (h : DN w0 w g gh q A c need hc) (hr : Rd w' g q A c need') (hk : Kept (· = g) w w') : DN w0 w' g gh q A c need' hc :=
 ⟨hr, h.res.kept hk (by have := h.hg; omega), h.head.kept hk (fun e => h.ne e.symm), h.below.trans (Kept.below_of hk (by have := h.hg; omega) h.below.size), h.hg, h.hh, h.ne⟩
theorem DN.far (h : DN w0 w g gh q A c need hc) (hk : Below w.heap.size w w') : DN w0 w' g gh q A c need hc :=
 ⟨h.rd.below hk, h.res.kept (S := fun _ => False) (Kept.of_below hk) (fun x => x), h.head.kept (S := fun _ => False) (Kept.of_below hk) (fun x => x), h.below.trans (hk.mono h.below.size), h.hg, h.hh, h.ne⟩
theorem DN.off {gs : Nat} (h : DN w0 w g gh q A c need hc) (hk : Kept (· = gs) w w') (h1 : w0.heap.size < gs) (h2 : g ≠ gs) (h3 : gh ≠ gs) (h4 : 0 < q.length → ∀ a, A = some a → a.block < gs) : DN w0 w' g gh q A c need hc :=
 ⟨h.rd.keptOff hk h2 (fun h0 a ea e => by have := h4 h0 a ea; omega), h.res.kept hk (by omega), h.head.kept hk h3, h.below.trans (Kept.below_of hk (by omega) h.below.size), h.hg, h.hh, h.ne⟩
end
structure DN0 (w0 w : World) (g : Nat) (q : Text) (A : Option Addr) (c need : Nat) : Prop where
 rd : Rd w g q A c need
 res : Blk w w0.heap.size 39 Z99
 below : Below w0.heap.size w0 w
 hg : w0.heap.size < g
section
variable {w0 w w' : World} {g c need need' : Nat} {q : Text} {A : Option Addr} {hc : Array Value}
theorem DN0.call (h : DN0 w0 w g q A c need) (hr : Rd w' g q A c need') (hk : Kept (· = g) w w') : DN0 w0 w' g q A c need' :=
 ⟨hr, h.res.kept hk (by have := h.hg; omega), h.below.trans (Kept.below_of hk (by have := h.hg; omega) h.below.size), h.hg⟩
theorem DN0.head (h : DN0 w0 w g q A c need) {o : Obj} (hk : Kept (· = w.heap.size) (w.alloc o) w') (hb : Blk w' w.heap.size 36 hc) : DN w0 w' g w.heap.size q A c need hc := by
 have hbb := Decode.below_new hk
 have hlt := h.rd.lt
 exact ⟨h.rd.below hbb, h.res.kept (S := fun _ => False) (Kept.of_below hbb) (fun x => x), hb, h.below.trans (hbb.mono h.below.size), h.hg, by have := h.res.lt; exact this, by omega⟩
end
end Go.Proofs.YtgldkfaiofkhbaaGreatDoor.NoteM

namespace Go.Proofs.YtgldkfaiofkhbaaGreatDoor.RefNote
open Go Go.RowKit Go.Proofs.YtgldkfaiofkhbaaGreatDoor Mem Sha Bytes SortP NoteP Rise Go.Proofs.YtgldkfaiofkhbaaGreatDoor.Append Own SgM EncNoteP EncNote RefRising HeadMem

def NotePost (B : Nat) (w' : World) (v : Value) : Option Text → Prop
 | none => v = .slice none 0 0
 | some b => w'.ownsRow B 5 1 v b.length (cells8 b)
theorem rising_len {ss rs : List Text} (h : rising kyS ss = some rs) : rs.length = ss.length := (rising_some h).2.length_eq
theorem rising_sns {ss rs : List Text} (h : rising kyS ss = some rs) (hs : Sns ss) : Sns rs := fun t ht => hs t ((rising_some h).2.mem_iff.1 ht)
theorem note_cases (h : HeadD) (ss : List Text) (n : Nat) (hn : ss.length = n) :
  (rightB h = false ∧ noteAns h ss = (none, 1)) ∨ (rightB h = true ∧ n = 0 ∧ noteAns h ss = (none, 7)) ∨ (rightB h = true ∧ 16 < n ∧ noteAns h ss = (none, 7)) ∨ (rightB h = true ∧ 0 < n ∧ n ≤ 16 ∧ rising kyS ss = none ∧ noteAns h ss = (none, 92)) ∨
   (rightB h = true ∧ 0 < n ∧ n ≤ 16 ∧ ∃ rs, rising kyS ss = some rs ∧ noteAns h ss = (some (noteB h rs), 0)) := by
 unfold noteAns
 cases hr : rightB h with
 | false => exact .inl ⟨rfl, by simp⟩
 | true =>
  rw [if_neg (by simp), hn]
  by_cases h0 : n = 0
  ·exact .inr (.inl ⟨rfl, h0, by rw [if_pos (.inl h0)]⟩)
  ·by_cases h16 : 16 < n
   ·exact .inr (.inr (.inl ⟨rfl, h16, by rw [if_pos (.inr h16)]⟩))
   ·rw [if_neg (by omega)]
    cases hq : rising kyS ss with
    | none => exact .inr (.inr (.inr (.inl ⟨rfl, by omega, by omega, rfl, rfl⟩)))
    | some rs => exact .inr (.inr (.inr (.inr ⟨rfl, by omega, by omega, rs, rfl, rfl⟩)))
theorem encnote_any (h : HeadD) (ok : h.Ok) (ss : List Text) (n : Nat) (A : Option Addr) (c : Nat) (w : World) (hS : Sgs w A n ss) :
  Calls Tryz.prog 125 #[.agg (noteCells h (.slice A n c)).toArray] w fun e w' => ∃ v, e = .returned (.tuple #[v, .int .i64 (noteAns h ss).2]) ∧ Below w.heap.size w w' ∧ NotePost w.heap.size w' v (noteAns h ss).1 := by
 rcases note_cases h ss n hS.len with ⟨h1, e⟩ | ⟨h1, h2, e⟩ | ⟨h1, h2, e⟩ | ⟨h1, h2, h3, h4, e⟩ | ⟨h1, h2, h3, rs, h4, e⟩
 ·rw [e]
  exact (enc_wrong h ok ss n h1 A c w hS).mono fun e w' ⟨he, hb⟩ => ⟨_, he, hb, rfl⟩
 ·rw [e]
  exact (enc_none h ok ss n h1 h2 A c w hS).mono fun e w' ⟨he, hb⟩ => ⟨_, he, hb, rfl⟩
 ·rw [e]
  exact (enc_many h ok ss n h1 h2 A c w hS).mono fun e w' ⟨he, hb⟩ => ⟨_, he, hb, rfl⟩
 ·rw [e]
  exact (enc_twice h ok ss n h1 h2 h3 h4 A c w hS).mono fun e w' ⟨he, hb⟩ => ⟨_, he, hb, rfl⟩
 ·rw [e]
  have hl : (noteB h rs).length = 115 + 64 * n := by rw [noteB_len ok (rising_sns h4 hS.all), rising_len h4, hS.len]
  exact (enc_yes h ok ss n h1 h2 h3 rs h4 A c w hS).mono fun e w' ⟨v, he, hb, ho⟩ => ⟨v, he, hb, by show World.ownsRow _ _ _ _ _ _ _; rw [hl]; exact ho⟩
end Go.Proofs.YtgldkfaiofkhbaaGreatDoor.RefNote

namespace Go.Proofs.YtgldkfaiofkhbaaGreatDoor.Rising0
open Go Go.RowKit Go.Proofs.YtgldkfaiofkhbaaGreatDoor Mem Sha Bytes SortP NoteP Rise SortM Go.Proofs.YtgldkfaiofkhbaaGreatDoor.Append Own SgM Rising

set_option maxRecDepth 100000 in
set_option maxHeartbeats 1000000 in
theorem insertion0 (f : Value) (w : World) : Calls Tryz.prog 284 #[.slice none 0 0, .int .i64 0, .int .i64 0, f] w fun e w' => e = .returned (.tuple #[]) ∧ w' = w := by
 go_enter Tryz.func284, Tryz.ntmps284
 go_wp2_with fail
 refine wp_loop_rounds 1 ?_
 rw [rounds_succ]
 go_wp2_with fail
 go_end0
 exact ⟨rfl, rfl⟩
set_option maxRecDepth 100000 in
set_option maxHeartbeats 1000000 in
theorem pdq0 (f : Value) (l : Int) (w : World) : Calls Tryz.prog 262 #[.slice none 0 0, .int .i64 0, .int .i64 0, .int .i64 l, f] w fun e w' => e = .returned (.tuple #[]) ∧ w' = w := by
 have hI := Lib.hid (insertion0 f w)
 go_enter Tryz.func262, Tryz.ntmps262
 go_wp2_with fail
 refine wp_loop_rounds 1 ?_
 rw [rounds_succ]
 go_wp2_with (go_at_call 284; refine hI.out.mono ?_; rintro e w' ⟨rfl, rfl⟩)
 exact bodyPost_ret (results_none rfl _ _ _) rfl ⟨rfl, rfl⟩
theorem len0 (w : World) : Calls Tryz.prog 124 #[.int .u64 0] w fun e w' => (∃ l : Int, e = .returned (.int .i64 l)) ∧ w' = w := by
 have h := Any.bits_Len (SlLaysF0.n15.bits { Tryz.sortSigns with }) 0 w (by decide) (by decide)
 change Calls _ 124 _ _ _ at h
 exact h.mono fun e w' ⟨he, hw⟩ => ⟨⟨_, he⟩, hw⟩
set_option maxRecDepth 100000 in
set_option maxHeartbeats 1000000 in
theorem sort0 (f : Value) (w : World) : Calls Tryz.prog 211 #[.slice none 0 0, f] w fun e w' => e = .returned (.tuple #[]) ∧ w' = w := by
 have hL := Lib.hid (len0 w)
 have hP := Lib.hid (fun l => pdq0 f l w)
 go_enter Tryz.func211, Tryz.ntmps211
 go_wp2_with (first
  | (go_at_call 124; refine hL.out.mono ?_; rintro e w' ⟨⟨l, rfl⟩, rfl⟩)
  | (go_at_call 262; refine (hP.out l).mono ?_; rintro e w' ⟨rfl, rfl⟩))
 go_end0
 exact ⟨rfl, rfl⟩
set_option maxRecDepth 100000 in
set_option maxHeartbeats 1000000 in
theorem rising0 (A : Option Addr) (c : Nat) (w : World) (hnil : A = none → (0 : Nat) = 0 ∧ c = 0) :
  Calls Tryz.prog 126 #[.slice A 0 c] w fun e w' => e = .returned (.tuple #[.slice none 0 0, .bool true]) ∧ Below w.heap.size w w' := by
 obtain ⟨i0, ii, iz0, iz1, iz2⟩ := info_partsN info64
 have hn := Lib.hid hnil
 have hx0 : Hid (Reads w 64 A 0 (([] : List Text).flatMap cells8)) := Reads.nil_ _ _ _
 have hc1 : Hid (0 + 0 ≤ maxLen) := by show _ ≤ _; unfold maxLen; omega
 have hc2 : Hid ((0 + 0) * 64 ≤ 140737488355328) := by show _ ≤ _; omega
 clear hnil
 go_enter Tryz.func126, Tryz.ntmps126
 go_wp2_with (first
  | (at_builtin; refine wpList_append_src _ rfl (.const (.slice none 0 0)) (.tmp 5) 37 rfl w.heap.size 57 i0 (.agg Z64) 64 64 Tryz.underlying37 ii iz0 iz1 iz2 rfl (by decide) (.slice none 0 0) 0 [] rfl (World.ownsRow_nil _ _ _ _) A 0 c (([] : List Text).flatMap cells8) rfl hx0.out hn.out (one_signs []) hc1.out hc2.out (Nat.le_refl _) ?_; intro v1 w1 hG; obtain rfl := hG.nil_.2 ⟨rfl, rfl⟩; have hb1 : Hid (Below w.heap.size w w1) := hG.below (Below.refl _ _) (Nat.le_refl _) (fun k e => by cases e); clear hG)
  | (go_at_call 211; refine (sort0 _ w1).mono ?_; rintro e w2 ⟨rfl, hw2⟩; subst hw2)
  | (go_at_call 213; refine (rise_any [] 0 (by decide) none 0 _ (Sgs.nil_ _ _)).mono ?_; rintro e w3 ⟨rfl, hb3⟩; have hb4 : Hid (Below w.heap.size w w3) := hb1.out.trans (hb3.mono hb1.out.size)))
 go_ret2
 exact ⟨rfl, hb4.out⟩
theorem rising_all (ss : List Text) (n : Nat) (hn47 : n ≤ 2199023255552) (A : Option Addr) (c : Nat) (w : World) (h : Sgs w A n ss) (hnil : A = none → n = 0 ∧ c = 0) :
  Calls Tryz.prog 126 #[.slice A n c] w fun e w' => ∃ (A' : Option Addr) (c' : Nat) (ds : List Text), e = .returned (.tuple #[.slice A' n c', .bool (riseB (ky := kyS) ds)]) ∧ Hid (rising kyS ss = if riseB (ky := kyS) ds = true then some ds else none) ∧ Hid (OwnS w' w.heap.size (.slice A' n c') n ds) ∧ Hid (Below w.heap.size w w') := by
 by_cases h0 : n = 0
 ·subst h0
  obtain rfl : ss = [] := List.eq_nil_of_length_eq_zero h.len
  exact (rising0 A c w hnil).mono fun e w' ⟨he, hb⟩ => ⟨none, 0, [], he, rfl, OwnS.nil _ _, hb⟩
 ·exact (rising_any ss n (by omega) hn47 A c w h).mono fun e w' ⟨g, c', ds, he, h1, h2, h3⟩ => ⟨_, c', ds, he, h1, h2, h3⟩
end Go.Proofs.YtgldkfaiofkhbaaGreatDoor.Rising0

namespace Go.Proofs.YtgldkfaiofkhbaaGreatDoor.SameN20
open Go Go.RowKit Go.Proofs.YtgldkfaiofkhbaaGreatDoor Mem Sha Bytes SortP NoteP QuietTail Grown Want Rise SortM SgM HeadMem EncNoteP EncNote RowS Fill NoteM SignEq HeadEq CmpW

end Go.Proofs.YtgldkfaiofkhbaaGreatDoor.SameN20

namespace Go.Proofs.YtgldkfaiofkhbaaGreatDoor.Law20b
open Go Go.RowKit Go.Proofs.YtgldkfaiofkhbaaGreatDoor Mem Sha Bytes Chain HeadMem EncNote NoteM

set_option maxRecDepth 100000 in
theorem fewX_yes (A : Option Addr) (n c N : Nat) (hn : n ≤ N) (w : World) :
  Calls Tryz.prog 7 #[.slice A n c, .int .i64 (N : Int)] w fun e w' => e = .returned (.slice A n c) ∧ w = w' := by
 have h1 : (n : Int) ≤ (N : Int) := by omega
 go_enter Tryz.func7, Tryz.ntmps7
 go_wp2_with fail
 go_ret
 exact ⟨rfl, rfl⟩
set_option maxRecDepth 100000 in
theorem fewX_no (A : Option Addr) (n c N : Nat) (hn : N < n) (hc : n ≤ c) (w : World) :
  Calls Tryz.prog 7 #[.slice A n c, .int .i64 (N : Int)] w fun e w' => e = .returned (.slice A N c) ∧ w = w' := by
 have h1 : (N : Int) < (n : Int) := by omega
 have X := run_headOf (P := Tryz.prog) (t := 24) (A := A) (n := n) (c := c) (m := N) Tryz.underlying24 (fun _ => rfl) (by omega) (N : Int) rfl
 go_enter Tryz.func7, Tryz.ntmps7
 go_wp2_with fail
 go_ret
 exact ⟨rfl, rfl⟩
theorem fewX_any (A : Option Addr) (n c N : Nat) (hc : n ≤ c) (w : World) :
  Calls Tryz.prog 7 #[.slice A n c, .int .i64 (N : Int)] w fun e w' => e = .returned (.slice A (min n N) c) ∧ w = w' := by
 by_cases h : n ≤ N
 ·rw [Nat.min_eq_left h]
  exact fewX_yes A n c N h w
 ·rw [Nat.min_eq_right (by omega)]
  exact fewX_no A n c N (by omega) hc w
theorem pieces_takeX {w : World} {A : Option Addr} {es : List Text} (h : Pieces w A es) (k : Nat) : Pieces w A (es.take k) := fun h0 => by
 obtain ⟨b, o, e, hb, hc⟩ := h (by rw [List.length_take] at h0; omega)
 refine ⟨b, o, e, hb, fun i q hq => hc i q ?_⟩
 rw [List.getElem?_take] at hq
 split at hq
 ·exact hq
 ·cases hq
end Go.Proofs.YtgldkfaiofkhbaaGreatDoor.Law20b
