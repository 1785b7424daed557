/-
  Texts of the claim, put into one file: Rising, EncNote.
-/
import Derived.Test.YteelanamlhfmgaaDoorZ24
import Derived.Test.YteelanamlhfmgaaDoorShelf
import Derived.Test.YteelanamlhfmgaaDoorZ15
import Derived.Deep.Cut

namespace Go.Proofs.YteelanamlhfmgaaDoor.Rising
open Go Go.RowKit Go.Proofs.YteelanamlhfmgaaDoor Go.Proofs.YteelanamlhfmgaaDoor.Mem Go.Proofs.YteelanamlhfmgaaDoor.Sha Go.Proofs.YteelanamlhfmgaaDoor.Bytes Go.Proofs.YteelanamlhfmgaaDoor.SortP Go.Proofs.YteelanamlhfmgaaDoor.NoteP Go.Proofs.YteelanamlhfmgaaDoor.Rise Go.Proofs.YteelanamlhfmgaaDoor.SortM Go.Proofs.YteelanamlhfmgaaDoor.Append Go.Proofs.YteelanamlhfmgaaDoor.Own Go.Proofs.YteelanamlhfmgaaDoor.SgM

theorem sorted_riseB {l d : List Text} (hp : d.Perm l) (hs : d.Pairwise fun a b => lex (kyS b) (kyS a) = false) : rising kyS l = if riseB (ky := kyS) d = true then some d else none := by
  have h := sorted_rising (ky := kyS) hp hs
  by_cases hr : riseB (ky := kyS) d = true
  · rw [if_pos hr, h, if_pos]
    exact (hp.pairwise_iff (R := fun a b => kyS a ≠ kyS b) (fun hab => fun e => hab e.symm)).1 ((riseB_iff.1 hr).imp fun hab => lex_ne hab)
  · rw [if_neg hr]
    cases hq : rising kyS l with
    | none => rfl
    | some r =>
      exfalso
      rw [hq] at h
      by_cases hd : l.Pairwise (fun a b => kyS a ≠ kyS b)
      · rw [if_pos hd] at h
        obtain rfl : r = d := Option.some.inj h
        exact hr (riseB_iff.2 (rising_some hq).1)
      · rw [if_neg hd] at h
        cases h
set_option maxRecDepth 100000 in
/-- slices.SortFunc at a row of signs of one's own. -/
theorem sort_own (ss : List Text) (n B g c : Nat) (hn47 : n ≤ 2199023255552) (w : World) (h : OwnS w B (.slice (some ⟨g, 0, none⟩) n c) n ss) (hB : B ≤ w.heap.size) :
    Calls Tryd.prog 48 #[.slice (some ⟨g, 0, none⟩) n c, .func (.func 28) #[] #[]] w fun e w' => e = .returned (.tuple #[]) ∧ ∃ ds : List Text, Hid (rising kyS ss = if riseB (ky := kyS) ds = true then some ds else none) ∧ Hid (OwnS w' B (.slice (some ⟨g, 0, none⟩) n c) n ds) ∧ Hid (Below B w w') := by
  have hg : g < w.heap.size ∧ B ≤ g := by
    rcases h.2.2.2 with ⟨h2, -⟩ | ⟨g2, c2, cur, h2, hB, hg, -⟩
    · cases h2
    · injection h2 with h3
      injection h3 with h3
      injection h3 with h3
      subst h3
      exact ⟨(Array.getElem?_eq_some_iff.1 hg).1, hB⟩
  have eg : ∀ args w, (callFunc 28 args).run Tryd.prog w = .ok (.enter 28 args) w := enters_of Tryd.func28 (by kernel_rfl) rfl
  have hsn : ∀ t ∈ ss, t.length = 64 := h.1
  have hsz : (arr ss hsn).size = n := (arr_size ss hsn).trans h.2.1
  have hcon := AnyQ.slices_SortFunc Tryd.sortSigns 64 (fun _ => rfl) (fun _ => rfl) enc enc_len enc_one cfS swo 28 #[] g 0 c (arr ss hsn) w eg (byKey_lays g 0 _ w) (holds_own hsn h.2.2) hg.1 (by rw [hsz]; omega)
  simp only [hsz] at hcon
  change Calls _ 48 _ _ _ at hcon
  refine hcon.mono fun e w' ⟨he, d', k, os, hp, hs, hw⟩ => ?_
  have hp' : Sort.PermIn 0 (arr ss hsn).size (arr ss hsn) d' := by rw [hsz]; exact hp
  have hs' : Sort.SortedIn (ltOf cfS) 0 (arr ss hsn).size d' := by rw [hsz]; exact hs
  obtain ⟨h1, h2, h3⟩ := sorted_vals hp' hs'
  rw [arr_vals] at h2
  refine ⟨he, vals d', sorted_riseB h2 h3, ?_, ?_⟩
  · show OwnS w' _ _ _ _
    rw [hw]
    refine ⟨vals_all d', by rw [h1, hsz], own_sorted h.2.2 k d' (by rw [← vals_len, h1, hsz]) os⟩
  · show Below B w w'
    rw [hw]
    exact below_sorted hg.2 hB k d' os
set_option maxRecDepth 100000 in
set_option maxHeartbeats 1000000 in
theorem rising_any (ss : List Text) (n : Nat) (hn0 : 0 < n) (hn47 : n ≤ 2199023255552) (A : Option Addr) (c : Nat) (w : World) (h : Sgs w A n ss) :
    Calls Tryd.prog 26 #[.slice A n c] w fun e w' => ∃ (g c' : Nat) (ds : List Text), e = .returned (.tuple #[.slice (some ⟨g, 0, none⟩) n c', .bool (riseB (ky := kyS) ds)]) ∧ Hid (rising kyS ss = if riseB (ky := kyS) ds = true then some ds else none) ∧ Hid (OwnS w' w.heap.size (.slice (some ⟨g, 0, none⟩) n c') n ds) ∧ Hid (Below w.heap.size w w') := by
  obtain ⟨i0, ii, iz0, iz1, iz2⟩ := info_partsN info64
  obtain ⟨b0, o0, rfl, -, -⟩ := h.rd.2 (by omega)
  have hx0 := Lib.hid h.rd
  have hall : Hid (Sns ss) := h.all
  have hlen : Hid (ss.length = n) := h.len
  have hc1 : Hid (0 + n ≤ maxLen) := by show _ ≤ _; unfold maxLen; omega
  have hc2 : Hid ((0 + n) * 64 ≤ 140737488355328) := by show _ ≤ _; omega
  have hn47' := Lib.hid hn47
  have hn0' := Lib.hid hn0
  clear h hn0 hn47
  go_enter Tryd.func26, Tryd.ntmps26
  go_wp2_with (first
    | (at_builtin; refine wpList_append_src _ rfl (.const (.slice none 0 0)) (.tmp 5) 26 rfl w.heap.size 43 i0 (.agg Z64) 64 64 Tryd.underlying26 ii iz0 iz1 iz2 rfl (by decide) (.slice none 0 0) 0 [] rfl (World.ownsRow_nil _ _ _ _) (some ⟨b0, o0, none⟩) n c (ss.flatMap cells8) rfl hx0.out (fun e => by cases e) (one_signs ss) hc1.out hc2.out (Nat.le_refl _) ?_; intro v1 w1 hG; have hOB := Lib.hid (grew_signs (xs := []) hG (Below.refl _ w) (Nat.le_refl _) (OwnS.nil w _) hall.out hlen.out); rw [Nat.zero_add, List.nil_append] at hOB; obtain ⟨A1, c1, rfl, -, -, hnil1, -, -⟩ := OwnS.reads hOB.out.1; obtain ⟨g1, rfl⟩ := own_some hOB.out.1 hn0'.out; clear hG)
    | (go_at_call 48; refine (sort_own ss n w.heap.size g1 c1 hn47'.out w1 hOB.out.1 hOB.out.2.size).mono ?_; rintro e w2 ⟨rfl, ds, hri, hO2, hb2⟩; obtain ⟨A2, c2, e2, -, -, -, hS2, -⟩ := OwnS.reads hO2.out; injection e2 with e2 _ e3; subst e2 e3; replace hS2 := Lib.hid hS2)
    | (go_at_call 49; refine (rise_any ds n (by have := hn47'.out; omega) _ c1 w2 hS2.out).mono ?_; rintro e w3 ⟨rfl, hb3⟩))
  go_ret2
  exact ⟨g1, c1, ds, rfl, hri, hO2.out.below hb3, (hOB.out.2.trans hb2.out).trans (hb3.mono (by have := hOB.out.2.size; have := hb2.out.size; omega))⟩
end Go.Proofs.YteelanamlhfmgaaDoor.Rising

namespace Go.Proofs.YteelanamlhfmgaaDoor.EncNote
open Go Go.RowKit Go.Proofs.YteelanamlhfmgaaDoor Go.Proofs.YteelanamlhfmgaaDoor.Mem Go.Proofs.YteelanamlhfmgaaDoor.Sha Go.Proofs.YteelanamlhfmgaaDoor.Bytes Go.Proofs.YteelanamlhfmgaaDoor.SortP Go.Proofs.YteelanamlhfmgaaDoor.NoteP Go.Proofs.YteelanamlhfmgaaDoor.Rise Go.Proofs.YteelanamlhfmgaaDoor.SortM Go.Proofs.YteelanamlhfmgaaDoor.Append Go.Proofs.YteelanamlhfmgaaDoor.Own Go.Proofs.YteelanamlhfmgaaDoor.SgM Go.Proofs.YteelanamlhfmgaaDoor.EncNoteP Go.Proofs.YteelanamlhfmgaaDoor.Rising Go.Proofs.YteelanamlhfmgaaDoor.Octet Go.Proofs.YteelanamlhfmgaaDoor.Octet2 Go.Proofs.YteelanamlhfmgaaDoor.HeadMem

/-- A note's cells: its head's, and the slice of its signs. -/
def noteCells (h : HeadD) (v : Value) : List Value := headCells h ++ [v]
theorem noteCells_len {h : HeadD} (ok : h.Ok) (v : Value) : (noteCells h v).length = 99 := by unfold noteCells; rw [List.length_append, headCells_len ok]; rfl
theorem noteCells_head {h : HeadD} (v : Value) (j : Nat) (u : Value) (hu : (headCells h)[j]? = some u) : (noteCells h v)[0 + j]? = some u := by
  unfold noteCells
  rw [Nat.zero_add, List.getElem?_append_left (List.getElem?_eq_some_iff.1 hu).1]
  exact hu
theorem noteCells_row {h : HeadD} (ok : h.Ok) (v : Value) : (noteCells h v)[98]? = some v := by
  unfold noteCells
  rw [List.getElem?_append_right (by rw [headCells_len ok]; exact Nat.le_refl _), headCells_len ok]
  rfl
theorem none_no {α : Type} {b : Bool} {d : α} (h : none = if b = true then some d else none) : b = false := by
  cases b with
  | false => rfl
  | true => cases h
theorem some_yes {α : Type} {b : Bool} {r d : α} (h : some r = if b = true then some d else none) : b = true ∧ r = d := by
  cases b with
  | false => cases h
  | true => exact ⟨rfl, Option.some.inj h⟩
/-- The block of a note that was handed in. -/
structure NoteAt (w : World) (g : Nat) (h : HeadD) (A : Option Addr) (n c : Nat) (ss : List Text) : Prop where
  blk : Blk w g 28 (noteCells h (.slice A n c)).toArray
  sgs : Sgs w A n ss
theorem NoteAt.below {w w' : World} {g n c : Nat} {h : HeadD} {A : Option Addr} {ss : List Text} (k : NoteAt w g h A n c ss) (hb : Below w.heap.size w w') : NoteAt w' g h A n c ss := ⟨(hb.block g k.blk.lt).trans k.blk, k.sgs.below hb⟩
theorem NoteAt.head {w : World} {g n c : Nat} {h : HeadD} {A : Option Addr} {ss : List Text} (k : NoteAt w g h A n c ss) (j : Nat) (u : Value) (hu : (headCells h)[j]? = some u) : w.cell? ⟨g, 0 + j, none⟩ = some u := by
  rw [k.blk.cell (0 + j), List.getElem?_toArray]
  exact noteCells_head _ j u hu
theorem NoteAt.row {w : World} {g n c : Nat} {h : HeadD} {A : Option Addr} {ss : List Text} (k : NoteAt w g h A n c ss) (ok : h.Ok) : w.cell? ⟨g, 98, none⟩ = some (.slice A n c) := by
  rw [k.blk.cell 98, List.getElem?_toArray]
  exact noteCells_row ok _
theorem NoteAt.new {w : World} {n c : Nat} {h : HeadD} {A : Option Addr} {ss : List Text} (k : Sgs w A n ss) : NoteAt (w.alloc (.cells (noteCells h (.slice A n c)).toArray 28)) w.heap.size h A n c ss := ⟨Blk.new _ _ _, k.below (Below.heap_below w _)⟩
end Go.Proofs.YteelanamlhfmgaaDoor.EncNote
