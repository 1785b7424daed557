/-
  Texts of the claim, put into one file: SortM.
-/
import Derived.Test.YtfbhjoejffagjaaGreatDoorZ17
import Derived.Test.YtfbhjoejffagjaaGreatDoorZ9
import Derived.Shelf.SlSortCmp.WholeK

namespace Go.Proofs.YtfbhjoejffagjaaGreatDoor.SortM
open Go Go.RowKit Go.Proofs.YtfbhjoejffagjaaGreatDoor Mem Sha Bytes SortP Compare NoteP ByKey Rise Go.Proofs.YtfbhjoejffagjaaGreatDoor.Append Own

abbrev T64 : Type := { t : Text // t.length = 64 }
instance t64_some : Inhabited T64 := ⟨⟨List.replicate 64 0, by simp⟩⟩
def enc (x : T64) : List Value := cells8 x.val
def vals (d : Array T64) : List Text := d.toList.map (·.val)
def arr (ss : List Text) (h : ∀ t ∈ ss, t.length = 64) : Array T64 := (ss.attach.map fun t => (⟨t.val, h t.val t.property⟩ : T64)).toArray
theorem arr_vals (ss : List Text) (h : ∀ t ∈ ss, t.length = 64) : vals (arr ss h) = ss := by
 unfold vals arr
 rw [List.toList_toArray, List.map_map]
 show (ss.attach.map fun t => t.val) = ss
 exact List.attach_map_subtype_val ss
theorem arr_size (ss : List Text) (h : ∀ t ∈ ss, t.length = 64) : (arr ss h).size = ss.length := by unfold arr; simp
theorem vals_len (d : Array T64) : (vals d).length = d.size := by unfold vals; simp
theorem vals_all (d : Array T64) : ∀ t ∈ vals d, t.length = 64 := fun t ht => by
 obtain ⟨x, -, rfl⟩ := List.mem_map.1 ht
 exact x.property
theorem vals_at (d : Array T64) {i : Nat} (h : i < d.size) : (vals d)[i]? = some (d[i]!).val := by
 unfold vals
 rw [List.getElem?_map, Array.getElem?_toList, getElem!_pos d i h, Array.getElem?_eq_getElem h]
 rfl
theorem flat_len : ∀ (ss : List Text), (∀ t ∈ ss, t.length = 64) → (ss.flatMap cells8).length = ss.length * 64
 | [], _ => rfl
 | s :: ss, h => by
  rw [List.flatMap_cons, List.length_append, cells8_len, h s (by simp), flat_len ss (fun t ht => h t (by simp [ht])), List.length_cons]
  omega
theorem enc_len (x : T64) : (enc x).length = 64 := by unfold enc; rw [cells8_len, x.property]
theorem enc_one (x : T64) : ∀ v ∈ enc x, v.oneCell' = true := cells8_one _
theorem flat_eq (d : Array T64) : Sort.flatK enc 64 d = ((vals d).flatMap cells8).toArray := by
 refine Sort.ext_get! ((Sort.size_flatK enc 64 d).trans (show d.size * 64 = ((vals d).flatMap cells8).length by rw [flat_len _ (vals_all d), vals_len])) fun t ht => ?_
 rw [Sort.size_flatK] at ht
 rw [Sort.get_flatK _ _ _ _ ht]
 have hi : t / 64 < d.size := by omega
 have h := flat_at64 (vals d) (vals_all d) (t / 64) (d[t / 64]!).val (t % 64) (vals_at d hi) (by omega)
 rw [show t / 64 * 64 + t % 64 = t by omega] at h
 have e1 : (enc d[t / 64]!)[t % 64]! = ((cells8 (d[t / 64]!).val)[t % 64]?).getD default := by
  unfold enc
  rw [List.getElem!_eq_getElem?_getD]
 have e2 : (((vals d).flatMap cells8).toArray)[t]! = (((vals d).flatMap cells8)[t]?).getD default := by
  rw [Array.getElem!_eq_getD, Array.getD_eq_getD_getElem?, List.getElem?_toArray]
 rw [e1, e2, h]
def cfS (x y : T64) : Int := cmpT (kyS x.val) (kyS y.val)
theorem lt_eq (x y : T64) : ltOf cfS x y = lex (kyS x.val) (kyS y.val) := by
 unfold ltOf cfS cmpT
 cases h1 : lex (kyS x.val) (kyS y.val) with
 | true => simp
 | false =>
  cases h2 : lex (kyS y.val) (kyS x.val) with
  | true => simp
  | false => simp
theorem swo : Sort.SWO (ltOf cfS) where
 irrefl x := by rw [lt_eq]; exact lex_irrefl _
 trans x y z h1 h2 := by rw [lt_eq] at *; exact lex_trans _ _ _ h1 h2
 ntrans x y z h1 h2 := by rw [lt_eq] at *; exact lex_ntrans _ _ _ h1 h2
theorem sorted_vals {d d' : Array T64} (hp : Sort.PermIn 0 d.size d d') (hs : Sort.SortedIn (ltOf cfS) 0 d.size d') : (vals d').length = d.size ∧ (vals d').Perm (vals d) ∧ (vals d').Pairwise fun a b => lex (kyS b) (kyS a) = false := by
 obtain ⟨h1, -, h3⟩ := hp
 refine ⟨by rw [vals_len, h1], ?_, ?_⟩
 ·have e1 : d'.extract 0 d.size = d' := by rw [← h1, Array.extract_size]
  have e2 : d.extract 0 d.size = d := Array.extract_size
  rw [e1, e2] at h3
  exact h3.map _
 ·rw [List.pairwise_iff_getElem]
  intro i j hi hj hij
  rw [vals_len] at hi hj
  have h := hs i j (Nat.zero_le _) hij (by omega)
  rw [lt_eq] at h
  have a1 := vals_at d' hi
  have a2 := vals_at d' hj
  rw [List.getElem?_eq_getElem (by rw [vals_len]; exact hi)] at a1
  rw [List.getElem?_eq_getElem (by rw [vals_len]; exact hj)] at a2
  rw [Option.some.inj a1, Option.some.inj a2]
  exact h
theorem putCells_all (F cur : Array Value) (h : F.size ≤ cur.size) : (Sort.putCells id 0 F cur).toList.take F.size = F.toList := by
 apply List.ext_getElem?
 intro i
 rw [List.getElem?_take]
 by_cases hi : i < F.size
 ·rw [if_pos hi, Array.getElem?_toList, Array.getElem?_toList]
  unfold Sort.putCells
  rw [Array.getElem?_mapIdx, Array.getElem?_eq_getElem (show i < cur.size by omega), Array.getElem?_eq_getElem hi, Option.map_some, if_pos ⟨Nat.zero_le _, by omega⟩, Nat.sub_zero, getElem!_pos F i hi]
  rfl
 ·rw [if_neg hi, Array.getElem?_toList, Array.getElem?_eq_none (by omega)]
theorem putCells_size (F cur : Array Value) : (Sort.putCells id 0 F cur).size = cur.size := by unfold Sort.putCells; simp
theorem heap_sorted {w : World} {g : Nat} {cur : Array Value} {e : TypeId} (hg : w.heap[g]? = some (.cells cur e (0, 0))) (k : Nat) (d : Array T64) (os : Array Obj) : (sortWorldK enc 64 w g 0 k d os).heap[g]? = some (.cells (Sort.putCells id 0 (Sort.flatK enc 64 d) cur) e (0, 0)) := by
 have hlt : g < w.heap.size := (Array.getElem?_eq_some_iff.1 hg).1
 unfold sortWorldK Sort.putRowK Sort.putRow
 rw [Sort.heap_grow_old _ _ (by unfold Sort.mapBlock; rw [Array.size_modify]; exact hlt)]
 unfold Sort.mapBlock
 rw [Array.getElem?_modify, if_pos rfl]
 show (w.heap[g]?).map _ = _
 rw [hg]
 rfl
theorem below_sorted {w : World} {g B : Nat} (hB : B ≤ g) (hw : B ≤ w.heap.size) (k : Nat) (d : Array T64) (os : Array Obj) : Below B w (sortWorldK enc 64 w g 0 k d os) := by
 refine ⟨rfl, rfl, rfl, ?_, fun i hi => ?_⟩
 ·unfold sortWorldK Sort.putRowK Sort.putRow
  rw [Sort.size_grow]
  unfold Sort.mapBlock
  rw [Array.size_modify]
  exact Nat.le_add_right _ _
 ·unfold sortWorldK Sort.putRowK Sort.putRow
  rw [Sort.heap_grow_old _ _ (by unfold Sort.mapBlock; rw [Array.size_modify]; show i < w.heap.size; omega)]
  unfold Sort.mapBlock
  rw [Array.getElem?_modify, if_neg (by omega)]
  rfl
theorem own_sorted {w : World} {B n c g : Nat} {e : TypeId} {ss : List Text} (h : w.ownsRow B e 64 (.slice (some ⟨g, 0, none⟩) n c) n (ss.flatMap cells8)) (k : Nat) (d : Array T64) (hd : d.size = n) (os : Array Obj) :
  (sortWorldK enc 64 w g 0 k d os).ownsRow B e 64 (.slice (some ⟨g, 0, none⟩) n c) n ((vals d).flatMap cells8) := by
 refine ⟨by rw [flat_len _ (vals_all d), vals_len, hd], ?_⟩
 rcases h.2 with ⟨h2, -⟩ | ⟨g2, c2, cur, h2, hB, hg, hn, hc, hsz, ht⟩
 ·cases h2
 ·injection h2 with h3 _ h4
  injection h3 with h3
  injection h3 with h3
  subst h3 h4
  refine .inr ⟨g, c, _, rfl, hB, heap_sorted hg k d os, hn, hc, by rw [putCells_size]; exact hsz, ?_⟩
  have hF : (Sort.flatK enc 64 d).size = n * 64 := by rw [Sort.size_flatK, hd]
  have hle : n * 64 ≤ c * 64 := Nat.mul_le_mul_right 64 hn
  have := putCells_all (Sort.flatK enc 64 d) cur (by rw [hF, hsz]; exact hle)
  rw [hF] at this
  rw [this, flat_eq]
theorem holds_own {w : World} {B n c g : Nat} {e : TypeId} {ss : List Text} (hl : ∀ t ∈ ss, t.length = 64) (h : w.ownsRow B e 64 (.slice (some ⟨g, 0, none⟩) n c) n (ss.flatMap cells8)) : Sort.HoldsK enc 64 w g 0 (arr ss hl) := by
 intro j hj
 rw [flat_eq, arr_vals] at hj ⊢
 rcases h.2 with ⟨h2, -⟩ | ⟨g2, c2, cur, h2, hB, hg, hn, hc, hsz, ht⟩
 ·cases h2
 ·injection h2 with h3 _ h4
  injection h3 with h3
  injection h3 with h3
  subst h3 h4
  have hj' : j < (ss.flatMap cells8).length := hj
  have hgb : Blk w g e cur := hg
  rw [Nat.zero_add]
  refine ⟨?_, hgb.frozen j⟩
  rw [hgb.cell j]
  have : (ss.flatMap cells8)[j]? = cur[j]? := by
   rw [← ht, List.getElem?_take, Array.getElem?_toList, if_pos (by have := h.1; omega)]
  rw [← this, getElem!_pos _ j hj, List.getElem?_eq_getElem hj']
  rfl
theorem byKey_lays (blk off size : Nat) (w : World) : CmpLays Tryz.prog 79 #[] enc 64 cfS blk off size w := fun m os dk _ x y => by
 refine (byKey_any x.val y.val x.property y.property (sortWorldK enc 64 w blk off m dk os)).mono fun e w' hh => ?_
 obtain ⟨he, q, hw⟩ := hh
 refine ⟨he, q, #[.cells (cells8 x.val).toArray 56, .cells (cells8 y.val).toArray 56], ?_⟩
 rw [hw, Sort.alloc_eq_grow, Sort.alloc_eq_grow, Sort.grow_grow]
 rfl
end Go.Proofs.YtfbhjoejffagjaaGreatDoor.SortM
