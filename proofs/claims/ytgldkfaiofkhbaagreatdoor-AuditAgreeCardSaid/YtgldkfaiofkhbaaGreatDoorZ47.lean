/-
  Texts of the claim, put into one file: VerP, GrowP, AudM, AudNote, Verify, AudNew, AudTake, AudEvent.
-/
import Derived.Test.YtgldkfaiofkhbaaGreatDoorZ28
import Derived.Test.YtgldkfaiofkhbaaGreatDoorZ46
import Derived.Test.YtgldkfaiofkhbaaGreatDoorZ34
import Derived.Test.YtgldkfaiofkhbaaGreatDoorZ29
import Derived.Test.YtgldkfaiofkhbaaGreatDoorZ43
import Derived.Test.YtgldkfaiofkhbaaGreatDoorZ25
import Derived.Test.YtgldkfaiofkhbaaGreatDoorZ13
import Derived.Test.YtgldkfaiofkhbaaGreatDoorZ11
import Derived.WalkSpells
import Derived.Test.YtgldkfaiofkhbaaGreatDoorZ36
import Derived.Test.YtgldkfaiofkhbaaGreatDoorZ16
import Derived.Test.YtgldkfaiofkhbaaGreatDoorZ12
import Derived.Test.YtgldkfaiofkhbaaGreatDoorZ19
import Derived.Deep.Cut
import Derived.Deep.CutRange
import Derived.Test.YtgldkfaiofkhbaaGreatDoorZ3
import Derived.Test.YtgldkfaiofkhbaaGreatDoorZ32

namespace Go.Proofs.YtgldkfaiofkhbaaGreatDoor.VerP
open Go Go.RowKit Go.Proofs.YtgldkfaiofkhbaaGreatDoor Mem Sha Bytes SortP NoteP Go.Proofs.YtgldkfaiofkhbaaGreatDoor.Append Own HeadMem HeadID RefNote Check RingM BinH RingS NewRing Go.Proofs.YtgldkfaiofkhbaaGreatDoor.Find

def pick (keys : List Text) (d : Text) : Option Text := keys.find? (fun q => decide (idOf q = d))
def verF (keys : List Text) (h : HeadD) : List Text → Option (List Text)
 | [] => some []
 | s :: rs => match pick keys (kyS s) with
  | none => verF keys h rs
  | some q => if checkAns h s q = 0 then (verF keys h rs).map (kyS s :: ·) else none
def verEnd (o : Option (List Text)) (least : Int) : Option (List Text) × Int := match o with
 | none => (none, 161)
 | some ids => if (ids.length : Int) < least then (none, 7) else (some ids, 0)
def verAns (keys : List Text) (h : HeadD) (ss : List Text) (least : Int) : Option (List Text) × Int :=
 if least < 1 ∨ 16 < least then (none, 1) else if (noteAns h ss).2 = 0 then verEnd (verF keys h ((rising kyS ss).getD [])) least else (none, 8)
def IdsPost (B : Nat) (w' : World) (v : Value) : Option (List Text) → Prop
 | none => v = .slice none 0 0
 | some ids => (∀ d ∈ ids, d.length = 32) ∧ w'.ownsRow B 23 32 v ids.length (ids.flatMap cells8)
def VerOut (keys : List Text) (h : HeadD) (ss : List Text) (least : Int) (w : World) (e : Ending) (w' : World) : Prop := ∃ v, e = .returned (.tuple #[v, .int .i64 (verAns keys h ss least).2]) ∧ Below w.heap.size w w' ∧ IdsPost w.heap.size w' v (verAns keys h ss least).1
theorem pick_none {keys : List Text} {l : List KD} {d : Text} (hp : (l.map (·.q)).Perm keys) (h : ∀ x ∈ l, idK x ≠ d) : pick keys d = none := by
 unfold pick
 rw [List.find?_eq_none]
 intro q hq
 obtain ⟨x, hx, rfl⟩ := List.mem_map.1 (hp.mem_iff.2 hq)
 have h1 : ¬ idOf x.q = d := h x hx
 simpa using h1
theorem strict_one : ∀ {l : List KD}, Strict idK l → ∀ {x y : KD}, x ∈ l → y ∈ l → idK x = idK y → x = y
 | [], _, _, _, h, _, _ => by cases h
 | z :: l, hs, x, y, hx, hy, e => by
  have hs' := List.pairwise_cons.1 hs
  rcases List.mem_cons.1 hx with e1 | hx2
  ·rcases List.mem_cons.1 hy with e2 | hy2
   ·rw [e1, e2]
   ·have := hs'.1 y hy2
    rw [← e1, e, lex_irrefl] at this
    cases this
  ·rcases List.mem_cons.1 hy with e2 | hy2
   ·have := hs'.1 x hx2
    rw [← e2, e, lex_irrefl] at this
    cases this
   ·exact strict_one hs'.2 hx2 hy2 e
theorem pick_some {keys : List Text} {l : List KD} {d : Text} {x : KD} (hp : (l.map (·.q)).Perm keys) (hs : Strict idK l) (hx : x ∈ l) (hd : idK x = d) : pick keys d = some x.q := by
 unfold pick
 cases h : keys.find? (fun q => decide (idOf q = d)) with
 | none =>
  rw [List.find?_eq_none] at h
  have := h x.q (hp.mem_iff.1 (List.mem_map.2 ⟨x, hx, rfl⟩))
  have h1 : ¬ idOf x.q = d := by simpa using this
  exact absurd hd h1
 | some q =>
  have h1 := List.find?_some h
  obtain ⟨y, hy, rfl⟩ := List.mem_map.1 (hp.mem_iff.2 (List.mem_of_find?_eq_some h))
  have h2' : idOf y.q = d := by simpa using h1
  have h2 : idK y = d := h2'
  rw [strict_one hs hy hx (h2.trans hd.symm)]
theorem find_split {l : List KD} {d : Text} {w w' : World} {e : Ending} (h : FindOut l d w e w') : Below w.heap.size w w' ∧ ∃ v, e = .returned v ∧ (((∀ x ∈ l, idK x ≠ d) ∧ v = .slice none 0 0) ∨ ∃ x ∈ l, idK x = d ∧ v = .slice x.A x.q.length x.c) := by
 obtain ⟨hb, h⟩ := h
 refine ⟨hb, ?_⟩
 rcases h with ⟨a, b⟩ | ⟨x, a, b, c⟩
 ·exact ⟨_, b, .inl ⟨a, rfl⟩⟩
 ·exact ⟨_, c, .inr ⟨x, a, b, rfl⟩⟩
theorem ver_skip {keys : List Text} {h : HeadD} {rs ids : List Text} {i : Nat} {x : Text} (hv : verF keys h rs = (verF keys h (rs.drop i)).map (ids ++ ·)) (hx : rs[i]? = some x) (hn : pick keys (kyS x) = none) : verF keys h rs = (verF keys h (rs.drop (i + 1))).map (ids ++ ·) := by
 rw [hv]
 obtain ⟨h1, rfl⟩ := List.getElem?_eq_some_iff.1 hx
 rw [List.drop_eq_getElem_cons h1, verF, hn]
theorem ver_bad {keys : List Text} {h : HeadD} {rs ids : List Text} {i : Nat} {x q : Text} (hv : verF keys h rs = (verF keys h (rs.drop i)).map (ids ++ ·)) (hx : rs[i]? = some x) (hn : pick keys (kyS x) = some q) (hc : ¬ checkAns h x q = 0) : verF keys h rs = none := by
 rw [hv]
 obtain ⟨h1, rfl⟩ := List.getElem?_eq_some_iff.1 hx
 rw [List.drop_eq_getElem_cons h1, verF, hn]
 show Option.map _ (if _ then _ else _) = _
 rw [if_neg hc]
 rfl
theorem ver_take {keys : List Text} {h : HeadD} {rs ids : List Text} {i : Nat} {x q : Text} (hv : verF keys h rs = (verF keys h (rs.drop i)).map (ids ++ ·)) (hx : rs[i]? = some x) (hn : pick keys (kyS x) = some q) (hc : checkAns h x q = 0) : verF keys h rs = (verF keys h (rs.drop (i + 1))).map (ids ++ [kyS x] ++ ·) := by
 rw [hv]
 obtain ⟨h1, rfl⟩ := List.getElem?_eq_some_iff.1 hx
 rw [List.drop_eq_getElem_cons h1, verF, hn]
 show Option.map _ (if _ then _ else _) = _
 rw [if_pos hc]
 cases verF keys h (rs.drop (i + 1)) with
 | none => rfl
 | some r => simp
theorem ver_done {keys : List Text} {h : HeadD} {rs ids : List Text} {i : Nat} (hv : verF keys h rs = (verF keys h (rs.drop i)).map (ids ++ ·)) (hi : rs.length ≤ i) : verF keys h rs = some ids := by
 rw [hv, List.drop_of_length_le hi]
 simp [verF]
theorem reads_oneN {T : TypeId} {s : Nat} (w : World) {cx : List Value} (h : cx.length = s) : Reads (w.alloc (.cells ([cx].flatten).toArray T)) s (some ⟨w.heap.size, 0, none⟩) 1 cx := by
 have hb : Blk (w.alloc (.cells ([cx].flatten).toArray T)) w.heap.size T ([cx].flatten).toArray := Blk.new _ _ _
 refine ⟨by rw [h]; simp, fun _ => ⟨w.heap.size, 0, rfl, by simp, fun j u hu => ?_⟩⟩
 rw [hb.cell]
 simpa using hu
theorem own_at {w : World} {B n s : Nat} {e : TypeId} {v : Value} {xs : List Value} (h : w.ownsRow B e s v n xs) : ∀ k, v.ownBlock = some k → B ≤ k := fun k hk => by
 rcases h.2 with ⟨h2, -⟩ | ⟨g, c, cur, hv, hBg, -⟩
 ·rw [h2] at hk; cases hk
 ·rw [hv] at hk
  have e : some g = some k := hk
  injection e with e
  omega
theorem ids_grown {w w' : World} {B m : Nat} {v v' : Value} {ids : List Text} {d : Text} (hG : Grew w B 23 32 v m 1 (ids.flatMap cells8) (cells8 d) v' w') : w'.ownsRow B 23 32 v' (m + 1) ((ids ++ [d]).flatMap cells8) := by
 have := hG.own
 rwa [List.flatMap_append, show [d].flatMap cells8 = cells8 d by simp]
end Go.Proofs.YtgldkfaiofkhbaaGreatDoor.VerP

namespace Go.Proofs.YtgldkfaiofkhbaaGreatDoor.GrowP
open Go Go.RowKit Go.Proofs.YtgldkfaiofkhbaaGreatDoor Mem Sha Bytes HeadMem VerP HeadCmp Subs RefCons EncConsAny AudJoins

def joinA (s : Int) (H h : HeadD) (x y : Int) (ds : List Text) : Int :=
 if consWant x y ds = none ∨ x ≠ H.size ∨ y ≠ h.size then 170 else audJoins s H.root h.root x y ds
def headA (s : Int) (H h : HeadD) (x y : Int) (ds : List Text) : Int :=
 if h.log ≠ H.log then 173 else if h.size < H.size then 172 else if headB h H = true then 0 else if h.size = H.size ∨ h.clock < H.clock then 173 else joinA s H h x y ds
def takeA (s least : Int) (es : List Text) (H h : HeadD) (ss : List Text) (x y : Int) (ds : List Text) : Int :=
 if (verAns es h ss least).2 ≠ 0 then (verAns es h ss least).2 else headA s H h x y ds
def newB (s least : Int) (es : List Text) (H h : HeadD) (ss : List Text) (x y : Int) (ds : List Text) : Bool := decide (takeA s least es H h ss x y ds = 0) && !headB h H
theorem take_yes {s least : Int} {es : List Text} {H h : HeadD} {ss : List Text} {x y : Int} {ds : List Text} (e : takeA s least es H h ss x y ds = 0) : (verAns es h ss least).2 = 0 ∧ headA s H h x y ds = 0 := by
 unfold takeA at e
 by_cases hv : (verAns es h ss least).2 = 0
 ·rw [if_neg (fun k => k hv)] at e
  exact ⟨hv, e⟩
 ·rw [if_pos hv] at e
  exact absurd e hv
theorem head_yes {s : Int} {H h : HeadD} {x y : Int} {ds : List Text} (e : headA s H h x y ds = 0) : h.log = H.log ∧ ((headB h H = true ∧ h = H) ∨ (headB h H = false ∧ H.size < h.size ∧ H.clock ≤ h.clock)) := by
 unfold headA at e
 by_cases h1 : h.log ≠ H.log
 ·rw [if_pos h1] at e
  exact absurd e (by decide)
 ·rw [if_neg h1] at e
  refine ⟨Decidable.not_not.1 h1, ?_⟩
  by_cases h2 : h.size < H.size
  ·rw [if_pos h2] at e
   exact absurd e (by decide)
  ·rw [if_neg h2] at e
   cases h3 : headB h H with
   | true => exact .inl ⟨rfl, headB_yes h3⟩
   | false =>
    rw [if_neg (by rw [h3]; decide)] at e
    by_cases h4 : h.size = H.size ∨ h.clock < H.clock
    ·rw [if_pos h4] at e
     exact absurd e (by decide)
    ·exact .inr ⟨rfl, by omega, by omega⟩
end Go.Proofs.YtgldkfaiofkhbaaGreatDoor.GrowP

namespace Go.Proofs.YtgldkfaiofkhbaaGreatDoor.AudM
open Go Go.RowKit Go.Proofs.YtgldkfaiofkhbaaGreatDoor Mem Sha Bytes SortP NoteP Rise SortM SgM HeadMem EncNote NoteM HeadCmp GrowP

def audC (s least : Int) (R : Nat) (h : HeadD) (v : Value) : List Value := [.int .i64 s, .int .i64 least, .pointer (some ⟨R, 0, none⟩)] ++ noteCells h v
theorem audC_len {s least : Int} {R : Nat} {h : HeadD} (ok : h.Ok) (v : Value) : (audC s least R h v).length = 102 := by unfold audC; rw [List.length_append, noteCells_len ok]; rfl
theorem audC_note {s least : Int} {R : Nat} {h : HeadD} (v : Value) (j : Nat) (u : Value) (hu : (noteCells h v)[j]? = some u) : (audC s least R h v)[3 + j]? = some u := by
 unfold audC
 rw [List.getElem?_append_right (by simp), List.length_cons, List.length_cons, List.length_cons, List.length_nil, show 3 + j - (0 + 1 + 1 + 1) = j by omega]
 exact hu
structure AudAt (w : World) (a : Nat) (s least : Int) (R : Nat) (h : HeadD) (A : Option Addr) (n c : Nat) (ss : List Text) : Prop where
 ok : h.Ok
 nil : A = none → n = 0 ∧ c = 0
 few : n ≤ 16
 blk : Blk w a 126 (audC s least R h (.slice A n c)).toArray
 sgs : Sgs w A n ss
section
variable {w w' : World} {a : Nat} {s least : Int} {R : Nat} {h : HeadD} {A : Option Addr} {n c : Nat} {ss : List Text}
theorem AudAt.below (k : AudAt w a s least R h A n c ss) (hb : Below w.heap.size w w') : AudAt w' a s least R h A n c ss := ⟨k.ok, k.nil, k.few, (hb.block _ k.blk.lt).trans k.blk, k.sgs.below hb⟩
theorem _root_.Go.Proofs.YtgldkfaiofkhbaaGreatDoor.Rise.Sgs.kept {S : Nat → Prop} (k : Sgs w A n ss) (hk : Kept S w w') (hS : ∀ b o, A = some ⟨b, o, none⟩ → ¬ S b) : Sgs w' A n ss := ⟨k.len, k.all, k.rd.kept hk hS⟩
theorem AudAt.kept {S : Nat → Prop} (k : AudAt w a s least R h A n c ss) (hk : Kept S w w') (h1 : ¬ S a) (h2 : ∀ b o, A = some ⟨b, o, none⟩ → ¬ S b) : AudAt w' a s least R h A n c ss := ⟨k.ok, k.nil, k.few, k.blk.kept hk h1, k.sgs.kept hk h2⟩
theorem AudAt.width (k : AudAt w a s least R h A n c ss) : w.cell? ⟨a, 0, none⟩ = some (.int .i64 s) := by rw [k.blk.cell 0]; rfl
theorem AudAt.wants (k : AudAt w a s least R h A n c ss) : w.cell? ⟨a, 1, none⟩ = some (.int .i64 least) := by rw [k.blk.cell 1]; rfl
theorem AudAt.ring (k : AudAt w a s least R h A n c ss) : w.cell? ⟨a, 2, none⟩ = some (.pointer (some ⟨R, 0, none⟩)) := by rw [k.blk.cell 2]; rfl
theorem AudAt.note (k : AudAt w a s least R h A n c ss) (j : Nat) (u : Value) (hu : (noteCells h (.slice A n c))[j]? = some u) : w.cell? ⟨a, 3 + j, none⟩ = some u := by
 rw [k.blk.cell (3 + j), List.getElem?_toArray]
 exact audC_note _ j u hu
theorem AudAt.head (k : AudAt w a s least R h A n c ss) (j : Nat) (u : Value) (hu : (headCells h)[j]? = some u) : w.cell? ⟨a, 3 + j, none⟩ = some u := by
 refine k.note j u ?_
 have := noteCells_head (h := h) (.slice A n c) j u hu
 rwa [Nat.zero_add] at this
theorem AudAt.row (k : AudAt w a s least R h A n c ss) : w.cell? ⟨a, 101, none⟩ = some (.slice A n c) := k.note 98 _ (noteCells_row k.ok _)
end
theorem audC_set {s least : Int} {R : Nat} {h h' : HeadD} (ok : h.Ok) (ok' : h'.Ok) (v v' : Value) : ((audC s least R h v).toArray.toList.take 3 ++ (noteCells h' v').toArray.toList ++ (audC s least R h v).toArray.toList.drop (3 + (noteCells h' v').toArray.size)).toArray = (audC s least R h' v').toArray := by
 have e1 : (noteCells h' v').toArray.size = 99 := by rw [List.size_toArray, noteCells_len ok']
 have e2 : (audC s least R h v).drop (3 + 99) = [] := List.drop_of_length_le (by rw [audC_len ok]; omega)
 rw [e1, List.toList_toArray, List.toList_toArray, e2, List.append_nil]
 congr 1
def TakePost (a : Nat) (s least : Int) (R : Nat) (es : List Text) (H h : HeadD) (rs : List Text) (x y : Int) (ds : List Text) (w w' : World) : Prop :=
 (newB s least es H h rs x y ds = false ∧ Below w.heap.size w w') ∨ (newB s least es H h rs x y ds = true ∧ Kept (· = a) w w' ∧ ∃ (A' : Option Addr) (n' c' : Nat), AudAt w' a s least R h A' n' c' rs ∧ ∀ b, A' = some b → w.heap.size ≤ b.block)
def TakeOut (a : Nat) (s least : Int) (R : Nat) (es : List Text) (H h : HeadD) (rs : List Text) (x y : Int) (ds : List Text) (w : World) (e : Ending) (w' : World) : Prop :=
 e = .returned (.int .i64 (takeA s least es H h rs x y ds)) ∧ TakePost a s least R es H h rs x y ds w w'
theorem TakeOut.kept {a : Nat} {s least : Int} {R : Nat} {es : List Text} {H h : HeadD} {rs : List Text} {x y : Int} {ds : List Text} {w w' : World} {e : Ending} (k : TakeOut a s least R es H h rs x y ds w e w') : Kept (· = a) w w' := by
 rcases k.2 with ⟨-, hb⟩ | ⟨-, hk, -⟩
 ·exact Kept.of_below hb
 ·exact hk
theorem ownS_off {S : Nat → Prop} {w w' : World} {B n : Nat} {v : Value} {ds : List Text} (h : OwnS w B v n ds) (hk : Kept S w w') (hS : ∀ k, S k → k < B) : OwnS w' B v n ds := by
 obtain ⟨h1, h2, hFl, hown⟩ := h
 refine ⟨h1, h2, hFl, ?_⟩
 rcases hown with h | ⟨g, c, cur, hv, hBg, hg, hnc, hcm, hcs, htk⟩
 ·exact .inl h
 ·exact .inr ⟨g, c, cur, hv, hBg, Blk.kept hg hk (fun x => by have := hS g x; omega), hnc, hcm, hcs, htk⟩
end Go.Proofs.YtgldkfaiofkhbaaGreatDoor.AudM

namespace Go.Proofs.YtgldkfaiofkhbaaGreatDoor.AudNote
open Go Go.RowKit Go.Proofs.YtgldkfaiofkhbaaGreatDoor Mem Sha Bytes SortP NoteP QuietTail Grown Held Want Go.Proofs.YtgldkfaiofkhbaaGreatDoor.Append Own Rise SortM SgM HeadMem EncNote NoteM Fill HeadTake Decode AudM

def CopyOut (h : HeadD) (n : Nat) (ss : List Text) (w : World) (e : Ending) (w' : World) : Prop := ∃ (A' : Option Addr) (c' : Nat), e = .returned (.agg (noteCells h (.slice A' n c')).toArray) ∧ OwnS w' w.heap.size (.slice A' n c') n ss ∧ Below w.heap.size w w'
theorem CopyOut.mk_ {h : HeadD} {n c' : Nat} {ss : List Text} {w w' : World} {e : Ending} {A' : Option Addr} (he : e = .returned (.agg (noteCells h (.slice A' n c')).toArray)) (hO : OwnS w' w.heap.size (.slice A' n c') n ss) (hb : Below w.heap.size w w') : CopyOut h n ss w e w' := ⟨A', c', he, hO, hb⟩
theorem sgs_own {w : World} {A : Option Addr} {n : Nat} {ss : List Text} (h : Sgs w A n ss) : Sns ss ∧ ss.length = n := ⟨h.all, h.len⟩
set_option maxRecDepth 100000 in
set_option maxHeartbeats 4000000 in
theorem copied_any (h : HeadD) (ok : h.Ok) (ss : List Text) (n : Nat) (hn47 : n ≤ 2199023255552) (A : Option Addr) (c : Nat) (hnil : A = none → n = 0 ∧ c = 0) (w : World) (hS : Sgs w A n ss) :
  Calls Tryz.prog 68 #[.agg (noteCells h (.slice A n c)).toArray] w (CopyOut h n ss w) := by
 obtain ⟨i0, ii, iz0, iz1, iz2⟩ := info_partsN info64
 obtain ⟨w1, hw1⟩ : ∃ w1, Hid ((w.alloc (.cells (noteCells h (.slice A n c)).toArray 39)).alloc (.cells Z99 39) = w1) := ⟨_, Lib.hid rfl⟩
 have hw1' : (w.alloc (.cells (noteCells h (.slice A n c)).toArray 39)).alloc (.cells Tryz.zeroCells39 39) = w1 := hw1.out
 have hs0 : Hid (w.heap.size + 2 = w1.heap.size) := by show _ = _; rw [← hw1.out]; simp
 have N1 : Hid (NoteAt w1 w.heap.size h A n c ss) := by show NoteAt _ _ _ _ _ _ _; rw [← hw1.out]; exact (NoteAt.new hS).below (Below.heap_below _ _)
 have R1 : Hid (Blk w1 (w.heap.size + 1) 39 Z99) := by
  show Blk _ _ _ _
  rw [← hw1.out]
  have := Blk.new (w.alloc (.cells (noteCells h (.slice A n c)).toArray 39)) 39 Z99
  rwa [show (w.alloc (.cells (noteCells h (.slice A n c)).toArray 39)).heap.size = w.heap.size + 1 by simp] at this
 have b1 : Hid (Below w.heap.size w w1) := by show Below _ _ _; rw [← hw1.out]; exact (Below.heap_below w _).alloc (by simp) _
 have hsz : Hid ((Tryz.prog.info? 36).map (·.size) = some (headCells h).length) := by show _ = _; rw [headCells_len ok]; exact size98
 have z1 := Lib.hid (fun v => note_size ok v)
 have z2 := Lib.hid (fun v => note_zero ok v)
 have z3 := Lib.hid (fun A n c => note_one (h := h) A n c)
 have hbn := Lib.hid (fun A n c w' => run_note ok A n c w')
 have hso := Lib.hid (sgs_own hS)
 have hc1 : Hid (0 + n ≤ maxLen) := by show _ ≤ _; unfold maxLen; omega
 have hc2 : Hid ((0 + n) * 64 ≤ 140737488355328) := by show _ ≤ _; omega
 have hn0 := Lib.hid hnil
 have hrow := Lib.hid (N1.out.row ok)
 clear hw1 ok hnil hS hn47
 go_enter Tryz.func68, Tryz.ntmps68
 go_upto_region 1 with fail
 have s0 : Hid (Kept (· = w.heap.size + 1) w1 w1.drew) := (Kept.refl _ w1).drew
 refine held_start (fun w' => Kept (· = w.heap.size + 1) w1 w') 7 rfl (by kernel_rfl) ?_
 refine Held.tk0 (i := 0) (v := .pointer (some ⟨w.heap.size, 0, none⟩)) rfl s0.out (fun w' hw' => by go_simp) ?_
 (intro K k; go_simp; apply k; clear k K)
 refine Held.tk0 (i := 1) (v := .agg (headCells h).toArray) rfl s0.out (fun w' hw' => exec_part 36 (.tmp 3) rfl (w.heap.size) (0) rfl (headCells h) _ ((fun j u hu => (Kept.cell hw' (p := ⟨w.heap.size, 0 + j, none⟩) N1.out.blk.lt (by simp)).trans (N1.out.head j u hu))) Tryz.underlying36 rfl hsz.out) ?_
 (intro K k; go_simp; apply k; clear k K)
 refine Held.tk0 (i := 2) (v := .pointer (some ⟨w.heap.size, 98, none⟩)) rfl s0.out (fun w' hw' => by go_simp) ?_
 (intro K k; go_simp; apply k; clear k K)
 refine Held.tk0 (i := 3) (v := .slice A n c) rfl s0.out (fun w' hw' => by have hc := (Kept.cell hw' (p := ⟨w.heap.size, 98, none⟩) N1.out.blk.lt (by simp)).trans hrow.out; go_simp) ?_
 (intro K k; go_simp; apply k; clear k K)
 refine held_only (i := 4) rfl (by kernel_rfl) (by rfl) (fun K hK => ?_)
 refine Append.wp_append_src _ (.const (.slice none 0 0)) (.tmp 6) 37 rfl w1.heap.size 57 i0 (.agg Z64) 64 64 Tryz.underlying37 ii iz0 iz1 iz2 rfl (by decide) (.slice none 0 0) 0 (([] : List Text).flatMap cells8) rfl (World.ownsRow_nil _ _ _ _) A n c (ss.flatMap cells8) rfl N1.out.sgs.rd.drew hn0.out (one_signs ss) hc1.out hc2.out (Nat.le_refl _) (fun v8 w8 hG => ?_)
 obtain ⟨hO8, hb8⟩ := grew_signs (xs := []) hG (Below.refl w1.heap.size w1.drew) (Nat.le_refl _) (OwnS.nil _ _) hso.out.1 hso.out.2
 rw [Nat.zero_add, List.nil_append] at hO8
 obtain ⟨A8, c8, rfl, -⟩ := OwnS.reads hO8
 replace hO8 := Lib.hid hO8
 have bb8 : Hid (Below w1.heap.size w1 w8) := ((Below.refl _ w1).drew).trans hb8
 have k8 : Hid (Kept (· = w.heap.size + 1) w1 w8) := Kept.of_below bb8.out
 have R8 : Hid (Blk w8 (w.heap.size + 1) 39 Z99) := (bb8.out.block _ R1.out.lt).trans R1.out
 clear hG hb8
 go_simp
 refine hK _ _ k8.out ?_
 clear hK K
 refine Held.tk0 (i := 5) (v := .agg (noteCells h (.slice A8 n c8)).toArray) rfl k8.out (fun w' hw' => exec_build 39 #[(0, .tmp 4), (1, .tmp 7)] rfl #[(0, .agg (headCells h).toArray), (1, .slice A8 n c8)] (by first | rfl | (simp [Act.eval]; done)) _ (hbn.out A8 n c8 w')) ?_
 (intro K k; go_simp; apply k; clear k K)
 refine held_only (i := 6) rfl (by kernel_rfl) (by rfl) (fun K hK => ?_)
 refine wp_store_whole 39 (.tmp 2) (.tmp 8) rfl (w.heap.size + 1) (noteCells h (.slice A8 n c8)).toArray rfl rfl 39 Z99 R8.out (z1.out _) (z2.out _) (z3.out _ _ _) ?_
 intro w9 B9 kk9
 have hO9 : Hid (OwnS w9 w.heap.size (.slice A8 n c8) n ss) := (ownS_off hO8.out kk9 (fun k e => by have := hs0.out; omega)).base b1.out.size
 have hb9 : Hid (Below w.heap.size w w9) := (b1.out.trans (bb8.out.mono b1.out.size)).trans (Kept.below_of kk9 (Nat.le_succ _) (b1.out.trans (bb8.out.mono b1.out.size)).size)
 have k9 : Hid (Kept (· = w.heap.size + 1) w1 w9) := k8.out.trans kk9 (fun i _ e => e)
 replace B9 := Lib.hid B9
 clear kk9
 go_simp
 refine hK _ _ k9.out ?_
 clear hK K
 refine held_end (by kernel_rfl) ?_
 go_wp2_with fail
 refine bodyPost_ret (results_cell_row rfl _ _ (w.heap.size + 1) 39 (noteCells h (.slice A8 n c8)).toArray (0, 0) _ rfl B9.out Tryz.underlying39 rfl (z1.out _)) rfl ?_
 exact CopyOut.mk_ rfl hO9.out hb9.out
set_option maxRecDepth 100000 in
set_option maxHeartbeats 4000000 in
theorem audHead_any (a : Nat) (s least : Int) (R : Nat) (h : HeadD) (A : Option Addr) (n c : Nat) (ss : List Text) (w : World) (hA : AudAt w a s least R h A n c ss) :
  Calls Tryz.prog 18 #[.pointer (some ⟨a, 0, none⟩)] w fun e w' => e = .returned (.agg (headCells h).toArray) ∧ Below w.heap.size w w' := by
 obtain ⟨w1, hw1⟩ : ∃ w1, Hid (w.alloc (.cells Z98 36) = w1) := ⟨_, Lib.hid rfl⟩
 have hw1' : w.alloc (.cells Tryz.zeroCells36 36) = w1 := hw1.out
 have R1 : Hid (Blk w1 w.heap.size 36 Z98) := by show Blk _ _ _ _; rw [← hw1.out]; exact Blk.new w _ _
 have b1 : Hid (Below w.heap.size w w1) := by show Below _ _ _; rw [← hw1.out]; exact Below.heap_below w _
 have hA1 := Lib.hid (hA.below b1.out)
 have hsz : Hid ((Tryz.prog.info? 36).map (·.size) = some (headCells h).length) := by show _ = _; rw [headCells_len hA.ok]; exact size98
 have hsz' : Hid ((Tryz.prog.info? 36).map (·.size) = some (headCells h).toArray.size) := by show _ = _; rw [List.size_toArray]; exact hsz.out
 have z2 : Hid (Z98.size = (headCells h).toArray.size) := z98_size.trans (show 98 = (headCells h).length from (headCells_len hA.ok).symm)
 have z3 : Hid ((headCells h).toArray.all (fun v => v.oneCell') = true) := by show _ = _; rw [List.all_toArray]; exact List.all_eq_true.2 (headCells_one h)
 clear hw1 hA
 go_enter Tryz.func18, Tryz.ntmps18
 go_wp2_with (first
  | (((with_reducible change wpList _ _ _ (⟨some 7, _, _, _, _, _⟩ :: _) _ _); refine wpList_load_part (o := ⟨some 7, _, _, _, _, _⟩) rfl 36 (.tmp 6) rfl (a) (3) rfl (headCells h) _ hA1.out.head Tryz.underlying36 rfl hsz.out ?_))
  | ((with_reducible change wpList _ _ _ ({ dst := none, op := Op.store 36 (.tmp 2) (.tmp 7), type := _, pos := _, after := _, guard := _ } :: _) _ _); refine wpList_store_row (o := ⟨none, _, _, _, _, _⟩) rfl 36 (.tmp 2) (.tmp 7) rfl w.heap.size (headCells h).toArray rfl rfl 36 Z98 R1.out hsz'.out z2.out z3.out ?_))
 refine bodyPost_ret (results_cell_row rfl _ _ w.heap.size 36 (headCells h).toArray (0, 0) _ rfl (setRow_heap _ _ _ _ _ _ R1.out) Tryz.underlying36 rfl hsz'.out) rfl ?_
 exact ⟨rfl, below_setRow b1.out (Nat.le_refl _) _⟩
set_option maxRecDepth 100000 in
set_option maxHeartbeats 4000000 in
theorem audNote_any (a : Nat) (s least : Int) (R : Nat) (h : HeadD) (A : Option Addr) (n c : Nat) (ss : List Text) (w : World) (hA : AudAt w a s least R h A n c ss) :
  Calls Tryz.prog 19 #[.pointer (some ⟨a, 0, none⟩)] w (CopyOut h n ss w) := by
 obtain ⟨w1, hw1⟩ : ∃ w1, Hid (w.alloc (.cells Z99 39) = w1) := ⟨_, Lib.hid rfl⟩
 have hw1' : w.alloc (.cells Tryz.zeroCells39 39) = w1 := hw1.out
 have R1 : Hid (Blk w1 w.heap.size 39 Z99) := by show Blk _ _ _ _; rw [← hw1.out]; exact Blk.new w _ _
 have b1 : Hid (Below w.heap.size w w1) := by show Below _ _ _; rw [← hw1.out]; exact Below.heap_below w _
 have hA1 := Lib.hid (hA.below b1.out)
 have zL : Hid ((Tryz.prog.info? 39).map (·.size) = some (noteCells h (.slice A n c)).length) := by show _ = _; have := note_size hA.ok (.slice A n c); rw [List.size_toArray] at this; exact this
 have z1 := Lib.hid (fun v => note_size hA.ok v)
 have z2 := Lib.hid (fun v => note_zero hA.ok v)
 have z3 := Lib.hid (fun A n c => note_one (h := h) A n c)
 clear hw1 hA
 go_enter Tryz.func19, Tryz.ntmps19
 go_wp2_with (first
  | (((with_reducible change wpList _ _ _ (⟨some 6, _, _, _, _, _⟩ :: _) _ _); refine wpList_load_part (o := ⟨some 6, _, _, _, _, _⟩) rfl 39 (.tmp 5) rfl (a) (3) rfl (noteCells h (.slice A n c)) _ hA1.out.note Tryz.underlying39 rfl zL.out ?_))
  | (go_at_call 68; refine (copied_any h hA1.out.ok ss n (by have := hA1.out.few; omega) A c hA1.out.nil w1 hA1.out.sgs).mono ?_; rintro e w2 ⟨A2, c2, rfl, hO, hb2⟩; have hO2 : Hid (OwnS w2 w.heap.size (.slice A2 n c2) n ss) := hO.base b1.out.size; have bb2 : Hid (Below w.heap.size w w2) := b1.out.trans (hb2.mono b1.out.size); have R2 : Hid (Blk w2 w.heap.size 39 Z99) := (hb2.block _ R1.out.lt).trans R1.out; have hOn : Hid (OwnS w2 w1.heap.size (.slice A2 n c2) n ss) := hO; have hlt1 : Hid (w.heap.size < w1.heap.size) := R1.out.lt; clear hO hb2)
  | ((with_reducible change wpList _ _ _ ({ dst := none, op := Op.store 39 (.tmp 2) (.tmp 7), type := _, pos := _, after := _, guard := _ } :: _) _ _); refine Held.wpList_store_whole (o := ⟨none, _, _, _, _, _⟩) rfl 39 (.tmp 2) (.tmp 7) rfl w.heap.size (noteCells h (.slice A2 n c2)).toArray rfl rfl 39 Z99 R2.out (z1.out _) (z2.out _) (z3.out _ _ _) ?_; intro w9 B9 kk9; have hO9 : Hid (OwnS w9 w.heap.size (.slice A2 n c2) n ss) := (ownS_off hOn.out kk9 (fun k e => by have := hlt1.out; omega)).base b1.out.size; have hb9 : Hid (Below w.heap.size w w9) := bb2.out.trans (Kept.below_of kk9 (Nat.le_refl _) bb2.out.size); replace B9 := Lib.hid B9; clear kk9))
 refine bodyPost_ret (results_cell_row rfl _ _ w.heap.size 39 (noteCells h (.slice A2 n c2)).toArray (0, 0) _ rfl B9.out Tryz.underlying39 rfl (z1.out _)) rfl ?_
 exact CopyOut.mk_ rfl hO9.out hb9.out
end Go.Proofs.YtgldkfaiofkhbaaGreatDoor.AudNote

namespace Go.Proofs.YtgldkfaiofkhbaaGreatDoor.Verify
open Go Go.RowKit Go.Proofs.YtgldkfaiofkhbaaGreatDoor Mem Sha Bytes SortP NoteP Grown Want Go.Proofs.YtgldkfaiofkhbaaGreatDoor.Append Own Rise SortM SgM HashMem HeadMem EncNoteP EncNote NoteM RefNote Sign Signs Check Decode Rising0 RingM BinH RingS NewRing Go.Proofs.YtgldkfaiofkhbaaGreatDoor.Find VerP

theorem size32v : (Tryz.prog.info? 23).map (·.size) = some 32 := by kernel_rfl
theorem zero32v : ((Tryz.prog.info? 23).bind (·.zero)).isSome = true := by kernel_rfl
theorem info32v : (Tryz.prog.info? 23).map (fun i => (i.zero, i.size, i.bytes)) = some (some (.agg Z32), 32, 32) := by kernel_rfl
theorem eql_nil (w : World) (a : Option Addr) (n c : Nat) : (binOp .eql 27 (.slice a n c) (.slice none 0 0)).run Tryz.prog w = .ok (.bool a.isNone) w := by
 simp only [binOp]
 simp [Op.equal, Op.maxDepth, Lib.run_equalIn_slice_nil w 9999 27 _ a n c 0 0 Tryz.underlying27]
theorem out_ver {keys : List Text} {h : HeadD} {ss : List Text} {least : Int} {w w' : World} {o : Option (List Text)} {k : Int} {v : Value} (ha : verAns keys h ss least = (o, k)) (hb : Below w.heap.size w w') (hp : IdsPost w.heap.size w' v o) : VerOut keys h ss least w (.returned (.tuple #[v, .int .i64 k])) w' := ⟨v, by rw [ha], hb, by rw [ha]; exact hp⟩
set_option maxRecDepth 100000 in
set_option maxHeartbeats 8000000 in
theorem verify_any (keys : List Text) (l : List KD) (hpm : (l.map (·.q)).Perm keys) (hst : Strict idK l) (hl64 : l.length ≤ 64) (hkb : ∀ x ∈ l, keyB x.q.length = true) (h : HeadD) (ok : h.Ok) (ss : List Text) (n : Nat) (A : Option Addr) (c : Nat) (hnil : A = none → n = 0 ∧ c = 0) (least : Int) (R : Nat) (w : World) (hB : Base w) (hR : RingAt w R l) (hS : Sgs w A n ss) :
  Calls Tryz.prog 65 #[.pointer (some ⟨R, 0, none⟩), .agg (noteCells h (.slice A n c)).toArray, .int .i64 least] w (VerOut keys h ss least w) := by
 obtain ⟨w0, hw0⟩ : ∃ w0, Hid (w.alloc (.cells (noteCells h (.slice A n c)).toArray 39) = w0) := ⟨_, Lib.hid rfl⟩
 have N0 : Hid (NoteAt w0 w.heap.size h A n c ss) := by show NoteAt _ _ _ _ _ _ _; rw [← hw0.out]; exact NoteAt.new hS
 have hb0 : Hid (Below w.heap.size w w0) := by show Below _ _ _; rw [← hw0.out]; exact Below.heap_below w _
 have hw0' := hw0.out
 have zN := Lib.hid (fun v => note_size ok v)
 have hBs : Hid (∀ w', Below w.heap.size w w' → Base w') := fun w' hb => hB.below hb hB.1
 have hRs : Hid (∀ w', Below w.heap.size w w' → RingAt w' R l) := fun w' hb => hR.below hb
 have ok' := Lib.hid ok
 have hnl := Lib.hid hnil
 have hpm0 := Lib.hid hpm
 have hst0 := Lib.hid hst
 have hl0 := Lib.hid hl64
 have hkb0 := Lib.hid hkb
 clear hw0 hB hR hS ok hnil hpm hst hl64 hkb
 by_cases hl1 : least < 1
 ·have ha : Hid (verAns keys h ss least = (none, 1)) := by show _ = _; unfold verAns; rw [if_pos (.inl hl1)]
  go_enter Tryz.func65, Tryz.ntmps65
  go_wp2_with fail
  go_ret2
  exact out_ver ha.out hb0.out rfl
 by_cases hl2 : 16 < least
 ·have ha : Hid (verAns keys h ss least = (none, 1)) := by show _ = _; unfold verAns; rw [if_pos (.inr hl2)]
  have x1 : (least < 1) = False := eq_false hl1
  clear hl1
  go_enter Tryz.func65, Tryz.ntmps65
  go_wp2_with fail
  go_ret2
  exact out_ver ha.out hb0.out rfl
 have x1 : (least < 1) = False := eq_false hl1
 have x2 : ((16 : Int) < least) = False := eq_false hl2
 have hls : Hid (¬ (least < 1 ∨ 16 < least)) := fun h => by rcases h with h | h <;> contradiction
 clear hl1 hl2
 obtain ⟨k7, hk7⟩ : ∃ k7, Hid ((noteAns h ss).2 = k7) := ⟨_, Lib.hid rfl⟩
 by_cases hk0 : ¬ (k7 = 0)
 ·have ha : Hid (verAns keys h ss least = (none, 8)) := by show _ = _; unfold verAns; rw [if_neg hls.out, hk7.out, if_neg hk0]
  go_enter Tryz.func65, Tryz.ntmps65
  go_wp2_with (first
  | (((with_reducible change wpList _ _ _ (⟨some 23, _, _, _, _, _⟩ :: _) _ _); refine wpList_load_row (o := ⟨some 23, _, _, _, _, _⟩) rfl 39 (.tmp 4) rfl (w.heap.size) rfl 39 ((noteCells h (.slice A n c)).toArray) (0, 0) _ N0.out.blk Tryz.underlying39 rfl (zN.out _) ?_))
  | (go_at_call 125; refine (encnote_any h ok'.out ss n A c w0 N0.out.sgs).mono ?_; rw [hk7.out]; rintro e w1 ⟨v1, rfl, hb1, -⟩; have bb1 : Hid (Below w.heap.size w w1) := hb0.out.trans (hb1.mono hb0.out.size); have N1 := Lib.hid (N0.out.below hb1); have hR1 := N1.out.row ok'.out; clear hb1 hw0'))

  go_ret2
  exact out_ver ha.out bb1.out rfl
 have hk1 : k7 = 0 := Decidable.not_not.1 hk0
 subst hk1
 clear hk0
 obtain ⟨hn16, rs, hrs⟩ : n ≤ 16 ∧ ∃ rs, Hid (rising kyS ss = some rs) := by
  rcases note_cases h ss n N0.out.sgs.len with ⟨-, e⟩ | ⟨-, -, e⟩ | ⟨-, -, e⟩ | ⟨-, -, -, -, e⟩ | ⟨-, -, h3, rs, h4, e⟩
  ·have := hk7.out; rw [e] at this; cases this
  ·have := hk7.out; rw [e] at this; cases this
  ·have := hk7.out; rw [e] at this; cases this
  ·have := hk7.out; rw [e] at this; cases this
  ·exact ⟨h3, rs, h4⟩
 have hn0 := Lib.hid hn16
 clear hn16
 have hvE : Hid (verAns keys h ss least = verEnd (verF keys h rs) least) := by show _ = _; unfold verAns; rw [if_neg hls.out, hk7.out, if_pos rfl, hrs.out]; rfl
 obtain ⟨vf, hvf⟩ : ∃ vf, Hid (verF keys h rs = vf) := ⟨_, Lib.hid rfl⟩
 rw [hvf.out] at hvE
 obtain ⟨i0, ii, iz0, iz1, iz2⟩ := info_partsN info32v
 go_enter Tryz.func65, Tryz.ntmps65
 go_upto_region 8 with (first
  | (((with_reducible change wpList _ _ _ (⟨some 23, _, _, _, _, _⟩ :: _) _ _); refine wpList_load_row (o := ⟨some 23, _, _, _, _, _⟩) rfl 39 (.tmp 4) rfl (w.heap.size) rfl 39 ((noteCells h (.slice A n c)).toArray) (0, 0) _ N0.out.blk Tryz.underlying39 rfl (zN.out _) ?_))
  | (go_at_call 125; refine (encnote_any h ok'.out ss n A c w0 N0.out.sgs).mono ?_; rw [hk7.out]; rintro e w1 ⟨v1, rfl, hb1, -⟩; have bb1 : Hid (Below w.heap.size w w1) := hb0.out.trans (hb1.mono hb0.out.size); have N1 := Lib.hid (N0.out.below hb1); have hR1 := N1.out.row ok'.out; clear hb1 hw0')
  | (go_at_call 126; refine (rising_all ss n (by have := hn0.out; omega) A c w1 N1.out.sgs hnl.out).mono ?_; rintro e w3 ⟨A3, c3, ds, rfl, hri, hO3, hb3⟩; rw [hrs.out] at hri; obtain ⟨hr0, rfl⟩ := some_yes hri.out; rw [hr0]; have bb3 : Hid (Below w.heap.size w w3) := bb1.out.trans (hb3.out.mono bb1.out.size); have N3 := Lib.hid (N1.out.below hb3.out); have hS3 : Hid (Sgs w3 A3 n rs) := (by obtain ⟨A9, c9, e9, -, -, -, x, -⟩ := hO3.out.reads; injection e9 with e9 _ e10; subst e9 e10; exact x); clear hri hO3 hb3 bb1 N1 hR1))

 have hsz : Hid ((Tryz.prog.info? 36).map (·.size) = some (headCells h).length) := by show _ = _; rw [headCells_len ok'.out]; exact size98
 go_wp2_with fail
 go_loopw [12, 37] (fun v12 v37 wr => ∃ (i m c12 : Nat) (A12 : Option Addr) (ids : List Text), v37 = .int .i64 (i : Int) ∧ v12 = .slice A12 m c12 ∧ Hid (i ≤ n) ∧ Hid (m ≤ i) ∧ Hid (ids.length = m) ∧ Hid (∀ d ∈ ids, d.length = 32) ∧ Hid (World.ownsRow wr w3.heap.size 23 32 (.slice A12 m c12) m (ids.flatMap cells8)) ∧ Hid (vf = (verF keys h (rs.drop i)).map (ids ++ ·)) ∧ Hid (Below w3.heap.size w3 wr)) (fun _ v _ => n - (intOf v).toNat)
 case atStart => exact ⟨0, 0, 0, none, [], rfl, rfl, Nat.zero_le _, Nat.le_refl _, rfl, (fun d hd => by cases hd), World.ownsRow_nil _ _ _ _, (by show _ = _; rw [← hvf.out, List.drop_zero]; simp), Below.refl _ _⟩
 case round =>
  obtain ⟨i, m, c12, A12, ids, rfl, rfl, hin, hmi, hil, hid, hO, hv, hbe⟩ := hrel
  have hi6 : (i : Int) ≤ 16 := by have := hin.out; have := hn0.out; omega
  have hz0 : (0 : Int) ≤ (i : Int) := by omega
  have Nr := Lib.hid (N3.out.below hbe.out)
  have Sr := Lib.hid (hS3.out.below hbe.out)
  have bbr : Hid (Below w.heap.size w wr) := bb3.out.trans (hbe.out.mono bb3.out.size)
  by_cases hlt : i < n
  ·have hz : (i : Int) < (n : Int) := by omega
   have hlt' : Hid (i < n) := hlt
   obtain ⟨x, hx⟩ : ∃ x, Hid (rs[i]? = some x) := ⟨_, List.getElem?_eq_getElem (by rw [Sr.out.len]; exact hlt)⟩
   have hxl := Lib.hid (Sr.out.all x (List.mem_of_getElem? hx.out))
   obtain ⟨bx, ox, hA, hbx, hcx⟩ := Sr.out.at_ hx.out
   subst hA
   have hcx' := Lib.hid hcx
   have s64 : Hid ((Tryz.prog.info? 57).map (·.size) = some (cells8 x).length) := by show _ = _; rw [cells8_len, hxl.out]; exact Sign.size64
   have s1 := Lib.hid (sign_size x hxl.out)
   have s2 := Lib.hid (sign_zero x hxl.out)
   have s3 := Lib.hid (sign_one x)
   have hkl := Lib.hid (kyS_len hxl.out)
   have sK : Hid ((Tryz.prog.info? 23).map (·.size) = some (cells8 (kyS x)).length) := by show _ = _; rw [cells8_len, hkl.out]; exact size32v
   have q1 : Hid (∀ v ∈ [cells8 (kyS x)], v.length = 32) := fun v hv => by simp only [List.mem_singleton] at hv; rw [hv, cells8_len, hkl.out]
   clear hcx hlt
   go_upto_region 12 with (first
  | (((with_reducible change wpList _ _ _ (⟨some 40, _, _, _, _, _⟩ :: _) _ _); refine wpList_load_part (o := ⟨some 40, _, _, _, _, _⟩) rfl 57 (.tmp 39) rfl (bx) ((ox + i * 64)) rfl (cells8 x) _ hcx'.out Tryz.underlying57 rfl s64.out ?_))
  | ((with_reducible change wpList _ _ _ ({ dst := none, op := Op.store 57 (.tmp 14) (.tmp 40), type := _, pos := _, after := _, guard := _ } :: _) _ _); refine wpList_store_all (o := ⟨none, _, _, _, _, _⟩) rfl 57 (.tmp 14) (.tmp 40) rfl wr.heap.size (cells8 x).toArray rfl rfl 57 Z64 (Blk.new wr _ _) s1.out s2.out s3.out ?_; intro w4 hB4 hk4; have b4 : Hid (Below wr.heap.size wr w4) := below_new hk4; have hB4' : Hid (Blk w4 wr.heap.size 57 (cells8 x).toArray) := hB4; clear hk4 hB4; obtain ⟨g14, hg14⟩ : ∃ g14, Hid (wr.heap.size = g14) := ⟨_, Lib.hid rfl⟩; rw [hg14.out] at hB4' ⊢)
  | (((with_reducible change wpList _ _ _ (⟨some 43, _, _, _, _, _⟩ :: _) _ _); refine wpList_load_part (o := ⟨some 43, _, _, _, _, _⟩) rfl 23 (.tmp 42) rfl (g14) (0) rfl (cells8 (kyS x)) _ (fun j u hu => (hB4'.out.cell (0 + j)).trans (by rw [List.getElem?_toArray]; exact ky_cell hu)) Tryz.underlying23 rfl sK.out ?_))
  | (go_at_call 127; refine (find_any l hl0.out hst0.out (kyS x) hkl.out R w4 (hRs.out w4 (bbr.out.trans (b4.out.mono bbr.out.size)))).mono ?_; intro e w5 hF; obtain ⟨hb5, v15, rfl, hv15⟩ := find_split hF; have b45 : Hid (Below wr.heap.size wr w5) := b4.out.trans (hb5.mono b4.out.size); have bb5 : Hid (Below w.heap.size w w5) := bbr.out.trans (b45.out.mono bbr.out.size); have B5 : Hid (Blk w5 g14 57 (cells8 x).toArray) := (hb5.block _ hB4'.out.lt).trans hB4'.out; have N5 := Lib.hid (Nr.out.below b45.out); clear hb5 hF b4 hB4'))

   rcases hv15 with ⟨hno, rfl⟩ | ⟨y, hy, hyd, rfl⟩
   ·have hv' : Hid (vf = (verF keys h (rs.drop (i + 1))).map (ids ++ ·)) := hvf.out.symm.trans (ver_skip (hvf.out.trans hv.out) hx.out (pick_none hpm0.out hno))
    have hO' := Lib.hid (own_below hO.out (b45.out))
    have hnn := eql_nil w5 none 0 0
    clear hno
    go_wp2_with fail
    go_roundw
    case rel => exact ⟨i + 1, m, c12, A12, ids, by go_num, rfl, hlt'.out, Nat.le_succ_of_le hmi.out, hil.out, hid.out, hO'.out, hv'.out, hbe.out.trans (b45.out.mono hbe.out.size)⟩
    case measure => (have := hlt'.out; simp [intOf]; omega)
   ·have hpk := Lib.hid (pick_some hpm0.out hst0.out hy hyd)
    obtain ⟨_, _, -, -, -, hky⟩ := hRs.out w5 bb5.out
    obtain ⟨hry, hyc, hyn⟩ := hky y hy
    have hk64 := keyB_yes (hkb0.out y hy)
    obtain ⟨by_, oy, hyA, -⟩ := hry.2 (by have := hk64.1; omega)
    obtain ⟨ky, hky'⟩ : ∃ ky, Hid (y.q.length = ky) := ⟨_, Lib.hid rfl⟩
    obtain ⟨yA, hyA'⟩ : ∃ yA, y.A = yA := ⟨_, rfl⟩
    rw [hky'.out] at hry hyc hyn ⊢
    rw [hyA'] at hry hyn hyA ⊢
    subst hyA
    have hry' := Lib.hid hry
    have hyc' := Lib.hid hyc
    obtain ⟨yc, hyc2⟩ : ∃ yc, y.c = yc := ⟨_, rfl⟩
    rw [hyc2] at hyc' ⊢
    obtain ⟨ck, hck⟩ : ∃ ck, Hid (checkAns h x y.q = ck) := ⟨_, Lib.hid rfl⟩
    clear hy hyd hky hry hyc hyn hk64 hyA' hyc2
    have hnn : (binOp .eql 27 (.slice (some ⟨by_, oy, none⟩) ky yc) (.slice none 0 0)).run Tryz.prog w5 = .ok (.bool false) w5 := eql_nil w5 _ ky yc
    go_upto_region 13 with fail
    clear hnn
    by_cases hc0 : ck = 0
    ·subst hc0
     have hv' : Hid (vf = (verF keys h (rs.drop (i + 1))).map (ids ++ [kyS x] ++ ·)) := hvf.out.symm.trans (ver_take (hvf.out.trans hv.out) hx.out hpk.out hck.out)
     have m1 : Hid (m + 1 ≤ maxLen) := by show _ ≤ _; have := hmi.out; unfold maxLen; omega
     have m2 : Hid ((m + 1) * 32 ≤ 140737488355328) := by show _ ≤ _; have := hmi.out; omega
     go_wp2_with (first
  | (((with_reducible change wpList _ _ _ (⟨some 48, _, _, _, _, _⟩ :: _) _ _); refine wpList_load_part (o := ⟨some 48, _, _, _, _, _⟩) rfl 36 (.tmp 47) rfl (w.heap.size) (0) rfl (headCells h) _ N5.out.head Tryz.underlying36 rfl hsz.out ?_))
  | (((with_reducible change wpList _ _ _ (⟨some 49, _, _, _, _, _⟩ :: _) _ _); refine wpList_load_row (o := ⟨some 49, _, _, _, _, _⟩) rfl 57 (.tmp 14) rfl (g14) rfl 57 ((cells8 x).toArray) (0, 0) _ B5.out Tryz.underlying57 rfl s1.out ?_))
  | (go_at_call 128; refine (check_any h ok'.out x hxl.out y.q ky hky'.out _ yc w5 (hBs.out w5 bb5.out) hry'.out hyc'.out (fun e => by cases e)).mono ?_; rw [hck.out]; rintro e w6 ⟨rfl, hb6⟩; have b46 : Hid (Below wr.heap.size wr w6) := b45.out.trans (hb6.mono b45.out.size); have bb6 : Hid (Below w.heap.size w w6) := bbr.out.trans (b46.out.mono bbr.out.size); have B6 : Hid (Blk w6 g14 57 (cells8 x).toArray) := (hb6.block _ B5.out.lt).trans B5.out; clear hb6 B5 N5)
  | (((with_reducible change wpList _ _ _ (⟨some 55, _, _, _, _, _⟩ :: _) _ _); refine wpList_load_part (o := ⟨some 55, _, _, _, _, _⟩) rfl 23 (.tmp 54) rfl (g14) (0) rfl (cells8 (kyS x)) _ (fun j u hu => (B6.out.cell (0 + j)).trans (by rw [List.getElem?_toArray]; exact ky_cell hu)) Tryz.underlying23 rfl sK.out ?_))
  | ((with_reducible change wpList _ _ _ (⟨some 56, _, _, _, _, _⟩ :: _) _ _); refine wpList_buildAggs (o := ⟨some 56, _, _, _, _, _⟩) rfl 44 23 1 _ rfl 32 (by decide) [cells8 (kyS x)] Tryz.underlying44 size32v zero32v rfl (by decide) (by decide) q1.out rfl ?_; have hX : Hid (Reads (w6.alloc (.cells ([cells8 (kyS x)].flatten).toArray 23)) 32 (some ⟨w6.heap.size, 0, none⟩) 1 (cells8 (kyS x))) := reads_oneN w6 (by rw [cells8_len, hkl.out]); have b47 : Hid (Below wr.heap.size wr (w6.alloc (.cells ([cells8 (kyS x)].flatten).toArray 23))) := b46.out.alloc b46.out.size _; have hO7 := Lib.hid (own_below hO.out b47.out); have bs7 : Hid (w3.heap.size ≤ (w6.alloc (.cells ([cells8 (kyS x)].flatten).toArray 23)).heap.size) := (by have a1 := hbe.out.size; have a2 := b47.out.size; show _ ≤ _; omega); have be7 : Hid (Below w3.heap.size w3 (w6.alloc (.cells ([cells8 (kyS x)].flatten).toArray 23))) := hbe.out.trans (b47.out.mono hbe.out.size); obtain ⟨w7, hw7⟩ : ∃ w7, w6.alloc (.cells ([cells8 (kyS x)].flatten).toArray 23) = w7 := ⟨_, rfl⟩; rw [hw7] at hX b47 hO7 bs7 be7 ⊢)
  | ((with_reducible change wpList _ _ _ (⟨some 57, _, _, _, _, _⟩ :: _) _ _); refine wpList_append_src _ (o := ⟨some 57, _, _, _, _, _⟩) rfl (.tmp 53) (.tmp 56) 44 rfl w3.heap.size 23 i0 (.agg Z32) 32 32 Tryz.underlying44 ii iz0 iz1 iz2 rfl (by decide) (.slice A12 m c12) m (ids.flatMap cells8) rfl hO7.out (some ⟨w6.heap.size, 0, none⟩) 1 1 (cells8 (kyS x)) rfl hX.out (fun e => by cases e) (cells8_one _) m1.out m2.out bs7.out ?_; intro v9 w9 hG; have hO9' := ids_grown hG; have hb9 : Hid (Below w3.heap.size w3 w9) := hG.below be7.out bs7.out (fun k e => own_at hO7.out k e); obtain ⟨A9, c9, rfl, -⟩ := Own.reads hO9'; have hO9 := Lib.hid hO9'; clear hG hO9'))

     go_roundw
     case rel => exact ⟨i + 1, m + 1, c9, A9, ids ++ [kyS x], by go_num, rfl, hlt'.out, Nat.succ_le_succ hmi.out, (by show _ = _; rw [List.length_append, hil.out]; rfl), (fun d hd => by rcases List.mem_append.1 hd with hd | hd; exact hid.out d hd; simp only [List.mem_singleton] at hd; rw [hd]; exact hkl.out), hO9.out, hv'.out, hb9.out⟩
     case measure => (have := hlt'.out; simp [intOf]; omega)
    ·have ha : Hid (verAns keys h ss least = (none, 161)) := by show _ = _; rw [hvE.out, ← hvf.out, ver_bad (hvf.out.trans hv.out) hx.out hpk.out (by rw [hck.out]; exact hc0)]; rfl
     go_wp2_with (first
  | (((with_reducible change wpList _ _ _ (⟨some 48, _, _, _, _, _⟩ :: _) _ _); refine wpList_load_part (o := ⟨some 48, _, _, _, _, _⟩) rfl 36 (.tmp 47) rfl (w.heap.size) (0) rfl (headCells h) _ N5.out.head Tryz.underlying36 rfl hsz.out ?_))
  | (((with_reducible change wpList _ _ _ (⟨some 49, _, _, _, _, _⟩ :: _) _ _); refine wpList_load_row (o := ⟨some 49, _, _, _, _, _⟩) rfl 57 (.tmp 14) rfl (g14) rfl 57 ((cells8 x).toArray) (0, 0) _ B5.out Tryz.underlying57 rfl s1.out ?_))
  | (go_at_call 128; refine (check_any h ok'.out x hxl.out y.q ky hky'.out _ yc w5 (hBs.out w5 bb5.out) hry'.out hyc'.out (fun e => by cases e)).mono ?_; rw [hck.out]; rintro e w6 ⟨rfl, hb6⟩; have b46 : Hid (Below wr.heap.size wr w6) := b45.out.trans (hb6.mono b45.out.size); have bb6 : Hid (Below w.heap.size w w6) := bbr.out.trans (b46.out.mono bbr.out.size); have B6 : Hid (Blk w6 g14 57 (cells8 x).toArray) := (hb6.block _ B5.out.lt).trans B5.out; clear hb6 B5 N5))

     go_ret2
     exact out_ver ha.out bb6.out rfl
  ·have hz : ¬ ((i : Int) < (n : Int)) := by omega
   have hdn : Hid (vf = some ids) := hvf.out.symm.trans (ver_done (hvf.out.trans hv.out) (by rw [Sr.out.len]; omega))
   clear hlt
   by_cases hml : (m : Int) < least
   ·have ha : Hid (verAns keys h ss least = (none, 7)) := by show _ = _; rw [hvE.out, hdn.out]; show (if _ then _ else _) = _; rw [if_pos (by rw [hil.out]; exact hml)]
    go_wp2_with fail
    go_ret2
    exact out_ver ha.out bbr.out rfl
   ·have ha : Hid (verAns keys h ss least = (some ids, 0)) := by show _ = _; rw [hvE.out, hdn.out]; show (if _ then _ else _) = _; rw [if_neg (by rw [hil.out]; exact hml)]
    go_wp2_with fail
    go_ret2
    exact out_ver ha.out bbr.out ⟨hid.out, by rw [hil.out]; exact ownsRow_base hO.out bb3.out.size⟩
end Go.Proofs.YtgldkfaiofkhbaaGreatDoor.Verify

namespace Go.Proofs.YtgldkfaiofkhbaaGreatDoor.AudNew
open Go Go.RowKit Go.Proofs.YtgldkfaiofkhbaaGreatDoor Mem Sha Bytes HashMem DigestMem SortP NoteP QuietTail Grown TreeMem Held Want Go.Proofs.YtgldkfaiofkhbaaGreatDoor.Append Own Rise SortM SgM HeadMem EncNoteP EncNote RefNote NoteM Fill HeadTake Decode SignEq CmpW RingM RingS VerP Verify Signs HeadID Ref17 RefCons EncConsAny AudJoins HeadCmp GrowP AudM AudNote Digest TreeRoot DigestTop SparseP EmptyD Clamp

def H00 (s : Int) (log : Text) : HeadD := ⟨log, 0, noneOf s, emp s 256, 0⟩
theorem H00_ok (s : Int) {log : Text} (hl : log.length = 32) : (H00 s log).Ok := ⟨hl, cutTo_len _ _ (sum_len _) (clampN_ok s).2, emp_len s 256, (show (-9223372036854775808 : Int) ≤ 0 ∧ (0 : Int) ≤ 9223372036854775807 by decide), (show (-9223372036854775808 : Int) ≤ 0 ∧ (0 : Int) ≤ 9223372036854775807 by decide)⟩
def newA (least : Int) : Int := if least < 1 ∨ 16 < least then 1 else 0
def NewAud (s : Int) (log : Text) (least : Int) (R : Nat) (w : World) (e : Ending) (w' : World) : Prop := ∃ v k, e = .returned (.tuple #[v, .int .i64 k]) ∧ Below w.heap.size w w' ∧ k = newA least ∧ (k ≠ 0 → v = .pointer none) ∧ (k = 0 → ∃ a, v = .pointer (some ⟨a, 0, none⟩) ∧ w.heap.size ≤ a ∧ AudAt w' a (cl s) least R (H00 (cl s) log) none 0 0 [])
theorem new_no {s : Int} {log : Text} {least : Int} {R : Nat} {w w' : World} {e : Ending} (h : least < 1 ∨ 16 < least) (he : e = .returned (.tuple #[.pointer none, .int .i64 1])) (hb : Below w.heap.size w w') : NewAud s log least R w e w' := ⟨_, _, he, hb, by unfold newA; rw [if_pos h], fun _ => rfl, fun h => by cases h⟩
theorem new_yes {s : Int} {log : Text} {least : Int} {R a : Nat} {w w' : World} {e : Ending} (h : ¬ (least < 1 ∨ 16 < least)) (he : e = .returned (.tuple #[.pointer (some ⟨a, 0, none⟩), .int .i64 0])) (hb : Below w.heap.size w w') (hl : w.heap.size ≤ a) (hA : AudAt w' a (cl s) least R (H00 (cl s) log) none 0 0 []) : NewAud s log least R w e w' := ⟨_, _, he, hb, by unfold newA; rw [if_neg h], fun h => absurd rfl h, fun _ => ⟨a, rfl, hl, hA⟩⟩
theorem built_head (parts : List (Nat × Value)) : Tryz.prog.built 36 parts = Instr.fill (#[((0 : Nat), (32 : Nat)), (32, 1), (33, 32), (65, 32), (97, 1)][·]?) (List.replicate 32 (Value.int .u8 0) ++ ([Value.int .i64 0] ++ (List.replicate 32 (Value.int .u8 0) ++ (List.replicate 32 (Value.int .u8 0) ++ [Value.int .i64 0])))).toArray parts := by kernel_rfl
theorem run_head0 (x y z : Text) (hx : x.length = 32) (hy : y.length = 32) (hz : z.length = 32) (w : World) : (Instr.build 36 #[(0, .agg (cells8 x).toArray), (2, .agg (cells8 y).toArray), (3, .agg (cells8 z).toArray)]).run Tryz.prog w = .ok (.agg (headCells ⟨x, 0, y, z, 0⟩).toArray) w := by
 refine run_build w _ _ _ ?_
 rw [built_head]
 have hc : ∀ t : Text, t.length = 32 → (cells8 t).length = 32 := fun t h => by rw [cells8_len, h]
 have e1 := fill_one (place := (#[((0 : Nat), (32 : Nat)), (32, 1), (33, 32), (65, 32), (97, 1)][·]?)) (i := 0) (v := .agg (cells8 x).toArray) (xs := cells8 x) (old := List.replicate 32 (Value.int .u8 0)) (pre := []) (post := [Value.int .i64 0] ++ (List.replicate 32 (Value.int .u8 0) ++ (List.replicate 32 (Value.int .u8 0) ++ [Value.int .i64 0]))) (rest := [(2, .agg (cells8 y).toArray), (3, .agg (cells8 z).toArray)]) rfl rfl (hc x hx) rfl (by simp)
 have e2 := fill_one (place := (#[((0 : Nat), (32 : Nat)), (32, 1), (33, 32), (65, 32), (97, 1)][·]?)) (i := 2) (v := .agg (cells8 y).toArray) (xs := cells8 y) (old := List.replicate 32 (Value.int .u8 0)) (pre := cells8 x ++ [Value.int .i64 0]) (post := List.replicate 32 (Value.int .u8 0) ++ [Value.int .i64 0]) (rest := [(3, .agg (cells8 z).toArray)]) rfl rfl (hc y hy) (by rw [List.length_append, hc x hx]; rfl) (by simp)
 have e3 := fill_one (place := (#[((0 : Nat), (32 : Nat)), (32, 1), (33, 32), (65, 32), (97, 1)][·]?)) (i := 3) (v := .agg (cells8 z).toArray) (xs := cells8 z) (old := List.replicate 32 (Value.int .u8 0)) (pre := cells8 x ++ [Value.int .i64 0] ++ cells8 y) (post := [Value.int .i64 0]) (rest := []) rfl rfl (hc z hz) (by rw [List.length_append, List.length_append, hc x hx, hc y hy]; rfl) (by simp)
 rw [fill_nil] at e3
 simp only [List.nil_append, List.append_assoc] at e1 e2 e3
 rw [e1, e2, e3]
 rfl
theorem built_aud (parts : List (Nat × Value)) : Tryz.prog.built 126 parts = Instr.fill (#[((0 : Nat), (1 : Nat)), (1, 1), (2, 1), (3, 99)][·]?) ([Value.int .i64 0] ++ ([Value.int .i64 0] ++ ([Value.pointer none] ++ Z99.toList))).toArray parts := by kernel_rfl
theorem run_aud (s least : Int) (R : Nat) {h : HeadD} (ok : h.Ok) (v : Value) (w : World) : (Instr.build 126 #[(0, .int .i64 s), (1, .int .i64 least), (2, .pointer (some ⟨R, 0, none⟩)), (3, .agg (noteCells h v).toArray)]).run Tryz.prog w = .ok (.agg (audC s least R h v).toArray) w := by
 refine run_build w _ _ _ ?_
 rw [built_aud]
 have e1 := fill_one (place := (#[((0 : Nat), (1 : Nat)), (1, 1), (2, 1), (3, 99)][·]?)) (i := 0) (v := .int .i64 s) (xs := [.int .i64 s]) (old := [Value.int .i64 0]) (pre := []) (post := [Value.int .i64 0] ++ ([Value.pointer none] ++ Z99.toList)) (rest := [(1, .int .i64 least), (2, .pointer (some ⟨R, 0, none⟩)), (3, .agg (noteCells h v).toArray)]) rfl rfl rfl rfl rfl
 have e2 := fill_one (place := (#[((0 : Nat), (1 : Nat)), (1, 1), (2, 1), (3, 99)][·]?)) (i := 1) (v := .int .i64 least) (xs := [.int .i64 least]) (old := [Value.int .i64 0]) (pre := [.int .i64 s]) (post := [Value.pointer none] ++ Z99.toList) (rest := [(2, .pointer (some ⟨R, 0, none⟩)), (3, .agg (noteCells h v).toArray)]) rfl rfl rfl rfl rfl
 have e3 := fill_one (place := (#[((0 : Nat), (1 : Nat)), (1, 1), (2, 1), (3, 99)][·]?)) (i := 2) (v := .pointer (some ⟨R, 0, none⟩)) (xs := [.pointer (some ⟨R, 0, none⟩)]) (old := [Value.pointer none]) (pre := [.int .i64 s, .int .i64 least]) (post := Z99.toList) (rest := [(3, .agg (noteCells h v).toArray)]) rfl rfl rfl rfl rfl
 have e4 := fill_one (place := (#[((0 : Nat), (1 : Nat)), (1, 1), (2, 1), (3, 99)][·]?)) (i := 3) (v := .agg (noteCells h v).toArray) (xs := noteCells h v) (old := Z99.toList) (pre := [.int .i64 s, .int .i64 least, .pointer (some ⟨R, 0, none⟩)]) (post := []) (rest := []) rfl rfl (noteCells_len ok v) rfl (by rw [Array.length_toList]; exact z99_size)
 rw [fill_nil] at e4
 simp only [List.nil_append, List.append_nil, List.cons_append] at e1 e2 e3 e4
 simp only [List.nil_append, List.cons_append]
 rw [e1, e2, e3, e4]
 rfl
theorem sizeAu : (Tryz.prog.info? 126).map (·.size) = some 102 := by kernel_rfl
structure FitH (cs : Array Value) : Prop where
 size : (Tryz.prog.info? 36).map (·.size) = some cs.size
 zero : Z98.size = cs.size
 one : cs.all (fun v => v.oneCell') = true
theorem fitH {h : HeadD} (ok : h.Ok) : FitH (headCells h).toArray := ⟨by rw [List.size_toArray, headCells_len ok]; exact size98, z98_size.trans (show 98 = (headCells h).length from (headCells_len ok).symm), by rw [List.all_toArray]; exact List.all_eq_true.2 (headCells_one h)⟩
set_option maxRecDepth 100000 in
set_option maxHeartbeats 4000000 in
theorem audNew_any (s : Int) (log : Text) (hl : log.length = 32) (least : Int) (R : Nat) (w : World) (hB : Base w) :
  Calls Tryz.prog 9 #[.int .i64 s, .agg (cells8 log).toArray, .pointer (some ⟨R, 0, none⟩), .int .i64 least] w (NewAud s log least R w) := by
 have hb0 : Hid (Below w.heap.size w (w.alloc (.cells (cells8 log).toArray 23))) := Below.heap_below w _
 by_cases hl1 : least < 1
 ·go_enter Tryz.func9, Tryz.ntmps9
  go_wp2_with fail
  go_ret2
  exact new_no (.inl hl1) rfl hb0.out
 by_cases hl2 : 16 < least
 ·have x1 : (least < 1) = False := eq_false hl1
  go_enter Tryz.func9, Tryz.ntmps9
  go_wp2_with fail
  go_ret2
  exact new_no (.inr hl2) rfl hb0.out
 have x1 : (least < 1) = False := eq_false hl1
 have x2 : ((16 : Int) < least) = False := eq_false hl2
 have hls : Hid (¬ (least < 1 ∨ 16 < least)) := fun h => by rcases h with h | h <;> contradiction
 clear hl1 hl2
 obtain ⟨sc, hsc⟩ : ∃ sc, Hid (cl s = sc) := ⟨_, Lib.hid rfl⟩
 obtain ⟨nn, hnn⟩ : ∃ x, Hid (noneOf sc = x) := ⟨_, Lib.hid rfl⟩
 obtain ⟨ee, hee⟩ : ∃ x, Hid (emp sc 256 = x) := ⟨_, Lib.hid rfl⟩
 have hnl : Hid (nn.length = 32) := by show _ = _; rw [← hnn.out]; exact cutTo_len _ _ (sum_len _) (clampN_ok sc).2
 have hel : Hid (ee.length = 32) := by show _ = _; rw [← hee.out]; exact emp_len sc 256
 have hH0 : Hid (H00 sc log = ⟨log, 0, nn, ee, 0⟩) := by show _ = _; rw [← hnn.out, ← hee.out]; rfl
 have okH : Hid ((⟨log, 0, nn, ee, 0⟩ : HeadD).Ok) := by show HeadD.Ok _; rw [← hH0.out]; exact H00_ok sc hl
 have hNo : Hid (∀ w', Below w.heap.size w w' → Calls Tryz.prog 48 #[.int .i64 sc] w' fun e w'' => e = .returned (.agg (cells8 nn).toArray) ∧ Below w'.heap.size w' w'') := fun w' hb => by
  have := nothing_any sc w' (hB.below hb hB.1)
  rw [← hnn.out]
  exact this
 have hEm : Hid (∀ w', Below w.heap.size w w' → Calls Tryz.prog 49 #[.int .i64 sc, .int .i64 256] w' fun e w'' => e = .returned (.agg (cells8 ee).toArray) ∧ Below w'.heap.size w' w'') := fun w' hb => by
  have := emptyH_any sc w' (hB.below hb hB.1)
  rw [hee.out] at this
  exact this
 have hbh := Lib.hid (fun w' => run_head0 log nn ee hl hnl.out hel.out w')
 have hfl := Lib.hid (dig_size log hl)
 obtain ⟨H, hH⟩ : ∃ H : HeadD, Hid (H = ⟨log, 0, nn, ee, 0⟩) := ⟨_, Lib.hid rfl⟩
 rw [← hH.out] at hbh okH hH0
 have hFH := Lib.hid (fitH okH.out)
 have hn0 := Lib.hid (fun w' => run_note0 okH.out w')
 have hau := Lib.hid (fun v w' => run_aud sc least R okH.out v w')
 have hsH : Hid ((Tryz.prog.info? 126).map (·.size) = some (audC sc least R H (.slice none 0 0)).toArray.size) := by show _ = _; rw [List.size_toArray, audC_len okH.out]; exact sizeAu
 have hBl : Hid (Blk (w.alloc (.cells (cells8 log).toArray 23)) w.heap.size 23 (cells8 log).toArray) := Blk.new w _ _
 clear hB hnn hee hnl hel hH hl
 go_enter Tryz.func9, Tryz.ntmps9
 go_upto_region 3 with fail
 try clear x1 x2
 generalize w.alloc (.cells (cells8 log).toArray 23) = w1 at *
 go_cut [0] from 21 to 24 (fun v wr => v = .int .i64 sc ∧ Hid (w1 = wr))
 case first =>
  have hmn : min (max s 1) 32 = sc := by
   have h := hsc.out
   unfold cl clampN at h
   split at h
   ·omega
   ·split at h <;> omega
  replace hmn := Lib.hid hmn
  clear hNo hEm hbh hFH hn0 hau hsH hH0 okH
  go_wp2_with fail
  go_meet
  case rel => exact ⟨by rw [hmn.out], rfl⟩
 case rest =>
  obtain ⟨rfl, hw⟩ := hcut
  obtain rfl := hw.out
  clear hw
  go_upto_region 4 with fail
  go_cut [10] from 24 to 30 (fun v wr => ∃ gh, v = .pointer (some ⟨gh, 0, none⟩) ∧ Hid (Blk wr gh 36 (headCells H).toArray) ∧ Hid (Below w1.heap.size w1 wr))
  case first =>
   have s0 : Hid (Below w1.heap.size w1 w1.drew) := (Below.refl _ _).drew
   refine held_start (fun w' => Below w1.heap.size w1 w') 8 rfl (by kernel_rfl) ?_
   refine Held.tk0 (i := 0) (v := .agg ((cells8 log).toArray)) rfl s0.out (fun w' hw' => exec_row 23 (.tmp 5) rfl (w.heap.size) rfl 23 ((cells8 log).toArray) (0, 0) _ ((show Blk w' w.heap.size 23 (cells8 log).toArray from (hw'.block _ hBl.out.lt).trans hBl.out)) Tryz.underlying23 rfl hfl.out) ?_
   (intro K k; go_simp; apply k; clear k K)
   refine Held.tk0 (i := 1) (v := .int .i64 sc) rfl s0.out (fun w' hw' => run_mv (.tmp 0) rfl w') ?_
   (intro K k; go_simp; apply k; clear k K)
   refine Held.tk0 (i := 3) (v := .int .i64 sc) rfl s0.out (fun w' hw' => run_mv (.tmp 0) rfl w') ?_
   (intro K k; go_simp; apply k; clear k K)
   refine held_two (i := 2) (j := 6) rfl rfl (by kernel_rfl) (by rfl) (by rfl) (fun K hK => ?_) (fun K hK => ?_)
   ·refine wp_fn (R := fun v w'' => v = .agg (cells8 nn).toArray ∧ Below w1.heap.size w1 w'' ∧ Below (w1.drew).heap.size (w1.drew) w'') (args := #[.int .i64 sc]) _ _ rfl rfl Tryz.func48 (by kernel_rfl) (by kernel_rfl) ((hNo.out _ (hb0.out.trans ((s0.out).mono hb0.out.size))).mono fun e w'' ⟨he, hb⟩ => ⟨_, he, rfl, s0.out.trans (hb.mono s0.out.size), hb⟩) ?_
    rintro qq w5 ⟨rfl, h5, kk1⟩
    replace h5 := Lib.hid h5
    replace kk1 := Lib.hid kk1
    clear kk1
    go_simp
    refine hK _ _ h5.out ?_
    clear hK K
    refine held_two (i := 4) (j := 6) rfl rfl (by kernel_rfl) (by rfl) (by rfl) (fun K hK => ?_) (fun K hK => ?_)
    ·refine wp_fn (R := fun v w'' => v = .agg (cells8 ee).toArray ∧ Below w1.heap.size w1 w'' ∧ Below (w5).heap.size (w5) w'') (args := #[.int .i64 sc, .int .i64 256]) _ _ rfl rfl Tryz.func49 (by kernel_rfl) (by kernel_rfl) ((hEm.out _ (hb0.out.trans ((h5.out).mono hb0.out.size))).mono fun e w'' ⟨he, hb⟩ => ⟨_, he, rfl, h5.out.trans (hb.mono h5.out.size), hb⟩) ?_
     rintro qq w6 ⟨rfl, h6, kk1⟩
     replace h6 := Lib.hid h6
     replace kk1 := Lib.hid kk1
     clear kk1
     go_simp
     refine hK _ _ h6.out ?_
     clear hK K
     refine Held.tk0 (i := 5) (v := .agg (headCells H).toArray) rfl h6.out (fun w' hw' => exec_build 36 #[(0, .tmp 24), (2, .tmp 26), (3, .tmp 28)] rfl #[(0, .agg (cells8 log).toArray), (2, .agg (cells8 nn).toArray), (3, .agg (cells8 ee).toArray)] (by first | rfl | (simp [Act.eval]; done)) _ (hbh.out w')) ?_
     (intro K k; go_simp; apply k; clear k K)
     refine held_only (i := 6) rfl (by kernel_rfl) (by rfl) (fun K hK => ?_)
     have h7 := Lib.hid (h6.out.alloc h6.out.size (.cells Z98 36))
     have bb : Hid (Blk (w6.alloc (.cells Z98 36)) w6.heap.size 36 Z98) := Blk.new _ _ _
     go_simp
     refine hK _ _ h7.out ?_
     clear hK K
     refine held_only (i := 7) rfl (by kernel_rfl) (by rfl) (fun K hK => ?_)
     refine wp_store_whole 36 (.tmp 10) (.tmp 29) rfl (w6.heap.size) ((headCells H).toArray) rfl rfl 36 (Z98) (bb.out) hFH.out.size hFH.out.zero hFH.out.one ?_
     intro w99 B9 k9
     have b9 : Hid (Below w1.heap.size w1 w99) := h7.out.trans (Kept.below_of k9 (h6.out.size) h7.out.size)
     go_simp
     refine hK _ _ b9.out ?_
     clear hK K
     refine held_end (by kernel_rfl) ?_
     go_wp2_with fail
     go_meet
     case rel => exact ⟨_, rfl, B9, b9.out⟩
    ·have h6 := Lib.hid (h5.out.alloc h5.out.size (.cells Z98 36))
     have bb : Hid (Blk (w5.alloc (.cells Z98 36)) w5.heap.size 36 Z98) := Blk.new _ _ _
     go_simp
     refine hK _ _ h6.out ?_
     clear hK K
     refine held_only (i := 4) rfl (by kernel_rfl) (by rfl) (fun K hK => ?_)
     refine wp_fn (R := fun v w'' => v = .agg (cells8 ee).toArray ∧ Below w1.heap.size w1 w'' ∧ Below ((w5.alloc (.cells Z98 36))).heap.size ((w5.alloc (.cells Z98 36))) w'') (args := #[.int .i64 sc, .int .i64 256]) _ _ rfl rfl Tryz.func49 (by kernel_rfl) (by kernel_rfl) ((hEm.out _ (hb0.out.trans ((h6.out).mono hb0.out.size))).mono fun e w'' ⟨he, hb⟩ => ⟨_, he, rfl, h6.out.trans (hb.mono h6.out.size), hb⟩) ?_
     rintro qq w7 ⟨rfl, h7, kk1⟩
     replace h7 := Lib.hid h7
     replace kk1 := Lib.hid kk1
     replace bb := Lib.hid ((kk1.out.block _ (Blk.lt bb.out)).trans bb.out)
     clear kk1
     go_simp
     refine hK _ _ h7.out ?_
     clear hK K
     refine Held.tk0 (i := 5) (v := .agg (headCells H).toArray) rfl h7.out (fun w' hw' => exec_build 36 #[(0, .tmp 24), (2, .tmp 26), (3, .tmp 28)] rfl #[(0, .agg (cells8 log).toArray), (2, .agg (cells8 nn).toArray), (3, .agg (cells8 ee).toArray)] (by first | rfl | (simp [Act.eval]; done)) _ (hbh.out w')) ?_
     (intro K k; go_simp; apply k; clear k K)
     refine held_only (i := 7) rfl (by kernel_rfl) (by rfl) (fun K hK => ?_)
     refine wp_store_whole 36 (.tmp 10) (.tmp 29) rfl (w5.heap.size) ((headCells H).toArray) rfl rfl 36 (Z98) (bb.out) hFH.out.size hFH.out.zero hFH.out.one ?_
     intro w99 B9 k9
     have b9 : Hid (Below w1.heap.size w1 w99) := h7.out.trans (Kept.below_of k9 (h5.out.size) h7.out.size)
     go_simp
     refine hK _ _ b9.out ?_
     clear hK K
     refine held_end (by kernel_rfl) ?_
     go_wp2_with fail
     go_meet
     case rel => exact ⟨_, rfl, B9, b9.out⟩
   ·have h5 := Lib.hid (s0.out.alloc s0.out.size (.cells Z98 36))
    have bb : Hid (Blk (w1.drew.alloc (.cells Z98 36)) w1.heap.size 36 Z98) := Blk.new _ _ _
    go_simp
    refine hK _ _ h5.out ?_
    clear hK K
    refine held_only (i := 2) rfl (by kernel_rfl) (by rfl) (fun K hK => ?_)
    refine wp_fn (R := fun v w'' => v = .agg (cells8 nn).toArray ∧ Below w1.heap.size w1 w'' ∧ Below ((w1.drew.alloc (.cells Z98 36))).heap.size ((w1.drew.alloc (.cells Z98 36))) w'') (args := #[.int .i64 sc]) _ _ rfl rfl Tryz.func48 (by kernel_rfl) (by kernel_rfl) ((hNo.out _ (hb0.out.trans ((h5.out).mono hb0.out.size))).mono fun e w'' ⟨he, hb⟩ => ⟨_, he, rfl, h5.out.trans (hb.mono h5.out.size), hb⟩) ?_
    rintro qq w6 ⟨rfl, h6, kk1⟩
    replace h6 := Lib.hid h6
    replace kk1 := Lib.hid kk1
    replace bb := Lib.hid ((kk1.out.block _ (Blk.lt bb.out)).trans bb.out)
    clear kk1
    go_simp
    refine hK _ _ h6.out ?_
    clear hK K
    refine held_only (i := 4) rfl (by kernel_rfl) (by rfl) (fun K hK => ?_)
    refine wp_fn (R := fun v w'' => v = .agg (cells8 ee).toArray ∧ Below w1.heap.size w1 w'' ∧ Below (w6).heap.size (w6) w'') (args := #[.int .i64 sc, .int .i64 256]) _ _ rfl rfl Tryz.func49 (by kernel_rfl) (by kernel_rfl) ((hEm.out _ (hb0.out.trans ((h6.out).mono hb0.out.size))).mono fun e w'' ⟨he, hb⟩ => ⟨_, he, rfl, h6.out.trans (hb.mono h6.out.size), hb⟩) ?_
    rintro qq w7 ⟨rfl, h7, kk1⟩
    replace h7 := Lib.hid h7
    replace kk1 := Lib.hid kk1
    replace bb := Lib.hid ((kk1.out.block _ (Blk.lt bb.out)).trans bb.out)
    clear kk1
    go_simp
    refine hK _ _ h7.out ?_
    clear hK K
    refine Held.tk0 (i := 5) (v := .agg (headCells H).toArray) rfl h7.out (fun w' hw' => exec_build 36 #[(0, .tmp 24), (2, .tmp 26), (3, .tmp 28)] rfl #[(0, .agg (cells8 log).toArray), (2, .agg (cells8 nn).toArray), (3, .agg (cells8 ee).toArray)] (by first | rfl | (simp [Act.eval]; done)) _ (hbh.out w')) ?_
    (intro K k; go_simp; apply k; clear k K)
    refine held_only (i := 7) rfl (by kernel_rfl) (by rfl) (fun K hK => ?_)
    refine wp_store_whole 36 (.tmp 10) (.tmp 29) rfl (w1.heap.size) ((headCells H).toArray) rfl rfl 36 (Z98) (bb.out) hFH.out.size hFH.out.zero hFH.out.one ?_
    intro w99 B9 k9
    have b9 : Hid (Below w1.heap.size w1 w99) := h7.out.trans (Kept.below_of k9 (s0.out.size) h7.out.size)
    go_simp
    refine hK _ _ b9.out ?_
    clear hK K
    refine held_end (by kernel_rfl) ?_
    go_wp2_with fail
    go_meet
    case rel => exact ⟨_, rfl, B9, b9.out⟩
  case rest =>
  obtain ⟨gh, rfl, hG, hbe⟩ := hcut
  obtain ⟨w2, rfl⟩ : ∃ w2, w2 = wc := ⟨_, rfl⟩
  have bb2 : Hid (Below w.heap.size w w2) := hb0.out.trans (hbe.out.mono hb0.out.size)
  clear hbe
  go_wp2_with (first
  | (((with_reducible change wpList _ _ _ (⟨some 33, _, _, _, _, _⟩ :: _) _ _); refine wpList_load_row (o := ⟨some 33, _, _, _, _, _⟩) rfl 36 (.tmp 10) rfl (gh) rfl 36 ((headCells H).toArray) (0, 0) _ hG.out Tryz.underlying36 rfl hFH.out.size ?_))
  | ((with_reducible change wpList _ _ _ (⟨some 34, _, _, _, _, _⟩ :: _) _ _); refine wpList_buildF (o := ⟨some 34, _, _, _, _, _⟩) rfl 39 #[(0, .tmp 33)] rfl #[(0, .agg (headCells H).toArray)] (by first | rfl | (simp [Act.eval, Act.put]; done)) (.agg (noteCells H (.slice none 0 0)).toArray) (hn0.out _) ?_)
  | ((with_reducible change wpList _ _ _ (⟨some 35, _, _, _, _, _⟩ :: _) _ _); refine wpList_buildF (o := ⟨some 35, _, _, _, _, _⟩) rfl 126 #[(0, .tmp 30), (1, .tmp 31), (2, .tmp 32), (3, .tmp 34)] rfl #[(0, .int .i64 sc), (1, .int .i64 least), (2, .pointer (some ⟨R, 0, none⟩)), (3, .agg (noteCells H (.slice none 0 0)).toArray)] (by first | rfl | (simp [Act.eval, Act.put]; done)) (.agg (audC sc least R H (.slice none 0 0)).toArray) (hau.out _ _) ?_))
  go_ret2
  refine new_yes hls.out rfl (bb2.out.alloc bb2.out.size _) bb2.out.size ?_
  rw [hsc.out, hH0.out]
  exact ⟨okH.out, fun _ => ⟨rfl, rfl⟩, Nat.zero_le _, Blk.new _ _ _, Sgs.nil_ _ _⟩
end Go.Proofs.YtgldkfaiofkhbaaGreatDoor.AudNew

namespace Go.Proofs.YtgldkfaiofkhbaaGreatDoor.AudTake
open Go Go.RowKit Go.Proofs.YtgldkfaiofkhbaaGreatDoor Mem Sha Bytes HashMem DigestMem SortP NoteP QuietTail Grown TreeMem Held Want Go.Proofs.YtgldkfaiofkhbaaGreatDoor.Append Own Rise SortM SgM HeadMem EncNoteP EncNote RefNote NoteM Fill HeadTake Decode SignEq CmpW RingM RingS VerP Verify Signs HeadID Ref17 RefCons EncConsAny AudJoins HeadCmp GrowP AudM AudNote DigEq

theorem qHDt : Tryz.prog.eqGuardType Tryz.prog.depth 36 = false := by kernel_rfl
theorem qDGt : Tryz.prog.eqGuardType Tryz.prog.depth 23 = false := by kernel_rfl
theorem sizeCt : (Tryz.prog.info? 46).map (·.size) = some 3 := by kernel_rfl
theorem size32t : (Tryz.prog.info? 23).map (·.size) = some 32 := by kernel_rfl
structure FitH (cs : Array Value) : Prop where
 size : (Tryz.prog.info? 36).map (·.size) = some cs.size
 zero : Z98.size = cs.size
 one : cs.all (fun v => v.oneCell') = true
theorem fitH {h : HeadD} (ok : h.Ok) : FitH (headCells h).toArray := ⟨by rw [List.size_toArray, headCells_len ok]; exact size98, z98_size.trans (show 98 = (headCells h).length from (headCells_len ok).symm), by rw [List.all_toArray]; exact List.all_eq_true.2 (headCells_one h)⟩
theorem ver_few {es : List Text} {h : HeadD} {rs : List Text} {least : Int} (hv : (verAns es h rs least).2 = 0) : rs.length ≤ 16 := by
 unfold verAns at hv
 by_cases h1 : least < 1 ∨ 16 < least
 ·rw [if_pos h1] at hv; exact absurd hv (by decide)
 rw [if_neg h1] at hv
 by_cases h2 : (noteAns h rs).2 = 0
 ·rcases note_cases h rs rs.length rfl with ⟨-, e⟩ | ⟨-, -, e⟩ | ⟨-, -, e⟩ | ⟨-, -, -, -, e⟩ | ⟨-, -, h3, -⟩
  ·rw [e] at h2; cases h2
  ·rw [e] at h2; cases h2
  ·rw [e] at h2; cases h2
  ·rw [e] at h2; cases h2
  ·exact h3
 ·rw [if_neg h2] at hv; exact absurd hv (by decide)
theorem take_no {a : Nat} {s least : Int} {R : Nat} {es : List Text} {H h : HeadD} {rs : List Text} {x y : Int} {ds : List Text} {w w' : World} {e : Ending} {k : Int} (ht : takeA s least es H h rs x y ds = k) (hn : k ≠ 0 ∨ headB h H = true) (he : e = .returned (.int .i64 k)) (hb : Below w.heap.size w w') : TakeOut a s least R es H h rs x y ds w e w' := by
 refine ⟨by rw [ht]; exact he, .inl ⟨?_, hb⟩⟩
 unfold newB
 rw [ht]
 rcases hn with hn | hn
 ·rw [decide_eq_false hn]; rfl
 ·rw [hn]; simp
theorem take_new {a : Nat} {s least : Int} {R : Nat} {es : List Text} {H : HeadD} {A : Option Addr} {n c : Nat} {ss : List Text} {h : HeadD} {rs : List Text} {x y : Int} {ds : List Text} {w w7 w8 : World} {e : Ending} {A8 : Option Addr} {m c8 : Nat} (hA : AudAt w a s least R H A n c ss) (ok : h.Ok) (hm : m ≤ 16) (ht : takeA s least es H h rs x y ds = 0) (hn : headB h H = false) (he : e = .returned (.int .i64 0)) (hb : Below w.heap.size w w7) (hO : OwnS w7 w.heap.size (.slice A8 m c8) m rs) (hk : Kept (· = a) w7 w8) (hB : Blk w8 a 126 (audC s least R h (.slice A8 m c8)).toArray) : TakeOut a s least R es H h rs x y ds w e w8 := by
 obtain ⟨A9, c9, e9, -, -, hnil, hS, hbl⟩ := OwnS.reads hO
 injection e9 with e1 _ e3
 subst e1 e3
 have hlt := hA.blk.lt
 refine ⟨by rw [ht]; exact he, .inr ⟨?_, (Kept.of_below hb).trans hk (fun i _ e => e), A8, m, c8, ⟨ok, hnil, hm, hB, hS.kept hk (fun b o e => ?_)⟩, hbl⟩⟩
 ·unfold newB
  rw [ht, hn]
  rfl
 ·have := hbl _ e
  show ¬ b = a
  dsimp only at this
  omega
set_option maxRecDepth 100000 in
set_option maxHeartbeats 16000000 in
theorem take_any (es : List Text) (l : List KD) (hpm : (l.map (·.q)).Perm es) (hst : Strict idK l) (hl64 : l.length ≤ 64) (hkb : ∀ x ∈ l, keyB x.q.length = true) (a : Nat) (s least : Int) (R : Nat) (H : HeadD) (A : Option Addr) (n c : Nat) (ss : List Text) (h : HeadD) (ok : h.Ok) (rs : List Text) (m : Nat) (Ao : Option Addr) (co : Nat) (hnilo : Ao = none → m = 0 ∧ co = 0) (x y : Int) (ds : List Text) (A2 : Option Addr) (n2 c2 : Nat) (hn47 : n2 < 140737488355328) (w : World) (hB : Base w) (hR : RingAt w R l) (hA : AudAt w a s least R H A n c ss) (hS : Sgs w Ao m rs) (hrd : RdD w A2 n2 ds) :
    Calls Tryz.prog 17 #[.pointer (some ⟨a, 0, none⟩), .agg (noteCells h (.slice Ao m co)).toArray, .agg (inclCells x y A2 n2 c2)] w (TakeOut a s least R es H h rs x y ds w) := by
  unfold inclCells
  obtain ⟨w0, hw0⟩ : ∃ w0, Hid ((w.alloc (.cells (noteCells h (.slice Ao m co)).toArray 39)).alloc (.cells #[Value.int .i64 x, Value.int .i64 y, Value.slice A2 n2 c2] 46) = w0) := ⟨_, Lib.hid rfl⟩
  have hs0 : (w.alloc (.cells (noteCells h (.slice Ao m co)).toArray 39)).heap.size = w.heap.size + 1 := by simp
  have N0 : Hid (NoteAt w0 w.heap.size h Ao m co rs) := by show NoteAt _ _ _ _ _ _ _; rw [← hw0.out]; exact (NoteAt.new hS).below (Below.heap_below _ _)
  have C0 : Hid (Blk w0 (w.heap.size + 1) 46 #[Value.int .i64 x, Value.int .i64 y, Value.slice A2 n2 c2]) := by
    show Blk _ _ _ _
    rw [← hw0.out, ← hs0]
    exact Blk.new _ _ _
  have b0 : Hid (Below w.heap.size w w0) := by show Below _ _ _; rw [← hw0.out]; exact (Below.heap_below w _).alloc (by rw [hs0]; omega) _
  have hw0' := hw0.out
  have A0 := Lib.hid (hA.below b0.out)
  have hA' := Lib.hid hA
  have hBs : Hid (∀ w', Below w.heap.size w w' → Base w') := fun w' hb => hB.below hb hB.1
  have hRs : Hid (∀ w', Below w.heap.size w w' → RingAt w' R l) := fun w' hb => hR.below hb
  have hDs : Hid (∀ w', Below w.heap.size w w' → RdD w' A2 n2 ds) := fun w' hb => hrd.below hb
  have hAs : Hid (∀ w', Below w.heap.size w w' → AudAt w' a s least R H A n c ss) := fun w' hb => hA.below hb
  have ok' := Lib.hid ok
  have okH := Lib.hid hA.ok
  have hnl := Lib.hid hnilo
  have hVe : Hid (∀ w', Below w.heap.size w w' → Sgs w' Ao m rs → Calls Tryz.prog 65 #[.pointer (some ⟨R, 0, none⟩), .agg (noteCells h (.slice Ao m co)).toArray, .int .i64 least] w' (VerOut es h rs least w')) := fun w' hb hS' => verify_any es l hpm hst hl64 hkb h ok rs m Ao co hnilo least R w' (hB.below hb hB.1) (hR.below hb) hS'
  have hml := Lib.hid hS.len
  have zL : Hid ((Tryz.prog.info? 39).map (·.size) = some (noteCells h (.slice Ao m co)).toArray.size) := note_size ok _
  have z2 := Lib.hid (fun v => note_zero ok v)
  have oN := Lib.hid (fun A n c => note_one (h := h) A n c)
  have sH : Hid ((Tryz.prog.info? 36).map (·.size) = some (headCells H).length) := by show _ = _; rw [headCells_len hA.ok]; exact size98
  have sh : Hid ((Tryz.prog.info? 36).map (·.size) = some (headCells h).length) := by show _ = _; rw [headCells_len ok]; exact size98
  have FH := Lib.hid (fitH hA.ok)
  have Fh := Lib.hid (fitH ok)
  have lz1 := Lib.hid ok.log
  have lz2 := Lib.hid hA.ok.log
  have hn7 := Lib.hid hn47
  obtain ⟨kv, hkv⟩ : ∃ k, Hid ((verAns es h rs least).2 = k) := ⟨_, Lib.hid rfl⟩
  have hT1 : Hid (¬ kv = 0 → takeA s least es H h rs x y ds = kv) := fun k => by unfold takeA; rw [hkv.out, if_pos k]
  have hT2 : Hid (kv = 0 → takeA s least es H h rs x y ds = headA s H h x y ds) := fun k => by unfold takeA; rw [hkv.out, if_neg (fun q => q k)]
  have c0h := Lib.hid A0.out.ring
  have c0l := Lib.hid A0.out.wants
  clear hw0 hB hR hA hS hrd ok hnilo hpm hst hl64 hkb hs0 hn47
  go_enter Tryz.func17, Tryz.ntmps17
  go_upto_region 1 with fail
  have s0 : Hid (Below w0.heap.size w0 w0.drew) := (Below.refl _ _).drew
  refine held_start (fun w' => Below w0.heap.size w0 w') 15 rfl (by kernel_rfl) ?_
  refine Held.tk0 (i := 0) (v := .pointer (some ⟨a, 0, none⟩)) rfl s0.out (fun w' hw' => run_mv (.tmp 0) rfl w') ?_
  (intro K k; go_simp; apply k; clear k K)
  refine Held.tk0 (i := 1) (v := .pointer (some ⟨a, 0, none⟩)) rfl s0.out (fun w' hw' => by go_simp) ?_
  (intro K k; go_simp; apply k; clear k K)
  refine Held.tk0 (i := 2) (v := .pointer (some ⟨a, 2, none⟩)) rfl s0.out (fun w' hw' => by go_simp) ?_
  (intro K k; go_simp; apply k; clear k K)
  refine Held.tk0 (i := 3) (v := .pointer (some ⟨R, 0, none⟩)) rfl s0.out (fun w' hw' => by have hc := (hw'.cell (p := ⟨a, 2, none⟩) A0.out.blk.lt).trans c0h.out; go_simp) ?_
  (intro K k; go_simp; apply k; clear k K)
  refine Held.tk0 (i := 4) (v := .agg ((noteCells h (.slice Ao m co)).toArray)) rfl s0.out (fun w' hw' => exec_row 39 (.tmp 4) rfl (w.heap.size) rfl 39 ((noteCells h (.slice Ao m co)).toArray) (0, 0) _ ((show Blk w' w.heap.size 39 (noteCells h (.slice Ao m co)).toArray from (hw'.block _ N0.out.blk.lt).trans N0.out.blk)) Tryz.underlying39 rfl zL.out) ?_
  (intro K k; go_simp; apply k; clear k K)
  refine Held.tk0 (i := 5) (v := .pointer (some ⟨a, 0, none⟩)) rfl s0.out (fun w' hw' => run_mv (.tmp 0) rfl w') ?_
  (intro K k; go_simp; apply k; clear k K)
  refine Held.tk0 (i := 6) (v := .pointer (some ⟨a, 0, none⟩)) rfl s0.out (fun w' hw' => by go_simp) ?_
  (intro K k; go_simp; apply k; clear k K)
  refine Held.tk0 (i := 7) (v := .pointer (some ⟨a, 1, none⟩)) rfl s0.out (fun w' hw' => by go_simp) ?_
  (intro K k; go_simp; apply k; clear k K)
  refine Held.tk0 (i := 8) (v := .int .i64 least) rfl s0.out (fun w' hw' => by have hc := (hw'.cell (p := ⟨a, 1, none⟩) A0.out.blk.lt).trans c0l.out; go_simp) ?_
  (intro K k; go_simp; apply k; clear k K)
  refine held_only (i := 9) rfl (by kernel_rfl) (by rfl) (fun K hK => ?_)
  refine wp_fn (R := fun v w'' => (∃ u, v = .tuple #[u, .int .i64 kv]) ∧ Below w0.heap.size w0 w'') (args := #[.pointer (some ⟨R, 0, none⟩), .agg (noteCells h (.slice Ao m co)).toArray, .int .i64 least]) _ _ rfl rfl Tryz.func65 (by kernel_rfl) (by kernel_rfl) ((hVe.out _ (b0.out.trans (s0.out.mono b0.out.size)) (N0.out.below s0.out).sgs).mono fun e w'' ⟨u, he, hb, _⟩ => ⟨_, he, ⟨u, by rw [hkv.out]⟩, s0.out.trans (hb.mono s0.out.size)⟩) ?_
  rintro qq w1 ⟨⟨u, rfl⟩, h1⟩
  replace h1 := Lib.hid h1
  go_simp
  refine hK _ _ h1.out ?_
  clear hK K
  refine Held.tk0 (i := 10) (v := .tuple #[u, .int .i64 kv]) rfl h1.out (fun w' hw' => run_mv (.tmp 24) rfl w') ?_
  (intro K k; go_simp; apply k; clear k K)
  refine Held.tk0 (i := 11) (v := u) rfl h1.out (fun w' hw' => by go_simp) ?_
  (intro K k; go_simp; apply k; clear k K)
  refine Held.tk0 (i := 12) (v := .int .i64 kv) rfl h1.out (fun w' hw' => by go_simp) ?_
  (intro K k; go_simp; apply k; clear k K)
  refine Held.tk0 (i := 13) (v := u) rfl h1.out (fun w' hw' => by go_simp) ?_
  (intro K k; go_simp; apply k; clear k K)
  refine Held.tk0 (i := 14) (v := .int .i64 kv) rfl h1.out (fun w' hw' => by go_simp) ?_
  (intro K k; go_simp; apply k; clear k K)
  refine held_end (by kernel_rfl) ?_
  have bb1 : Hid (Below w.heap.size w w1) := b0.out.trans (h1.out.mono b0.out.size)
  have N1 := Lib.hid (N0.out.below h1.out)
  have C1 : Hid (Blk w1 (w.heap.size + 1) 46 #[Value.int .i64 x, Value.int .i64 y, Value.slice A2 n2 c2]) := (h1.out.block _ C0.out.lt).trans C0.out
  have A1 := Lib.hid (A0.out.below h1.out)
  clear h1 s0 hw0' N0 C0 A0 c0h c0l b0
  by_cases hk0 : ¬ (kv = 0)
  · go_wp2_with fail
    go_ret
    exact take_no (hT1.out hk0) (.inl hk0) rfl bb1.out
  have hk1 : kv = 0 := Decidable.not_not.1 hk0
  subst hk1
  clear hk0 hT1
  have hm16 : Hid (m ≤ 16) := by show _ ≤ _; rw [← hml.out]; exact ver_few hkv.out
  have hT := Lib.hid (hT2.out rfl)
  clear hT2 hkv hVe
  go_upto_region 4 with fail
  go_cut [9, 10] from 30 to 37 (fun v u wr => ∃ g9 g10, v = .pointer (some ⟨g9, 0, none⟩) ∧ u = .pointer (some ⟨g10, 0, none⟩) ∧ Hid (Blk wr g9 36 (headCells H).toArray) ∧ Hid (Blk wr g10 36 (headCells h).toArray) ∧ Hid (Below w1.heap.size w1 wr))
  case first =>
    have s0 : Hid (Below w1.heap.size w1 w1.drew) := (Below.refl _ _).drew
    refine held_start (fun w' => Below w1.heap.size w1 w') 11 rfl (by kernel_rfl) ?_
    refine Held.tk0 (i := 0) (v := .pointer (some ⟨a, 0, none⟩)) rfl s0.out (fun w' hw' => run_mv (.tmp 0) rfl w') ?_
    (intro K k; go_simp; apply k; clear k K)
    refine Held.tk0 (i := 1) (v := .pointer (some ⟨a, 0, none⟩)) rfl s0.out (fun w' hw' => by go_simp) ?_
    (intro K k; go_simp; apply k; clear k K)
    refine Held.tk0 (i := 2) (v := .pointer (some ⟨a, 3, none⟩)) rfl s0.out (fun w' hw' => by go_simp) ?_
    (intro K k; go_simp; apply k; clear k K)
    refine Held.tk0 (i := 3) (v := .pointer (some ⟨a, 3, none⟩)) rfl s0.out (fun w' hw' => by go_simp) ?_
    (intro K k; go_simp; apply k; clear k K)
    refine Held.tk0 (i := 4) (v := .agg (headCells H).toArray) rfl s0.out (fun w' hw' => exec_part 36 (.tmp 33) rfl (a) (3) rfl (headCells H) _ ((A1.out.below hw').head) Tryz.underlying36 rfl sH.out) ?_
    (intro K k; go_simp; apply k; clear k K)
    refine Held.tk0 (i := 5) (v := .pointer (some ⟨w.heap.size, 0, none⟩)) rfl s0.out (fun w' hw' => by go_simp) ?_
    (intro K k; go_simp; apply k; clear k K)
    refine Held.tk0 (i := 6) (v := .agg (headCells h).toArray) rfl s0.out (fun w' hw' => exec_part 36 (.tmp 35) rfl (w.heap.size) (0) rfl (headCells h) _ ((N1.out.below hw').head) Tryz.underlying36 rfl sh.out) ?_
    (intro K k; go_simp; apply k; clear k K)
    refine held_two (i := 7) (j := 8) rfl rfl (by kernel_rfl) (by rfl) (by rfl) (fun K hK => ?_) (fun K hK => ?_)
    · have h1 := Lib.hid (s0.out.alloc s0.out.size (.cells Tryz.zeroCells36 36))
      go_simp
      refine hK _ _ h1.out ?_
      clear hK K
      refine held_only (i := 8) rfl (by kernel_rfl) (by rfl) (fun K hK => ?_)
      have h2 := Lib.hid (h1.out.alloc h1.out.size (.cells Tryz.zeroCells36 36))
      go_simp
      refine hK _ _ h2.out ?_
      clear hK K
      have e1 : (w1.alloc (.cells Tryz.zeroCells36 36)).heap.size = w1.heap.size + 1 := by simp
      have p1 : Hid (Blk ((w1.alloc (.cells Tryz.zeroCells36 36)).alloc (.cells Tryz.zeroCells36 36)).drew w1.heap.size 36 Z98) := ((Blk.new w1 _ _).alloc _).drew
      have p2 : Hid (Blk ((w1.alloc (.cells Tryz.zeroCells36 36)).alloc (.cells Tryz.zeroCells36 36)).drew (w1.heap.size + 1) 36 Z98) := by show Blk _ _ _ _; rw [← e1]; exact (Blk.new _ _ _).drew
      replace h2 : Hid (Below w1.heap.size w1 ((w1.alloc (.cells Tryz.zeroCells36 36)).alloc (.cells Tryz.zeroCells36 36)).drew) := (((Below.refl _ w1).alloc (Nat.le_refl _) _).alloc (by simp) _).drew
      clear e1
      generalize ((w1.alloc (.cells Tryz.zeroCells36 36)).alloc (.cells Tryz.zeroCells36 36)).drew = w3 at *
      refine held_only (i := 9) rfl (by kernel_rfl) (by rfl) (fun K hK => ?_)
      refine wp_store_whole 36 (.tmp 9) (.tmp 34) rfl w1.heap.size (headCells H).toArray rfl rfl 36 Z98 p1.out FH.out.size FH.out.zero FH.out.one ?_
      intro w5 B5 k5
      have h3 : Hid (Below w1.heap.size w1 w5) := h2.out.trans (Kept.below_of k5 (by omega) h2.out.size)
      have q2 : Hid (Blk w5 (w1.heap.size + 1) 36 Z98) := Blk.kept p2.out k5 (by omega)
      replace B5 := Lib.hid B5
      clear k5
      go_simp
      refine hK _ _ h3.out ?_
      clear hK K
      refine held_only (i := 10) rfl (by kernel_rfl) (by rfl) (fun K hK => ?_)
      refine wp_store_whole 36 (.tmp 10) (.tmp 36) rfl (w1.heap.size + 1) (headCells h).toArray rfl rfl 36 Z98 q2.out Fh.out.size Fh.out.zero Fh.out.one ?_
      intro w6 B6 k6
      have h4 : Hid (Below w1.heap.size w1 w6) := h3.out.trans (Kept.below_of k6 (by omega) h3.out.size)
      have q3 : Hid (Blk w6 w1.heap.size 36 (headCells H).toArray) := Blk.kept B5.out k6 (by omega)
      replace B6 := Lib.hid B6
      clear k6
      go_simp
      refine hK _ _ h4.out ?_
      clear hK K
      refine held_end (by kernel_rfl) ?_
      go_wp2_with fail
      go_meet
      case rel => exact ⟨_, _, rfl, rfl, q3.out, B6.out, h4.out⟩
    · have h1 := Lib.hid (s0.out.alloc s0.out.size (.cells Tryz.zeroCells36 36))
      go_simp
      refine hK _ _ h1.out ?_
      clear hK K
      refine held_only (i := 7) rfl (by kernel_rfl) (by rfl) (fun K hK => ?_)
      have h2 := Lib.hid (h1.out.alloc h1.out.size (.cells Tryz.zeroCells36 36))
      go_simp
      refine hK _ _ h2.out ?_
      clear hK K
      have e1 : (w1.alloc (.cells Tryz.zeroCells36 36)).heap.size = w1.heap.size + 1 := by simp
      have p1 : Hid (Blk ((w1.alloc (.cells Tryz.zeroCells36 36)).alloc (.cells Tryz.zeroCells36 36)).drew w1.heap.size 36 Z98) := ((Blk.new w1 _ _).alloc _).drew
      have p2 : Hid (Blk ((w1.alloc (.cells Tryz.zeroCells36 36)).alloc (.cells Tryz.zeroCells36 36)).drew (w1.heap.size + 1) 36 Z98) := by show Blk _ _ _ _; rw [← e1]; exact (Blk.new _ _ _).drew
      replace h2 : Hid (Below w1.heap.size w1 ((w1.alloc (.cells Tryz.zeroCells36 36)).alloc (.cells Tryz.zeroCells36 36)).drew) := (((Below.refl _ w1).alloc (Nat.le_refl _) _).alloc (by simp) _).drew
      clear e1
      generalize ((w1.alloc (.cells Tryz.zeroCells36 36)).alloc (.cells Tryz.zeroCells36 36)).drew = w3 at *
      refine held_only (i := 9) rfl (by kernel_rfl) (by rfl) (fun K hK => ?_)
      refine wp_store_whole 36 (.tmp 9) (.tmp 34) rfl (w1.heap.size + 1) (headCells H).toArray rfl rfl 36 Z98 p2.out FH.out.size FH.out.zero FH.out.one ?_
      intro w5 B5 k5
      have h3 : Hid (Below w1.heap.size w1 w5) := h2.out.trans (Kept.below_of k5 (by omega) h2.out.size)
      have q2 : Hid (Blk w5 w1.heap.size 36 Z98) := Blk.kept p1.out k5 (by omega)
      replace B5 := Lib.hid B5
      clear k5
      go_simp
      refine hK _ _ h3.out ?_
      clear hK K
      refine held_only (i := 10) rfl (by kernel_rfl) (by rfl) (fun K hK => ?_)
      refine wp_store_whole 36 (.tmp 10) (.tmp 36) rfl w1.heap.size (headCells h).toArray rfl rfl 36 Z98 q2.out Fh.out.size Fh.out.zero Fh.out.one ?_
      intro w6 B6 k6
      have h4 : Hid (Below w1.heap.size w1 w6) := h3.out.trans (Kept.below_of k6 (by omega) h3.out.size)
      have q3 : Hid (Blk w6 (w1.heap.size + 1) 36 (headCells H).toArray) := Blk.kept B5.out k6 (by omega)
      replace B6 := Lib.hid B6
      clear k6
      go_simp
      refine hK _ _ h4.out ?_
      clear hK K
      refine held_end (by kernel_rfl) ?_
      go_wp2_with fail
      go_meet
      case rel => exact ⟨_, _, rfl, rfl, q3.out, B6.out, h4.out⟩
  case rest =>
    obtain ⟨g9, g10, rfl, rfl, hg9, hg10, hbe⟩ := hcut
    obtain ⟨w4, rfl⟩ : ∃ w4, w4 = wc := ⟨_, rfl⟩
    have bb4 : Hid (Below w.heap.size w w4) := bb1.out.trans (hbe.out.mono bb1.out.size)
    have N4 := Lib.hid (N1.out.below hbe.out)
    have C4 : Hid (Blk w4 (w.heap.size + 1) 46 #[Value.int .i64 x, Value.int .i64 y, Value.slice A2 n2 c2]) := (hbe.out.block _ C1.out.lt).trans C1.out
    clear hbe bb1 N1 C1 A1
    have hq1 : Hid ((binOp .neq 23 (.agg (cells8 h.log).toArray) (.agg (cells8 H.log).toArray)).run Tryz.prog w4 = .ok (.bool (!decide (h.log = H.log))) w4) := neq_dig _ _ lz1.out lz2.out w4
    have pl10 : Hid (∀ j u, (cells8 h.log)[j]? = some u → w4.cell? ⟨g10, 0 + j, none⟩ = some u) := fun j u hu => by rw [hg10.out.cell (0 + j), List.getElem?_toArray]; exact headCells_log j u hu
    have pl9 : Hid (∀ j u, (cells8 H.log)[j]? = some u → w4.cell? ⟨g9, 0 + j, none⟩ = some u) := fun j u hu => by rw [hg9.out.cell (0 + j), List.getElem?_toArray]; exact headCells_log j u hu
    have sl10 : Hid ((Tryz.prog.info? 23).map (·.size) = some (cells8 h.log).length) := by show _ = _; rw [cells8_len, lz1.out]; exact size32t
    have sl9 : Hid ((Tryz.prog.info? 23).map (·.size) = some (cells8 H.log).length) := by show _ = _; rw [cells8_len, lz2.out]; exact size32t
    have cs10 : w4.cell? ⟨g10, 32, none⟩ = some (.int .i64 h.size) := by rw [hg10.out.cell 32, List.getElem?_toArray]; exact headCells_size ok'.out
    have cs9 : w4.cell? ⟨g9, 32, none⟩ = some (.int .i64 H.size) := by rw [hg9.out.cell 32, List.getElem?_toArray]; exact headCells_size okH.out
    have cc10 : w4.cell? ⟨g10, 97, none⟩ = some (.int .i64 h.clock) := by rw [hg10.out.cell 97, List.getElem?_toArray]; exact headCells_clock ok'.out
    have cc9 : w4.cell? ⟨g9, 97, none⟩ = some (.int .i64 H.clock) := by rw [hg9.out.cell 97, List.getElem?_toArray]; exact headCells_clock okH.out
    have hqh : Hid ((binOp .eql 36 (.agg (headCells h).toArray) (.agg (headCells H).toArray)).run Tryz.prog w4 = .ok (.bool (headB h H)) w4) := eql_head2 h H ok'.out okH.out w4
    by_cases hlog : h.log = H.log
    · have x1 := decide_eq_true hlog
      rw [x1] at hq1
      by_cases hsz : h.size < H.size
      · have hA5 : Hid (headA s H h x y ds = 172) := by show _ = _; unfold headA; rw [if_neg (fun k => k hlog), if_pos hsz]
        replace hlog := Lib.hid hlog
        clear x1
        go_wp2_with (first
    | (((with_reducible change wpList _ _ _ (⟨some 39, _, _, _, _, _⟩ :: _) _ _); refine wpList_load_part (o := ⟨some 39, _, _, _, _, _⟩) rfl 23 (.tmp 38) rfl (g10) (0) rfl (cells8 h.log) _ pl10.out Tryz.underlying23 rfl sl10.out ?_))
    | (((with_reducible change wpList _ _ _ (⟨some 41, _, _, _, _, _⟩ :: _) _ _); refine wpList_load_part (o := ⟨some 41, _, _, _, _, _⟩) rfl 23 (.tmp 40) rfl (g9) (0) rfl (cells8 H.log) _ pl9.out Tryz.underlying23 rfl sl9.out ?_))
    | ((with_reducible change wpList _ _ _ (⟨some 42, _, _, _, _, _⟩ :: _) _ _); (with_reducible refine Veil.out ?_); refine wpList_cmpW (o := ⟨some 42, _, _, _, _, _⟩) rfl .neq 23 23 (.tmp 39) (.tmp 41) rfl ((cells8 h.log).toArray) ((cells8 H.log).toArray) rfl rfl qDGt (_) (hq1.out) ?_)
    | (((with_reducible change wpList _ _ _ (⟨some 50, _, _, _, _, _⟩ :: _) _ _); refine wpList_load_row (o := ⟨some 50, _, _, _, _, _⟩) rfl 36 (.tmp 10) rfl (g10) rfl 36 ((headCells h).toArray) (0, 0) _ hg10.out Tryz.underlying36 rfl Fh.out.size ?_))
    | (((with_reducible change wpList _ _ _ (⟨some 51, _, _, _, _, _⟩ :: _) _ _); refine wpList_load_row (o := ⟨some 51, _, _, _, _, _⟩) rfl 36 (.tmp 9) rfl (g9) rfl 36 ((headCells H).toArray) (0, 0) _ hg9.out Tryz.underlying36 rfl FH.out.size ?_))
    | ((with_reducible change wpList _ _ _ (⟨some 52, _, _, _, _, _⟩ :: _) _ _); (with_reducible refine Veil.out ?_); refine wpList_cmpW (o := ⟨some 52, _, _, _, _, _⟩) rfl .eql 36 36 (.tmp 50) (.tmp 51) rfl ((headCells h).toArray) ((headCells H).toArray) rfl rfl qHDt (_) (hqh.out) ?_))
        go_ret
        exact take_no (hT.out.trans hA5.out) (.inl (by decide)) rfl bb4.out
      have x2 : (h.size < H.size) = False := eq_false hsz
      cases hhb : headB h H with
      | true =>
        rw [hhb] at hqh
        have hA5 : Hid (headA s H h x y ds = 0) := by show _ = _; unfold headA; rw [if_neg (fun k => k hlog), if_neg hsz, if_pos hhb]
        have hhb' := Lib.hid hhb
        clear hlog x1 hsz hhb
        go_wp2_with (first
    | (((with_reducible change wpList _ _ _ (⟨some 39, _, _, _, _, _⟩ :: _) _ _); refine wpList_load_part (o := ⟨some 39, _, _, _, _, _⟩) rfl 23 (.tmp 38) rfl (g10) (0) rfl (cells8 h.log) _ pl10.out Tryz.underlying23 rfl sl10.out ?_))
    | (((with_reducible change wpList _ _ _ (⟨some 41, _, _, _, _, _⟩ :: _) _ _); refine wpList_load_part (o := ⟨some 41, _, _, _, _, _⟩) rfl 23 (.tmp 40) rfl (g9) (0) rfl (cells8 H.log) _ pl9.out Tryz.underlying23 rfl sl9.out ?_))
    | ((with_reducible change wpList _ _ _ (⟨some 42, _, _, _, _, _⟩ :: _) _ _); (with_reducible refine Veil.out ?_); refine wpList_cmpW (o := ⟨some 42, _, _, _, _, _⟩) rfl .neq 23 23 (.tmp 39) (.tmp 41) rfl ((cells8 h.log).toArray) ((cells8 H.log).toArray) rfl rfl qDGt (_) (hq1.out) ?_)
    | (((with_reducible change wpList _ _ _ (⟨some 50, _, _, _, _, _⟩ :: _) _ _); refine wpList_load_row (o := ⟨some 50, _, _, _, _, _⟩) rfl 36 (.tmp 10) rfl (g10) rfl 36 ((headCells h).toArray) (0, 0) _ hg10.out Tryz.underlying36 rfl Fh.out.size ?_))
    | (((with_reducible change wpList _ _ _ (⟨some 51, _, _, _, _, _⟩ :: _) _ _); refine wpList_load_row (o := ⟨some 51, _, _, _, _, _⟩) rfl 36 (.tmp 9) rfl (g9) rfl 36 ((headCells H).toArray) (0, 0) _ hg9.out Tryz.underlying36 rfl FH.out.size ?_))
    | ((with_reducible change wpList _ _ _ (⟨some 52, _, _, _, _, _⟩ :: _) _ _); (with_reducible refine Veil.out ?_); refine wpList_cmpW (o := ⟨some 52, _, _, _, _, _⟩) rfl .eql 36 36 (.tmp 50) (.tmp 51) rfl ((headCells h).toArray) ((headCells H).toArray) rfl rfl qHDt (_) (hqh.out) ?_))
        go_ret
        exact take_no (hT.out.trans hA5.out) (.inr hhb'.out) rfl bb4.out
      | false =>
        rw [hhb] at hqh
        by_cases hfk : h.size = H.size ∨ h.clock < H.clock
        · have hA5 : Hid (headA s H h x y ds = 173) := by show _ = _; unfold headA; rw [if_neg (fun k => k hlog), if_neg hsz, if_neg (by rw [hhb]; decide), if_pos hfk]
          clear hlog x1 hsz hhb
          by_cases he1 : h.size = H.size
          · have y1 : (h.size == H.size) = true := by simpa using he1
            clear he1 hfk x2
            have x2 : (h.size < H.size) = False := eq_false (by have := eq_of_beq y1; omega)
            go_wp2_with (first
    | (((with_reducible change wpList _ _ _ (⟨some 39, _, _, _, _, _⟩ :: _) _ _); refine wpList_load_part (o := ⟨some 39, _, _, _, _, _⟩) rfl 23 (.tmp 38) rfl (g10) (0) rfl (cells8 h.log) _ pl10.out Tryz.underlying23 rfl sl10.out ?_))
    | (((with_reducible change wpList _ _ _ (⟨some 41, _, _, _, _, _⟩ :: _) _ _); refine wpList_load_part (o := ⟨some 41, _, _, _, _, _⟩) rfl 23 (.tmp 40) rfl (g9) (0) rfl (cells8 H.log) _ pl9.out Tryz.underlying23 rfl sl9.out ?_))
    | ((with_reducible change wpList _ _ _ (⟨some 42, _, _, _, _, _⟩ :: _) _ _); (with_reducible refine Veil.out ?_); refine wpList_cmpW (o := ⟨some 42, _, _, _, _, _⟩) rfl .neq 23 23 (.tmp 39) (.tmp 41) rfl ((cells8 h.log).toArray) ((cells8 H.log).toArray) rfl rfl qDGt (_) (hq1.out) ?_)
    | (((with_reducible change wpList _ _ _ (⟨some 50, _, _, _, _, _⟩ :: _) _ _); refine wpList_load_row (o := ⟨some 50, _, _, _, _, _⟩) rfl 36 (.tmp 10) rfl (g10) rfl 36 ((headCells h).toArray) (0, 0) _ hg10.out Tryz.underlying36 rfl Fh.out.size ?_))
    | (((with_reducible change wpList _ _ _ (⟨some 51, _, _, _, _, _⟩ :: _) _ _); refine wpList_load_row (o := ⟨some 51, _, _, _, _, _⟩) rfl 36 (.tmp 9) rfl (g9) rfl 36 ((headCells H).toArray) (0, 0) _ hg9.out Tryz.underlying36 rfl FH.out.size ?_))
    | ((with_reducible change wpList _ _ _ (⟨some 52, _, _, _, _, _⟩ :: _) _ _); (with_reducible refine Veil.out ?_); refine wpList_cmpW (o := ⟨some 52, _, _, _, _, _⟩) rfl .eql 36 36 (.tmp 50) (.tmp 51) rfl ((headCells h).toArray) ((headCells H).toArray) rfl rfl qHDt (_) (hqh.out) ?_))
            go_ret
            exact take_no (hT.out.trans hA5.out) (.inl (by decide)) rfl bb4.out
          · have y1 : (h.size == H.size) = false := by simpa using he1
            have y2 : h.clock < H.clock := hfk.resolve_left he1
            clear he1 hfk
            go_wp2_with (first
    | (((with_reducible change wpList _ _ _ (⟨some 39, _, _, _, _, _⟩ :: _) _ _); refine wpList_load_part (o := ⟨some 39, _, _, _, _, _⟩) rfl 23 (.tmp 38) rfl (g10) (0) rfl (cells8 h.log) _ pl10.out Tryz.underlying23 rfl sl10.out ?_))
    | (((with_reducible change wpList _ _ _ (⟨some 41, _, _, _, _, _⟩ :: _) _ _); refine wpList_load_part (o := ⟨some 41, _, _, _, _, _⟩) rfl 23 (.tmp 40) rfl (g9) (0) rfl (cells8 H.log) _ pl9.out Tryz.underlying23 rfl sl9.out ?_))
    | ((with_reducible change wpList _ _ _ (⟨some 42, _, _, _, _, _⟩ :: _) _ _); (with_reducible refine Veil.out ?_); refine wpList_cmpW (o := ⟨some 42, _, _, _, _, _⟩) rfl .neq 23 23 (.tmp 39) (.tmp 41) rfl ((cells8 h.log).toArray) ((cells8 H.log).toArray) rfl rfl qDGt (_) (hq1.out) ?_)
    | (((with_reducible change wpList _ _ _ (⟨some 50, _, _, _, _, _⟩ :: _) _ _); refine wpList_load_row (o := ⟨some 50, _, _, _, _, _⟩) rfl 36 (.tmp 10) rfl (g10) rfl 36 ((headCells h).toArray) (0, 0) _ hg10.out Tryz.underlying36 rfl Fh.out.size ?_))
    | (((with_reducible change wpList _ _ _ (⟨some 51, _, _, _, _, _⟩ :: _) _ _); refine wpList_load_row (o := ⟨some 51, _, _, _, _, _⟩) rfl 36 (.tmp 9) rfl (g9) rfl 36 ((headCells H).toArray) (0, 0) _ hg9.out Tryz.underlying36 rfl FH.out.size ?_))
    | ((with_reducible change wpList _ _ _ (⟨some 52, _, _, _, _, _⟩ :: _) _ _); (with_reducible refine Veil.out ?_); refine wpList_cmpW (o := ⟨some 52, _, _, _, _, _⟩) rfl .eql 36 36 (.tmp 50) (.tmp 51) rfl ((headCells h).toArray) ((headCells H).toArray) rfl rfl qHDt (_) (hqh.out) ?_))
            go_ret
            exact take_no (hT.out.trans hA5.out) (.inl (by decide)) rfl bb4.out
        · have hA5 : Hid (headA s H h x y ds = joinA s H h x y ds) := by show _ = _; unfold headA; rw [if_neg (fun k => k hlog), if_neg hsz, if_neg (by rw [hhb]; decide), if_neg hfk]
          have y1 : (h.size == H.size) = false := by have := mt Or.inl hfk; simpa using this
          have y2 : (h.clock < H.clock) = False := eq_false (mt Or.inr hfk)
          have hhb' := Lib.hid hhb
          have hTj := Lib.hid (hT.out.trans hA5.out)
          clear hlog x1 hsz hhb hfk hT hA5
          have hEn : Hid (∀ w', Below w.heap.size w w' → Calls Tryz.prog 66 #[.agg #[Value.int .i64 x, Value.int .i64 y, Value.slice A2 n2 c2]] w' fun e w'' => ∃ A4 c4 b err, e = .returned (.tuple #[.slice A4 b.length c4, .int .i64 err]) ∧ Reads w'' 1 A4 b.length (cells8 b) ∧ ((consWant x y ds = some b ∧ err = 0) ∨ (consWant x y ds = none ∧ b = [] ∧ err = 170)) ∧ Below w'.heap.size w' w'') := fun w' hb => encCons_any x y ds A2 n2 c2 w' (hDs.out w' hb)
          go_upto_region 14 with (first
    | (((with_reducible change wpList _ _ _ (⟨some 39, _, _, _, _, _⟩ :: _) _ _); refine wpList_load_part (o := ⟨some 39, _, _, _, _, _⟩) rfl 23 (.tmp 38) rfl (g10) (0) rfl (cells8 h.log) _ pl10.out Tryz.underlying23 rfl sl10.out ?_))
    | (((with_reducible change wpList _ _ _ (⟨some 41, _, _, _, _, _⟩ :: _) _ _); refine wpList_load_part (o := ⟨some 41, _, _, _, _, _⟩) rfl 23 (.tmp 40) rfl (g9) (0) rfl (cells8 H.log) _ pl9.out Tryz.underlying23 rfl sl9.out ?_))
    | ((with_reducible change wpList _ _ _ (⟨some 42, _, _, _, _, _⟩ :: _) _ _); (with_reducible refine Veil.out ?_); refine wpList_cmpW (o := ⟨some 42, _, _, _, _, _⟩) rfl .neq 23 23 (.tmp 39) (.tmp 41) rfl ((cells8 h.log).toArray) ((cells8 H.log).toArray) rfl rfl qDGt (_) (hq1.out) ?_)
    | (((with_reducible change wpList _ _ _ (⟨some 50, _, _, _, _, _⟩ :: _) _ _); refine wpList_load_row (o := ⟨some 50, _, _, _, _, _⟩) rfl 36 (.tmp 10) rfl (g10) rfl 36 ((headCells h).toArray) (0, 0) _ hg10.out Tryz.underlying36 rfl Fh.out.size ?_))
    | (((with_reducible change wpList _ _ _ (⟨some 51, _, _, _, _, _⟩ :: _) _ _); refine wpList_load_row (o := ⟨some 51, _, _, _, _, _⟩) rfl 36 (.tmp 9) rfl (g9) rfl 36 ((headCells H).toArray) (0, 0) _ hg9.out Tryz.underlying36 rfl FH.out.size ?_))
    | ((with_reducible change wpList _ _ _ (⟨some 52, _, _, _, _, _⟩ :: _) _ _); (with_reducible refine Veil.out ?_); refine wpList_cmpW (o := ⟨some 52, _, _, _, _, _⟩) rfl .eql 36 36 (.tmp 50) (.tmp 51) rfl ((headCells h).toArray) ((headCells H).toArray) rfl rfl qHDt (_) (hqh.out) ?_)
    | (((with_reducible change wpList _ _ _ (⟨some 67, _, _, _, _, _⟩ :: _) _ _); refine wpList_load_row (o := ⟨some 67, _, _, _, _, _⟩) rfl 46 (.tmp 5) rfl (w.heap.size + 1) rfl 46 (#[Value.int .i64 x, Value.int .i64 y, Value.slice A2 n2 c2]) (0, 0) _ C4.out Tryz.underlying46 rfl sizeCt ?_))
    | (go_at_call 66; refine (hEn.out _ bb4.out).mono ?_; rintro e w5 ⟨A5, c5, b5, err, rfl, -, hbe5, hb5⟩; have bb5 : Hid (Below w.heap.size w w5) := bb4.out.trans (hb5.mono bb4.out.size); have N5 := Lib.hid (N4.out.below hb5); have C5 : Hid (Blk w5 (w.heap.size + 1) 46 #[Value.int .i64 x, Value.int .i64 y, Value.slice A2 n2 c2]) := (hb5.block _ C4.out.lt).trans C4.out; have hg9' : Hid (Blk w5 g9 36 (headCells H).toArray) := (hb5.block _ hg9.out.lt).trans hg9.out; have hg10' : Hid (Blk w5 g10 36 (headCells h).toArray) := (hb5.block _ hg10.out.lt).trans hg10.out; have cx := C5.out.cell 0; have cy := C5.out.cell 1; have ct10 : w5.cell? ⟨g10, 32, none⟩ = some (.int .i64 h.size) := (by rw [hg10'.out.cell 32, List.getElem?_toArray]; exact headCells_size ok'.out); have ct9 : w5.cell? ⟨g9, 32, none⟩ = some (.int .i64 H.size) := (by rw [hg9'.out.cell 32, List.getElem?_toArray]; exact headCells_size okH.out); clear hb5 C4 N4))
          clear x2 y1 y2 cs10 cs9 cc10 cc9 hq1 pl10 pl9 hqh
          rcases hbe5 with ⟨hcw, rfl⟩ | ⟨hcw, rfl, rfl⟩
          · by_cases hx1 : x = H.size
            · by_cases hy1 : y = h.size
              · have hJ : Hid (joinA s H h x y ds = audJoins s H.root h.root x y ds) := by show _ = _; unfold joinA; rw [if_neg]; rintro (q | q | q); rw [hcw] at q; cases q; exact q hx1; exact q hy1
                have hTk := Lib.hid (hTj.out.trans hJ.out)
                subst hx1 hy1
                obtain ⟨kj, hkj⟩ : ∃ k, Hid (audJoins s H.root h.root H.size h.size ds = k) := ⟨_, Lib.hid rfl⟩
                rw [hkj.out] at hTk
                have hJn : Hid (∀ w', Below w.heap.size w w' → Calls Tryz.prog 67 #[.int .i64 s, .agg (cells8 H.root).toArray, .agg (cells8 h.root).toArray, .agg #[Value.int .i64 H.size, Value.int .i64 h.size, Value.slice A2 n2 c2]] w' fun e w'' => e = .returned (.int .i64 kj) ∧ Below w'.heap.size w' w'') := fun w' hb => by
                  have := audJoins_any s H.root h.root okH.out.root ok'.out.root H.size h.size ds A2 n2 c2 hn7.out w' (hBs.out w' hb) (hDs.out w' hb)
                  rw [hkj.out] at this
                  exact this
                have sr9 : Hid ((Tryz.prog.info? 23).map (·.size) = some (cells8 H.root).length) := by show _ = _; rw [cells8_len, okH.out.root]; exact size32t
                have sr10 : Hid ((Tryz.prog.info? 23).map (·.size) = some (cells8 h.root).length) := by show _ = _; rw [cells8_len, ok'.out.root]; exact size32t
                have pr10 : Hid (∀ j u, (cells8 h.root)[j]? = some u → w5.cell? ⟨g10, 33 + j, none⟩ = some u) := fun j u hu => by rw [hg10'.out.cell (33 + j), List.getElem?_toArray]; exact headCells_root ok'.out j u hu
                have pr9 : Hid (∀ j u, (cells8 H.root)[j]? = some u → w5.cell? ⟨g9, 33 + j, none⟩ = some u) := fun j u hu => by rw [hg9'.out.cell (33 + j), List.getElem?_toArray]; exact headCells_root okH.out j u hu
                have hln9 := Lib.hid hg9'.out.lt
                have hln10 := Lib.hid hg10'.out.lt
                clear hcw hJ hTj
                go_upto_region 16 with fail
                clear ct10 ct9
                refine q_region (Class w5) (by kernel_rfl) (by kernel_rfl) (Class.mk_ ((Below.refl _ _).drew)) ?_
                refine q_move rfl (.tmp 0) rfl ?_
                (intro K k; go_simp; apply k; clear k K)
                refine Want.qv0 (.pointer (some ⟨a, 0, none⟩)) ?_
                (intro K k; go_simp; apply k; clear k K)
                refine Want.qv0 (.pointer (some ⟨a, 0, none⟩)) ?_
                (intro K k; go_simp; apply k; clear k K)
                refine q_val (v := .int .i64 s) rfl (fun w' hw' => by have hc := (hAs.out w' (bb5.out.trans (hw'.below.mono bb5.out.size))).width; go_simp) ?_
                (intro K k; go_simp; apply k; clear k K)
                refine Want.qv0 (.pointer (some ⟨g9, 33, none⟩)) ?_
                (intro K k; go_simp; apply k; clear k K)
                refine q_part rfl 23 (.tmp 91) rfl g9 (33) rfl (cells8 H.root) _ (fun w' hw' => (fun j u hu => (hw'.below.cell (p := ⟨g9, 33 + j, none⟩) hln9.out).trans (pr9.out j u hu))) Tryz.underlying23 rfl sr9.out ?_
                (intro K k; go_simp; apply k; clear k K)
                refine Want.qv0 (.pointer (some ⟨g10, 33, none⟩)) ?_
                (intro K k; go_simp; apply k; clear k K)
                refine q_part rfl 23 (.tmp 93) rfl g10 (33) rfl (cells8 h.root) _ (fun w' hw' => (fun j u hu => (hw'.below.cell (p := ⟨g10, 33 + j, none⟩) hln10.out).trans (pr10.out j u hu))) Tryz.underlying23 rfl sr10.out ?_
                (intro K k; go_simp; apply k; clear k K)
                refine q_row rfl 46 (.tmp 5) rfl (w.heap.size + 1) rfl 46 (#[Value.int .i64 H.size, Value.int .i64 h.size, Value.slice A2 n2 c2]) (0, 0) _ (fun w' hw' => (show Blk w' (w.heap.size + 1) 46 #[Value.int .i64 H.size, Value.int .i64 h.size, Value.slice A2 n2 c2] from (hw'.below.block _ C5.out.lt).trans C5.out)) Tryz.underlying46 rfl sizeCt ?_
                (intro K k; go_simp; apply k; clear k K)
                refine q_fn (v := .int .i64 kj) (args := #[.int .i64 s, .agg (cells8 H.root).toArray, .agg (cells8 h.root).toArray, .agg #[Value.int .i64 H.size, Value.int .i64 h.size, Value.slice A2 n2 c2]]) rfl _ _ rfl rfl Tryz.func67 (by kernel_rfl) (by kernel_rfl) (fun w' hw' => ((hJn.out w' (bb5.out.trans (hw'.below.mono bb5.out.size))).mono fun e w'' ⟨he, hb⟩ => ⟨he, hw'.next hb⟩)) ?_
                (intro K k; go_simp; apply k; clear k K)
                refine Want.qv0 (.int .i64 kj) ?_
                (intro K k; go_simp; apply k; clear k K)
                refine q_nil ?_
                intro w6 hw6
                have b56 : Hid (Below w5.heap.size w5 w6) := hw6.below
                have bb6 : Hid (Below w.heap.size w w6) := bb5.out.trans (b56.out.mono bb5.out.size)
                have N6 := Lib.hid (N5.out.below b56.out)
                clear hw6 b56 pr9 pr10 hln9 hln10 C5 N5
                by_cases hj0 : kj = 0
                · subst hj0
                  have A7 := Lib.hid (hAs.out w6 bb6.out)
                  go_wp2_with (first
    | (((with_reducible change wpList _ _ _ (⟨some 101, _, _, _, _, _⟩ :: _) _ _); refine wpList_load_row (o := ⟨some 101, _, _, _, _, _⟩) rfl 39 (.tmp 4) rfl (w.heap.size) rfl 39 ((noteCells h (.slice Ao m co)).toArray) (0, 0) _ N6.out.blk Tryz.underlying39 rfl zL.out ?_))
    | (go_at_call 68; refine (copied_any h ok'.out rs m (by have := hm16.out; omega) Ao co hnl.out w6 N6.out.sgs).mono ?_; rintro e w7 ⟨A7, c7, rfl, hO, hb7⟩; have bb7 : Hid (Below w.heap.size w w7) := bb6.out.trans (hb7.mono bb6.out.size); have hO7 : Hid (OwnS w7 w.heap.size (.slice A7 m c7) m rs) := hO.base bb6.out.size; have B7 : Hid (Blk w7 a 126 (audC s least R H (.slice A n c)).toArray) := (hAs.out w7 bb7.out).blk; have hset := Lib.hid (audC_set (s := s) (least := least) (R := R) okH.out ok'.out (.slice A n c) (.slice A7 m c7)); clear hO hb7)
    | ((with_reducible change wpList _ _ _ ({ dst := none, op := Op.store 39 (.tmp 104) (.tmp 102), type := _, pos := _, after := _, guard := _ } :: _) _ _); refine Go.Proofs.YtgldkfaiofkhbaaGreatDoor.Book.wpList_store_part (o := ⟨none, _, _, _, _, _⟩) rfl 39 (.tmp 104) (.tmp 102) rfl a 3 (noteCells h (.slice A7 m c7)).toArray rfl rfl 126 _ B7.out (note_size ok'.out _) (by rw [List.size_toArray, List.size_toArray, noteCells_len ok'.out, audC_len okH.out]; decide) (oN.out _ _ _) ?_; rw [hset.out]; have B8 : Hid (Blk (w7.setRow a (audC s least R h (.slice A7 m c7)).toArray) a 126 (audC s least R h (.slice A7 m c7)).toArray) := setRow_heap _ _ _ _ _ _ B7.out; have k8 : Hid (Kept (· = a) w7 (w7.setRow a (audC s least R h (.slice A7 m c7)).toArray)) := Bytes.Kept.setRow (S := (· = a)) (Kept.refl _ w7) rfl _))
                  go_ret
                  exact take_new hA'.out ok'.out hm16.out hTk.out hhb'.out rfl bb7.out hO7.out k8.out B8.out
                · have hj1 : ¬ (kj = 0) := hj0
                  go_wp2_with fail
                  go_ret
                  exact take_no hTk.out (.inl hj0) rfl bb6.out
              · have hJ : Hid (joinA s H h x y ds = 170) := by show _ = _; unfold joinA; rw [if_pos (.inr (.inr hy1))]
                have u2 : (y == h.size) = false := by simpa using hy1
                subst hx1
                clear hcw hy1
                go_wp2_with fail
                go_ret
                exact take_no (hTj.out.trans hJ.out) (.inl (by decide)) rfl bb5.out
            · have hJ : Hid (joinA s H h x y ds = 170) := by show _ = _; unfold joinA; rw [if_pos (.inr (.inl hx1))]
              have u1 : (x == H.size) = false := by simpa using hx1
              clear hcw hx1
              go_wp2_with fail
              go_ret
              exact take_no (hTj.out.trans hJ.out) (.inl (by decide)) rfl bb5.out
          · have hJ : Hid (joinA s H h x y ds = 170) := by show _ = _; unfold joinA; rw [if_pos (.inl hcw)]
            clear hcw
            go_wp2_with fail
            go_ret
            exact take_no (hTj.out.trans hJ.out) (.inl (by decide)) rfl bb5.out
    · have x1 := decide_eq_false hlog
      rw [x1] at hq1
      have hA5 : Hid (headA s H h x y ds = 173) := by show _ = _; unfold headA; rw [if_pos hlog]
      clear hlog x1
      go_wp2_with (first
    | (((with_reducible change wpList _ _ _ (⟨some 39, _, _, _, _, _⟩ :: _) _ _); refine wpList_load_part (o := ⟨some 39, _, _, _, _, _⟩) rfl 23 (.tmp 38) rfl (g10) (0) rfl (cells8 h.log) _ pl10.out Tryz.underlying23 rfl sl10.out ?_))
    | (((with_reducible change wpList _ _ _ (⟨some 41, _, _, _, _, _⟩ :: _) _ _); refine wpList_load_part (o := ⟨some 41, _, _, _, _, _⟩) rfl 23 (.tmp 40) rfl (g9) (0) rfl (cells8 H.log) _ pl9.out Tryz.underlying23 rfl sl9.out ?_))
    | ((with_reducible change wpList _ _ _ (⟨some 42, _, _, _, _, _⟩ :: _) _ _); (with_reducible refine Veil.out ?_); refine wpList_cmpW (o := ⟨some 42, _, _, _, _, _⟩) rfl .neq 23 23 (.tmp 39) (.tmp 41) rfl ((cells8 h.log).toArray) ((cells8 H.log).toArray) rfl rfl qDGt (_) (hq1.out) ?_)
    | (((with_reducible change wpList _ _ _ (⟨some 50, _, _, _, _, _⟩ :: _) _ _); refine wpList_load_row (o := ⟨some 50, _, _, _, _, _⟩) rfl 36 (.tmp 10) rfl (g10) rfl 36 ((headCells h).toArray) (0, 0) _ hg10.out Tryz.underlying36 rfl Fh.out.size ?_))
    | (((with_reducible change wpList _ _ _ (⟨some 51, _, _, _, _, _⟩ :: _) _ _); refine wpList_load_row (o := ⟨some 51, _, _, _, _, _⟩) rfl 36 (.tmp 9) rfl (g9) rfl 36 ((headCells H).toArray) (0, 0) _ hg9.out Tryz.underlying36 rfl FH.out.size ?_))
    | ((with_reducible change wpList _ _ _ (⟨some 52, _, _, _, _, _⟩ :: _) _ _); (with_reducible refine Veil.out ?_); refine wpList_cmpW (o := ⟨some 52, _, _, _, _, _⟩) rfl .eql 36 36 (.tmp 50) (.tmp 51) rfl ((headCells h).toArray) ((headCells H).toArray) rfl rfl qHDt (_) (hqh.out) ?_))
      go_ret
      exact take_no (hT.out.trans hA5.out) (.inl (by decide)) rfl bb4.out
end Go.Proofs.YtgldkfaiofkhbaaGreatDoor.AudTake

namespace Go.Proofs.YtgldkfaiofkhbaaGreatDoor.AudEvent
open Go Go.RowKit Go.Proofs.YtgldkfaiofkhbaaGreatDoor Mem Sha Bytes HashMem DigestMem SortP NoteP QuietTail Grown TreeMem Held Want Go.Proofs.YtgldkfaiofkhbaaGreatDoor.Append Own Rise SortM SgM HeadMem EncNoteP EncNote RefNote NoteM Fill HeadTake Decode SignEq CmpW RingM RingS VerP Verify Signs HeadID Ref17 RefCons EncConsAny AudJoins HeadCmp GrowP AudM AudNote ProofEnc AudIncl AudTake

def evA (s : Int) (H : HeadD) (ev : Text) (x1 x2 : Int) (ds : List Text) : Int := if x1 ≠ H.size then 170 else audIncl s H.root ev x1 x2 ds
theorem ev_zero {s : Int} {H : HeadD} {ev : Text} {x1 x2 : Int} {ds : List Text} (h : evA s H ev x1 x2 ds = 0) : x1 = H.size ∧ audIncl s H.root ev x1 x2 ds = 0 := by
 unfold evA at h
 by_cases hx : x1 ≠ H.size
 ·rw [if_pos hx] at h; exact absurd h (by decide)
 ·rw [if_neg hx] at h; exact ⟨Decidable.not_not.1 hx, h⟩
theorem AudAt.rootAt {w : World} {a : Nat} {s least : Int} {R : Nat} {h : HeadD} {A : Option Addr} {n c : Nat} {ss : List Text} (k : AudAt w a s least R h A n c ss) (j : Nat) (u : Value) (hu : (cells8 h.root)[j]? = some u) : w.cell? ⟨a, 36 + j, none⟩ = some u := by
 have := k.head (33 + j) u (headCells_root k.ok j u hu)
 rwa [← Nat.add_assoc] at this
theorem AudAt.sizeAt {w : World} {a : Nat} {s least : Int} {R : Nat} {h : HeadD} {A : Option Addr} {n c : Nat} {ss : List Text} (k : AudAt w a s least R h A n c ss) : w.cell? ⟨a, 35, none⟩ = some (.int .i64 h.size) := k.head 32 _ (headCells_size k.ok)
theorem sizeIe : (Tryz.prog.info? 48).map (·.size) = some 3 := by kernel_rfl
set_option maxRecDepth 100000 in
set_option maxHeartbeats 4000000 in
theorem audEvent_any (a : Nat) (s least : Int) (R : Nat) (H : HeadD) (A : Option Addr) (n c : Nat) (ss : List Text) (ev : Text) (k : Nat) (hk : ev.length = k) (hk47 : k < 140737488355328) (A1 : Option Addr) (c1 : Nat) (hkc : k ≤ c1) (hnil : A1 = none → k = 0 ∧ c1 = 0) (x1 x2 : Int) (ds : List Text) (A2 : Option Addr) (n2 c2 : Nat) (hn47 : n2 < 140737488355328) (w : World) (hB : Base w) (hA : AudAt w a s least R H A n c ss) (hr : Reads w 1 A1 k (cells8 ev)) (hrd : RdD w A2 n2 ds) :
  Calls Tryz.prog 20 #[.pointer (some ⟨a, 0, none⟩), .slice A1 k c1, .agg (inclCells x1 x2 A2 n2 c2)] w fun e w' => e = .returned (.int .i64 (evA s H ev x1 x2 ds)) ∧ Below w.heap.size w w' := by
 unfold inclCells
 obtain ⟨w0, hw0⟩ : ∃ w0, Hid (w.alloc (.cells #[Value.int .i64 x1, Value.int .i64 x2, Value.slice A2 n2 c2] 48) = w0) := ⟨_, Lib.hid rfl⟩
 have C0 : Hid (Blk w0 w.heap.size 48 #[Value.int .i64 x1, Value.int .i64 x2, Value.slice A2 n2 c2]) := by show Blk _ _ _ _; rw [← hw0.out]; exact Blk.new w _ _
 have b0 : Hid (Below w.heap.size w w0) := by show Below _ _ _; rw [← hw0.out]; exact Below.heap_below w _
 have hw0' := hw0.out
 have hAs : Hid (∀ w', Below w.heap.size w w' → AudAt w' a s least R H A n c ss) := fun w' hb => hA.below hb
 have hIn : Hid (∀ w', Below w.heap.size w w' → Calls Tryz.prog 69 #[.int .i64 s, .agg (cells8 H.root).toArray, .slice A1 k c1, .agg #[Value.int .i64 x1, Value.int .i64 x2, Value.slice A2 n2 c2]] w' fun e w'' => e = .returned (.int .i64 (audIncl s H.root ev x1 x2 ds)) ∧ Below w'.heap.size w' w'') := fun w' hb => audIncl_any s H.root hA.ok.root ev k hk hk47 A1 c1 hkc hnil x1 x2 ds A2 n2 c2 hn47 w' (hB.below hb hB.1) (hr.below hb) (hrd.below hb)
 have sr : Hid ((Tryz.prog.info? 23).map (·.size) = some (cells8 H.root).length) := by show _ = _; rw [cells8_len, hA.ok.root]; exact size32t
 have hCs : Hid (∀ w', Below w0.heap.size w0 w' → Blk w' w.heap.size 48 #[Value.int .i64 x1, Value.int .i64 x2, Value.slice A2 n2 c2]) := fun w' hb => (hb.block _ C0.out.lt).trans C0.out
 clear hw0 hB hA hk hk47 hkc hnil hn47 hr hrd
 by_cases hx : x1 = H.size
 ·have hE : Hid (evA s H ev x1 x2 ds = audIncl s H.root ev x1 x2 ds) := by show _ = _; unfold evA; rw [if_neg (fun k => k hx)]
  obtain ⟨ke, hke⟩ : ∃ k, Hid (audIncl s H.root ev x1 x2 ds = k) := ⟨_, Lib.hid rfl⟩
  rw [hke.out] at hE hIn
  rw [hE.out]
  have hne : (x1 != H.size) = false := by simp [hx]
  replace hne := Lib.hid hne
  clear hx hE hke
  go_enter Tryz.func20, Tryz.ntmps20
  go_upto_region 1 with fail
  refine q_region (Class w0) (by kernel_rfl) (by kernel_rfl) (Class.mk_ ((Below.refl _ _).drew)) ?_
  refine Want.qv0 (.pointer (some ⟨w.heap.size, 0, none⟩)) ?_
  (intro K k; go_simp; apply k; clear k K)
  refine q_val (v := .int .i64 x1) rfl (fun w' hw' => by have hc := (hCs.out w' hw'.below).cell 0; go_simp) ?_
  (intro K k; go_simp; apply k; clear k K)
  refine q_move rfl (.tmp 0) rfl ?_
  (intro K k; go_simp; apply k; clear k K)
  refine Want.qv0 (.pointer (some ⟨a, 0, none⟩)) ?_
  (intro K k; go_simp; apply k; clear k K)
  refine Want.qv0 (.pointer (some ⟨a, 3, none⟩)) ?_
  (intro K k; go_simp; apply k; clear k K)
  refine Want.qv0 (.pointer (some ⟨a, 3, none⟩)) ?_
  (intro K k; go_simp; apply k; clear k K)
  refine Want.qv0 (.pointer (some ⟨a, 35, none⟩)) ?_
  (intro K k; go_simp; apply k; clear k K)
  refine q_val (v := .int .i64 H.size) rfl (fun w' hw' => by have hc := AudAt.sizeAt (hAs.out w' (b0.out.trans (hw'.below.mono b0.out.size))); go_simp) ?_
  (intro K k; go_simp; apply k; clear k K)
  refine q_val (v := .bool false) rfl (fun w' hw' => by have hc := hne.out; go_simp) ?_
  (intro K k; go_simp; apply k; clear k K)
  refine q_nil ?_
  intro w1 hw1
  have b01 : Hid (Below w0.heap.size w0 w1) := hw1.below
  have bb1 : Hid (Below w.heap.size w w1) := b0.out.trans (b01.out.mono b0.out.size)
  clear hw1
  go_wp2_with fail
  go_upto_region 3 with fail
  refine q_region (Class w1) (by kernel_rfl) (by kernel_rfl) (Class.mk_ ((Below.refl _ _).drew)) ?_
  refine q_move rfl (.tmp 0) rfl ?_
  (intro K k; go_simp; apply k; clear k K)
  refine Want.qv0 (.pointer (some ⟨a, 0, none⟩)) ?_
  (intro K k; go_simp; apply k; clear k K)
  refine Want.qv0 (.pointer (some ⟨a, 0, none⟩)) ?_
  (intro K k; go_simp; apply k; clear k K)
  refine q_val (v := .int .i64 s) rfl (fun w' hw' => by have hc := (hAs.out w' (bb1.out.trans (hw'.below.mono bb1.out.size))).width; go_simp) ?_
  (intro K k; go_simp; apply k; clear k K)
  refine q_move rfl (.tmp 0) rfl ?_
  (intro K k; go_simp; apply k; clear k K)
  refine Want.qv0 (.pointer (some ⟨a, 0, none⟩)) ?_
  (intro K k; go_simp; apply k; clear k K)
  refine Want.qv0 (.pointer (some ⟨a, 3, none⟩)) ?_
  (intro K k; go_simp; apply k; clear k K)
  refine Want.qv0 (.pointer (some ⟨a, 3, none⟩)) ?_
  (intro K k; go_simp; apply k; clear k K)
  refine Want.qv0 (.pointer (some ⟨a, 36, none⟩)) ?_
  (intro K k; go_simp; apply k; clear k K)
  refine q_part rfl 23 (.tmp 24) rfl a (36) rfl (cells8 H.root) _ (fun w' hw' => AudAt.rootAt (hAs.out w' (bb1.out.trans (hw'.below.mono bb1.out.size)))) Tryz.underlying23 rfl sr.out ?_
  (intro K k; go_simp; apply k; clear k K)
  refine q_move rfl (.tmp 1) rfl ?_
  (intro K k; go_simp; apply k; clear k K)
  refine q_row rfl 48 (.tmp 5) rfl w.heap.size rfl 48 (#[Value.int .i64 x1, Value.int .i64 x2, Value.slice A2 n2 c2]) (0, 0) _ (fun w' hw' => hCs.out w' (b01.out.trans (hw'.below.mono b01.out.size))) Tryz.underlying48 rfl sizeIe ?_
  (intro K k; go_simp; apply k; clear k K)
  refine q_fn (v := .int .i64 ke) (args := #[.int .i64 s, .agg (cells8 H.root).toArray, .slice A1 k c1, .agg #[Value.int .i64 x1, Value.int .i64 x2, Value.slice A2 n2 c2]]) rfl _ _ rfl rfl Tryz.func69 (by kernel_rfl) (by kernel_rfl) (fun w' hw' => ((hIn.out w' (bb1.out.trans (hw'.below.mono bb1.out.size))).mono fun e w'' ⟨he, hb⟩ => ⟨he, hw'.next hb⟩)) ?_
  (intro K k; go_simp; apply k; clear k K)
  refine Want.qv0 (.int .i64 ke) ?_
  (intro K k; go_simp; apply k; clear k K)
  refine q_nil ?_
  intro w2 hw2
  have bb2 : Hid (Below w.heap.size w w2) := bb1.out.trans (hw2.below.mono bb1.out.size)
  clear hw2
  go_wp2_with fail
  go_ret
  exact ⟨rfl, bb2.out⟩
 ·have hE : evA s H ev x1 x2 ds = 170 := by unfold evA; rw [if_pos hx]
  rw [hE]
  have hne : (x1 != H.size) = true := by simpa using hx
  replace hne := Lib.hid hne
  clear hx hE
  go_enter Tryz.func20, Tryz.ntmps20
  go_upto_region 1 with fail
  refine q_region (Class w0) (by kernel_rfl) (by kernel_rfl) (Class.mk_ ((Below.refl _ _).drew)) ?_
  refine Want.qv0 (.pointer (some ⟨w.heap.size, 0, none⟩)) ?_
  (intro K k; go_simp; apply k; clear k K)
  refine q_val (v := .int .i64 x1) rfl (fun w' hw' => by have hc := (hCs.out w' hw'.below).cell 0; go_simp) ?_
  (intro K k; go_simp; apply k; clear k K)
  refine q_move rfl (.tmp 0) rfl ?_
  (intro K k; go_simp; apply k; clear k K)
  refine Want.qv0 (.pointer (some ⟨a, 0, none⟩)) ?_
  (intro K k; go_simp; apply k; clear k K)
  refine Want.qv0 (.pointer (some ⟨a, 3, none⟩)) ?_
  (intro K k; go_simp; apply k; clear k K)
  refine Want.qv0 (.pointer (some ⟨a, 3, none⟩)) ?_
  (intro K k; go_simp; apply k; clear k K)
  refine Want.qv0 (.pointer (some ⟨a, 35, none⟩)) ?_
  (intro K k; go_simp; apply k; clear k K)
  refine q_val (v := .int .i64 H.size) rfl (fun w' hw' => by have hc := AudAt.sizeAt (hAs.out w' (b0.out.trans (hw'.below.mono b0.out.size))); go_simp) ?_
  (intro K k; go_simp; apply k; clear k K)
  refine q_val (v := .bool true) rfl (fun w' hw' => by have hc := hne.out; go_simp) ?_
  (intro K k; go_simp; apply k; clear k K)
  refine q_nil ?_
  intro w1 hw1
  have b01 : Hid (Below w0.heap.size w0 w1) := hw1.below
  have bb1 : Hid (Below w.heap.size w w1) := b0.out.trans (b01.out.mono b0.out.size)
  clear hw1
  go_wp2_with fail
  go_ret
  exact ⟨rfl, bb1.out⟩
end Go.Proofs.YtgldkfaiofkhbaaGreatDoor.AudEvent
