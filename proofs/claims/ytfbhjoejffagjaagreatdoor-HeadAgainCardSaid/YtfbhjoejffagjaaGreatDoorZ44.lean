/-
  Texts of the claim, put into one file: VerP, Verify, IdsR.
-/
import Derived.Test.YtfbhjoejffagjaaGreatDoorZ42
import Derived.Test.YtfbhjoejffagjaaGreatDoorZ43
import Derived.Test.YtfbhjoejffagjaaGreatDoorZ26
import Derived.Test.YtfbhjoejffagjaaGreatDoorZ35
import Derived.Test.YtfbhjoejffagjaaGreatDoorZ30
import Derived.Test.YtfbhjoejffagjaaGreatDoorZ16
import Derived.Test.YtfbhjoejffagjaaGreatDoorZ31
import Derived.Test.YtfbhjoejffagjaaGreatDoorZ13
import Derived.WalkSpells
import Derived.Test.YtfbhjoejffagjaaGreatDoorZ4

namespace Go.Proofs.YtfbhjoejffagjaaGreatDoor.VerP
open Go Go.RowKit Go.Proofs.YtfbhjoejffagjaaGreatDoor Mem Sha Bytes SortP NoteP Go.Proofs.YtfbhjoejffagjaaGreatDoor.Append Own HeadMem HeadID RefNote Check RingM BinH RingS NewRing Go.Proofs.YtfbhjoejffagjaaGreatDoor.Find

def pick (keys : List Text) (d : Text) : Option Text := keys.find? (fun q => decide (idOf q = d))
def verF (keys : List Text) (h : HeadD) : List Text → Option (List Text)
 | [] => some []
 | s :: rs => match pick keys (kyS s) with
  | none => verF keys h rs
  | some q => if checkAns h s q = 0 then (verF keys h rs).map (kyS s :: ·) else none
def verEnd (o : Option (List Text)) (least : Int) : Option (List Text) × Int := match o with
 | none => (none, 161)
 | some ids => if (ids.length : Int) < least then (none, 7) else (some ids, 0)
def verAns (keys : List Text) (h : HeadD) (ss : List Text) (least : Int) : Option (List Text) × Int :=
 if least < 1 ∨ 16 < least then (none, 1) else if (noteAns h ss).2 = 0 then verEnd (verF keys h ((rising kyS ss).getD [])) least else (none, 8)
def IdsPost (B : Nat) (w' : World) (v : Value) : Option (List Text) → Prop
 | none => v = .slice none 0 0
 | some ids => (∀ d ∈ ids, d.length = 32) ∧ w'.ownsRow B 34 32 v ids.length (ids.flatMap cells8)
def VerOut (keys : List Text) (h : HeadD) (ss : List Text) (least : Int) (w : World) (e : Ending) (w' : World) : Prop := ∃ v, e = .returned (.tuple #[v, .int .i64 (verAns keys h ss least).2]) ∧ Below w.heap.size w w' ∧ IdsPost w.heap.size w' v (verAns keys h ss least).1
theorem pick_none {keys : List Text} {l : List KD} {d : Text} (hp : (l.map (·.q)).Perm keys) (h : ∀ x ∈ l, idK x ≠ d) : pick keys d = none := by
 unfold pick
 rw [List.find?_eq_none]
 intro q hq
 obtain ⟨x, hx, rfl⟩ := List.mem_map.1 (hp.mem_iff.2 hq)
 have h1 : ¬ idOf x.q = d := h x hx
 simpa using h1
theorem strict_one : ∀ {l : List KD}, Strict idK l → ∀ {x y : KD}, x ∈ l → y ∈ l → idK x = idK y → x = y
 | [], _, _, _, h, _, _ => by cases h
 | z :: l, hs, x, y, hx, hy, e => by
  have hs' := List.pairwise_cons.1 hs
  rcases List.mem_cons.1 hx with e1 | hx2
  ·rcases List.mem_cons.1 hy with e2 | hy2
   ·rw [e1, e2]
   ·have := hs'.1 y hy2
    rw [← e1, e, lex_irrefl] at this
    cases this
  ·rcases List.mem_cons.1 hy with e2 | hy2
   ·have := hs'.1 x hx2
    rw [← e2, e, lex_irrefl] at this
    cases this
   ·exact strict_one hs'.2 hx2 hy2 e
theorem pick_some {keys : List Text} {l : List KD} {d : Text} {x : KD} (hp : (l.map (·.q)).Perm keys) (hs : Strict idK l) (hx : x ∈ l) (hd : idK x = d) : pick keys d = some x.q := by
 unfold pick
 cases h : keys.find? (fun q => decide (idOf q = d)) with
 | none =>
  rw [List.find?_eq_none] at h
  have := h x.q (hp.mem_iff.1 (List.mem_map.2 ⟨x, hx, rfl⟩))
  have h1 : ¬ idOf x.q = d := by simpa using this
  exact absurd hd h1
 | some q =>
  have h1 := List.find?_some h
  obtain ⟨y, hy, rfl⟩ := List.mem_map.1 (hp.mem_iff.2 (List.mem_of_find?_eq_some h))
  have h2' : idOf y.q = d := by simpa using h1
  have h2 : idK y = d := h2'
  rw [strict_one hs hy hx (h2.trans hd.symm)]
theorem find_split {l : List KD} {d : Text} {w w' : World} {e : Ending} (h : FindOut l d w e w') : Below w.heap.size w w' ∧ ∃ v, e = .returned v ∧ (((∀ x ∈ l, idK x ≠ d) ∧ v = .slice none 0 0) ∨ ∃ x ∈ l, idK x = d ∧ v = .slice x.A x.q.length x.c) := by
 obtain ⟨hb, h⟩ := h
 refine ⟨hb, ?_⟩
 rcases h with ⟨a, b⟩ | ⟨x, a, b, c⟩
 ·exact ⟨_, b, .inl ⟨a, rfl⟩⟩
 ·exact ⟨_, c, .inr ⟨x, a, b, rfl⟩⟩
theorem ver_skip {keys : List Text} {h : HeadD} {rs ids : List Text} {i : Nat} {x : Text} (hv : verF keys h rs = (verF keys h (rs.drop i)).map (ids ++ ·)) (hx : rs[i]? = some x) (hn : pick keys (kyS x) = none) : verF keys h rs = (verF keys h (rs.drop (i + 1))).map (ids ++ ·) := by
 rw [hv]
 obtain ⟨h1, rfl⟩ := List.getElem?_eq_some_iff.1 hx
 rw [List.drop_eq_getElem_cons h1, verF, hn]
theorem ver_bad {keys : List Text} {h : HeadD} {rs ids : List Text} {i : Nat} {x q : Text} (hv : verF keys h rs = (verF keys h (rs.drop i)).map (ids ++ ·)) (hx : rs[i]? = some x) (hn : pick keys (kyS x) = some q) (hc : ¬ checkAns h x q = 0) : verF keys h rs = none := by
 rw [hv]
 obtain ⟨h1, rfl⟩ := List.getElem?_eq_some_iff.1 hx
 rw [List.drop_eq_getElem_cons h1, verF, hn]
 show Option.map _ (if _ then _ else _) = _
 rw [if_neg hc]
 rfl
theorem ver_take {keys : List Text} {h : HeadD} {rs ids : List Text} {i : Nat} {x q : Text} (hv : verF keys h rs = (verF keys h (rs.drop i)).map (ids ++ ·)) (hx : rs[i]? = some x) (hn : pick keys (kyS x) = some q) (hc : checkAns h x q = 0) : verF keys h rs = (verF keys h (rs.drop (i + 1))).map (ids ++ [kyS x] ++ ·) := by
 rw [hv]
 obtain ⟨h1, rfl⟩ := List.getElem?_eq_some_iff.1 hx
 rw [List.drop_eq_getElem_cons h1, verF, hn]
 show Option.map _ (if _ then _ else _) = _
 rw [if_pos hc]
 cases verF keys h (rs.drop (i + 1)) with
 | none => rfl
 | some r => simp
theorem ver_done {keys : List Text} {h : HeadD} {rs ids : List Text} {i : Nat} (hv : verF keys h rs = (verF keys h (rs.drop i)).map (ids ++ ·)) (hi : rs.length ≤ i) : verF keys h rs = some ids := by
 rw [hv, List.drop_of_length_le hi]
 simp [verF]
theorem reads_oneN {T : TypeId} {s : Nat} (w : World) {cx : List Value} (h : cx.length = s) : Reads (w.alloc (.cells ([cx].flatten).toArray T)) s (some ⟨w.heap.size, 0, none⟩) 1 cx := by
 have hb : Blk (w.alloc (.cells ([cx].flatten).toArray T)) w.heap.size T ([cx].flatten).toArray := Blk.new _ _ _
 refine ⟨by rw [h]; simp, fun _ => ⟨w.heap.size, 0, rfl, by simp, fun j u hu => ?_⟩⟩
 rw [hb.cell]
 simpa using hu
theorem own_at {w : World} {B n s : Nat} {e : TypeId} {v : Value} {xs : List Value} (h : w.ownsRow B e s v n xs) : ∀ k, v.ownBlock = some k → B ≤ k := fun k hk => by
 rcases h.2 with ⟨h2, -⟩ | ⟨g, c, cur, hv, hBg, -⟩
 ·rw [h2] at hk; cases hk
 ·rw [hv] at hk
  have e : some g = some k := hk
  injection e with e
  omega
theorem ids_grown {w w' : World} {B m : Nat} {v v' : Value} {ids : List Text} {d : Text} (hG : Grew w B 34 32 v m 1 (ids.flatMap cells8) (cells8 d) v' w') : w'.ownsRow B 34 32 v' (m + 1) ((ids ++ [d]).flatMap cells8) := by
 have := hG.own
 rwa [List.flatMap_append, show [d].flatMap cells8 = cells8 d by simp]
end Go.Proofs.YtfbhjoejffagjaaGreatDoor.VerP

namespace Go.Proofs.YtfbhjoejffagjaaGreatDoor.Verify
open Go Go.RowKit Go.Proofs.YtfbhjoejffagjaaGreatDoor Mem Sha Bytes SortP NoteP Grown Want Go.Proofs.YtfbhjoejffagjaaGreatDoor.Append Own Rise SortM SgM HashMem HeadMem EncNoteP EncNote NoteM RefNote Sign Signs Check Decode Rising0 RingM BinH RingS NewRing Go.Proofs.YtfbhjoejffagjaaGreatDoor.Find VerP

theorem size32v : (Tryz.prog.info? 34).map (·.size) = some 32 := by kernel_rfl
theorem zero32v : ((Tryz.prog.info? 34).bind (·.zero)).isSome = true := by kernel_rfl
theorem info32v : (Tryz.prog.info? 34).map (fun i => (i.zero, i.size, i.bytes)) = some (some (.agg Z32), 32, 32) := by kernel_rfl
theorem eql_nil (w : World) (a : Option Addr) (n c : Nat) : (binOp .eql 31 (.slice a n c) (.slice none 0 0)).run Tryz.prog w = .ok (.bool a.isNone) w := by
 simp only [binOp]
 simp [Op.equal, Op.maxDepth, Lib.run_equalIn_slice_nil w 9999 31 _ a n c 0 0 Tryz.underlying31]
theorem out_ver {keys : List Text} {h : HeadD} {ss : List Text} {least : Int} {w w' : World} {o : Option (List Text)} {k : Int} {v : Value} (ha : verAns keys h ss least = (o, k)) (hb : Below w.heap.size w w') (hp : IdsPost w.heap.size w' v o) : VerOut keys h ss least w (.returned (.tuple #[v, .int .i64 k])) w' := ⟨v, by rw [ha], hb, by rw [ha]; exact hp⟩
set_option maxRecDepth 100000 in
set_option maxHeartbeats 8000000 in
theorem verify_any (keys : List Text) (l : List KD) (hpm : (l.map (·.q)).Perm keys) (hst : Strict idK l) (hl64 : l.length ≤ 64) (hkb : ∀ x ∈ l, keyB x.q.length = true) (h : HeadD) (ok : h.Ok) (ss : List Text) (n : Nat) (A : Option Addr) (c : Nat) (hnil : A = none → n = 0 ∧ c = 0) (least : Int) (R : Nat) (w : World) (hB : Base w) (hR : RingAt w R l) (hS : Sgs w A n ss) :
  Calls Tryz.prog 28 #[.pointer (some ⟨R, 0, none⟩), .agg (noteCells h (.slice A n c)).toArray, .int .i64 least] w (VerOut keys h ss least w) := by
 obtain ⟨w0, hw0⟩ : ∃ w0, Hid (w.alloc (.cells (noteCells h (.slice A n c)).toArray 39) = w0) := ⟨_, Lib.hid rfl⟩
 have N0 : Hid (NoteAt w0 w.heap.size h A n c ss) := by show NoteAt _ _ _ _ _ _ _; rw [← hw0.out]; exact NoteAt.new hS
 have hb0 : Hid (Below w.heap.size w w0) := by show Below _ _ _; rw [← hw0.out]; exact Below.heap_below w _
 have hw0' := hw0.out
 have zN := Lib.hid (fun v => note_size ok v)
 have hBs : Hid (∀ w', Below w.heap.size w w' → Base w') := fun w' hb => hB.below hb hB.1
 have hRs : Hid (∀ w', Below w.heap.size w w' → RingAt w' R l) := fun w' hb => hR.below hb
 have ok' := Lib.hid ok
 have hnl := Lib.hid hnil
 have hpm0 := Lib.hid hpm
 have hst0 := Lib.hid hst
 have hl0 := Lib.hid hl64
 have hkb0 := Lib.hid hkb
 clear hw0 hB hR hS ok hnil hpm hst hl64 hkb
 by_cases hl1 : least < 1
 ·have ha : Hid (verAns keys h ss least = (none, 1)) := by show _ = _; unfold verAns; rw [if_pos (.inl hl1)]
  go_enter Tryz.func28, Tryz.ntmps28
  go_wp2_with fail
  go_ret2
  exact out_ver ha.out hb0.out rfl
 by_cases hl2 : 16 < least
 ·have ha : Hid (verAns keys h ss least = (none, 1)) := by show _ = _; unfold verAns; rw [if_pos (.inr hl2)]
  have x1 : (least < 1) = False := eq_false hl1
  clear hl1
  go_enter Tryz.func28, Tryz.ntmps28
  go_wp2_with fail
  go_ret2
  exact out_ver ha.out hb0.out rfl
 have x1 : (least < 1) = False := eq_false hl1
 have x2 : ((16 : Int) < least) = False := eq_false hl2
 have hls : Hid (¬ (least < 1 ∨ 16 < least)) := fun h => by rcases h with h | h <;> contradiction
 clear hl1 hl2
 obtain ⟨k7, hk7⟩ : ∃ k7, Hid ((noteAns h ss).2 = k7) := ⟨_, Lib.hid rfl⟩
 by_cases hk0 : ¬ (k7 = 0)
 ·have ha : Hid (verAns keys h ss least = (none, 8)) := by show _ = _; unfold verAns; rw [if_neg hls.out, hk7.out, if_neg hk0]
  go_enter Tryz.func28, Tryz.ntmps28
  go_wp2_with (first
  | (((with_reducible change wpList _ _ _ (⟨some 23, _, _, _, _, _⟩ :: _) _ _); refine wpList_load_row (o := ⟨some 23, _, _, _, _, _⟩) rfl 39 (.tmp 4) rfl (w.heap.size) rfl 39 ((noteCells h (.slice A n c)).toArray) (0, 0) _ N0.out.blk Tryz.underlying39 rfl (zN.out _) ?_))
  | (go_at_call 33; refine (encnote_any h ok'.out ss n A c w0 N0.out.sgs).mono ?_; rw [hk7.out]; rintro e w1 ⟨v1, rfl, hb1, -⟩; have bb1 : Hid (Below w.heap.size w w1) := hb0.out.trans (hb1.mono hb0.out.size); have N1 := Lib.hid (N0.out.below hb1); have hR1 := N1.out.row ok'.out; clear hb1 hw0'))

  go_ret2
  exact out_ver ha.out bb1.out rfl
 have hk1 : k7 = 0 := Decidable.not_not.1 hk0
 subst hk1
 clear hk0
 obtain ⟨hn16, rs, hrs⟩ : n ≤ 16 ∧ ∃ rs, Hid (rising kyS ss = some rs) := by
  rcases note_cases h ss n N0.out.sgs.len with ⟨-, e⟩ | ⟨-, -, e⟩ | ⟨-, -, e⟩ | ⟨-, -, -, -, e⟩ | ⟨-, -, h3, rs, h4, e⟩
  ·have := hk7.out; rw [e] at this; cases this
  ·have := hk7.out; rw [e] at this; cases this
  ·have := hk7.out; rw [e] at this; cases this
  ·have := hk7.out; rw [e] at this; cases this
  ·exact ⟨h3, rs, h4⟩
 have hn0 := Lib.hid hn16
 clear hn16
 have hvE : Hid (verAns keys h ss least = verEnd (verF keys h rs) least) := by show _ = _; unfold verAns; rw [if_neg hls.out, hk7.out, if_pos rfl, hrs.out]; rfl
 obtain ⟨vf, hvf⟩ : ∃ vf, Hid (verF keys h rs = vf) := ⟨_, Lib.hid rfl⟩
 rw [hvf.out] at hvE
 obtain ⟨i0, ii, iz0, iz1, iz2⟩ := info_partsN info32v
 go_enter Tryz.func28, Tryz.ntmps28
 go_upto_region 8 with (first
  | (((with_reducible change wpList _ _ _ (⟨some 23, _, _, _, _, _⟩ :: _) _ _); refine wpList_load_row (o := ⟨some 23, _, _, _, _, _⟩) rfl 39 (.tmp 4) rfl (w.heap.size) rfl 39 ((noteCells h (.slice A n c)).toArray) (0, 0) _ N0.out.blk Tryz.underlying39 rfl (zN.out _) ?_))
  | (go_at_call 33; refine (encnote_any h ok'.out ss n A c w0 N0.out.sgs).mono ?_; rw [hk7.out]; rintro e w1 ⟨v1, rfl, hb1, -⟩; have bb1 : Hid (Below w.heap.size w w1) := hb0.out.trans (hb1.mono hb0.out.size); have N1 := Lib.hid (N0.out.below hb1); have hR1 := N1.out.row ok'.out; clear hb1 hw0')
  | (go_at_call 60; refine (rising_all ss n (by have := hn0.out; omega) A c w1 N1.out.sgs hnl.out).mono ?_; rintro e w3 ⟨A3, c3, ds, rfl, hri, hO3, hb3⟩; rw [hrs.out] at hri; obtain ⟨hr0, rfl⟩ := some_yes hri.out; rw [hr0]; have bb3 : Hid (Below w.heap.size w w3) := bb1.out.trans (hb3.out.mono bb1.out.size); have N3 := Lib.hid (N1.out.below hb3.out); have hS3 : Hid (Sgs w3 A3 n rs) := (by obtain ⟨A9, c9, e9, -, -, -, x, -⟩ := hO3.out.reads; injection e9 with e9 _ e10; subst e9 e10; exact x); clear hri hO3 hb3 bb1 N1 hR1))

 have hsz : Hid ((Tryz.prog.info? 36).map (·.size) = some (headCells h).length) := by show _ = _; rw [headCells_len ok'.out]; exact size98
 go_wp2_with fail
 go_loopw [12, 37] (fun v12 v37 wr => ∃ (i m c12 : Nat) (A12 : Option Addr) (ids : List Text), v37 = .int .i64 (i : Int) ∧ v12 = .slice A12 m c12 ∧ Hid (i ≤ n) ∧ Hid (m ≤ i) ∧ Hid (ids.length = m) ∧ Hid (∀ d ∈ ids, d.length = 32) ∧ Hid (World.ownsRow wr w3.heap.size 34 32 (.slice A12 m c12) m (ids.flatMap cells8)) ∧ Hid (vf = (verF keys h (rs.drop i)).map (ids ++ ·)) ∧ Hid (Below w3.heap.size w3 wr)) (fun _ v _ => n - (intOf v).toNat)
 case atStart => exact ⟨0, 0, 0, none, [], rfl, rfl, Nat.zero_le _, Nat.le_refl _, rfl, (fun d hd => by cases hd), World.ownsRow_nil _ _ _ _, (by show _ = _; rw [← hvf.out, List.drop_zero]; simp), Below.refl _ _⟩
 case round =>
  obtain ⟨i, m, c12, A12, ids, rfl, rfl, hin, hmi, hil, hid, hO, hv, hbe⟩ := hrel
  have hi6 : (i : Int) ≤ 16 := by have := hin.out; have := hn0.out; omega
  have hz0 : (0 : Int) ≤ (i : Int) := by omega
  have Nr := Lib.hid (N3.out.below hbe.out)
  have Sr := Lib.hid (hS3.out.below hbe.out)
  have bbr : Hid (Below w.heap.size w wr) := bb3.out.trans (hbe.out.mono bb3.out.size)
  by_cases hlt : i < n
  ·have hz : (i : Int) < (n : Int) := by omega
   have hlt' : Hid (i < n) := hlt
   obtain ⟨x, hx⟩ : ∃ x, Hid (rs[i]? = some x) := ⟨_, List.getElem?_eq_getElem (by rw [Sr.out.len]; exact hlt)⟩
   have hxl := Lib.hid (Sr.out.all x (List.mem_of_getElem? hx.out))
   obtain ⟨bx, ox, hA, hbx, hcx⟩ := Sr.out.at_ hx.out
   subst hA
   have hcx' := Lib.hid hcx
   have s64 : Hid ((Tryz.prog.info? 56).map (·.size) = some (cells8 x).length) := by show _ = _; rw [cells8_len, hxl.out]; exact Sign.size64
   have s1 := Lib.hid (sign_size x hxl.out)
   have s2 := Lib.hid (sign_zero x hxl.out)
   have s3 := Lib.hid (sign_one x)
   have hkl := Lib.hid (kyS_len hxl.out)
   have sK : Hid ((Tryz.prog.info? 34).map (·.size) = some (cells8 (kyS x)).length) := by show _ = _; rw [cells8_len, hkl.out]; exact size32v
   have q1 : Hid (∀ v ∈ [cells8 (kyS x)], v.length = 32) := fun v hv => by simp only [List.mem_singleton] at hv; rw [hv, cells8_len, hkl.out]
   clear hcx hlt
   go_upto_region 12 with (first
  | (((with_reducible change wpList _ _ _ (⟨some 40, _, _, _, _, _⟩ :: _) _ _); refine wpList_load_part (o := ⟨some 40, _, _, _, _, _⟩) rfl 56 (.tmp 39) rfl (bx) ((ox + i * 64)) rfl (cells8 x) _ hcx'.out Tryz.underlying56 rfl s64.out ?_))
  | ((with_reducible change wpList _ _ _ ({ dst := none, op := Op.store 56 (.tmp 14) (.tmp 40), type := _, pos := _, after := _, guard := _ } :: _) _ _); refine wpList_store_all (o := ⟨none, _, _, _, _, _⟩) rfl 56 (.tmp 14) (.tmp 40) rfl wr.heap.size (cells8 x).toArray rfl rfl 56 Z64 (Blk.new wr _ _) s1.out s2.out s3.out ?_; intro w4 hB4 hk4; have b4 : Hid (Below wr.heap.size wr w4) := below_new hk4; have hB4' : Hid (Blk w4 wr.heap.size 56 (cells8 x).toArray) := hB4; clear hk4 hB4; obtain ⟨g14, hg14⟩ : ∃ g14, Hid (wr.heap.size = g14) := ⟨_, Lib.hid rfl⟩; rw [hg14.out] at hB4' ⊢)
  | (((with_reducible change wpList _ _ _ (⟨some 43, _, _, _, _, _⟩ :: _) _ _); refine wpList_load_part (o := ⟨some 43, _, _, _, _, _⟩) rfl 34 (.tmp 42) rfl (g14) (0) rfl (cells8 (kyS x)) _ (fun j u hu => (hB4'.out.cell (0 + j)).trans (by rw [List.getElem?_toArray]; exact ky_cell hu)) Tryz.underlying34 rfl sK.out ?_))
  | (go_at_call 61; refine (find_any l hl0.out hst0.out (kyS x) hkl.out R w4 (hRs.out w4 (bbr.out.trans (b4.out.mono bbr.out.size)))).mono ?_; intro e w5 hF; obtain ⟨hb5, v15, rfl, hv15⟩ := find_split hF; have b45 : Hid (Below wr.heap.size wr w5) := b4.out.trans (hb5.mono b4.out.size); have bb5 : Hid (Below w.heap.size w w5) := bbr.out.trans (b45.out.mono bbr.out.size); have B5 : Hid (Blk w5 g14 56 (cells8 x).toArray) := (hb5.block _ hB4'.out.lt).trans hB4'.out; have N5 := Lib.hid (Nr.out.below b45.out); clear hb5 hF b4 hB4'))

   rcases hv15 with ⟨hno, rfl⟩ | ⟨y, hy, hyd, rfl⟩
   ·have hv' : Hid (vf = (verF keys h (rs.drop (i + 1))).map (ids ++ ·)) := hvf.out.symm.trans (ver_skip (hvf.out.trans hv.out) hx.out (pick_none hpm0.out hno))
    have hO' := Lib.hid (own_below hO.out (b45.out))
    have hnn := eql_nil w5 none 0 0
    clear hno
    go_wp2_with fail
    go_roundw
    case rel => exact ⟨i + 1, m, c12, A12, ids, by go_num, rfl, hlt'.out, Nat.le_succ_of_le hmi.out, hil.out, hid.out, hO'.out, hv'.out, hbe.out.trans (b45.out.mono hbe.out.size)⟩
    case measure => (have := hlt'.out; simp [intOf]; omega)
   ·have hpk := Lib.hid (pick_some hpm0.out hst0.out hy hyd)
    obtain ⟨_, _, -, -, -, hky⟩ := hRs.out w5 bb5.out
    obtain ⟨hry, hyc, hyn⟩ := hky y hy
    have hk64 := keyB_yes (hkb0.out y hy)
    obtain ⟨by_, oy, hyA, -⟩ := hry.2 (by have := hk64.1; omega)
    obtain ⟨ky, hky'⟩ : ∃ ky, Hid (y.q.length = ky) := ⟨_, Lib.hid rfl⟩
    obtain ⟨yA, hyA'⟩ : ∃ yA, y.A = yA := ⟨_, rfl⟩
    rw [hky'.out] at hry hyc hyn ⊢
    rw [hyA'] at hry hyn hyA ⊢
    subst hyA
    have hry' := Lib.hid hry
    have hyc' := Lib.hid hyc
    obtain ⟨yc, hyc2⟩ : ∃ yc, y.c = yc := ⟨_, rfl⟩
    rw [hyc2] at hyc' ⊢
    obtain ⟨ck, hck⟩ : ∃ ck, Hid (checkAns h x y.q = ck) := ⟨_, Lib.hid rfl⟩
    clear hy hyd hky hry hyc hyn hk64 hyA' hyc2
    have hnn : (binOp .eql 31 (.slice (some ⟨by_, oy, none⟩) ky yc) (.slice none 0 0)).run Tryz.prog w5 = .ok (.bool false) w5 := eql_nil w5 _ ky yc
    go_upto_region 13 with fail
    clear hnn
    by_cases hc0 : ck = 0
    ·subst hc0
     have hv' : Hid (vf = (verF keys h (rs.drop (i + 1))).map (ids ++ [kyS x] ++ ·)) := hvf.out.symm.trans (ver_take (hvf.out.trans hv.out) hx.out hpk.out hck.out)
     have m1 : Hid (m + 1 ≤ maxLen) := by show _ ≤ _; have := hmi.out; unfold maxLen; omega
     have m2 : Hid ((m + 1) * 32 ≤ 140737488355328) := by show _ ≤ _; have := hmi.out; omega
     go_wp2_with (first
  | (((with_reducible change wpList _ _ _ (⟨some 48, _, _, _, _, _⟩ :: _) _ _); refine wpList_load_part (o := ⟨some 48, _, _, _, _, _⟩) rfl 36 (.tmp 47) rfl (w.heap.size) (0) rfl (headCells h) _ N5.out.head Tryz.underlying36 rfl hsz.out ?_))
  | (((with_reducible change wpList _ _ _ (⟨some 49, _, _, _, _, _⟩ :: _) _ _); refine wpList_load_row (o := ⟨some 49, _, _, _, _, _⟩) rfl 56 (.tmp 14) rfl (g14) rfl 56 ((cells8 x).toArray) (0, 0) _ B5.out Tryz.underlying56 rfl s1.out ?_))
  | (go_at_call 51; refine (check_any h ok'.out x hxl.out y.q ky hky'.out _ yc w5 (hBs.out w5 bb5.out) hry'.out hyc'.out (fun e => by cases e)).mono ?_; rw [hck.out]; rintro e w6 ⟨rfl, hb6⟩; have b46 : Hid (Below wr.heap.size wr w6) := b45.out.trans (hb6.mono b45.out.size); have bb6 : Hid (Below w.heap.size w w6) := bbr.out.trans (b46.out.mono bbr.out.size); have B6 : Hid (Blk w6 g14 56 (cells8 x).toArray) := (hb6.block _ B5.out.lt).trans B5.out; clear hb6 B5 N5)
  | (((with_reducible change wpList _ _ _ (⟨some 55, _, _, _, _, _⟩ :: _) _ _); refine wpList_load_part (o := ⟨some 55, _, _, _, _, _⟩) rfl 34 (.tmp 54) rfl (g14) (0) rfl (cells8 (kyS x)) _ (fun j u hu => (B6.out.cell (0 + j)).trans (by rw [List.getElem?_toArray]; exact ky_cell hu)) Tryz.underlying34 rfl sK.out ?_))
  | ((with_reducible change wpList _ _ _ (⟨some 56, _, _, _, _, _⟩ :: _) _ _); refine wpList_buildAggs (o := ⟨some 56, _, _, _, _, _⟩) rfl 73 34 1 _ rfl 32 (by decide) [cells8 (kyS x)] Tryz.underlying73 size32v zero32v rfl (by decide) (by decide) q1.out rfl ?_; have hX : Hid (Reads (w6.alloc (.cells ([cells8 (kyS x)].flatten).toArray 34)) 32 (some ⟨w6.heap.size, 0, none⟩) 1 (cells8 (kyS x))) := reads_oneN w6 (by rw [cells8_len, hkl.out]); have b47 : Hid (Below wr.heap.size wr (w6.alloc (.cells ([cells8 (kyS x)].flatten).toArray 34))) := b46.out.alloc b46.out.size _; have hO7 := Lib.hid (own_below hO.out b47.out); have bs7 : Hid (w3.heap.size ≤ (w6.alloc (.cells ([cells8 (kyS x)].flatten).toArray 34)).heap.size) := (by have a1 := hbe.out.size; have a2 := b47.out.size; show _ ≤ _; omega); have be7 : Hid (Below w3.heap.size w3 (w6.alloc (.cells ([cells8 (kyS x)].flatten).toArray 34))) := hbe.out.trans (b47.out.mono hbe.out.size); obtain ⟨w7, hw7⟩ : ∃ w7, w6.alloc (.cells ([cells8 (kyS x)].flatten).toArray 34) = w7 := ⟨_, rfl⟩; rw [hw7] at hX b47 hO7 bs7 be7 ⊢)
  | ((with_reducible change wpList _ _ _ (⟨some 57, _, _, _, _, _⟩ :: _) _ _); refine wpList_append_src _ (o := ⟨some 57, _, _, _, _, _⟩) rfl (.tmp 53) (.tmp 56) 73 rfl w3.heap.size 34 i0 (.agg Z32) 32 32 Tryz.underlying73 ii iz0 iz1 iz2 rfl (by decide) (.slice A12 m c12) m (ids.flatMap cells8) rfl hO7.out (some ⟨w6.heap.size, 0, none⟩) 1 1 (cells8 (kyS x)) rfl hX.out (fun e => by cases e) (cells8_one _) m1.out m2.out bs7.out ?_; intro v9 w9 hG; have hO9' := ids_grown hG; have hb9 : Hid (Below w3.heap.size w3 w9) := hG.below be7.out bs7.out (fun k e => own_at hO7.out k e); obtain ⟨A9, c9, rfl, -⟩ := Own.reads hO9'; have hO9 := Lib.hid hO9'; clear hG hO9'))

     go_roundw
     case rel => exact ⟨i + 1, m + 1, c9, A9, ids ++ [kyS x], by go_num, rfl, hlt'.out, Nat.succ_le_succ hmi.out, (by show _ = _; rw [List.length_append, hil.out]; rfl), (fun d hd => by rcases List.mem_append.1 hd with hd | hd; exact hid.out d hd; simp only [List.mem_singleton] at hd; rw [hd]; exact hkl.out), hO9.out, hv'.out, hb9.out⟩
     case measure => (have := hlt'.out; simp [intOf]; omega)
    ·have ha : Hid (verAns keys h ss least = (none, 161)) := by show _ = _; rw [hvE.out, ← hvf.out, ver_bad (hvf.out.trans hv.out) hx.out hpk.out (by rw [hck.out]; exact hc0)]; rfl
     go_wp2_with (first
  | (((with_reducible change wpList _ _ _ (⟨some 48, _, _, _, _, _⟩ :: _) _ _); refine wpList_load_part (o := ⟨some 48, _, _, _, _, _⟩) rfl 36 (.tmp 47) rfl (w.heap.size) (0) rfl (headCells h) _ N5.out.head Tryz.underlying36 rfl hsz.out ?_))
  | (((with_reducible change wpList _ _ _ (⟨some 49, _, _, _, _, _⟩ :: _) _ _); refine wpList_load_row (o := ⟨some 49, _, _, _, _, _⟩) rfl 56 (.tmp 14) rfl (g14) rfl 56 ((cells8 x).toArray) (0, 0) _ B5.out Tryz.underlying56 rfl s1.out ?_))
  | (go_at_call 51; refine (check_any h ok'.out x hxl.out y.q ky hky'.out _ yc w5 (hBs.out w5 bb5.out) hry'.out hyc'.out (fun e => by cases e)).mono ?_; rw [hck.out]; rintro e w6 ⟨rfl, hb6⟩; have b46 : Hid (Below wr.heap.size wr w6) := b45.out.trans (hb6.mono b45.out.size); have bb6 : Hid (Below w.heap.size w w6) := bbr.out.trans (b46.out.mono bbr.out.size); have B6 : Hid (Blk w6 g14 56 (cells8 x).toArray) := (hb6.block _ B5.out.lt).trans B5.out; clear hb6 B5 N5))

     go_ret2
     exact out_ver ha.out bb6.out rfl
  ·have hz : ¬ ((i : Int) < (n : Int)) := by omega
   have hdn : Hid (vf = some ids) := hvf.out.symm.trans (ver_done (hvf.out.trans hv.out) (by rw [Sr.out.len]; omega))
   clear hlt
   by_cases hml : (m : Int) < least
   ·have ha : Hid (verAns keys h ss least = (none, 7)) := by show _ = _; rw [hvE.out, hdn.out]; show (if _ then _ else _) = _; rw [if_pos (by rw [hil.out]; exact hml)]
    go_wp2_with fail
    go_ret2
    exact out_ver ha.out bbr.out rfl
   ·have ha : Hid (verAns keys h ss least = (some ids, 0)) := by show _ = _; rw [hvE.out, hdn.out]; show (if _ then _ else _) = _; rw [if_neg (by rw [hil.out]; exact hml)]
    go_wp2_with fail
    go_ret2
    exact out_ver ha.out bbr.out ⟨hid.out, by rw [hil.out]; exact ownsRow_base hO.out bb3.out.size⟩
end Go.Proofs.YtfbhjoejffagjaaGreatDoor.Verify

namespace Go.Proofs.YtfbhjoejffagjaaGreatDoor.IdsR
open Go Go.RowKit Go.Proofs.YtfbhjoejffagjaaGreatDoor Mem Sha Bytes SortP NoteP HeadMem EncNoteP RefNote Go.Proofs.YtfbhjoejffagjaaGreatDoor.Append Own TreeMem Signs VerP Verify

theorem ids_reads {B : Nat} {w' : World} {v : Value} {o : Option (List Text)} (h : IdsPost B w' v o) : ∃ (A : Option Addr) (c : Nat), v = .slice A (o.getD []).length c ∧ RdD w' A (o.getD []).length (o.getD []) := by
 cases o with
 | none =>
  obtain rfl : v = .slice none 0 0 := h
  exact ⟨none, 0, rfl, RdD.nil_ _ _⟩
 | some b =>
  obtain ⟨hid, hio⟩ := (show (∀ d ∈ b, d.length = 32) ∧ w'.ownsRow B 34 32 v b.length (b.flatMap cells8) from h)
  obtain ⟨A, c, e, -, -, -, h3, -⟩ := Own.reads hio
  exact ⟨A, c, e, rfl, hid, h3⟩
theorem verF_len {keys : List Text} {h : HeadD} : ∀ (rs ids : List Text), verF keys h rs = some ids → ids.length ≤ rs.length
 | [], ids, e => by
  unfold verF at e
  injection e with e
  subst e
  exact Nat.le_refl _
 | s :: rs, ids, e => by
  unfold verF at e
  split at e
  ·exact Nat.le_succ_of_le (verF_len rs ids e)
  ·split at e
   ·cases hv : verF keys h rs with
    | none => rw [hv] at e; cases e
    | some l =>
     rw [hv] at e
     injection e with e
     subst e
     exact Nat.succ_le_succ (verF_len rs l hv)
   ·cases e
theorem ver_len (keys : List Text) (h : HeadD) (ss : List Text) (least : Int) : ((verAns keys h ss least).1.getD []).length ≤ ss.length := by
 unfold verAns
 split
 ·exact Nat.zero_le _
 ·split
  ·have hr : ((rising kyS ss).getD []).length ≤ ss.length := by
    cases hq : rising kyS ss with
    | none => exact Nat.zero_le _
    | some r => exact Nat.le_of_eq (rising_len hq)
   unfold verEnd
   split
   ·exact Nat.zero_le _
   ·rename_i ids hv
    split
    ·exact Nat.zero_le _
    ·exact Nat.le_trans (verF_len _ _ hv) hr
  ·exact Nat.zero_le _
end Go.Proofs.YtfbhjoejffagjaaGreatDoor.IdsR
