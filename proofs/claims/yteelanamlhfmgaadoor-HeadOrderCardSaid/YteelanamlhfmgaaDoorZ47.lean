/-
  Texts of the claim, put into one file: SignedP, OrderP, HeadOrder.
-/
import Derived.Test.YteelanamlhfmgaaDoorZ46
import Derived.Test.YteelanamlhfmgaaDoorZ39
import Derived.Test.YteelanamlhfmgaaDoorZ41
import Derived.Test.YteelanamlhfmgaaDoorZ29
import Derived.Test.YteelanamlhfmgaaDoorZ5
import Derived.Test.YteelanamlhfmgaaDoorZ7
import Derived.Deep.Cut
import Derived.Deep.CutRange

namespace Go.Proofs.YteelanamlhfmgaaDoor.SignedP
open Go Go.RowKit Go.Proofs.YteelanamlhfmgaaDoor Go.Proofs.YteelanamlhfmgaaDoor.Mem Go.Proofs.YteelanamlhfmgaaDoor.Sha Go.Proofs.YteelanamlhfmgaaDoor.Bytes Go.Proofs.YteelanamlhfmgaaDoor.SortP Go.Proofs.YteelanamlhfmgaaDoor.NoteP Go.Proofs.YteelanamlhfmgaaDoor.HeadMem Go.Proofs.YteelanamlhfmgaaDoor.HeadID Go.Proofs.YteelanamlhfmgaaDoor.Sign Go.Proofs.YteelanamlhfmgaaDoor.Signs Go.Proofs.YteelanamlhfmgaaDoor.Check Go.Proofs.YteelanamlhfmgaaDoor.RefNote Go.Proofs.YteelanamlhfmgaaDoor.RingM Go.Proofs.YteelanamlhfmgaaDoor.NewRing Go.Proofs.YteelanamlhfmgaaDoor.VerP Go.Proofs.YteelanamlhfmgaaDoor.AddP

theorem ky_sign (h : HeadD) (q : Text) : kyS (signOf h q) = idOf q := by
  unfold kyS signOf
  rw [List.take_append_of_le_length (by rw [idOf_len]; exact Nat.le_refl _), List.take_of_length_le (by rw [idOf_len]; exact Nat.le_refl _)]
theorem rising_self {S : List Text} (h : Strict kyS S) : rising kyS S = some S := by
  have hp : S.Pairwise fun a b => kyS a ≠ kyS b := h.imp fun x => lex_ne x
  cases hr : rising kyS S with
  | none => exact absurd hp (rising_none hr)
  | some r =>
    obtain ⟨h1, h2⟩ := rising_some hr
    rw [strict_eq h1 h h2]
theorem rising_is {S r : List Text} (hr : Strict kyS r) (hp : r.Perm S) : rising kyS S = some r := by
  have h1 : S.Pairwise fun a b => kyS a ≠ kyS b := (hp.pairwise_iff (fun {_ _} x => x.symm)).1 (hr.imp fun x => lex_ne x)
  cases h : rising kyS S with
  | none => exact absurd h1 (rising_none h)
  | some d =>
    obtain ⟨h2, h3⟩ := rising_some h
    rw [strict_eq hr h2 (hp.trans h3.symm)]
theorem sign_ans {h : HeadD} (hr : rightB h = true) {q : Text} (hk : keyB q.length = true) : signAns h q = (signOf h q, 0) := by unfold signAns; rw [if_pos hk, if_pos hr]
/-- The signs of the first keys, rising. -/
structure SD (h : HeadD) (keys : List Text) (i : Nat) (S : List Text) : Prop where
  strict : Strict kyS S
  perm : S.Perm ((keys.take i).map (signOf h))
theorem SD.len {h : HeadD} {keys S : List Text} {i : Nat} (d : SD h keys i S) (hi : i ≤ keys.length) : S.length = i := by rw [d.perm.length_eq, List.length_map, List.length_take]; omega
theorem SD.nil (h : HeadD) (keys : List Text) : SD h keys 0 [] := ⟨List.Pairwise.nil, by simp⟩
theorem apart_at {keys : List Text} (ha : apartB keys = true) {i j : Nat} {a b : Text} (hij : i < j) (h1 : keys[i]? = some a) (h2 : keys[j]? = some b) : idOf a ≠ idOf b := by
  unfold apartB at ha
  rw [decide_eq_true_eq, List.pairwise_map] at ha
  obtain ⟨x1, rfl⟩ := List.getElem?_eq_some_iff.1 h1
  obtain ⟨x2, rfl⟩ := List.getElem?_eq_some_iff.1 h2
  exact List.pairwise_iff_getElem.1 ha i j x1 x2 hij
theorem others_all {S : List Text} {s : Text} (h : ∀ y ∈ S, kyS y ≠ kyS s) : others S s = S := by
  unfold others
  rw [List.filter_eq_self]
  intro y hy
  simpa using h y hy
theorem SD.step {h : HeadD} {keys S : List Text} {i : Nat} {q : Text} (d : SD h keys i S) (hr : rightB h = true) (hk : keysB keys = true) (ha : apartB keys = true) (hq : keys[i]? = some q) (h16 : keys.length ≤ 16) :
    ∃ r, addAns h S q = (some r, 0) ∧ SD h keys (i + 1) r ∧ addAns h r q = (some r, 0) := by
  have hi : i < keys.length := (List.getElem?_eq_some_iff.1 hq).1
  have hkq : keyB q.length = true := List.all_eq_true.1 hk q (List.mem_of_getElem? hq)
  have hno : ∀ y ∈ S, kyS y ≠ kyS (signOf h q) := fun y hy => by
    obtain ⟨z, hz, rfl⟩ := List.mem_map.1 (d.perm.mem_iff.1 hy)
    obtain ⟨j, hj, e⟩ := List.getElem_of_mem hz
    rw [List.length_take] at hj
    rw [List.getElem_take] at e
    rw [ky_sign, ky_sign]
    exact apart_at ha (i := j) (j := i) (by omega) (by rw [List.getElem?_eq_getElem (by omega), e]) hq
  have ho := others_all hno
  have hl := d.len (by omega)
  have hpw : (signOf h q :: S).Pairwise fun a b => kyS a ≠ kyS b := List.pairwise_cons.2 ⟨fun y hy => (hno y hy).symm, d.strict.imp fun x => lex_ne x⟩
  obtain ⟨r, hrr⟩ : ∃ r, rising kyS (signOf h q :: S) = some r := by
    cases hx : rising kyS (signOf h q :: S) with
    | none => exact absurd hpw (rising_none hx)
    | some r => exact ⟨r, rfl⟩
  obtain ⟨h1, h2⟩ := rising_some hrr
  have hrl : r.length = i + 1 := by rw [h2.length_eq, List.length_cons, hl]
  have hp2 : r.Perm ((keys.take (i + 1)).map (signOf h)) := by
    rw [List.take_add_one, hq, List.map_append]
    refine h2.trans ?_
    refine ((List.Perm.cons _ d.perm).trans ?_)
    show (signOf h q :: (keys.take i).map (signOf h)).Perm ((keys.take i).map (signOf h) ++ [signOf h q])
    exact (List.perm_append_singleton _ _).symm
  refine ⟨r, ?_, ⟨h1, hp2⟩, ?_⟩
  · unfold addAns
    rw [sign_ans hr hkq, if_pos rfl, rising_self d.strict]
    show addFin S (signOf h q) = _
    unfold addFin
    rw [ho, if_neg (by omega), hrr]
  · unfold addAns
    rw [sign_ans hr hkq, if_pos rfl, rising_self h1]
    show addFin r (signOf h q) = _
    have hoth : (others r (signOf h q)).Perm S := by
      have e := h2.filter (fun y => !decide (kyS y = kyS (signOf h q)))
      have e2 : (signOf h q :: S).filter (fun y => !decide (kyS y = kyS (signOf h q))) = S := by
        rw [List.filter_cons_of_neg (by simp)]
        exact ho
      rw [e2] at e
      exact e
    unfold addFin
    rw [if_neg (by rw [hoth.length_eq]; omega), rising_is h1 (h2.trans (List.Perm.cons _ hoth.symm))]
end Go.Proofs.YteelanamlhfmgaaDoor.SignedP

namespace Go.Proofs.YteelanamlhfmgaaDoor.OrderP
open Go Go.RowKit Go.Proofs.YteelanamlhfmgaaDoor Go.Proofs.YteelanamlhfmgaaDoor.Mem Go.Proofs.YteelanamlhfmgaaDoor.Sha Go.Proofs.YteelanamlhfmgaaDoor.Bytes Go.Proofs.YteelanamlhfmgaaDoor.SortP Go.Proofs.YteelanamlhfmgaaDoor.NoteP Go.Proofs.YteelanamlhfmgaaDoor.HeadMem Go.Proofs.YteelanamlhfmgaaDoor.EncNoteP Go.Proofs.YteelanamlhfmgaaDoor.AddP Go.Proofs.YteelanamlhfmgaaDoor.HeadAdds Go.Proofs.YteelanamlhfmgaaDoor.VerP Go.Proofs.YteelanamlhfmgaaDoor.Sign Go.Proofs.YteelanamlhfmgaaDoor.Signs Go.Proofs.YteelanamlhfmgaaDoor.SignedP Go.Proofs.YteelanamlhfmgaaDoor.HeadID Go.Proofs.YteelanamlhfmgaaDoor.RefAdd

theorem rising_perm {S T : List Text} (h : S.Perm T) : rising kyS S = rising kyS T := by
  cases hT : rising kyS T with
  | some r => obtain ⟨h1, h2⟩ := rising_some hT; exact rising_is h1 (h2.trans h.symm)
  | none =>
    cases hS : rising kyS S with
    | none => rfl
    | some r => obtain ⟨h1, h2⟩ := rising_some hS; rw [rising_is h1 (h2.trans h)] at hT; cases hT
theorem note_perm {S T : List Text} (h : S.Perm T) (x : HeadD) : noteAns x S = noteAns x T := by
  unfold noteAns
  rw [rising_perm h, h.length_eq]
theorem ver_perm {S T : List Text} (h : S.Perm T) (keys : List Text) (x : HeadD) (least : Int) : verAns keys x S least = verAns keys x T least := by
  unfold verAns
  rw [note_perm h, rising_perm h]
theorem others_perm {S T : List Text} (h : S.Perm T) (s : Text) : (others S s).Perm (others T s) := h.filter _
theorem fin_perm {S T : List Text} (h : S.Perm T) (s : Text) : addFin S s = addFin T s := by
  unfold addFin
  rw [(others_perm h s).length_eq, rising_perm ((others_perm h s).cons s)]
theorem add_perm {S T : List Text} (h : S.Perm T) (x : HeadD) (q : Text) : addAns x S q = addAns x T q := by
  unfold addAns
  rw [rising_perm h, fin_perm h]
/-- What a right Add is. -/
theorem add_right {h : HeadD} {ss : List Text} {q : Text} {o : Option (List Text)} (ha : addAns h ss q = (o, 0)) : ∃ rs r, signAns h q = ((signAns h q).1, 0) ∧ rising kyS ss = some rs ∧ (others ss (signAns h q).1).length + 1 ≤ 16 ∧ o = some r ∧ rising kyS ((signAns h q).1 :: others ss (signAns h q).1) = some r := by
  unfold addAns at ha
  by_cases h1 : (signAns h q).2 = 0
  · rw [if_pos h1] at ha
    cases hr : rising kyS ss with
    | none => rw [hr] at ha; cases ha
    | some rs =>
      rw [hr] at ha
      have ha : addFin ss (signAns h q).1 = (o, 0) := ha
      unfold addFin at ha
      by_cases h2 : 16 < (others ss (signAns h q).1).length + 1
      · rw [if_pos h2] at ha; cases ha
      · rw [if_neg h2] at ha
        obtain ⟨r, h3⟩ := fin_is (s := (signAns h q).1) hr
        refine ⟨rs, r, ?_, rfl, by omega, ?_, h3⟩
        · exact Prod.ext rfl h1
        · rw [h3] at ha; exact (congrArg Prod.fst ha).symm
  · rw [if_neg h1] at ha
    exact absurd (congrArg Prod.snd ha) h1
/-- What adding answers where the sign is right and the signs rise. -/
theorem add_fin {h : HeadD} {ss rs : List Text} {q : Text} (h1 : (signAns h q).2 = 0) (hr : rising kyS ss = some rs) : addAns h ss q = addFin ss (signAns h q).1 := by
  unfold addAns
  rw [if_pos h1, hr]
  rfl
theorem others_cons (s t : Text) (S : List Text) : others (s :: S) t = if kyS s = kyS t then others S t else s :: others S t := by
  unfold others
  by_cases h : kyS s = kyS t
  · rw [if_pos h, List.filter_cons_of_neg (by simp [h])]
  · rw [if_neg h, List.filter_cons_of_pos (by simp [h])]
theorem others_swap (S : List Text) (s t : Text) : others (others S s) t = others (others S t) s := by
  unfold others
  rw [List.filter_filter, List.filter_filter]
  congr 1
  funext y
  rw [Bool.and_comm]
/-- The key of a sign that signing gives. -/
theorem sign_key {h : HeadD} {q : Text} (h1 : (signAns h q).2 = 0) : kyS (signAns h q).1 = idOf q := by
  unfold signAns at h1 ⊢
  by_cases c : keyB q.length = true
  · rw [if_pos c] at h1 ⊢
    by_cases d : rightB h = true
    · rw [if_pos d] at h1 ⊢
      exact ky_sign h q
    · rw [if_neg d] at h1; cases h1
  · rw [if_neg c] at h1; cases h1
/-- Two keys may be added in either order: the claim of the document's, for keys of two ids or for one key. -/
theorem add_two {h : HeadD} {ss p : List Text} {a b : Text} (ha : addAns h ss a = (some p, 0)) (hab : idOf a = idOf b → a = b) :
    ((addAns h ss b).2 ≠ 0 → (addAns h p b).2 = (addAns h ss b).2 ∨ (addAns h ss b).2 = 7) ∧
    (∀ t, addAns h ss b = (some t, 0) → addAns h p b = addAns h t a) := by
  obtain ⟨rs, r, hsa, hrs, hla, e1, hra⟩ := add_right ha
  injection e1 with e1
  subst e1
  obtain ⟨hst, hpm⟩ := rising_some hra
  have hpp : rising kyS p = some p := rising_self hst
  have hs0 : (signAns h a).2 = 0 := congrArg Prod.snd hsa
  refine ⟨fun hb => ?_, fun t hb => ?_⟩
  · by_cases hsb : (signAns h b).2 = 0
    · right
      rw [add_fin hsb hrs] at hb ⊢
      unfold addFin at hb ⊢
      split
      · rfl
      · rename_i c; rw [if_neg c] at hb; exact absurd rfl hb
    · left
      unfold addAns
      rw [if_neg hsb, if_neg hsb]
  · obtain ⟨rs2, r2, hsb, hrs2, hlb, e2, hrb⟩ := add_right hb
    injection e2 with e2
    subst e2
    obtain ⟨hst2, hpm2⟩ := rising_some hrb
    have htt : rising kyS t = some t := rising_self hst2
    have hs1 : (signAns h b).2 = 0 := congrArg Prod.snd hsb
    rw [add_fin hs1 hpp, add_fin hs0 htt, fin_perm hpm, fin_perm hpm2]
    obtain ⟨s, hs⟩ : ∃ s, (signAns h a).1 = s := ⟨_, rfl⟩
    obtain ⟨u, hu⟩ : ∃ u, (signAns h b).1 = u := ⟨_, rfl⟩
    have k1 : kyS s = idOf a := by rw [← hs]; exact sign_key hs0
    have k2 : kyS u = idOf b := by rw [← hu]; exact sign_key hs1
    by_cases hk : idOf a = idOf b
    · have e := hab hk
      subst e
      have e : s = u := hs.symm.trans hu
      subst e
      rw [hs]
    · rw [hs, hu]
      have h1 : ¬ kyS s = kyS u := by rw [k1, k2]; exact hk
      have h2 : ¬ kyS u = kyS s := fun e => h1 e.symm
      unfold addFin
      rw [others_cons, if_neg h1, others_cons, if_neg h2, others_swap ss s u, List.length_cons, List.length_cons, rising_perm (List.Perm.swap s u _)]
/-- One key added to no sign. -/
theorem add_one {h : HeadD} (hr : rightB h = true) {q : Text} (hk : keyB q.length = true) : addAns h [] q = (some [signOf h q], 0) := by
  have h1 := sign_ans hr hk
  have h0 : (signAns h q).2 = 0 := congrArg Prod.snd h1
  have hn : rising kyS ([] : List Text) = some [] := rfl
  rw [add_fin h0 hn, h1]
  unfold addFin others
  rw [if_neg (by simp)]
  rfl
end Go.Proofs.YteelanamlhfmgaaDoor.OrderP

namespace Go.Proofs.YteelanamlhfmgaaDoor.HeadOrder
open Go Go.RowKit Go.Proofs.YteelanamlhfmgaaDoor Go.Proofs.YteelanamlhfmgaaDoor.Mem Go.Proofs.YteelanamlhfmgaaDoor.Sha Go.Proofs.YteelanamlhfmgaaDoor.Bytes Go.Proofs.YteelanamlhfmgaaDoor.SortP Go.Proofs.YteelanamlhfmgaaDoor.NoteP Go.Proofs.YteelanamlhfmgaaDoor.QuietTail Go.Proofs.YteelanamlhfmgaaDoor.Grown Go.Proofs.YteelanamlhfmgaaDoor.Want Go.Proofs.YteelanamlhfmgaaDoor.Guard2 Go.Proofs.YteelanamlhfmgaaDoor.Append Go.Proofs.YteelanamlhfmgaaDoor.Own Go.Proofs.YteelanamlhfmgaaDoor.Rise Go.Proofs.YteelanamlhfmgaaDoor.SortM Go.Proofs.YteelanamlhfmgaaDoor.SgM Go.Proofs.YteelanamlhfmgaaDoor.HashMem Go.Proofs.YteelanamlhfmgaaDoor.HeadMem Go.Proofs.YteelanamlhfmgaaDoor.HeadID Go.Proofs.YteelanamlhfmgaaDoor.EncNoteP Go.Proofs.YteelanamlhfmgaaDoor.EncNote Go.Proofs.YteelanamlhfmgaaDoor.RowS Go.Proofs.YteelanamlhfmgaaDoor.Fill Go.Proofs.YteelanamlhfmgaaDoor.NoteM Go.Proofs.YteelanamlhfmgaaDoor.SignEq Go.Proofs.YteelanamlhfmgaaDoor.CmpW Go.Proofs.YteelanamlhfmgaaDoor.SameSigns Go.Proofs.YteelanamlhfmgaaDoor.Kept16 Go.Proofs.YteelanamlhfmgaaDoor.HeadTake Go.Proofs.YteelanamlhfmgaaDoor.HeadTake2 Go.Proofs.YteelanamlhfmgaaDoor.Decode Go.Proofs.YteelanamlhfmgaaDoor.RefNote Go.Proofs.YteelanamlhfmgaaDoor.Sign Go.Proofs.YteelanamlhfmgaaDoor.Signs Go.Proofs.YteelanamlhfmgaaDoor.AddP Go.Proofs.YteelanamlhfmgaaDoor.Add Go.Proofs.YteelanamlhfmgaaDoor.HeadAdds Go.Proofs.YteelanamlhfmgaaDoor.Held Go.Proofs.YteelanamlhfmgaaDoor.TreeMem Go.Proofs.YteelanamlhfmgaaDoor.DigEq Go.Proofs.YteelanamlhfmgaaDoor.RingM Go.Proofs.YteelanamlhfmgaaDoor.RingS Go.Proofs.YteelanamlhfmgaaDoor.NewRing Go.Proofs.YteelanamlhfmgaaDoor.VerP Go.Proofs.YteelanamlhfmgaaDoor.Verify Go.Proofs.YteelanamlhfmgaaDoor.OrderP Go.Proofs.YteelanamlhfmgaaDoor.Mixed Go.Proofs.YteelanamlhfmgaaDoor.SignedP Go.Proofs.YteelanamlhfmgaaDoor.SameIDs Go.Proofs.YteelanamlhfmgaaDoor.Same16 Go.Proofs.YteelanamlhfmgaaDoor.Law16

theorem text_reads {B : Nat} {w' : World} {v : Value} {o : Option Text} (h : NotePost B w' v o) : ∃ (A : Option Addr) (c : Nat), v = .slice A (o.getD []).length c ∧ Reads w' 1 A (o.getD []).length (cells8 (o.getD [])) := by
  cases o with
  | none =>
    obtain rfl : v = .slice none 0 0 := h
    exact ⟨none, 0, rfl, Reads.nil_ _ _ _⟩
  | some b =>
    obtain ⟨A, c, e, -, -, -, h3, -⟩ := Own.reads (show w'.ownsRow _ _ _ _ _ _ from h)
    exact ⟨A, c, e, h3⟩
theorem text_len (h : HeadD) (ok : h.Ok) (ss : List Text) (hs : Sns ss) : ((noteAns h ss).1.getD []).length < 140737488355328 := by
  rcases note_cases h ss ss.length rfl with ⟨-, e⟩ | ⟨-, -, e⟩ | ⟨-, -, e⟩ | ⟨-, -, -, -, e⟩ | ⟨-, -, h3, rs, h4, e⟩ <;> rw [e]
  · simp
  · simp
  · simp
  · simp
  · show (noteB h rs).length < _
    rw [noteB_len ok (rising_sns h4 hs), rising_len h4]
    omega
theorem ids_reads {B : Nat} {w' : World} {v : Value} {o : Option (List Text)} (h : IdsPost B w' v o) : ∃ (A : Option Addr) (c : Nat), v = .slice A (o.getD []).length c ∧ RdD w' A (o.getD []).length (o.getD []) := by
  cases o with
  | none =>
    obtain rfl : v = .slice none 0 0 := h
    exact ⟨none, 0, rfl, RdD.nil_ _ _⟩
  | some b =>
    obtain ⟨hid, hio⟩ := (show (∀ d ∈ b, d.length = 32) ∧ w'.ownsRow B 23 32 v b.length (b.flatMap cells8) from h)
    obtain ⟨A, c, e, -, -, -, h3, -⟩ := Own.reads hio
    exact ⟨A, c, e, rfl, hid, h3⟩
theorem verF_len {keys : List Text} {h : HeadD} : ∀ (rs ids : List Text), verF keys h rs = some ids → ids.length ≤ rs.length
  | [], ids, e => by
    unfold verF at e
    injection e with e
    subst e
    exact Nat.le_refl _
  | s :: rs, ids, e => by
    unfold verF at e
    split at e
    · exact Nat.le_succ_of_le (verF_len rs ids e)
    · split at e
      · cases hv : verF keys h rs with
        | none => rw [hv] at e; cases e
        | some l =>
          rw [hv] at e
          injection e with e
          subst e
          exact Nat.succ_le_succ (verF_len rs l hv)
      · cases e
theorem ver_len (keys : List Text) (h : HeadD) (ss : List Text) (least : Int) : ((verAns keys h ss least).1.getD []).length ≤ ss.length := by
  unfold verAns
  split
  · exact Nat.zero_le _
  · split
    · have hr : ((rising kyS ss).getD []).length ≤ ss.length := by
        cases hq : rising kyS ss with
        | none => exact Nat.zero_le _
        | some r => exact Nat.le_of_eq (rising_len hq)
      unfold verEnd
      split
      · exact Nat.zero_le _
      · rename_i ids hv
        split
        · exact Nat.zero_le _
        · exact Nat.le_trans (verF_len _ _ hv) hr
    · exact Nat.zero_le _
theorem run_z (w : World) : (Instr.build 28 #[]).run Tryd.prog w = .ok (.agg (noteCells h0 (.slice none 0 0)).toArray) w := by
  refine run_build w _ _ _ ?_
  rw [built_note]
  unfold noteCells
  rw [h0_cells]
  rfl
theorem wp_one {o : Oper} {a : Act} {w : World} {K : Act → World → Prop} {Q : Exit → Act → World → Prop} (ho : o.op = .buildSlice 31 1 #[(0, .const (.int .u8 1))])
    (h : K (a.put o.dst (.slice (some ⟨w.heap.size, 0, none⟩) 1 1)) (w.alloc (.cells #[.int .u8 1] 5))) : o.wp Tryd.prog a w K Q := by
  obtain ⟨ie, i1, i2, i3, i4⟩ := SgM.info_partsN info1
  refine wp_buildSlice 31 5 1 _ ho #[.int .u8 1] ie _ Tryd.underlying31 i1 i2 (by rw [i3]; decide) (by rw [i3]; decide) ?_ h
  rw [i3]
  have := Great.fill_whole (s := 1) (by decide) [Value.int .u8 1] ((Array.range (1 * 1)).map ((Value.int IntKind.u8 0).cells[· % (Value.int IntKind.u8 0).cells.size]!)) (fun v hv => by simp only [List.mem_singleton] at hv; subst hv; rfl) (by simp)
  rw [Array.toList_map]
  exact this
theorem wpList_one {ops : Array Oper} {rest : List Oper} {o : Oper} {a : Act} {w : World} {Q : Exit → Act → World → Prop} (hg : o.guard = none) (ho : o.op = .buildSlice 31 1 #[(0, .const (.int .u8 1))])
    (h : wpList Tryd.prog ops Q rest (a.put o.dst (.slice (some ⟨w.heap.size, 0, none⟩) 1 1)) (w.alloc (.cells #[.int .u8 1] 5))) : wpList Tryd.prog ops Q (o :: rest) a w :=
  wpList_plain hg fun _ hK => wp_one ho (hK _ _ h)
theorem reads_1 (w : World) : Reads (w.alloc (.cells #[.int .u8 1] 5)) 1 (some ⟨w.heap.size, 0, none⟩) 1 (cells8 [1]) := by
  have hb : Blk (w.alloc (.cells #[.int .u8 1] 5)) w.heap.size 5 #[.int .u8 1] := Blk.new _ _ _
  refine ⟨rfl, fun _ => ⟨w.heap.size, 0, rfl, by simp, fun j u hu => ?_⟩⟩
  rw [hb.cell, Nat.zero_add]
  have e : cells8 [1] = [Value.int .u8 1] := by kernel_rfl
  rw [e] at hu
  simpa using hu
theorem pieces_takeO {w : World} {A : Option Addr} {es : List Text} (h : Pieces w A es) (k : Nat) : Pieces w A (es.take k) := fun h0 => by
  obtain ⟨b, o, e, hb, hc⟩ := h (by rw [List.length_take] at h0; omega)
  refine ⟨b, o, e, hb, fun i q hq => hc i q ?_⟩
  rw [List.getElem?_take] at hq
  split at hq
  · exact hq
  · cases hq
set_option maxRecDepth 100000 in
theorem run_frontO {A : Option Addr} {n c m : Nat} (hm : m ≤ c) (x : Int) (hx : x = m) (w : World) : (Instr.sliceAt 29 (.slice A n c) none (some (.int .i64 x)) none).run Tryd.prog w = .ok (.slice A m c) w := run_headOf Tryd.underlying29 (fun _ => rfl) hm x hx w
theorem qDO : Tryd.prog.eqGuardType Tryd.prog.depth 23 = false := by kernel_rfl
theorem ring_okO {ks : List Text} {k : Int} (hk : k = ringAns ks) (h0 : k = 0) : ks.length ≤ 64 ∧ keysB ks = true := by
  rw [h0] at hk
  unfold ringAns at hk
  split at hk
  · cases hk
  · split at hk
    · split at hk
      · exact ⟨by omega, by assumption⟩
      · cases hk
    · cases hk
set_option maxRecDepth 100000 in
set_option maxHeartbeats 16000000 in
theorem headOrder_go (z : HeadD) (okz : z.Ok) (hbz : ∀ w, (Instr.build 28 #[]).run Tryd.prog w = .ok (.agg (noteCells z (.slice none 0 0)).toArray) w) (e1 : Text) (he1 : e1.length = 1) (hr1 : ∀ w, Reads (World.alloc w (.cells #[.int .u8 1] 5)) 1 (some ⟨w.heap.size, 0, none⟩) 1 (cells8 e1)) (sg1 i1 : Text) (ha1 : addAns z [] e1 = (some [sg1], 0)) (hi1 : idOf e1 = i1) (hk1 : kyS sg1 = i1) (hl1 : sg1.length = 64)
    (h : HeadD) (ok : h.Ok) (ss : List Text) (n : Nat) (A : Option Addr) (c : Nat) (hc : n ≤ c) (hnil : A = none → n = 0 ∧ c = 0) (ts : List Int) (pt : Nat) (hpt : pt ≤ 140737488355328) (At : Option Addr) (ct : Nat) (es : List Text) (p : Nat) (hp : es.length = p) (Ap : Option Addr) (cp : Nat) (hpc : p ≤ cp)
    (a : Text) (ka : Nat) (hka : a.length = ka) (Aa : Option Addr) (ca : Nat) (hac : ka ≤ ca) (han : Aa = none → ka = 0 ∧ ca = 0) (hal : ka < 140737488355328) (b : Text) (kb : Nat) (hkb : b.length = kb) (Ab : Option Addr) (cb : Nat) (hbc : kb ≤ cb) (hbn : Ab = none → kb = 0 ∧ cb = 0) (hbl : kb < 140737488355328)
    (w : World) (hB : Base w) (hS : Sgs w A n ss) (hT : Ints w At pt ts) (hP : Pieces w Ap es) (hsh : ∀ q ∈ es, q.length < 140737488355228) (hra : Reads w 1 Aa ka (cells8 a)) (hrb : Reads w 1 Ab kb (cells8 b)) :
    Calls Tryd.prog 4 #[.agg (noteCells h (.slice A n c)).toArray, .slice At pt ct, .slice Ap p cp, .slice Aa ka ca, .slice Ab kb cb] w fun e w' => e = .returned (.bool true) ∧ Below w.heap.size w w' := by
  obtain ⟨w0, hw0⟩ : ∃ w0, w.alloc (.cells (noteCells h (.slice A n c)).toArray 28) = w0 := ⟨_, rfl⟩
  have N0 : Hid (NoteAt w0 w.heap.size h A n c ss) := by show NoteAt _ _ _ _ _ _ _; rw [← hw0]; exact NoteAt.new hS
  have hb0 : Hid (Below w.heap.size w w0) := by show Below _ _ _; rw [← hw0]; exact Below.heap_below w _
  have hPs : Hid (∀ w', Below w.heap.size w w' → Pieces w' Ap es) := fun w' hb => hP.below hb
  have hSs : Hid (∀ w', Below w.heap.size w w' → Sgs w' A n ss) := fun w' hb => hS.below hb
  have hBs : Hid (∀ w', Below w.heap.size w w' → Base w') := fun w' hb => hB.below hb hB.1
  have hTs : Hid (∀ w', Below w.heap.size w w' → Ints w' At pt ts) := fun w' hb => hT.below hb
  have hRa : Hid (∀ w', Below w.heap.size w w' → Reads w' 1 Aa ka (cells8 a)) := fun w' hb => hra.below hb
  have hRb : Hid (∀ w', Below w.heap.size w w' → Reads w' 1 Ab kb (cells8 b)) := fun w' hb => hrb.below hb
  have hsns0 : Hid (Sns ss) := hS.all
  have hsz : Hid ((Tryd.prog.info? 25).map (·.size) = some (headCells h).length) := by show _ = _; rw [headCells_len ok]; exact size98
  have zN := Lib.hid (fun v => note_size ok v)
  have oN := Lib.hid (fun A n c => note_one (h := h) A n c)
  have sN : Hid (∀ v u, (noteCells h v).toArray.size = (noteCells h u).toArray.size) := fun v u => by rw [← note_zero ok v, ← note_zero ok u]
  have s0N := Lib.hid (fun v => note_zero ok v)
  have zZ := Lib.hid (fun v => note_size okz v)
  have oZ := Lib.hid (fun A n c => note_one (h := z) A n c)
  have sZ := Lib.hid (fun v => note_zero okz v)
  have ok' := Lib.hid ok
  have okz' := Lib.hid okz
  have hc0 := Lib.hid hc
  have hnl := Lib.hid hnil
  have hp0 := Lib.hid hp
  have hpc0 := Lib.hid hpc
  have hsh0 := Lib.hid hsh
  have hpt0 := Lib.hid hpt
  have hka0 := Lib.hid hka
  have hac0 := Lib.hid hac
  have han0 := Lib.hid han
  have hal0 := Lib.hid hal
  have hkb0 := Lib.hid hkb
  have hbc0 := Lib.hid hbc
  have hbn0 := Lib.hid hbn
  have hbl0 := Lib.hid hbl
  have hbz0 := Lib.hid hbz
  have he10 := Lib.hid he1
  have hr10 := Lib.hid hr1
  have ha10 := Lib.hid ha1
  have hi10 := Lib.hid hi1
  have hk10 := Lib.hid hk1
  have hl10 := Lib.hid hl1
  clear hS ok okz hc hnil hp hpc hB hP hsh hT hra hrb hpt hka hac han hal hkb hbc hbn hbl hbz he1 hr1 ha1 hi1 hk1 hl1
  go_enter Tryd.func4, Tryd.ntmps4
  go_upto_region 2 with (first
    | (((with_reducible change wpList _ _ _ ({ dst := some 28, op := _, type := _, pos := _, after := _, guard := _ } :: _) _ _); refine wpList_load_row (o := ⟨some 28, _, _, _, _, _⟩) rfl 28 (.tmp 5) rfl (w.heap.size) rfl 28 ((noteCells h (.slice A n c)).toArray) (0, 0) _ N0.out.blk Tryd.underlying28 rfl (zN.out _) ?_))
    | (go_at_call 6; refine (short_any h ok'.out ss n A c hc0.out w0 N0.out.sgs).mono ?_; rintro e w1 ⟨m, hm, rfl, -, hb1⟩; have B1 : Hid (Blk w1 w.heap.size 28 (noteCells h (.slice A n c)).toArray) := (hb1.block _ N0.out.blk.lt).trans N0.out.blk; have bb1 : Hid (Below w.heap.size w w1) := hb0.out.trans (hb1.mono hb0.out.size); clear hb1 N0 hb0 hw0)
    | ((with_reducible change wpList _ _ _ ({ dst := none, op := Op.store 28 (.tmp 5) (.tmp 29), type := _, pos := _, after := _, guard := _ } :: _) _ _); refine wpList_store_all (o := ⟨none, _, _, _, _, _⟩) rfl 28 (.tmp 5) (.tmp 29) rfl w.heap.size (noteCells h (.slice A m c)).toArray rfl rfl 28 (noteCells h (.slice A n c)).toArray B1.out (zN.out _) (sN.out _ _) (oN.out _ _ _) ?_; intro wN hBN hkN; have bbN : Hid (Below w.heap.size w wN) := bb1.out.trans (Kept.below_of hkN (Nat.le_refl _) bb1.out.size); have NN : Hid (NoteAt wN w.heap.size h A m c (ss.take m)) := ⟨hBN.out, (hSs.out wN bbN.out).take_ m hm.out.2⟩; clear hkN hBN B1 bb1))

  obtain ⟨S, hSe⟩ : ∃ S, Hid (ss.take m = S) := ⟨_, Lib.hid rfl⟩
  rw [hSe.out] at NN
  have hm1 : Hid (m ≤ 100) := hm.out.1
  have hnS : Hid (A = none → m = 0 ∧ c = 0) := fun e => by obtain ⟨x1, x2⟩ := hnl.out e; exact ⟨by have := hm.out.2; omega, x2⟩
  have hsns : Hid (Sns S) := by show Sns _; rw [← hSe.out]; exact hsns0.out.take_ m
  clear hSe hm hSs hc0 hnl hsns0
  go_upto_if 32 with fail
  go_cut [2] from 30 to 35 (fun v wr => ∃ N : Nat, v = .slice Ap N cp ∧ Hid (N ≤ 100 ∧ (es.take 100).length = N) ∧ Hid (wr = wN))
  case first =>
    by_cases h16 : 100 < p
    · have x1 : (100 : Int) < (p : Int) := by omega
      have hT := run_frontO (A := Ap) (n := p) (c := cp) (m := 100) (by have := hpc0.out; omega) 100 rfl
      have hl : Hid ((100 : Nat) ≤ 100 ∧ (es.take 100).length = 100) := ⟨Nat.le_refl _, by rw [List.length_take, hp0.out]; omega⟩
      clear h16
      go_wp2_with fail
      go_meet
      case rel => exact ⟨100, rfl, hl.out, rfl⟩
    · have x1 : ¬ ((100 : Int) < (p : Int)) := by omega
      have hl : Hid (p ≤ 100 ∧ (es.take 100).length = p) := ⟨by omega, by rw [List.length_take, hp0.out]; omega⟩
      clear h16
      go_wp2_with fail
      go_meet
      case rel => exact ⟨p, rfl, hl.out, rfl⟩
  case rest =>
    obtain ⟨N, rfl, hN, hwc⟩ := hcut
    obtain rfl := hwc.out
    obtain ⟨w1, rfl⟩ : ∃ w1, w1 = wc := ⟨_, rfl⟩
    clear hwc
    obtain ⟨ks, hks⟩ : ∃ ks, Hid (es.take 100 = ks) := ⟨_, Lib.hid rfl⟩
    rw [hks.out] at hN
    have hPk : Hid (∀ w', Below w.heap.size w w' → Pieces w' Ap ks) := fun w' hb => by rw [← hks.out]; exact pieces_takeO (hPs.out w' hb) 100
    have hshk : Hid (∀ q ∈ ks, q.length < 140737488355228) := fun q hq => hsh0.out q (by rw [← hks.out] at hq; exact List.mem_of_mem_take hq)
    clear hPs hsh0 hp0 hpc0 hks
    go_upto_region 5 with (first
    | ((with_reducible change wpList _ _ _ ({ dst := some 36, op := _, type := _, pos := _, after := _, guard := _ } :: _) _ _); refine wpList_buildF (o := ⟨some 36, _, _, _, _, _⟩) rfl 28 #[] rfl #[] (by simp) _ (hbz0.out _) ?_)
    | ((with_reducible change wpList _ _ _ ({ dst := some 37, op := _, type := _, pos := _, after := _, guard := _ } :: _) _ _); refine wpList_one (o := ⟨some 37, _, _, _, _, _⟩) rfl rfl ?_; have R37 := Lib.hid (hr10.out w1); have hb : Below w1.heap.size w1 (w1.alloc (.cells #[.int .u8 1] 5)) := Below.heap_below _ _; have N2 := Lib.hid (NN.out.below hb); have bb2 : Hid (Below w.heap.size w (w1.alloc (.cells #[.int .u8 1] 5))) := bbN.out.trans (hb.mono bbN.out.size); clear hb NN bbN; generalize w1.alloc (.cells #[Value.int IntKind.u8 1] 5) = w2 at *; generalize w1.heap.size = g37 at *)
    | (go_at_call 9; refine (add_any z okz'.out [] 0 (by decide) none 0 (fun _ => ⟨rfl, rfl⟩) e1 1 he10.out (some ⟨g37, 0, none⟩) 1 (Nat.le_refl _) (fun e => by cases e) w2 (hBs.out w2 bb2.out) (Sgs.nil_ _ _) R37.out).mono ?_; intro e w3 hAO; obtain ⟨A4, c4, rfl, hb, hO4⟩ := out_note (H := z) (r := [sg1]) (m := 1) ha10.out rfl rfl rfl hAO; have hS3 := Lib.hid (own_sgs hO4).1; have N3 := Lib.hid (N2.out.below hb); have bb3 : Hid (Below w.heap.size w w3) := bb2.out.trans (hb.mono bb2.out.size); clear hb hAO hO4 N2 bb2 R37)
    | ((with_reducible change wpList _ _ _ ({ dst := none, op := Op.store 28 (.tmp 11) (.tmp 39), type := _, pos := _, after := _, guard := _ } :: _) _ _); refine wpList_store_all (o := ⟨none, _, _, _, _, _⟩) rfl 28 (.tmp 11) (.tmp 39) rfl w3.heap.size (noteCells z (.slice A4 1 c4)).toArray rfl rfl 28 Z99 (Blk.new w3 _ _) (zZ.out _) (sZ.out _) (oZ.out _ _ _) ?_; intro w4 hB4 hk4; have hbn := below_new hk4; have N4 := Lib.hid (N3.out.below hbn); have bb4 : Hid (Below w.heap.size w w4) := bb3.out.trans (hbn.mono bb3.out.size); have G4 : Hid (NoteAt w4 w3.heap.size z A4 1 c4 [sg1]) := ⟨hB4.out, hS3.out.below hbn⟩; clear hk4 hbn hB4 hS3 N3 bb3; generalize w3.heap.size = g11 at *))

    have hl1i : Hid (i1.length = 32) := by show _ = _; rw [← hk10.out]; exact kyS_len hl10.out
    obtain ⟨b1, o1, hA4, -, hcs⟩ := G4.out.sgs.at_ (i := 0) (t := sg1) rfl
    subst hA4
    have hrow : Hid (∀ w', Below w4.heap.size w4 w' → w'.cell? ⟨g11, 98, none⟩ = some (.slice (some ⟨b1, o1, none⟩) 1 c4)) := fun w' hb => (G4.out.below hb).row okz'.out
    have hky : Hid (∀ w', Below w4.heap.size w4 w' → ∀ (j : Nat) (u : Value), (cells8 i1)[j]? = some u → w'.cell? ⟨b1, o1 + j, none⟩ = some u) := fun w' hb' j u hu => by
      obtain ⟨b2, o2, e2, -, hc2⟩ := (G4.out.below hb').sgs.at_ (i := 0) (t := sg1) rfl
      injection e2 with e2
      injection e2 with e2 e3
      subst e2 e3
      have := hc2 (0 + j) u (ky_cell (by rw [hk10.out]; exact hu))
      rwa [Nat.zero_mul, Nat.add_zero, Nat.zero_add] at this
    have sD1 : Hid ((Tryd.prog.info? 23).map (·.size) = some (cells8 i1).length) := by show _ = _; rw [cells8_len, hl1i.out]; exact size32i
    have hI1 : Hid (∀ w', Below w.heap.size w w' → ∀ g, Reads w' 1 (some ⟨g, 0, none⟩) 1 (cells8 e1) → Calls Tryd.prog 14 #[.slice (some ⟨g, 0, none⟩) 1 1] w' fun e w'' => e = .returned (.agg (cells8 i1).toArray) ∧ Below w'.heap.size w' w'') := fun w' hb g hr => by
      have := id_any e1 1 he10.out (some ⟨g, 0, none⟩) 1 w' (hBs.out w' hb) hr (Nat.le_refl _) (by decide) (fun e => by cases e)
      rw [hi10.out] at this
      exact this
    have hcE : Hid (∀ w', (binOp .neq 23 (.agg (cells8 i1).toArray) (.agg (cells8 i1).toArray)).run Tryd.prog w' = .ok (.bool false) w') := fun w' => by rw [neq_dig _ _ hl1i.out hl1i.out]; simp
    clear hcs hl1i hk10 hi10 hl10
    go_upto_region 5 with fail
    have s0 : Hid (Below w4.heap.size w4 w4.drew) := (Below.refl _ _).drew
    refine held_start (fun w' => Below w4.heap.size w4 w') 18 rfl (by kernel_rfl) ?_
    refine held_take (i := 0) (v := .int .i64 0) rfl (by kernel_rfl) (by kernel_rfl) (by kernel_rfl) (fun _ _ _ h => h) s0.out (by rfl) (fun w' hw' => run_mv (.tmp 12) rfl w') ?_
    (intro K hK; go_simp; refine hK _ ?_; clear hK K)
    refine held_take (i := 1) (v := .bool false) rfl (by kernel_rfl) (by kernel_rfl) (by kernel_rfl) (fun _ _ _ h => h) s0.out (by rfl) (fun w' hw' => by go_simp) ?_
    (intro K hK; go_simp; refine hK _ ?_; clear hK K)
    refine held_take (i := 2) (v := .bool false) rfl (by kernel_rfl) (by kernel_rfl) (by kernel_rfl) (fun _ _ _ h => h) s0.out (by rfl) (fun w' hw' => by go_simp) ?_
    (intro K hK; go_simp; refine hK _ ?_; clear hK K)
    refine held_take (i := 3) (v := .pointer (some ⟨g11, 98, none⟩)) rfl (by kernel_rfl) (by kernel_rfl) (by kernel_rfl) (fun _ _ _ h => h) s0.out (by rfl) (fun w' hw' => by go_simp) ?_
    (intro K hK; go_simp; refine hK _ ?_; clear hK K)
    refine held_take (i := 4) (v := .slice (some ⟨b1, o1, none⟩) 1 c4) rfl (by kernel_rfl) (by kernel_rfl) (by kernel_rfl) (fun _ _ _ h => h) s0.out (by rfl) (fun w' hw' => by have kc' := hrow.out w' hw'; go_simp) ?_
    (intro K hK; go_simp; refine hK _ ?_; clear hK K)
    refine held_take (i := 5) (v := .int .i64 1) rfl (by kernel_rfl) (by kernel_rfl) (by kernel_rfl) (fun _ _ _ h => h) s0.out (by rfl) (fun w' hw' => by go_simp) ?_
    (intro K hK; go_simp; refine hK _ ?_; clear hK K)
    refine held_take (i := 6) (v := .bool false) rfl (by kernel_rfl) (by kernel_rfl) (by kernel_rfl) (fun _ _ _ h => h) s0.out (by rfl) (fun w' hw' => by go_simp) ?_
    (intro K hK; go_simp; refine hK _ ?_; clear hK K)
    refine held_take (i := 7) (v := .bool false) rfl (by kernel_rfl) (by kernel_rfl) (by kernel_rfl) (fun _ _ _ h => h) s0.out (by rfl) (fun w' hw' => by go_simp) ?_
    (intro K hK; go_simp; refine hK _ ?_; clear hK K)
    refine held_take (i := 8) (v := .bool false) rfl (by kernel_rfl) (by kernel_rfl) (by kernel_rfl) (fun _ _ _ h => h) s0.out (by rfl) (fun w' hw' => by go_simp) ?_
    (intro K hK; go_simp; refine hK _ ?_; clear hK K)
    refine held_take (i := 9) (v := .pointer (some ⟨g11, 98, none⟩)) rfl (by kernel_rfl) (by kernel_rfl) (by kernel_rfl) (fun _ _ _ h => h) s0.out (by rfl) (fun w' hw' => by go_simp) ?_
    (intro K hK; go_simp; refine hK _ ?_; clear hK K)
    refine held_take (i := 10) (v := .slice (some ⟨b1, o1, none⟩) 1 c4) rfl (by kernel_rfl) (by kernel_rfl) (by kernel_rfl) (fun _ _ _ h => h) s0.out (by rfl) (fun w' hw' => by have kc' := hrow.out w' hw'; go_simp) ?_
    (intro K hK; go_simp; refine hK _ ?_; clear hK K)
    refine held_take (i := 11) (v := .pointer (some ⟨b1, o1, none⟩)) rfl (by kernel_rfl) (by kernel_rfl) (by kernel_rfl) (fun _ _ _ h => h) s0.out (by rfl) (fun w' hw' => by go_simp) ?_
    (intro K hK; go_simp; refine hK _ ?_; clear hK K)
    refine held_take (i := 12) (v := .pointer (some ⟨b1, o1, none⟩)) rfl (by kernel_rfl) (by kernel_rfl) (by kernel_rfl) (fun _ _ _ h => h) s0.out (by rfl) (fun w' hw' => by go_simp) ?_
    (intro K hK; go_simp; refine hK _ ?_; clear hK K)
    refine held_take (i := 13) (v := .agg (cells8 i1).toArray) rfl (by kernel_rfl) (by kernel_rfl) (by kernel_rfl) (fun _ _ _ h => h) s0.out (by rfl) (fun w' hw' => exec_part 23 (.tmp 53) rfl (b1) (o1) rfl (cells8 i1) _ ((hky.out w' hw')) Tryd.underlying23 rfl sD1.out) ?_
    (intro K hK; go_simp; refine hK _ ?_; clear hK K)
    refine held_only (i := 14) rfl (by kernel_rfl) (by rfl) (fun K hK => ?_)
    refine wp_one rfl ?_
    have R5 := Lib.hid (hr10.out w4.drew)
    have h5 : Hid (Below w4.heap.size w4 (w4.drew.alloc (.cells #[.int .u8 1] 5))) := s0.out.alloc s0.out.size _
    go_simp
    refine hK _ _ h5.out ?_
    clear hK K
    refine held_only (i := 15) rfl (by kernel_rfl) (by rfl) (fun K hK => ?_)
    refine wp_fn (R := fun v w'' => v = .agg (cells8 i1).toArray ∧ Below w4.heap.size w4 w'') (args := #[.slice (some ⟨w4.heap.size, 0, none⟩) 1 1]) _ _ rfl rfl Tryd.func14 (by kernel_rfl) (by kernel_rfl) ((hI1.out _ (bb4.out.trans (h5.out.mono bb4.out.size)) w4.heap.size R5.out).mono fun e w'' ⟨he, hb⟩ => ⟨_, he, rfl, h5.out.trans (hb.mono h5.out.size)⟩) ?_
    rintro qq wQ ⟨rfl, h6⟩
    replace h6 := Lib.hid h6
    go_simp
    refine hK _ _ h6.out ?_
    clear hK K
    refine held_take (i := 16) (v := .bool false) rfl (by kernel_rfl) (by kernel_rfl) (by kernel_rfl) (fun _ _ _ h => h) h6.out (by rfl) (fun w' hw' => run_cmp rfl rfl rfl qDO (hcE.out w')) ?_
    (intro K hK; go_simp; refine hK _ ?_; clear hK K)
    refine held_take (i := 17) (v := .bool false) rfl (by kernel_rfl) (by kernel_rfl) (by kernel_rfl) (fun _ _ _ h => h) h6.out (by rfl) (fun w' hw' => by go_simp) ?_
    (intro K hK; go_simp; refine hK _ ?_; clear hK K)
    refine held_end (by kernel_rfl) ?_
    have NQ := Lib.hid (N4.out.below h6.out)
    have bbQ : Hid (Below w.heap.size w wQ) := bb4.out.trans (h6.out.mono bb4.out.size)
    clear h6 h5 s0 R5 hI1 hcE hky hrow sD1 G4 N4 bb4
    go_upto_region 7 with fail
    go_cut [13] from 59 to 66 (fun v wx => ∃ (mb B0 : Nat) (A3 : Option Addr) (c3 : Nat) (xs : List Text), v = .pointer (some ⟨mb, 0, none⟩) ∧ Hid (xs.Perm S) ∧ Hid (Blk wx mb 28 (noteCells h (.slice A3 m c3)).toArray) ∧ Hid (OwnS wx B0 (.slice A3 m c3) m xs) ∧ Hid (Below wQ.heap.size wQ wx))
    case first =>
      have s0 : Hid (Below wQ.heap.size wQ wQ.drew) := (Below.refl _ _).drew
      refine held_start (fun w' => Below wQ.heap.size wQ w') 9 rfl (by kernel_rfl) ?_
      refine held_take (i := 0) (v := .pointer (some ⟨w.heap.size, 0, none⟩)) rfl (by kernel_rfl) (by kernel_rfl) (by kernel_rfl) (fun _ _ _ h => h) s0.out (by rfl) (fun w' hw' => by go_simp) ?_
      (intro K hK; go_simp; refine hK _ ?_; clear hK K)
      refine held_take (i := 1) (v := .agg (headCells h).toArray) rfl (by kernel_rfl) (by kernel_rfl) (by kernel_rfl) (fun _ _ _ h => h) s0.out (by rfl) (fun w' hw' => exec_part 25 (.tmp 59) rfl (w.heap.size) (0) rfl (headCells h) _ ((NQ.out.below hw').head) Tryd.underlying25 rfl hsz.out) ?_
      (intro K hK; go_simp; refine hK _ ?_; clear hK K)
      refine held_take (i := 2) (v := .pointer (some ⟨w.heap.size, 98, none⟩)) rfl (by kernel_rfl) (by kernel_rfl) (by kernel_rfl) (fun _ _ _ h => h) s0.out (by rfl) (fun w' hw' => by go_simp) ?_
      (intro K hK; go_simp; refine hK _ ?_; clear hK K)
      refine held_take (i := 3) (v := .slice A m c) rfl (by kernel_rfl) (by kernel_rfl) (by kernel_rfl) (fun _ _ _ h => h) s0.out (by rfl) (fun w' hw' => by have kc' := (NQ.out.below hw').row ok'.out; go_simp) ?_
      (intro K hK; go_simp; refine hK _ ?_; clear hK K)
      refine held_take (i := 4) (v := .slice At pt ct) rfl (by kernel_rfl) (by kernel_rfl) (by kernel_rfl) (fun _ _ _ h => h) s0.out (by rfl) (fun w' hw' => run_mv (.tmp 1) rfl w') ?_
      (intro K hK; go_simp; refine hK _ ?_; clear hK K)
      refine held_two (i := 5) (j := 7) rfl rfl (by kernel_rfl) (by rfl) (by rfl) (fun K hK => ?_) (fun K hK => ?_)
      · refine wp_fn (R := fun v w'' => ∃ (B0 : Nat) (A3 : Option Addr) (c3 : Nat) (xs : List Text), v = .slice A3 m c3 ∧ xs.Perm S ∧ OwnS w'' B0 (.slice A3 m c3) m xs ∧ Below wQ.heap.size wQ w'' ∧ Below (wQ.drew).heap.size (wQ.drew) w'') (args := #[.slice A m c, .slice At pt ct]) _ _ rfl rfl Tryd.func15 (by kernel_rfl) (by kernel_rfl) ((mixed_any S m (by have := hm1.out; omega) A c ts pt hpt0.out At ct (wQ.drew) hnS.out (NQ.out.below (s0.out)).sgs (hTs.out _ (bbQ.out.trans ((s0.out).mono bbQ.out.size)))).mono fun e w'' ho => by obtain ⟨v, xs, he, hp, hO, hb⟩ := ho; obtain ⟨A3, c3, rfl, -⟩ := OwnS.reads hO; exact ⟨_, he, _, A3, c3, xs, rfl, hp, hO, s0.out.trans (hb.mono s0.out.size), hb⟩) ?_
        rintro qq w5 ⟨B0, A3, c3, xs, rfl, hxp, hT, h5, kk1⟩
        replace h5 := Lib.hid h5
        replace kk1 := Lib.hid kk1
        replace hT := Lib.hid hT
        replace hxp := Lib.hid hxp
        have FN := Lib.hid (fitN ok'.out A3 m c3)
        clear kk1
        go_simp
        refine hK _ _ h5.out ?_
        clear hK K
        refine held_take (i := 6) (v := .agg (noteCells h (.slice A3 m c3)).toArray) rfl (by kernel_rfl) (by kernel_rfl) (by kernel_rfl) (fun _ _ _ h => h) h5.out (by rfl) (fun w' hw' => exec_build 28 #[(0, .tmp 60), (1, .tmp 64)] rfl #[(0, .agg (headCells h).toArray), (1, .slice A3 m c3)] (by simp; exact ⟨rfl, rfl⟩) _ (run_note ok'.out A3 m c3 w')) ?_
        (intro K hK; go_simp; refine hK _ ?_; clear hK K)
        refine held_only (i := 7) rfl (by kernel_rfl) (by rfl) (fun K hK => ?_)
        have h6 := Lib.hid (h5.out.alloc h5.out.size (.cells Z99 28))
        have bb : Hid (Blk (w5.alloc (.cells Z99 28)) w5.heap.size 28 Z99) := Blk.new _ _ _
        replace hT := Lib.hid (hT.out.below (Below.heap_below _ (.cells Z99 28)))
        go_simp
        refine hK _ _ h6.out ?_
        clear hK K
        refine held_only (i := 8) rfl (by kernel_rfl) (by rfl) (fun K hK => ?_)
        refine wp_store_whole 28 (.tmp 13) (.tmp 65) rfl (w5.heap.size) ((noteCells h (.slice A3 m c3)).toArray) rfl rfl 28 (Z99) (bb.out) FN.out.size FN.out.zero FN.out.one ?_
        intro w99 B9 k9
        have b9 : Hid (Below wQ.heap.size wQ w99) := h6.out.trans (Kept.below_of k9 (h5.out.size) h6.out.size)
        replace hT := Lib.hid (hT.out.keptN bb.out k9)
        go_simp
        refine hK _ _ b9.out ?_
        clear hK K
        refine held_end (by kernel_rfl) ?_
        go_wp2_with fail
        go_meet
        case rel => exact ⟨_, _, _, _, _, rfl, hxp.out, B9, hT.out, b9.out⟩
      · have h5 := Lib.hid (s0.out.alloc s0.out.size (.cells Z99 28))
        have bb : Hid (Blk (wQ.drew.alloc (.cells Z99 28)) wQ.heap.size 28 Z99) := Blk.new _ _ _
        go_simp
        refine hK _ _ h5.out ?_
        clear hK K
        refine held_only (i := 5) rfl (by kernel_rfl) (by rfl) (fun K hK => ?_)
        refine wp_fn (R := fun v w'' => ∃ (B0 : Nat) (A3 : Option Addr) (c3 : Nat) (xs : List Text), v = .slice A3 m c3 ∧ xs.Perm S ∧ OwnS w'' B0 (.slice A3 m c3) m xs ∧ Below wQ.heap.size wQ w'' ∧ Below ((wQ.drew.alloc (.cells Z99 28))).heap.size ((wQ.drew.alloc (.cells Z99 28))) w'') (args := #[.slice A m c, .slice At pt ct]) _ _ rfl rfl Tryd.func15 (by kernel_rfl) (by kernel_rfl) ((mixed_any S m (by have := hm1.out; omega) A c ts pt hpt0.out At ct ((wQ.drew.alloc (.cells Z99 28))) hnS.out (NQ.out.below (h5.out)).sgs (hTs.out _ (bbQ.out.trans ((h5.out).mono bbQ.out.size)))).mono fun e w'' ho => by obtain ⟨v, xs, he, hp, hO, hb⟩ := ho; obtain ⟨A3, c3, rfl, -⟩ := OwnS.reads hO; exact ⟨_, he, _, A3, c3, xs, rfl, hp, hO, h5.out.trans (hb.mono h5.out.size), hb⟩) ?_
        rintro qq w6 ⟨B0, A3, c3, xs, rfl, hxp, hT, h6, kk1⟩
        replace h6 := Lib.hid h6
        replace kk1 := Lib.hid kk1
        replace hT := Lib.hid hT
        replace hxp := Lib.hid hxp
        have FN := Lib.hid (fitN ok'.out A3 m c3)
        replace bb := Lib.hid ((kk1.out.block _ (Blk.lt bb.out)).trans bb.out)
        clear kk1
        go_simp
        refine hK _ _ h6.out ?_
        clear hK K
        refine held_take (i := 6) (v := .agg (noteCells h (.slice A3 m c3)).toArray) rfl (by kernel_rfl) (by kernel_rfl) (by kernel_rfl) (fun _ _ _ h => h) h6.out (by rfl) (fun w' hw' => exec_build 28 #[(0, .tmp 60), (1, .tmp 64)] rfl #[(0, .agg (headCells h).toArray), (1, .slice A3 m c3)] (by simp; exact ⟨rfl, rfl⟩) _ (run_note ok'.out A3 m c3 w')) ?_
        (intro K hK; go_simp; refine hK _ ?_; clear hK K)
        refine held_only (i := 8) rfl (by kernel_rfl) (by rfl) (fun K hK => ?_)
        refine wp_store_whole 28 (.tmp 13) (.tmp 65) rfl (wQ.heap.size) ((noteCells h (.slice A3 m c3)).toArray) rfl rfl 28 (Z99) (bb.out) FN.out.size FN.out.zero FN.out.one ?_
        intro w99 B9 k9
        have b9 : Hid (Below wQ.heap.size wQ w99) := h6.out.trans (Kept.below_of k9 (s0.out.size) h6.out.size)
        replace hT := Lib.hid (hT.out.keptN bb.out k9)
        go_simp
        refine hK _ _ b9.out ?_
        clear hK K
        refine held_end (by kernel_rfl) ?_
        go_wp2_with fail
        go_meet
        case rel => exact ⟨_, _, _, _, _, rfl, hxp.out, B9, hT.out, b9.out⟩
    case rest =>
      obtain ⟨gm, Bm, A3, c3, xs, rfl, hxp, hB7, hO7, hb7⟩ := hcut
      obtain ⟨w7, rfl⟩ : ∃ w7, w7 = wc := ⟨_, rfl⟩
      have N7 := Lib.hid (NQ.out.below hb7.out)
      have M7 : Hid (NoteAt w7 gm h A3 m c3 xs) := ⟨hB7.out, (own_sgs hO7.out).1⟩
      have hnX := Lib.hid (own_sgs hO7.out).2
      have bb7 : Hid (Below w.heap.size w w7) := bbQ.out.trans (hb7.out.mono bbQ.out.size)
      clear hB7 hO7 hb7 NQ bbQ hTs hpt0
      obtain ⟨k14, hk14⟩ : ∃ k14, Hid ((noteAns h S).2 = k14) := ⟨_, Lib.hid rfl⟩
      obtain ⟨bt, hbt⟩ : ∃ bt, Hid ((noteAns h S).1.getD [] = bt) := ⟨_, Lib.hid rfl⟩
      have hbtl : Hid (bt.length < 140737488355328) := by show _ < _; rw [← hbt.out]; exact text_len h ok'.out S hsns.out
      obtain ⟨kt, hkt⟩ : ∃ kt, Hid (bt.length = kt) := ⟨_, Lib.hid rfl⟩
      rw [hkt.out] at hbtl
      have hNA := Lib.hid (note_perm hxp.out h)
      go_upto_region 13 with (first
    | (((with_reducible change wpList _ _ _ ({ dst := some 67, op := _, type := _, pos := _, after := _, guard := _ } :: _) _ _); refine wpList_load_row (o := ⟨some 67, _, _, _, _, _⟩) rfl 28 (.tmp 5) rfl (w.heap.size) rfl 28 ((noteCells h (.slice A m c)).toArray) (0, 0) _ N7.out.blk Tryd.underlying28 rfl (zN.out _) ?_))
    | (go_at_call 16; refine (encnote_any h ok'.out S m A c w7 N7.out.sgs).mono ?_; rintro e w8 ⟨v8, rfl, hb, hP8⟩; rw [hk14.out]; obtain ⟨A8, c8, rfl, hr8⟩ := text_reads hP8; rw [hbt.out, hkt.out] at hr8 ⊢; replace hr8 := Lib.hid hr8; have N8 := Lib.hid (N7.out.below hb); have M8 := Lib.hid (M7.out.below hb); have bb8 : Hid (Below w.heap.size w w8) := bb7.out.trans (hb.mono bb7.out.size); clear hb N7 M7 bb7; clear hP8)
    | (((with_reducible change wpList _ _ _ ({ dst := some 72, op := _, type := _, pos := _, after := _, guard := _ } :: _) _ _); refine wpList_load_row (o := ⟨some 72, _, _, _, _, _⟩) rfl 28 (.tmp 13) rfl (gm) rfl 28 ((noteCells h (.slice A3 m c3)).toArray) (0, 0) _ M8.out.blk Tryd.underlying28 rfl (zN.out _) ?_))
    | (go_at_call 16; refine (encnote_any h ok'.out xs m A3 c3 w8 M8.out.sgs).mono ?_; rintro e w9 ⟨v9, rfl, hb, hP9⟩; rw [hNA.out] at hP9 ⊢; rw [hk14.out]; obtain ⟨A9, c9, rfl, hr9⟩ := text_reads hP9; rw [hbt.out, hkt.out] at hr9 ⊢; replace hr9 := Lib.hid hr9; replace hr8 := Lib.hid (hr8.out.below hb); have N9 := Lib.hid (N8.out.below hb); have M9 := Lib.hid (M8.out.below hb); have bb9 : Hid (Below w.heap.size w w9) := bb8.out.trans (hb.mono bb8.out.size); clear hb N8 M8 bb8; clear hP9)
    | (go_at_call 17; refine (same_any bt kt hkt.out (by have := hbtl.out; omega) A8 A9 c8 c9 w9 hr8.out hr9.out).mono ?_; rintro e wX ⟨rfl, nX, rfl⟩; have hb : Below w9.heap.size w9 (w9.drewN nX) := below_drawn (Below.refl _ _) nX; have N10 := Lib.hid (N9.out.below hb); have M10 := Lib.hid (M9.out.below hb); have bb10 : Hid (Below w.heap.size w (w9.drewN nX)) := bb9.out.trans (hb.mono bb9.out.size); clear hb N9 M9 bb9 hr8 hr9; generalize w9.drewN nX = w10 at *)
    | (go_at_call 18; refine (newRing_any ks N hN.out.2 (by have := hN.out.1; omega) Ap cp w10 (hBs.out w10 bb10.out) (hPk.out w10 bb10.out) hshk.out).mono ?_; intro e w11 hNO; obtain ⟨v18, k19, rfl, hb, hk19, hbad, hgood⟩ := hNO; replace hk19 := Lib.hid hk19; replace hbad := Lib.hid hbad; replace hgood := Lib.hid hgood; have N11 := Lib.hid (N10.out.below hb); have M11 := Lib.hid (M10.out.below hb); have bb11 : Hid (Below w.heap.size w w11) := bb10.out.trans (hb.mono bb10.out.size); clear hb N10 M10 bb10))

      go_upto_if 91 with fail
      go_cut [20, 21, 22, 23] from 90 to 113 (fun u1 u2 u3 u4 wr => Hid (Below w11.heap.size w11 wr))
      case first =>
        by_cases hk0 : k19 = 0
        · obtain ⟨l, e18, hRA, hpm, hst⟩ := hgood.out hk0
          obtain ⟨hr64, hrk⟩ := ring_okO hk19.out hk0
          subst hk0 e18
          have hRA11 := Lib.hid hRA
          have hpm0 := Lib.hid hpm
          have hst0 := Lib.hid hst
          have hll : Hid (l.length ≤ 64) := by show _ ≤ _; have h1 := hpm.length_eq; rw [List.length_map] at h1; rw [h1]; exact hr64
          have hlk : Hid (∀ x ∈ l, keyB x.q.length = true) := fun x hx => List.all_eq_true.1 hrk x.q (hpm.mem_iff.1 (List.mem_map.2 ⟨x, hx, rfl⟩))
          obtain ⟨o20, k20, hva⟩ : ∃ o20 k20, Hid (verAns ks h S 1 = (o20, k20)) := ⟨_, _, rfl⟩
          obtain ⟨r20, hr20⟩ : ∃ r20, Hid (o20.getD [] = r20) := ⟨_, Lib.hid rfl⟩
          obtain ⟨m20, hm20⟩ : ∃ m20, Hid (r20.length = m20) := ⟨_, Lib.hid rfl⟩
          have hm20b : Hid (m20 ≤ 100) := by
            show _ ≤ _
            have x1 := ver_len ks h S 1
            rw [hva.out] at x1
            have x2 : S.length = m := N11.out.sgs.len
            rw [← hm20.out, ← hr20.out]
            exact Nat.le_trans x1 (by have := hm1.out; omega)
          have hVX := Lib.hid (ver_perm hxp.out ks h 1)
          clear hRA hpm hst hbad hgood hk19 hr64 hrk
          go_wp2_with (first
    | (((with_reducible change wpList _ _ _ ({ dst := some 94, op := _, type := _, pos := _, after := _, guard := _ } :: _) _ _); refine wpList_load_row (o := ⟨some 94, _, _, _, _, _⟩) rfl 28 (.tmp 5) rfl (w.heap.size) rfl 28 ((noteCells h (.slice A m c)).toArray) (0, 0) _ N11.out.blk Tryd.underlying28 rfl (zN.out _) ?_))
    | (go_at_call 19; refine (verify_any ks l hpm0.out hst0.out hll.out hlk.out h ok'.out S m A c hnS.out 1 w10.heap.size w11 (hBs.out w11 bb11.out) hRA11.out N11.out.sgs).mono ?_; intro e w13 hV; obtain ⟨v20, rfl, hb, hI⟩ := hV; rw [hva.out] at hI ⊢; obtain ⟨A20, c20, rfl, hI13⟩ := ids_reads hI; rw [hr20.out, hm20.out] at hI13 ⊢; replace hI13 := Lib.hid hI13; have N13 := Lib.hid (N11.out.below hb); have M13 := Lib.hid (M11.out.below hb); have RA13 := Lib.hid (hRA11.out.below hb); have bb13 : Hid (Below w.heap.size w w13) := bb11.out.trans (hb.mono bb11.out.size); have b13 : Hid (Below w11.heap.size w11 w13) := hb; clear hb hI N11 M11 bb11 hRA11)
    | (((with_reducible change wpList _ _ _ ({ dst := some 100, op := _, type := _, pos := _, after := _, guard := _ } :: _) _ _); refine wpList_load_row (o := ⟨some 100, _, _, _, _, _⟩) rfl 28 (.tmp 13) rfl (gm) rfl 28 ((noteCells h (.slice A3 m c3)).toArray) (0, 0) _ M13.out.blk Tryd.underlying28 rfl (zN.out _) ?_))
    | (go_at_call 19; refine (verify_any ks l hpm0.out hst0.out hll.out hlk.out h ok'.out xs m A3 c3 hnX.out 1 w10.heap.size w13 (hBs.out w13 bb13.out) RA13.out M13.out.sgs).mono ?_; intro e w14 hV; obtain ⟨v22, rfl, hb, hI⟩ := hV; rw [hVX.out, hva.out] at hI ⊢; obtain ⟨A22, c22, rfl, hI22⟩ := ids_reads hI; rw [hr20.out, hm20.out] at hI22 ⊢; replace hI22 := Lib.hid hI22; have hI14 := Lib.hid (hI13.out.below hb); have b14' : Hid (Below w11.heap.size w11 w14) := b13.out.trans (hb.mono b13.out.size); clear hb hI hI13 N13 M13 RA13 bb13 b13)
    | (go_at_call 20; refine (sameIDs_any r20 m20 (by have := hm20b.out; omega) A20 A22 c20 c22 w14 hI14.out hI22.out).mono ?_; rintro e wX ⟨rfl, nX, rfl⟩; have b14 : Hid (Below w11.heap.size w11 (w14.drewN nX)) := below_drawn b14'.out nX; clear hI14 hI22 b14'))

          go_meet
          case rel => exact b14.out
        · go_wp2_with fail
          go_meet
          case rel => exact Below.refl _ _
      case rest =>
        obtain ⟨w12, rfl⟩ : ∃ w12, w12 = wc := ⟨_, rfl⟩
        have N12 := Lib.hid (N11.out.below hcut.out)
        have M12 := Lib.hid (M11.out.below hcut.out)
        have bb12 : Hid (Below w.heap.size w w12) := bb11.out.trans (hcut.out.mono bb11.out.size)
        clear hcut N11 M11 bb11 hbad hgood hk19
        obtain ⟨o7, k7, ha7⟩ : ∃ o7 k7, Hid (addAns h S a = (o7, k7)) := ⟨_, _, rfl⟩
        obtain ⟨H7, hH7⟩ : ∃ H7, Hid (addH h o7 = H7) := ⟨_, Lib.hid rfl⟩
        obtain ⟨r7, hr7⟩ : ∃ r7, Hid (o7.getD [] = r7) := ⟨_, Lib.hid rfl⟩
        obtain ⟨m7, hm7⟩ : ∃ m7, Hid (r7.length = m7) := ⟨_, Lib.hid rfl⟩
        have okH : Hid (H7.Ok) := by show HeadD.Ok _; rw [← hH7.out]; exact addH_ok ok'.out o7
        have hm16 : Hid (m7 ≤ 16) := by show _ ≤ _; rw [← hm7.out, ← hr7.out]; exact add_len ha7.out
        have zH := Lib.hid (fun v => note_size okH.out v)
        have oH := Lib.hid (fun A n c => note_one (h := H7) A n c)
        have sH := Lib.hid (fun v => note_zero okH.out v)
        have ha7x : Hid (addAns h xs a = (o7, k7)) := (add_perm hxp.out h a).trans ha7.out
        go_upto_region 22 with (first
    | (((with_reducible change wpList _ _ _ ({ dst := some 114, op := _, type := _, pos := _, after := _, guard := _ } :: _) _ _); refine wpList_load_row (o := ⟨some 114, _, _, _, _, _⟩) rfl 28 (.tmp 5) rfl (w.heap.size) rfl 28 ((noteCells h (.slice A m c)).toArray) (0, 0) _ N12.out.blk Tryd.underlying28 rfl (zN.out _) ?_))
    | (go_at_call 9; refine (add_any h ok'.out S m (by have := hm1.out; omega) A c hnS.out a ka hka0.out Aa ca hac0.out han0.out w12 (hBs.out w12 bb12.out) N12.out.sgs (hRa.out w12 bb12.out)).mono ?_; intro e w13 hAO; obtain ⟨A24, c24, rfl, hb, hO⟩ := out_note ha7.out hH7.out hr7.out hm7.out hAO; have hO13 := Lib.hid hO; have N13 := Lib.hid (N12.out.below hb); have M13 := Lib.hid (M12.out.below hb); have bb13 : Hid (Below w.heap.size w w13) := bb12.out.trans (hb.mono bb12.out.size); clear hb N12 M12 bb12; clear hAO hO)
    | ((with_reducible change wpList _ _ _ ({ dst := none, op := Op.store 28 (.tmp 24) (.tmp 117), type := _, pos := _, after := _, guard := _ } :: _) _ _); refine wpList_store_all (o := ⟨none, _, _, _, _, _⟩) rfl 28 (.tmp 24) (.tmp 117) rfl w13.heap.size (noteCells H7 (.slice A24 m7 c24)).toArray rfl rfl 28 Z99 (Blk.new w13 _ _) (zH.out _) (sH.out _) (oH.out _ _ _) ?_; intro w14 hB14 hk14'; have hb := below_new hk14'; have P14 : Hid (NoteAt w14 w13.heap.size H7 A24 m7 c24 r7) := ⟨hB14.out, ((own_sgs hO13.out).1).below hb⟩; have hnP := Lib.hid (own_sgs hO13.out).2; have N14 := Lib.hid (N13.out.below hb); have M14 := Lib.hid (M13.out.below hb); have bb14 : Hid (Below w.heap.size w w14) := bb13.out.trans (hb.mono bb13.out.size); clear hb N13 M13 bb13; clear hk14' hB14 hO13; generalize w13.heap.size = g24 at *)
    | (((with_reducible change wpList _ _ _ ({ dst := some 120, op := _, type := _, pos := _, after := _, guard := _ } :: _) _ _); refine wpList_load_row (o := ⟨some 120, _, _, _, _, _⟩) rfl 28 (.tmp 13) rfl (gm) rfl 28 ((noteCells h (.slice A3 m c3)).toArray) (0, 0) _ M14.out.blk Tryd.underlying28 rfl (zN.out _) ?_))
    | (go_at_call 9; refine (add_any h ok'.out xs m (by have := hm1.out; omega) A3 c3 hnX.out a ka hka0.out Aa ca hac0.out han0.out w14 (hBs.out w14 bb14.out) M14.out.sgs (hRa.out w14 bb14.out)).mono ?_; intro e w15 hAO; obtain ⟨A25, c25, rfl, hb, hO⟩ := out_note ha7x.out hH7.out hr7.out hm7.out hAO; have hO15 := Lib.hid hO; have N15 := Lib.hid (N14.out.below hb); have P15 := Lib.hid (P14.out.below hb); have bb15 : Hid (Below w.heap.size w w15) := bb14.out.trans (hb.mono bb14.out.size); clear hb N14 P14 bb14; clear hAO hO)
    | ((with_reducible change wpList _ _ _ ({ dst := none, op := Op.store 28 (.tmp 25) (.tmp 123), type := _, pos := _, after := _, guard := _ } :: _) _ _); refine wpList_store_all (o := ⟨none, _, _, _, _, _⟩) rfl 28 (.tmp 25) (.tmp 123) rfl w15.heap.size (noteCells H7 (.slice A25 m7 c25)).toArray rfl rfl 28 Z99 (Blk.new w15 _ _) (zH.out _) (sH.out _) (oH.out _ _ _) ?_; intro w16 hB16 hk16; have hb := below_new hk16; have Q16 : Hid (NoteAt w16 w15.heap.size H7 A25 m7 c25 r7) := ⟨hB16.out, ((own_sgs hO15.out).1).below hb⟩; have N16 := Lib.hid (N15.out.below hb); have P16 := Lib.hid (P15.out.below hb); have bb16 : Hid (Below w.heap.size w w16) := bb15.out.trans (hb.mono bb15.out.size); clear hb N15 P15 bb15; clear hk16 hB16 hO15; generalize w15.heap.size = g25 at *)
    | ((with_reducible change wpList _ _ _ ({ dst := some 129, op := _, type := _, pos := _, after := _, guard := _ } :: _) _ _); (with_reducible refine Veil.out ?_); refine wpList_rowW (o := ⟨some 129, _, _, _, _, _⟩) rfl 28 (.tmp 24) rfl (g24) rfl 28 ((noteCells H7 (.slice A24 m7 c24)).toArray) (0, 0) _ P16.out.blk Tryd.underlying28 rfl (zH.out _) ?_)
    | ((with_reducible change wpList _ _ _ ({ dst := some 130, op := _, type := _, pos := _, after := _, guard := _ } :: _) _ _); (with_reducible refine Veil.out ?_); refine wpList_rowW (o := ⟨some 130, _, _, _, _, _⟩) rfl 28 (.tmp 25) rfl (g25) rfl 28 ((noteCells H7 (.slice A25 m7 c25)).toArray) (0, 0) _ Q16.out.blk Tryd.underlying28 rfl (zH.out _) ?_)
    | (go_at_call 11; refine (sameNotes_any H7 okH.out r7 m7 (by have := hm16.out; omega) A24 A25 c24 c25 w16 P16.out.sgs Q16.out.sgs).mono ?_; rintro e w17 ⟨rfl, hb⟩; have N17 := Lib.hid (N16.out.below hb); have P17 := Lib.hid (P16.out.below hb); have bb17 : Hid (Below w.heap.size w w17) := bb16.out.trans (hb.mono bb16.out.size); clear hb N16 P16 bb16; clear Q16))

        by_cases h70 : ¬ k7 = 0
        · go_wp2_with fail
          go_ret
          exact ⟨rfl, bb17.out⟩
        have h7e : k7 = 0 := Decidable.not_not.1 h70
        subst h7e
        clear h70
        obtain ⟨x7, -⟩ := add_zero ha7.out rfl
        obtain rfl : h = H7 := x7.symm.trans hH7.out
        have ho7 : Hid (o7 = some r7) := by
          show _ = _
          obtain ⟨rs, r, -, -, -, e, -⟩ := add_right ha7.out
          rw [e] at hr7
          rw [e, ← hr7.out]
          rfl
        rw [ho7.out] at ha7
        clear ho7 hH7 hr7 ha7x x7 okH zH oH sH
        obtain ⟨da, hda⟩ : ∃ d, Hid (idOf a = d) := ⟨_, Lib.hid rfl⟩
        obtain ⟨db, hdb⟩ : ∃ d, Hid (idOf b = d) := ⟨_, Lib.hid rfl⟩
        have hla : Hid (da.length = 32) := by show _ = _; rw [← hda.out]; exact idOf_len a
        have hlb : Hid (db.length = 32) := by show _ = _; rw [← hdb.out]; exact idOf_len b
        have hIa : Hid (∀ w', Below w.heap.size w w' → Calls Tryd.prog 14 #[.slice Aa ka ca] w' fun e w'' => e = .returned (.agg (cells8 da).toArray) ∧ Below w'.heap.size w' w'') := fun w' hb => by
          have := id_any a ka hka0.out Aa ca w' (hBs.out w' hb) (hRa.out w' hb) hac0.out hal0.out han0.out
          rw [hda.out] at this
          exact this
        have hIb : Hid (∀ w', Below w.heap.size w w' → Calls Tryd.prog 14 #[.slice Ab kb cb] w' fun e w'' => e = .returned (.agg (cells8 db).toArray) ∧ Below w'.heap.size w' w'') := fun w' hb => by
          have := id_any b kb hkb0.out Ab cb w' (hBs.out w' hb) (hRb.out w' hb) hbc0.out hbl0.out hbn0.out
          rw [hdb.out] at this
          exact this
        go_upto_region 24 with fail
        go_cut [146] from 136 to 146 (fun v wr => ∃ cc : Bool, v = .bool cc ∧ Hid (cc = false → idOf a = idOf b → a = b) ∧ Hid (Below w17.heap.size w17 wr))
        case first =>
          by_cases hd : da = db
          · subst hd
            have hqE : ∀ w', (binOp .eql 23 (.agg (cells8 da).toArray) (.agg (cells8 da).toArray)).run Tryd.prog w' = .ok (.bool true) w' := fun w' => by rw [eql_dig _ _ hla.out hla.out]; simp
            by_cases hab : a = b
            · have hab0 := Lib.hid hab
              have hdE : Hid (decide (a = b) = true) := by show _ = _; simpa using hab
              clear hab
              go_wp2_with (first
    | (go_at_call 14; refine (hIa.out w17 bb17.out).mono ?_; rintro e w18 ⟨rfl, hb⟩; have b18 : Hid (Below w17.heap.size w17 w18) := hb; have bb18 : Hid (Below w.heap.size w w18) := bb17.out.trans (hb.mono bb17.out.size); clear hb bb17)
    | (go_at_call 14; refine (hIb.out w18 bb18.out).mono ?_; rintro e w19 ⟨rfl, hb⟩; have b19 : Hid (Below w17.heap.size w17 w19) := b18.out.trans (hb.mono b18.out.size); have bb19 : Hid (Below w.heap.size w w19) := bb18.out.trans (hb.mono bb18.out.size); clear hb bb18 b18)
    | (go_at_call 17; refine (same16_any a b ka kb hka0.out hkb0.out (by have := hal0.out; omega) Aa Ab ca cb w19 (hRa.out w19 bb19.out) (hRb.out w19 bb19.out)).mono ?_; rintro e wX ⟨rfl, nX, rfl⟩; rw [hdE.out]; have b20 : Hid (Below w17.heap.size w17 (w19.drewN nX)) := below_drawn b19.out nX; have bb20 : Hid (Below w.heap.size w (w19.drewN nX)) := below_drawn bb19.out nX; clear b19 bb19))

              go_meet
              case rel => exact ⟨false, rfl, fun _ _ => hab0.out, b20.out⟩
            · have hdE : Hid (decide (a = b) = false) := by show _ = _; simpa using hab
              clear hab
              go_wp2_with (first
    | (go_at_call 14; refine (hIa.out w17 bb17.out).mono ?_; rintro e w18 ⟨rfl, hb⟩; have b18 : Hid (Below w17.heap.size w17 w18) := hb; have bb18 : Hid (Below w.heap.size w w18) := bb17.out.trans (hb.mono bb17.out.size); clear hb bb17)
    | (go_at_call 14; refine (hIb.out w18 bb18.out).mono ?_; rintro e w19 ⟨rfl, hb⟩; have b19 : Hid (Below w17.heap.size w17 w19) := b18.out.trans (hb.mono b18.out.size); have bb19 : Hid (Below w.heap.size w w19) := bb18.out.trans (hb.mono bb18.out.size); clear hb bb18 b18)
    | (go_at_call 17; refine (same16_any a b ka kb hka0.out hkb0.out (by have := hal0.out; omega) Aa Ab ca cb w19 (hRa.out w19 bb19.out) (hRb.out w19 bb19.out)).mono ?_; rintro e wX ⟨rfl, nX, rfl⟩; rw [hdE.out]; have b20 : Hid (Below w17.heap.size w17 (w19.drewN nX)) := below_drawn b19.out nX; have bb20 : Hid (Below w.heap.size w (w19.drewN nX)) := below_drawn bb19.out nX; clear b19 bb19))

              go_meet
              case rel => exact ⟨true, rfl, (fun e => by cases e), b20.out⟩
          · have hqE : ∀ w', (binOp .eql 23 (.agg (cells8 da).toArray) (.agg (cells8 db).toArray)).run Tryd.prog w' = .ok (.bool false) w' := fun w' => by rw [eql_dig _ _ hla.out hlb.out]; simpa using hd
            have hno : Hid (idOf a = idOf b → a = b) := fun e => absurd (by rw [← hda.out, ← hdb.out]; exact e) hd
            clear hd
            go_wp2_with (first
    | (go_at_call 14; refine (hIa.out w17 bb17.out).mono ?_; rintro e w18 ⟨rfl, hb⟩; have b18 : Hid (Below w17.heap.size w17 w18) := hb; have bb18 : Hid (Below w.heap.size w w18) := bb17.out.trans (hb.mono bb17.out.size); clear hb bb17)
    | (go_at_call 14; refine (hIb.out w18 bb18.out).mono ?_; rintro e w19 ⟨rfl, hb⟩; have b19 : Hid (Below w17.heap.size w17 w19) := b18.out.trans (hb.mono b18.out.size); have bb19 : Hid (Below w.heap.size w w19) := bb18.out.trans (hb.mono bb18.out.size); clear hb bb18 b18)
    | (go_at_call 17; refine (same16_any a b ka kb hka0.out hkb0.out (by have := hal0.out; omega) Aa Ab ca cb w19 (hRa.out w19 bb19.out) (hRb.out w19 bb19.out)).mono ?_; rintro e wX ⟨rfl, nX, rfl⟩; rw [hdE.out]; have b20 : Hid (Below w17.heap.size w17 (w19.drewN nX)) := below_drawn b19.out nX; have bb20 : Hid (Below w.heap.size w (w19.drewN nX)) := below_drawn bb19.out nX; clear b19 bb19))

            go_meet
            case rel => exact ⟨false, rfl, fun _ => hno.out, b19.out⟩
        case rest =>
        obtain ⟨cc, rfl, habc, hcb⟩ := hcut
        obtain ⟨w18, rfl⟩ : ∃ w18, w18 = wc := ⟨_, rfl⟩
        have N18 := Lib.hid (N17.out.below hcb.out)
        have P18 := Lib.hid (P17.out.below hcb.out)
        have bb18 : Hid (Below w.heap.size w w18) := bb17.out.trans (hcb.out.mono bb17.out.size)
        clear hcb N17 P17 bb17 hIa hIb hla hlb hda hdb
        cases cc with
        | true =>
          go_wp2_with fail
          go_ret
          exact ⟨rfl, bb18.out⟩
        | false =>
        have hab := Lib.hid (habc.out rfl)
        clear habc
        obtain ⟨o8, k8, ha8⟩ : ∃ o k, Hid (addAns h S b = (o, k)) := ⟨_, _, rfl⟩
        obtain ⟨H8, hH8⟩ : ∃ H, Hid (addH h o8 = H) := ⟨_, Lib.hid rfl⟩
        obtain ⟨r8, hr8⟩ : ∃ r, Hid (o8.getD [] = r) := ⟨_, Lib.hid rfl⟩
        obtain ⟨m8, hm8⟩ : ∃ m, Hid (r8.length = m) := ⟨_, Lib.hid rfl⟩
        have okH8 : Hid (H8.Ok) := by show HeadD.Ok _; rw [← hH8.out]; exact addH_ok ok'.out o8
        have hx8 : Hid (m8 ≤ 16) := by show _ ≤ _; rw [← hm8.out, ← hr8.out]; exact add_len ha8.out
        have zH8 := Lib.hid (fun v => note_size okH8.out v)
        have oH8 := Lib.hid (fun A n c => note_one (h := H8) A n c)
        have sH8 := Lib.hid (fun v => note_zero okH8.out v)
        obtain ⟨o9, k9, ha9⟩ : ∃ o k, Hid (addAns h r7 b = (o, k)) := ⟨_, _, rfl⟩
        obtain ⟨H9, hH9⟩ : ∃ H, Hid (addH h o9 = H) := ⟨_, Lib.hid rfl⟩
        obtain ⟨r9, hr9⟩ : ∃ r, Hid (o9.getD [] = r) := ⟨_, Lib.hid rfl⟩
        obtain ⟨m9, hm9⟩ : ∃ m, Hid (r9.length = m) := ⟨_, Lib.hid rfl⟩
        have okH9 : Hid (H9.Ok) := by show HeadD.Ok _; rw [← hH9.out]; exact addH_ok ok'.out o9
        have hx9 : Hid (m9 ≤ 16) := by show _ ≤ _; rw [← hm9.out, ← hr9.out]; exact add_len ha9.out
        have zH9 := Lib.hid (fun v => note_size okH9.out v)
        have oH9 := Lib.hid (fun A n c => note_one (h := H9) A n c)
        have sH9 := Lib.hid (fun v => note_zero okH9.out v)
        go_upto_region 28 with (first
    | (((with_reducible change wpList _ _ _ ({ dst := some 148, op := _, type := _, pos := _, after := _, guard := _ } :: _) _ _); refine wpList_load_row (o := ⟨some 148, _, _, _, _, _⟩) rfl 28 (.tmp 24) rfl (g24) rfl 28 ((noteCells h (.slice A24 m7 c24)).toArray) (0, 0) _ P18.out.blk Tryd.underlying28 rfl (zN.out _) ?_))
    | (go_at_call 9; refine (add_any h ok'.out r7 m7 (by have := hm16.out; omega) A24 c24 hnP.out b kb hkb0.out Ab cb hbc0.out hbn0.out w18 (hBs.out w18 bb18.out) P18.out.sgs (hRb.out w18 bb18.out)).mono ?_; intro e w19 hAO; obtain ⟨A26, c26, rfl, hb, hO⟩ := out_note ha9.out hH9.out hr9.out hm9.out hAO; have hO19 := Lib.hid hO; have N19 := Lib.hid (N18.out.below hb); have P19 := Lib.hid (P18.out.below hb); have bb19 : Hid (Below w.heap.size w w19) := bb18.out.trans (hb.mono bb18.out.size); clear hb N18 P18 bb18; clear hAO hO)
    | ((with_reducible change wpList _ _ _ ({ dst := none, op := Op.store 28 (.tmp 26) (.tmp 151), type := _, pos := _, after := _, guard := _ } :: _) _ _); refine wpList_store_all (o := ⟨none, _, _, _, _, _⟩) rfl 28 (.tmp 26) (.tmp 151) rfl w19.heap.size (noteCells H9 (.slice A26 m9 c26)).toArray rfl rfl 28 Z99 (Blk.new w19 _ _) (zH9.out _) (sH9.out _) (oH9.out _ _ _) ?_; intro w20 hB20 hk20; have hb := below_new hk20; have X20 : Hid (NoteAt w20 w19.heap.size H9 A26 m9 c26 r9) := ⟨hB20.out, ((own_sgs hO19.out).1).below hb⟩; have V20 := Lib.hid (hO19.out.below hb); have N20 := Lib.hid (N19.out.below hb); have bb20 : Hid (Below w.heap.size w w20) := bb19.out.trans (hb.mono bb19.out.size); clear hb N19 bb19; clear hk20 hB20 hO19 P19; generalize w19.heap.size = g26 at *)
    | (((with_reducible change wpList _ _ _ ({ dst := some 154, op := _, type := _, pos := _, after := _, guard := _ } :: _) _ _); refine wpList_load_row (o := ⟨some 154, _, _, _, _, _⟩) rfl 28 (.tmp 5) rfl (w.heap.size) rfl 28 ((noteCells h (.slice A m c)).toArray) (0, 0) _ N20.out.blk Tryd.underlying28 rfl (zN.out _) ?_))
    | (go_at_call 9; refine (add_any h ok'.out S m (by have := hm1.out; omega) A c hnS.out b kb hkb0.out Ab cb hbc0.out hbn0.out w20 (hBs.out w20 bb20.out) N20.out.sgs (hRb.out w20 bb20.out)).mono ?_; intro e w21 hAO; obtain ⟨A27, c27, rfl, hb, hO⟩ := out_note ha8.out hH8.out hr8.out hm8.out hAO; have hO21 := Lib.hid hO; have X21 := Lib.hid (X20.out.below hb); have V21 := Lib.hid (V20.out.below hb); have bb21 : Hid (Below w.heap.size w w21) := bb20.out.trans (hb.mono bb20.out.size); clear hb X20 V20 bb20; clear hAO hO)
    | ((with_reducible change wpList _ _ _ ({ dst := none, op := Op.store 28 (.tmp 27) (.tmp 157), type := _, pos := _, after := _, guard := _ } :: _) _ _); refine wpList_store_all (o := ⟨none, _, _, _, _, _⟩) rfl 28 (.tmp 27) (.tmp 157) rfl w21.heap.size (noteCells H8 (.slice A27 m8 c27)).toArray rfl rfl 28 Z99 (Blk.new w21 _ _) (zH8.out _) (sH8.out _) (oH8.out _ _ _) ?_; intro w22 hB22 hk22; have hb := below_new hk22; have Y22 : Hid (NoteAt w22 w21.heap.size H8 A27 m8 c27 r8) := ⟨hB22.out, ((own_sgs hO21.out).1).below hb⟩; have hnY := Lib.hid (own_sgs hO21.out).2; have hne : Hid (g26 < w21.heap.size) := X21.out.blk.lt; have hlo : Hid (w.heap.size ≤ w21.heap.size) := bb21.out.size; have X22 := Lib.hid (X21.out.below hb); have V22 := Lib.hid (V21.out.below hb); have bb22 : Hid (Below w.heap.size w w22) := bb21.out.trans (hb.mono bb21.out.size); clear hb X21 V21 bb21; clear hk22 hB22 hO21 N20; generalize w21.heap.size = g27 at *))

        have h2 := Lib.hid (add_two ha7.out hab.out)
        rw [ha8.out, ha9.out] at h2
        by_cases h80 : ¬ k8 = 0
        · have h3 := h2.out.1 h80
          by_cases hq : k9 = k8
          · subst hq
            clear h3 h2
            go_wp2_with fail
            go_ret
            exact ⟨rfl, bb22.out⟩
          · have h7 : k8 = 7 := h3.resolve_left hq
            subst h7
            clear h3 h2
            go_wp2_with fail
            go_ret
            exact ⟨rfl, bb22.out⟩
        have h8e : k8 = 0 := Decidable.not_not.1 h80
        subst h8e
        clear h80
        obtain ⟨x8, -⟩ := add_zero ha8.out rfl
        obtain rfl : h = H8 := x8.symm.trans hH8.out
        have ho8 : o8 = some r8 := by
          obtain ⟨rs, r, -, -, -, e, -⟩ := add_right ha8.out
          rw [e] at hr8
          rw [e, ← hr8.out]
          rfl
        have haE : Hid (addAns h r8 a = (o9, k9)) := (h2.out.2 r8 (by rw [ho8])).symm
        clear ho8 x8 h2 hH8 hr8 okH8 zH8 oH8 sH8
        go_wp2_with (first
    | (((with_reducible change wpList _ _ _ ({ dst := some 169, op := _, type := _, pos := _, after := _, guard := _ } :: _) _ _); refine wpList_load_row (o := ⟨some 169, _, _, _, _, _⟩) rfl 28 (.tmp 27) rfl (g27) rfl 28 ((noteCells h (.slice A27 m8 c27)).toArray) (0, 0) _ Y22.out.blk Tryd.underlying28 rfl (zN.out _) ?_))
    | (go_at_call 9; refine (add_any h ok'.out r8 m8 (by have := hx8.out; omega) A27 c27 hnY.out a ka hka0.out Aa ca hac0.out han0.out w22 (hBs.out w22 bb22.out) Y22.out.sgs (hRa.out w22 bb22.out)).mono ?_; intro e w23 hAO; obtain ⟨A28, c28, rfl, hb, hO⟩ := out_note haE.out hH9.out hr9.out hm9.out hAO; have hO23 := Lib.hid hO; have X23 := Lib.hid (X22.out.below hb); have V23 := Lib.hid (V22.out.below hb); have Y23 := Lib.hid (Y22.out.below hb); have bb23 : Hid (Below w.heap.size w w23) := bb22.out.trans (hb.mono bb22.out.size); clear hb X22 V22 Y22 bb22; clear hAO hO)
    | ((with_reducible change wpList _ _ _ ({ dst := none, op := Op.store 28 (.tmp 27) (.tmp 172), type := _, pos := _, after := _, guard := _ } :: _) _ _); refine wpList_store_all (o := ⟨none, _, _, _, _, _⟩) rfl 28 (.tmp 27) (.tmp 172) rfl g27 (noteCells H9 (.slice A28 m9 c28)).toArray rfl rfl 28 (noteCells h (.slice A27 m8 c27)).toArray Y23.out.blk (zH9.out _) (by rw [← s0N.out, ← sH9.out]) (oH9.out _ _ _) ?_; intro w24 hB24 hk24; have T24 : Hid (NoteAt w24 g27 H9 A28 m9 c28 r9) := ⟨hB24.out, (own_sgs (hO23.out.keptN Y23.out.blk hk24)).1⟩; have X24 : Hid (NoteAt w24 g26 H9 A26 m9 c26 r9) := ⟨Blk.kept X23.out.blk hk24 (fun x => absurd x (Nat.ne_of_lt hne.out)), (own_sgs (V23.out.keptN Y23.out.blk hk24)).1⟩; have bb24 : Hid (Below w.heap.size w w24) := bb23.out.trans (Kept.below_of hk24 hlo.out bb23.out.size); clear hk24 hB24 X23 V23 Y23 hO23 bb23)
    | ((with_reducible change wpList _ _ _ ({ dst := some 178, op := _, type := _, pos := _, after := _, guard := _ } :: _) _ _); (with_reducible refine Veil.out ?_); refine wpList_rowW (o := ⟨some 178, _, _, _, _, _⟩) rfl 28 (.tmp 26) rfl (g26) rfl 28 ((noteCells H9 (.slice A26 m9 c26)).toArray) (0, 0) _ X24.out.blk Tryd.underlying28 rfl (zH9.out _) ?_)
    | ((with_reducible change wpList _ _ _ ({ dst := some 179, op := _, type := _, pos := _, after := _, guard := _ } :: _) _ _); (with_reducible refine Veil.out ?_); refine wpList_rowW (o := ⟨some 179, _, _, _, _, _⟩) rfl 28 (.tmp 27) rfl (g27) rfl 28 ((noteCells H9 (.slice A28 m9 c28)).toArray) (0, 0) _ T24.out.blk Tryd.underlying28 rfl (zH9.out _) ?_)
    | (go_at_call 11; refine (sameNotes_any H9 okH9.out r9 m9 (by have := hx9.out; omega) A26 A28 c26 c28 w24 X24.out.sgs T24.out.sgs).mono ?_; rintro e w25 ⟨rfl, hb⟩; have bb25 : Hid (Below w.heap.size w w25) := bb24.out.trans (hb.mono bb24.out.size); clear hb bb24 X24 T24))

        go_ret
        exact ⟨rfl, bb25.out⟩
theorem headOrder_any (h : HeadD) (ok : h.Ok) (ss : List Text) (n : Nat) (A : Option Addr) (c : Nat) (hc : n ≤ c) (hnil : A = none → n = 0 ∧ c = 0) (ts : List Int) (pt : Nat) (hpt : pt ≤ 140737488355328) (At : Option Addr) (ct : Nat) (es : List Text) (p : Nat) (hp : es.length = p) (Ap : Option Addr) (cp : Nat) (hpc : p ≤ cp)
    (a : Text) (ka : Nat) (hka : a.length = ka) (Aa : Option Addr) (ca : Nat) (hac : ka ≤ ca) (han : Aa = none → ka = 0 ∧ ca = 0) (hal : ka < 140737488355328) (b : Text) (kb : Nat) (hkb : b.length = kb) (Ab : Option Addr) (cb : Nat) (hbc : kb ≤ cb) (hbn : Ab = none → kb = 0 ∧ cb = 0) (hbl : kb < 140737488355328)
    (w : World) (hB : Base w) (hS : Sgs w A n ss) (hT : Ints w At pt ts) (hP : Pieces w Ap es) (hsh : ∀ q ∈ es, q.length < 140737488355228) (hra : Reads w 1 Aa ka (cells8 a)) (hrb : Reads w 1 Ab kb (cells8 b)) :
    Calls Tryd.prog 4 #[.agg (noteCells h (.slice A n c)).toArray, .slice At pt ct, .slice Ap p cp, .slice Aa ka ca, .slice Ab kb cb] w fun e w' => e = .returned (.bool true) ∧ Below w.heap.size w w' :=
  headOrder_go h0 h0_ok run_z [1] rfl reads_1 (signOf h0 [1]) (idOf [1]) (add_one (by decide) (by decide)) rfl (ky_sign h0 [1]) (signOf_len h0 [1]) h ok ss n A c hc hnil ts pt hpt At ct es p hp Ap cp hpc a ka hka Aa ca hac han hal b kb hkb Ab cb hbc hbn hbl w hB hS hT hP hsh hra hrb
end Go.Proofs.YteelanamlhfmgaaDoor.HeadOrder
