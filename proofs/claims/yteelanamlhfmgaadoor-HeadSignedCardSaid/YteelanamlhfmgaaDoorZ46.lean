/-
  Texts of the claim, put into one file: SignedP, HeadSigned.
-/
import Derived.Test.YteelanamlhfmgaaDoorZ45
import Derived.Test.YteelanamlhfmgaaDoorZ37
import Derived.Test.YteelanamlhfmgaaDoorZ39
import Derived.Test.YteelanamlhfmgaaDoorZ13
import Derived.Test.YteelanamlhfmgaaDoorZ5
import Derived.Test.YteelanamlhfmgaaDoorZ11
import Derived.Deep.Cut
import Derived.Deep.CutRange

namespace Go.Proofs.YteelanamlhfmgaaDoor.SignedP
open Go Go.RowKit Go.Proofs.YteelanamlhfmgaaDoor Go.Proofs.YteelanamlhfmgaaDoor.Mem Go.Proofs.YteelanamlhfmgaaDoor.Sha Go.Proofs.YteelanamlhfmgaaDoor.Bytes Go.Proofs.YteelanamlhfmgaaDoor.SortP Go.Proofs.YteelanamlhfmgaaDoor.NoteP Go.Proofs.YteelanamlhfmgaaDoor.HeadMem Go.Proofs.YteelanamlhfmgaaDoor.HeadID Go.Proofs.YteelanamlhfmgaaDoor.Sign Go.Proofs.YteelanamlhfmgaaDoor.Signs Go.Proofs.YteelanamlhfmgaaDoor.Check Go.Proofs.YteelanamlhfmgaaDoor.RefNote Go.Proofs.YteelanamlhfmgaaDoor.RingM Go.Proofs.YteelanamlhfmgaaDoor.NewRing Go.Proofs.YteelanamlhfmgaaDoor.VerP Go.Proofs.YteelanamlhfmgaaDoor.AddP

theorem ky_sign (h : HeadD) (q : Text) : kyS (signOf h q) = idOf q := by
  unfold kyS signOf
  rw [List.take_append_of_le_length (by rw [idOf_len]; exact Nat.le_refl _), List.take_of_length_le (by rw [idOf_len]; exact Nat.le_refl _)]
theorem rising_self {S : List Text} (h : Strict kyS S) : rising kyS S = some S := by
  have hp : S.Pairwise fun a b => kyS a ≠ kyS b := h.imp fun x => lex_ne x
  cases hr : rising kyS S with
  | none => exact absurd hp (rising_none hr)
  | some r =>
    obtain ⟨h1, h2⟩ := rising_some hr
    rw [strict_eq h1 h h2]
theorem rising_is {S r : List Text} (hr : Strict kyS r) (hp : r.Perm S) : rising kyS S = some r := by
  have h1 : S.Pairwise fun a b => kyS a ≠ kyS b := (hp.pairwise_iff (fun {_ _} x => x.symm)).1 (hr.imp fun x => lex_ne x)
  cases h : rising kyS S with
  | none => exact absurd h1 (rising_none h)
  | some d =>
    obtain ⟨h2, h3⟩ := rising_some h
    rw [strict_eq hr h2 (hp.trans h3.symm)]
theorem sign_ans {h : HeadD} (hr : rightB h = true) {q : Text} (hk : keyB q.length = true) : signAns h q = (signOf h q, 0) := by unfold signAns; rw [if_pos hk, if_pos hr]
theorem check_ans {h : HeadD} (hr : rightB h = true) {q : Text} (hk : keyB q.length = true) : checkAns h (signOf h q) q = 0 := by
  unfold checkAns
  rw [if_pos ⟨hk, (ky_sign h q).symm⟩, if_pos hr, if_pos rfl]
/-- The signs of the first keys, rising. -/
structure SD (h : HeadD) (keys : List Text) (i : Nat) (S : List Text) : Prop where
  strict : Strict kyS S
  perm : S.Perm ((keys.take i).map (signOf h))
theorem SD.len {h : HeadD} {keys S : List Text} {i : Nat} (d : SD h keys i S) (hi : i ≤ keys.length) : S.length = i := by rw [d.perm.length_eq, List.length_map, List.length_take]; omega
theorem SD.nil (h : HeadD) (keys : List Text) : SD h keys 0 [] := ⟨List.Pairwise.nil, by simp⟩
theorem apart_at {keys : List Text} (ha : apartB keys = true) {i j : Nat} {a b : Text} (hij : i < j) (h1 : keys[i]? = some a) (h2 : keys[j]? = some b) : idOf a ≠ idOf b := by
  unfold apartB at ha
  rw [decide_eq_true_eq, List.pairwise_map] at ha
  obtain ⟨x1, rfl⟩ := List.getElem?_eq_some_iff.1 h1
  obtain ⟨x2, rfl⟩ := List.getElem?_eq_some_iff.1 h2
  exact List.pairwise_iff_getElem.1 ha i j x1 x2 hij
theorem others_all {S : List Text} {s : Text} (h : ∀ y ∈ S, kyS y ≠ kyS s) : others S s = S := by
  unfold others
  rw [List.filter_eq_self]
  intro y hy
  simpa using h y hy
theorem SD.step {h : HeadD} {keys S : List Text} {i : Nat} {q : Text} (d : SD h keys i S) (hr : rightB h = true) (hk : keysB keys = true) (ha : apartB keys = true) (hq : keys[i]? = some q) (h16 : keys.length ≤ 16) :
    ∃ r, addAns h S q = (some r, 0) ∧ SD h keys (i + 1) r ∧ addAns h r q = (some r, 0) := by
  have hi : i < keys.length := (List.getElem?_eq_some_iff.1 hq).1
  have hkq : keyB q.length = true := List.all_eq_true.1 hk q (List.mem_of_getElem? hq)
  have hno : ∀ y ∈ S, kyS y ≠ kyS (signOf h q) := fun y hy => by
    obtain ⟨z, hz, rfl⟩ := List.mem_map.1 (d.perm.mem_iff.1 hy)
    obtain ⟨j, hj, e⟩ := List.getElem_of_mem hz
    rw [List.length_take] at hj
    rw [List.getElem_take] at e
    rw [ky_sign, ky_sign]
    exact apart_at ha (i := j) (j := i) (by omega) (by rw [List.getElem?_eq_getElem (by omega), e]) hq
  have ho := others_all hno
  have hl := d.len (by omega)
  have hpw : (signOf h q :: S).Pairwise fun a b => kyS a ≠ kyS b := List.pairwise_cons.2 ⟨fun y hy => (hno y hy).symm, d.strict.imp fun x => lex_ne x⟩
  obtain ⟨r, hrr⟩ : ∃ r, rising kyS (signOf h q :: S) = some r := by
    cases hx : rising kyS (signOf h q :: S) with
    | none => exact absurd hpw (rising_none hx)
    | some r => exact ⟨r, rfl⟩
  obtain ⟨h1, h2⟩ := rising_some hrr
  have hrl : r.length = i + 1 := by rw [h2.length_eq, List.length_cons, hl]
  have hp2 : r.Perm ((keys.take (i + 1)).map (signOf h)) := by
    rw [List.take_add_one, hq, List.map_append]
    refine h2.trans ?_
    refine ((List.Perm.cons _ d.perm).trans ?_)
    show (signOf h q :: (keys.take i).map (signOf h)).Perm ((keys.take i).map (signOf h) ++ [signOf h q])
    exact (List.perm_append_singleton _ _).symm
  refine ⟨r, ?_, ⟨h1, hp2⟩, ?_⟩
  · unfold addAns
    rw [sign_ans hr hkq, if_pos rfl, rising_self d.strict]
    show addFin S (signOf h q) = _
    unfold addFin
    rw [ho, if_neg (by omega), hrr]
  · unfold addAns
    rw [sign_ans hr hkq, if_pos rfl, rising_self h1]
    show addFin r (signOf h q) = _
    have hoth : (others r (signOf h q)).Perm S := by
      have e := h2.filter (fun y => !decide (kyS y = kyS (signOf h q)))
      have e2 : (signOf h q :: S).filter (fun y => !decide (kyS y = kyS (signOf h q))) = S := by
        rw [List.filter_cons_of_neg (by simp)]
        exact ho
      rw [e2] at e
      exact e
    unfold addFin
    rw [if_neg (by rw [hoth.length_eq]; omega), rising_is h1 (h2.trans (List.Perm.cons _ hoth.symm))]
theorem ver_all {h : HeadD} (hr : rightB h = true) {keys : List Text} (hk : keysB keys = true) (ha : apartB keys = true) : ∀ (S : List Text), (∀ s ∈ S, ∃ q ∈ keys, s = signOf h q) → verF keys h S = some (S.map kyS)
  | [], _ => rfl
  | s :: S, hS => by
    obtain ⟨q, hq, rfl⟩ := hS s (by simp)
    have hp : pick keys (kyS (signOf h q)) = some q := by
      unfold pick
      rw [ky_sign]
      cases hf : keys.find? (fun x => decide (idOf x = idOf q)) with
      | none => exact absurd (List.find?_eq_none.1 hf q hq) (by simp)
      | some x =>
        have h1 : idOf x = idOf q := by simpa using List.find?_some hf
        have h2 := List.mem_of_find?_eq_some hf
        obtain ⟨i, hi, e1⟩ := List.getElem_of_mem h2
        obtain ⟨j, hj, e2⟩ := List.getElem_of_mem hq
        have g1 : keys[i]? = some x := by rw [List.getElem?_eq_getElem hi, e1]
        have g2 : keys[j]? = some q := by rw [List.getElem?_eq_getElem hj, e2]
        rcases Nat.lt_trichotomy i j with c | c | c
        · exact absurd h1 (apart_at ha c g1 g2)
        · subst c
          rw [g1] at g2
          rw [Option.some.inj g2]
        · exact absurd h1.symm (apart_at ha c g2 g1)
    rw [verF, hp]
    show (if _ then _ else _) = _
    rw [if_pos (check_ans hr (List.all_eq_true.1 hk q hq)), ver_all hr hk ha S (fun s hs => hS s (by simp [hs]))]
    rfl
theorem SD.ver {h : HeadD} {keys S : List Text} (d : SD h keys keys.length S) (hr : rightB h = true) (hk : keysB keys = true) (ha : apartB keys = true) (h1 : 1 ≤ keys.length) (h16 : keys.length ≤ 16) :
    verAns keys h S (keys.length : Int) = (some (S.map kyS), 0) ∧ verAns keys h S ((keys.length : Int) + 1) = (none, if keys.length = 16 then 1 else 7) := by
  have hl := d.len (Nat.le_refl _)
  have hv : verF keys h S = some (S.map kyS) := ver_all hr hk ha S fun s hs => by
    obtain ⟨q, hq, rfl⟩ := List.mem_map.1 (d.perm.mem_iff.1 hs)
    rw [List.take_of_length_le (Nat.le_refl _)] at hq
    exact ⟨q, hq, rfl⟩
  have hn : (noteAns h S).2 = 0 := by
    unfold noteAns
    rw [if_neg (by rw [hr]; simp), if_neg (by omega), rising_self d.strict]
  have hr2 := rising_self d.strict
  refine ⟨?_, ?_⟩
  · unfold verAns
    rw [if_neg (by omega), if_pos hn, hr2]
    show verEnd (verF keys h S) _ = _
    rw [hv]
    show (if _ then _ else _) = _
    rw [if_neg (by rw [List.length_map]; omega)]
  · unfold verAns
    by_cases h6 : keys.length = 16
    · rw [if_pos (.inr (by omega)), if_pos h6]
    · rw [if_neg (by omega), if_pos hn, hr2, if_neg h6]
      show verEnd (verF keys h S) _ = _
      rw [hv]
      show (if _ then _ else _) = _
      rw [if_pos (by rw [List.length_map]; omega)]
end Go.Proofs.YteelanamlhfmgaaDoor.SignedP

namespace Go.Proofs.YteelanamlhfmgaaDoor.HeadSigned
open Go Go.RowKit Go.Proofs.YteelanamlhfmgaaDoor Go.Proofs.YteelanamlhfmgaaDoor.Mem Go.Proofs.YteelanamlhfmgaaDoor.Sha Go.Proofs.YteelanamlhfmgaaDoor.Bytes Go.Proofs.YteelanamlhfmgaaDoor.SortP Go.Proofs.YteelanamlhfmgaaDoor.NoteP Go.Proofs.YteelanamlhfmgaaDoor.QuietTail Go.Proofs.YteelanamlhfmgaaDoor.Grown Go.Proofs.YteelanamlhfmgaaDoor.Want Go.Proofs.YteelanamlhfmgaaDoor.Guard2 Go.Proofs.YteelanamlhfmgaaDoor.Append Go.Proofs.YteelanamlhfmgaaDoor.Own Go.Proofs.YteelanamlhfmgaaDoor.Rise Go.Proofs.YteelanamlhfmgaaDoor.SortM Go.Proofs.YteelanamlhfmgaaDoor.SgM Go.Proofs.YteelanamlhfmgaaDoor.HashMem Go.Proofs.YteelanamlhfmgaaDoor.HeadMem Go.Proofs.YteelanamlhfmgaaDoor.HeadID Go.Proofs.YteelanamlhfmgaaDoor.EncNoteP Go.Proofs.YteelanamlhfmgaaDoor.EncNote Go.Proofs.YteelanamlhfmgaaDoor.RowS Go.Proofs.YteelanamlhfmgaaDoor.Fill Go.Proofs.YteelanamlhfmgaaDoor.NoteM Go.Proofs.YteelanamlhfmgaaDoor.SignEq Go.Proofs.YteelanamlhfmgaaDoor.CmpW Go.Proofs.YteelanamlhfmgaaDoor.SameSigns Go.Proofs.YteelanamlhfmgaaDoor.HeadTake Go.Proofs.YteelanamlhfmgaaDoor.HeadTake2 Go.Proofs.YteelanamlhfmgaaDoor.Decode Go.Proofs.YteelanamlhfmgaaDoor.RefNote Go.Proofs.YteelanamlhfmgaaDoor.Sign Go.Proofs.YteelanamlhfmgaaDoor.Signs Go.Proofs.YteelanamlhfmgaaDoor.Check Go.Proofs.YteelanamlhfmgaaDoor.AddP Go.Proofs.YteelanamlhfmgaaDoor.Add Go.Proofs.YteelanamlhfmgaaDoor.HeadAdds Go.Proofs.YteelanamlhfmgaaDoor.Held Go.Proofs.YteelanamlhfmgaaDoor.TreeMem Go.Proofs.YteelanamlhfmgaaDoor.DigEq Go.Proofs.YteelanamlhfmgaaDoor.RefLess Go.Proofs.YteelanamlhfmgaaDoor.RingM Go.Proofs.YteelanamlhfmgaaDoor.BinH Go.Proofs.YteelanamlhfmgaaDoor.RingS Go.Proofs.YteelanamlhfmgaaDoor.NewRing Go.Proofs.YteelanamlhfmgaaDoor.VerP Go.Proofs.YteelanamlhfmgaaDoor.Verify Go.Proofs.YteelanamlhfmgaaDoor.SignedP

theorem pieces_take {w : World} {A : Option Addr} {es : List Text} (h : Pieces w A es) (k : Nat) : Pieces w A (es.take k) := fun h0 => by
  obtain ⟨b, o, e, hb, hc⟩ := h (by rw [List.length_take] at h0; omega)
  refine ⟨b, o, e, hb, fun i q hq => hc i q ?_⟩
  rw [List.getElem?_take] at hq
  split at hq
  · exact hq
  · cases hq
set_option maxRecDepth 100000 in
theorem run_frontT {A : Option Addr} {n c m : Nat} (hm : m ≤ c) (x : Int) (hx : x = m) (w : World) : (Instr.sliceAt 29 (.slice A n c) none (some (.int .i64 x)) none).run Tryd.prog w = .ok (.slice A m c) w := run_headOf Tryd.underlying29 (fun _ => rfl) hm x hx w
theorem encHead_s (h : HeadD) (ok : h.Ok) (w : World) : Calls Tryd.prog 21 #[.agg (headCells h).toArray] w fun e w' => ∃ v, e = .returned (.tuple #[v, .int .i64 (if rightB h = true then 0 else 1)]) ∧ Below w.heap.size w w' := by
  cases hr : rightB h with
  | true => exact (HeadEnc.encodeHead_yes h ok hr w).mono fun e w' ⟨v, he, hb, ho⟩ => ⟨v, he, hb⟩
  | false => exact (HeadEnc.encodeHead_no h ok hr w).mono fun e w' ⟨he, hb⟩ => ⟨_, he, hb⟩
theorem qDS : Tryd.prog.eqGuardType Tryd.prog.depth 23 = false := by kernel_rfl
theorem size32x : (Tryd.prog.info? 23).map (·.size) = some 32 := by kernel_rfl
structure FitS (cs : Array Value) : Prop where
  size : (Tryd.prog.info? 43).map (·.size) = some cs.size
  zero : (Z64 : Array Value).size = cs.size
  one : cs.all (fun v => v.oneCell') = true
theorem fitS {x : Text} (hx : x.length = 64) : FitS (cells8 x).toArray := ⟨sign_size x hx, sign_zero x hx, sign_one x⟩
/-- What a round of adding finds. -/
theorem piece_at {w0 : World} {A : Option Addr} {ks : List Text} {i : Nat} {q : Text} (hP : ∀ w', Below w0.heap.size w0 w' → Pieces w' A ks) (hi : ks[i]? = some q) : ∃ b o Ak ck, A = some ⟨b, o, none⟩ ∧ (∀ w', Below w0.heap.size w0 w' → w'.cell? ⟨b, o + i, none⟩ = some (.slice Ak q.length ck)) ∧ q.length ≤ ck ∧ (∀ w', Below w0.heap.size w0 w' → Reads w' 1 Ak q.length (cells8 q)) ∧ (Ak = none → q.length = 0 ∧ ck = 0) := by
  have h0 : 0 < ks.length := by have := (List.getElem?_eq_some_iff.1 hi).1; omega
  obtain ⟨b, o, e, hb, hc⟩ := hP w0 (Below.refl _ _) h0
  obtain ⟨Ak, ck, h1, h2, h3, h4⟩ := hc i q hi
  exact ⟨b, o, Ak, ck, e, fun w' hw => (hw.cell (p := ⟨b, o + i, none⟩) hb).trans h1, h2, fun w' hw => h3.below hw, h4⟩
theorem ring_bounds {ks : List Text} {k : Int} (hk : k = ringAns ks) (h0 : k = 0) : 1 ≤ ks.length ∧ keysB ks = true ∧ apartB ks = true := by
  rw [h0] at hk
  unfold ringAns at hk
  split at hk
  · cases hk
  · split at hk
    · split at hk
      · exact ⟨by omega, by assumption, by assumption⟩
      · cases hk
    · cases hk
set_option maxRecDepth 100000 in
set_option maxHeartbeats 16000000 in
theorem headSigned_any (h : HeadD) (ok : h.Ok) (es : List Text) (p : Nat) (hp : es.length = p) (Ap : Option Addr) (cp : Nat) (hpc : p ≤ cp) (w : World) (hB : Base w) (hP : Pieces w Ap es) (hsh : ∀ q ∈ es, q.length < 140737488355228) :
    Calls Tryd.prog 5 #[.agg (headCells h).toArray, .slice Ap p cp] w fun e w' => e = .returned (.bool true) ∧ Below w.heap.size w w' := by
  obtain ⟨w0, hw0⟩ : ∃ w0, Hid (w.alloc (.cells (headCells h).toArray 25) = w0) := ⟨_, Lib.hid rfl⟩
  have H0 : Hid (Blk w0 w.heap.size 25 (headCells h).toArray) := by show Blk _ _ _ _; rw [← hw0.out]; exact Blk.new _ _ _
  have hb0 : Hid (Below w.heap.size w w0) := by show Below _ _ _; rw [← hw0.out]; exact Below.heap_below w _
  have hw0' := hw0.out
  have hBs : Hid (∀ w', Below w.heap.size w w' → Base w') := fun w' hb => hB.below hb hB.1
  have hP0 := Lib.hid hP
  obtain ⟨hz1, ho1, hs1⟩ := head_sizes ok
  have zN := Lib.hid (fun v => note_size ok v)
  have oN := Lib.hid (fun A n c => note_one (h := h) A n c)
  have sN : Hid (∀ v u, (noteCells h v).toArray.size = (noteCells h u).toArray.size) := fun v u => by rw [← note_zero ok v, ← note_zero ok u]
  have s0N := Lib.hid (fun v => note_zero ok v)
  have FN := Lib.hid (fun A n c => fitN ok A n c)
  have hb0n := Lib.hid (fun w' => run_note0 ok w')
  have ok' := Lib.hid ok
  have hp0 := Lib.hid hp
  have hsh0 := Lib.hid hsh
  have hpc0 := Lib.hid hpc
  clear hw0 ok hp hpc hB hP hsh
  go_enter Tryd.func5, Tryd.ntmps5
  go_upto_if 22 with fail
  go_cut [1] from 20 to 25 (fun v wr => ∃ N : Nat, v = .slice Ap N cp ∧ Hid (N ≤ 16 ∧ (es.take 16).length = N) ∧ Hid (wr = w0))
  case first =>
    by_cases h16 : 16 < p
    · have x1 : (16 : Int) < (p : Int) := by omega
      have hT := run_frontT (A := Ap) (n := p) (c := cp) (m := 16) (by have := hpc0.out; omega) 16 rfl
      have hl : Hid ((16 : Nat) ≤ 16 ∧ (es.take 16).length = 16) := ⟨Nat.le_refl _, by rw [List.length_take, hp0.out]; omega⟩
      clear h16
      go_wp2_with fail
      go_meet
      case rel => exact ⟨16, rfl, hl.out, rfl⟩
    · have x1 : ¬ ((16 : Int) < (p : Int)) := by omega
      have hl : Hid (p ≤ 16 ∧ (es.take 16).length = p) := ⟨by omega, by rw [List.length_take, hp0.out]; omega⟩
      clear h16
      go_wp2_with fail
      go_meet
      case rel => exact ⟨p, rfl, hl.out, rfl⟩
  case rest =>
    obtain ⟨N, rfl, hN, hwc⟩ := hcut
    obtain rfl := hwc.out
    clear hwc hw0'
    obtain ⟨ks, hks⟩ : ∃ ks, Hid (es.take 16 = ks) := ⟨_, Lib.hid rfl⟩
    rw [hks.out] at hN
    have hPs : Hid (∀ w', Below w.heap.size w w' → Pieces w' Ap ks) := fun w' hb => by rw [← hks.out]; exact (pieces_take hP0.out 16).below hb
    have hshk : Hid (∀ q ∈ ks, q.length < 140737488355228) := fun q hq => hsh0.out q (by rw [← hks.out] at hq; exact List.mem_of_mem_take hq)
    have hN6 : (N : Int) ≤ 16 := by have := hN.out.1; omega
    have hN0 : (0 : Int) ≤ (N : Int) := by omega
    clear hP0 hsh0 hp0 hpc0
    obtain ⟨k1, hk1⟩ : ∃ k1 : Int, Hid ((if rightB h = true then (0 : Int) else 1) = k1) := ⟨_, Lib.hid rfl⟩
    go_upto_region 5 with (first
    | (((with_reducible change wpList _ _ _ ({ dst := some 26, op := _, type := _, pos := _, after := _, guard := _ } :: _) _ _); refine wpList_load_row (o := ⟨some 26, _, _, _, _, _⟩) rfl 25 (.tmp 2) rfl (w.heap.size) rfl 25 ((headCells h).toArray) (0, 0) _ H0.out Tryd.underlying25 rfl hz1.out ?_))
    | (go_at_call 21; refine (encHead_s h ok'.out wc).mono ?_; rw [hk1.out]; rintro e w1 ⟨v1, rfl, hb1⟩; have H1 : Hid (Blk w1 w.heap.size 25 (headCells h).toArray) := (hb1.block _ H0.out.lt).trans H0.out; have bb1 : Hid (Below w.heap.size w w1) := hb0.out.trans (hb1.mono hb0.out.size); clear hb1 H0 hb0)
    | (go_at_call 18; refine (newRing_any ks N hN.out.2 (by omega) Ap cp w1 (hBs.out w1 bb1.out) (hPs.out w1 bb1.out) hshk.out).mono ?_; intro e w2 hNO; obtain ⟨v7, k2, rfl, hb2, hk2, hbad, hgood⟩ := hNO; have H2 : Hid (Blk w2 w.heap.size 25 (headCells h).toArray) := (hb2.block _ H1.out.lt).trans H1.out; have bb2 : Hid (Below w.heap.size w w2) := bb1.out.trans (hb2.mono bb1.out.size); replace hk2 := Lib.hid hk2; replace hbad := Lib.hid hbad; replace hgood := Lib.hid hgood; clear hb2 H1 bb1))

    by_cases hk10 : ¬ (k1 = 0)
    · go_wp2_with fail
      go_ret
      exact ⟨rfl, bb2.out⟩
    have hk1e : k1 = 0 := Decidable.not_not.1 hk10
    subst hk1e
    clear hk10
    by_cases hk20 : ¬ (k2 = 0)
    · have x2 : (k2 != 0) = true := by simpa using hk20
      go_wp2_with fail
      go_ret
      exact ⟨rfl, bb2.out⟩
    have hk2e : k2 = 0 := Decidable.not_not.1 hk20
    subst hk2e
    clear hk20 hbad
    have hrt : Hid (rightB h = true) := by
      show _ = _
      have e := hk1.out
      by_cases c : rightB h = true
      · exact c
      · rw [if_neg c] at e; cases e
    have hkr := Lib.hid (ring_bounds hk2.out rfl)
    obtain ⟨l, e7, hRA, hpm, hst⟩ := hgood.out rfl
    subst e7
    replace hRA := Lib.hid hRA
    replace hpm := Lib.hid hpm
    replace hst := Lib.hid hst
    clear hgood hk1 hk2
    go_upto_region 8 with (first
    | (((with_reducible change wpList _ _ _ ({ dst := some 51, op := _, type := _, pos := _, after := _, guard := _ } :: _) _ _); refine wpList_load_row (o := ⟨some 51, _, _, _, _, _⟩) rfl 25 (.tmp 2) rfl (w.heap.size) rfl 25 ((headCells h).toArray) (0, 0) _ H2.out Tryd.underlying25 rfl hz1.out ?_))
    | ((with_reducible change wpList _ _ _ ({ dst := some 52, op := _, type := _, pos := _, after := _, guard := _ } :: _) _ _); refine wpList_buildF (o := ⟨some 52, _, _, _, _, _⟩) rfl 28 #[(0, .tmp 51)] rfl #[(0, .agg (headCells h).toArray)] (by simp; rfl) _ (hb0n.out w2) ?_)
    | ((with_reducible change wpList _ _ _ ({ dst := none, op := Op.store 28 (.tmp 9) (.tmp 52), type := _, pos := _, after := _, guard := _ } :: _) _ _); refine wpList_store_all (o := ⟨none, _, _, _, _, _⟩) rfl 28 (.tmp 9) (.tmp 52) rfl w2.heap.size (noteCells h (.slice none 0 0)).toArray rfl rfl 28 Z99 (Blk.new w2 _ _) (zN.out _) (s0N.out _) (oN.out _ _ _) ?_; intro w3 hB3 hk3; have hbn := below_new hk3; have bb3 : Hid (Below w.heap.size w w3) := bb2.out.trans (hbn.mono bb2.out.size); have H3 : Hid (Blk w3 w.heap.size 25 (headCells h).toArray) := (hbn.block _ H2.out.lt).trans H2.out; have b3 : Hid (Below w2.heap.size w2 w3) := hbn; obtain ⟨g9, hg9⟩ : ∃ g9, Hid (w2.heap.size = g9) := ⟨_, Lib.hid rfl⟩; rw [hg9.out] at hB3 ⊢; have N3 : Hid (NoteAt w3 g9 h none 0 0 []) := ⟨hB3.out, Sgs.nil_ _ _⟩; clear hk3 hbn hB3))

    have hg2 : Hid (w2.heap.size = g9) := hg9
    go_wp2_with fail
    go_loopw [10] (fun v10 wr => ∃ (i c2 : Nat) (A2 : Option Addr) (S : List Text), v10 = .int .i64 (i : Int) ∧ Hid (i ≤ N) ∧ Hid (SD h ks i S) ∧ Hid (A2 = none → i = 0 ∧ c2 = 0) ∧ Hid (NoteAt wr g9 h A2 i c2 S) ∧ Hid (Below w2.heap.size w2 wr)) (fun v _ => N - (intOf v).toNat)
    case atStart => exact ⟨0, 0, none, [], rfl, Nat.zero_le _, SD.nil _ _, fun _ => ⟨rfl, rfl⟩, N3.out, b3.out⟩
    case round =>
      clear N3 b3
      obtain ⟨i, c2, A2, S, rfl, hiN, hSD, hn0, Nr, hbe⟩ := hrel
      have hi6 : (i : Int) ≤ 16 := by have := hiN.out; have := hN.out.1; omega
      have hz0 : (0 : Int) ≤ (i : Int) := by omega
      have bbr : Hid (Below w.heap.size w wr) := bb2.out.trans (hbe.out.mono bb2.out.size)
      by_cases hlt : i < N
      · have hz : (i : Int) < (N : Int) := by omega
        have hlt' := Lib.hid hlt
        obtain ⟨q, hq⟩ : ∃ q, Hid (ks[i]? = some q) := ⟨_, List.getElem?_eq_getElem (by rw [hN.out.2]; exact hlt)⟩
        obtain ⟨b, o, Ak, ck, hAp, hcq, hkc, hRq, hkn⟩ := piece_at hPs.out hq.out
        subst hAp
        have hql : Hid (q.length < 140737488355228) := hshk.out q (List.mem_of_getElem? hq.out)
        obtain ⟨k, hk⟩ : ∃ k, Hid (q.length = k) := ⟨_, Lib.hid rfl⟩
        rw [hk.out] at hql hRq hcq hkc hkn
        replace hRq := Lib.hid hRq
        replace hcq := Lib.hid hcq
        replace hkc := Lib.hid hkc
        replace hkn := Lib.hid hkn
        obtain ⟨r, ha1, hd1, ha2⟩ := hSD.out.step hrt.out hkr.out.2.1 hkr.out.2.2 hq.out (by rw [hN.out.2]; exact hN.out.1)
        replace ha1 := Lib.hid ha1
        replace hd1 := Lib.hid hd1
        replace ha2 := Lib.hid ha2
        have hrl : Hid (r.length = i + 1) := hd1.out.len (by rw [hN.out.2]; exact hlt)
        clear hlt
        go_upto_region 11 with fail
        go_cut [11, 12] from 59 to 68 (fun v u wx => ∃ (mb B0 : Nat) (A0 : Option Addr) (c0 : Nat), v = .pointer (some ⟨mb, 0, none⟩) ∧ u = .int .i64 0 ∧ Hid (Blk wx mb 28 (noteCells h (.slice A0 (i + 1) c0)).toArray) ∧ Hid (OwnS wx B0 (.slice A0 (i + 1) c0) (i + 1) r) ∧ Hid (Below wr.heap.size wr wx))
        case first =>
          have s0 : Hid (Below wr.heap.size wr wr.drew) := (Below.refl _ _).drew
          refine held_start (fun w' => Below wr.heap.size wr w') 12 rfl (by kernel_rfl) ?_
          refine held_take (i := 0) (v := .agg ((noteCells h (.slice A2 i c2)).toArray)) rfl (by kernel_rfl) (by kernel_rfl) (by kernel_rfl) (fun _ _ _ h => h) s0.out (by rfl) (fun w' hw' => exec_row 28 (.tmp 9) rfl (g9) rfl 28 ((noteCells h (.slice A2 i c2)).toArray) (0, 0) _ ((Nr.out.below hw').blk) Tryd.underlying28 rfl (zN.out _)) ?_
          (intro K hK; go_simp; refine hK _ ?_; clear hK K)
          refine held_take (i := 1) (v := .slice (some ⟨b, o, none⟩) N cp) rfl (by kernel_rfl) (by kernel_rfl) (by kernel_rfl) (fun _ _ _ h => h) s0.out (by rfl) (fun w' hw' => run_mv (.tmp 1) rfl w') ?_
          (intro K hK; go_simp; refine hK _ ?_; clear hK K)
          refine held_take (i := 2) (v := .int .i64 (i : Int)) rfl (by kernel_rfl) (by kernel_rfl) (by kernel_rfl) (fun _ _ _ h => h) s0.out (by rfl) (fun w' hw' => run_mv (.tmp 10) rfl w') ?_
          (intro K hK; go_simp; refine hK _ ?_; clear hK K)
          refine held_take (i := 3) (v := .pointer (some ⟨b, o + i, none⟩)) rfl (by kernel_rfl) (by kernel_rfl) (by kernel_rfl) (fun _ _ _ h => h) s0.out (by rfl) (fun w' hw' => by go_simp) ?_
          (intro K hK; go_simp; refine hK _ ?_; clear hK K)
          refine held_take (i := 4) (v := .slice Ak k ck) rfl (by kernel_rfl) (by kernel_rfl) (by kernel_rfl) (fun _ _ _ h => h) s0.out (by rfl) (fun w' hw' => by have kc' := hcq.out w' (bbr.out.trans ((hw').mono bbr.out.size)); go_simp) ?_
          (intro K hK; go_simp; refine hK _ ?_; clear hK K)
          refine held_two (i := 5) (j := 9) rfl rfl (by kernel_rfl) (by rfl) (by rfl) (fun K hK => ?_) (fun K hK => ?_)
          · refine wp_fn (R := fun v w'' => ∃ (B0 : Nat) (A0 : Option Addr) (c0 : Nat), v = .tuple #[.agg (noteCells h (.slice A0 (i + 1) c0)).toArray, .int .i64 0] ∧ OwnS w'' B0 (.slice A0 (i + 1) c0) (i + 1) r ∧ Below wr.heap.size wr w'' ∧ Below (wr.drew).heap.size (wr.drew) w'') (args := #[.agg (noteCells h (.slice A2 i c2)).toArray, .slice Ak k ck]) _ _ rfl rfl Tryd.func9 (by kernel_rfl) (by kernel_rfl) ((add_any h ok'.out S (i) (by have := hlt'.out; have := hN.out.1; omega) A2 c2 hn0.out q k hk.out Ak ck hkc.out hkn.out (wr.drew) (hBs.out _ (bbr.out.trans ((s0.out).mono bbr.out.size))) (Nr.out.below (s0.out)).sgs (hRq.out _ (bbr.out.trans ((s0.out).mono bbr.out.size)))).mono fun e w'' ho => by obtain ⟨A0, c0, he, hb, hT⟩ := out_note (H := h) (r := r) ha1.out rfl rfl hrl.out ho; exact ⟨_, he, _, A0, c0, rfl, hT, s0.out.trans (hb.mono s0.out.size), hb⟩) ?_
            rintro qq w5 ⟨B0, A0, c0, rfl, hT, h5, kk1⟩
            replace h5 := Lib.hid h5
            replace kk1 := Lib.hid kk1
            replace hT := Lib.hid hT
            have FN1 := Lib.hid (FN.out A0 (i + 1) c0)
            clear kk1
            go_simp
            refine hK _ _ h5.out ?_
            clear hK K
            refine held_take (i := 6) (v := .tuple #[.agg (noteCells h (.slice A0 (i + 1) c0)).toArray, .int .i64 0]) rfl (by kernel_rfl) (by kernel_rfl) (by kernel_rfl) (fun _ _ _ h => h) h5.out (by rfl) (fun w' hw' => run_mv (.tmp 65) rfl w') ?_
            (intro K hK; go_simp; refine hK _ ?_; clear hK K)
            refine held_take (i := 7) (v := .agg (noteCells h (.slice A0 (i + 1) c0)).toArray) rfl (by kernel_rfl) (by kernel_rfl) (by kernel_rfl) (fun _ _ _ h => h) h5.out (by rfl) (fun w' hw' => by go_simp) ?_
            (intro K hK; go_simp; refine hK _ ?_; clear hK K)
            refine held_take (i := 8) (v := .int .i64 0) rfl (by kernel_rfl) (by kernel_rfl) (by kernel_rfl) (fun _ _ _ h => h) h5.out (by rfl) (fun w' hw' => by go_simp) ?_
            (intro K hK; go_simp; refine hK _ ?_; clear hK K)
            refine held_only (i := 9) rfl (by kernel_rfl) (by rfl) (fun K hK => ?_)
            have h6 := Lib.hid (h5.out.alloc h5.out.size (.cells Z99 28))
            have bb : Hid (Blk (w5.alloc (.cells Z99 28)) w5.heap.size 28 Z99) := Blk.new _ _ _
            replace hT := Lib.hid (hT.out.below (Below.heap_below _ (.cells Z99 28)))
            go_simp
            refine hK _ _ h6.out ?_
            clear hK K
            refine held_only (i := 10) rfl (by kernel_rfl) (by rfl) (fun K hK => ?_)
            refine wp_store_whole 28 (.tmp 11) (.tmp 66) rfl (w5.heap.size) ((noteCells h (.slice A0 (i + 1) c0)).toArray) rfl rfl 28 (Z99) (bb.out) FN1.out.size FN1.out.zero FN1.out.one ?_
            intro w99 B9 k9
            have b9 : Hid (Below wr.heap.size wr w99) := h6.out.trans (Kept.below_of k9 (h5.out.size) h6.out.size)
            replace hT := Lib.hid (hT.out.keptN bb.out k9)
            go_simp
            refine hK _ _ b9.out ?_
            clear hK K
            refine held_take (i := 11) (v := .int .i64 0) rfl (by kernel_rfl) (by kernel_rfl) (by kernel_rfl) (fun _ _ _ h => h) b9.out (by rfl) (fun w' hw' => by first | go_simp | rfl) ?_
            (intro K hK; go_simp; refine hK _ ?_; clear hK K)
            refine held_end (by kernel_rfl) ?_
            go_wp2_with fail
            go_meet
            case rel => exact ⟨_, _, _, _, rfl, rfl, B9, hT.out, b9.out⟩
          · have h5 := Lib.hid (s0.out.alloc s0.out.size (.cells Z99 28))
            have bb : Hid (Blk (wr.drew.alloc (.cells Z99 28)) wr.heap.size 28 Z99) := Blk.new _ _ _
            go_simp
            refine hK _ _ h5.out ?_
            clear hK K
            refine held_only (i := 5) rfl (by kernel_rfl) (by rfl) (fun K hK => ?_)
            refine wp_fn (R := fun v w'' => ∃ (B0 : Nat) (A0 : Option Addr) (c0 : Nat), v = .tuple #[.agg (noteCells h (.slice A0 (i + 1) c0)).toArray, .int .i64 0] ∧ OwnS w'' B0 (.slice A0 (i + 1) c0) (i + 1) r ∧ Below wr.heap.size wr w'' ∧ Below ((wr.drew.alloc (.cells Z99 28))).heap.size ((wr.drew.alloc (.cells Z99 28))) w'') (args := #[.agg (noteCells h (.slice A2 i c2)).toArray, .slice Ak k ck]) _ _ rfl rfl Tryd.func9 (by kernel_rfl) (by kernel_rfl) ((add_any h ok'.out S (i) (by have := hlt'.out; have := hN.out.1; omega) A2 c2 hn0.out q k hk.out Ak ck hkc.out hkn.out ((wr.drew.alloc (.cells Z99 28))) (hBs.out _ (bbr.out.trans ((h5.out).mono bbr.out.size))) (Nr.out.below (h5.out)).sgs (hRq.out _ (bbr.out.trans ((h5.out).mono bbr.out.size)))).mono fun e w'' ho => by obtain ⟨A0, c0, he, hb, hT⟩ := out_note (H := h) (r := r) ha1.out rfl rfl hrl.out ho; exact ⟨_, he, _, A0, c0, rfl, hT, h5.out.trans (hb.mono h5.out.size), hb⟩) ?_
            rintro qq w6 ⟨B0, A0, c0, rfl, hT, h6, kk1⟩
            replace h6 := Lib.hid h6
            replace kk1 := Lib.hid kk1
            replace hT := Lib.hid hT
            have FN1 := Lib.hid (FN.out A0 (i + 1) c0)
            replace bb := Lib.hid ((kk1.out.block _ (Blk.lt bb.out)).trans bb.out)
            clear kk1
            go_simp
            refine hK _ _ h6.out ?_
            clear hK K
            refine held_take (i := 6) (v := .tuple #[.agg (noteCells h (.slice A0 (i + 1) c0)).toArray, .int .i64 0]) rfl (by kernel_rfl) (by kernel_rfl) (by kernel_rfl) (fun _ _ _ h => h) h6.out (by rfl) (fun w' hw' => run_mv (.tmp 65) rfl w') ?_
            (intro K hK; go_simp; refine hK _ ?_; clear hK K)
            refine held_take (i := 7) (v := .agg (noteCells h (.slice A0 (i + 1) c0)).toArray) rfl (by kernel_rfl) (by kernel_rfl) (by kernel_rfl) (fun _ _ _ h => h) h6.out (by rfl) (fun w' hw' => by go_simp) ?_
            (intro K hK; go_simp; refine hK _ ?_; clear hK K)
            refine held_take (i := 8) (v := .int .i64 0) rfl (by kernel_rfl) (by kernel_rfl) (by kernel_rfl) (fun _ _ _ h => h) h6.out (by rfl) (fun w' hw' => by go_simp) ?_
            (intro K hK; go_simp; refine hK _ ?_; clear hK K)
            refine held_only (i := 10) rfl (by kernel_rfl) (by rfl) (fun K hK => ?_)
            refine wp_store_whole 28 (.tmp 11) (.tmp 66) rfl (wr.heap.size) ((noteCells h (.slice A0 (i + 1) c0)).toArray) rfl rfl 28 (Z99) (bb.out) FN1.out.size FN1.out.zero FN1.out.one ?_
            intro w99 B9 k9
            have b9 : Hid (Below wr.heap.size wr w99) := h6.out.trans (Kept.below_of k9 (s0.out.size) h6.out.size)
            replace hT := Lib.hid (hT.out.keptN bb.out k9)
            go_simp
            refine hK _ _ b9.out ?_
            clear hK K
            refine held_take (i := 11) (v := .int .i64 0) rfl (by kernel_rfl) (by kernel_rfl) (by kernel_rfl) (fun _ _ _ h => h) b9.out (by rfl) (fun w' hw' => by first | go_simp | rfl) ?_
            (intro K hK; go_simp; refine hK _ ?_; clear hK K)
            refine held_end (by kernel_rfl) ?_
            go_wp2_with fail
            go_meet
            case rel => exact ⟨_, _, _, _, rfl, rfl, B9, hT.out, b9.out⟩
        case rest =>
          obtain ⟨mb, B0, A0, c0, rfl, rfl, hB6, hO6, hb6⟩ := hcut
          obtain ⟨wq, rfl⟩ : ∃ wq, wq = wc := ⟨_, rfl⟩
          have Nq := Lib.hid (Nr.out.below hb6.out)
          have Mq : Hid (NoteAt wq mb h A0 (i + 1) c0 r) := ⟨hB6.out, (own_sgs hO6.out).1⟩
          have hnq := Lib.hid (own_sgs hO6.out).2
          have bbq : Hid (Below w.heap.size w wq) := bbr.out.trans (hb6.out.mono bbr.out.size)
          have beq : Hid (Below w2.heap.size w2 wq) := hbe.out.trans (hb6.out.mono hbe.out.size)
          clear hB6 hb6 Nr hbe bbr
          go_upto_region 12 with fail
          go_cut [13, 14] from 68 to 77 (fun v u wx => ∃ (mb B0 : Nat) (A0 : Option Addr) (c0 : Nat), v = .pointer (some ⟨mb, 0, none⟩) ∧ u = .int .i64 0 ∧ Hid (Blk wx mb 28 (noteCells h (.slice A0 (i + 1) c0)).toArray) ∧ Hid (OwnS wx B0 (.slice A0 (i + 1) c0) (i + 1) r) ∧ Hid (Below wq.heap.size wq wx))
          case first =>
            have s0 : Hid (Below wq.heap.size wq wq.drew) := (Below.refl _ _).drew
            refine held_start (fun w' => Below wq.heap.size wq w') 12 rfl (by kernel_rfl) ?_
            refine held_take (i := 0) (v := .agg ((noteCells h (.slice A0 (i + 1) c0)).toArray)) rfl (by kernel_rfl) (by kernel_rfl) (by kernel_rfl) (fun _ _ _ h => h) s0.out (by rfl) (fun w' hw' => exec_row 28 (.tmp 11) rfl (mb) rfl 28 ((noteCells h (.slice A0 (i + 1) c0)).toArray) (0, 0) _ ((Mq.out.below hw').blk) Tryd.underlying28 rfl (zN.out _)) ?_
            (intro K hK; go_simp; refine hK _ ?_; clear hK K)
            refine held_take (i := 1) (v := .slice (some ⟨b, o, none⟩) N cp) rfl (by kernel_rfl) (by kernel_rfl) (by kernel_rfl) (fun _ _ _ h => h) s0.out (by rfl) (fun w' hw' => run_mv (.tmp 1) rfl w') ?_
            (intro K hK; go_simp; refine hK _ ?_; clear hK K)
            refine held_take (i := 2) (v := .int .i64 (i : Int)) rfl (by kernel_rfl) (by kernel_rfl) (by kernel_rfl) (fun _ _ _ h => h) s0.out (by rfl) (fun w' hw' => run_mv (.tmp 10) rfl w') ?_
            (intro K hK; go_simp; refine hK _ ?_; clear hK K)
            refine held_take (i := 3) (v := .pointer (some ⟨b, o + i, none⟩)) rfl (by kernel_rfl) (by kernel_rfl) (by kernel_rfl) (fun _ _ _ h => h) s0.out (by rfl) (fun w' hw' => by go_simp) ?_
            (intro K hK; go_simp; refine hK _ ?_; clear hK K)
            refine held_take (i := 4) (v := .slice Ak k ck) rfl (by kernel_rfl) (by kernel_rfl) (by kernel_rfl) (fun _ _ _ h => h) s0.out (by rfl) (fun w' hw' => by have kc' := hcq.out w' (bbq.out.trans ((hw').mono bbq.out.size)); go_simp) ?_
            (intro K hK; go_simp; refine hK _ ?_; clear hK K)
            refine held_two (i := 5) (j := 9) rfl rfl (by kernel_rfl) (by rfl) (by rfl) (fun K hK => ?_) (fun K hK => ?_)
            · refine wp_fn (R := fun v w'' => ∃ (B0 : Nat) (A0 : Option Addr) (c0 : Nat), v = .tuple #[.agg (noteCells h (.slice A0 (i + 1) c0)).toArray, .int .i64 0] ∧ OwnS w'' B0 (.slice A0 (i + 1) c0) (i + 1) r ∧ Below wq.heap.size wq w'' ∧ Below (wq.drew).heap.size (wq.drew) w'') (args := #[.agg (noteCells h (.slice A0 (i + 1) c0)).toArray, .slice Ak k ck]) _ _ rfl rfl Tryd.func9 (by kernel_rfl) (by kernel_rfl) ((add_any h ok'.out r (i + 1) (by have := hlt'.out; have := hN.out.1; omega) A0 c0 hnq.out q k hk.out Ak ck hkc.out hkn.out (wq.drew) (hBs.out _ (bbq.out.trans ((s0.out).mono bbq.out.size))) (Mq.out.below (s0.out)).sgs (hRq.out _ (bbq.out.trans ((s0.out).mono bbq.out.size)))).mono fun e w'' ho => by obtain ⟨A0, c0, he, hb, hT⟩ := out_note (H := h) (r := r) ha2.out rfl rfl hrl.out ho; exact ⟨_, he, _, A0, c0, rfl, hT, s0.out.trans (hb.mono s0.out.size), hb⟩) ?_
              rintro qq w5 ⟨B0, A0, c0, rfl, hT, h5, kk1⟩
              replace h5 := Lib.hid h5
              replace kk1 := Lib.hid kk1
              replace hT := Lib.hid hT
              have FN1 := Lib.hid (FN.out A0 (i + 1) c0)
              clear kk1
              go_simp
              refine hK _ _ h5.out ?_
              clear hK K
              refine held_take (i := 6) (v := .tuple #[.agg (noteCells h (.slice A0 (i + 1) c0)).toArray, .int .i64 0]) rfl (by kernel_rfl) (by kernel_rfl) (by kernel_rfl) (fun _ _ _ h => h) h5.out (by rfl) (fun w' hw' => run_mv (.tmp 74) rfl w') ?_
              (intro K hK; go_simp; refine hK _ ?_; clear hK K)
              refine held_take (i := 7) (v := .agg (noteCells h (.slice A0 (i + 1) c0)).toArray) rfl (by kernel_rfl) (by kernel_rfl) (by kernel_rfl) (fun _ _ _ h => h) h5.out (by rfl) (fun w' hw' => by go_simp) ?_
              (intro K hK; go_simp; refine hK _ ?_; clear hK K)
              refine held_take (i := 8) (v := .int .i64 0) rfl (by kernel_rfl) (by kernel_rfl) (by kernel_rfl) (fun _ _ _ h => h) h5.out (by rfl) (fun w' hw' => by go_simp) ?_
              (intro K hK; go_simp; refine hK _ ?_; clear hK K)
              refine held_only (i := 9) rfl (by kernel_rfl) (by rfl) (fun K hK => ?_)
              have h6 := Lib.hid (h5.out.alloc h5.out.size (.cells Z99 28))
              have bb : Hid (Blk (w5.alloc (.cells Z99 28)) w5.heap.size 28 Z99) := Blk.new _ _ _
              replace hT := Lib.hid (hT.out.below (Below.heap_below _ (.cells Z99 28)))
              go_simp
              refine hK _ _ h6.out ?_
              clear hK K
              refine held_only (i := 10) rfl (by kernel_rfl) (by rfl) (fun K hK => ?_)
              refine wp_store_whole 28 (.tmp 13) (.tmp 75) rfl (w5.heap.size) ((noteCells h (.slice A0 (i + 1) c0)).toArray) rfl rfl 28 (Z99) (bb.out) FN1.out.size FN1.out.zero FN1.out.one ?_
              intro w99 B9 k9
              have b9 : Hid (Below wq.heap.size wq w99) := h6.out.trans (Kept.below_of k9 (h5.out.size) h6.out.size)
              replace hT := Lib.hid (hT.out.keptN bb.out k9)
              go_simp
              refine hK _ _ b9.out ?_
              clear hK K
              refine held_take (i := 11) (v := .int .i64 0) rfl (by kernel_rfl) (by kernel_rfl) (by kernel_rfl) (fun _ _ _ h => h) b9.out (by rfl) (fun w' hw' => by first | go_simp | rfl) ?_
              (intro K hK; go_simp; refine hK _ ?_; clear hK K)
              refine held_end (by kernel_rfl) ?_
              go_wp2_with fail
              go_meet
              case rel => exact ⟨_, _, _, _, rfl, rfl, B9, hT.out, b9.out⟩
            · have h5 := Lib.hid (s0.out.alloc s0.out.size (.cells Z99 28))
              have bb : Hid (Blk (wq.drew.alloc (.cells Z99 28)) wq.heap.size 28 Z99) := Blk.new _ _ _
              go_simp
              refine hK _ _ h5.out ?_
              clear hK K
              refine held_only (i := 5) rfl (by kernel_rfl) (by rfl) (fun K hK => ?_)
              refine wp_fn (R := fun v w'' => ∃ (B0 : Nat) (A0 : Option Addr) (c0 : Nat), v = .tuple #[.agg (noteCells h (.slice A0 (i + 1) c0)).toArray, .int .i64 0] ∧ OwnS w'' B0 (.slice A0 (i + 1) c0) (i + 1) r ∧ Below wq.heap.size wq w'' ∧ Below ((wq.drew.alloc (.cells Z99 28))).heap.size ((wq.drew.alloc (.cells Z99 28))) w'') (args := #[.agg (noteCells h (.slice A0 (i + 1) c0)).toArray, .slice Ak k ck]) _ _ rfl rfl Tryd.func9 (by kernel_rfl) (by kernel_rfl) ((add_any h ok'.out r (i + 1) (by have := hlt'.out; have := hN.out.1; omega) A0 c0 hnq.out q k hk.out Ak ck hkc.out hkn.out ((wq.drew.alloc (.cells Z99 28))) (hBs.out _ (bbq.out.trans ((h5.out).mono bbq.out.size))) (Mq.out.below (h5.out)).sgs (hRq.out _ (bbq.out.trans ((h5.out).mono bbq.out.size)))).mono fun e w'' ho => by obtain ⟨A0, c0, he, hb, hT⟩ := out_note (H := h) (r := r) ha2.out rfl rfl hrl.out ho; exact ⟨_, he, _, A0, c0, rfl, hT, h5.out.trans (hb.mono h5.out.size), hb⟩) ?_
              rintro qq w6 ⟨B0, A0, c0, rfl, hT, h6, kk1⟩
              replace h6 := Lib.hid h6
              replace kk1 := Lib.hid kk1
              replace hT := Lib.hid hT
              have FN1 := Lib.hid (FN.out A0 (i + 1) c0)
              replace bb := Lib.hid ((kk1.out.block _ (Blk.lt bb.out)).trans bb.out)
              clear kk1
              go_simp
              refine hK _ _ h6.out ?_
              clear hK K
              refine held_take (i := 6) (v := .tuple #[.agg (noteCells h (.slice A0 (i + 1) c0)).toArray, .int .i64 0]) rfl (by kernel_rfl) (by kernel_rfl) (by kernel_rfl) (fun _ _ _ h => h) h6.out (by rfl) (fun w' hw' => run_mv (.tmp 74) rfl w') ?_
              (intro K hK; go_simp; refine hK _ ?_; clear hK K)
              refine held_take (i := 7) (v := .agg (noteCells h (.slice A0 (i + 1) c0)).toArray) rfl (by kernel_rfl) (by kernel_rfl) (by kernel_rfl) (fun _ _ _ h => h) h6.out (by rfl) (fun w' hw' => by go_simp) ?_
              (intro K hK; go_simp; refine hK _ ?_; clear hK K)
              refine held_take (i := 8) (v := .int .i64 0) rfl (by kernel_rfl) (by kernel_rfl) (by kernel_rfl) (fun _ _ _ h => h) h6.out (by rfl) (fun w' hw' => by go_simp) ?_
              (intro K hK; go_simp; refine hK _ ?_; clear hK K)
              refine held_only (i := 10) rfl (by kernel_rfl) (by rfl) (fun K hK => ?_)
              refine wp_store_whole 28 (.tmp 13) (.tmp 75) rfl (wq.heap.size) ((noteCells h (.slice A0 (i + 1) c0)).toArray) rfl rfl 28 (Z99) (bb.out) FN1.out.size FN1.out.zero FN1.out.one ?_
              intro w99 B9 k9
              have b9 : Hid (Below wq.heap.size wq w99) := h6.out.trans (Kept.below_of k9 (s0.out.size) h6.out.size)
              replace hT := Lib.hid (hT.out.keptN bb.out k9)
              go_simp
              refine hK _ _ b9.out ?_
              clear hK K
              refine held_take (i := 11) (v := .int .i64 0) rfl (by kernel_rfl) (by kernel_rfl) (by kernel_rfl) (fun _ _ _ h => h) b9.out (by rfl) (fun w' hw' => by first | go_simp | rfl) ?_
              (intro K hK; go_simp; refine hK _ ?_; clear hK K)
              refine held_end (by kernel_rfl) ?_
              go_wp2_with fail
              go_meet
              case rel => exact ⟨_, _, _, _, rfl, rfl, B9, hT.out, b9.out⟩
          case rest =>
            obtain ⟨m2, B2, A1, c1, rfl, rfl, hB8, hO8, hb8⟩ := hcut
            obtain ⟨wt, rfl⟩ : ∃ wt, wt = wc := ⟨_, rfl⟩
            have Nt := Lib.hid (Nq.out.below hb8.out)
            have Mt := Lib.hid (Mq.out.below hb8.out)
            have Ot := Lib.hid (hO6.out.below hb8.out)
            have Pt : Hid (NoteAt wt m2 h A1 (i + 1) c1 r) := ⟨hB8.out, (own_sgs hO8.out).1⟩
            have bet : Hid (Below w2.heap.size w2 wt) := beq.out.trans (hb8.out.mono beq.out.size)
            clear hB8 hO8 hb8 Nq Mq hO6 bbq beq
            go_wp2_with (first
    | ((with_reducible change wpList _ _ _ ({ dst := some 84, op := _, type := _, pos := _, after := _, guard := _ } :: _) _ _); (with_reducible refine Veil.out ?_); refine wpList_rowW (o := ⟨some 84, _, _, _, _, _⟩) rfl 28 (.tmp 11) rfl (mb) rfl 28 ((noteCells h (.slice A0 (i + 1) c0)).toArray) (0, 0) _ Mt.out.blk Tryd.underlying28 rfl (zN.out _) ?_)
    | ((with_reducible change wpList _ _ _ ({ dst := some 85, op := _, type := _, pos := _, after := _, guard := _ } :: _) _ _); (with_reducible refine Veil.out ?_); refine wpList_rowW (o := ⟨some 85, _, _, _, _, _⟩) rfl 28 (.tmp 13) rfl (m2) rfl 28 ((noteCells h (.slice A1 (i + 1) c1)).toArray) (0, 0) _ Pt.out.blk Tryd.underlying28 rfl (zN.out _) ?_)
    | (go_at_call 11; refine (sameNotes_any h ok'.out r (i + 1) (by have := hlt'.out; have := hN.out.1; omega) A0 A1 c0 c1 wt Mt.out.sgs Pt.out.sgs).mono ?_; rintro e wy ⟨rfl, hb9⟩; have Ny := Lib.hid (Nt.out.below hb9); have My := Lib.hid (Mt.out.below hb9); have Oy := Lib.hid (Ot.out.below hb9); have bey : Hid (Below w2.heap.size w2 wy) := bet.out.trans (hb9.mono bet.out.size); have ry := My.out.row ok'.out; clear hb9 Nt Mt Ot Pt bet)
    | (((with_reducible change wpList _ _ _ ({ dst := some 97, op := _, type := _, pos := _, after := _, guard := _ } :: _) _ _); refine wpList_load_row (o := ⟨some 97, _, _, _, _, _⟩) rfl 28 (.tmp 11) rfl (mb) rfl 28 ((noteCells h (.slice A0 (i + 1) c0)).toArray) (0, 0) _ My.out.blk Tryd.underlying28 rfl (zN.out _) ?_))
    | ((with_reducible change wpList _ _ _ ({ dst := none, op := Op.store 28 (.tmp 9) (.tmp 97), type := _, pos := _, after := _, guard := _ } :: _) _ _); refine wpList_store_all (o := ⟨none, _, _, _, _, _⟩) rfl 28 (.tmp 9) (.tmp 97) rfl g9 (noteCells h (.slice A0 (i + 1) c0)).toArray rfl rfl 28 (noteCells h (.slice A2 i c2)).toArray Ny.out.blk (zN.out _) (sN.out _ _) (oN.out _ _ _) ?_; intro wz hBz hkz; have bez : Hid (Below w2.heap.size w2 wz) := bey.out.trans (Kept.below_of hkz (by rw [hg2.out]; exact Nat.le_refl _) bey.out.size); have Nz : Hid (NoteAt wz g9 h A0 (i + 1) c0 r) := ⟨hBz.out, (own_sgs (Oy.out.keptN Ny.out.blk hkz)).1⟩; clear hkz hBz ry))

            go_roundw
            case rel => exact ⟨i + 1, c0, A0, r, by go_num, hlt'.out, hd1.out, hnq.out, Nz.out, bez.out⟩
            case measure => (have := hlt'.out; simp [intOf]; omega)
      · have hz : ¬ ((i : Int) < (N : Int)) := by omega
        have hin : i = N := by have := hiN.out; omega
        subst hin
        clear hlt
        rw [← hN.out.2] at hSD
        have hkl : Hid (ks.length = i) := hN.out.2
        have hver := Lib.hid (hSD.out.ver hrt.out hkr.out.2.1 hkr.out.2.2 hkr.out.1 (by rw [hkl.out]; exact hN.out.1))
        rw [hkl.out] at hSD hver
        have hi1 : Hid (1 ≤ i) := by show _ ≤ _; rw [← hkl.out]; exact hkr.out.1
        have hSst : Hid (Strict kyS S) := hSD.out.strict
        have hll : Hid (l.length ≤ 64) := by show _ ≤ _; have h1 := hpm.out.length_eq; rw [List.length_map] at h1; rw [h1, hkl.out]; have := hN.out.1; omega
        have hlk : Hid (∀ x ∈ l, keyB x.q.length = true) := fun x hx => List.all_eq_true.1 hkr.out.2.1 x.q (hpm.out.mem_iff.1 (List.mem_map.2 ⟨x, hx, rfl⟩))
        have hRAr := Lib.hid (hRA.out.below hbe.out)
        obtain ⟨ids, hids⟩ : ∃ ids, Hid (S.map kyS = ids) := ⟨_, Lib.hid rfl⟩
        rw [hids.out] at hver
        have hidl : Hid (ids.length = i) := by show _ = _; rw [← hids.out, List.length_map]; exact Nr.out.sgs.len
        go_upto_region 17 with (first
    | (((with_reducible change wpList _ _ _ ({ dst := some 100, op := _, type := _, pos := _, after := _, guard := _ } :: _) _ _); refine wpList_load_row (o := ⟨some 100, _, _, _, _, _⟩) rfl 28 (.tmp 9) rfl (g9) rfl 28 ((noteCells h (.slice A2 i c2)).toArray) (0, 0) _ Nr.out.blk Tryd.underlying28 rfl (zN.out _) ?_))
    | (go_at_call 19; refine (verify_any ks l hpm.out hst.out hll.out hlk.out h ok'.out S i A2 c2 hn0.out (i : Int) w1.heap.size wr (hBs.out wr bbr.out) hRAr.out Nr.out.sgs).mono ?_; intro e w5 hV; obtain ⟨v15, rfl, hb5, hI⟩ := hV; rw [hver.out.1] at hI ⊢; obtain ⟨hid, hio⟩ := (show (∀ d ∈ ids, d.length = 32) ∧ w5.ownsRow wr.heap.size 23 32 v15 ids.length (ids.flatMap cells8) from hI); rw [hidl.out] at hio; obtain ⟨A15, c15, rfl, -, -, -, hri, -⟩ := Own.reads hio; have hI5 : Hid (RdD w5 A15 i ids) := ⟨hidl.out, hid, hri⟩; replace hb5 := Lib.hid hb5; clear hI hid hio hri))

        obtain ⟨bs, os, hA2⟩ : ∃ b o, A2 = some ⟨b, o, none⟩ := by obtain ⟨b, o, e, -⟩ := Nr.out.sgs.rd.2 (by have := hi1.out; omega); exact ⟨b, o, e⟩
        obtain ⟨bi, oi, hA15⟩ : ∃ b o, A15 = some ⟨b, o, none⟩ := by obtain ⟨b, o, e, -⟩ := hI5.out.2.2.2 (by have := hi1.out; omega); exact ⟨b, o, e⟩
        subst hA2 hA15
        have N5 := Lib.hid (Nr.out.below hb5.out)
        have be5 : Hid (Below w2.heap.size w2 w5) := hbe.out.trans (hb5.out.mono hbe.out.size)
        have hRA5 := Lib.hid (hRAr.out.below hb5.out)
        clear Nr hbe hb5 hRAr
        go_wp2_with fail
        go_loopw [16] (fun v wr => ∃ j : Nat, v = .int .i64 (j : Int) ∧ Hid (j ≤ i) ∧ Hid (Below w5.heap.size w5 wr)) (fun v _ => i - (intOf v).toNat)
        case atStart => exact ⟨0, rfl, Nat.zero_le _, Below.refl _ _⟩
        case round =>
          obtain ⟨j, rfl, hji, hbx⟩ := hrel
          have hj6 : (j : Int) ≤ 16 := by have := hji.out; have := hN.out.1; omega
          have hj0 : (0 : Int) ≤ (j : Int) := by omega
          obtain ⟨wx, rfl⟩ : ∃ wx, wx = wr := ⟨_, rfl⟩
          by_cases hjl : j < i
          · have hy : (j : Int) < (i : Int) := by omega
            have hjl' := Lib.hid hjl
            obtain ⟨s, hs⟩ : ∃ s, Hid (S[j]? = some s) := ⟨_, List.getElem?_eq_getElem (by rw [N5.out.sgs.len]; exact hjl)⟩
            obtain ⟨d, hd⟩ : ∃ d, Hid (kyS s = d) := ⟨_, Lib.hid rfl⟩
            have hdj : Hid (ids[j]? = some d) := by show _ = _; rw [← hids.out, List.getElem?_map, hs.out, ← hd.out]; rfl
            have hdl : Hid (d.length = 32) := hI5.out.2.1.at_ hdj.out
            have hfi : Hid (∀ w', Below wx.heap.size wx w' → ∀ (m : Nat) (u : Value), (cells8 d)[m]? = some u → w'.cell? ⟨bi, oi + j * 32 + m, none⟩ = some u) := fun w' hb' m u hu => by
              obtain ⟨b2, o2, e2, -, hc2⟩ := (hI5.out.below (hbx.out.trans (hb'.mono hbx.out.size))).at_ hdj.out
              injection e2 with e2
              injection e2 with e2 e3
              subst e2 e3
              exact hc2 m u hu
            have hfs : Hid (∀ w', Below wx.heap.size wx w' → ∀ (m : Nat) (u : Value), (cells8 d)[m]? = some u → w'.cell? ⟨bs, os + j * 64 + m, none⟩ = some u) := fun w' hb' m u hu => by
              obtain ⟨b2, o2, e2, -, hc2⟩ := (N5.out.sgs.below (hbx.out.trans (hb'.mono hbx.out.size))).at_ hs.out
              injection e2 with e2
              injection e2 with e2 e3
              subst e2 e3
              have := hc2 (0 + m) u (ky_cell (by rw [hd.out]; exact hu))
              rwa [Nat.zero_add] at this
            have hrow : Hid (∀ w', Below wx.heap.size wx w' → w'.cell? ⟨g9, 98, none⟩ = some (.slice (some ⟨bs, os, none⟩) i c2)) := fun w' hb' => (N5.out.below (hbx.out.trans (hb'.mono hbx.out.size))).row ok'.out
            have sD : Hid ((Tryd.prog.info? 23).map (·.size) = some (cells8 d).length) := by show _ = _; rw [cells8_len, hdl.out]; exact size32x
            have hcE : Hid (∀ w', (binOp .neq 23 (.agg (cells8 d).toArray) (.agg (cells8 d).toArray)).run Tryd.prog w' = .ok (.bool false) w') := fun w' => by rw [neq_dig _ _ hdl.out hdl.out]; simp
            clear hjl
            go_upto_region 22 with fail
            by_cases hjz : j = 0
            · have hjz0 := Lib.hid hjz
              clear hjz
              refine q_region (Class wx) (by kernel_rfl) (by kernel_rfl) (Class.mk_ ((Below.refl _ _).drew)) ?_
              refine q_move rfl (.tmp 15) rfl ?_
              (intro K hK; go_simp; refine hK _ ?_; clear hK K)
              refine q_val (v := .int .i64 (j : Int)) rfl (fun w' hw' => by go_simp) ?_
              (intro K hK; go_simp; refine hK _ ?_; clear hK K)
              refine q_val (v := .pointer (some ⟨bi, oi + j * 32, none⟩)) rfl (fun w' hw' => by go_simp) ?_
              (intro K hK; go_simp; refine hK _ ?_; clear hK K)
              refine q_part rfl 23 (.tmp 123) rfl bi ((oi + j * 32)) rfl (cells8 d) _ (fun w' hw' => hfi.out w' hw'.below) Tryd.underlying23 rfl sD.out ?_
              (intro K hK; go_simp; refine hK _ ?_; clear hK K)
              refine q_val (v := .pointer (some ⟨g9, 98, none⟩)) rfl (fun w' hw' => by go_simp) ?_
              (intro K hK; go_simp; refine hK _ ?_; clear hK K)
              refine q_val (v := .slice (some ⟨bs, os, none⟩) i c2) rfl (fun w' hw' => by have hc := hrow.out w' hw'.below; go_simp) ?_
              (intro K hK; go_simp; refine hK _ ?_; clear hK K)
              refine q_val (v := .int .i64 (j : Int)) rfl (fun w' hw' => by go_simp) ?_
              (intro K hK; go_simp; refine hK _ ?_; clear hK K)
              refine q_val (v := .pointer (some ⟨bs, os + j * 64, none⟩)) rfl (fun w' hw' => by go_simp) ?_
              (intro K hK; go_simp; refine hK _ ?_; clear hK K)
              refine q_val (v := .pointer (some ⟨bs, os + j * 64, none⟩)) rfl (fun w' hw' => by go_simp) ?_
              (intro K hK; go_simp; refine hK _ ?_; clear hK K)
              refine q_part rfl 23 (.tmp 129) rfl bs ((os + j * 64)) rfl (cells8 d) _ (fun w' hw' => hfs.out w' hw'.below) Tryd.underlying23 rfl sD.out ?_
              (intro K hK; go_simp; refine hK _ ?_; clear hK K)
              refine q_val (v := .bool false) rfl (fun w' hw' => run_cmp rfl rfl rfl qDS (hcE.out w')) ?_
              (intro K hK; go_simp; refine hK _ ?_; clear hK K)
              refine q_val (v := .bool false) rfl (fun w' hw' => by go_simp) ?_
              (intro K hK; go_simp; refine hK _ ?_; clear hK K)
              refine q_val (v := .int .i64 (j : Int)) rfl (fun w' hw' => by go_simp) ?_
              (intro K hK; go_simp; refine hK _ ?_; clear hK K)
              refine q_val (v := .bool false) rfl (fun w' hw' => by have hq : j = 0 := hjz0.out; go_simp) ?_
              (intro K hK; go_simp; refine hK _ ?_; clear hK K)
              refine q_val (v := .bool false) rfl (fun w' hw' => by go_simp) ?_
              (intro K hK; go_simp; refine hK _ ?_; clear hK K)
              refine q_skip rfl ?_
              (intro K hK; go_simp; refine hK _ ?_; clear hK K)
              refine q_skip rfl ?_
              (intro K hK; go_simp; refine hK _ ?_; clear hK K)
              refine q_skip rfl ?_
              (intro K hK; go_simp; refine hK _ ?_; clear hK K)
              refine q_skip rfl ?_
              (intro K hK; go_simp; refine hK _ ?_; clear hK K)
              refine q_skip rfl ?_
              (intro K hK; go_simp; refine hK _ ?_; clear hK K)
              refine q_skip rfl ?_
              (intro K hK; go_simp; refine hK _ ?_; clear hK K)
              refine q_skip rfl ?_
              (intro K hK; go_simp; refine hK _ ?_; clear hK K)
              refine q_skip rfl ?_
              (intro K hK; go_simp; refine hK _ ?_; clear hK K)
              refine q_skip rfl ?_
              (intro K hK; go_simp; refine hK _ ?_; clear hK K)
              refine q_skip rfl ?_
              (intro K hK; go_simp; refine hK _ ?_; clear hK K)
              refine q_skip rfl ?_
              (intro K hK; go_simp; refine hK _ ?_; clear hK K)
              refine q_val (v := .bool false) rfl (fun w' hw' => by go_simp) ?_
              (intro K hK; go_simp; refine hK _ ?_; clear hK K)
              refine q_val (v := .bool false) rfl (fun w' hw' => by go_simp) ?_
              (intro K hK; go_simp; refine hK _ ?_; clear hK K)
              refine q_nil ?_
              intro w7 hw7
              have hb7 : Hid (Below w5.heap.size w5 w7) := hbx.out.trans (hw7.below.mono hbx.out.size)
              clear hw7
              go_wp2_with fail
              go_roundw
              case rel => exact ⟨j + 1, by go_num, hjl'.out, hb7.out⟩
              case measure => (have := hjl'.out; simp [intOf]; omega)
            · have hjp0 : Hid (0 < j) := by show _ < _; omega
              obtain ⟨k, hk⟩ : ∃ k, Hid (j = k + 1) := ⟨j - 1, by show _ = _; omega⟩
              have z1 : IntKind.i64.wrap ((j : Int) - 1) = (k : Int) := by rw [IntWalk.i64_in _ (by omega)]; have := hk.out; omega
              have z2 : (k : Int) < (i : Int) := by have := hk.out; omega
              have z3 : (0 : Int) ≤ (k : Int) := by omega
              have z4 : IntKind.i64.wrap (k : Int) = (k : Int) := IntWalk.i64_in _ (by have := hk.out; omega)
              obtain ⟨s0, hs0⟩ : ∃ s, Hid (S[k]? = some s) := ⟨_, List.getElem?_eq_getElem (by rw [N5.out.sgs.len]; have := hjl'.out; have := hk.out; omega)⟩
              obtain ⟨d0, hd0⟩ : ∃ d, Hid (kyS s0 = d) := ⟨_, Lib.hid rfl⟩
              have hdk : Hid (ids[k]? = some d0) := by show _ = _; rw [← hids.out, List.getElem?_map, hs0.out, ← hd0.out]; rfl
              have hdl0 : Hid (d0.length = 32) := hI5.out.2.1.at_ hdk.out
              have hlx : Hid (lex d0 d = true) := by show _ = _; rw [← hd0.out, ← hd.out]; exact Bin.strict_at hSst.out (by have := hk.out; omega) hs0.out hs.out
              have hfk : Hid (∀ w', Below wx.heap.size wx w' → ∀ (m : Nat) (u : Value), (cells8 d0)[m]? = some u → w'.cell? ⟨bi, oi + k * 32 + m, none⟩ = some u) := fun w' hb' m u hu => by
                obtain ⟨b2, o2, e2, -, hc2⟩ := (hI5.out.below (hbx.out.trans (hb'.mono hbx.out.size))).at_ hdk.out
                injection e2 with e2
                injection e2 with e2 e3
                subst e2 e3
                exact hc2 m u hu
              have sD0 : Hid ((Tryd.prog.info? 23).map (·.size) = some (cells8 d0).length) := by show _ = _; rw [cells8_len, hdl0.out]; exact size32x
              clear hjz
              refine q_region (Class wx) (by kernel_rfl) (by kernel_rfl) (Class.mk_ ((Below.refl _ _).drew)) ?_
              refine q_move rfl (.tmp 15) rfl ?_
              (intro K hK; go_simp; refine hK _ ?_; clear hK K)
              refine q_val (v := .int .i64 (j : Int)) rfl (fun w' hw' => by go_simp) ?_
              (intro K hK; go_simp; refine hK _ ?_; clear hK K)
              refine q_val (v := .pointer (some ⟨bi, oi + j * 32, none⟩)) rfl (fun w' hw' => by go_simp) ?_
              (intro K hK; go_simp; refine hK _ ?_; clear hK K)
              refine q_part rfl 23 (.tmp 123) rfl bi ((oi + j * 32)) rfl (cells8 d) _ (fun w' hw' => hfi.out w' hw'.below) Tryd.underlying23 rfl sD.out ?_
              (intro K hK; go_simp; refine hK _ ?_; clear hK K)
              refine q_val (v := .pointer (some ⟨g9, 98, none⟩)) rfl (fun w' hw' => by go_simp) ?_
              (intro K hK; go_simp; refine hK _ ?_; clear hK K)
              refine q_val (v := .slice (some ⟨bs, os, none⟩) i c2) rfl (fun w' hw' => by have hc := hrow.out w' hw'.below; go_simp) ?_
              (intro K hK; go_simp; refine hK _ ?_; clear hK K)
              refine q_val (v := .int .i64 (j : Int)) rfl (fun w' hw' => by go_simp) ?_
              (intro K hK; go_simp; refine hK _ ?_; clear hK K)
              refine q_val (v := .pointer (some ⟨bs, os + j * 64, none⟩)) rfl (fun w' hw' => by go_simp) ?_
              (intro K hK; go_simp; refine hK _ ?_; clear hK K)
              refine q_val (v := .pointer (some ⟨bs, os + j * 64, none⟩)) rfl (fun w' hw' => by go_simp) ?_
              (intro K hK; go_simp; refine hK _ ?_; clear hK K)
              refine q_part rfl 23 (.tmp 129) rfl bs ((os + j * 64)) rfl (cells8 d) _ (fun w' hw' => hfs.out w' hw'.below) Tryd.underlying23 rfl sD.out ?_
              (intro K hK; go_simp; refine hK _ ?_; clear hK K)
              refine q_val (v := .bool false) rfl (fun w' hw' => run_cmp rfl rfl rfl qDS (hcE.out w')) ?_
              (intro K hK; go_simp; refine hK _ ?_; clear hK K)
              refine q_val (v := .bool false) rfl (fun w' hw' => by go_simp) ?_
              (intro K hK; go_simp; refine hK _ ?_; clear hK K)
              refine q_val (v := .int .i64 (j : Int)) rfl (fun w' hw' => by go_simp) ?_
              (intro K hK; go_simp; refine hK _ ?_; clear hK K)
              refine q_val (v := .bool true) rfl (fun w' hw' => by have hq : 0 < j := hjp0.out; go_simp) ?_
              (intro K hK; go_simp; refine hK _ ?_; clear hK K)
              refine q_val (v := .bool true) rfl (fun w' hw' => by go_simp) ?_
              (intro K hK; go_simp; refine hK _ ?_; clear hK K)
              refine q_move rfl (.tmp 15) rfl ?_
              (intro K hK; go_simp; refine hK _ ?_; clear hK K)
              refine q_val (v := .int .i64 (j : Int)) rfl (fun w' hw' => by go_simp) ?_
              (intro K hK; go_simp; refine hK _ ?_; clear hK K)
              refine q_val (v := .int .i64 (k : Int)) rfl (fun w' hw' => by go_simp) ?_
              (intro K hK; go_simp; refine hK _ ?_; clear hK K)
              refine q_val (v := .pointer (some ⟨bi, oi + k * 32, none⟩)) rfl (fun w' hw' => by go_simp) ?_
              (intro K hK; go_simp; refine hK _ ?_; clear hK K)
              refine q_part rfl 23 (.tmp 139) rfl bi ((oi + k * 32)) rfl (cells8 d0) _ (fun w' hw' => hfk.out w' hw'.below) Tryd.underlying23 rfl sD0.out ?_
              (intro K hK; go_simp; refine hK _ ?_; clear hK K)
              refine q_move rfl (.tmp 15) rfl ?_
              (intro K hK; go_simp; refine hK _ ?_; clear hK K)
              refine q_val (v := .int .i64 (j : Int)) rfl (fun w' hw' => by go_simp) ?_
              (intro K hK; go_simp; refine hK _ ?_; clear hK K)
              refine q_val (v := .pointer (some ⟨bi, oi + j * 32, none⟩)) rfl (fun w' hw' => by go_simp) ?_
              (intro K hK; go_simp; refine hK _ ?_; clear hK K)
              refine q_part rfl 23 (.tmp 143) rfl bi ((oi + j * 32)) rfl (cells8 d) _ (fun w' hw' => hfi.out w' hw'.below) Tryd.underlying23 rfl sD.out ?_
              (intro K hK; go_simp; refine hK _ ?_; clear hK K)
              refine q_fn (v := .bool true) (args := #[.agg (cells8 d0).toArray, .agg (cells8 d).toArray]) rfl _ _ rfl rfl Tryd.func22 (by kernel_rfl) (by kernel_rfl) (fun w' hw' => ((less_any d0 d hdl0.out hdl.out w').mono fun e w'' ⟨he, hb⟩ => ⟨by rw [he, hlx.out], hw'.next hb⟩)) ?_
              (intro K hK; go_simp; refine hK _ ?_; clear hK K)
              refine q_val (v := .bool false) rfl (fun w' hw' => by go_simp) ?_
              (intro K hK; go_simp; refine hK _ ?_; clear hK K)
              refine q_val (v := .bool false) rfl (fun w' hw' => by go_simp) ?_
              (intro K hK; go_simp; refine hK _ ?_; clear hK K)
              refine q_val (v := .bool false) rfl (fun w' hw' => by go_simp) ?_
              (intro K hK; go_simp; refine hK _ ?_; clear hK K)
              refine q_nil ?_
              intro w7 hw7
              have hb7 : Hid (Below w5.heap.size w5 w7) := hbx.out.trans (hw7.below.mono hbx.out.size)
              clear hw7
              go_wp2_with fail
              go_roundw
              case rel => exact ⟨j + 1, by go_num, hjl'.out, hb7.out⟩
              case measure => (have := hjl'.out; simp [intOf]; omega)
          · have hy : ¬ ((j : Int) < (i : Int)) := by omega
            clear hjl
            have Nx := Lib.hid (N5.out.below hbx.out)
            have hRAx := Lib.hid (hRA5.out.below hbx.out)
            have bex : Hid (Below w2.heap.size w2 wx) := be5.out.trans (hbx.out.mono be5.out.size)
            have bbx : Hid (Below w.heap.size w wx) := bb2.out.trans (bex.out.mono bb2.out.size)
            have Hx : Hid (Blk wx w.heap.size 25 (headCells h).toArray) := (bex.out.block _ H2.out.lt).trans H2.out
            clear N5 hRA5 be5 hbx hI5
            go_wp2_with fail
            go_loopw [17] (fun v wr => ∃ j : Nat, v = .int .i64 (j : Int) ∧ Hid (j ≤ i) ∧ Hid (Below wx.heap.size wx wr)) (fun v _ => i - (intOf v).toNat)
            case atStart => exact ⟨0, rfl, Nat.zero_le _, Below.refl _ _⟩
            case round =>
              obtain ⟨j2, rfl, hj2, hby⟩ := hrel
              have hj26 : (j2 : Int) ≤ 16 := by have := hj2.out; have := hN.out.1; omega
              have hj20 : (0 : Int) ≤ (j2 : Int) := by omega
              have bby : Hid (Below w.heap.size w wr) := bbx.out.trans (hby.out.mono bbx.out.size)
              have Hy : Hid (Blk wr w.heap.size 25 (headCells h).toArray) := (hby.out.block _ Hx.out.lt).trans Hx.out
              by_cases hjl : j2 < i
              · have hy1 : (j2 : Int) < (i : Int) := by omega
                have hjl' := Lib.hid hjl
                obtain ⟨q, hq⟩ : ∃ q, Hid (ks[j2]? = some q) := ⟨_, List.getElem?_eq_getElem (by rw [hkl.out]; exact hjl)⟩
                obtain ⟨b, o, Ak, ck, hAp, hcq, hkc, hRq, hkn⟩ := piece_at hPs.out hq.out
                subst hAp
                have hkq : Hid (keyB q.length = true) := List.all_eq_true.1 hkr.out.2.1 q (List.mem_of_getElem? hq.out)
                obtain ⟨sg, hsg⟩ : ∃ sg, Hid (signOf h q = sg) := ⟨_, Lib.hid rfl⟩
                have hsa : Hid (signAns h q = (sg, 0)) := by show _ = _; rw [sign_ans hrt.out hkq.out, hsg.out]
                have hca : Hid (checkAns h sg q = 0) := by show _ = _; rw [← hsg.out]; exact check_ans hrt.out hkq.out
                have hsl : Hid (sg.length = 64) := by show _ = _; rw [← hsg.out]; exact signOf_len h q
                obtain ⟨k, hk⟩ : ∃ k, Hid (q.length = k) := ⟨_, Lib.hid rfl⟩
                rw [hk.out] at hRq hcq hkc hkn
                replace hRq := Lib.hid hRq
                replace hcq := Lib.hid hcq
                replace hkc := Lib.hid hkc
                replace hkn := Lib.hid hkn
                clear hjl
                go_upto_region 27 with fail
                have FS := Lib.hid (fitS hsl.out)
                have hSg : Hid (∀ w', Below w.heap.size w w' → Calls Tryd.prog 23 #[.agg (headCells h).toArray, .slice Ak k ck] w' fun e w'' => e = .returned (.tuple #[.agg (cells8 sg).toArray, .int .i64 0]) ∧ Below w'.heap.size w' w'') := fun w' hb => by have := headSign_any h ok'.out q k hk.out Ak ck w' (hBs.out w' hb) (hRq.out w' hb) hkc.out hkn.out; rw [hsa.out] at this; exact this
                go_cut [18, 19] from 155 to 164 (fun v u wx => ∃ m18 : Nat, v = .pointer (some ⟨m18, 0, none⟩) ∧ u = .int .i64 0 ∧ Hid (Blk wx m18 43 (cells8 sg).toArray) ∧ Hid (Below wr.heap.size wr wx))
                case first =>
                  have s0 : Hid (Below wr.heap.size wr wr.drew) := (Below.refl _ _).drew
                  refine held_start (fun w' => Below wr.heap.size wr w') 12 rfl (by kernel_rfl) ?_
                  refine held_take (i := 0) (v := .agg ((headCells h).toArray)) rfl (by kernel_rfl) (by kernel_rfl) (by kernel_rfl) (fun _ _ _ h => h) s0.out (by rfl) (fun w' hw' => exec_row 25 (.tmp 2) rfl (w.heap.size) rfl 25 ((headCells h).toArray) (0, 0) _ (((hw'.block _ Hy.out.lt).trans Hy.out)) Tryd.underlying25 rfl hz1.out) ?_
                  (intro K hK; go_simp; refine hK _ ?_; clear hK K)
                  refine held_take (i := 1) (v := .slice (some ⟨b, o, none⟩) i cp) rfl (by kernel_rfl) (by kernel_rfl) (by kernel_rfl) (fun _ _ _ h => h) s0.out (by rfl) (fun w' hw' => run_mv (.tmp 1) rfl w') ?_
                  (intro K hK; go_simp; refine hK _ ?_; clear hK K)
                  refine held_take (i := 2) (v := .int .i64 (j2 : Int)) rfl (by kernel_rfl) (by kernel_rfl) (by kernel_rfl) (fun _ _ _ h => h) s0.out (by rfl) (fun w' hw' => run_mv (.tmp 17) rfl w') ?_
                  (intro K hK; go_simp; refine hK _ ?_; clear hK K)
                  refine held_take (i := 3) (v := .pointer (some ⟨b, o + j2, none⟩)) rfl (by kernel_rfl) (by kernel_rfl) (by kernel_rfl) (fun _ _ _ h => h) s0.out (by rfl) (fun w' hw' => by go_simp) ?_
                  (intro K hK; go_simp; refine hK _ ?_; clear hK K)
                  refine held_take (i := 4) (v := .slice Ak k ck) rfl (by kernel_rfl) (by kernel_rfl) (by kernel_rfl) (fun _ _ _ h => h) s0.out (by rfl) (fun w' hw' => by have kc' := hcq.out w' (bby.out.trans ((hw').mono bby.out.size)); go_simp) ?_
                  (intro K hK; go_simp; refine hK _ ?_; clear hK K)
                  refine held_two (i := 5) (j := 9) rfl rfl (by kernel_rfl) (by rfl) (by rfl) (fun K hK => ?_) (fun K hK => ?_)
                  · refine wp_fn (R := fun v w'' => v = .tuple #[.agg (cells8 sg).toArray, .int .i64 0] ∧ Below wr.heap.size wr w'' ∧ Below (wr.drew).heap.size (wr.drew) w'') (args := #[.agg (headCells h).toArray, .slice Ak k ck]) _ _ rfl rfl Tryd.func23 (by kernel_rfl) (by kernel_rfl) ((hSg.out _ (bby.out.trans ((s0.out).mono bby.out.size))).mono fun e w'' ⟨he, hb⟩ => ⟨_, he, rfl, s0.out.trans (hb.mono s0.out.size), hb⟩) ?_
                    rintro qq w5 ⟨rfl, h5, kk1⟩
                    replace h5 := Lib.hid h5
                    replace kk1 := Lib.hid kk1
                    clear kk1
                    go_simp
                    refine hK _ _ h5.out ?_
                    clear hK K
                    refine held_take (i := 6) (v := .tuple #[.agg (cells8 sg).toArray, .int .i64 0]) rfl (by kernel_rfl) (by kernel_rfl) (by kernel_rfl) (fun _ _ _ h => h) h5.out (by rfl) (fun w' hw' => run_mv (.tmp 161) rfl w') ?_
                    (intro K hK; go_simp; refine hK _ ?_; clear hK K)
                    refine held_take (i := 7) (v := .agg (cells8 sg).toArray) rfl (by kernel_rfl) (by kernel_rfl) (by kernel_rfl) (fun _ _ _ h => h) h5.out (by rfl) (fun w' hw' => by go_simp) ?_
                    (intro K hK; go_simp; refine hK _ ?_; clear hK K)
                    refine held_take (i := 8) (v := .int .i64 0) rfl (by kernel_rfl) (by kernel_rfl) (by kernel_rfl) (fun _ _ _ h => h) h5.out (by rfl) (fun w' hw' => by go_simp) ?_
                    (intro K hK; go_simp; refine hK _ ?_; clear hK K)
                    refine held_only (i := 9) rfl (by kernel_rfl) (by rfl) (fun K hK => ?_)
                    have h6 := Lib.hid (h5.out.alloc h5.out.size (.cells Z64 43))
                    have bb : Hid (Blk (w5.alloc (.cells Z64 43)) w5.heap.size 43 Z64) := Blk.new _ _ _
                    go_simp
                    refine hK _ _ h6.out ?_
                    clear hK K
                    refine held_only (i := 10) rfl (by kernel_rfl) (by rfl) (fun K hK => ?_)
                    refine wp_store_whole 43 (.tmp 18) (.tmp 162) rfl (w5.heap.size) ((cells8 sg).toArray) rfl rfl 43 (Z64) (bb.out) FS.out.size FS.out.zero FS.out.one ?_
                    intro w99 B9 k9
                    have b9 : Hid (Below wr.heap.size wr w99) := h6.out.trans (Kept.below_of k9 (h5.out.size) h6.out.size)
                    go_simp
                    refine hK _ _ b9.out ?_
                    clear hK K
                    refine held_take (i := 11) (v := .int .i64 0) rfl (by kernel_rfl) (by kernel_rfl) (by kernel_rfl) (fun _ _ _ h => h) b9.out (by rfl) (fun w' hw' => by first | go_simp | rfl) ?_
                    (intro K hK; go_simp; refine hK _ ?_; clear hK K)
                    refine held_end (by kernel_rfl) ?_
                    go_wp2_with fail
                    go_meet
                    case rel => exact ⟨_, rfl, rfl, B9, b9.out⟩
                  · have h5 := Lib.hid (s0.out.alloc s0.out.size (.cells Z64 43))
                    have bb : Hid (Blk (wr.drew.alloc (.cells Z64 43)) wr.heap.size 43 Z64) := Blk.new _ _ _
                    go_simp
                    refine hK _ _ h5.out ?_
                    clear hK K
                    refine held_only (i := 5) rfl (by kernel_rfl) (by rfl) (fun K hK => ?_)
                    refine wp_fn (R := fun v w'' => v = .tuple #[.agg (cells8 sg).toArray, .int .i64 0] ∧ Below wr.heap.size wr w'' ∧ Below ((wr.drew.alloc (.cells Z64 43))).heap.size ((wr.drew.alloc (.cells Z64 43))) w'') (args := #[.agg (headCells h).toArray, .slice Ak k ck]) _ _ rfl rfl Tryd.func23 (by kernel_rfl) (by kernel_rfl) ((hSg.out _ (bby.out.trans ((h5.out).mono bby.out.size))).mono fun e w'' ⟨he, hb⟩ => ⟨_, he, rfl, h5.out.trans (hb.mono h5.out.size), hb⟩) ?_
                    rintro qq w6 ⟨rfl, h6, kk1⟩
                    replace h6 := Lib.hid h6
                    replace kk1 := Lib.hid kk1
                    replace bb := Lib.hid ((kk1.out.block _ (Blk.lt bb.out)).trans bb.out)
                    clear kk1
                    go_simp
                    refine hK _ _ h6.out ?_
                    clear hK K
                    refine held_take (i := 6) (v := .tuple #[.agg (cells8 sg).toArray, .int .i64 0]) rfl (by kernel_rfl) (by kernel_rfl) (by kernel_rfl) (fun _ _ _ h => h) h6.out (by rfl) (fun w' hw' => run_mv (.tmp 161) rfl w') ?_
                    (intro K hK; go_simp; refine hK _ ?_; clear hK K)
                    refine held_take (i := 7) (v := .agg (cells8 sg).toArray) rfl (by kernel_rfl) (by kernel_rfl) (by kernel_rfl) (fun _ _ _ h => h) h6.out (by rfl) (fun w' hw' => by go_simp) ?_
                    (intro K hK; go_simp; refine hK _ ?_; clear hK K)
                    refine held_take (i := 8) (v := .int .i64 0) rfl (by kernel_rfl) (by kernel_rfl) (by kernel_rfl) (fun _ _ _ h => h) h6.out (by rfl) (fun w' hw' => by go_simp) ?_
                    (intro K hK; go_simp; refine hK _ ?_; clear hK K)
                    refine held_only (i := 10) rfl (by kernel_rfl) (by rfl) (fun K hK => ?_)
                    refine wp_store_whole 43 (.tmp 18) (.tmp 162) rfl (wr.heap.size) ((cells8 sg).toArray) rfl rfl 43 (Z64) (bb.out) FS.out.size FS.out.zero FS.out.one ?_
                    intro w99 B9 k9
                    have b9 : Hid (Below wr.heap.size wr w99) := h6.out.trans (Kept.below_of k9 (s0.out.size) h6.out.size)
                    go_simp
                    refine hK _ _ b9.out ?_
                    clear hK K
                    refine held_take (i := 11) (v := .int .i64 0) rfl (by kernel_rfl) (by kernel_rfl) (by kernel_rfl) (fun _ _ _ h => h) b9.out (by rfl) (fun w' hw' => by first | go_simp | rfl) ?_
                    (intro K hK; go_simp; refine hK _ ?_; clear hK K)
                    refine held_end (by kernel_rfl) ?_
                    go_wp2_with fail
                    go_meet
                    case rel => exact ⟨_, rfl, rfl, B9, b9.out⟩
                case rest =>
                  obtain ⟨m18, rfl, rfl, hB8, hb8⟩ := hcut
                  obtain ⟨wv, rfl⟩ : ∃ wv, wv = wc := ⟨_, rfl⟩
                  have bbv : Hid (Below w.heap.size w wv) := bby.out.trans (hb8.out.mono bby.out.size)
                  have Hv : Hid (Blk wv w.heap.size 25 (headCells h).toArray) := (hb8.out.block _ Hy.out.lt).trans Hy.out
                  have bvx : Hid (Below wx.heap.size wx wv) := hby.out.trans (hb8.out.mono hby.out.size)
                  have hCk : Hid (∀ w', Class wv w' → Calls Tryd.prog 24 #[.agg (headCells h).toArray, .agg (cells8 sg).toArray, .slice Ak k ck] w' fun e w'' => e = .returned (.int .i64 0) ∧ Class wv w'') := fun w' hw' => by
                    have hbq := bbv.out.trans (hw'.below.mono bbv.out.size)
                    have hcc := check_any h ok'.out sg hsl.out q k hk.out Ak ck w' (hBs.out w' hbq) (hRq.out w' hbq) hkc.out hkn.out
                    rw [hca.out] at hcc
                    exact hcc.mono fun e w'' ⟨he, hb⟩ => ⟨he, hw'.next hb⟩
                  have hcv : Hid (∀ w', Class wv w' → w'.cell? ⟨b, o + j2, none⟩ = some (.slice Ak k ck)) := fun w' hw' => hcq.out w' (bbv.out.trans (hw'.below.mono bbv.out.size))
                  have hB8' : Hid (Blk wv m18 43 (cells8 sg).toArray) := hB8
                  clear hB8 hb8 hSg hRq hcq hsa hca Hy bby
                  go_upto_region 28 with fail
                  refine q_region (Class wv) (by kernel_rfl) (by kernel_rfl) (Class.mk_ ((Below.refl _ _).drew)) ?_
                  refine q_move rfl (.tmp 19) rfl ?_
                  (intro K hK; go_simp; refine hK _ ?_; clear hK K)
                  refine q_val (v := .bool false) rfl (fun w' hw' => by go_simp) ?_
                  (intro K hK; go_simp; refine hK _ ?_; clear hK K)
                  refine q_val (v := .bool false) rfl (fun w' hw' => by go_simp) ?_
                  (intro K hK; go_simp; refine hK _ ?_; clear hK K)
                  refine q_row rfl 25 (.tmp 2) rfl w.heap.size rfl 25 ((headCells h).toArray) (0, 0) _ (fun w' hw' => ((hw'.below.block _ Hv.out.lt).trans Hv.out)) Tryd.underlying25 rfl hz1.out ?_
                  (intro K hK; go_simp; refine hK _ ?_; clear hK K)
                  refine q_row rfl 43 (.tmp 18) rfl m18 rfl 43 ((cells8 sg).toArray) (0, 0) _ (fun w' hw' => ((hw'.below.block _ hB8'.out.lt).trans hB8'.out)) Tryd.underlying43 rfl FS.out.size ?_
                  (intro K hK; go_simp; refine hK _ ?_; clear hK K)
                  refine q_move rfl (.tmp 1) rfl ?_
                  (intro K hK; go_simp; refine hK _ ?_; clear hK K)
                  refine q_move rfl (.tmp 17) rfl ?_
                  (intro K hK; go_simp; refine hK _ ?_; clear hK K)
                  refine q_val (v := .pointer (some ⟨b, o + j2, none⟩)) rfl (fun w' hw' => by go_simp) ?_
                  (intro K hK; go_simp; refine hK _ ?_; clear hK K)
                  refine q_val (v := .slice Ak k ck) rfl (fun w' hw' => by have hc := hcv.out w' hw'; go_simp) ?_
                  (intro K hK; go_simp; refine hK _ ?_; clear hK K)
                  refine q_fn (v := .int .i64 0) (args := #[.agg (headCells h).toArray, .agg (cells8 sg).toArray, .slice Ak k ck]) rfl _ _ rfl rfl Tryd.func24 (by kernel_rfl) (by kernel_rfl) (fun w' hw' => (hCk.out w' hw')) ?_
                  (intro K hK; go_simp; refine hK _ ?_; clear hK K)
                  refine q_val (v := .bool false) rfl (fun w' hw' => by go_simp) ?_
                  (intro K hK; go_simp; refine hK _ ?_; clear hK K)
                  refine q_val (v := .bool false) rfl (fun w' hw' => by go_simp) ?_
                  (intro K hK; go_simp; refine hK _ ?_; clear hK K)
                  refine q_nil ?_
                  intro w7 hw7
                  have b28 : Hid (Below wx.heap.size wx w7) := bvx.out.trans (hw7.below.mono bvx.out.size)
                  clear hw7
                  go_wp2_with fail
                  go_roundw
                  case rel => exact ⟨j2 + 1, by go_num, hjl'.out, b28.out⟩
                  case measure => (have := hjl'.out; simp [intOf]; omega)
              · have hy2 : ¬ ((j2 : Int) < (i : Int)) := by omega
                have Ny := Lib.hid (Nx.out.below hby.out)
                have hRAy := Lib.hid (hRAx.out.below hby.out)
                clear hjl
                go_upto_region 31 with (first
    | (((with_reducible change wpList _ _ _ ({ dst := some 178, op := _, type := _, pos := _, after := _, guard := _ } :: _) _ _); refine wpList_load_row (o := ⟨some 178, _, _, _, _, _⟩) rfl 28 (.tmp 9) rfl (g9) rfl 28 ((noteCells h (.slice (some ⟨bs, os, none⟩) i c2)).toArray) (0, 0) _ Ny.out.blk Tryd.underlying28 rfl (zN.out _) ?_))
    | (go_at_call 19; refine (verify_any ks l hpm.out hst.out hll.out hlk.out h ok'.out S i (some ⟨bs, os, none⟩) c2 (fun e => by cases e) ((i : Int) + 1) w1.heap.size wr (hBs.out wr bby.out) hRAy.out Ny.out.sgs).mono ?_; intro e w9 hV; obtain ⟨v16, rfl, hb9, -⟩ := hV; rw [hver.out.2]; have bb9 : Hid (Below w.heap.size w w9) := bby.out.trans (hb9.mono bby.out.size); clear hb9))

                by_cases h6 : i = 16
                · rw [if_pos h6]
                  have e1 : ((i : Int) == 16) = true := by simp; omega
                  have e2 : (i : Int) = 16 := by omega
                  clear h6
                  go_wp2_with fail
                  go_ret
                  exact ⟨rfl, bb9.out⟩
                · rw [if_neg h6]
                  have e1 : ((i : Int) == 16) = false := by simp; omega
                  have e2 : (i : Int) < 16 := by omega
                  clear h6
                  go_wp2_with fail
                  go_ret
                  exact ⟨rfl, bb9.out⟩
end Go.Proofs.YteelanamlhfmgaaDoor.HeadSigned
