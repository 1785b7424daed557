/-
  Texts of the claim, put into one file: SignedP, RingP, RefRing, RefVerify, Asked, Lists, Spoil, HeadRings.
-/
import Derived.Test.YtfbhjoejffagjaaGreatDoorZ44
import Derived.Test.YtfbhjoejffagjaaGreatDoorZ40
import Derived.Test.YtfbhjoejffagjaaGreatDoorZ7
import Derived.Test.YtfbhjoejffagjaaGreatDoorZ21
import Derived.Test.YtfbhjoejffagjaaGreatDoorZ32
import Derived.Deep.Cut
import Derived.Test.YtfbhjoejffagjaaGreatDoorZ33
import Derived.Test.YtfbhjoejffagjaaGreatDoorZ35
import Derived.Test.YtfbhjoejffagjaaGreatDoorZ26
import Derived.Test.YtfbhjoejffagjaaGreatDoorZ43
import Derived.Test.YtfbhjoejffagjaaGreatDoorZ10
import Derived.LoopN
import Derived.Deep.CutRange
import Derived.LaidEql

namespace Go.Proofs.YtfbhjoejffagjaaGreatDoor.SignedP
open Go Go.RowKit Go.Proofs.YtfbhjoejffagjaaGreatDoor Mem Sha Bytes SortP NoteP HeadMem HeadID Sign Signs Check RefNote RingM NewRing VerP AddP

theorem ky_sign (h : HeadD) (q : Text) : kyS (signOf h q) = idOf q := by
 unfold kyS signOf
 rw [List.take_append_of_le_length (by rw [idOf_len]; exact Nat.le_refl _), List.take_of_length_le (by rw [idOf_len]; exact Nat.le_refl _)]
theorem rising_self {S : List Text} (h : Strict kyS S) : rising kyS S = some S := by
 have hp : S.Pairwise fun a b => kyS a ≠ kyS b := h.imp fun x => lex_ne x
 cases hr : rising kyS S with
 | none => exact absurd hp (rising_none hr)
 | some r =>
  obtain ⟨h1, h2⟩ := rising_some hr
  rw [strict_eq h1 h h2]
theorem rising_is {S r : List Text} (hr : Strict kyS r) (hp : r.Perm S) : rising kyS S = some r := by
 have h1 : S.Pairwise fun a b => kyS a ≠ kyS b := (hp.pairwise_iff (fun {_ _} x => x.symm)).1 (hr.imp fun x => lex_ne x)
 cases h : rising kyS S with
 | none => exact absurd h1 (rising_none h)
 | some d =>
  obtain ⟨h2, h3⟩ := rising_some h
  rw [strict_eq hr h2 (hp.trans h3.symm)]
theorem sign_ans {h : HeadD} (hr : rightB h = true) {q : Text} (hk : keyB q.length = true) : signAns h q = (signOf h q, 0) := by unfold signAns; rw [if_pos hk, if_pos hr]
structure SD (h : HeadD) (keys : List Text) (i : Nat) (S : List Text) : Prop where
 strict : Strict kyS S
 perm : S.Perm ((keys.take i).map (signOf h))
theorem SD.len {h : HeadD} {keys S : List Text} {i : Nat} (d : SD h keys i S) (hi : i ≤ keys.length) : S.length = i := by rw [d.perm.length_eq, List.length_map, List.length_take]; omega
theorem SD.nil (h : HeadD) (keys : List Text) : SD h keys 0 [] := ⟨List.Pairwise.nil, by simp⟩
theorem apart_at {keys : List Text} (ha : apartB keys = true) {i j : Nat} {a b : Text} (hij : i < j) (h1 : keys[i]? = some a) (h2 : keys[j]? = some b) : idOf a ≠ idOf b := by
 unfold apartB at ha
 rw [decide_eq_true_eq, List.pairwise_map] at ha
 obtain ⟨x1, rfl⟩ := List.getElem?_eq_some_iff.1 h1
 obtain ⟨x2, rfl⟩ := List.getElem?_eq_some_iff.1 h2
 exact List.pairwise_iff_getElem.1 ha i j x1 x2 hij
theorem others_all {S : List Text} {s : Text} (h : ∀ y ∈ S, kyS y ≠ kyS s) : others S s = S := by
 unfold others
 rw [List.filter_eq_self]
 intro y hy
 simpa using h y hy
theorem SD.step {h : HeadD} {keys S : List Text} {i : Nat} {q : Text} (d : SD h keys i S) (hr : rightB h = true) (hk : keysB keys = true) (ha : apartB keys = true) (hq : keys[i]? = some q) (h16 : keys.length ≤ 16) :
  ∃ r, addAns h S q = (some r, 0) ∧ SD h keys (i + 1) r ∧ addAns h r q = (some r, 0) := by
 have hi : i < keys.length := (List.getElem?_eq_some_iff.1 hq).1
 have hkq : keyB q.length = true := List.all_eq_true.1 hk q (List.mem_of_getElem? hq)
 have hno : ∀ y ∈ S, kyS y ≠ kyS (signOf h q) := fun y hy => by
  obtain ⟨z, hz, rfl⟩ := List.mem_map.1 (d.perm.mem_iff.1 hy)
  obtain ⟨j, hj, e⟩ := List.getElem_of_mem hz
  rw [List.length_take] at hj
  rw [List.getElem_take] at e
  rw [ky_sign, ky_sign]
  exact apart_at ha (i := j) (j := i) (by omega) (by rw [List.getElem?_eq_getElem (by omega), e]) hq
 have ho := others_all hno
 have hl := d.len (by omega)
 have hpw : (signOf h q :: S).Pairwise fun a b => kyS a ≠ kyS b := List.pairwise_cons.2 ⟨fun y hy => (hno y hy).symm, d.strict.imp fun x => lex_ne x⟩
 obtain ⟨r, hrr⟩ : ∃ r, rising kyS (signOf h q :: S) = some r := by
  cases hx : rising kyS (signOf h q :: S) with
  | none => exact absurd hpw (rising_none hx)
  | some r => exact ⟨r, rfl⟩
 obtain ⟨h1, h2⟩ := rising_some hrr
 have hrl : r.length = i + 1 := by rw [h2.length_eq, List.length_cons, hl]
 have hp2 : r.Perm ((keys.take (i + 1)).map (signOf h)) := by
  rw [List.take_add_one, hq, List.map_append]
  refine h2.trans ?_
  refine ((List.Perm.cons _ d.perm).trans ?_)
  show (signOf h q :: (keys.take i).map (signOf h)).Perm ((keys.take i).map (signOf h) ++ [signOf h q])
  exact (List.perm_append_singleton _ _).symm
 refine ⟨r, ?_, ⟨h1, hp2⟩, ?_⟩
 ·unfold addAns
  rw [sign_ans hr hkq, if_pos rfl, rising_self d.strict]
  show addFin S (signOf h q) = _
  unfold addFin
  rw [ho, if_neg (by omega), hrr]
 ·unfold addAns
  rw [sign_ans hr hkq, if_pos rfl, rising_self h1]
  show addFin r (signOf h q) = _
  have hoth : (others r (signOf h q)).Perm S := by
   have e := h2.filter (fun y => !decide (kyS y = kyS (signOf h q)))
   have e2 : (signOf h q :: S).filter (fun y => !decide (kyS y = kyS (signOf h q))) = S := by
    rw [List.filter_cons_of_neg (by simp)]
    exact ho
   rw [e2] at e
   exact e
  unfold addFin
  rw [if_neg (by rw [hoth.length_eq]; omega), rising_is h1 (h2.trans (List.Perm.cons _ hoth.symm))]
end Go.Proofs.YtfbhjoejffagjaaGreatDoor.SignedP

namespace Go.Proofs.YtfbhjoejffagjaaGreatDoor.RingP
open Go Go.RowKit Go.Proofs.YtfbhjoejffagjaaGreatDoor Mem Sha Bytes SortP NoteP HeadMem Sign Signs HeadID NewRing VerP SignedP

theorem apart_all {es : List Text} (h : ∀ (i : Nat) (a : Text), es[i]? = some a → ∀ (j : Nat) (b : Text), j < i → es[j]? = some b → idOf a ≠ idOf b) : apartB es = true := by
 unfold apartB
 rw [decide_eq_true_eq, List.pairwise_iff_getElem]
 intro i j hi hj hij
 rw [List.length_map] at hi hj
 rw [List.getElem_map, List.getElem_map]
 exact fun e => h j es[j] (List.getElem?_eq_getElem hj) i es[i] hij (List.getElem?_eq_getElem hi) e.symm
theorem apart_no {es : List Text} {i j : Nat} {a b : Text} (ha : es[i]? = some a) (hb : es[j]? = some b) (hij : j < i) (he : idOf a = idOf b) : apartB es = false := by
 cases h : apartB es with
 | false => rfl
 | true => exact absurd he.symm (apart_at h hij hb ha)
theorem keys_no {es : List Text} {i : Nat} {q : Text} (hq : es[i]? = some q) (hk : keyB q.length = false) : keysB es = false := by
 cases h : keysB es with
 | false => rfl
 | true =>
  have := List.all_eq_true.1 h q (List.mem_of_getElem? hq)
  rw [hk] at this
  cases this
theorem keys_all {es : List Text} (h : ∀ (i : Nat) (q : Text), es[i]? = some q → keyB q.length = true) : keysB es = true :=
 List.all_eq_true.2 fun q hq => by
  obtain ⟨i, hi, e⟩ := List.getElem_of_mem hq
  exact h i q (by rw [List.getElem?_eq_getElem hi, e])
theorem ring_many {es : List Text} (h : es.length < 1 ∨ 64 < es.length) : ringAns es = 7 := by unfold ringAns; rw [if_pos h]
theorem ring_key {es : List Text} (h : ¬ (es.length < 1 ∨ 64 < es.length)) (hk : keysB es = false) : ringAns es = 160 := by unfold ringAns; rw [if_neg h, if_neg (by rw [hk]; decide)]
theorem ring_twice {es : List Text} (h : ¬ (es.length < 1 ∨ 64 < es.length)) (hk : keysB es = true) (ha : apartB es = false) : ringAns es = 92 := by unfold ringAns; rw [if_neg h, if_pos hk, if_neg (by rw [ha]; decide)]
theorem ring_yes {es : List Text} (h : ¬ (es.length < 1 ∨ 64 < es.length)) (hk : keysB es = true) (ha : apartB es = true) : ringAns es = 0 := by unfold ringAns; rw [if_neg h, if_pos hk, if_pos ha]
theorem take_next {keys : List Text} {j : Nat} {q : Text} (hq : keys[j]? = some q) : keys.take (j + 1) = keys.take j ++ [q] := by
 rw [List.take_add_one, hq]
 rfl
theorem pick_miss {keys : List Text} {j : Nat} {q d : Text} (hq : keys[j]? = some q) (h : idOf q ≠ d) : pick (keys.take (j + 1)) d = pick (keys.take j) d := by
 unfold pick
 rw [take_next hq, List.find?_append, List.find?_cons_of_neg (by simpa using h)]
 simp
theorem pick_first {keys : List Text} {j : Nat} {q d : Text} (ha : apartB keys = true) (hq : keys[j]? = some q) (h : idOf q = d) : pick (keys.take j) d = none := by
 unfold pick
 rw [List.find?_eq_none]
 intro x hx
 obtain ⟨i, hi, e⟩ := List.getElem_of_mem hx
 rw [List.length_take] at hi
 rw [List.getElem_take] at e
 have hx2 : keys[i]? = some x := by rw [List.getElem?_eq_getElem (by omega), e]
 have := apart_at ha (show i < j by omega) hx2 hq
 simp only [decide_eq_true_eq]
 exact fun e2 => this (e2.trans h.symm)
theorem pick_hit {keys : List Text} {j : Nat} {q d : Text} (ha : apartB keys = true) (hq : keys[j]? = some q) (h : idOf q = d) : pick (keys.take (j + 1)) d = some q := by
 have h1 := pick_first ha hq h
 unfold pick at h1 ⊢
 rw [take_next hq, List.find?_append, h1, List.find?_cons_of_pos (by simpa using h)]
 rfl
theorem pick_all {keys : List Text} {j : Nat} (hj : keys.length ≤ j) (d : Text) : pick (keys.take j) d = pick keys d := by rw [List.take_of_length_le hj]
theorem pick_end {keys : List Text} {j : Nat} {q d : Text} (hq : pick (keys.take j) d = some q) : pick keys d = some q := by
 unfold pick at hq ⊢
 conv => lhs; rw [← List.take_append_drop j keys]
 rw [List.find?_append, hq]
 rfl
end Go.Proofs.YtfbhjoejffagjaaGreatDoor.RingP

namespace Go.Proofs.YtfbhjoejffagjaaGreatDoor.RefRing
open Go Go.RowKit Go.Proofs.YtfbhjoejffagjaaGreatDoor Mem Sha Bytes QuietTail Grown Want HashMem HeadMem HeadID Sign Signs DigEq SameIDs NewRing VerP RingP

theorem piece_of {w0 : World} {A : Option Addr} {ks : List Text} {i : Nat} {q : Text} (hP : ∀ w', Below w0.heap.size w0 w' → Pieces w' A ks) (hi : ks[i]? = some q) : ∃ b o Ak ck, A = some ⟨b, o, none⟩ ∧ (∀ w', Below w0.heap.size w0 w' → w'.cell? ⟨b, o + i, none⟩ = some (.slice Ak q.length ck)) ∧ q.length ≤ ck ∧ (∀ w', Below w0.heap.size w0 w' → Reads w' 1 Ak q.length (cells8 q)) ∧ (Ak = none → q.length = 0 ∧ ck = 0) := by
 have h0 : 0 < ks.length := by have := (List.getElem?_eq_some_iff.1 hi).1; omega
 obtain ⟨b, o, e, hb, hc⟩ := hP w0 (Below.refl _ _) h0
 obtain ⟨Ak, ck, h1, h2, h3, h4⟩ := hc i q hi
 exact ⟨b, o, Ak, ck, e, fun w' hw => (hw.cell (p := ⟨b, o + i, none⟩) hb).trans h1, h2, fun w' hw => h3.below hw, h4⟩
theorem qDR : Tryz.prog.eqGuardType Tryz.prog.depth 34 = false := by kernel_rfl
theorem key_low {k : Nat} (h : k < 1) : keyB k = false := by unfold keyB; simp; omega
theorem key_high {k : Nat} (h : 64 < k) : keyB k = false := by unfold keyB; simp; omega
theorem key_mid {k : Nat} (h1 : ¬ k < 1) (h2 : ¬ 64 < k) : keyB k = true := by unfold keyB; simp; omega
set_option maxRecDepth 100000 in
set_option maxHeartbeats 4000000 in
theorem refring_any (es : List Text) (p : Nat) (hp : es.length = p) (hp100 : p ≤ 1000) (Ap : Option Addr) (cp : Nat) (w : World) (hP : Pieces w Ap es) (hsh : ∀ q ∈ es, q.length < 140737488355228) :
  Calls Tryz.prog 8 #[.slice Ap p cp] w fun e w' => e = .returned (.int .i64 (ringAns es)) ∧ Below w.heap.size w w' := by
 have hPs : Hid (∀ w', Below w.heap.size w w' → Pieces w' Ap es) := fun w' hb => hP.below hb
 have hsh0 := Lib.hid hsh
 have hp0 := Lib.hid hp
 obtain ⟨k9, hk9⟩ : ∃ k9, Hid (ringAns es = k9) := ⟨_, Lib.hid rfl⟩
 rw [hk9.out]
 have hp6 : (p : Int) ≤ 1000 := by omega
 clear hP hsh hp hp100
 by_cases hm : p < 1 ∨ 64 < p
 ·have e : k9 = 7 := by rw [← hk9.out]; exact ring_many (by rw [hp0.out]; exact hm)
  subst e
  by_cases h1 : p < 1
  ·have x1 : (p : Int) < 1 := by omega
   clear hm h1
   go_enter Tryz.func8, Tryz.ntmps8
   go_wp2_with fail
   go_ret
   exact ⟨rfl, Below.refl _ _⟩
  ·have x1 : ¬ ((p : Int) < 1) := by omega
   have x2 : (64 : Int) < (p : Int) := by omega
   clear hm h1
   go_enter Tryz.func8, Tryz.ntmps8
   go_wp2_with fail
   go_ret
   exact ⟨rfl, Below.refl _ _⟩
 have hm0 : Hid (¬ (es.length < 1 ∨ 64 < es.length)) := by show ¬ _; rw [hp0.out]; exact hm
 have x1 : ¬ ((p : Int) < 1) := by omega
 have x2 : ¬ ((64 : Int) < (p : Int)) := by omega
 clear hm
 go_enter Tryz.func8, Tryz.ntmps8
 go_wp2_with fail
 go_loopw [3] (fun v wr => ∃ i : Nat, v = .int .i64 (i : Int) ∧ Hid (i ≤ p) ∧ Hid (∀ (t : Nat) (q : Text), t < i → es[t]? = some q → keyB q.length = true) ∧ Hid (Below w.heap.size w wr)) (fun v _ => p - (intOf v).toNat)
 case atStart => exact ⟨0, rfl, Nat.zero_le _, fun t q h => absurd h (Nat.not_lt_zero _), Below.refl _ _⟩
 case round =>
  obtain ⟨i, rfl, hip, hks, hbe⟩ := hrel
  have hi6 : (i : Int) ≤ 1000 := by have := hip.out; omega
  have hi0 : (0 : Int) ≤ (i : Int) := by omega
  by_cases hlt : i < p
  ·have hz : (i : Int) < (p : Int) := by omega
   have hlt' := Lib.hid hlt
   obtain ⟨q, hq⟩ : ∃ q, Hid (es[i]? = some q) := ⟨_, List.getElem?_eq_getElem (by rw [hp0.out]; exact hlt)⟩
   obtain ⟨b, o, Ak, ck, hAp, hcq, -, -, -⟩ := piece_of hPs.out hq.out
   subst hAp
   have hql : q.length < 140737488355228 := hsh0.out q (List.mem_of_getElem? hq.out)
   obtain ⟨k, hk⟩ : ∃ k, Hid (q.length = k) := ⟨_, Lib.hid rfl⟩
   rw [hk.out] at hql hcq
   have hc := hcq wr hbe.out
   have hk6 : (k : Int) ≤ 140737488355228 := by omega
   clear hlt hcq hql
   by_cases hk1 : k < 1
   ·have y1 : (k : Int) < 1 := by omega
    have e : k9 = 160 := by rw [← hk9.out]; exact ring_key hm0.out (keys_no hq.out (by rw [hk.out]; exact key_low hk1))
    subst e
    clear hk1
    go_wp2_with fail
    go_ret
    exact ⟨rfl, hbe.out⟩
   ·by_cases hk2 : 64 < k
    ·have y1 : ¬ ((k : Int) < 1) := by omega
     have y2 : (64 : Int) < (k : Int) := by omega
     have e : k9 = 160 := by rw [← hk9.out]; exact ring_key hm0.out (keys_no hq.out (by rw [hk.out]; exact key_high hk2))
     subst e
     clear hk1 hk2
     go_wp2_with fail
     go_ret
     exact ⟨rfl, hbe.out⟩
    ·have y1 : ¬ ((k : Int) < 1) := by omega
     have y2 : ¬ ((64 : Int) < (k : Int)) := by omega
     have hks2 : Hid (∀ (t : Nat) (q : Text), t < i + 1 → es[t]? = some q → keyB q.length = true) := fun t x ht hx => by
      by_cases e : t < i
      ·exact hks.out t x e hx
      ·obtain rfl : t = i := by omega
       rw [hq.out] at hx
       obtain rfl := Option.some.inj hx
       rw [hk.out]
       exact key_mid hk1 hk2
     clear hk1 hk2
     go_wp2_with fail
     go_roundw
     case rel => exact ⟨i + 1, by go_num, hlt'.out, hks2.out, hbe.out⟩
     case measure => (have := hlt'.out; simp [intOf]; omega)
  ·have hz : ¬ ((i : Int) < (p : Int)) := by omega
   have hka : Hid (keysB es = true) := keys_all fun t q ht => hks.out t q (by have := (List.getElem?_eq_some_iff.1 ht).1; have := hp0.out; omega) ht
   obtain ⟨wb, rfl⟩ : ∃ wb, wb = wr := ⟨_, rfl⟩
   have hbb := hbe
   clear hlt hks hbe hip
   go_wp2_with fail
   go_loopw [4] (fun v wr => ∃ i : Nat, v = .int .i64 (i : Int) ∧ Hid (i ≤ p) ∧ Hid (∀ (t : Nat) (a : Text), t < i → es[t]? = some a → ∀ (j : Nat) (b : Text), j < t → es[j]? = some b → idOf a ≠ idOf b) ∧ Hid (Below w.heap.size w wr)) (fun v _ => p - (intOf v).toNat)
   case atStart => exact ⟨0, rfl, Nat.zero_le _, fun t q h => absurd h (Nat.not_lt_zero _), hbb.out⟩
   case round =>
    clear hbb hi6 hi0 hz
    obtain ⟨i2, rfl, hip, hap, hbe⟩ := hrel
    have hi6 : (i2 : Int) ≤ 1000 := by have := hip.out; omega
    have hi0 : (0 : Int) ≤ (i2 : Int) := by omega
    by_cases hlt : i2 < p
    ·have hz : (i2 : Int) < (p : Int) := by omega
     have hlt' := Lib.hid hlt
     obtain ⟨q, hq⟩ : ∃ q, Hid (es[i2]? = some q) := ⟨_, List.getElem?_eq_getElem (by rw [hp0.out]; exact hlt)⟩
     obtain ⟨b, o, Ak, ck, hAp, hcq, hkc, hRq, hkn⟩ := piece_of hPs.out hq.out
     subst hAp
     have hql : Hid (q.length < 140737488355228) := hsh0.out q (List.mem_of_getElem? hq.out)
     obtain ⟨k, hk⟩ : ∃ k, Hid (q.length = k) := ⟨_, Lib.hid rfl⟩
     rw [hk.out] at hql hcq hkc hRq hkn
     obtain ⟨da, hda⟩ : ∃ d, Hid (idOf q = d) := ⟨_, Lib.hid rfl⟩
     have hla : Hid (da.length = 32) := by show _ = _; rw [← hda.out]; exact idOf_len q
     have hIa : Hid (∀ w', Below w.heap.size w w' → Calls Tryz.prog 26 #[.slice Ak k ck] w' fun e w'' => e = .returned (.agg (cells8 da).toArray) ∧ Below w'.heap.size w' w'') := fun w' hb => by
      have := refid_any q k hk.out Ak ck w' (hRq w' hb) hkc (by have := hql.out; omega) hkn
      rw [hda.out] at this
      exact this
     have hca : Hid (∀ w', Below w.heap.size w w' → w'.cell? ⟨b, o + i2, none⟩ = some (.slice Ak k ck)) := hcq
     obtain ⟨wc, rfl⟩ : ∃ wc, wc = wr := ⟨_, rfl⟩
     have hbc := hbe
     clear hlt hcq hkc hRq hkn hbe
     go_wp2_with fail
     go_loopw [5] (fun v wr => ∃ j : Nat, v = .int .i64 (j : Int) ∧ Hid (j ≤ i2) ∧ Hid (∀ (t : Nat) (x : Text), t < j → es[t]? = some x → idOf q ≠ idOf x) ∧ Hid (Below w.heap.size w wr)) (fun v _ => i2 - (intOf v).toNat)
     case atStart => exact ⟨0, rfl, Nat.zero_le _, fun t q h => absurd h (Nat.not_lt_zero _), hbc.out⟩
     case round =>
      clear hbc
      obtain ⟨j, rfl, hji, hno, hbe⟩ := hrel
      have hj6 : (j : Int) ≤ 1000 := by have := hji.out; omega
      have hj0 : (0 : Int) ≤ (j : Int) := by omega
      by_cases hjt : j < i2
      ·have hy : (j : Int) < (i2 : Int) := by omega
       have hyp : (j : Int) < (p : Int) := by omega
       have hjt' := Lib.hid hjt
       obtain ⟨x, hx⟩ : ∃ x, Hid (es[j]? = some x) := ⟨_, List.getElem?_eq_getElem (by rw [hp0.out]; have := hlt'.out; omega)⟩
       obtain ⟨b2, o2, Ax, cx, hAp2, hcq2, hkc2, hRq2, hkn2⟩ := piece_of hPs.out hx.out
       injection hAp2 with e1
       injection e1 with e1 e2
       subst e1 e2
       have hxl : Hid (x.length < 140737488355228) := hsh0.out x (List.mem_of_getElem? hx.out)
       obtain ⟨kx, hkx⟩ : ∃ k, Hid (x.length = k) := ⟨_, Lib.hid rfl⟩
       rw [hkx.out] at hxl hcq2 hkc2 hRq2 hkn2
       obtain ⟨db, hdb⟩ : ∃ d, Hid (idOf x = d) := ⟨_, Lib.hid rfl⟩
       have hlb : Hid (db.length = 32) := by show _ = _; rw [← hdb.out]; exact idOf_len x
       have hIb : Hid (∀ w', Below w.heap.size w w' → Calls Tryz.prog 26 #[.slice Ax kx cx] w' fun e w'' => e = .returned (.agg (cells8 db).toArray) ∧ Below w'.heap.size w' w'') := fun w' hb => by
        have := refid_any x kx hkx.out Ax cx w' (hRq2 w' hb) hkc2 (by have := hxl.out; omega) hkn2
        rw [hdb.out] at this
        exact this
       have hcb : Hid (∀ w', Below w.heap.size w w' → w'.cell? ⟨b, o + j, none⟩ = some (.slice Ax kx cx)) := hcq2
       clear hjt hcq2 hkc2 hRq2 hkn2
       go_upto_region 14 with fail
       by_cases hd : da = db
       ·have hqE : Hid (∀ w', (binOp .eql 34 (.agg (cells8 da).toArray) (.agg (cells8 db).toArray)).run Tryz.prog w' = .ok (.bool true) w') := fun w' => by rw [eql_dig _ _ hla.out hlb.out, decide_eq_true hd]
        have e : k9 = 92 := by rw [← hk9.out]; exact ring_twice hm0.out hka.out (apart_no hq.out hx.out hjt'.out (by rw [hda.out, hdb.out]; exact hd))
        subst e
        clear hd
        refine q_region (Class wr) (by kernel_rfl) (by kernel_rfl) (Class.mk_ ((Below.refl _ _).drew)) ?_
        refine q_move rfl (.tmp 0) rfl ?_
        (intro K k; go_simp; apply k; clear k K)
        refine q_move rfl (.tmp 4) rfl ?_
        (intro K k; go_simp; apply k; clear k K)
        refine Want.qv0 (.pointer (some ⟨b, o + i2, none⟩)) ?_
        (intro K k; go_simp; apply k; clear k K)
        refine q_val (v := .slice Ak k ck) rfl (fun w' hw' => by have hc := hca.out w' (hbe.out.trans (hw'.below.mono hbe.out.size)); go_simp) ?_
        (intro K k; go_simp; apply k; clear k K)
        refine q_fn (v := .agg (cells8 da).toArray) (args := #[.slice Ak k ck]) rfl _ _ rfl rfl Tryz.func26 (by kernel_rfl) (by kernel_rfl) (fun w' hw' => ((hIa.out w' (hbe.out.trans (hw'.below.mono hbe.out.size))).mono fun e w'' ⟨he, hb⟩ => ⟨he, hw'.next hb⟩)) ?_
        (intro K k; go_simp; apply k; clear k K)
        refine q_move rfl (.tmp 0) rfl ?_
        (intro K k; go_simp; apply k; clear k K)
        refine q_move rfl (.tmp 5) rfl ?_
        (intro K k; go_simp; apply k; clear k K)
        refine Want.qv0 (.pointer (some ⟨b, o + j, none⟩)) ?_
        (intro K k; go_simp; apply k; clear k K)
        refine q_val (v := .slice Ax kx cx) rfl (fun w' hw' => by have hc := hcb.out w' (hbe.out.trans (hw'.below.mono hbe.out.size)); go_simp) ?_
        (intro K k; go_simp; apply k; clear k K)
        refine q_fn (v := .agg (cells8 db).toArray) (args := #[.slice Ax kx cx]) rfl _ _ rfl rfl Tryz.func26 (by kernel_rfl) (by kernel_rfl) (fun w' hw' => ((hIb.out w' (hbe.out.trans (hw'.below.mono hbe.out.size))).mono fun e w'' ⟨he, hb⟩ => ⟨he, hw'.next hb⟩)) ?_
        (intro K k; go_simp; apply k; clear k K)
        refine q_val (v := .bool true) rfl (fun w' hw' => run_cmp rfl rfl rfl qDR (hqE.out w')) ?_
        (intro K k; go_simp; apply k; clear k K)
        refine q_nil ?_
        intro w7 hw7
        have hb7 : Hid (Below w.heap.size w w7) := hbe.out.trans (hw7.below.mono hbe.out.size)
        clear hw7
        go_wp2_with fail
        go_ret
        exact ⟨rfl, hb7.out⟩
       ·have hqE : Hid (∀ w', (binOp .eql 34 (.agg (cells8 da).toArray) (.agg (cells8 db).toArray)).run Tryz.prog w' = .ok (.bool false) w') := fun w' => by rw [eql_dig _ _ hla.out hlb.out, decide_eq_false hd]
        have hno2 : Hid (∀ (t : Nat) (y : Text), t < j + 1 → es[t]? = some y → idOf q ≠ idOf y) := fun t y ht hyy => by
         by_cases e : t < j
         ·exact hno.out t y e hyy
         ·obtain rfl : t = j := by omega
          rw [hx.out] at hyy
          obtain rfl := Option.some.inj hyy
          rw [hda.out, hdb.out]
          exact hd
        clear hd
        refine q_region (Class wr) (by kernel_rfl) (by kernel_rfl) (Class.mk_ ((Below.refl _ _).drew)) ?_
        refine q_move rfl (.tmp 0) rfl ?_
        (intro K k; go_simp; apply k; clear k K)
        refine q_move rfl (.tmp 4) rfl ?_
        (intro K k; go_simp; apply k; clear k K)
        refine Want.qv0 (.pointer (some ⟨b, o + i2, none⟩)) ?_
        (intro K k; go_simp; apply k; clear k K)
        refine q_val (v := .slice Ak k ck) rfl (fun w' hw' => by have hc := hca.out w' (hbe.out.trans (hw'.below.mono hbe.out.size)); go_simp) ?_
        (intro K k; go_simp; apply k; clear k K)
        refine q_fn (v := .agg (cells8 da).toArray) (args := #[.slice Ak k ck]) rfl _ _ rfl rfl Tryz.func26 (by kernel_rfl) (by kernel_rfl) (fun w' hw' => ((hIa.out w' (hbe.out.trans (hw'.below.mono hbe.out.size))).mono fun e w'' ⟨he, hb⟩ => ⟨he, hw'.next hb⟩)) ?_
        (intro K k; go_simp; apply k; clear k K)
        refine q_move rfl (.tmp 0) rfl ?_
        (intro K k; go_simp; apply k; clear k K)
        refine q_move rfl (.tmp 5) rfl ?_
        (intro K k; go_simp; apply k; clear k K)
        refine Want.qv0 (.pointer (some ⟨b, o + j, none⟩)) ?_
        (intro K k; go_simp; apply k; clear k K)
        refine q_val (v := .slice Ax kx cx) rfl (fun w' hw' => by have hc := hcb.out w' (hbe.out.trans (hw'.below.mono hbe.out.size)); go_simp) ?_
        (intro K k; go_simp; apply k; clear k K)
        refine q_fn (v := .agg (cells8 db).toArray) (args := #[.slice Ax kx cx]) rfl _ _ rfl rfl Tryz.func26 (by kernel_rfl) (by kernel_rfl) (fun w' hw' => ((hIb.out w' (hbe.out.trans (hw'.below.mono hbe.out.size))).mono fun e w'' ⟨he, hb⟩ => ⟨he, hw'.next hb⟩)) ?_
        (intro K k; go_simp; apply k; clear k K)
        refine q_val (v := .bool false) rfl (fun w' hw' => run_cmp rfl rfl rfl qDR (hqE.out w')) ?_
        (intro K k; go_simp; apply k; clear k K)
        refine q_nil ?_
        intro w7 hw7
        have hb7 : Hid (Below w.heap.size w w7) := hbe.out.trans (hw7.below.mono hbe.out.size)
        clear hw7
        go_wp2_with fail
        go_roundw
        case rel => exact ⟨j + 1, by go_num, hjt'.out, hno2.out, hb7.out⟩
        case measure => (have := hjt'.out; simp [intOf]; omega)
      ·have hy : ¬ ((j : Int) < (i2 : Int)) := by omega
       have hap2 : Hid (∀ (t : Nat) (a : Text), t < i2 + 1 → es[t]? = some a → ∀ (j : Nat) (b : Text), j < t → es[j]? = some b → idOf a ≠ idOf b) := fun t a ht ha s c hs hc => by
        by_cases e : t < i2
        ·exact hap.out t a e ha s c hs hc
        ·obtain rfl : t = i2 := by omega
         rw [hq.out] at ha
         obtain rfl := Option.some.inj ha
         exact hno.out s c (by have := hji.out; omega) hc
       clear hjt hap hno
       go_wp2_with fail
       go_roundw
       case rel => exact ⟨i2 + 1, by go_num, hlt'.out, hap2.out, hbe.out⟩
       case measure => (have := hlt'.out; simp [intOf]; omega)
    ·have hz : ¬ ((i2 : Int) < (p : Int)) := by omega
     have e : k9 = 0 := by
      rw [← hk9.out]
      exact ring_yes hm0.out hka.out (apart_all fun t a ha => hap.out t a (by have := (List.getElem?_eq_some_iff.1 ha).1; have := hp0.out; omega) ha)
     subst e
     clear hlt hap
     go_wp2_with fail
     go_ret
     exact ⟨rfl, hbe.out⟩
end Go.Proofs.YtfbhjoejffagjaaGreatDoor.RefRing

namespace Go.Proofs.YtfbhjoejffagjaaGreatDoor.RefVerify
open Go Go.RowKit Go.Proofs.YtfbhjoejffagjaaGreatDoor Mem Sha Bytes SortP NoteP Grown Want Go.Proofs.YtfbhjoejffagjaaGreatDoor.Append Own Rise SortM SgM HashMem HeadMem HeadID EncNoteP EncNote NoteM RefNote RefRising Sign Signs Check RefCheck Decode DigEq RingM NewRing VerP Verify RingP RefRing

set_option maxRecDepth 100000 in
set_option maxHeartbeats 8000000 in
theorem refverify_any (es : List Text) (p : Nat) (hp : es.length = p) (hp100 : p ≤ 1000) (hap : apartB es = true) (Ap : Option Addr) (cp : Nat) (h : HeadD) (ok : h.Ok) (ss : List Text) (n : Nat) (A : Option Addr) (c : Nat) (least : Int) (w : World) (hS : Sgs w A n ss) (hP : Pieces w Ap es) (hsh : ∀ q ∈ es, q.length < 140737488355228) :
    Calls Tryz.prog 29 #[.slice Ap p cp, .agg (noteCells h (.slice A n c)).toArray, .int .i64 least] w (VerOut es h ss least w) := by
  obtain ⟨w0, hw0⟩ : ∃ w0, Hid (w.alloc (.cells (noteCells h (.slice A n c)).toArray 39) = w0) := ⟨_, Lib.hid rfl⟩
  have N0 : Hid (NoteAt w0 w.heap.size h A n c ss) := by show NoteAt _ _ _ _ _ _ _; rw [← hw0.out]; exact NoteAt.new hS
  have hb0 : Hid (Below w.heap.size w w0) := by show Below _ _ _; rw [← hw0.out]; exact Below.heap_below w _
  have hw0' := hw0.out
  have zN := Lib.hid (fun v => note_size ok v)
  have hPs : Hid (∀ w', Below w.heap.size w w' → Pieces w' Ap es) := fun w' hb => hP.below hb
  have hsh0 := Lib.hid hsh
  have hp0 := Lib.hid hp
  have hap0 := Lib.hid hap
  have ok' := Lib.hid ok
  have hp6 : (p : Int) ≤ 1000 := by omega
  clear hw0 hS ok hP hsh hp hp100 hap
  by_cases hl1 : least < 1
  · have ha : Hid (verAns es h ss least = (none, 1)) := by show _ = _; unfold verAns; rw [if_pos (.inl hl1)]
    go_enter Tryz.func29, Tryz.ntmps29
    go_wp2_with fail
    go_ret2
    exact out_ver ha.out hb0.out rfl
  by_cases hl2 : 16 < least
  · have ha : Hid (verAns es h ss least = (none, 1)) := by show _ = _; unfold verAns; rw [if_pos (.inr hl2)]
    have x1 : (least < 1) = False := eq_false hl1
    clear hl1
    go_enter Tryz.func29, Tryz.ntmps29
    go_wp2_with fail
    go_ret2
    exact out_ver ha.out hb0.out rfl
  have x1 : (least < 1) = False := eq_false hl1
  have x2 : ((16 : Int) < least) = False := eq_false hl2
  have hls : Hid (¬ (least < 1 ∨ 16 < least)) := fun h => by rcases h with h | h <;> contradiction
  clear hl1 hl2
  obtain ⟨k7, hk7⟩ : ∃ k7, Hid ((noteAns h ss).2 = k7) := ⟨_, Lib.hid rfl⟩
  by_cases hk0 : ¬ (k7 = 0)
  · have ha : Hid (verAns es h ss least = (none, 8)) := by show _ = _; unfold verAns; rw [if_neg hls.out, hk7.out, if_neg hk0]
    go_enter Tryz.func29, Tryz.ntmps29
    go_wp2_with (first
    | (((with_reducible change wpList _ _ _ (⟨some 22, _, _, _, _, _⟩ :: _) _ _); refine wpList_load_row (o := ⟨some 22, _, _, _, _, _⟩) rfl 39 (.tmp 4) rfl (w.heap.size) rfl 39 ((noteCells h (.slice A n c)).toArray) (0, 0) _ N0.out.blk Tryz.underlying39 rfl (zN.out _) ?_))
    | (go_at_call 36; refine (refnote_any h ok'.out ss n A c w0 N0.out.sgs).mono ?_; rw [hk7.out]; rintro e w1 ⟨v1, rfl, hb1, -⟩; have bb1 : Hid (Below w.heap.size w w1) := hb0.out.trans (hb1.mono hb0.out.size); have N1 := Lib.hid (N0.out.below hb1); have hR1 := N1.out.row ok'.out; clear hb1 hw0'))

    go_ret2
    exact out_ver ha.out bb1.out rfl
  have hk1 : k7 = 0 := Decidable.not_not.1 hk0
  subst hk1
  clear hk0
  obtain ⟨hn16, rs, hrs⟩ : n ≤ 16 ∧ ∃ rs, Hid (rising kyS ss = some rs) := by
    rcases note_cases h ss n N0.out.sgs.len with ⟨-, e⟩ | ⟨-, -, e⟩ | ⟨-, -, e⟩ | ⟨-, -, -, -, e⟩ | ⟨-, -, h3, rs, h4, e⟩
    · have := hk7.out; rw [e] at this; cases this
    · have := hk7.out; rw [e] at this; cases this
    · have := hk7.out; rw [e] at this; cases this
    · have := hk7.out; rw [e] at this; cases this
    · exact ⟨h3, rs, h4⟩
  have hn0 := Lib.hid hn16
  clear hn16
  have hvE : Hid (verAns es h ss least = verEnd (verF es h rs) least) := by show _ = _; unfold verAns; rw [if_neg hls.out, hk7.out, if_pos rfl, hrs.out]; rfl
  obtain ⟨vf, hvf⟩ : ∃ vf, Hid (verF es h rs = vf) := ⟨_, Lib.hid rfl⟩
  rw [hvf.out] at hvE
  obtain ⟨i0, ii, iz0, iz1, iz2⟩ := SgM.info_partsN info32v
  go_enter Tryz.func29, Tryz.ntmps29
  go_upto_region 8 with (first
    | (((with_reducible change wpList _ _ _ (⟨some 22, _, _, _, _, _⟩ :: _) _ _); refine wpList_load_row (o := ⟨some 22, _, _, _, _, _⟩) rfl 39 (.tmp 4) rfl (w.heap.size) rfl 39 ((noteCells h (.slice A n c)).toArray) (0, 0) _ N0.out.blk Tryz.underlying39 rfl (zN.out _) ?_))
    | (go_at_call 36; refine (refnote_any h ok'.out ss n A c w0 N0.out.sgs).mono ?_; rw [hk7.out]; rintro e w1 ⟨v1, rfl, hb1, -⟩; have bb1 : Hid (Below w.heap.size w w1) := hb0.out.trans (hb1.mono hb0.out.size); have N1 := Lib.hid (N0.out.below hb1); have hR1 := N1.out.row ok'.out; clear hb1 hw0')
    | (go_at_call 62; refine (refrising_any ss n (by have := hn0.out; omega) A c w1 N1.out.sgs).mono ?_; rintro e w3 ⟨v3, rfl, hb3, hR3⟩; rw [hrs.out] at hR3 ⊢; have hO3 : OwnS w3 w1.heap.size v3 n rs := hR3; obtain ⟨A3, c3, rfl, -, -, -, hS3, -⟩ := hO3.reads; replace hS3 := Lib.hid hS3; have bb3 : Hid (Below w.heap.size w w3) := bb1.out.trans (hb3.mono bb1.out.size); have N3 := Lib.hid (N1.out.below hb3); clear hb3 hR3 hO3 bb1 N1 hR1))

  have hsz : Hid ((Tryz.prog.info? 36).map (·.size) = some (headCells h).length) := by show _ = _; rw [headCells_len ok'.out]; exact size98
  go_wp2_with fail
  go_loopw [12, 13] (fun v12 v13 wr => ∃ (i m c12 : Nat) (A12 : Option Addr) (ids : List Text), v13 = .int .i64 (i : Int) ∧ v12 = .slice A12 m c12 ∧ Hid (i ≤ n) ∧ Hid (m ≤ i) ∧ Hid (ids.length = m) ∧ Hid (∀ d ∈ ids, d.length = 32) ∧ Hid (World.ownsRow wr w3.heap.size 34 32 (.slice A12 m c12) m (ids.flatMap cells8)) ∧ Hid (vf = (verF es h (rs.drop i)).map (ids ++ ·)) ∧ Hid (Below w3.heap.size w3 wr)) (fun _ v _ => n - (intOf v).toNat)
  case atStart => exact ⟨0, 0, 0, none, [], rfl, rfl, Nat.zero_le _, Nat.le_refl _, rfl, (fun d hd => by cases hd), World.ownsRow_nil _ _ _ _, (by show _ = _; rw [← hvf.out, List.drop_zero]; simp), Below.refl _ _⟩
  case round =>
    obtain ⟨i, m, c12, A12, ids, rfl, rfl, hin, hmi, hil, hid, hO, hv, hbe⟩ := hrel
    have hi6 : (i : Int) ≤ 16 := by have := hin.out; have := hn0.out; omega
    have hz0 : (0 : Int) ≤ (i : Int) := by omega
    have bbr : Hid (Below w.heap.size w wr) := bb3.out.trans (hbe.out.mono bb3.out.size)
    by_cases hlt : i < n
    · have hz : (i : Int) < (n : Int) := by omega
      have hlt' : Hid (i < n) := hlt
      obtain ⟨x, hx⟩ : ∃ x, Hid (rs[i]? = some x) := ⟨_, List.getElem?_eq_getElem (by rw [hS3.out.len]; exact hlt)⟩
      have hxl := Lib.hid (hS3.out.all x (List.mem_of_getElem? hx.out))
      obtain ⟨bx, ox, hA, hbx, hcx⟩ := hS3.out.at_ hx.out
      subst hA
      obtain ⟨d, hd⟩ : ∃ d, Hid (kyS x = d) := ⟨_, Lib.hid rfl⟩
      have hkl : Hid (d.length = 32) := by show _ = _; rw [← hd.out]; exact kyS_len hxl.out
      have hfx : Hid (∀ w', Below w3.heap.size w3 w' → ∀ (j : Nat) (u : Value), (cells8 x)[j]? = some u → w'.cell? ⟨bx, ox + i * 64 + j, none⟩ = some u) := fun w' hb' j u hu => (hb'.cell (p := ⟨bx, ox + i * 64 + j, none⟩) hbx).trans (hcx j u hu)
      have hfk : Hid (∀ w', Below w3.heap.size w3 w' → ∀ (j : Nat) (u : Value), (cells8 d)[j]? = some u → w'.cell? ⟨bx, ox + i * 64 + j, none⟩ = some u) := fun w' hb' j u hu => by
        have := (hb'.cell (p := ⟨bx, ox + i * 64 + (0 + j), none⟩) hbx).trans (hcx (0 + j) u (ky_cell (by rw [hd.out]; exact hu)))
        rwa [Nat.zero_add] at this
      have hfh : Hid (∀ w', Below w3.heap.size w3 w' → ∀ (j : Nat) (u : Value), (headCells h)[j]? = some u → w'.cell? ⟨w.heap.size, 0 + j, none⟩ = some u) := fun w' hb' => (N3.out.below hb').head
      have s64 : Hid ((Tryz.prog.info? 56).map (·.size) = some (cells8 x).length) := by show _ = _; rw [cells8_len, hxl.out]; exact Sign.size64
      have sK : Hid ((Tryz.prog.info? 34).map (·.size) = some (cells8 d).length) := by show _ = _; rw [cells8_len, hkl.out]; exact size32v
      have q1 : Hid (∀ v ∈ [cells8 d], v.length = 32) := fun v hv => by simp only [List.mem_singleton] at hv; rw [hv, cells8_len, hkl.out]
      obtain ⟨wi, rfl⟩ : ∃ wi, wi = wr := ⟨_, rfl⟩
      have hbi := hbe
      clear hcx hlt hbe bbr
      go_wp2_with fail
      go_loopw [12, 14] (fun v12 v14 wr => ∃ (j m2 c2 : Nat) (A2 : Option Addr) (ids2 : List Text), v14 = .int .i64 (j : Int) ∧ v12 = .slice A2 m2 c2 ∧ Hid (j ≤ p) ∧ Hid (ids2.length = m2) ∧ Hid (∀ d ∈ ids2, d.length = 32) ∧ Hid (World.ownsRow wr w3.heap.size 34 32 (.slice A2 m2 c2) m2 (ids2.flatMap cells8)) ∧ Hid ((pick (es.take j) d = none ∧ ids2 = ids) ∨ (∃ q, pick (es.take j) d = some q ∧ checkAns h x q = 0 ∧ ids2 = ids ++ [d])) ∧ Hid (Below w3.heap.size w3 wr)) (fun _ v _ => p - (intOf v).toNat)
      case atStart => exact ⟨0, m, c12, A12, ids, rfl, rfl, Nat.zero_le _, hil.out, hid.out, hO.out, .inl ⟨rfl, rfl⟩, hbi.out⟩
      case round =>
        clear hbi hO
        obtain ⟨j, m2, c2, A2, ids2, rfl, rfl, hjp, hil2, hid2, hO, hpk, hbe⟩ := hrel
        have hj6 : (j : Int) ≤ 1000 := by have := hjp.out; omega
        have hj0 : (0 : Int) ≤ (j : Int) := by omega
        have bbr : Hid (Below w.heap.size w wr) := bb3.out.trans (hbe.out.mono bb3.out.size)
        by_cases hjt : j < p
        · have hy : (j : Int) < (p : Int) := by omega
          have hjt' := Lib.hid hjt
          obtain ⟨q, hq⟩ : ∃ q, Hid (es[j]? = some q) := ⟨_, List.getElem?_eq_getElem (by rw [hp0.out]; exact hjt)⟩
          obtain ⟨b, o, Ak, ck, hAp, hcq, hkc, hRq, hkn⟩ := piece_of hPs.out hq.out
          subst hAp
          have hql : Hid (q.length < 140737488355228) := hsh0.out q (List.mem_of_getElem? hq.out)
          obtain ⟨k, hk⟩ : ∃ k, Hid (q.length = k) := ⟨_, Lib.hid rfl⟩
          rw [hk.out] at hql hcq hkc hRq hkn
          obtain ⟨dq, hdq⟩ : ∃ d, Hid (idOf q = d) := ⟨_, Lib.hid rfl⟩
          have hla : Hid (dq.length = 32) := by show _ = _; rw [← hdq.out]; exact idOf_len q
          have hIq : Hid (∀ w', Below w.heap.size w w' → Calls Tryz.prog 26 #[.slice Ak k ck] w' fun e w'' => e = .returned (.agg (cells8 dq).toArray) ∧ Below w'.heap.size w' w'') := fun w' hb => by
            have := refid_any q k hk.out Ak ck w' (hRq w' hb) hkc (by have := hql.out; omega) hkn
            rw [hdq.out] at this
            exact this
          have hca : Hid (∀ w', Below w.heap.size w w' → w'.cell? ⟨b, o + j, none⟩ = some (.slice Ak k ck)) := hcq
          have hRq0 := Lib.hid hRq
          have hkc0 := Lib.hid hkc
          have hkn0 := Lib.hid hkn
          clear hjt hcq hkc hRq hkn
          go_upto_region 14 with fail
          by_cases hde : dq = d
          · have hqE : Hid (∀ w', (binOp .neq 34 (.agg (cells8 dq).toArray) (.agg (cells8 d).toArray)).run Tryz.prog w' = .ok (.bool false) w') := fun w' => by rw [neq_dig _ _ hla.out hkl.out, decide_eq_true hde]; rfl
            have hqd : Hid (idOf q = d) := hdq.out.trans hde
            have hnone := Lib.hid (pick_first hap0.out hq.out hqd.out)
            have hhit := Lib.hid (pick_hit hap0.out hq.out hqd.out)
            have hie : ids2 = ids := by
              rcases hpk.out with ⟨-, e⟩ | ⟨y, e, -, -⟩
              · exact e
              · rw [hnone.out] at e; cases e
            subst hie
            have hm2 : Hid (m2 ≤ i) := by show _ ≤ _; have h1 := hil.out; have h2 := hil2.out; have := hmi.out; omega
            obtain ⟨kc, hkC⟩ : ∃ kc, Hid (checkAns h x q = kc) := ⟨_, Lib.hid rfl⟩
            have hCk : Hid (∀ w', Below w.heap.size w w' → Calls Tryz.prog 52 #[.agg (headCells h).toArray, .agg (cells8 x).toArray, .slice Ak k ck] w' fun e w'' => e = .returned (.int .i64 kc) ∧ Below w'.heap.size w' w'') := fun w' hb => by
              have := refCheck_any h ok'.out x hxl.out q k hk.out Ak ck w' (hRq0.out w' hb) hkc0.out hkn0.out
              rw [hkC.out] at this
              exact this
            clear hde hpk
            refine q_region (Class wr) (by kernel_rfl) (by kernel_rfl) (Class.mk_ ((Below.refl _ _).drew)) ?_
            refine q_move rfl (.tmp 0) rfl ?_
            (intro K k; go_simp; apply k; clear k K)
            refine q_move rfl (.tmp 14) rfl ?_
            (intro K k; go_simp; apply k; clear k K)
            refine Want.qv0 (.pointer (some ⟨b, o + j, none⟩)) ?_
            (intro K k; go_simp; apply k; clear k K)
            refine q_val (v := .slice Ak k ck) rfl (fun w' hw' => by have hc := hca.out w' (bbr.out.trans (hw'.below.mono bbr.out.size)); go_simp) ?_
            (intro K k; go_simp; apply k; clear k K)
            refine q_fn (v := .agg (cells8 dq).toArray) (args := #[.slice Ak k ck]) rfl _ _ rfl rfl Tryz.func26 (by kernel_rfl) (by kernel_rfl) (fun w' hw' => ((hIq.out w' (bbr.out.trans (hw'.below.mono bbr.out.size))).mono fun e w'' ⟨he, hb⟩ => ⟨he, hw'.next hb⟩)) ?_
            (intro K k; go_simp; apply k; clear k K)
            refine q_move rfl (.tmp 10) rfl ?_
            (intro K k; go_simp; apply k; clear k K)
            refine q_move rfl (.tmp 13) rfl ?_
            (intro K k; go_simp; apply k; clear k K)
            refine Want.qv0 (.pointer (some ⟨bx, ox + i * 64, none⟩)) ?_
            (intro K k; go_simp; apply k; clear k K)
            refine Want.qv0 (.pointer (some ⟨bx, ox + i * 64, none⟩)) ?_
            (intro K k; go_simp; apply k; clear k K)
            refine q_part rfl 34 (.tmp 54) rfl bx ((ox + i * 64)) rfl (cells8 d) _ (fun w' hw' => hfk.out w' (hbe.out.trans (hw'.below.mono hbe.out.size))) Tryz.underlying34 rfl sK.out ?_
            (intro K k; go_simp; apply k; clear k K)
            refine q_val (v := .bool false) rfl (fun w' hw' => run_cmp rfl rfl rfl RefRing.qDR (hqE.out w')) ?_
            (intro K k; go_simp; apply k; clear k K)
            refine q_nil ?_
            intro w7 hw7
            have b67 : Hid (Below wr.heap.size wr w7) := hw7.below
            have hb7 : Hid (Below w3.heap.size w3 w7) := hbe.out.trans (hw7.below.mono hbe.out.size)
            have bb7 : Hid (Below w.heap.size w w7) := bbr.out.trans (hw7.below.mono bbr.out.size)
            clear hw7
            go_upto_region 15 with fail
            by_cases hc0 : kc = 0
            · subst hc0
              have m1 : Hid (m2 + 1 ≤ maxLen) := by show _ ≤ _; have := hm2.out; unfold maxLen; omega
              have m2' : Hid ((m2 + 1) * 32 ≤ 140737488355328) := by show _ ≤ _; have := hm2.out; omega
              refine q_region (Class w7) (by kernel_rfl) (by kernel_rfl) (Class.mk_ ((Below.refl _ _).drew)) ?_
              refine Want.qv0 (.pointer (some ⟨w.heap.size, 0, none⟩)) ?_
              (intro K k; go_simp; apply k; clear k K)
              refine q_part rfl 36 (.tmp 57) rfl w.heap.size (0) rfl (headCells h) _ (fun w' hw' => hfh.out w' (hb7.out.trans (hw'.below.mono hb7.out.size))) Tryz.underlying36 rfl hsz.out ?_
              (intro K k; go_simp; apply k; clear k K)
              refine q_move rfl (.tmp 10) rfl ?_
              (intro K k; go_simp; apply k; clear k K)
              refine q_move rfl (.tmp 13) rfl ?_
              (intro K k; go_simp; apply k; clear k K)
              refine Want.qv0 (.pointer (some ⟨bx, ox + i * 64, none⟩)) ?_
              (intro K k; go_simp; apply k; clear k K)
              refine q_part rfl 56 (.tmp 61) rfl bx ((ox + i * 64)) rfl (cells8 x) _ (fun w' hw' => hfx.out w' (hb7.out.trans (hw'.below.mono hb7.out.size))) Tryz.underlying56 rfl s64.out ?_
              (intro K k; go_simp; apply k; clear k K)
              refine q_move rfl (.tmp 0) rfl ?_
              (intro K k; go_simp; apply k; clear k K)
              refine q_move rfl (.tmp 14) rfl ?_
              (intro K k; go_simp; apply k; clear k K)
              refine Want.qv0 (.pointer (some ⟨b, o + j, none⟩)) ?_
              (intro K k; go_simp; apply k; clear k K)
              refine q_val (v := .slice Ak k ck) rfl (fun w' hw' => by have hc := hca.out w' (bb7.out.trans (hw'.below.mono bb7.out.size)); go_simp) ?_
              (intro K k; go_simp; apply k; clear k K)
              refine q_fn (v := .int .i64 0) (args := #[.agg (headCells h).toArray, .agg (cells8 x).toArray, .slice Ak k ck]) rfl _ _ rfl rfl Tryz.func52 (by kernel_rfl) (by kernel_rfl) (fun w' hw' => ((hCk.out w' (bb7.out.trans (hw'.below.mono bb7.out.size))).mono fun e w'' ⟨he, hb⟩ => ⟨he, hw'.next hb⟩)) ?_
              (intro K k; go_simp; apply k; clear k K)
              refine Want.qv0 (.bool false) ?_
              (intro K k; go_simp; apply k; clear k K)
              refine q_nil ?_
              intro w8 hw8
              have b68 : Hid (Below wr.heap.size wr w8) := b67.out.trans (hw8.below.mono b67.out.size)
              have hb8 : Hid (Below w3.heap.size w3 w8) := hb7.out.trans (hw8.below.mono hb7.out.size)
              have bb8 : Hid (Below w.heap.size w w8) := bb7.out.trans (hw8.below.mono bb7.out.size)
              clear hw8
              go_wp2_with (first
    | (((with_reducible change wpList _ _ _ (⟨some 74, _, _, _, _, _⟩ :: _) _ _); refine wpList_load_part (o := ⟨some 74, _, _, _, _, _⟩) rfl 34 (.tmp 73) rfl (bx) ((ox + i * 64)) rfl (cells8 d) _ (hfk.out w8 hb8.out) Tryz.underlying34 rfl sK.out ?_))
    | ((with_reducible change wpList _ _ _ (⟨some 75, _, _, _, _, _⟩ :: _) _ _); refine wpList_buildAggs (o := ⟨some 75, _, _, _, _, _⟩) rfl 73 34 1 _ rfl 32 (by decide) [cells8 d] Tryz.underlying73 size32v zero32v rfl (by decide) (by decide) q1.out rfl ?_; have hX : Hid (Reads (w8.alloc (.cells ([cells8 d].flatten).toArray 34)) 32 (some ⟨w8.heap.size, 0, none⟩) 1 (cells8 d)) := reads_oneN w8 (by rw [cells8_len, hkl.out]); have b47 : Hid (Below wr.heap.size wr (w8.alloc (.cells ([cells8 d].flatten).toArray 34))) := b68.out.alloc b68.out.size _; have hO7 := Lib.hid (own_below hO.out b47.out); have be7 : Hid (Below w3.heap.size w3 (w8.alloc (.cells ([cells8 d].flatten).toArray 34))) := hb8.out.alloc hb8.out.size _; have bs7 : Hid (w3.heap.size ≤ (w8.alloc (.cells ([cells8 d].flatten).toArray 34)).heap.size) := be7.out.size)
    | ((with_reducible change wpList _ _ _ (⟨some 76, _, _, _, _, _⟩ :: _) _ _); refine wpList_append_src _ (o := ⟨some 76, _, _, _, _, _⟩) rfl (.tmp 69) (.tmp 75) 73 rfl w3.heap.size 34 i0 (.agg Z32) 32 32 Tryz.underlying73 ii iz0 iz1 iz2 rfl (by decide) (.slice A2 m2 c2) m2 (ids2.flatMap cells8) rfl hO7.out (some ⟨w8.heap.size, 0, none⟩) 1 1 (cells8 d) rfl hX.out (fun e => by cases e) (cells8_one _) m1.out m2'.out bs7.out ?_; intro v9 w9 hG; have hO9' := ids_grown hG; have hb9 : Hid (Below w3.heap.size w3 w9) := hG.below be7.out bs7.out (fun k e => own_at hO7.out k e); obtain ⟨A9, c9, rfl, -⟩ := Own.reads hO9'; have hO9 := Lib.hid hO9'; clear hG hO9'))

              go_roundw
              case rel => exact ⟨j + 1, m2 + 1, c9, A9, ids2 ++ [d], by go_num, rfl, hjt'.out, (by show _ = _; rw [List.length_append, hil2.out]; rfl), (fun y hy => by rcases List.mem_append.1 hy with hy | hy; exact hid2.out y hy; simp only [List.mem_singleton] at hy; rw [hy]; exact hkl.out), hO9.out, .inr ⟨q, hhit.out, hkC.out, rfl⟩, hb9.out⟩
              case measure => (have := hjt'.out; simp [intOf]; omega)
            · have hkz : (kc != 0) = true := by simpa using hc0
              have ha : Hid (verAns es h ss least = (none, 161)) := by show _ = _; rw [hvE.out, ← hvf.out, ver_bad (hvf.out.trans hv.out) hx.out (by rw [hd.out]; exact pick_end hhit.out) (by rw [hkC.out]; exact hc0)]; rfl
              refine q_region (Class w7) (by kernel_rfl) (by kernel_rfl) (Class.mk_ ((Below.refl _ _).drew)) ?_
              refine Want.qv0 (.pointer (some ⟨w.heap.size, 0, none⟩)) ?_
              (intro K k; go_simp; apply k; clear k K)
              refine q_part rfl 36 (.tmp 57) rfl w.heap.size (0) rfl (headCells h) _ (fun w' hw' => hfh.out w' (hb7.out.trans (hw'.below.mono hb7.out.size))) Tryz.underlying36 rfl hsz.out ?_
              (intro K k; go_simp; apply k; clear k K)
              refine q_move rfl (.tmp 10) rfl ?_
              (intro K k; go_simp; apply k; clear k K)
              refine q_move rfl (.tmp 13) rfl ?_
              (intro K k; go_simp; apply k; clear k K)
              refine Want.qv0 (.pointer (some ⟨bx, ox + i * 64, none⟩)) ?_
              (intro K k; go_simp; apply k; clear k K)
              refine q_part rfl 56 (.tmp 61) rfl bx ((ox + i * 64)) rfl (cells8 x) _ (fun w' hw' => hfx.out w' (hb7.out.trans (hw'.below.mono hb7.out.size))) Tryz.underlying56 rfl s64.out ?_
              (intro K k; go_simp; apply k; clear k K)
              refine q_move rfl (.tmp 0) rfl ?_
              (intro K k; go_simp; apply k; clear k K)
              refine q_move rfl (.tmp 14) rfl ?_
              (intro K k; go_simp; apply k; clear k K)
              refine Want.qv0 (.pointer (some ⟨b, o + j, none⟩)) ?_
              (intro K k; go_simp; apply k; clear k K)
              refine q_val (v := .slice Ak k ck) rfl (fun w' hw' => by have hc := hca.out w' (bb7.out.trans (hw'.below.mono bb7.out.size)); go_simp) ?_
              (intro K k; go_simp; apply k; clear k K)
              refine q_fn (v := .int .i64 kc) (args := #[.agg (headCells h).toArray, .agg (cells8 x).toArray, .slice Ak k ck]) rfl _ _ rfl rfl Tryz.func52 (by kernel_rfl) (by kernel_rfl) (fun w' hw' => ((hCk.out w' (bb7.out.trans (hw'.below.mono bb7.out.size))).mono fun e w'' ⟨he, hb⟩ => ⟨he, hw'.next hb⟩)) ?_
              (intro K k; go_simp; apply k; clear k K)
              refine Want.qv0 (.bool true) ?_
              (intro K k; go_simp; apply k; clear k K)
              refine q_nil ?_
              intro w8 hw8
              have b68 : Hid (Below wr.heap.size wr w8) := b67.out.trans (hw8.below.mono b67.out.size)
              have hb8 : Hid (Below w3.heap.size w3 w8) := hb7.out.trans (hw8.below.mono hb7.out.size)
              have bb8 : Hid (Below w.heap.size w w8) := bb7.out.trans (hw8.below.mono bb7.out.size)
              clear hw8
              go_wp2_with fail
              go_ret2
              exact out_ver ha.out bb8.out rfl
          · have hqE : Hid (∀ w', (binOp .neq 34 (.agg (cells8 dq).toArray) (.agg (cells8 d).toArray)).run Tryz.prog w' = .ok (.bool true) w') := fun w' => by rw [neq_dig _ _ hla.out hkl.out, decide_eq_false hde]; rfl
            have hpk2 : Hid ((pick (es.take (j + 1)) d = none ∧ ids2 = ids) ∨ (∃ q, pick (es.take (j + 1)) d = some q ∧ checkAns h x q = 0 ∧ ids2 = ids ++ [d])) := by
              show _ ∨ _
              rw [pick_miss hq.out (fun e => hde (hdq.out.symm.trans e))]
              exact hpk.out
            clear hde hpk
            refine q_region (Class wr) (by kernel_rfl) (by kernel_rfl) (Class.mk_ ((Below.refl _ _).drew)) ?_
            refine q_move rfl (.tmp 0) rfl ?_
            (intro K k; go_simp; apply k; clear k K)
            refine q_move rfl (.tmp 14) rfl ?_
            (intro K k; go_simp; apply k; clear k K)
            refine Want.qv0 (.pointer (some ⟨b, o + j, none⟩)) ?_
            (intro K k; go_simp; apply k; clear k K)
            refine q_val (v := .slice Ak k ck) rfl (fun w' hw' => by have hc := hca.out w' (bbr.out.trans (hw'.below.mono bbr.out.size)); go_simp) ?_
            (intro K k; go_simp; apply k; clear k K)
            refine q_fn (v := .agg (cells8 dq).toArray) (args := #[.slice Ak k ck]) rfl _ _ rfl rfl Tryz.func26 (by kernel_rfl) (by kernel_rfl) (fun w' hw' => ((hIq.out w' (bbr.out.trans (hw'.below.mono bbr.out.size))).mono fun e w'' ⟨he, hb⟩ => ⟨he, hw'.next hb⟩)) ?_
            (intro K k; go_simp; apply k; clear k K)
            refine q_move rfl (.tmp 10) rfl ?_
            (intro K k; go_simp; apply k; clear k K)
            refine q_move rfl (.tmp 13) rfl ?_
            (intro K k; go_simp; apply k; clear k K)
            refine Want.qv0 (.pointer (some ⟨bx, ox + i * 64, none⟩)) ?_
            (intro K k; go_simp; apply k; clear k K)
            refine Want.qv0 (.pointer (some ⟨bx, ox + i * 64, none⟩)) ?_
            (intro K k; go_simp; apply k; clear k K)
            refine q_part rfl 34 (.tmp 54) rfl bx ((ox + i * 64)) rfl (cells8 d) _ (fun w' hw' => hfk.out w' (hbe.out.trans (hw'.below.mono hbe.out.size))) Tryz.underlying34 rfl sK.out ?_
            (intro K k; go_simp; apply k; clear k K)
            refine q_val (v := .bool true) rfl (fun w' hw' => run_cmp rfl rfl rfl RefRing.qDR (hqE.out w')) ?_
            (intro K k; go_simp; apply k; clear k K)
            refine q_nil ?_
            intro w7 hw7
            have b67 : Hid (Below wr.heap.size wr w7) := hw7.below
            have hb7 : Hid (Below w3.heap.size w3 w7) := hbe.out.trans (hw7.below.mono hbe.out.size)
            have bb7 : Hid (Below w.heap.size w w7) := bbr.out.trans (hw7.below.mono bbr.out.size)
            clear hw7
            have hO7 := Lib.hid (own_below hO.out (b67.out))
            go_wp2_with fail
            go_roundw
            case rel => exact ⟨j + 1, m2, c2, A2, ids2, by go_num, rfl, hjt'.out, hil2.out, hid2.out, hO7.out, hpk2.out, hb7.out⟩
            case measure => (have := hjt'.out; simp [intOf]; omega)
        · have hy : ¬ ((j : Int) < (p : Int)) := by omega
          have hpe := Lib.hid (pick_all (keys := es) (j := j) (by rw [hp0.out]; omega) d)
          clear hjt
          rcases hpk.out with ⟨hno, rfl⟩ | ⟨q, hyes, hck0, rfl⟩
          · have hv' : Hid (vf = (verF es h (rs.drop (i + 1))).map (ids2 ++ ·)) := hvf.out.symm.trans (ver_skip (hvf.out.trans hv.out) hx.out (by rw [hd.out, ← hpe.out]; exact hno))
            have hmm : Hid (m2 ≤ i + 1) := by show _ ≤ _; have h1 := hil.out; have h2 := hil2.out; have := hmi.out; omega
            clear hno hpk hpe
            go_wp2_with fail
            go_roundw
            case rel => exact ⟨i + 1, m2, c2, A2, ids2, by go_num, rfl, hlt'.out, hmm.out, hil2.out, hid2.out, hO.out, hv'.out, hbe.out⟩
            case measure => (have := hlt'.out; simp [intOf]; omega)
          · have hv' : Hid (vf = (verF es h (rs.drop (i + 1))).map (ids ++ [d] ++ ·)) := by
              have := ver_take (hvf.out.trans hv.out) hx.out (q := q) (by rw [hd.out, ← hpe.out]; exact hyes) hck0
              rw [hd.out] at this
              exact hvf.out.symm.trans this
            have hmm : Hid (m2 ≤ i + 1) := by show _ ≤ _; have h1 := hil.out; have h2 := hil2.out; rw [List.length_append, List.length_singleton] at h2; have := hmi.out; omega
            clear hyes hck0 hpk hpe
            go_wp2_with fail
            go_roundw
            case rel => exact ⟨i + 1, m2, c2, A2, ids ++ [d], by go_num, rfl, hlt'.out, hmm.out, hil2.out, hid2.out, hO.out, hv'.out, hbe.out⟩
            case measure => (have := hlt'.out; simp [intOf]; omega)
    · have hz : ¬ ((i : Int) < (n : Int)) := by omega
      have hdn : Hid (vf = some ids) := hvf.out.symm.trans (ver_done (hvf.out.trans hv.out) (by rw [hS3.out.len]; omega))
      clear hlt
      by_cases hml : (m : Int) < least
      · have ha : Hid (verAns es h ss least = (none, 7)) := by show _ = _; rw [hvE.out, hdn.out]; show (if _ then _ else _) = _; rw [if_pos (by rw [hil.out]; exact hml)]
        go_wp2_with fail
        go_ret2
        exact out_ver ha.out bbr.out rfl
      · have ha : Hid (verAns es h ss least = (some ids, 0)) := by show _ = _; rw [hvE.out, hdn.out]; show (if _ then _ else _) = _; rw [if_neg (by rw [hil.out]; exact hml)]
        go_wp2_with fail
        go_ret2
        exact out_ver ha.out bbr.out ⟨hid.out, by rw [hil.out]; exact ownsRow_base hO.out bb3.out.size⟩
end Go.Proofs.YtfbhjoejffagjaaGreatDoor.RefVerify

namespace Go.Proofs.YtfbhjoejffagjaaGreatDoor.Asked
open Go Go.RowKit Go.Proofs.YtfbhjoejffagjaaGreatDoor Mem Sha Bytes SortP NoteP QuietTail Grown Want Guard2 Go.Proofs.YtfbhjoejffagjaaGreatDoor.Append Own Rise SortM SgM HashMem HeadMem EncNoteP EncNote RowS NoteM SignEq CmpW SameSigns Stranger Given Kept16 HeadTake HeadTake2 Decode Signs TreeMem SameIDs RingM RingS NewRing VerP Verify RingP RefRing RefVerify IdsR AddP HeadAdds

set_option maxRecDepth 100000 in
set_option maxHeartbeats 8000000 in
theorem asked_any (es : List Text) (p : Nat) (hp : es.length = p) (hp100 : p ≤ 1000) (hap : apartB es = true) (Ap : Option Addr) (cp : Nat) (l : List KD) (hpm : (l.map (·.q)).Perm es) (hst : Strict idK l) (hl64 : l.length ≤ 64) (hkb : ∀ x ∈ l, keyB x.q.length = true) (R : Nat) (h : HeadD) (ok : h.Ok) (ss : List Text) (n : Nat) (hn : n ≤ 100) (A : Option Addr) (c : Nat) (least : Int) (w : World) (hB : Base w) (hR : RingAt w R l) (hS : Sgs w A n ss) (hP : Pieces w Ap es) (hsh : ∀ q ∈ es, q.length < 140737488355228) :
  Calls Tryz.prog 12 #[.pointer (some ⟨R, 0, none⟩), .slice Ap p cp, .agg (noteCells h (.slice A n c)).toArray, .int .i64 least] w fun e w' => e = .returned (.bool true) ∧ Below w.heap.size w w' := by
 obtain ⟨w0, hw0⟩ : ∃ w0, w.alloc (.cells (noteCells h (.slice A n c)).toArray 39) = w0 := ⟨_, rfl⟩
 have N0 : Hid (NoteAt w0 w.heap.size h A n c ss) := by show NoteAt _ _ _ _ _ _ _; rw [← hw0]; exact NoteAt.new hS
 have hb0 : Hid (Below w.heap.size w w0) := by show Below _ _ _; rw [← hw0]; exact Below.heap_below w _
 have hPs : Hid (∀ w', Below w.heap.size w w' → Pieces w' Ap es) := fun w' hb => hP.below hb
 have hBs : Hid (∀ w', Below w.heap.size w w' → Base w') := fun w' hb => hB.below hb hB.1
 have hRs : Hid (∀ w', Below w.heap.size w w' → RingAt w' R l) := fun w' hb => hR.below hb
 have zN := Lib.hid (fun v => note_size ok v)
 have oN := Lib.hid (fun A n c => note_one (h := h) A n c)
 have s0N := Lib.hid (fun v => note_zero ok v)
 have ok' := Lib.hid ok
 have hp0 := Lib.hid hp
 have hp1 := Lib.hid hp100
 have hap0 := Lib.hid hap
 have hn0 := Lib.hid hn
 have hsh0 := Lib.hid hsh
 have hpm0 := Lib.hid hpm
 have hst0 := Lib.hid hst
 have hl0 := Lib.hid hl64
 have hkb0 := Lib.hid hkb
 obtain ⟨o20, k20, hva⟩ : ∃ o20 k20, Hid (verAns es h ss least = (o20, k20)) := ⟨_, _, rfl⟩
 obtain ⟨r20, hr20⟩ : ∃ r20, Hid (o20.getD [] = r20) := ⟨_, Lib.hid rfl⟩
 obtain ⟨m20, hm20⟩ : ∃ m20, Hid (r20.length = m20) := ⟨_, Lib.hid rfl⟩
 have hm20b : Hid (m20 ≤ 100) := by
  show _ ≤ _
  have x1 := ver_len es h ss least
  rw [hva.out] at x1
  have x2 : ss.length = n := hS.len
  rw [← hm20.out, ← hr20.out]
  exact Nat.le_trans x1 (by omega)
 clear hS hB hR hP ok hp hp100 hap hn hsh hpm hst hl64 hkb
 go_enter Tryz.func12, Tryz.ntmps12
 go_wp2_with (first
  | (((with_reducible change wpList _ _ _ (⟨some 14, _, _, _, _, _⟩ :: _) _ _); refine wpList_load_row (o := ⟨some 14, _, _, _, _, _⟩) rfl 39 (.tmp 6) rfl (w.heap.size) rfl 39 ((noteCells h (.slice A n c)).toArray) (0, 0) _ N0.out.blk Tryz.underlying39 rfl (zN.out _) ?_))
  | (go_at_call 27; refine (given_any h ok'.out ss n (by have := hn0.out; omega) A c w0 N0.out.sgs).mono ?_; rintro e w1 ⟨g, rfl, -, hG1, hb⟩; have N1 := Lib.hid (N0.out.below hb); have G1 := Lib.hid hG1; have bb1 : Hid (Below w.heap.size w w1) := hb0.out.trans (hb.mono hb0.out.size); clear hb hG1 N0 hb0 hw0)
  | ((with_reducible change wpList _ _ _ ({ dst := none, op := Op.store 39 (.tmp 9) (.tmp 15), type := _, pos := _, after := _, guard := _ } :: _) _ _); refine wpList_store_all (o := ⟨none, _, _, _, _, _⟩) rfl 39 (.tmp 9) (.tmp 15) rfl w1.heap.size (noteCells h (.slice (some ⟨g, 0, none⟩) n (n + 40))).toArray rfl rfl 39 Z99 (Blk.new w1 _ _) (zN.out _) (s0N.out _) (oN.out _ _ _) ?_; intro w2 hB2 hk2; have hb := below_new hk2; have M2 : Hid (NoteAt w2 w1.heap.size h (some ⟨g, 0, none⟩) n (n + 40) ss) := ⟨hB2.out, (G1.out.below hb).rd N1.out.sgs.all N1.out.sgs.len⟩; have N2 := Lib.hid (N1.out.below hb); have G2 := Lib.hid (G1.out.below hb); have bb2 : Hid (Below w.heap.size w w2) := bb1.out.trans (hb.mono bb1.out.size); clear hb N1 G1 bb1; clear hk2 hB2; generalize w1.heap.size = g9 at *)
  | (((with_reducible change wpList _ _ _ (⟨some 18, _, _, _, _, _⟩ :: _) _ _); refine wpList_load_row (o := ⟨some 18, _, _, _, _, _⟩) rfl 39 (.tmp 9) rfl (g9) rfl 39 ((noteCells h (.slice (some ⟨g, 0, none⟩) n (n + 40))).toArray) (0, 0) _ M2.out.blk Tryz.underlying39 rfl (zN.out _) ?_))
  | (go_at_call 28; refine (verify_any es l hpm0.out hst0.out hl0.out hkb0.out h ok'.out ss n (some ⟨g, 0, none⟩) (n + 40) (fun e => by cases e) least R w2 (hBs.out w2 bb2.out) (hRs.out w2 bb2.out) M2.out.sgs).mono ?_; intro e w3 hV; obtain ⟨v3, rfl, hb, hI⟩ := hV; rw [hva.out] at hI ⊢; obtain ⟨A20, c20, rfl, hI3⟩ := ids_reads hI; rw [hr20.out, hm20.out] at hI3 ⊢; replace hI3 := Lib.hid hI3; have N3 := Lib.hid (N2.out.below hb); have G3 := Lib.hid (G2.out.below hb); have M3 := Lib.hid (M2.out.below hb); have bb3 : Hid (Below w.heap.size w w3) := bb2.out.trans (hb.mono bb2.out.size); clear hb N2 G2 M2 bb2; clear hI)
  | (((with_reducible change wpList _ _ _ (⟨some 25, _, _, _, _, _⟩ :: _) _ _); refine wpList_load_row (o := ⟨some 25, _, _, _, _, _⟩) rfl 39 (.tmp 6) rfl (w.heap.size) rfl 39 ((noteCells h (.slice A n c)).toArray) (0, 0) _ N3.out.blk Tryz.underlying39 rfl (zN.out _) ?_))
  | (go_at_call 29; refine (refverify_any es p hp0.out hp1.out hap0.out Ap cp h ok'.out ss n A c least w3 N3.out.sgs (hPs.out w3 bb3.out) hsh0.out).mono ?_; intro e w4 hV; obtain ⟨v4, rfl, hb, hI⟩ := hV; rw [hva.out] at hI ⊢; obtain ⟨A21, c21, rfl, hJ4⟩ := ids_reads hI; rw [hr20.out, hm20.out] at hJ4 ⊢; replace hJ4 := Lib.hid hJ4; have hI4 := Lib.hid (hI3.out.below hb); have N4 := Lib.hid (N3.out.below hb); have G4 := Lib.hid (G3.out.below hb); have M4 := Lib.hid (M3.out.below hb); have bb4 : Hid (Below w.heap.size w w4) := bb3.out.trans (hb.mono bb3.out.size); clear hb N3 G3 M3 bb3; clear hI hI3)
  | (go_at_call 30; refine (sameIDs_any r20 m20 (by have := hm20b.out; omega) A20 A21 c20 c21 w4 hI4.out hJ4.out).mono ?_; rintro e wX ⟨rfl, nX, rfl⟩; have hb : Below w4.heap.size w4 (w4.drewN nX) := below_drawn (Below.refl _ _) nX; have N5 := Lib.hid (N4.out.below hb); have G5 := Lib.hid (G4.out.below hb); have M5 := Lib.hid (M4.out.below hb); have bb5 : Hid (Below w.heap.size w (w4.drewN nX)) := bb4.out.trans (hb.mono bb4.out.size); clear hb N4 G4 M4 bb4 hI4 hJ4; generalize w4.drewN nX = w5 at *)
  | ((with_reducible change wpList _ _ _ (⟨some 39, _, _, _, _, _⟩ :: _) _ _); (with_reducible refine Veil.out ?_); refine wpList_rowW (o := ⟨some 39, _, _, _, _, _⟩) rfl 39 (.tmp 9) rfl (g9) rfl 39 ((noteCells h (.slice (some ⟨g, 0, none⟩) n (n + 40))).toArray) (0, 0) _ M5.out.blk Tryz.underlying39 rfl (zN.out _) ?_)
  | ((with_reducible change wpList _ _ _ (⟨some 40, _, _, _, _, _⟩ :: _) _ _); (with_reducible refine Veil.out ?_); refine wpList_rowW (o := ⟨some 40, _, _, _, _, _⟩) rfl 39 (.tmp 6) rfl (w.heap.size) rfl 39 ((noteCells h (.slice A n c)).toArray) (0, 0) _ N5.out.blk Tryz.underlying39 rfl (zN.out _) ?_)
  | (go_at_call 31; refine (kept_any h ok'.out ss n (by have := hn0.out; omega) g A c w5 G5.out N5.out.sgs).mono ?_; rintro e w8 ⟨rfl, hb⟩; have bb8 : Hid (Below w.heap.size w w8) := bb5.out.trans (hb.mono bb5.out.size); clear hb))

 go_ret
 exact ⟨rfl, bb8.out⟩
end Go.Proofs.YtfbhjoejffagjaaGreatDoor.Asked

namespace Go.Proofs.YtfbhjoejffagjaaGreatDoor.Lists
open Go Go.RowKit Go.Proofs.YtfbhjoejffagjaaGreatDoor Mem Sha Bytes QuietTail Grown Want Go.Proofs.YtfbhjoejffagjaaGreatDoor.Append Own Held Law16 RingS RefRing Lst

end Go.Proofs.YtfbhjoejffagjaaGreatDoor.Lists

namespace Go.Proofs.YtfbhjoejffagjaaGreatDoor.Spoil
open Go Go.RowKit Go.Proofs.YtfbhjoejffagjaaGreatDoor Mem Sha Bytes QuietTail Grown Want Go.Proofs.YtfbhjoejffagjaaGreatDoor.Append Own Held Law16 RingS RefRing Lst Lists

theorem size1u : (Tryz.prog.info? 5).map (·.size) = some 1 := by kernel_rfl
end Go.Proofs.YtfbhjoejffagjaaGreatDoor.Spoil

namespace Go.Proofs.YtfbhjoejffagjaaGreatDoor.HeadRings
open Go Go.RowKit Go.Proofs.YtfbhjoejffagjaaGreatDoor Mem Sha Bytes SortP NoteP QuietTail Grown Want Guard2 Go.Proofs.YtfbhjoejffagjaaGreatDoor.Append Own Rise SortM SgM HashMem HeadMem EncNoteP EncNote RowS NoteM CmpW Kept16 HeadTake HeadTake2 Decode Signs RingM RingS NewRing VerP Verify RingP RefRing RefVerify Asked Law16 Lst Lists Spoil

structure AskD where
 h : HeadD
 A : Option Addr
 n : Nat
 c : Nat
 ss : List Text
 least : Int
def askC (x : AskD) : List Value := noteCells x.h (.slice x.A x.n x.c) ++ [.int .i64 x.least]
structure AsksAt (w : World) (A : Option Addr) (n : Nat) (l : List AskD) : Prop where
 len : l.length = n
 ok : ∀ x ∈ l, x.h.Ok ∧ x.n ≤ x.c ∧ Sgs w x.A x.n x.ss
 rd : Reads w 100 A n (l.flatMap askC)
theorem AsksAt.below {w w' : World} {A : Option Addr} {n : Nat} {l : List AskD} (h : AsksAt w A n l) (hb : Below w.heap.size w w') : AsksAt w' A n l := ⟨h.len, fun x hx => ⟨(h.ok x hx).1, (h.ok x hx).2.1, (h.ok x hx).2.2.below hb⟩, h.rd.below hb⟩
theorem askC_len {x : AskD} (ok : x.h.Ok) : (askC x).length = 100 := by unfold askC; rw [List.length_append, noteCells_len ok]; rfl
theorem flat_at100 : ∀ (l : List AskD), (∀ x ∈ l, x.h.Ok) → ∀ (i : Nat) (x : AskD) (j : Nat), l[i]? = some x → j < 100 → (l.flatMap askC)[i * 100 + j]? = (askC x)[j]?
 | [], _, i, x, j, h, _ => by cases h
 | s :: l, hl, i, x, j, h, hj => by
  have hs : (askC s).length = 100 := askC_len (hl s (by simp))
  rw [List.flatMap_cons]
  cases i with
  | zero =>
   obtain rfl : s = x := Option.some.inj h
   rw [Nat.zero_mul, Nat.zero_add, List.getElem?_append_left (by omega)]
  | succ i =>
   rw [List.getElem?_append_right (by omega), hs, show (i + 1) * 100 + j - 100 = i * 100 + j by omega]
   exact flat_at100 l (fun t ht => hl t (by simp [ht])) i x j h hj
theorem AsksAt.at_ {w : World} {A : Option Addr} {n i : Nat} {l : List AskD} {x : AskD} (h : AsksAt w A n l) (hx : l[i]? = some x) : ∃ b o, A = some ⟨b, o, none⟩ ∧ b < w.heap.size ∧ (∀ (j : Nat) (u : Value), (noteCells x.h (.slice x.A x.n x.c))[j]? = some u → w.cell? ⟨b, o + i * 100 + j, none⟩ = some u) ∧ w.cell? ⟨b, o + i * 100 + 99, none⟩ = some (.int .i64 x.least) := by
 have hi : i < l.length := (List.getElem?_eq_some_iff.1 hx).1
 obtain ⟨b, o, e, hb, hc⟩ := h.rd.2 (by have := h.len; omega)
 have hxo := (h.ok x (List.mem_of_getElem? hx)).1
 have hln := noteCells_len hxo (.slice x.A x.n x.c)
 refine ⟨b, o, e, hb, fun j u hu => ?_, ?_⟩
 ·have hj : j < 99 := by have := (List.getElem?_eq_some_iff.1 hu).1; omega
  rw [Nat.add_assoc]
  refine hc _ u ?_
  have := flat_at100 l (fun y hy => (h.ok y hy).1) i x j hx (by omega)
  rw [Nat.mul_comm] at this
  first
   | (rw [this]; unfold askC; rw [List.getElem?_append_left (by omega)]; exact hu)
   | (rw [Nat.mul_comm, this]; unfold askC; rw [List.getElem?_append_left (by omega)]; exact hu)
 ·rw [Nat.add_assoc]
  refine hc _ _ ?_
  have := flat_at100 l (fun y hy => (h.ok y hy).1) i x 99 hx (by omega)
  rw [Nat.mul_comm] at this
  first
   | (rw [this]; unfold askC; rw [List.getElem?_append_right (by omega), hln]; rfl)
   | (rw [Nat.mul_comm, this]; unfold askC; rw [List.getElem?_append_right (by omega), hln]; rfl)
def RingFact (w : World) (k : Int) (v : Value) (B : Nat) (es : List Text) : Prop := k = 0 → ∃ l, v = .pointer (some ⟨B, 0, none⟩) ∧ RingOwn w B B l ∧ (l.map (·.q)).Perm es ∧ Strict idK l
theorem RingFact.below {w w' : World} {k : Int} {v : Value} {B : Nat} {es : List Text} (h : RingFact w k v B es) (hb : Below w.heap.size w w') : RingFact w' k v B es := fun e => by
 obtain ⟨l, h1, h2, h3⟩ := h e
 exact ⟨l, h1, h2.below hb, h3⟩
theorem RingFact.kept {S : Nat → Prop} {w w' : World} {k : Int} {v : Value} {B : Nat} {es : List Text} (h : RingFact w k v B es) (hk : Kept S w w') (hS : ∀ k, S k → k < B) : RingFact w' k v B es := fun e => by
 obtain ⟨l, h1, h2, h3⟩ := h e
 exact ⟨l, h1, h2.kept hk hS, h3⟩
theorem ring_ok2 {ks : List Text} {k : Int} (hk : k = ringAns ks) (h0 : k = 0) : ks.length ≤ 64 ∧ keysB ks = true ∧ apartB ks = true := by
 rw [h0] at hk
 unfold ringAns at hk
 split at hk
 ·cases hk
 ·split at hk
  ·split at hk
   ·exact ⟨by omega, by assumption, by assumption⟩
   ·cases hk
  ·cases hk
theorem pieces_take16 {w : World} {A : Option Addr} {es : List Text} (h : Pieces w A es) (k : Nat) : Pieces w A (es.take k) := fun h0 => by
 obtain ⟨b, o, e, hb, hc⟩ := h (by rw [List.length_take] at h0; omega)
 refine ⟨b, o, e, hb, fun i q hq => hc i q ?_⟩
 rw [List.getElem?_take] at hq
 split at hq
 ·exact hq
 ·cases hq
set_option maxRecDepth 100000 in
theorem run_frontR {A : Option Addr} {n c m : Nat} (hm : m ≤ c) (x : Int) (hx : x = m) (w : World) : (Instr.sliceAt 22 (.slice A n c) none (some (.int .i64 x)) none).run Tryz.prog w = .ok (.slice A m c) w := run_headOf Tryz.underlying22 (fun _ => rfl) hm x hx w
end Go.Proofs.YtfbhjoejffagjaaGreatDoor.HeadRings
