/-
  Texts of the claim, put into one file: NewRing.
-/
import Derived.Test.YtgldkfaiofkhbaaGreatDoorZ28
import Derived.Test.YtgldkfaiofkhbaaGreatDoorZ34
import Derived.Test.YtgldkfaiofkhbaaGreatDoorZ11
import Derived.Test.YtgldkfaiofkhbaaGreatDoorZ3
import Derived.LoopN

namespace Go.Proofs.YtgldkfaiofkhbaaGreatDoor.NewRing
open Go Go.RowKit Go.Proofs.YtgldkfaiofkhbaaGreatDoor Mem Sha Bytes SortP QuietTail Compare Grown Want Go.Proofs.YtgldkfaiofkhbaaGreatDoor.Append Own HashMem HeadID Fill SgM Signs Held RingM BinH RingS DigEq

theorem wp_store_oneH {P : Program} {o : Oper} {a : Act} {w : World} {K : Act → World → Prop} {Q : Exit → Act → World → Prop} (ty : TypeId) (x y : Operand) (ho : o.op = .store ty x y)
  (g : Nat) (v : Value) (hx : a.eval x = .pointer (some ⟨g, 0, none⟩)) (hy : a.eval y = v) (h1 : v.oneCell' = true)
  (t : TypeId) (old : Value) (hg : Blk w g t #[old]) (hi : (P.info? ty).map (·.size) = some 1)
  (h : ∀ w', Blk w' g t #[v] → Kept (· = g) w w' → K (a.put o.dst undef) w') : o.wp P a w K Q := by
 unfold Oper.wp execOp
 simp only [ho, hx, hy, Instr.storeAt, Instr.sureAddr, Sem.run_bind, Sem.run_pure, Result.andThen_ok, run_storeVar_one w g t ty old v hg hi h1]
 exact h _ (setRow_heap _ _ _ _ _ _ hg) (Bytes.Kept.setRow (S := (· = g)) (Kept.refl _ w) rfl _)
structure RW (w wr : World) (v : Value) (n : Nat) (l : List KD) : Prop where
 ring : Blk wr w.heap.size 139 #[v]
 row : OwnK wr (w.heap.size + 1) v n l
 keys : ∀ x ∈ l, KeyRow wr (w.heap.size + 1) x
 far : Below w.heap.size w wr
theorem RW.size {w wr : World} {v : Value} {n : Nat} {l : List KD} (h : RW w wr v n l) : w.heap.size + 1 ≤ wr.heap.size := h.ring.lt
theorem RW.below {w wr w' : World} {v : Value} {n : Nat} {l : List KD} (h : RW w wr v n l) (hb : Below wr.heap.size wr w') : RW w w' v n l :=
 ⟨(hb.block _ h.ring.lt).trans h.ring, h.row.below hb, fun x hx => (h.keys x hx).below hb, h.far.trans (hb.mono h.far.size)⟩
theorem keys_grown {w w' : World} {B n m : Nat} {v v' : Value} {l : List KD} {news : List Value} {y : KD} (hO : OwnK w B v n l) (hG : Grew w B 142 33 v n m (l.flatMap encK) news v' w') (h : KeyRow w B y) : KeyRow w' B y := by
 refine h.kept (grew_keptK hG) fun k cur e hBk hb => ?_
 rcases hO.2.2 with ⟨h2, -⟩ | ⟨g, c, cur2, hv, hBg, hg, -⟩
 ·rw [h2] at e; cases e
 ·rw [hv] at e
  have e : some k = some g := e
  injection e with e
  subst e
  exact blk_no hg hb
theorem RW.push {w w11 w12 : World} {v11 : Value} {n : Nat} {l : List KD} {x : KD} {u : Value} (hf : Below w.heap.size w w11) (hO : OwnK w11 (w.heap.size + 1) v11 (n + 1) (l ++ [x])) (hK : ∀ y ∈ l ++ [x], KeyRow w11 (w.heap.size + 1) y)
  (hB : Blk w12 w.heap.size 139 #[u]) (hu : u = v11) (hk : Kept (· = w.heap.size) w11 w12) : RW w w12 v11 (n + 1) (l ++ [x]) := by
 subst hu
 refine ⟨hB, hO.off hk (fun k e => by omega), fun y hy => (hK y hy).kept hk (fun k cur e hBk _ => by omega), hf.trans (Kept.below_of hk (Nat.le_refl _) hf.size)⟩
theorem RW.sorted {w wr w' : World} {g n c : Nat} {l ds : List KD} (h : RW w wr (.slice (some ⟨g, 0, none⟩) n c) n l) (hp : ds.Perm l) (hO : OwnK w' (w.heap.size + 1) (.slice (some ⟨g, 0, none⟩) n c) n ds) (hk : Kept (· = g) wr w') : RW w w' (.slice (some ⟨g, 0, none⟩) n c) n ds := by
 have hg : w.heap.size + 1 ≤ g := own_atK h.row g rfl
 obtain ⟨cur, hcur⟩ := h.row.blk
 refine ⟨h.ring.kept hk (fun e => by omega), hO, fun x hx => (h.keys x (hp.mem_iff.1 hx)).kept hk (fun k cur2 e _ hb => by subst e; exact blk_no hcur hb), h.far.trans (Kept.below_of hk (by omega) h.far.size)⟩
structure RingOwn (w : World) (B R : Nat) (l : List KD) : Prop where
 base : B ≤ R
 ring : ∃ A c, Blk w R 139 #[.slice A l.length c] ∧ OwnK w B (.slice A l.length c) l.length l
 keys : ∀ x ∈ l, KeyRow w B x
theorem RingOwn.at_ {w : World} {B R : Nat} {l : List KD} (h : RingOwn w B R l) : RingAt w R l := by
 obtain ⟨A, c, h1, h2⟩ := h.ring
 obtain ⟨A2, c2, e, h3, -, -, h4, -⟩ := h2.reads
 injection e with e1 _ e2
 subst e1 e2
 exact ⟨A, c, h1, h3, h4, fun x hx => (h.keys x hx).reads⟩
theorem RingOwn.below {w w' : World} {B R : Nat} {l : List KD} (h : RingOwn w B R l) (hb : Below w.heap.size w w') : RingOwn w' B R l := by
 obtain ⟨A, c, h1, h2⟩ := h.ring
 exact ⟨h.base, ⟨A, c, (hb.block _ h1.lt).trans h1, h2.below hb⟩, fun x hx => (h.keys x hx).below hb⟩
theorem RingOwn.kept {S : Nat → Prop} {w w' : World} {B R : Nat} {l : List KD} (h : RingOwn w B R l) (hk : Kept S w w') (hS : ∀ k, S k → k < B) : RingOwn w' B R l := by
 obtain ⟨A, c, h1, h2⟩ := h.ring
 have hb := h.base
 refine ⟨hb, ⟨A, c, Blk.kept h1 hk (fun s => by have := hS _ s; omega), h2.1, h2.2.1, ?_⟩, fun x hx => (h.keys x hx).kept hk (fun k cur s hBk _ => by have := hS _ s; omega)⟩
 rcases h2.2.2 with h3 | ⟨g, c3, cur, hv, hBg, hg, rest⟩
 ·exact .inl h3
 ·exact .inr ⟨g, c3, cur, hv, hBg, Blk.kept hg hk (fun s => by have := hS _ s; omega), rest⟩
theorem RW.ringOwn {w wr : World} {A : Option Addr} {n c : Nat} {l : List KD} (h : RW w wr (.slice A n c) n l) : RingOwn wr w.heap.size w.heap.size l := by
 have hl : l.length = n := h.row.1
 subst hl
 exact ⟨Nat.le_refl _, ⟨A, c, h.ring, h.row.base (Nat.le_succ _)⟩, fun x hx => ownsRow_base (h.keys x hx) (Nat.le_succ _)⟩
theorem own_someK {w : World} {B n c : Nat} {A : Option Addr} {l : List KD} (h : OwnK w B (.slice A n c) n l) (hn : 0 < n) : ∃ g, A = some ⟨g, 0, none⟩ := by
 rcases h.2.2 with ⟨h2, -⟩ | ⟨g, c, cur, hv, -⟩
 ·injection h2 with _ h2; omega
 ·injection hv with hv
  exact ⟨g, hv⟩
theorem step_ne {ds : List KD} {j k : Nat} {xa xb : KD} (hk : j = k + 1) (ha : ds[k]? = some xa) (hb : ds[j]? = some xb) (hne : idK xa ≠ idK xb) (h : ∀ (t : Nat) a b, t + 1 < j → ds[t]? = some a → ds[t + 1]? = some b → idK a ≠ idK b) : ∀ (t : Nat) a b, t + 1 < j + 1 → ds[t]? = some a → ds[t + 1]? = some b → idK a ≠ idK b := fun t a b ht h1 h2 => by
 by_cases e : t + 1 < j
 ·exact h t a b e h1 h2
 ·obtain rfl : t = k := by omega
  rw [← hk] at h2
  rw [ha] at h1
  rw [hb] at h2
  rw [← Option.some.inj h1, ← Option.some.inj h2]
  exact hne
def keysB (es : List Text) : Bool := es.all fun q => keyB q.length
def apartB (es : List Text) : Bool := decide ((es.map idOf).Pairwise (· ≠ ·))
def ringAns (es : List Text) : Int := if es.length < 1 ∨ 64 < es.length then 7 else if keysB es = true then (if apartB es = true then 0 else 92) else 160
theorem strict_of : ∀ {l : List KD}, (l.Pairwise fun a b => lex (idK b) (idK a) = false) → (∀ (i : Nat) a b, l[i]? = some a → l[i + 1]? = some b → idK a ≠ idK b) → Strict idK l
 | [], _, _ => List.Pairwise.nil
 | [x], _, _ => List.pairwise_singleton _ _
 | x :: y :: l, hs, hn => by
  have hs' := List.pairwise_cons.1 hs
  have ih : Strict idK (y :: l) := strict_of hs'.2 (fun i a b ha hb => hn (i + 1) a b (by simpa using ha) (by simpa using hb))
  have hxy : lex (idK x) (idK y) = true := by
   cases h : lex (idK x) (idK y) with
   | true => rfl
   | false => exact absurd (lex_total _ _ h (hs'.1 y (by simp))) (hn 0 x y rfl rfl)
  refine List.pairwise_cons.2 ⟨fun z hz => ?_, ih⟩
  rcases List.mem_cons.1 hz with rfl | hz
  ·exact hxy
  ·exact lex_trans _ _ _ hxy ((List.pairwise_cons.1 ih).1 z hz)
theorem apart_strict {es : List Text} {ds : List KD} (hp : (ds.map (·.q)).Perm es) (hs : Strict idK ds) : apartB es = true := by
 unfold apartB
 rw [decide_eq_true_eq]
 have h1 : (ds.map (·.q)).Pairwise (fun a b => idOf a ≠ idOf b) := by
  rw [List.pairwise_map]
  exact hs.imp fun h => lex_ne h
 rw [List.pairwise_map]
 exact (hp.pairwise_iff (fun {_ _} h => h.symm)).1 h1
theorem apart_no {es : List Text} {ds : List KD} (hp : (ds.map (·.q)).Perm es) {i : Nat} {a b : KD} (ha : ds[i]? = some a) (hb : ds[i + 1]? = some b) (e : idK a = idK b) : apartB es = false := by
 unfold apartB
 rw [decide_eq_false_iff_not]
 intro h
 rw [List.pairwise_map] at h
 have h1 : (ds.map (·.q)).Pairwise (fun a b => idOf a ≠ idOf b) := (hp.pairwise_iff (fun {_ _} h => h.symm)).2 h
 rw [List.pairwise_map] at h1
 obtain ⟨x1, rfl⟩ := List.getElem?_eq_some_iff.1 ha
 obtain ⟨x2, rfl⟩ := List.getElem?_eq_some_iff.1 hb
 exact List.pairwise_iff_getElem.1 h1 i (i + 1) x1 x2 (Nat.lt_succ_self i) e
def NewOut (es : List Text) (w : World) (e : Ending) (w' : World) : Prop := ∃ v k, e = .returned (.tuple #[v, .int .i64 k]) ∧ Below w.heap.size w w' ∧ k = ringAns es ∧ (k ≠ 0 → v = .pointer none) ∧ (k = 0 → ∃ l, v = .pointer (some ⟨w.heap.size, 0, none⟩) ∧ RingOwn w' w.heap.size w.heap.size l ∧ (l.map (·.q)).Perm es ∧ Strict idK l)
theorem new_bad {es : List Text} {w w' : World} {k : Int} (hk : k = ringAns es) (h0 : k ≠ 0) (hb : Below w.heap.size w w') : NewOut es w (.returned (.tuple #[.pointer none, .int .i64 k])) w' := ⟨_, _, rfl, hb, hk, fun _ => rfl, fun h => absurd h h0⟩
def Z33 : Array Value := (List.replicate 32 (Value.int .u8 0) ++ [Value.slice none 0 0]).toArray
theorem info33 : (Tryz.prog.info? 142).map (fun i => (i.zero, i.size, i.bytes)) = some (some (.agg Z33), 33, 56) := by kernel_rfl
theorem info1 : (Tryz.prog.info? 5).map (fun i => (i.zero, i.size, i.bytes)) = some (some (.int .u8 0), 1, 1) := by kernel_rfl
theorem size1 : (Tryz.prog.info? 137).map (·.size) = some 1 := by kernel_rfl
theorem qDN : Tryz.prog.eqGuardType Tryz.prog.depth 23 = false := by kernel_rfl
theorem size32n : (Tryz.prog.info? 23).map (·.size) = some 32 := by kernel_rfl
set_option maxRecDepth 100000 in
set_option maxHeartbeats 8000000 in
theorem newRing_any (es : List Text) (p : Nat) (hp : es.length = p) (hp47 : p < 140737488355328) (Ap : Option Addr) (cp : Nat) (w : World) (hB : Base w) (hP : Pieces w Ap es) (hsh : ∀ q ∈ es, q.length < 140737488355228) :
  Calls Tryz.prog 14 #[.slice Ap p cp] w (NewOut es w) := by
 obtain ⟨i0, ii, iz0, iz1, iz2⟩ := info_partsN info33
 obtain ⟨j0, jj, jz0, jz1, jz2⟩ := info_partsN info1
 have hPs : Hid (∀ w', Below w.heap.size w w' → Pieces w' Ap es) := fun w' hb => hP.below hb
 have hBs : Hid (∀ w', Below w.heap.size w w' → Base w') := fun w' hb => hB.below hb hB.1
 have hP0 := Lib.hid hP
 have hp0 := Lib.hid hp
 have hp7 := Lib.hid hp47
 have hsh0 := Lib.hid hsh
 obtain ⟨k9, hk9⟩ : ∃ k9, Hid (ringAns es = k9) := ⟨_, Lib.hid rfl⟩
 clear hp hp47 hB hP hsh
 by_cases h0 : p = 0
 ·subst h0
  have hk7 : Hid (7 = ringAns es) := by show _ = _; unfold ringAns; rw [if_pos (by rw [hp0.out]; omega)]
  go_enter Tryz.func14, Tryz.ntmps14
  go_wp2_with fail
  go_ret2
  exact new_bad hk7.out (by decide) (Below.refl _ _)
 by_cases h64 : 64 < p
 ·have hk7 : Hid (7 = ringAns es) := by show _ = _; unfold ringAns; rw [if_pos (by rw [hp0.out]; omega)]
  have x1 : ((p : Int) == 0) = false := by simp; omega
  have x2 : (64 : Int) < (p : Int) := by omega
  clear h0 h64
  go_enter Tryz.func14, Tryz.ntmps14
  go_wp2_with fail
  go_ret2
  exact new_bad hk7.out (by decide) (Below.refl _ _)
 have x1 : ((p : Int) == 0) = false := by simp; omega
 have x2 : ((64 : Int) < (p : Int)) = False := eq_false (by omega)
 have hp1 : Hid (1 ≤ p) := by show _ ≤ _; omega
 have hp64 : Hid (p ≤ 64) := by show _ ≤ _; omega
 obtain ⟨w0, hw0⟩ : ∃ w0, Hid (w.alloc (.cells #[.slice none 0 0] 139) = w0) := ⟨_, Lib.hid rfl⟩
 have D0 : Hid (RW w w0 (.slice none 0 0) 0 []) := by show RW _ _ _ _ _; rw [← hw0.out]; exact ⟨Blk.new _ _ _, OwnK.nil _ _, fun x hx => (by cases hx), Below.heap_below w _⟩
 have hw0' := hw0.out
 clear h0 h64 hw0
 go_enter Tryz.func14, Tryz.ntmps14
 go_wp2_with fail
 clear hw0'
 go_loopw [21] (fun v21 wr => ∃ (i c1 : Nat) (A1 : Option Addr) (l : List KD), v21 = .int .i64 (i : Int) ∧ Hid (i ≤ p) ∧ Hid (l.map (·.q) = es.take i) ∧ Hid (keysB (es.take i) = true) ∧ Hid (RW w wr (.slice A1 i c1) i l)) (fun v _ => p - (intOf v).toNat)
 case atStart => exact ⟨0, 0, none, [], rfl, Nat.zero_le _, rfl, rfl, D0.out⟩
 case round =>
  clear D0
  obtain ⟨i, c1, A1, l, rfl, hip, hl, hks, hD⟩ := hrel
  have hi6 : (i : Int) ≤ 64 := by have := hip.out; have := hp64.out; omega
  have hz0 : (0 : Int) ≤ (i : Int) := by omega
  by_cases hlt : i < p
  ·have hz : (i : Int) < (p : Int) := by omega
   have hlt' := Lib.hid hlt
   obtain ⟨q, hq⟩ : ∃ q, Hid (es[i]? = some q) := ⟨_, List.getElem?_eq_getElem (by rw [hp0.out]; exact hlt)⟩
   obtain ⟨b, o, hAp, hbp, hcp⟩ := hP0.out (by rw [hp0.out]; omega)
   obtain ⟨Ak, ck, hck, hkc, -, hkn⟩ := hcp i q hq.out
   subst hAp
   have hql : Hid (q.length < 140737488355228) := hsh0.out q (List.mem_of_getElem? hq.out)
   have hRq : Hid (∀ w', Below w.heap.size w w' → Reads w' 1 Ak q.length (cells8 q)) := fun w' hb => by
    obtain ⟨b2, o2, e2, -, hc2⟩ := hPs.out w' hb (by rw [hp0.out]; omega)
    obtain ⟨Ak2, ck2, hck2, -, hr2, -⟩ := hc2 i q hq.out
    injection e2 with e2
    injection e2 with e2 e3
    subst e2 e3
    have : some (Value.slice Ak q.length ck) = some (Value.slice Ak2 q.length ck2) := by rw [← hck, ← hck2]; exact (hb.cell (p := ⟨b, o + i, none⟩) hbp).symm
    injection this with this
    injection this with this
    rw [this]
    exact hr2
   have hcr := (hD.out.far.cell (p := ⟨b, o + i, none⟩) hbp).trans hck
   obtain ⟨k, hk⟩ : ∃ k, Hid (q.length = k) := ⟨_, Lib.hid rfl⟩
   rw [hk.out] at hql hRq hcr hkc hkn
   have hkc0 := Lib.hid hkc
   have hkn0 := Lib.hid hkn
   have hks2 : Hid (keysB (es.take (i + 1)) = keyB k) := by
    show _ = _
    have h1 := hks.out
    unfold keysB at h1 ⊢
    rw [List.take_add_one, hq.out, List.all_append, h1, Option.toList_some, List.all_cons, List.all_nil, hk.out]
    simp
   clear hlt hcp hck hkc hkn
   cases hkb : keyB k with
   | false =>
    have hk1 : Hid (160 = ringAns es) := by
     show _ = _
     unfold ringAns
     rw [if_neg (by rw [hp0.out]; have := hp1.out; have := hp64.out; omega), if_neg]
     intro h
     unfold keysB at h
     have := List.all_eq_true.1 h q (List.mem_of_getElem? hq.out)
     rw [hk.out, hkb] at this
     cases this
    have hkb' := Lib.hid hkb
    clear hkb
    go_wp2_with (go_at_call 60; refine (isKey_any k Ak ck _).mono ?_; rw [hkb'.out]; rintro e w1 ⟨rfl, rfl⟩)
    go_ret2
    exact new_bad hk1.out (by decide) hD.out.far
   | true =>
    have hkb' := Lib.hid hkb
    rw [hkb] at hks2
    clear hkb
    go_upto_region 9 with (go_at_call 60; refine (isKey_any k Ak ck _).mono ?_; rw [hkb'.out]; rintro e w1 ⟨rfl, rfl⟩)
    clear hcr
    obtain ⟨wr, rfl⟩ : ∃ wr, wr = w1 := ⟨w1, rfl⟩
    obtain ⟨iq, hiq⟩ : ∃ iq, Hid (idOf q = iq) := ⟨_, Lib.hid rfl⟩
    have hil : Hid (iq.length = 32) := by show _ = _; rw [← hiq.out]; exact idOf_len q
    have hId : Hid (∀ w', Below w.heap.size w w' → Calls Tryz.prog 61 #[.slice Ak k ck] w' fun e w'' => e = .returned (.agg (cells8 iq).toArray) ∧ Below w'.heap.size w' w'') := fun w' hb => by
     rw [← hiq.out]
     exact id_any q k hk.out Ak ck w' (hBs.out w' hb) (hRq.out w' hb) hkc0.out (by have := hql.out; omega) hkn0.out
    have m1 : Hid (0 + k ≤ maxLen) := by show _ ≤ _; have := hql.out; unfold maxLen; omega
    have m2 : Hid ((0 + k) * 1 ≤ 140737488355328) := by show _ ≤ _; have := hql.out; omega
    have m3 : Hid (i + 1 ≤ maxLen) := by show _ ≤ _; unfold maxLen; omega
    have m4 : Hid ((i + 1) * 56 ≤ 140737488355328) := by show _ ≤ _; omega
    have hll : Hid (l.length = i) := hD.out.row.1
    have hlq : Hid (∀ A8 c8, (l ++ [(⟨q, A8, c8⟩ : KD)]).map (·.q) = es.take (i + 1)) := fun A8 c8 => by rw [List.map_append, hl.out, List.take_add_one, hq.out]; rfl
    have hO0 := Lib.hid hD.out.row
    have hK0 := Lib.hid hD.out.keys
    have hRg := Lib.hid hD.out.ring
    have hfar := Lib.hid hD.out.far
    have s0 : Hid (Below w.heap.size w wr.drew) := hfar.out.trans ((Below.refl _ wr).drew.mono hfar.out.size)
    have kk1 : Below wr.heap.size wr wr.drew := (Below.refl _ _).drew
    replace hO0 := Lib.hid (hO0.out.below kk1)
    replace hK0 := Lib.hid (fun x hx => (hK0.out x hx).below kk1)
    replace hRg : Hid (Blk _ w.heap.size 139 #[.slice A1 i c1]) := (kk1.block _ hRg.out.lt).trans hRg.out
    clear kk1 hfar hD
    refine held_start (fun w' => Below w.heap.size w w') 15 rfl (by kernel_rfl) ?_
    refine Held.tk0 (i := 0) (v := .pointer (some ⟨w.heap.size, 0, none⟩)) rfl s0.out (fun w' hw' => run_mv (.tmp 4) rfl w') ?_
    (intro K k; go_simp; apply k; clear k K)
    refine Held.tk0 (i := 1) (v := .pointer (some ⟨w.heap.size, 0, none⟩)) rfl s0.out (fun w' hw' => run_mv (.tmp 4) rfl w') ?_
    (intro K k; go_simp; apply k; clear k K)
    refine Held.tk0 (i := 2) (v := .pointer (some ⟨w.heap.size, 0, none⟩)) rfl s0.out (fun w' hw' => by go_simp) ?_
    (intro K k; go_simp; apply k; clear k K)
    refine Held.tk0 (i := 3) (v := .pointer (some ⟨w.heap.size, 0, none⟩)) rfl s0.out (fun w' hw' => by go_simp) ?_
    (intro K k; go_simp; apply k; clear k K)
    refine Held.tk0 (i := 5) (v := .slice Ak k ck) rfl s0.out (fun w' hw' => run_mv (.tmp 6) rfl w') ?_
    (intro K k; go_simp; apply k; clear k K)
    refine Held.tk0 (i := 7) (v := .slice Ak k ck) rfl s0.out (fun w' hw' => run_mv (.tmp 6) rfl w') ?_
    (intro K k; go_simp; apply k; clear k K)
    refine held_two (i := 4) (j := 6) rfl rfl (by kernel_rfl) (by rfl) (by rfl) (fun K hK => ?_) (fun K hK => ?_)
    ·have hc : (wr.drew).cell? ⟨w.heap.size, 0, none⟩ = some (.slice A1 i c1) := Blk.cell hRg.out 0
     go_simp
     refine hK _ _ s0.out ?_
     clear hK K
     clear hc
     refine held_only (i := 6) rfl (by kernel_rfl) (by rfl) (fun K hK => ?_)
     refine wp_fn (R := fun v w'' => v = .agg (cells8 iq).toArray ∧ Below (wr.drew).heap.size (wr.drew) w'') (args := #[.slice Ak k ck]) _ _ rfl rfl Tryz.func61 (by kernel_rfl) (by kernel_rfl) ((hId.out (wr.drew) s0.out).mono fun e w'' ⟨he, hb⟩ => ⟨_, he, rfl, hb⟩) ?_
     rintro qq w5 ⟨rfl, kk1⟩
     have h5 : Hid (Below w.heap.size w w5) := s0.out.trans (kk1.mono s0.out.size)
     replace hO0 := Lib.hid (hO0.out.below kk1)
     replace hK0 := Lib.hid (fun x hx => (hK0.out x hx).below kk1)
     replace hRg : Hid (Blk _ w.heap.size 139 #[.slice A1 i c1]) := (kk1.block _ hRg.out.lt).trans hRg.out
     clear kk1
     go_simp
     refine hK _ _ h5.out ?_
     clear hK K
     refine held_only (i := 8) rfl (by kernel_rfl) (by rfl) (fun K hK => ?_)
     refine Append.wp_append_src _ (.const (.slice none 0 0)) (.tmp 35) 27 rfl (w5).heap.size 5 j0 (.int .u8 0) 1 1 Tryz.underlying27 jj jz0 jz1 jz2 rfl (by decide) (.slice none 0 0) 0 [] rfl (World.ownsRow_nil _ _ _ _) Ak k ck (cells8 q) rfl (hRq.out _ h5.out) hkn0.out (cells8_one q) m1.out m2.out (Nat.le_refl _) (fun v8 w6 hG8 => ?_)
     have kk1 : Below (w5).heap.size (w5) w6 := hG8.below (Below.refl _ _) (Nat.le_refl _) (fun k e => by cases e)
     have h6 : Hid (Below w.heap.size w w6) := h5.out.trans (kk1.mono h5.out.size)
     have hO8 := hG8.own
     rw [Nat.zero_add, List.nil_append] at hO8
     obtain ⟨A8, c8, rfl, -⟩ := Own.reads hO8
     have hN : Hid (KeyRow w6 (w.heap.size + 1) ⟨q, A8, c8⟩) := by show World.ownsRow _ _ _ _ (.slice A8 q.length c8) q.length _; rw [hk.out]; exact ownsRow_base hO8 hRg.out.lt
     clear hG8 hO8
     replace hO0 := Lib.hid (hO0.out.below kk1)
     replace hK0 := Lib.hid (fun x hx => (hK0.out x hx).below kk1)
     replace hRg : Hid (Blk _ w.heap.size 139 #[.slice A1 i c1]) := (kk1.block _ hRg.out.lt).trans hRg.out
     clear kk1
     go_simp
     refine hK _ _ h6.out ?_
     clear hK K
     obtain ⟨cx, hcx⟩ : ∃ cx, Hid (encK ⟨q, A8, c8⟩ = cx) := ⟨_, Lib.hid rfl⟩
     have hbh : Hid (∀ w', (Instr.build 142 #[(0, .agg (cells8 iq).toArray), (1, .slice A8 k c8)]).run Tryz.prog w' = .ok (.agg cx.toArray) w') := fun w' => by rw [run_held iq hil.out A8 k c8 w', ← hcx.out, ← hiq.out, ← hk.out]; rfl
     have hcl : Hid (cx.length = 33) := by show _ = _; rw [← hcx.out]; exact encK_len _
     have hc1 : Hid (∀ u ∈ cx, u.oneCell' = true) := by intro u hu; rw [← hcx.out] at hu; exact encK_one _ u hu
     have q1 : Hid (∀ v ∈ [cx], v.length = 33) := fun v hv => by simp only [List.mem_singleton] at hv; rw [hv]; exact hcl.out
     obtain ⟨X1, x1⟩ : ∃ X, Hid (([cx].flatten).toArray = X) := ⟨_, Lib.hid rfl⟩
     refine Held.tk0 (i := 9) (v := .agg cx.toArray) rfl h6.out (fun w' hw' => exec_build 142 _ rfl #[(0, .agg (cells8 iq).toArray), (1, .slice A8 k c8)] (by simp; exact ⟨rfl, rfl⟩) _ (hbh.out w')) ?_
     (intro K k; go_simp; apply k; clear k K)
     refine held_only (i := 10) rfl (by kernel_rfl) (by rfl) (fun K hK => ?_)
     refine wp_buildAggs 137 142 1 _ rfl 33 (by decide) [cx] Tryz.underlying137 size33 zero33 rfl (by decide) (by decide) q1.out rfl ?_
     rw [x1.out]
     have hX : Hid (Reads (w6.alloc (.cells X1 142)) 33 (some ⟨w6.heap.size, 0, none⟩) 1 cx) := by show Reads _ _ _ _ _; rw [← x1.out]; exact reads_one w6 hcl.out
     have kk1 : Below w6.heap.size w6 (w6.alloc (.cells X1 142)) := Below.heap_below _ _
     have h10 : Hid (Below w.heap.size w (w6.alloc (.cells X1 142))) := h6.out.trans (kk1.mono h6.out.size)
     replace hO0 := Lib.hid (hO0.out.below kk1)
     replace hK0 := Lib.hid (fun x hx => (hK0.out x hx).below kk1)
     replace hRg : Hid (Blk _ w.heap.size 139 #[.slice A1 i c1]) := (kk1.block _ hRg.out.lt).trans hRg.out
     replace hN := Lib.hid (hN.out.below kk1)
     clear kk1
     go_simp
     refine hK _ _ h10.out ?_
     clear hK K
     refine held_only (i := 11) rfl (by kernel_rfl) (by rfl) (fun K hK => ?_)
     refine Append.wp_append_src _ (.tmp 32) (.tmp 38) 137 rfl (w.heap.size + 1) 142 i0 (.agg Z33) 33 56 Tryz.underlying137 ii iz0 iz1 iz2 rfl (by decide) (.slice A1 i c1) i (l.flatMap encK) rfl hO0.out.2 (some ⟨w6.heap.size, 0, none⟩) 1 1 cx rfl hX.out (fun e => by cases e) hc1.out m3.out m4.out hRg.out.lt (fun v11 w11 hG => ?_)
     have h11' : Below (w.heap.size + 1) (w6.alloc (.cells X1 142)) w11 := hG.below (Below.refl _ _) hRg.out.lt (fun k e => own_atK hO0.out k e)
     have h11 : Hid (Below w.heap.size w w11) := h10.out.trans (h11'.mono (Nat.le_succ _))
     have hR11 : Hid (Blk w11 w.heap.size 139 #[.slice A1 i c1]) := (h11'.block _ (Nat.lt_succ_self _)).trans hRg.out
     have hK11 : Hid (∀ y ∈ l ++ [(⟨q, A8, c8⟩ : KD)], KeyRow w11 (w.heap.size + 1) y) := fun y hy => by
      rcases List.mem_append.1 hy with hy | hy
      ·exact keys_grown hO0.out hG (hK0.out y hy)
      ·simp only [List.mem_singleton] at hy
       rw [hy]
       exact keys_grown hO0.out hG hN.out
     rw [← hcx.out] at hG
     have hO11 : Hid (OwnK w11 (w.heap.size + 1) v11 (i + 1) (l ++ [(⟨q, A8, c8⟩ : KD)])) := grew_keys hG hll.out
     obtain ⟨A11, c11, rfl, -⟩ := hO11.out.reads
     clear hG hN hO0 hK0 hRg h11'
     go_simp
     refine hK _ _ h11.out ?_
     clear hK K
     refine Held.tk0 (i := 12) (v := .pointer (some ⟨w.heap.size, 0, none⟩)) rfl h11.out (fun w' hw' => by go_simp) ?_
     (intro K k; go_simp; apply k; clear k K)
     refine Held.tk0 (i := 13) (v := .pointer (some ⟨w.heap.size, 0, none⟩)) rfl h11.out (fun w' hw' => by go_simp) ?_
     (intro K k; go_simp; apply k; clear k K)
     refine held_only (i := 14) rfl (by kernel_rfl) (by rfl) (fun K hK => ?_)
     refine wp_store_oneH 137 (.tmp 41) (.tmp 39) rfl w.heap.size (.slice A11 (i + 1) c11) rfl rfl rfl 139 (.slice A1 i c1) hR11.out size1 (fun w12 hB12 hk12 => ?_)
     have D12 := Lib.hid (RW.push h11.out hO11.out hK11.out hB12 rfl hk12)
     have h12 := Lib.hid D12.out.far
     clear hB12 hk12 hR11
     go_simp
     refine hK _ _ h12.out ?_
     clear hK K
     refine held_end (by kernel_rfl) ?_
     go_wp2_with fail
     go_roundw
     case rel => exact ⟨i + 1, c11, A11, l ++ [KD.mk q A8 c8], by go_num, hlt'.out, hlq.out A8 c8, hks2.out, D12.out⟩
     case measure => (have := hlt'.out; simp [intOf]; omega)
    ·refine wp_fn (R := fun v w'' => v = .agg (cells8 iq).toArray ∧ Below (wr.drew).heap.size (wr.drew) w'') (args := #[.slice Ak k ck]) _ _ rfl rfl Tryz.func61 (by kernel_rfl) (by kernel_rfl) ((hId.out (wr.drew) s0.out).mono fun e w'' ⟨he, hb⟩ => ⟨_, he, rfl, hb⟩) ?_
     rintro qq w5 ⟨rfl, kk1⟩
     have h5 : Hid (Below w.heap.size w w5) := s0.out.trans (kk1.mono s0.out.size)
     replace hO0 := Lib.hid (hO0.out.below kk1)
     replace hK0 := Lib.hid (fun x hx => (hK0.out x hx).below kk1)
     replace hRg : Hid (Blk _ w.heap.size 139 #[.slice A1 i c1]) := (kk1.block _ hRg.out.lt).trans hRg.out
     clear kk1
     go_simp
     refine hK _ _ h5.out ?_
     clear hK K
     refine held_two (i := 4) (j := 8) rfl rfl (by kernel_rfl) (by rfl) (by rfl) (fun K hK => ?_) (fun K hK => ?_)
     ·have hc : (w5).cell? ⟨w.heap.size, 0, none⟩ = some (.slice A1 i c1) := Blk.cell hRg.out 0
      go_simp
      refine hK _ _ h5.out ?_
      clear hK K
      clear hc
      refine held_only (i := 8) rfl (by kernel_rfl) (by rfl) (fun K hK => ?_)
      refine Append.wp_append_src _ (.const (.slice none 0 0)) (.tmp 35) 27 rfl (w5).heap.size 5 j0 (.int .u8 0) 1 1 Tryz.underlying27 jj jz0 jz1 jz2 rfl (by decide) (.slice none 0 0) 0 [] rfl (World.ownsRow_nil _ _ _ _) Ak k ck (cells8 q) rfl (hRq.out _ h5.out) hkn0.out (cells8_one q) m1.out m2.out (Nat.le_refl _) (fun v8 w6 hG8 => ?_)
      have kk1 : Below (w5).heap.size (w5) w6 := hG8.below (Below.refl _ _) (Nat.le_refl _) (fun k e => by cases e)
      have h6 : Hid (Below w.heap.size w w6) := h5.out.trans (kk1.mono h5.out.size)
      have hO8 := hG8.own
      rw [Nat.zero_add, List.nil_append] at hO8
      obtain ⟨A8, c8, rfl, -⟩ := Own.reads hO8
      have hN : Hid (KeyRow w6 (w.heap.size + 1) ⟨q, A8, c8⟩) := by show World.ownsRow _ _ _ _ (.slice A8 q.length c8) q.length _; rw [hk.out]; exact ownsRow_base hO8 hRg.out.lt
      clear hG8 hO8
      replace hO0 := Lib.hid (hO0.out.below kk1)
      replace hK0 := Lib.hid (fun x hx => (hK0.out x hx).below kk1)
      replace hRg : Hid (Blk _ w.heap.size 139 #[.slice A1 i c1]) := (kk1.block _ hRg.out.lt).trans hRg.out
      clear kk1
      go_simp
      refine hK _ _ h6.out ?_
      clear hK K
      obtain ⟨cx, hcx⟩ : ∃ cx, Hid (encK ⟨q, A8, c8⟩ = cx) := ⟨_, Lib.hid rfl⟩
      have hbh : Hid (∀ w', (Instr.build 142 #[(0, .agg (cells8 iq).toArray), (1, .slice A8 k c8)]).run Tryz.prog w' = .ok (.agg cx.toArray) w') := fun w' => by rw [run_held iq hil.out A8 k c8 w', ← hcx.out, ← hiq.out, ← hk.out]; rfl
      have hcl : Hid (cx.length = 33) := by show _ = _; rw [← hcx.out]; exact encK_len _
      have hc1 : Hid (∀ u ∈ cx, u.oneCell' = true) := by intro u hu; rw [← hcx.out] at hu; exact encK_one _ u hu
      have q1 : Hid (∀ v ∈ [cx], v.length = 33) := fun v hv => by simp only [List.mem_singleton] at hv; rw [hv]; exact hcl.out
      obtain ⟨X1, x1⟩ : ∃ X, Hid (([cx].flatten).toArray = X) := ⟨_, Lib.hid rfl⟩
      refine Held.tk0 (i := 9) (v := .agg cx.toArray) rfl h6.out (fun w' hw' => exec_build 142 _ rfl #[(0, .agg (cells8 iq).toArray), (1, .slice A8 k c8)] (by simp; exact ⟨rfl, rfl⟩) _ (hbh.out w')) ?_
      (intro K k; go_simp; apply k; clear k K)
      refine held_only (i := 10) rfl (by kernel_rfl) (by rfl) (fun K hK => ?_)
      refine wp_buildAggs 137 142 1 _ rfl 33 (by decide) [cx] Tryz.underlying137 size33 zero33 rfl (by decide) (by decide) q1.out rfl ?_
      rw [x1.out]
      have hX : Hid (Reads (w6.alloc (.cells X1 142)) 33 (some ⟨w6.heap.size, 0, none⟩) 1 cx) := by show Reads _ _ _ _ _; rw [← x1.out]; exact reads_one w6 hcl.out
      have kk1 : Below w6.heap.size w6 (w6.alloc (.cells X1 142)) := Below.heap_below _ _
      have h10 : Hid (Below w.heap.size w (w6.alloc (.cells X1 142))) := h6.out.trans (kk1.mono h6.out.size)
      replace hO0 := Lib.hid (hO0.out.below kk1)
      replace hK0 := Lib.hid (fun x hx => (hK0.out x hx).below kk1)
      replace hRg : Hid (Blk _ w.heap.size 139 #[.slice A1 i c1]) := (kk1.block _ hRg.out.lt).trans hRg.out
      replace hN := Lib.hid (hN.out.below kk1)
      clear kk1
      go_simp
      refine hK _ _ h10.out ?_
      clear hK K
      refine held_only (i := 11) rfl (by kernel_rfl) (by rfl) (fun K hK => ?_)
      refine Append.wp_append_src _ (.tmp 32) (.tmp 38) 137 rfl (w.heap.size + 1) 142 i0 (.agg Z33) 33 56 Tryz.underlying137 ii iz0 iz1 iz2 rfl (by decide) (.slice A1 i c1) i (l.flatMap encK) rfl hO0.out.2 (some ⟨w6.heap.size, 0, none⟩) 1 1 cx rfl hX.out (fun e => by cases e) hc1.out m3.out m4.out hRg.out.lt (fun v11 w11 hG => ?_)
      have h11' : Below (w.heap.size + 1) (w6.alloc (.cells X1 142)) w11 := hG.below (Below.refl _ _) hRg.out.lt (fun k e => own_atK hO0.out k e)
      have h11 : Hid (Below w.heap.size w w11) := h10.out.trans (h11'.mono (Nat.le_succ _))
      have hR11 : Hid (Blk w11 w.heap.size 139 #[.slice A1 i c1]) := (h11'.block _ (Nat.lt_succ_self _)).trans hRg.out
      have hK11 : Hid (∀ y ∈ l ++ [(⟨q, A8, c8⟩ : KD)], KeyRow w11 (w.heap.size + 1) y) := fun y hy => by
       rcases List.mem_append.1 hy with hy | hy
       ·exact keys_grown hO0.out hG (hK0.out y hy)
       ·simp only [List.mem_singleton] at hy
        rw [hy]
        exact keys_grown hO0.out hG hN.out
      rw [← hcx.out] at hG
      have hO11 : Hid (OwnK w11 (w.heap.size + 1) v11 (i + 1) (l ++ [(⟨q, A8, c8⟩ : KD)])) := grew_keys hG hll.out
      obtain ⟨A11, c11, rfl, -⟩ := hO11.out.reads
      clear hG hN hO0 hK0 hRg h11'
      go_simp
      refine hK _ _ h11.out ?_
      clear hK K
      refine Held.tk0 (i := 12) (v := .pointer (some ⟨w.heap.size, 0, none⟩)) rfl h11.out (fun w' hw' => by go_simp) ?_
      (intro K k; go_simp; apply k; clear k K)
      refine Held.tk0 (i := 13) (v := .pointer (some ⟨w.heap.size, 0, none⟩)) rfl h11.out (fun w' hw' => by go_simp) ?_
      (intro K k; go_simp; apply k; clear k K)
      refine held_only (i := 14) rfl (by kernel_rfl) (by rfl) (fun K hK => ?_)
      refine wp_store_oneH 137 (.tmp 41) (.tmp 39) rfl w.heap.size (.slice A11 (i + 1) c11) rfl rfl rfl 139 (.slice A1 i c1) hR11.out size1 (fun w12 hB12 hk12 => ?_)
      have D12 := Lib.hid (RW.push h11.out hO11.out hK11.out hB12 rfl hk12)
      have h12 := Lib.hid D12.out.far
      clear hB12 hk12 hR11
      go_simp
      refine hK _ _ h12.out ?_
      clear hK K
      refine held_end (by kernel_rfl) ?_
      go_wp2_with fail
      go_roundw
      case rel => exact ⟨i + 1, c11, A11, l ++ [KD.mk q A8 c8], by go_num, hlt'.out, hlq.out A8 c8, hks2.out, D12.out⟩
      case measure => (have := hlt'.out; simp [intOf]; omega)
     ·refine Append.wp_append_src _ (.const (.slice none 0 0)) (.tmp 35) 27 rfl (w5).heap.size 5 j0 (.int .u8 0) 1 1 Tryz.underlying27 jj jz0 jz1 jz2 rfl (by decide) (.slice none 0 0) 0 [] rfl (World.ownsRow_nil _ _ _ _) Ak k ck (cells8 q) rfl (hRq.out _ h5.out) hkn0.out (cells8_one q) m1.out m2.out (Nat.le_refl _) (fun v8 w6 hG8 => ?_)
      have kk1 : Below (w5).heap.size (w5) w6 := hG8.below (Below.refl _ _) (Nat.le_refl _) (fun k e => by cases e)
      have h6 : Hid (Below w.heap.size w w6) := h5.out.trans (kk1.mono h5.out.size)
      have hO8 := hG8.own
      rw [Nat.zero_add, List.nil_append] at hO8
      obtain ⟨A8, c8, rfl, -⟩ := Own.reads hO8
      have hN : Hid (KeyRow w6 (w.heap.size + 1) ⟨q, A8, c8⟩) := by show World.ownsRow _ _ _ _ (.slice A8 q.length c8) q.length _; rw [hk.out]; exact ownsRow_base hO8 hRg.out.lt
      clear hG8 hO8
      replace hO0 := Lib.hid (hO0.out.below kk1)
      replace hK0 := Lib.hid (fun x hx => (hK0.out x hx).below kk1)
      replace hRg : Hid (Blk _ w.heap.size 139 #[.slice A1 i c1]) := (kk1.block _ hRg.out.lt).trans hRg.out
      clear kk1
      go_simp
      refine hK _ _ h6.out ?_
      clear hK K
      obtain ⟨cx, hcx⟩ : ∃ cx, Hid (encK ⟨q, A8, c8⟩ = cx) := ⟨_, Lib.hid rfl⟩
      have hbh : Hid (∀ w', (Instr.build 142 #[(0, .agg (cells8 iq).toArray), (1, .slice A8 k c8)]).run Tryz.prog w' = .ok (.agg cx.toArray) w') := fun w' => by rw [run_held iq hil.out A8 k c8 w', ← hcx.out, ← hiq.out, ← hk.out]; rfl
      have hcl : Hid (cx.length = 33) := by show _ = _; rw [← hcx.out]; exact encK_len _
      have hc1 : Hid (∀ u ∈ cx, u.oneCell' = true) := by intro u hu; rw [← hcx.out] at hu; exact encK_one _ u hu
      have q1 : Hid (∀ v ∈ [cx], v.length = 33) := fun v hv => by simp only [List.mem_singleton] at hv; rw [hv]; exact hcl.out
      obtain ⟨X1, x1⟩ : ∃ X, Hid (([cx].flatten).toArray = X) := ⟨_, Lib.hid rfl⟩
      refine Held.tk0 (i := 9) (v := .agg cx.toArray) rfl h6.out (fun w' hw' => exec_build 142 _ rfl #[(0, .agg (cells8 iq).toArray), (1, .slice A8 k c8)] (by simp; exact ⟨rfl, rfl⟩) _ (hbh.out w')) ?_
      (intro K k; go_simp; apply k; clear k K)
      refine held_two (i := 4) (j := 10) rfl rfl (by kernel_rfl) (by rfl) (by rfl) (fun K hK => ?_) (fun K hK => ?_)
      ·have hc : (w6).cell? ⟨w.heap.size, 0, none⟩ = some (.slice A1 i c1) := Blk.cell hRg.out 0
       go_simp
       refine hK _ _ h6.out ?_
       clear hK K
       clear hc
       refine held_only (i := 10) rfl (by kernel_rfl) (by rfl) (fun K hK => ?_)
       refine wp_buildAggs 137 142 1 _ rfl 33 (by decide) [cx] Tryz.underlying137 size33 zero33 rfl (by decide) (by decide) q1.out rfl ?_
       rw [x1.out]
       have hX : Hid (Reads (w6.alloc (.cells X1 142)) 33 (some ⟨w6.heap.size, 0, none⟩) 1 cx) := by show Reads _ _ _ _ _; rw [← x1.out]; exact reads_one w6 hcl.out
       have kk1 : Below w6.heap.size w6 (w6.alloc (.cells X1 142)) := Below.heap_below _ _
       have h10 : Hid (Below w.heap.size w (w6.alloc (.cells X1 142))) := h6.out.trans (kk1.mono h6.out.size)
       replace hO0 := Lib.hid (hO0.out.below kk1)
       replace hK0 := Lib.hid (fun x hx => (hK0.out x hx).below kk1)
       replace hRg : Hid (Blk _ w.heap.size 139 #[.slice A1 i c1]) := (kk1.block _ hRg.out.lt).trans hRg.out
       replace hN := Lib.hid (hN.out.below kk1)
       clear kk1
       go_simp
       refine hK _ _ h10.out ?_
       clear hK K
       refine held_only (i := 11) rfl (by kernel_rfl) (by rfl) (fun K hK => ?_)
       refine Append.wp_append_src _ (.tmp 32) (.tmp 38) 137 rfl (w.heap.size + 1) 142 i0 (.agg Z33) 33 56 Tryz.underlying137 ii iz0 iz1 iz2 rfl (by decide) (.slice A1 i c1) i (l.flatMap encK) rfl hO0.out.2 (some ⟨w6.heap.size, 0, none⟩) 1 1 cx rfl hX.out (fun e => by cases e) hc1.out m3.out m4.out hRg.out.lt (fun v11 w11 hG => ?_)
       have h11' : Below (w.heap.size + 1) (w6.alloc (.cells X1 142)) w11 := hG.below (Below.refl _ _) hRg.out.lt (fun k e => own_atK hO0.out k e)
       have h11 : Hid (Below w.heap.size w w11) := h10.out.trans (h11'.mono (Nat.le_succ _))
       have hR11 : Hid (Blk w11 w.heap.size 139 #[.slice A1 i c1]) := (h11'.block _ (Nat.lt_succ_self _)).trans hRg.out
       have hK11 : Hid (∀ y ∈ l ++ [(⟨q, A8, c8⟩ : KD)], KeyRow w11 (w.heap.size + 1) y) := fun y hy => by
        rcases List.mem_append.1 hy with hy | hy
        ·exact keys_grown hO0.out hG (hK0.out y hy)
        ·simp only [List.mem_singleton] at hy
         rw [hy]
         exact keys_grown hO0.out hG hN.out
       rw [← hcx.out] at hG
       have hO11 : Hid (OwnK w11 (w.heap.size + 1) v11 (i + 1) (l ++ [(⟨q, A8, c8⟩ : KD)])) := grew_keys hG hll.out
       obtain ⟨A11, c11, rfl, -⟩ := hO11.out.reads
       clear hG hN hO0 hK0 hRg h11'
       go_simp
       refine hK _ _ h11.out ?_
       clear hK K
       refine Held.tk0 (i := 12) (v := .pointer (some ⟨w.heap.size, 0, none⟩)) rfl h11.out (fun w' hw' => by go_simp) ?_
       (intro K k; go_simp; apply k; clear k K)
       refine Held.tk0 (i := 13) (v := .pointer (some ⟨w.heap.size, 0, none⟩)) rfl h11.out (fun w' hw' => by go_simp) ?_
       (intro K k; go_simp; apply k; clear k K)
       refine held_only (i := 14) rfl (by kernel_rfl) (by rfl) (fun K hK => ?_)
       refine wp_store_oneH 137 (.tmp 41) (.tmp 39) rfl w.heap.size (.slice A11 (i + 1) c11) rfl rfl rfl 139 (.slice A1 i c1) hR11.out size1 (fun w12 hB12 hk12 => ?_)
       have D12 := Lib.hid (RW.push h11.out hO11.out hK11.out hB12 rfl hk12)
       have h12 := Lib.hid D12.out.far
       clear hB12 hk12 hR11
       go_simp
       refine hK _ _ h12.out ?_
       clear hK K
       refine held_end (by kernel_rfl) ?_
       go_wp2_with fail
       go_roundw
       case rel => exact ⟨i + 1, c11, A11, l ++ [KD.mk q A8 c8], by go_num, hlt'.out, hlq.out A8 c8, hks2.out, D12.out⟩
       case measure => (have := hlt'.out; simp [intOf]; omega)
      ·refine wp_buildAggs 137 142 1 _ rfl 33 (by decide) [cx] Tryz.underlying137 size33 zero33 rfl (by decide) (by decide) q1.out rfl ?_
       rw [x1.out]
       have hX : Hid (Reads (w6.alloc (.cells X1 142)) 33 (some ⟨w6.heap.size, 0, none⟩) 1 cx) := by show Reads _ _ _ _ _; rw [← x1.out]; exact reads_one w6 hcl.out
       have kk1 : Below w6.heap.size w6 (w6.alloc (.cells X1 142)) := Below.heap_below _ _
       have h10 : Hid (Below w.heap.size w (w6.alloc (.cells X1 142))) := h6.out.trans (kk1.mono h6.out.size)
       replace hO0 := Lib.hid (hO0.out.below kk1)
       replace hK0 := Lib.hid (fun x hx => (hK0.out x hx).below kk1)
       replace hRg : Hid (Blk _ w.heap.size 139 #[.slice A1 i c1]) := (kk1.block _ hRg.out.lt).trans hRg.out
       replace hN := Lib.hid (hN.out.below kk1)
       clear kk1
       go_simp
       refine hK _ _ h10.out ?_
       clear hK K
       refine held_only (i := 4) rfl (by kernel_rfl) (by rfl) (fun K hK => ?_)
       have hc : ((w6.alloc (.cells X1 142))).cell? ⟨w.heap.size, 0, none⟩ = some (.slice A1 i c1) := Blk.cell hRg.out 0
       go_simp
       refine hK _ _ h10.out ?_
       clear hK K
       clear hc
       refine held_only (i := 11) rfl (by kernel_rfl) (by rfl) (fun K hK => ?_)
       refine Append.wp_append_src _ (.tmp 32) (.tmp 38) 137 rfl (w.heap.size + 1) 142 i0 (.agg Z33) 33 56 Tryz.underlying137 ii iz0 iz1 iz2 rfl (by decide) (.slice A1 i c1) i (l.flatMap encK) rfl hO0.out.2 (some ⟨w6.heap.size, 0, none⟩) 1 1 cx rfl hX.out (fun e => by cases e) hc1.out m3.out m4.out hRg.out.lt (fun v11 w11 hG => ?_)
       have h11' : Below (w.heap.size + 1) (w6.alloc (.cells X1 142)) w11 := hG.below (Below.refl _ _) hRg.out.lt (fun k e => own_atK hO0.out k e)
       have h11 : Hid (Below w.heap.size w w11) := h10.out.trans (h11'.mono (Nat.le_succ _))
       have hR11 : Hid (Blk w11 w.heap.size 139 #[.slice A1 i c1]) := (h11'.block _ (Nat.lt_succ_self _)).trans hRg.out
       have hK11 : Hid (∀ y ∈ l ++ [(⟨q, A8, c8⟩ : KD)], KeyRow w11 (w.heap.size + 1) y) := fun y hy => by
        rcases List.mem_append.1 hy with hy | hy
        ·exact keys_grown hO0.out hG (hK0.out y hy)
        ·simp only [List.mem_singleton] at hy
         rw [hy]
         exact keys_grown hO0.out hG hN.out
       rw [← hcx.out] at hG
       have hO11 : Hid (OwnK w11 (w.heap.size + 1) v11 (i + 1) (l ++ [(⟨q, A8, c8⟩ : KD)])) := grew_keys hG hll.out
       obtain ⟨A11, c11, rfl, -⟩ := hO11.out.reads
       clear hG hN hO0 hK0 hRg h11'
       go_simp
       refine hK _ _ h11.out ?_
       clear hK K
       refine Held.tk0 (i := 12) (v := .pointer (some ⟨w.heap.size, 0, none⟩)) rfl h11.out (fun w' hw' => by go_simp) ?_
       (intro K k; go_simp; apply k; clear k K)
       refine Held.tk0 (i := 13) (v := .pointer (some ⟨w.heap.size, 0, none⟩)) rfl h11.out (fun w' hw' => by go_simp) ?_
       (intro K k; go_simp; apply k; clear k K)
       refine held_only (i := 14) rfl (by kernel_rfl) (by rfl) (fun K hK => ?_)
       refine wp_store_oneH 137 (.tmp 41) (.tmp 39) rfl w.heap.size (.slice A11 (i + 1) c11) rfl rfl rfl 139 (.slice A1 i c1) hR11.out size1 (fun w12 hB12 hk12 => ?_)
       have D12 := Lib.hid (RW.push h11.out hO11.out hK11.out hB12 rfl hk12)
       have h12 := Lib.hid D12.out.far
       clear hB12 hk12 hR11
       go_simp
       refine hK _ _ h12.out ?_
       clear hK K
       refine held_end (by kernel_rfl) ?_
       go_wp2_with fail
       go_roundw
       case rel => exact ⟨i + 1, c11, A11, l ++ [KD.mk q A8 c8], by go_num, hlt'.out, hlq.out A8 c8, hks2.out, D12.out⟩
       case measure => (have := hlt'.out; simp [intOf]; omega)
  ·have hz : ¬ ((i : Int) < (p : Int)) := by omega
   have hin : i = p := by have := hip.out; omega
   subst hin
   clear hlt
   rw [List.take_of_length_le (by rw [hp0.out]; exact Nat.le_refl _)] at hl hks
   have hD0 := hD
   obtain ⟨g, hg⟩ := own_someK hD.out.row hp1.out
   subst hg
   have hR0 : wr.cell? ⟨w.heap.size, 0, none⟩ = some (.slice (some ⟨g, 0, none⟩) i c1) := hD.out.ring.cell 0
   go_upto_region 13 with (go_at_call 64; refine (sort_ownK l i (w.heap.size + 1) g c1 (by have := hp64.out; omega) wr hD.out.row).mono ?_; rintro e w5 ⟨rfl, ds, hds, hO5, hk5⟩; have D5 := Lib.hid (hD.out.sorted hds.out.1 hO5.out hk5.out); clear hO5 hk5 hD0 hD hR0)
   have hpe : Hid ((ds.map (·.q)).Perm es) := by show List.Perm _ _; rw [← hl.out]; exact hds.out.1.map _
   have hdl : Hid (ds.length = i) := D5.out.row.1
   have hKd : Hid (Kds w5 (some ⟨g, 0, none⟩) i ds) := by obtain ⟨A2, c2, e, -, -, -, h3, -⟩ := D5.out.row.reads; injection e with e1; subst e1; exact h3
   clear hl
   go_wp2_with fail
   go_loopw [8] (fun v wx => ∃ j : Nat, v = .int .i64 (j : Int) ∧ Hid (1 ≤ j) ∧ Hid (j ≤ i) ∧ Hid (∀ (t : Nat) a b, t + 1 < j → ds[t]? = some a → ds[t + 1]? = some b → idK a ≠ idK b) ∧ Hid (Below w5.heap.size w5 wx)) (fun v _ => i - (intOf v).toNat)
   case atStart => exact ⟨1, rfl, Nat.le_refl _, hp1.out, (fun t a b ht => by omega), Below.refl _ _⟩
   case round =>
    obtain ⟨j, rfl, hj1, hji, hne, hbx⟩ := hrel
    obtain ⟨wx, rfl⟩ : ∃ wx, wx = wr := ⟨_, rfl⟩
    have hj6 : (j : Int) ≤ 64 := by have := hji.out; have := hp64.out; omega
    have hj0 : (0 : Int) ≤ (j : Int) := by omega
    have Dx := Lib.hid (D5.out.below hbx.out)
    have hRx : wx.cell? ⟨w.heap.size, 0, none⟩ = some (.slice (some ⟨g, 0, none⟩) i c1) := Dx.out.ring.cell 0
    by_cases hjl : j < i
    ·have hy : (j : Int) < (i : Int) := by omega
     have hjl' := Lib.hid hjl
     obtain ⟨k, hk⟩ : ∃ k, Hid (j = k + 1) := ⟨j - 1, by show _ = _; have := hj1.out; omega⟩
     have z1 : IntKind.i64.wrap ((j : Int) - 1) = (k : Int) := by rw [IntWalk.i64_in _ (by omega)]; have := hk.out; omega
     have z2 : (k : Int) < (i : Int) := by have := hk.out; omega
     have z3 : (0 : Int) ≤ (k : Int) := by omega
     have z4 : IntKind.i64.wrap (k : Int) = (k : Int) := IntWalk.i64_in _ (by have := hk.out; omega)
     obtain ⟨xa, hxa⟩ : ∃ x, Hid (ds[k]? = some x) := ⟨_, List.getElem?_eq_getElem (by rw [hdl.out]; have := hk.out; omega)⟩
     obtain ⟨xb, hxb⟩ : ∃ x, Hid (ds[j]? = some x) := ⟨_, List.getElem?_eq_getElem (by rw [hdl.out]; exact hjl)⟩
     obtain ⟨ta, hta⟩ : ∃ ta, Hid (idK xa = ta) := ⟨_, Lib.hid rfl⟩
     obtain ⟨tb, htb⟩ : ∃ tb, Hid (idK xb = tb) := ⟨_, Lib.hid rfl⟩
     have hla : Hid (ta.length = 32) := by show _ = _; rw [← hta.out]; exact idK_len _
     have hlb : Hid (tb.length = 32) := by show _ = _; rw [← htb.out]; exact idK_len _
     have hfa : Hid (∀ w', Below wx.heap.size wx w' → ∀ (m : Nat) (u : Value), (cells8 ta)[m]? = some u → w'.cell? ⟨g, k * 33 + m, none⟩ = some u) := fun w' hb' m u hu => by
      obtain ⟨b2, o2, e2, -, hc2⟩ := (hKd.out.below (hbx.out.trans (hb'.mono hbx.out.size))).at_ hxa.out
      injection e2 with e2
      injection e2 with e2 e3
      subst e2 e3
      have := hc2 m u (encK_id (by rw [hta.out]; exact hu))
      rwa [Nat.zero_add] at this
     have hfb : Hid (∀ w', Below wx.heap.size wx w' → ∀ (m : Nat) (u : Value), (cells8 tb)[m]? = some u → w'.cell? ⟨g, j * 33 + m, none⟩ = some u) := fun w' hb' m u hu => by
      obtain ⟨b2, o2, e2, -, hc2⟩ := (hKd.out.below (hbx.out.trans (hb'.mono hbx.out.size))).at_ hxb.out
      injection e2 with e2
      injection e2 with e2 e3
      subst e2 e3
      have := hc2 m u (encK_id (by rw [htb.out]; exact hu))
      rwa [Nat.zero_add] at this
     have sA : Hid ((Tryz.prog.info? 23).map (·.size) = some (cells8 ta).length) := by show _ = _; rw [cells8_len, hla.out]; exact size32n
     have sB : Hid ((Tryz.prog.info? 23).map (·.size) = some (cells8 tb).length) := by show _ = _; rw [cells8_len, hlb.out]; exact size32n
     obtain ⟨eb, heb⟩ : ∃ eb, Hid (decide (ta = tb) = eb) := ⟨_, Lib.hid rfl⟩
     have hcE : Hid (∀ w', (binOp .eql 23 (.agg (cells8 ta).toArray) (.agg (cells8 tb).toArray)).run Tryz.prog w' = .ok (.bool eb) w') := fun w' => by rw [eql_dig _ _ hla.out hlb.out, heb.out]
     clear hjl
     go_upto_region 16 with fail
     clear hRx
     refine q_region (Class wx) (by kernel_rfl) (by kernel_rfl) (Class.mk_ ((Below.refl _ _).drew)) ?_
     refine q_move rfl (.tmp 4) rfl ?_
     (intro K k; go_simp; apply k; clear k K)
     refine Want.qv0 (.pointer (some ⟨w.heap.size, 0, none⟩)) ?_
     (intro K k; go_simp; apply k; clear k K)
     refine Want.qv0 (.pointer (some ⟨w.heap.size, 0, none⟩)) ?_
     (intro K k; go_simp; apply k; clear k K)
     refine q_val (v := .slice (some ⟨g, 0, none⟩) i c1) rfl (fun w' hw' => by have hc : w'.cell? ⟨w.heap.size, 0, none⟩ = some (.slice (some ⟨g, 0, none⟩) i c1) := (Dx.out.below hw'.below).ring.cell 0; go_simp) ?_
     (intro K k; go_simp; apply k; clear k K)
     refine q_move rfl (.tmp 8) rfl ?_
     (intro K k; go_simp; apply k; clear k K)
     refine Want.qv0 (.int .i64 (k : Int)) ?_
     (intro K k; go_simp; apply k; clear k K)
     refine Want.qv0 (.pointer (some ⟨g, k * 33, none⟩)) ?_
     (intro K k; go_simp; apply k; clear k K)
     refine Want.qv0 (.pointer (some ⟨g, k * 33, none⟩)) ?_
     (intro K k; go_simp; apply k; clear k K)
     refine q_part rfl 23 (.tmp 65) rfl g ((k * 33)) rfl (cells8 ta) _ (fun w' hw' => hfa.out w' hw'.below) Tryz.underlying23 rfl sA.out ?_
     (intro K k; go_simp; apply k; clear k K)
     refine q_move rfl (.tmp 4) rfl ?_
     (intro K k; go_simp; apply k; clear k K)
     refine Want.qv0 (.pointer (some ⟨w.heap.size, 0, none⟩)) ?_
     (intro K k; go_simp; apply k; clear k K)
     refine Want.qv0 (.pointer (some ⟨w.heap.size, 0, none⟩)) ?_
     (intro K k; go_simp; apply k; clear k K)
     refine q_val (v := .slice (some ⟨g, 0, none⟩) i c1) rfl (fun w' hw' => by have hc : w'.cell? ⟨w.heap.size, 0, none⟩ = some (.slice (some ⟨g, 0, none⟩) i c1) := (Dx.out.below hw'.below).ring.cell 0; go_simp) ?_
     (intro K k; go_simp; apply k; clear k K)
     refine q_move rfl (.tmp 8) rfl ?_
     (intro K k; go_simp; apply k; clear k K)
     refine Want.qv0 (.pointer (some ⟨g, j * 33, none⟩)) ?_
     (intro K k; go_simp; apply k; clear k K)
     refine Want.qv0 (.pointer (some ⟨g, j * 33, none⟩)) ?_
     (intro K k; go_simp; apply k; clear k K)
     refine q_part rfl 23 (.tmp 73) rfl g ((j * 33)) rfl (cells8 tb) _ (fun w' hw' => hfb.out w' hw'.below) Tryz.underlying23 rfl sB.out ?_
     (intro K k; go_simp; apply k; clear k K)
     refine q_val (v := .bool eb) rfl (fun w' hw' => run_cmp rfl rfl rfl qDN (hcE.out w')) ?_
     (intro K k; go_simp; apply k; clear k K)
     refine q_nil ?_
     intro w7 hw7
     have D7 := Lib.hid (Dx.out.below hw7.below)
     have hb7 : Hid (Below w5.heap.size w5 w7) := hbx.out.trans (hw7.below.mono hbx.out.size)
     clear hw7
     cases eb with
     | true =>
      have h92 : Hid (92 = ringAns es) := by
       show _ = _
       unfold ringAns
       rw [if_neg (by rw [hp0.out]; have := hp1.out; have := hp64.out; omega), if_pos hks.out, if_neg]
       rw [apart_no hpe.out hxa.out (by rw [← hk.out]; exact hxb.out) (by rw [hta.out, htb.out]; exact of_decide_eq_true heb.out)]
       simp
      go_wp2_with fail
      go_ret2
      exact new_bad h92.out (by decide) D7.out.far
     | false =>
      have hn2 := Lib.hid (step_ne hk.out hxa.out hxb.out (by rw [hta.out, htb.out]; exact of_decide_eq_false heb.out) hne.out)
      go_wp2_with fail
      go_roundw
      case rel => exact ⟨j + 1, by go_num, Nat.le_add_left _ _, hjl'.out, hn2.out, hb7.out⟩
      case measure => (have := hjl'.out; simp [intOf]; omega)
    ·have hy : ¬ ((j : Int) < (i : Int)) := by omega
     have hst : Hid (Strict idK ds) := strict_of hds.out.2 (fun t a b h1 h2 => hne.out t a b (by have := (List.getElem?_eq_some_iff.1 h2).1; have := hdl.out; omega) h1 h2)
     have h0 : Hid (0 = ringAns es) := by
      show _ = _
      unfold ringAns
      rw [if_neg (by rw [hp0.out]; have := hp1.out; have := hp64.out; omega), if_pos hks.out, if_pos (apart_strict hpe.out hst.out)]
     clear hjl
     go_wp2_with fail
     go_ret2
     exact ⟨_, _, rfl, Dx.out.far, h0.out, fun h => absurd rfl h, fun _ => ⟨ds, rfl, Dx.out.ringOwn, hpe.out, hst.out⟩⟩
end Go.Proofs.YtgldkfaiofkhbaaGreatDoor.NewRing
