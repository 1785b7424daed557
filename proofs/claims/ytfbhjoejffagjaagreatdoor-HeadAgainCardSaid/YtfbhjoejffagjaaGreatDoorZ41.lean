/-
  Texts of the claim, put into one file: BinH.
-/
import Derived.Test.YtfbhjoejffagjaaGreatDoorZ29
import Derived.Test.YtfbhjoejffagjaaGreatDoorZ37
import Derived.Deep.Cut

namespace Go.Proofs.YtfbhjoejffagjaaGreatDoor.BinH
open Go Go.RowKit Go.Proofs.YtfbhjoejffagjaaGreatDoor Mem Sha Bytes SortP NoteP Compare Grown Want Rise SgM EncNoteP Bin RingM

theorem sizeK : (Tryz.prog.info? 69).map (·.size) = some 33 := by kernel_rfl
theorem size32k : (Tryz.prog.info? 34).map (·.size) = some 32 := by kernel_rfl
structure AtK (ss : List KD) (x : Text) (i : Nat) (f : Bool) : Prop where
 le : i ≤ ss.length
 low : ∀ y ∈ ss.take i, lex (idK y) x = true
 high : ∀ y ∈ ss.drop i, lex (idK y) x = false
 found : f = decide ((ss[i]?).map idK = some x)
theorem low_memK {ss : List KD} {x : Text} {i : Nat} (h : ∀ t y, t < i → ss[t]? = some y → lex (idK y) x = true) : ∀ y ∈ ss.take i, lex (idK y) x = true := fun y hy => by
 obtain ⟨t, ht, e⟩ := List.getElem_of_mem hy
 rw [List.length_take] at ht
 refine h t y (by omega) ?_
 rw [← e, List.getElem_take, List.getElem?_eq_getElem (by omega)]
theorem high_memK {ss : List KD} {x : Text} {i : Nat} (h : ∀ t y, i ≤ t → ss[t]? = some y → lex (idK y) x = false) : ∀ y ∈ ss.drop i, lex (idK y) x = false := fun y hy => by
 obtain ⟨t, ht, e⟩ := List.getElem_of_mem hy
 rw [List.length_drop] at ht
 refine h (i + t) y (by omega) ?_
 rw [← e, List.getElem_drop, List.getElem?_eq_getElem (by omega)]
theorem strict_atK {ss : List KD} (hs : Strict idK ss) {i j : Nat} {a b : KD} (hij : i < j) (ha : ss[i]? = some a) (hb : ss[j]? = some b) : lex (idK a) (idK b) = true := by
 obtain ⟨h1, rfl⟩ := List.getElem?_eq_some_iff.1 ha
 obtain ⟨h2, rfl⟩ := List.getElem?_eq_some_iff.1 hb
 exact strict_get hs hij h2
theorem up_lowK {ss : List KD} (hs : Strict idK ss) {x : Text} {y : KD} {h : Nat} (hy : ss[h]? = some y) (hl : lex (idK y) x = true) : ∀ t z, t < h + 1 → ss[t]? = some z → lex (idK z) x = true := fun t z ht hz => by
 by_cases e : t = h
 ·subst e
  rw [hy] at hz
  obtain rfl := Option.some.inj hz
  exact hl
 ·exact lex_trans _ _ _ (strict_atK hs (by omega) hz hy) hl
theorem up_highK {ss : List KD} (hs : Strict idK ss) {x : Text} {y : KD} {h : Nat} (hy : ss[h]? = some y) (hl : lex (idK y) x = false) : ∀ t z, h ≤ t → ss[t]? = some z → lex (idK z) x = false := fun t z ht hz => by
 by_cases e : t = h
 ·subst e
  rw [hy] at hz
  obtain rfl := Option.some.inj hz
  exact hl
 ·cases hq : lex (idK z) x with
  | false => rfl
  | true =>
   have := lex_trans _ _ _ (strict_atK hs (by omega) hy hz) hq
   rw [hl] at this
   cases this
structure Kds (w : World) (A : Option Addr) (n : Nat) (l : List KD) : Prop where
 len : l.length = n
 rd : Reads w 33 A n (l.flatMap encK)
theorem Kds.below {w w' : World} {A : Option Addr} {n : Nat} {l : List KD} (h : Kds w A n l) (hb : Below w.heap.size w w') : Kds w' A n l := ⟨h.len, h.rd.below hb⟩
theorem Kds.at_ {w : World} {A : Option Addr} {n : Nat} {l : List KD} (h : Kds w A n l) {i : Nat} {x : KD} (hx : l[i]? = some x) : ∃ b o, A = some ⟨b, o, none⟩ ∧ b < w.heap.size ∧ ∀ (j : Nat) (u : Value), (encK x)[j]? = some u → w.cell? ⟨b, o + i * 33 + j, none⟩ = some u := by
 have hi : i < l.length := (List.getElem?_eq_some_iff.1 hx).1
 obtain ⟨b, o, e, hb, hc⟩ := h.rd.at_ (by have := h.len; omega)
 refine ⟨b, o, e, hb, fun j u hu => ?_⟩
 have hj : j < 33 := by
  have := (List.getElem?_eq_some_iff.1 hu).1
  rw [encK_len] at this
  exact this
 rw [Nat.add_assoc]
 apply hc
 rw [flatK_at l i x j hx hj]
 exact hu
def BinKOut (ss : List KD) (x : Text) (w : World) (e : Ending) (w' : World) : Prop := ∃ (i : Nat) (f : Bool), e = .returned (.tuple #[.int .i64 (i : Int), .bool f]) ∧ AtK ss x i f ∧ Below w.heap.size w w'
set_option maxRecDepth 100000 in
set_option maxHeartbeats 4000000 in
theorem binK_any (ss : List KD) (n : Nat) (hn47 : n ≤ 1099511627776) (hst : Strict idK ss) (x : Text) (hxl : x.length = 32) (A : Option Addr) (c : Nat) (w : World) (h : Kds w A n ss) :
  Calls Tryz.prog 102 #[.slice A n c, .agg (cells8 x).toArray, .func (.func 103) #[] #[]] w (BinKOut ss x w) := by
 obtain ⟨w0, hw0⟩ : ∃ w0, w.alloc (.cells (cells8 x).toArray 34) = w0 := ⟨_, rfl⟩
 have B0 : Hid (Blk w0 w.heap.size 34 (cells8 x).toArray) := by show Blk _ _ _ _; rw [← hw0]; exact Blk.new _ _ _
 have hb0 : Hid (Below w.heap.size w w0) := by show Below _ _ _; rw [← hw0]; exact Below.heap_below w _
 have S0 := Lib.hid (h.below hb0.out)
 have hn0 := Lib.hid hn47
 have hst0 := Lib.hid hst
 have hx0 := Lib.hid hxl
 have hlen : Hid (ss.length = n) := h.len
 have sX : Hid ((Tryz.prog.info? 34).map (·.size) = some (cells8 x).toArray.size) := size32k.trans (congrArg some (by rw [List.size_toArray, cells8_len, hxl]))
 have i1 : Hid (∀ t y, t < 0 → ss[t]? = some y → lex (idK y) x = true) := fun t y ht => absurd ht (Nat.not_lt_zero t)
 have i2 : Hid (∀ t y, n ≤ t → ss[t]? = some y → lex (idK y) x = false) := fun t y ht hy => by
  have := (List.getElem?_eq_some_iff.1 hy).1
  have := h.len
  omega
 clear h hst hxl
 go_enter Tryz.func102, Tryz.ntmps102
 go_wp2_with fail
 clear hw0
 go_loopw [9, 10] (fun v9 v10 wr => ∃ lo hi : Nat, v9 = .int .i64 (lo : Int) ∧ v10 = .int .i64 (hi : Int) ∧ Hid (lo ≤ hi) ∧ Hid (hi ≤ n) ∧ Hid (∀ t y, t < lo → ss[t]? = some y → lex (idK y) x = true) ∧ Hid (∀ t y, hi ≤ t → ss[t]? = some y → lex (idK y) x = false) ∧ Hid (Below w0.heap.size w0 wr)) (fun v9 v10 _ => (intOf v10).toNat - (intOf v9).toNat)
 case atStart => exact ⟨0, n, rfl, rfl, Nat.zero_le _, Nat.le_refl _, i1.out, i2.out, Below.refl _ _⟩
 case round =>
  clear i1 i2
  obtain ⟨lo, hi, rfl, rfl, hlh, hhn, j1, j2, hb⟩ := hrel
  have hlo : (lo : Int) ≤ 1099511627776 := by have := hlh.out; have := hhn.out; omega
  have hhi : (hi : Int) ≤ 1099511627776 := by have := hhn.out; omega
  have hl0 : (0 : Int) ≤ (lo : Int) := by omega
  have hh0 : (0 : Int) ≤ (hi : Int) := by omega
  have Sr := Lib.hid (S0.out.below hb.out)
  have Br : Hid (Blk wr w.heap.size 34 (cells8 x).toArray) := (hb.out.block _ B0.out.lt).trans B0.out
  by_cases hlt : lo < hi
  ·have hz : (lo : Int) < (hi : Int) := by omega
   obtain ⟨m, hm⟩ : ∃ m, Hid ((lo + hi) / 2 = m) := ⟨_, Lib.hid rfl⟩
   have hm1 : Hid (lo ≤ m ∧ m < hi) := by show _ ∧ _; have := hm.out; omega
   have y1 : IntKind.i64.wrap ((lo : Int) + (hi : Int)) = (lo : Int) + (hi : Int) := IntWalk.i64_in _ (by omega)
   have y2 : IntKind.u64.wrap ((lo : Int) + (hi : Int)) = (lo : Int) + (hi : Int) := u64_in _ (by omega) (by omega)
   have y3 : ((lo : Int) + (hi : Int)) / 2 = (m : Int) := by have := hm.out; omega
   have y4 : IntKind.i64.wrap (m : Int) = (m : Int) := IntWalk.i64_in _ (by have := hm1.out; omega)
   have y6 : IntKind.u64.wrap (m : Int) = (m : Int) := u64_in _ (by omega) (by have := hm1.out; omega)
   have hmz : (m : Int) < (n : Int) := by have := hm1.out; have := hhn.out; omega
   have hm0 : (0 : Int) ≤ (m : Int) := by omega
   have hm6 : (m : Int) ≤ 1099511627776 := by have := hm1.out; omega
   obtain ⟨y, hy⟩ : ∃ y, Hid (ss[m]? = some y) := ⟨_, List.getElem?_eq_getElem (by rw [hlen.out]; have := hm1.out; have := hhn.out; omega)⟩
   obtain ⟨cy, hcyE⟩ : ∃ cy, Hid (encK y = cy) := ⟨_, Lib.hid rfl⟩
   obtain ⟨b, o, hA, hbl, hcy⟩ := Sr.out.at_ hy.out
   subst hA
   rw [hcyE.out] at hcy
   have hfy : Hid (∀ w', Below wr.heap.size wr w' → ∀ j u, cy[j]? = some u → w'.cell? ⟨b, o + m * 33 + j, none⟩ = some u) := fun w' hb' j u hu => (hb'.cell (p := ⟨b, o + m * 33 + j, none⟩) hbl).trans (hcy j u hu)
   have sY : Hid ((Tryz.prog.info? 69).map (·.size) = some cy.length) := by show _ = _; rw [← hcyE.out, encK_len]; exact sizeK
   have hlt' : Hid (lo < hi) := hlt
   clear hcy hlt
   go_upto_region 5 with fail
   cases hl : lex (idK y) x with
   | true =>
    have hc : Hid (cmpT (idK y) x = -1) := cmp_low hl
    have hcm : Hid (∀ w', Calls Tryz.prog 103 #[.agg cy.toArray, .agg (cells8 x).toArray] w' fun e w'' => e = .returned (.int .i64 (-1)) ∧ Below w'.heap.size w' w'') := fun w' => by rw [← hcyE.out, ← hc.out]; exact findCmp_below y x hx0.out w'
    have n1 := Lib.hid (up_lowK hst0.out hy.out hl)
    clear hl
    refine q_region (Class wr) (by kernel_rfl) (by kernel_rfl) (Class.mk_ ((Below.refl _ _).drew)) ?_
    refine q_move rfl (.tmp 2) rfl ?_
    (intro K k; go_simp; apply k; clear k K)
    refine q_move rfl (.tmp 0) rfl ?_
    (intro K k; go_simp; apply k; clear k K)
    refine q_move rfl (.tmp 11) rfl ?_
    (intro K k; go_simp; apply k; clear k K)
    refine Want.qv0 (.pointer (some ⟨b, o + m * 33, none⟩)) ?_
    (intro K k; go_simp; apply k; clear k K)
    refine q_part rfl 69 (.tmp 27) rfl b ((o + m * 33)) rfl (cy) _ (fun w' hw' => hfy.out w' hw'.below) Tryz.underlying69 rfl sY.out ?_
    (intro K k; go_simp; apply k; clear k K)
    refine q_row rfl 34 (.tmp 4) rfl w.heap.size rfl 34 ((cells8 x).toArray) (0, 0) _ (fun w' hw' => (hw'.below.block _ Br.out.lt).trans Br.out) Tryz.underlying34 rfl sX.out ?_
    (intro K k; go_simp; apply k; clear k K)
    refine q_fnv (v := .int .i64 (-1)) (f := 103) (args := #[.agg cy.toArray, .agg (cells8 x).toArray]) rfl _ _ rfl rfl rfl Tryz.func103 (by kernel_rfl) (by kernel_rfl) (fun w' hw' => ((hcm.out w').mono fun e w'' ⟨he, hb⟩ => ⟨he, hw'.next hb⟩)) ?_
    (intro K k; go_simp; apply k; clear k K)
    refine Want.qv0 (.bool true) ?_
    (intro K k; go_simp; apply k; clear k K)
    refine q_nil ?_
    intro w5 hw5
    have hb5 : Hid (Below w0.heap.size w0 w5) := hb.out.trans (hw5.below.mono hb.out.size)
    clear hw5
    go_wp2_with fail
    go_roundw
    case rel => exact ⟨m + 1, hi, by go_num, rfl, hm1.out.2, hhn.out, n1.out, j2.out, hb5.out⟩
    case measure => (have := hm1.out; have := hlt'.out; simp [intOf]; omega)
   | false =>
    obtain ⟨r, hc⟩ : ∃ r, Hid (cmpT (idK y) x = r) := ⟨_, Lib.hid rfl⟩
    have hcm : Hid (∀ w', Calls Tryz.prog 103 #[.agg cy.toArray, .agg (cells8 x).toArray] w' fun e w'' => e = .returned (.int .i64 r) ∧ Below w'.heap.size w' w'') := fun w' => by rw [← hcyE.out, ← hc.out]; exact findCmp_below y x hx0.out w'
    have hr0 : (0 : Int) ≤ r := by rw [← hc.out]; exact (cmp_high hl).1
    have n2 := Lib.hid (up_highK hst0.out hy.out hl)
    clear hl
    refine q_region (Class wr) (by kernel_rfl) (by kernel_rfl) (Class.mk_ ((Below.refl _ _).drew)) ?_
    refine q_move rfl (.tmp 2) rfl ?_
    (intro K k; go_simp; apply k; clear k K)
    refine q_move rfl (.tmp 0) rfl ?_
    (intro K k; go_simp; apply k; clear k K)
    refine q_move rfl (.tmp 11) rfl ?_
    (intro K k; go_simp; apply k; clear k K)
    refine Want.qv0 (.pointer (some ⟨b, o + m * 33, none⟩)) ?_
    (intro K k; go_simp; apply k; clear k K)
    refine q_part rfl 69 (.tmp 27) rfl b ((o + m * 33)) rfl (cy) _ (fun w' hw' => hfy.out w' hw'.below) Tryz.underlying69 rfl sY.out ?_
    (intro K k; go_simp; apply k; clear k K)
    refine q_row rfl 34 (.tmp 4) rfl w.heap.size rfl 34 ((cells8 x).toArray) (0, 0) _ (fun w' hw' => (hw'.below.block _ Br.out.lt).trans Br.out) Tryz.underlying34 rfl sX.out ?_
    (intro K k; go_simp; apply k; clear k K)
    refine q_fnv (v := .int .i64 r) (f := 103) (args := #[.agg cy.toArray, .agg (cells8 x).toArray]) rfl _ _ rfl rfl rfl Tryz.func103 (by kernel_rfl) (by kernel_rfl) (fun w' hw' => ((hcm.out w').mono fun e w'' ⟨he, hb⟩ => ⟨he, hw'.next hb⟩)) ?_
    (intro K k; go_simp; apply k; clear k K)
    refine Want.qv0 (.bool false) ?_
    (intro K k; go_simp; apply k; clear k K)
    refine q_nil ?_
    intro w5 hw5
    have hb5 : Hid (Below w0.heap.size w0 w5) := hb.out.trans (hw5.below.mono hb.out.size)
    clear hw5
    go_wp2_with fail
    go_roundw
    case rel => exact ⟨lo, m, rfl, by go_num, hm1.out.1, Nat.le_of_lt (Nat.lt_of_lt_of_le hm1.out.2 hhn.out), j1.out, n2.out, hb5.out⟩
    case measure => (have := hm1.out; have := hlt'.out; simp [intOf]; omega)
  ·have hz : ¬ ((lo : Int) < (hi : Int)) := by omega
   obtain rfl : lo = hi := by have := hlh.out; omega
   have bw : Hid (Below w.heap.size w wr) := hb0.out.trans (hb.out.mono hb0.out.size)
   have a1 := Lib.hid (low_memK j1.out)
   have a2 := Lib.hid (high_memK j2.out)
   clear hlt
   go_upto_region 8 with fail
   by_cases hln : lo < n
   ·have hz2 : (lo : Int) < (n : Int) := by omega
    obtain ⟨y, hy⟩ : ∃ y, Hid (ss[lo]? = some y) := ⟨_, List.getElem?_eq_getElem (by rw [hlen.out]; exact hln)⟩
    obtain ⟨cy, hcyE⟩ : ∃ cy, Hid (encK y = cy) := ⟨_, Lib.hid rfl⟩
    obtain ⟨b, o, hA, hbl, hcy⟩ := Sr.out.at_ hy.out
    subst hA
    rw [hcyE.out] at hcy
    have hfy : Hid (∀ w', Below wr.heap.size wr w' → ∀ j u, cy[j]? = some u → w'.cell? ⟨b, o + lo * 33 + j, none⟩ = some u) := fun w' hb' j u hu => (hb'.cell (p := ⟨b, o + lo * 33 + j, none⟩) hbl).trans (hcy j u hu)
    have sY : Hid ((Tryz.prog.info? 69).map (·.size) = some cy.length) := by show _ = _; rw [← hcyE.out, encK_len]; exact sizeK
    have hlow : lex (idK y) x = false := j2.out lo y (Nat.le_refl _) hy.out
    obtain ⟨r, hc⟩ : ∃ r, Hid (cmpT (idK y) x = r) := ⟨_, Lib.hid rfl⟩
    have hcm : Hid (∀ w', Calls Tryz.prog 103 #[.agg cy.toArray, .agg (cells8 x).toArray] w' fun e w'' => e = .returned (.int .i64 r) ∧ Below w'.heap.size w' w'') := fun w' => by rw [← hcyE.out, ← hc.out]; exact findCmp_below y x hx0.out w'
    have hfo : Hid ((r == 0) = decide ((ss[lo]?).map idK = some x)) := by
     show _ = _
     rw [hy.out, ← hc.out]
     have e := (cmp_high hlow).2
     by_cases p : idK y = x
     ·rw [e.2 p, Option.map_some, p]; simp
     ·rw [Option.map_some, decide_eq_false (by simpa using p)]; simp; exact fun q => p (e.1 q)
    obtain ⟨fb, hfb⟩ : ∃ fb, Hid ((r == 0) = fb) := ⟨_, Lib.hid rfl⟩
    have hfb2 := hfb.out
    clear hcy hlow hln
    refine q_region (Class wr) (by kernel_rfl) (by kernel_rfl) (Class.mk_ ((Below.refl _ _).drew)) ?_
    refine q_move rfl (.tmp 9) rfl ?_
    (intro K k; go_simp; apply k; clear k K)
    refine q_move rfl (.tmp 9) rfl ?_
    (intro K k; go_simp; apply k; clear k K)
    refine Want.qv0 (.int .i64 (n : Int)) ?_
    (intro K k; go_simp; apply k; clear k K)
    refine Want.qv0 (.bool true) ?_
    (intro K k; go_simp; apply k; clear k K)
    refine Want.qv0 (.bool true) ?_
    (intro K k; go_simp; apply k; clear k K)
    refine q_move rfl (.tmp 2) rfl ?_
    (intro K k; go_simp; apply k; clear k K)
    refine q_move rfl (.tmp 0) rfl ?_
    (intro K k; go_simp; apply k; clear k K)
    refine q_move rfl (.tmp 9) rfl ?_
    (intro K k; go_simp; apply k; clear k K)
    refine Want.qv0 (.pointer (some ⟨b, o + lo * 33, none⟩)) ?_
    (intro K k; go_simp; apply k; clear k K)
    refine q_part rfl 69 (.tmp 43) rfl b ((o + lo * 33)) rfl (cy) _ (fun w' hw' => hfy.out w' hw'.below) Tryz.underlying69 rfl sY.out ?_
    (intro K k; go_simp; apply k; clear k K)
    refine q_row rfl 34 (.tmp 4) rfl w.heap.size rfl 34 ((cells8 x).toArray) (0, 0) _ (fun w' hw' => (hw'.below.block _ Br.out.lt).trans Br.out) Tryz.underlying34 rfl sX.out ?_
    (intro K k; go_simp; apply k; clear k K)
    refine q_fnv (v := .int .i64 r) (f := 103) (args := #[.agg cy.toArray, .agg (cells8 x).toArray]) rfl _ _ rfl rfl rfl Tryz.func103 (by kernel_rfl) (by kernel_rfl) (fun w' hw' => ((hcm.out w').mono fun e w'' ⟨he, hb⟩ => ⟨he, hw'.next hb⟩)) ?_
    (intro K k; go_simp; apply k; clear k K)
    refine Want.qv0 (.bool fb) ?_
    (intro K k; go_simp; apply k; clear k K)
    refine Want.qv0 (.bool fb) ?_
    (intro K k; go_simp; apply k; clear k K)
    refine Want.qv0 (.int .i64 (lo : Int)) ?_
    (intro K k; go_simp; apply k; clear k K)
    refine Want.qv0 (.bool fb) ?_
    (intro K k; go_simp; apply k; clear k K)
    refine q_nil ?_
    intro w5 hw5
    have hw5c := Lib.hid hw5.below
    clear hw5
    go_wp2_with fail
    go_ret2
    unfold BinKOut
    exact ⟨lo, fb, rfl, ⟨by rw [hlen.out]; have := hhn.out; exact this, a1.out, a2.out, by rw [← hfb.out, hfo.out]⟩, bw.out.trans (hw5c.out.mono bw.out.size)⟩
   ·have hz2 : ¬ ((lo : Int) < (n : Int)) := by omega
    have hnn : Hid (decide ((ss[lo]?).map idK = some x) = false) := by show _ = _; rw [List.getElem?_eq_none (by rw [hlen.out]; omega)]; simp
    clear hln
    refine q_region (Class wr) (by kernel_rfl) (by kernel_rfl) (Class.mk_ ((Below.refl _ _).drew)) ?_
    refine q_move rfl (.tmp 9) rfl ?_
    (intro K k; go_simp; apply k; clear k K)
    refine q_move rfl (.tmp 9) rfl ?_
    (intro K k; go_simp; apply k; clear k K)
    refine Want.qv0 (.int .i64 (n : Int)) ?_
    (intro K k; go_simp; apply k; clear k K)
    refine Want.qv0 (.bool false) ?_
    (intro K k; go_simp; apply k; clear k K)
    refine Want.qv0 (.bool false) ?_
    (intro K k; go_simp; apply k; clear k K)
    refine q_skip rfl ?_
    (intro K k; go_simp; apply k; clear k K)
    refine q_skip rfl ?_
    (intro K k; go_simp; apply k; clear k K)
    refine q_skip rfl ?_
    (intro K k; go_simp; apply k; clear k K)
    refine q_skip rfl ?_
    (intro K k; go_simp; apply k; clear k K)
    refine q_skip rfl ?_
    (intro K k; go_simp; apply k; clear k K)
    refine q_skip rfl ?_
    (intro K k; go_simp; apply k; clear k K)
    refine q_skip rfl ?_
    (intro K k; go_simp; apply k; clear k K)
    refine q_skip rfl ?_
    (intro K k; go_simp; apply k; clear k K)
    refine Want.qv0 (.bool false) ?_
    (intro K k; go_simp; apply k; clear k K)
    refine Want.qv0 (.int .i64 (lo : Int)) ?_
    (intro K k; go_simp; apply k; clear k K)
    refine Want.qv0 (.bool false) ?_
    (intro K k; go_simp; apply k; clear k K)
    refine q_nil ?_
    intro w5 hw5
    have hw5c := Lib.hid hw5.below
    clear hw5
    go_wp2_with fail
    go_ret2
    unfold BinKOut
    exact ⟨lo, false, rfl, ⟨by rw [hlen.out]; exact hhn.out, a1.out, a2.out, by rw [hnn.out]⟩, bw.out.trans (hw5c.out.mono bw.out.size)⟩
end Go.Proofs.YtfbhjoejffagjaaGreatDoor.BinH
