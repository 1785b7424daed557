/-
  Texts of the claim, put into one file: RefRising.
-/
import Derived.Test.YtfbhjoejffagjaaGreatDoorZ5
import Derived.Test.YtfbhjoejffagjaaGreatDoorZ29
import Derived.Test.YtfbhjoejffagjaaGreatDoorZ7
import Derived.Deep.Cut

namespace Go.Proofs.YtfbhjoejffagjaaGreatDoor.RefRising
open Go Go.RowKit Go.Proofs.YtfbhjoejffagjaaGreatDoor Mem Sha Bytes SortP NoteP Grown Want Rise Go.Proofs.YtfbhjoejffagjaaGreatDoor.Append Own SgM Held RefLess DigEq EncNoteP

theorem qDR : Tryz.prog.eqGuardType Tryz.prog.depth 34 = false := by kernel_rfl
theorem size32r : (Tryz.prog.info? 34).map (·.size) = some 32 := by kernel_rfl
theorem size64r : (Tryz.prog.info? 56).map (·.size) = some 64 := by kernel_rfl
theorem ins_step {r : List Text} {a : Nat} {x y : Text} (hy : r[a]? = some y) (hl : lex (kyS y) (kyS x) = true) : (ins kyS x (r.drop a)).map (r.take a ++ ·) = (ins kyS x (r.drop (a + 1))).map (r.take (a + 1) ++ ·) := by
 obtain ⟨ha, rfl⟩ := List.getElem?_eq_some_iff.1 hy
 rw [List.drop_eq_getElem_cons ha]
 show (if lex (kyS r[a]) (kyS x) = true then (ins kyS x (r.drop (a + 1))).map (r[a] :: ·) else _).map _ = _
 have e : r.take (a + 1) = r.take a ++ [r[a]] := by rw [List.take_add_one, hy]; rfl
 rw [if_pos hl, e]
 cases ins kyS x (r.drop (a + 1)) with
 | none => rfl
 | some l => show some (r.take a ++ r[a] :: l) = some (r.take a ++ [r[a]] ++ l); rw [List.append_assoc]; rfl
theorem ins_eq {r : List Text} {a : Nat} {x y : Text} (hy : r[a]? = some y) (hl : lex (kyS y) (kyS x) = false) (he : kyS y = kyS x) : (ins kyS x (r.drop a)).map (r.take a ++ ·) = none := by
 obtain ⟨ha, rfl⟩ := List.getElem?_eq_some_iff.1 hy
 rw [List.drop_eq_getElem_cons ha]
 show (if lex (kyS r[a]) (kyS x) = true then _ else if kyS r[a] = kyS x then none else _).map _ = _
 rw [if_neg (by rw [hl]; simp), if_pos he]
 rfl
theorem ins_gt {r : List Text} {a : Nat} {x y : Text} (hy : r[a]? = some y) (hl : lex (kyS y) (kyS x) = false) (he : ¬ kyS y = kyS x) : (ins kyS x (r.drop a)).map (r.take a ++ ·) = some (r.take a ++ [x] ++ r.drop a) := by
 obtain ⟨ha, rfl⟩ := List.getElem?_eq_some_iff.1 hy
 rw [List.drop_eq_getElem_cons ha]
 show (if lex (kyS r[a]) (kyS x) = true then _ else if kyS r[a] = kyS x then none else some (x :: r[a] :: r.drop (a + 1))).map _ = _
 rw [if_neg (by rw [hl]; simp), if_neg he]
 simp
theorem ins_end {r : List Text} {a : Nat} {x : Text} (ha : r.length = a) : (ins kyS x (r.drop a)).map (r.take a ++ ·) = some (r.take a ++ [x] ++ r.drop a) := by
 rw [List.drop_of_length_le (by omega)]
 simp [ins]
def fld (l : List Text) (o : Option (List Text)) : Option (List Text) := l.foldl (fun o x => o.bind (ins kyS x)) o
theorem fld_none (l : List Text) : fld l none = none := fold_none l
theorem fld_step {ss : List Text} {i : Nat} {x : Text} (hx : ss[i]? = some x) (r : List Text) : fld (ss.drop i) (some r) = fld (ss.drop (i + 1)) (ins kyS x r) := by
 obtain ⟨hi, rfl⟩ := List.getElem?_eq_some_iff.1 hx
 rw [List.drop_eq_getElem_cons hi]
 rfl
theorem fld_end {ss : List Text} {i : Nat} (hi : ss.length ≤ i) (o : Option (List Text)) : fld (ss.drop i) o = o := by
 rw [List.drop_of_length_le hi]
 rfl
def RisPost (B : Nat) (w' : World) (v : Value) (n : Nat) : Option (List Text) → Prop
 | none => v = .slice none 0 0
 | some rs => OwnS w' B v n rs
theorem RisPost.below {B : Nat} {w w' : World} {v : Value} {n : Nat} {o : Option (List Text)} (h : RisPost B w v n o) (hb : Below w.heap.size w w') : RisPost B w' v n o := by
 cases o with
 | none => exact h
 | some rs => exact OwnS.below h hb
theorem cut_nil {A : Option Addr} {i c a : Nat} (h : A = none → i = 0 ∧ c = 0) (hc : a ≤ c) : cutS A a c = none → i - a = 0 ∧ c - a = 0 := fun e => by
 unfold cutS at e
 by_cases hh : c = a
 ·rw [if_pos hh] at e
  obtain ⟨h1, h2⟩ := h e
  omega
 ·rw [if_neg hh] at e
  cases A with
  | none => obtain ⟨h1, h2⟩ := h rfl; omega
  | some x => cases e
set_option maxRecDepth 100000 in
set_option maxHeartbeats 4000000 in
theorem refrising_any (ss : List Text) (n : Nat) (hn47 : n ≤ 2199023255552) (A : Option Addr) (c : Nat) (w : World) (h : Sgs w A n ss) :
  Calls Tryz.prog 62 #[.slice A n c] w fun e w' => ∃ v, e = .returned (.tuple #[v, .bool (rising kyS ss).isNone]) ∧ Below w.heap.size w w' ∧ RisPost w.heap.size w' v n (rising kyS ss) := by
 obtain ⟨i0, ii, iz0, iz1, iz2⟩ := info_partsN info64
 obtain ⟨ans, hans⟩ : ∃ x, Hid (rising kyS ss = x) := ⟨_, Lib.hid rfl⟩
 rw [hans.out]
 have hst0 : Hid (fld (ss.drop 0) (some []) = ans) := hans.out
 replace h := Lib.hid h
 have hn47 := Lib.hid hn47
 clear hans
 go_enter Tryz.func62, Tryz.ntmps62
 go_wp2_with fail
 go_loopw [4, 5] (fun v4 v wr => ∃ (i : Nat) (A1 : Option Addr) (c1 : Nat) (r : List Text), v = .int .i64 (i : Int) ∧ v4 = .slice A1 i c1 ∧ Hid (i ≤ n) ∧ Hid (OwnS wr w.heap.size (.slice A1 i c1) i r) ∧ Hid (fld (ss.drop i) (some r) = ans) ∧ Hid (Below w.heap.size w wr)) (fun _ v _ => n - (intOf v).toNat)
 case atStart => exact ⟨0, none, 0, [], rfl, rfl, Nat.zero_le _, OwnS.nil _ _, hst0.out, Below.refl _ _⟩
 case round =>
  clear hst0
  obtain ⟨i, A1, c1, r, rfl, rfl, hin, hO, hfl, hbe⟩ := hrel
  have hi6 : (i : Int) ≤ 2199023255552 := by have := hin.out; have := hn47.out; omega
  by_cases hlt : i < n
  ·have hz : (i : Int) < (n : Int) := by omega
   have hz0 : (0 : Int) ≤ (i : Int) := by omega
   have hlt' : Hid (i < n) := hlt
   obtain ⟨x, hx⟩ : ∃ x, Hid (ss[i]? = some x) := ⟨_, List.getElem?_eq_getElem (by rw [h.out.len]; exact hlt)⟩
   have hxl := Lib.hid (h.out.all x (List.mem_of_getElem? hx.out))
   obtain ⟨b0, o0, hA, hb0, hcx⟩ := h.out.at_ hx.out
   subst hA
   obtain ⟨A2, c2, e2, hic, -, hnil, hS1, -⟩ := OwnS.reads hO.out
   injection e2 with e2 _ e3
   subst e2 e3
   replace hic := Lib.hid hic
   replace hnil := Lib.hid hnil
   replace hS1 := Lib.hid hS1
   have hfx : Hid (∀ w', Below w.heap.size w w' → ∀ j u, (cells8 x)[j]? = some u → w'.cell? ⟨b0, o0 + i * 64 + j, none⟩ = some u) := fun w' hb' j u hu => (hb'.cell (p := ⟨b0, o0 + i * 64 + j, none⟩) hb0).trans (hcx j u hu)
   have hfk : Hid (∀ w', Below w.heap.size w w' → ∀ j u, (cells8 (kyS x))[j]? = some u → w'.cell? ⟨b0, o0 + i * 64 + j, none⟩ = some u) := fun w' hb' j u hu => by have := hfx.out w' hb' (0 + j) u (ky_cell hu); rwa [Nat.zero_add] at this
   have sX : Hid ((Tryz.prog.info? 34).map (·.size) = some (cells8 (kyS x)).length) := by show _ = _; rw [cells8_len, kyS_len hxl.out]; exact size32r
   have s64 : Hid ((Tryz.prog.info? 56).map (·.size) = some (cells8 x).length) := by show _ = _; rw [cells8_len, hxl.out]; exact size64r
   have hfs : Hid (fld (ss.drop (i + 1)) (ins kyS x r) = ans) := (fld_step hx.out r).symm.trans hfl.out
   have hrl : Hid (r.length = i) := hO.out.2.1
   have hrs : Hid (Sns r) := hO.out.1
   have q1 : Hid (∀ v ∈ [cells8 x], v.length = 64) := fun v hv => by simp only [List.mem_singleton] at hv; rw [hv, cells8_len, hxl.out]
   have hst1 : Hid (ins kyS x r = (ins kyS x (r.drop 0)).map (r.take 0 ++ ·)) := by show _ = _; simp
   clear hcx hlt hfl hO
   obtain ⟨wA, rfl⟩ : ∃ wA, wA = wr := ⟨_, rfl⟩
   go_wp2_with fail
   go_loopw [6] (fun v6 wq => ∃ a : Nat, v6 = .int .i64 (a : Int) ∧ Hid (a ≤ i) ∧ Hid (ins kyS x r = (ins kyS x (r.drop a)).map (r.take a ++ ·)) ∧ Hid (Below wA.heap.size wA wq)) (fun v _ => i - (intOf v).toNat)
   case atStart => exact ⟨0, rfl, Nat.zero_le _, hst1.out, Below.refl _ _⟩
   case round =>
    clear hst1
    obtain ⟨a, rfl, hai, hins, hbq⟩ := hrel
    have hbw := Lib.hid (hbe.out.trans (hbq.out.mono hbe.out.size))
    have hy0 : (0 : Int) ≤ (a : Int) := by omega
    have ha6 : (a : Int) ≤ 2199023255552 := by have := hai.out; omega
    by_cases hal : a < i
    ·have hy1 : (a : Int) < (i : Int) := by omega
     have hal' : Hid (a < i) := hal
     obtain ⟨y, hy⟩ : ∃ y, Hid (r[a]? = some y) := ⟨_, List.getElem?_eq_getElem (by rw [hrl.out]; exact hal)⟩
     have hyl := Lib.hid (hrs.out y (List.mem_of_getElem? hy.out))
     obtain ⟨b1, o1, hA1, hb1, hcy⟩ := hS1.out.at_ hy.out
     subst hA1
     have hfy : Hid (∀ w', Below wA.heap.size wA w' → ∀ j u, (cells8 (kyS y))[j]? = some u → w'.cell? ⟨b1, o1 + a * 64 + j, none⟩ = some u) := fun w' hb' j u hu => (hb'.cell (p := ⟨b1, o1 + a * 64 + j, none⟩) hb1).trans (by have := hcy (0 + j) u (ky_cell hu); rwa [Nat.zero_add] at this)
     have sY : Hid ((Tryz.prog.info? 34).map (·.size) = some (cells8 (kyS y)).length) := by show _ = _; rw [cells8_len, kyS_len hyl.out]; exact size32r
     clear hcy hal
     obtain ⟨lb, hlb⟩ : ∃ lb, Hid (lex (kyS y) (kyS x) = lb) := ⟨_, Lib.hid rfl⟩
     go_upto_region 6 with fail
     refine q_region (Class wr) (by kernel_rfl) (by kernel_rfl) (Class.mk_ ((Below.refl _ _).drew)) ?_
     refine q_move rfl (.tmp 6) rfl ?_
     (intro K k; go_simp; apply k; clear k K)
     refine q_move rfl (.tmp 4) rfl ?_
     (intro K k; go_simp; apply k; clear k K)
     refine Want.qv0 (.int .i64 (i : Int)) ?_
     (intro K k; go_simp; apply k; clear k K)
     refine Want.qv0 (.bool true) ?_
     (intro K k; go_simp; apply k; clear k K)
     refine Want.qv0 (.bool true) ?_
     (intro K k; go_simp; apply k; clear k K)
     refine q_move rfl (.tmp 4) rfl ?_
     (intro K k; go_simp; apply k; clear k K)
     refine q_move rfl (.tmp 6) rfl ?_
     (intro K k; go_simp; apply k; clear k K)
     refine Want.qv0 (.pointer (some ⟨b1, o1 + a * 64, none⟩)) ?_
     (intro K k; go_simp; apply k; clear k K)
     refine Want.qv0 (.pointer (some ⟨b1, o1 + a * 64, none⟩)) ?_
     (intro K k; go_simp; apply k; clear k K)
     refine q_part rfl 34 (.tmp 22) rfl b1 ((o1 + a * 64)) rfl (cells8 (kyS y)) _ (fun w' hw' => hfy.out _ (hbq.out.trans (hw'.below.mono hbq.out.size))) Tryz.underlying34 rfl sY.out ?_
     (intro K k; go_simp; apply k; clear k K)
     refine q_move rfl (.tmp 0) rfl ?_
     (intro K k; go_simp; apply k; clear k K)
     refine q_move rfl (.tmp 5) rfl ?_
     (intro K k; go_simp; apply k; clear k K)
     refine Want.qv0 (.pointer (some ⟨b0, o0 + i * 64, none⟩)) ?_
     (intro K k; go_simp; apply k; clear k K)
     refine Want.qv0 (.pointer (some ⟨b0, o0 + i * 64, none⟩)) ?_
     (intro K k; go_simp; apply k; clear k K)
     refine q_part rfl 34 (.tmp 27) rfl b0 ((o0 + i * 64)) rfl (cells8 (kyS x)) _ (fun w' hw' => hfk.out _ (hbw.out.trans (hw'.below.mono hbw.out.size))) Tryz.underlying34 rfl sX.out ?_
     (intro K k; go_simp; apply k; clear k K)
     refine q_fn (v := .bool lb) (args := #[.agg (cells8 (kyS y)).toArray, .agg (cells8 (kyS x)).toArray]) rfl _ _ rfl rfl Tryz.func77 (by kernel_rfl) (by kernel_rfl) (fun w' hw' => ((less_any (kyS y) (kyS x) (kyS_len hyl.out) (kyS_len hxl.out) w').mono fun e w'' ⟨he, hb⟩ => ⟨by rw [he, hlb.out], hw'.next hb⟩)) ?_
     (intro K k; go_simp; apply k; clear k K)
     refine Want.qv0 (.bool lb) ?_
     (intro K k; go_simp; apply k; clear k K)
     refine q_nil ?_
     intro w5 hw5
     have hb5 : Hid (Below wA.heap.size wA w5) := hbq.out.trans (hw5.below.mono hbq.out.size)
     clear hw5
     cases lb with
     | true =>
      have hst2 : Hid (ins kyS x r = (ins kyS x (r.drop (a + 1))).map (r.take (a + 1) ++ ·)) := hins.out.trans (ins_step hy.out hlb.out)
      go_wp2_with fail
      go_roundw
      case rel => exact ⟨a + 1, by go_num, hal'.out, hst2.out, hb5.out⟩
      case measure => (have := hal'.out; simp [intOf]; omega)
     | false =>
      obtain ⟨eb, heb⟩ : ∃ eb, Hid (decide (kyS y = kyS x) = eb) := ⟨_, Lib.hid rfl⟩
      have hcE : Hid (∀ w', (binOp .eql 34 (.agg (cells8 (kyS y)).toArray) (.agg (cells8 (kyS x)).toArray)).run Tryz.prog w' = .ok (.bool eb) w') := fun w' => by rw [eql_dig _ _ (kyS_len hyl.out) (kyS_len hxl.out), heb.out]
      have hbz := Lib.hid (hbe.out.trans (hb5.out.mono hbe.out.size))
      go_upto_region 8 with fail
      refine q_region (Class w5) (by kernel_rfl) (by kernel_rfl) (Class.mk_ ((Below.refl _ _).drew)) ?_
      refine q_move rfl (.tmp 6) rfl ?_
      (intro K k; go_simp; apply k; clear k K)
      refine q_move rfl (.tmp 4) rfl ?_
      (intro K k; go_simp; apply k; clear k K)
      refine Want.qv0 (.int .i64 (i : Int)) ?_
      (intro K k; go_simp; apply k; clear k K)
      refine Want.qv0 (.bool true) ?_
      (intro K k; go_simp; apply k; clear k K)
      refine Want.qv0 (.bool true) ?_
      (intro K k; go_simp; apply k; clear k K)
      refine q_move rfl (.tmp 4) rfl ?_
      (intro K k; go_simp; apply k; clear k K)
      refine q_move rfl (.tmp 6) rfl ?_
      (intro K k; go_simp; apply k; clear k K)
      refine Want.qv0 (.pointer (some ⟨b1, o1 + a * 64, none⟩)) ?_
      (intro K k; go_simp; apply k; clear k K)
      refine Want.qv0 (.pointer (some ⟨b1, o1 + a * 64, none⟩)) ?_
      (intro K k; go_simp; apply k; clear k K)
      refine q_part rfl 34 (.tmp 41) rfl b1 ((o1 + a * 64)) rfl (cells8 (kyS y)) _ (fun w' hw' => hfy.out _ (hb5.out.trans (hw'.below.mono hb5.out.size))) Tryz.underlying34 rfl sY.out ?_
      (intro K k; go_simp; apply k; clear k K)
      refine q_move rfl (.tmp 0) rfl ?_
      (intro K k; go_simp; apply k; clear k K)
      refine q_move rfl (.tmp 5) rfl ?_
      (intro K k; go_simp; apply k; clear k K)
      refine Want.qv0 (.pointer (some ⟨b0, o0 + i * 64, none⟩)) ?_
      (intro K k; go_simp; apply k; clear k K)
      refine Want.qv0 (.pointer (some ⟨b0, o0 + i * 64, none⟩)) ?_
      (intro K k; go_simp; apply k; clear k K)
      refine q_part rfl 34 (.tmp 46) rfl b0 ((o0 + i * 64)) rfl (cells8 (kyS x)) _ (fun w' hw' => hfk.out _ (hbz.out.trans (hw'.below.mono hbz.out.size))) Tryz.underlying34 rfl sX.out ?_
      (intro K k; go_simp; apply k; clear k K)
      refine q_val (v := .bool eb) rfl (fun w' hw' => run_cmp rfl rfl rfl qDR (hcE.out w')) ?_
      (intro K k; go_simp; apply k; clear k K)
      refine Want.qv0 (.bool eb) ?_
      (intro K k; go_simp; apply k; clear k K)
      refine q_nil ?_
      intro w7 hw7
      have hb7 : Hid (Below wA.heap.size wA w7) := hb5.out.trans (hw7.below.mono hb5.out.size)
      clear hw7
      cases eb with
      | true =>
       have hno : Hid (ans = none) := by
        show _ = _
        rw [← hfs.out, hins.out, ins_eq hy.out hlb.out (of_decide_eq_true heb.out), fld_none]
       go_wp2_with fail
       go_ret2
       exact ⟨_, by rw [hno.out]; rfl, hbe.out.trans (hb7.out.mono hbe.out.size), by rw [hno.out]; rfl⟩
      | false =>
       have hnew : Hid (fld (ss.drop (i + 1)) (some (r.take a ++ [x] ++ r.drop a)) = ans) := by
        show _ = _
        rw [← hfs.out, hins.out, ins_gt hy.out hlb.out (of_decide_eq_false heb.out)]
       have hbz7 := Lib.hid (hbe.out.trans (hb7.out.mono hbe.out.size))
       have hS7 := Lib.hid (hS1.out.below hb7.out)
       have hT1 := run_headS (A := (some ⟨b1, o1, none⟩ : Option Addr)) (n := i) (c := c1) (k := a) (by have := hai.out; have := hic.out; omega) (a : Int) rfl
       have hT2 := run_tailS (A := (some ⟨b1, o1, none⟩ : Option Addr)) (n := i) (c := c1) (k := a) (by have := hai.out; omega) (a : Int) rfl
       have m1 : Hid (0 + a ≤ maxLen) := by show _ ≤ _; unfold maxLen; omega
       have m2 : Hid ((0 + a) * 64 ≤ 140737488355328) := by show _ ≤ _; omega
       have m3 : Hid (a + 1 ≤ maxLen) := by show _ ≤ _; have := hai.out; have := hlt'.out; have := hn47.out; unfold maxLen; omega
       have m4 : Hid ((a + 1) * 64 ≤ 140737488355328) := by show _ ≤ _; have := hai.out; have := hlt'.out; have := hn47.out; omega
       have m5 : Hid (a + 1 + (i - a) ≤ maxLen) := by show _ ≤ _; have := hai.out; have := hlt'.out; have := hn47.out; unfold maxLen; omega
       have m6 : Hid ((a + 1 + (i - a)) * 64 ≤ 140737488355328) := by show _ ≤ _; have := hai.out; have := hlt'.out; have := hn47.out; omega
       have hn1 : Hid ((some ⟨b1, o1, none⟩ : Option Addr) = none → a = 0 ∧ c1 = 0) := fun e => by obtain ⟨h1, h2⟩ := hnil.out e; have := hai.out; exact ⟨by omega, h2⟩
       have hn2 : Hid (cutS ((some ⟨b1, o1, none⟩ : Option Addr)) a c1 = none → i - a = 0 ∧ c1 - a = 0) := cut_nil hnil.out (by have := hai.out; have := hic.out; omega)
       have hS8 := Lib.hid (hS7.out.take_ a hai.out)
       have hS9 := Lib.hid (hS7.out.drop_ a c1 hai.out hic.out)
       obtain ⟨X1, x1⟩ : ∃ X, Hid (X = ([cells8 x].flatten).toArray) := ⟨_, rfl⟩
       go_wp2_with (first
        | ((with_reducible change wpList _ _ _ (⟨some 54, _, _, _, _, _⟩ :: _) _ _); refine wpList_append_src _ (o := ⟨some 54, _, _, _, _, _⟩) rfl (.tmp 50) (.tmp 53) 37 rfl w7.heap.size 56 i0 (.agg Z64) 64 64 Tryz.underlying37 ii iz0 iz1 iz2 rfl (by decide) (.slice none 0 0) 0 (([] : List Text).flatMap cells8) rfl (OwnS.nil w7 _).2.2 ((some ⟨b1, o1, none⟩ : Option Addr)) a c1 ((r.take a).flatMap cells8) rfl hS8.out.rd hn1.out (one_signs (r.take a)) m1.out m2.out (Nat.le_refl _) ?_; intro v1 w1 hG; have hOB := Lib.hid (grew_signs (xs := []) hG (Below.refl _ w7) (Nat.le_refl _) (OwnS.nil w7 _) hS8.out.all hS8.out.len); rw [Nat.zero_add, List.nil_append] at hOB; obtain ⟨A3, c3, rfl, -⟩ := OwnS.reads hOB.out.1; clear hG)
        | (((with_reducible change wpList _ _ _ (⟨some 59, _, _, _, _, _⟩ :: _) _ _); refine wpList_load_part (o := ⟨some 59, _, _, _, _, _⟩) rfl 56 (.tmp 58) rfl (b0) ((o0 + i * 64)) rfl (cells8 x) _ (hfx.out _ (hbz7.out.trans (hOB.out.2.mono hbz7.out.size))) Tryz.underlying56 rfl s64.out ?_))
        | ((with_reducible change wpList _ _ _ (⟨some 60, _, _, _, _, _⟩ :: _) _ _); refine wpList_buildAggs (o := ⟨some 60, _, _, _, _, _⟩) rfl 37 56 1 _ rfl 64 (by decide) [cells8 x] Tryz.underlying37 size64r zero64 rfl (by decide) (by decide) q1.out rfl ?_; rw [← x1.out]; have hN1 : Hid (Sgs (w1.alloc (.cells X1 56)) (some ⟨w1.heap.size, 0, none⟩) 1 [x]) := (by show Sgs _ _ _ _; rw [x1.out]; exact sgs_one w1 hxl.out); have hO2 := Lib.hid (hOB.out.1.below (Below.heap_below w1 (.cells X1 56))); have hB2 : Hid (Below w7.heap.size w7 (w1.alloc (.cells X1 56))) := hOB.out.2.alloc hOB.out.2.size _)
        | ((with_reducible change wpList _ _ _ (⟨some 61, _, _, _, _, _⟩ :: _) _ _); refine wpList_append_src _ (o := ⟨some 61, _, _, _, _, _⟩) rfl (.tmp 55) (.tmp 60) 37 rfl w7.heap.size 56 i0 (.agg Z64) 64 64 Tryz.underlying37 ii iz0 iz1 iz2 rfl (by decide) (.slice A3 a c3) a ((r.take a).flatMap cells8) rfl hO2.out.2.2 (some ⟨w1.heap.size, 0, none⟩) 1 1 ([x].flatMap cells8) rfl hN1.out.rd (fun e => by cases e) (one_signs [x]) m3.out m4.out hB2.out.size ?_; intro v2 w2 hG; have hOC := Lib.hid (grew_signs hG hB2.out hB2.out.size hO2.out hN1.out.all hN1.out.len); obtain ⟨A4, c4, rfl, -⟩ := OwnS.reads hOC.out.1; have hS10 := Lib.hid (hS9.out.below hOC.out.2); clear hG)
        | ((with_reducible change wpList _ _ _ (⟨some 66, _, _, _, _, _⟩ :: _) _ _); refine wpList_append_src _ (o := ⟨some 66, _, _, _, _, _⟩) rfl (.tmp 62) (.tmp 65) 37 rfl w7.heap.size 56 i0 (.agg Z64) 64 64 Tryz.underlying37 ii iz0 iz1 iz2 rfl (by decide) (.slice A4 (a + 1) c4) (a + 1) ((r.take a ++ [x]).flatMap cells8) rfl hOC.out.1.2.2 (cutS ((some ⟨b1, o1, none⟩ : Option Addr)) a c1) (i - a) (c1 - a) ((r.drop a).flatMap cells8) rfl hS10.out.rd hn2.out (one_signs (r.drop a)) m5.out m6.out hOC.out.2.size ?_; intro v3 w3 hG; have hOD := Lib.hid (grew_signs hG hOC.out.2 hOC.out.2.size hOC.out.1 hS10.out.all hS10.out.len); have hai2 : a + 1 + (i - a) = i + 1 := (by have := hai.out; omega); rw [hai2] at hOD; obtain ⟨A5, c5, rfl, -⟩ := OwnS.reads hOD.out.1; clear hG hai2))
       go_roundw
       case rel => exact ⟨i + 1, A5, c5, r.take a ++ [x] ++ r.drop a, by go_num, rfl, hlt'.out, hOD.out.1.base hbz7.out.size, hnew.out, hbz7.out.trans (hOD.out.2.mono hbz7.out.size)⟩
       case measure => (have := hlt'.out; simp [intOf]; omega)
    ·have hy1 : ¬ ((a : Int) < (i : Int)) := by omega
     have hae : Hid (r.length = a) := by show _ = _; rw [hrl.out]; have := hai.out; omega
     have hnew : Hid (fld (ss.drop (i + 1)) (some (r.take a ++ [x] ++ r.drop a)) = ans) := by
      show _ = _
      rw [← hfs.out, hins.out, ins_end hae.out]
     clear hal
     go_upto_region 6 with fail
     refine q_region (Class wr) (by kernel_rfl) (by kernel_rfl) (Class.mk_ ((Below.refl _ _).drew)) ?_
     refine q_move rfl (.tmp 6) rfl ?_
     (intro K k; go_simp; apply k; clear k K)
     refine q_move rfl (.tmp 4) rfl ?_
     (intro K k; go_simp; apply k; clear k K)
     refine Want.qv0 (.int .i64 (i : Int)) ?_
     (intro K k; go_simp; apply k; clear k K)
     refine Want.qv0 (.bool false) ?_
     (intro K k; go_simp; apply k; clear k K)
     refine Want.qv0 (.bool false) ?_
     (intro K k; go_simp; apply k; clear k K)
     refine q_skip rfl ?_
     (intro K k; go_simp; apply k; clear k K)
     refine q_skip rfl ?_
     (intro K k; go_simp; apply k; clear k K)
     refine q_skip rfl ?_
     (intro K k; go_simp; apply k; clear k K)
     refine q_skip rfl ?_
     (intro K k; go_simp; apply k; clear k K)
     refine q_skip rfl ?_
     (intro K k; go_simp; apply k; clear k K)
     refine q_skip rfl ?_
     (intro K k; go_simp; apply k; clear k K)
     refine q_skip rfl ?_
     (intro K k; go_simp; apply k; clear k K)
     refine q_skip rfl ?_
     (intro K k; go_simp; apply k; clear k K)
     refine q_skip rfl ?_
     (intro K k; go_simp; apply k; clear k K)
     refine q_skip rfl ?_
     (intro K k; go_simp; apply k; clear k K)
     refine q_skip rfl ?_
     (intro K k; go_simp; apply k; clear k K)
     refine Want.qv0 (.bool false) ?_
     (intro K k; go_simp; apply k; clear k K)
     refine q_nil ?_
     intro w5 hw5
     have hb5 : Hid (Below wA.heap.size wA w5) := hbq.out.trans (hw5.below.mono hbq.out.size)
     clear hw5
     go_upto_region 8 with fail
     refine q_region (Class w5) (by kernel_rfl) (by kernel_rfl) (Class.mk_ ((Below.refl _ _).drew)) ?_
     refine q_move rfl (.tmp 6) rfl ?_
     (intro K k; go_simp; apply k; clear k K)
     refine q_move rfl (.tmp 4) rfl ?_
     (intro K k; go_simp; apply k; clear k K)
     refine Want.qv0 (.int .i64 (i : Int)) ?_
     (intro K k; go_simp; apply k; clear k K)
     refine Want.qv0 (.bool false) ?_
     (intro K k; go_simp; apply k; clear k K)
     refine Want.qv0 (.bool false) ?_
     (intro K k; go_simp; apply k; clear k K)
     refine q_skip rfl ?_
     (intro K k; go_simp; apply k; clear k K)
     refine q_skip rfl ?_
     (intro K k; go_simp; apply k; clear k K)
     refine q_skip rfl ?_
     (intro K k; go_simp; apply k; clear k K)
     refine q_skip rfl ?_
     (intro K k; go_simp; apply k; clear k K)
     refine q_skip rfl ?_
     (intro K k; go_simp; apply k; clear k K)
     refine q_skip rfl ?_
     (intro K k; go_simp; apply k; clear k K)
     refine q_skip rfl ?_
     (intro K k; go_simp; apply k; clear k K)
     refine q_skip rfl ?_
     (intro K k; go_simp; apply k; clear k K)
     refine q_skip rfl ?_
     (intro K k; go_simp; apply k; clear k K)
     refine q_skip rfl ?_
     (intro K k; go_simp; apply k; clear k K)
     refine q_skip rfl ?_
     (intro K k; go_simp; apply k; clear k K)
     refine Want.qv0 (.bool false) ?_
     (intro K k; go_simp; apply k; clear k K)
     refine q_nil ?_
     intro w7 hw7
     have hb7 : Hid (Below wA.heap.size wA w7) := hb5.out.trans (hw7.below.mono hb5.out.size)
     clear hw7
     have hbz7 := Lib.hid (hbe.out.trans (hb7.out.mono hbe.out.size))
     have hS7 := Lib.hid (hS1.out.below hb7.out)
     have hT1 := run_headS (A := A1) (n := i) (c := c1) (k := a) (by have := hai.out; have := hic.out; omega) (a : Int) rfl
     have hT2 := run_tailS (A := A1) (n := i) (c := c1) (k := a) (by have := hai.out; omega) (a : Int) rfl
     have m1 : Hid (0 + a ≤ maxLen) := by show _ ≤ _; unfold maxLen; omega
     have m2 : Hid ((0 + a) * 64 ≤ 140737488355328) := by show _ ≤ _; omega
     have m3 : Hid (a + 1 ≤ maxLen) := by show _ ≤ _; have := hai.out; have := hlt'.out; have := hn47.out; unfold maxLen; omega
     have m4 : Hid ((a + 1) * 64 ≤ 140737488355328) := by show _ ≤ _; have := hai.out; have := hlt'.out; have := hn47.out; omega
     have m5 : Hid (a + 1 + (i - a) ≤ maxLen) := by show _ ≤ _; have := hai.out; have := hlt'.out; have := hn47.out; unfold maxLen; omega
     have m6 : Hid ((a + 1 + (i - a)) * 64 ≤ 140737488355328) := by show _ ≤ _; have := hai.out; have := hlt'.out; have := hn47.out; omega
     have hn1 : Hid (A1 = none → a = 0 ∧ c1 = 0) := fun e => by obtain ⟨h1, h2⟩ := hnil.out e; have := hai.out; exact ⟨by omega, h2⟩
     have hn2 : Hid (cutS (A1) a c1 = none → i - a = 0 ∧ c1 - a = 0) := cut_nil hnil.out (by have := hai.out; have := hic.out; omega)
     have hS8 := Lib.hid (hS7.out.take_ a hai.out)
     have hS9 := Lib.hid (hS7.out.drop_ a c1 hai.out hic.out)
     obtain ⟨X1, x1⟩ : ∃ X, Hid (X = ([cells8 x].flatten).toArray) := ⟨_, rfl⟩
     go_wp2_with (first
      | ((with_reducible change wpList _ _ _ (⟨some 54, _, _, _, _, _⟩ :: _) _ _); refine wpList_append_src _ (o := ⟨some 54, _, _, _, _, _⟩) rfl (.tmp 50) (.tmp 53) 37 rfl w7.heap.size 56 i0 (.agg Z64) 64 64 Tryz.underlying37 ii iz0 iz1 iz2 rfl (by decide) (.slice none 0 0) 0 (([] : List Text).flatMap cells8) rfl (OwnS.nil w7 _).2.2 (A1) a c1 ((r.take a).flatMap cells8) rfl hS8.out.rd hn1.out (one_signs (r.take a)) m1.out m2.out (Nat.le_refl _) ?_; intro v1 w1 hG; have hOB := Lib.hid (grew_signs (xs := []) hG (Below.refl _ w7) (Nat.le_refl _) (OwnS.nil w7 _) hS8.out.all hS8.out.len); rw [Nat.zero_add, List.nil_append] at hOB; obtain ⟨A3, c3, rfl, -⟩ := OwnS.reads hOB.out.1; clear hG)
      | (((with_reducible change wpList _ _ _ (⟨some 59, _, _, _, _, _⟩ :: _) _ _); refine wpList_load_part (o := ⟨some 59, _, _, _, _, _⟩) rfl 56 (.tmp 58) rfl (b0) ((o0 + i * 64)) rfl (cells8 x) _ (hfx.out _ (hbz7.out.trans (hOB.out.2.mono hbz7.out.size))) Tryz.underlying56 rfl s64.out ?_))
      | ((with_reducible change wpList _ _ _ (⟨some 60, _, _, _, _, _⟩ :: _) _ _); refine wpList_buildAggs (o := ⟨some 60, _, _, _, _, _⟩) rfl 37 56 1 _ rfl 64 (by decide) [cells8 x] Tryz.underlying37 size64r zero64 rfl (by decide) (by decide) q1.out rfl ?_; rw [← x1.out]; have hN1 : Hid (Sgs (w1.alloc (.cells X1 56)) (some ⟨w1.heap.size, 0, none⟩) 1 [x]) := (by show Sgs _ _ _ _; rw [x1.out]; exact sgs_one w1 hxl.out); have hO2 := Lib.hid (hOB.out.1.below (Below.heap_below w1 (.cells X1 56))); have hB2 : Hid (Below w7.heap.size w7 (w1.alloc (.cells X1 56))) := hOB.out.2.alloc hOB.out.2.size _)
      | ((with_reducible change wpList _ _ _ (⟨some 61, _, _, _, _, _⟩ :: _) _ _); refine wpList_append_src _ (o := ⟨some 61, _, _, _, _, _⟩) rfl (.tmp 55) (.tmp 60) 37 rfl w7.heap.size 56 i0 (.agg Z64) 64 64 Tryz.underlying37 ii iz0 iz1 iz2 rfl (by decide) (.slice A3 a c3) a ((r.take a).flatMap cells8) rfl hO2.out.2.2 (some ⟨w1.heap.size, 0, none⟩) 1 1 ([x].flatMap cells8) rfl hN1.out.rd (fun e => by cases e) (one_signs [x]) m3.out m4.out hB2.out.size ?_; intro v2 w2 hG; have hOC := Lib.hid (grew_signs hG hB2.out hB2.out.size hO2.out hN1.out.all hN1.out.len); obtain ⟨A4, c4, rfl, -⟩ := OwnS.reads hOC.out.1; have hS10 := Lib.hid (hS9.out.below hOC.out.2); clear hG)
      | ((with_reducible change wpList _ _ _ (⟨some 66, _, _, _, _, _⟩ :: _) _ _); refine wpList_append_src _ (o := ⟨some 66, _, _, _, _, _⟩) rfl (.tmp 62) (.tmp 65) 37 rfl w7.heap.size 56 i0 (.agg Z64) 64 64 Tryz.underlying37 ii iz0 iz1 iz2 rfl (by decide) (.slice A4 (a + 1) c4) (a + 1) ((r.take a ++ [x]).flatMap cells8) rfl hOC.out.1.2.2 (cutS (A1) a c1) (i - a) (c1 - a) ((r.drop a).flatMap cells8) rfl hS10.out.rd hn2.out (one_signs (r.drop a)) m5.out m6.out hOC.out.2.size ?_; intro v3 w3 hG; have hOD := Lib.hid (grew_signs hG hOC.out.2 hOC.out.2.size hOC.out.1 hS10.out.all hS10.out.len); have hai2 : a + 1 + (i - a) = i + 1 := (by have := hai.out; omega); rw [hai2] at hOD; obtain ⟨A5, c5, rfl, -⟩ := OwnS.reads hOD.out.1; clear hG hai2))
     go_roundw
     case rel => exact ⟨i + 1, A5, c5, r.take a ++ [x] ++ r.drop a, by go_num, rfl, hlt'.out, hOD.out.1.base hbz7.out.size, hnew.out, hbz7.out.trans (hOD.out.2.mono hbz7.out.size)⟩
     case measure => (have := hlt'.out; simp [intOf]; omega)
  ·have hz : ¬ ((i : Int) < (n : Int)) := by omega
   have hin' : i = n := by have := hin.out; omega
   subst hin'
   have hyes : Hid (ans = some r) := by
    show _ = _
    rw [← hfl.out]
    exact fld_end (by rw [h.out.len]; exact Nat.le_refl _) _
   clear hlt
   go_wp2_with fail
   go_ret2
   exact ⟨_, by rw [hyes.out]; rfl, hbe.out, by rw [hyes.out]; exact hO.out⟩
end Go.Proofs.YtfbhjoejffagjaaGreatDoor.RefRising
