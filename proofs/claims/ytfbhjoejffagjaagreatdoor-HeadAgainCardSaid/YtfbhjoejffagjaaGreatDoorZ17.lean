/-
  Texts of the claim, put into one file: ByKey, Rise.
-/
import Derived.Test.YtfbhjoejffagjaaGreatDoorZ12
import Derived.Test.YtfbhjoejffagjaaGreatDoorZ16
import Derived.Test.YtfbhjoejffagjaaGreatDoorZ8
import Derived.Deep.Cut

namespace Go.Proofs.YtfbhjoejffagjaaGreatDoor.ByKey
open Go Go.RowKit Go.Proofs.YtfbhjoejffagjaaGreatDoor Mem Sha Bytes SortP Compare NoteP Grown Want

theorem reads_key {w : World} {g : Nat} {t : TypeId} {x : Text} (hx : x.length = 64) (h : Blk w g t (cells8 x).toArray) : Reads w 1 (some ⟨g, 0, none⟩) 32 (cells8 (kyS x)) := by
 have hl : (kyS x).length = 32 := by unfold kyS; rw [List.length_take]; omega
 refine Blk.reads h 0 _ (by rw [cells8_len, hl]) (fun j u hu => ?_)
 rw [Nat.zero_add, List.getElem?_toArray]
 have hj : j < 32 := by
  have := (List.getElem?_eq_some_iff.1 hu).1
  rw [cells8_len, hl] at this
  exact this
 unfold cells8 kyS at hu
 rw [List.map_take, List.getElem?_take, if_pos hj] at hu
 exact hu
set_option maxRecDepth 100000 in
set_option maxHeartbeats 1000000 in
theorem byKey_any (x y : Text) (hx : x.length = 64) (hy : y.length = 64) (W : World) :
  Calls Tryz.prog 79 #[.agg (cells8 x).toArray, .agg (cells8 y).toArray] W fun e w' => e = .returned (.int .i64 (cmpT (kyS x) (kyS y))) ∧ ∃ q, w' = ((W.alloc (.cells (cells8 x).toArray 56)).alloc (.cells (cells8 y).toArray 56)).drewN q := by
 have hB1 : Blk ((W.alloc (.cells (cells8 x).toArray 56)).alloc (.cells (cells8 y).toArray 56)) W.heap.size 56 (cells8 x).toArray := (Blk.new W _ _).alloc _
 have hB2 : Blk ((W.alloc (.cells (cells8 x).toArray 56)).alloc (.cells (cells8 y).toArray 56)) (W.heap.size + 1) 56 (cells8 y).toArray := by
  have := Blk.new (W.alloc (.cells (cells8 x).toArray 56)) 56 (cells8 y).toArray
  rwa [show (W.alloc (.cells (cells8 x).toArray 56)).heap.size = W.heap.size + 1 by simp] at this
 have hC := Lib.hid (fun m => compare_any (kyS x) (kyS y) 32 32 (by unfold kyS; rw [List.length_take]; omega) (by unfold kyS; rw [List.length_take]; omega) (some ⟨W.heap.size, 0, none⟩) (some ⟨W.heap.size + 1, 0, none⟩) 32 32 (((W.alloc (.cells (cells8 x).toArray 56)).alloc (.cells (cells8 y).toArray 56)).drewN m) (reads_key hx hB1) (reads_key hy hB2))
 obtain ⟨r, hr⟩ : ∃ r, cmpT (kyS x) (kyS y) = r := ⟨_, rfl⟩
 rw [hr] at hC ⊢
 have X : ∀ (g : Nat) (w' : World), (Instr.sliceAt 34 (.pointer (some ⟨g, 0, none⟩)) none none none).run Tryz.prog w' = .ok (.slice (some ⟨g, 0, none⟩) 32 32) w' := fun g w' => by
  have hl : Tryz.prog.arrayLen 34 = 32 := by kernel_rfl
  have hs : (sizeOf (Tryz.prog.elem 34)).run Tryz.prog w' = .ok 1 w' := by kernel_rfl
  rw [run_sliceAt_array_all w' 34 _ Tryz.underlying34, hs]
  simp [Result.andThen, slicedAt, hl]
  rfl
 clear hr hB1 hB2 hx hy
 go_enter Tryz.func79, Tryz.ntmps79
 go_upto_region 1 with fail
 refine q_region (fun w' => ∃ n, w' = ((W.alloc (.cells (cells8 x).toArray 56)).alloc (.cells (cells8 y).toArray 56)).drewN n) (by kernel_rfl) (by kernel_rfl) (⟨1, rfl⟩) ?_
 refine Want.qv0 (.pointer (some ⟨W.heap.size, 0, none⟩)) ?_
 (intro K k; go_simp; apply k; clear k K)
 refine q_val (v := .slice (some ⟨W.heap.size, 0, none⟩) 32 32) rfl (fun w' hw' => by have h := X W.heap.size w'; go_simp) ?_
 (intro K k; go_simp; apply k; clear k K)
 refine Want.qv0 (.pointer (some ⟨W.heap.size + 1, 0, none⟩)) ?_
 (intro K k; go_simp; apply k; clear k K)
 refine q_val (v := .slice (some ⟨W.heap.size + 1, 0, none⟩) 32 32) rfl (fun w' hw' => by have h := X (W.heap.size + 1) w'; go_simp) ?_
 (intro K k; go_simp; apply k; clear k K)
 refine q_fn (v := .int .i64 r) (args := #[.slice (some ⟨W.heap.size, 0, none⟩) 32 32, .slice (some ⟨W.heap.size + 1, 0, none⟩) 32 32]) rfl _ _ rfl rfl Tryz.func24 (by kernel_rfl) (by kernel_rfl) (fun w' hw' => (by obtain ⟨m, rfl⟩ := hw'; exact (hC.out m).mono (fun e w'' ⟨he, hw⟩ => ⟨he, m, hw⟩))) ?_
 (intro K k; go_simp; apply k; clear k K)
 refine Want.qv0 (.int .i64 r) ?_
 (intro K k; go_simp; apply k; clear k K)
 refine q_nil ?_
 intro w5 hw5
 obtain ⟨m, rfl⟩ := hw5
 go_wp2_with fail
 go_ret
 exact ⟨rfl, m, rfl⟩
end Go.Proofs.YtfbhjoejffagjaaGreatDoor.ByKey

namespace Go.Proofs.YtfbhjoejffagjaaGreatDoor.Rise
open Go Go.RowKit Go.Proofs.YtfbhjoejffagjaaGreatDoor Mem Sha Bytes SortP Compare NoteP Grown Want ByKey

structure Sgs (w : World) (A : Option Addr) (n : Nat) (ss : List Text) : Prop where
 len : ss.length = n
 all : ∀ t ∈ ss, t.length = 64
 rd : Reads w 64 A n (ss.flatMap cells8)
theorem Sgs.below {w w' : World} {A : Option Addr} {n : Nat} {ss : List Text} (h : Sgs w A n ss) (hb : Below w.heap.size w w') : Sgs w' A n ss := ⟨h.len, h.all, h.rd.below hb⟩
theorem flat_at64 : ∀ (ss : List Text), (∀ t ∈ ss, t.length = 64) → ∀ (i : Nat) (t : Text) (j : Nat), ss[i]? = some t → j < 64 → (ss.flatMap cells8)[i * 64 + j]? = (cells8 t)[j]?
 | [], _, i, t, j, h, _ => by cases h
 | s :: ss, hl, i, t, j, h, hj => by
  have hs : (cells8 s).length = 64 := by rw [cells8_len, hl s (by simp)]
  rw [List.flatMap_cons]
  cases i with
  | zero =>
   obtain rfl : s = t := Option.some.inj h
   rw [Nat.zero_mul, Nat.zero_add, List.getElem?_append_left (by omega)]
  | succ i =>
   rw [List.getElem?_append_right (by omega), hs, show (i + 1) * 64 + j - 64 = i * 64 + j by omega]
   exact flat_at64 ss (fun t ht => hl t (by simp [ht])) i t j h hj
theorem Sgs.at_ {w : World} {A : Option Addr} {n : Nat} {ss : List Text} (h : Sgs w A n ss) {i : Nat} {t : Text} (ht : ss[i]? = some t) : ∃ b o, A = some ⟨b, o, none⟩ ∧ b < w.heap.size ∧ ∀ j u, (cells8 t)[j]? = some u → w.cell? ⟨b, o + i * 64 + j, none⟩ = some u := by
 have hi : i < ss.length := (List.getElem?_eq_some_iff.1 ht).1
 obtain ⟨b, o, e, hb, hc⟩ := h.rd.at_ (by have := h.len; omega)
 refine ⟨b, o, e, hb, fun j u hu => ?_⟩
 have hj : j < 64 := by
  have := (List.getElem?_eq_some_iff.1 hu).1
  rw [cells8_len, h.all t (List.mem_of_getElem? ht)] at this
  exact this
 rw [Nat.add_assoc]
 apply hc
 rw [flat_at64 ss h.all i t j ht hj]
 exact hu
theorem byKey_below (x y : Text) (hx : x.length = 64) (hy : y.length = 64) (W : World) :
  Calls Tryz.prog 79 #[.agg (cells8 x).toArray, .agg (cells8 y).toArray] W fun e w' => e = .returned (.int .i64 (cmpT (kyS x) (kyS y))) ∧ Below W.heap.size W w' :=
 (byKey_any x y hx hy W).mono fun e w' ⟨he, q, hw⟩ => ⟨he, by rw [hw]; exact below_drawn (((Below.refl _ W).alloc (Nat.le_refl _) _).alloc (by simp) _) q⟩
theorem size64 : (Tryz.prog.info? 56).map (·.size) = some 64 := by kernel_rfl
set_option maxRecDepth 100000 in
set_option maxHeartbeats 2000000 in
theorem rise_any (ss : List Text) (n : Nat) (hn47 : n < 140737488355328) (A : Option Addr) (c : Nat) (w : World) (h : Sgs w A n ss) :
  Calls Tryz.prog 75 #[.slice A n c] w fun e w' => e = .returned (.bool (riseB (ky := kyS) ss)) ∧ Below w.heap.size w w' := by
 obtain ⟨ans, hans⟩ : ∃ x, Hid (riseB (ky := kyS) ss = x) := ⟨_, Lib.hid rfl⟩
 rw [hans.out]
 replace h := Lib.hid h
 have hn47 := Lib.hid hn47
 have hst0 : Hid (riseB (ky := kyS) (ss.drop (1 - 1)) = ans) := hans.out
 go_enter Tryz.func75, Tryz.ntmps75
 go_wp2_with fail
 go_loopw [3] (fun v wr => ∃ i : Nat, v = .int .i64 (i : Int) ∧ Hid (1 ≤ i) ∧ Hid (i ≤ n + 1) ∧ Hid (riseB (ky := kyS) (ss.drop (i - 1)) = ans) ∧ Hid (Below w.heap.size w wr)) (fun v _ => n + 1 - (intOf v).toNat)
 case atStart => exact ⟨1, rfl, Nat.le_refl _, Nat.le_add_left _ _, hst0.out, Below.refl _ _⟩
 case round =>
  clear hst0
  obtain ⟨i, rfl, hi1, hin, hre, hbe⟩ := hrel
  have hi6 : (i : Int) ≤ 140737488355328 := by have := hin.out; have := hn47.out; omega
  by_cases hlt : i < n
  ·have hz : (i : Int) < (n : Int) := by omega
   have hz0 : (0 : Int) ≤ (i : Int) := by omega
   obtain ⟨k, hk⟩ : ∃ k, Hid (i - 1 = k) := ⟨_, Lib.hid rfl⟩
   have z1 : IntKind.i64.wrap ((i : Int) - 1) = (k : Int) := by rw [IntWalk.i64_in _ (by omega)]; have := hk.out; have := hi1.out; omega
   have z2 : (k : Int) < (n : Int) := by have := hk.out; omega
   have z3 : (0 : Int) ≤ (k : Int) := by omega
   obtain ⟨x, hx⟩ : ∃ x, Hid (ss[k]? = some x) := ⟨_, List.getElem?_eq_getElem (by rw [h.out.len]; have := hk.out; omega)⟩
   obtain ⟨y, hy⟩ : ∃ x, Hid (ss[i]? = some x) := ⟨_, List.getElem?_eq_getElem (by rw [h.out.len]; exact hlt)⟩
   have hxl := Lib.hid (h.out.all x (List.mem_of_getElem? hx.out))
   have hyl := Lib.hid (h.out.all y (List.mem_of_getElem? hy.out))
   obtain ⟨b, o, hA, hb, hcx⟩ := h.out.at_ hx.out
   obtain ⟨b2, o2, hA2, -, hcy⟩ := h.out.at_ hy.out
   rw [hA] at hA2
   injection hA2 with hA2
   injection hA2 with hA3 hA4
   subst hA3 hA4
   subst hA
   have hfx : Hid (∀ w', Below w.heap.size w w' → ∀ j u, (cells8 x)[j]? = some u → w'.cell? ⟨b, o + k * 64 + j, none⟩ = some u) := fun w' hb' j u hu => (hb'.cell (p := ⟨b, o + k * 64 + j, none⟩) hb).trans (hcx j u hu)
   have hfy : Hid (∀ w', Below w.heap.size w w' → ∀ j u, (cells8 y)[j]? = some u → w'.cell? ⟨b, o + i * 64 + j, none⟩ = some u) := fun w' hb' j u hu => (hb'.cell (p := ⟨b, o + i * 64 + j, none⟩) hb).trans (hcy j u hu)
   have sX : Hid ((Tryz.prog.info? 56).map (·.size) = some (cells8 x).length) := by show _ = _; rw [cells8_len, hxl.out]; exact size64
   have sY : Hid ((Tryz.prog.info? 56).map (·.size) = some (cells8 y).length) := by show _ = _; rw [cells8_len, hyl.out]; exact size64
   have hst : Hid (riseB (ky := kyS) (ss.drop (i - 1)) = (lex (kyS x) (kyS y) && riseB (ky := kyS) (ss.drop i))) := by
    show _ = _
    rw [hk.out]
    have e : i = k + 1 := by have := hk.out; have := hi1.out; omega
    have hy2 := hy.out
    rw [e] at hy2
    rw [rise_drop hx.out hy2, ← e]
   clear hcx hcy
   have hlt' : Hid (i < n) := hlt
   clear hlt
   go_upto_region 4 with fail
   cases hl : lex (kyS x) (kyS y) with
   | true =>
    have hc : Hid (cmpT (kyS x) (kyS y) = -1) := by show _ = _; unfold cmpT; rw [if_pos hl]
    have hre2 : Hid (riseB (ky := kyS) (ss.drop (i + 1 - 1)) = ans) := by
     show _ = _
     rw [Nat.add_sub_cancel, ← hre.out, hst.out, hl]
     rfl
    refine q_region (Class wr) (by kernel_rfl) (by kernel_rfl) (Class.mk_ ((Below.refl _ _).drew)) ?_
    refine q_move rfl (.tmp 0) rfl ?_
    (intro K k; go_simp; apply k; clear k K)
    refine q_move rfl (.tmp 3) rfl ?_
    (intro K k; go_simp; apply k; clear k K)
    refine Want.qv0 (.int .i64 (k : Int)) ?_
    (intro K k; go_simp; apply k; clear k K)
    refine Want.qv0 (.pointer (some ⟨b, o + k * 64, none⟩)) ?_
    (intro K k; go_simp; apply k; clear k K)
    refine q_part rfl 56 (.tmp 13) rfl b ((o + k * 64)) rfl (cells8 x) _ (fun w' hw' => hfx.out _ (hbe.out.trans (hw'.below.mono hbe.out.size))) Tryz.underlying56 rfl sX.out ?_
    (intro K k; go_simp; apply k; clear k K)
    refine q_move rfl (.tmp 0) rfl ?_
    (intro K k; go_simp; apply k; clear k K)
    refine q_move rfl (.tmp 3) rfl ?_
    (intro K k; go_simp; apply k; clear k K)
    refine Want.qv0 (.pointer (some ⟨b, o + i * 64, none⟩)) ?_
    (intro K k; go_simp; apply k; clear k K)
    refine q_part rfl 56 (.tmp 17) rfl b ((o + i * 64)) rfl (cells8 y) _ (fun w' hw' => hfy.out _ (hbe.out.trans (hw'.below.mono hbe.out.size))) Tryz.underlying56 rfl sY.out ?_
    (intro K k; go_simp; apply k; clear k K)
    refine q_fn (v := .int .i64 (-1)) (args := #[.agg (cells8 x).toArray, .agg (cells8 y).toArray]) rfl _ _ rfl rfl Tryz.func79 (by kernel_rfl) (by kernel_rfl) (fun w' hw' => ((byKey_below x y hxl.out hyl.out w').mono fun e w'' ⟨he, hb⟩ => ⟨by rw [he, hc.out], hw'.next hb⟩)) ?_
    (intro K k; go_simp; apply k; clear k K)
    refine Want.qv0 (.bool false) ?_
    (intro K k; go_simp; apply k; clear k K)
    refine q_nil ?_
    intro w5 hw5
    have hb5 : Hid (Below w.heap.size w w5) := hbe.out.trans (hw5.below.mono hbe.out.size)
    clear hw5
    go_wp2_with fail
    go_roundw
    case rel => exact ⟨i + 1, by go_num, Nat.le_add_left _ _, Nat.succ_le_succ (Nat.le_of_lt hlt'.out), hre2.out, hb5.out⟩
    case measure => (have := hlt'.out; simp [intOf]; omega)
   | false =>
    obtain ⟨r, hc⟩ : ∃ r, Hid (cmpT (kyS x) (kyS y) = r) := ⟨_, Lib.hid rfl⟩
    have hr0 : (0 : Int) ≤ r := by
     rw [← hc.out]
     unfold cmpT
     rw [if_neg (by rw [hl]; simp)]
     split <;> omega
    have hno : Hid (ans = false) := by
     show _ = _
     rw [← hre.out, hst.out, hl]
     rfl
    refine q_region (Class wr) (by kernel_rfl) (by kernel_rfl) (Class.mk_ ((Below.refl _ _).drew)) ?_
    refine q_move rfl (.tmp 0) rfl ?_
    (intro K k; go_simp; apply k; clear k K)
    refine q_move rfl (.tmp 3) rfl ?_
    (intro K k; go_simp; apply k; clear k K)
    refine Want.qv0 (.int .i64 (k : Int)) ?_
    (intro K k; go_simp; apply k; clear k K)
    refine Want.qv0 (.pointer (some ⟨b, o + k * 64, none⟩)) ?_
    (intro K k; go_simp; apply k; clear k K)
    refine q_part rfl 56 (.tmp 13) rfl b ((o + k * 64)) rfl (cells8 x) _ (fun w' hw' => hfx.out _ (hbe.out.trans (hw'.below.mono hbe.out.size))) Tryz.underlying56 rfl sX.out ?_
    (intro K k; go_simp; apply k; clear k K)
    refine q_move rfl (.tmp 0) rfl ?_
    (intro K k; go_simp; apply k; clear k K)
    refine q_move rfl (.tmp 3) rfl ?_
    (intro K k; go_simp; apply k; clear k K)
    refine Want.qv0 (.pointer (some ⟨b, o + i * 64, none⟩)) ?_
    (intro K k; go_simp; apply k; clear k K)
    refine q_part rfl 56 (.tmp 17) rfl b ((o + i * 64)) rfl (cells8 y) _ (fun w' hw' => hfy.out _ (hbe.out.trans (hw'.below.mono hbe.out.size))) Tryz.underlying56 rfl sY.out ?_
    (intro K k; go_simp; apply k; clear k K)
    refine q_fn (v := .int .i64 r) (args := #[.agg (cells8 x).toArray, .agg (cells8 y).toArray]) rfl _ _ rfl rfl Tryz.func79 (by kernel_rfl) (by kernel_rfl) (fun w' hw' => ((byKey_below x y hxl.out hyl.out w').mono fun e w'' ⟨he, hb⟩ => ⟨by rw [he, hc.out], hw'.next hb⟩)) ?_
    (intro K k; go_simp; apply k; clear k K)
    refine Want.qv0 (.bool true) ?_
    (intro K k; go_simp; apply k; clear k K)
    refine q_nil ?_
    intro w5 hw5
    have hb5 : Hid (Below w.heap.size w w5) := hbe.out.trans (hw5.below.mono hbe.out.size)
    clear hw5
    go_wp2_with fail
    go_ret
    exact ⟨by rw [hno.out]; rfl, hb5.out⟩
  ·have hz : ¬ ((i : Int) < (n : Int)) := by omega
   have hyes : Hid (ans = true) := by
    show _ = _
    rw [← hre.out]
    exact rise_last (by rw [h.out.len]; omega)
   clear hlt
   go_wp2_with fail
   go_ret
   exact ⟨by rw [hyes.out]; rfl, hbe.out⟩
end Go.Proofs.YtfbhjoejffagjaaGreatDoor.Rise
