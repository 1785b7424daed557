/-
  Texts of the claim, put into one file: ByKey, Rise, SortM, RingM.
-/
import Derived.Test.YtgldkfaiofkhbaaGreatDoorZ14
import Derived.Test.YtgldkfaiofkhbaaGreatDoorZ25
import Derived.Test.YtgldkfaiofkhbaaGreatDoorZ10
import Derived.Deep.Cut
import Derived.Test.YtgldkfaiofkhbaaGreatDoorZ6
import Derived.Shelf.SlSortCmp.WholeK
import Derived.Test.YtgldkfaiofkhbaaGreatDoorZ16

namespace Go.Proofs.YtgldkfaiofkhbaaGreatDoor.ByKey
open Go Go.RowKit Go.Proofs.YtgldkfaiofkhbaaGreatDoor Mem Sha Bytes SortP Compare NoteP Grown Want

theorem reads_key {w : World} {g : Nat} {t : TypeId} {x : Text} (hx : x.length = 64) (h : Blk w g t (cells8 x).toArray) : Reads w 1 (some ⟨g, 0, none⟩) 32 (cells8 (kyS x)) := by
 have hl : (kyS x).length = 32 := by unfold kyS; rw [List.length_take]; omega
 refine Blk.reads h 0 _ (by rw [cells8_len, hl]) (fun j u hu => ?_)
 rw [Nat.zero_add, List.getElem?_toArray]
 have hj : j < 32 := by
  have := (List.getElem?_eq_some_iff.1 hu).1
  rw [cells8_len, hl] at this
  exact this
 unfold cells8 kyS at hu
 rw [List.map_take, List.getElem?_take, if_pos hj] at hu
 exact hu
set_option maxRecDepth 100000 in
set_option maxHeartbeats 1000000 in
theorem byKey_any (x y : Text) (hx : x.length = 64) (hy : y.length = 64) (W : World) :
  Calls Tryz.prog 212 #[.agg (cells8 x).toArray, .agg (cells8 y).toArray] W fun e w' => e = .returned (.int .i64 (cmpT (kyS x) (kyS y))) ∧ ∃ q, w' = ((W.alloc (.cells (cells8 x).toArray 57)).alloc (.cells (cells8 y).toArray 57)).drewN q := by
 have hB1 : Blk ((W.alloc (.cells (cells8 x).toArray 57)).alloc (.cells (cells8 y).toArray 57)) W.heap.size 57 (cells8 x).toArray := (Blk.new W _ _).alloc _
 have hB2 : Blk ((W.alloc (.cells (cells8 x).toArray 57)).alloc (.cells (cells8 y).toArray 57)) (W.heap.size + 1) 57 (cells8 y).toArray := by
  have := Blk.new (W.alloc (.cells (cells8 x).toArray 57)) 57 (cells8 y).toArray
  rwa [show (W.alloc (.cells (cells8 x).toArray 57)).heap.size = W.heap.size + 1 by simp] at this
 have hC := Lib.hid (fun m => compare_any (kyS x) (kyS y) 32 32 (by unfold kyS; rw [List.length_take]; omega) (by unfold kyS; rw [List.length_take]; omega) (some ⟨W.heap.size, 0, none⟩) (some ⟨W.heap.size + 1, 0, none⟩) 32 32 (((W.alloc (.cells (cells8 x).toArray 57)).alloc (.cells (cells8 y).toArray 57)).drewN m) (reads_key hx hB1) (reads_key hy hB2))
 obtain ⟨r, hr⟩ : ∃ r, cmpT (kyS x) (kyS y) = r := ⟨_, rfl⟩
 rw [hr] at hC ⊢
 have X : ∀ (g : Nat) (w' : World), (Instr.sliceAt 23 (.pointer (some ⟨g, 0, none⟩)) none none none).run Tryz.prog w' = .ok (.slice (some ⟨g, 0, none⟩) 32 32) w' := fun g w' => by
  have hl : Tryz.prog.arrayLen 23 = 32 := by kernel_rfl
  have hs : (sizeOf (Tryz.prog.elem 23)).run Tryz.prog w' = .ok 1 w' := by kernel_rfl
  rw [run_sliceAt_array_all w' 23 _ Tryz.underlying23, hs]
  simp [Result.andThen, slicedAt, hl]
  rfl
 clear hr hB1 hB2 hx hy
 go_enter Tryz.func212, Tryz.ntmps212
 go_upto_region 1 with fail
 refine q_region (fun w' => ∃ n, w' = ((W.alloc (.cells (cells8 x).toArray 57)).alloc (.cells (cells8 y).toArray 57)).drewN n) (by kernel_rfl) (by kernel_rfl) (⟨1, rfl⟩) ?_
 refine Want.qv0 (.pointer (some ⟨W.heap.size, 0, none⟩)) ?_
 (intro K k; go_simp; apply k; clear k K)
 refine q_val (v := .slice (some ⟨W.heap.size, 0, none⟩) 32 32) rfl (fun w' hw' => by have h := X W.heap.size w'; go_simp) ?_
 (intro K k; go_simp; apply k; clear k K)
 refine Want.qv0 (.pointer (some ⟨W.heap.size + 1, 0, none⟩)) ?_
 (intro K k; go_simp; apply k; clear k K)
 refine q_val (v := .slice (some ⟨W.heap.size + 1, 0, none⟩) 32 32) rfl (fun w' hw' => by have h := X (W.heap.size + 1) w'; go_simp) ?_
 (intro K k; go_simp; apply k; clear k K)
 refine q_fn (v := .int .i64 r) (args := #[.slice (some ⟨W.heap.size, 0, none⟩) 32 32, .slice (some ⟨W.heap.size + 1, 0, none⟩) 32 32]) rfl _ _ rfl rfl Tryz.func63 (by kernel_rfl) (by kernel_rfl) (fun w' hw' => (by obtain ⟨m, rfl⟩ := hw'; exact (hC.out m).mono (fun e w'' ⟨he, hw⟩ => ⟨he, m, hw⟩))) ?_
 (intro K k; go_simp; apply k; clear k K)
 refine Want.qv0 (.int .i64 r) ?_
 (intro K k; go_simp; apply k; clear k K)
 refine q_nil ?_
 intro w5 hw5
 obtain ⟨m, rfl⟩ := hw5
 go_wp2_with fail
 go_ret
 exact ⟨rfl, m, rfl⟩
end Go.Proofs.YtgldkfaiofkhbaaGreatDoor.ByKey

namespace Go.Proofs.YtgldkfaiofkhbaaGreatDoor.Rise
open Go Go.RowKit Go.Proofs.YtgldkfaiofkhbaaGreatDoor Mem Sha Bytes SortP Compare NoteP Grown Want ByKey

structure Sgs (w : World) (A : Option Addr) (n : Nat) (ss : List Text) : Prop where
 len : ss.length = n
 all : ∀ t ∈ ss, t.length = 64
 rd : Reads w 64 A n (ss.flatMap cells8)
theorem Sgs.below {w w' : World} {A : Option Addr} {n : Nat} {ss : List Text} (h : Sgs w A n ss) (hb : Below w.heap.size w w') : Sgs w' A n ss := ⟨h.len, h.all, h.rd.below hb⟩
theorem flat_at64 : ∀ (ss : List Text), (∀ t ∈ ss, t.length = 64) → ∀ (i : Nat) (t : Text) (j : Nat), ss[i]? = some t → j < 64 → (ss.flatMap cells8)[i * 64 + j]? = (cells8 t)[j]?
 | [], _, i, t, j, h, _ => by cases h
 | s :: ss, hl, i, t, j, h, hj => by
  have hs : (cells8 s).length = 64 := by rw [cells8_len, hl s (by simp)]
  rw [List.flatMap_cons]
  cases i with
  | zero =>
   obtain rfl : s = t := Option.some.inj h
   rw [Nat.zero_mul, Nat.zero_add, List.getElem?_append_left (by omega)]
  | succ i =>
   rw [List.getElem?_append_right (by omega), hs, show (i + 1) * 64 + j - 64 = i * 64 + j by omega]
   exact flat_at64 ss (fun t ht => hl t (by simp [ht])) i t j h hj
theorem Sgs.at_ {w : World} {A : Option Addr} {n : Nat} {ss : List Text} (h : Sgs w A n ss) {i : Nat} {t : Text} (ht : ss[i]? = some t) : ∃ b o, A = some ⟨b, o, none⟩ ∧ b < w.heap.size ∧ ∀ j u, (cells8 t)[j]? = some u → w.cell? ⟨b, o + i * 64 + j, none⟩ = some u := by
 have hi : i < ss.length := (List.getElem?_eq_some_iff.1 ht).1
 obtain ⟨b, o, e, hb, hc⟩ := h.rd.at_ (by have := h.len; omega)
 refine ⟨b, o, e, hb, fun j u hu => ?_⟩
 have hj : j < 64 := by
  have := (List.getElem?_eq_some_iff.1 hu).1
  rw [cells8_len, h.all t (List.mem_of_getElem? ht)] at this
  exact this
 rw [Nat.add_assoc]
 apply hc
 rw [flat_at64 ss h.all i t j ht hj]
 exact hu
theorem byKey_below (x y : Text) (hx : x.length = 64) (hy : y.length = 64) (W : World) :
  Calls Tryz.prog 212 #[.agg (cells8 x).toArray, .agg (cells8 y).toArray] W fun e w' => e = .returned (.int .i64 (cmpT (kyS x) (kyS y))) ∧ Below W.heap.size W w' :=
 (byKey_any x y hx hy W).mono fun e w' ⟨he, q, hw⟩ => ⟨he, by rw [hw]; exact below_drawn (((Below.refl _ W).alloc (Nat.le_refl _) _).alloc (by simp) _) q⟩
theorem size64 : (Tryz.prog.info? 57).map (·.size) = some 64 := by kernel_rfl
set_option maxRecDepth 100000 in
set_option maxHeartbeats 2000000 in
theorem rise_any (ss : List Text) (n : Nat) (hn47 : n < 140737488355328) (A : Option Addr) (c : Nat) (w : World) (h : Sgs w A n ss) :
  Calls Tryz.prog 213 #[.slice A n c] w fun e w' => e = .returned (.bool (riseB (ky := kyS) ss)) ∧ Below w.heap.size w w' := by
 obtain ⟨ans, hans⟩ : ∃ x, Hid (riseB (ky := kyS) ss = x) := ⟨_, Lib.hid rfl⟩
 rw [hans.out]
 replace h := Lib.hid h
 have hn47 := Lib.hid hn47
 have hst0 : Hid (riseB (ky := kyS) (ss.drop (1 - 1)) = ans) := hans.out
 go_enter Tryz.func213, Tryz.ntmps213
 go_wp2_with fail
 go_loopw [3] (fun v wr => ∃ i : Nat, v = .int .i64 (i : Int) ∧ Hid (1 ≤ i) ∧ Hid (i ≤ n + 1) ∧ Hid (riseB (ky := kyS) (ss.drop (i - 1)) = ans) ∧ Hid (Below w.heap.size w wr)) (fun v _ => n + 1 - (intOf v).toNat)
 case atStart => exact ⟨1, rfl, Nat.le_refl _, Nat.le_add_left _ _, hst0.out, Below.refl _ _⟩
 case round =>
  clear hst0
  obtain ⟨i, rfl, hi1, hin, hre, hbe⟩ := hrel
  have hi6 : (i : Int) ≤ 140737488355328 := by have := hin.out; have := hn47.out; omega
  by_cases hlt : i < n
  ·have hz : (i : Int) < (n : Int) := by omega
   have hz0 : (0 : Int) ≤ (i : Int) := by omega
   obtain ⟨k, hk⟩ : ∃ k, Hid (i - 1 = k) := ⟨_, Lib.hid rfl⟩
   have z1 : IntKind.i64.wrap ((i : Int) - 1) = (k : Int) := by rw [IntWalk.i64_in _ (by omega)]; have := hk.out; have := hi1.out; omega
   have z2 : (k : Int) < (n : Int) := by have := hk.out; omega
   have z3 : (0 : Int) ≤ (k : Int) := by omega
   obtain ⟨x, hx⟩ : ∃ x, Hid (ss[k]? = some x) := ⟨_, List.getElem?_eq_getElem (by rw [h.out.len]; have := hk.out; omega)⟩
   obtain ⟨y, hy⟩ : ∃ x, Hid (ss[i]? = some x) := ⟨_, List.getElem?_eq_getElem (by rw [h.out.len]; exact hlt)⟩
   have hxl := Lib.hid (h.out.all x (List.mem_of_getElem? hx.out))
   have hyl := Lib.hid (h.out.all y (List.mem_of_getElem? hy.out))
   obtain ⟨b, o, hA, hb, hcx⟩ := h.out.at_ hx.out
   obtain ⟨b2, o2, hA2, -, hcy⟩ := h.out.at_ hy.out
   rw [hA] at hA2
   injection hA2 with hA2
   injection hA2 with hA3 hA4
   subst hA3 hA4
   subst hA
   have hfx : Hid (∀ w', Below w.heap.size w w' → ∀ j u, (cells8 x)[j]? = some u → w'.cell? ⟨b, o + k * 64 + j, none⟩ = some u) := fun w' hb' j u hu => (hb'.cell (p := ⟨b, o + k * 64 + j, none⟩) hb).trans (hcx j u hu)
   have hfy : Hid (∀ w', Below w.heap.size w w' → ∀ j u, (cells8 y)[j]? = some u → w'.cell? ⟨b, o + i * 64 + j, none⟩ = some u) := fun w' hb' j u hu => (hb'.cell (p := ⟨b, o + i * 64 + j, none⟩) hb).trans (hcy j u hu)
   have sX : Hid ((Tryz.prog.info? 57).map (·.size) = some (cells8 x).length) := by show _ = _; rw [cells8_len, hxl.out]; exact size64
   have sY : Hid ((Tryz.prog.info? 57).map (·.size) = some (cells8 y).length) := by show _ = _; rw [cells8_len, hyl.out]; exact size64
   have hst : Hid (riseB (ky := kyS) (ss.drop (i - 1)) = (lex (kyS x) (kyS y) && riseB (ky := kyS) (ss.drop i))) := by
    show _ = _
    rw [hk.out]
    have e : i = k + 1 := by have := hk.out; have := hi1.out; omega
    have hy2 := hy.out
    rw [e] at hy2
    rw [rise_drop hx.out hy2, ← e]
   clear hcx hcy
   have hlt' : Hid (i < n) := hlt
   clear hlt
   go_upto_region 4 with fail
   cases hl : lex (kyS x) (kyS y) with
   | true =>
    have hc : Hid (cmpT (kyS x) (kyS y) = -1) := by show _ = _; unfold cmpT; rw [if_pos hl]
    have hre2 : Hid (riseB (ky := kyS) (ss.drop (i + 1 - 1)) = ans) := by
     show _ = _
     rw [Nat.add_sub_cancel, ← hre.out, hst.out, hl]
     rfl
    refine q_region (Class wr) (by kernel_rfl) (by kernel_rfl) (Class.mk_ ((Below.refl _ _).drew)) ?_
    refine q_move rfl (.tmp 0) rfl ?_
    (intro K k; go_simp; apply k; clear k K)
    refine q_move rfl (.tmp 3) rfl ?_
    (intro K k; go_simp; apply k; clear k K)
    refine Want.qv0 (.int .i64 (k : Int)) ?_
    (intro K k; go_simp; apply k; clear k K)
    refine Want.qv0 (.pointer (some ⟨b, o + k * 64, none⟩)) ?_
    (intro K k; go_simp; apply k; clear k K)
    refine q_part rfl 57 (.tmp 13) rfl b ((o + k * 64)) rfl (cells8 x) _ (fun w' hw' => hfx.out _ (hbe.out.trans (hw'.below.mono hbe.out.size))) Tryz.underlying57 rfl sX.out ?_
    (intro K k; go_simp; apply k; clear k K)
    refine q_move rfl (.tmp 0) rfl ?_
    (intro K k; go_simp; apply k; clear k K)
    refine q_move rfl (.tmp 3) rfl ?_
    (intro K k; go_simp; apply k; clear k K)
    refine Want.qv0 (.pointer (some ⟨b, o + i * 64, none⟩)) ?_
    (intro K k; go_simp; apply k; clear k K)
    refine q_part rfl 57 (.tmp 17) rfl b ((o + i * 64)) rfl (cells8 y) _ (fun w' hw' => hfy.out _ (hbe.out.trans (hw'.below.mono hbe.out.size))) Tryz.underlying57 rfl sY.out ?_
    (intro K k; go_simp; apply k; clear k K)
    refine q_fn (v := .int .i64 (-1)) (args := #[.agg (cells8 x).toArray, .agg (cells8 y).toArray]) rfl _ _ rfl rfl Tryz.func212 (by kernel_rfl) (by kernel_rfl) (fun w' hw' => ((byKey_below x y hxl.out hyl.out w').mono fun e w'' ⟨he, hb⟩ => ⟨by rw [he, hc.out], hw'.next hb⟩)) ?_
    (intro K k; go_simp; apply k; clear k K)
    refine Want.qv0 (.bool false) ?_
    (intro K k; go_simp; apply k; clear k K)
    refine q_nil ?_
    intro w5 hw5
    have hb5 : Hid (Below w.heap.size w w5) := hbe.out.trans (hw5.below.mono hbe.out.size)
    clear hw5
    go_wp2_with fail
    go_roundw
    case rel => exact ⟨i + 1, by go_num, Nat.le_add_left _ _, Nat.succ_le_succ (Nat.le_of_lt hlt'.out), hre2.out, hb5.out⟩
    case measure => (have := hlt'.out; simp [intOf]; omega)
   | false =>
    obtain ⟨r, hc⟩ : ∃ r, Hid (cmpT (kyS x) (kyS y) = r) := ⟨_, Lib.hid rfl⟩
    have hr0 : (0 : Int) ≤ r := by
     rw [← hc.out]
     unfold cmpT
     rw [if_neg (by rw [hl]; simp)]
     split <;> omega
    have hno : Hid (ans = false) := by
     show _ = _
     rw [← hre.out, hst.out, hl]
     rfl
    refine q_region (Class wr) (by kernel_rfl) (by kernel_rfl) (Class.mk_ ((Below.refl _ _).drew)) ?_
    refine q_move rfl (.tmp 0) rfl ?_
    (intro K k; go_simp; apply k; clear k K)
    refine q_move rfl (.tmp 3) rfl ?_
    (intro K k; go_simp; apply k; clear k K)
    refine Want.qv0 (.int .i64 (k : Int)) ?_
    (intro K k; go_simp; apply k; clear k K)
    refine Want.qv0 (.pointer (some ⟨b, o + k * 64, none⟩)) ?_
    (intro K k; go_simp; apply k; clear k K)
    refine q_part rfl 57 (.tmp 13) rfl b ((o + k * 64)) rfl (cells8 x) _ (fun w' hw' => hfx.out _ (hbe.out.trans (hw'.below.mono hbe.out.size))) Tryz.underlying57 rfl sX.out ?_
    (intro K k; go_simp; apply k; clear k K)
    refine q_move rfl (.tmp 0) rfl ?_
    (intro K k; go_simp; apply k; clear k K)
    refine q_move rfl (.tmp 3) rfl ?_
    (intro K k; go_simp; apply k; clear k K)
    refine Want.qv0 (.pointer (some ⟨b, o + i * 64, none⟩)) ?_
    (intro K k; go_simp; apply k; clear k K)
    refine q_part rfl 57 (.tmp 17) rfl b ((o + i * 64)) rfl (cells8 y) _ (fun w' hw' => hfy.out _ (hbe.out.trans (hw'.below.mono hbe.out.size))) Tryz.underlying57 rfl sY.out ?_
    (intro K k; go_simp; apply k; clear k K)
    refine q_fn (v := .int .i64 r) (args := #[.agg (cells8 x).toArray, .agg (cells8 y).toArray]) rfl _ _ rfl rfl Tryz.func212 (by kernel_rfl) (by kernel_rfl) (fun w' hw' => ((byKey_below x y hxl.out hyl.out w').mono fun e w'' ⟨he, hb⟩ => ⟨by rw [he, hc.out], hw'.next hb⟩)) ?_
    (intro K k; go_simp; apply k; clear k K)
    refine Want.qv0 (.bool true) ?_
    (intro K k; go_simp; apply k; clear k K)
    refine q_nil ?_
    intro w5 hw5
    have hb5 : Hid (Below w.heap.size w w5) := hbe.out.trans (hw5.below.mono hbe.out.size)
    clear hw5
    go_wp2_with fail
    go_ret
    exact ⟨by rw [hno.out]; rfl, hb5.out⟩
  ·have hz : ¬ ((i : Int) < (n : Int)) := by omega
   have hyes : Hid (ans = true) := by
    show _ = _
    rw [← hre.out]
    exact rise_last (by rw [h.out.len]; omega)
   clear hlt
   go_wp2_with fail
   go_ret
   exact ⟨by rw [hyes.out]; rfl, hbe.out⟩
end Go.Proofs.YtgldkfaiofkhbaaGreatDoor.Rise

namespace Go.Proofs.YtgldkfaiofkhbaaGreatDoor.SortM
open Go Go.RowKit Go.Proofs.YtgldkfaiofkhbaaGreatDoor Mem Sha Bytes SortP Compare NoteP ByKey Rise Go.Proofs.YtgldkfaiofkhbaaGreatDoor.Append Own

abbrev T64 : Type := { t : Text // t.length = 64 }
instance t64_some : Inhabited T64 := ⟨⟨List.replicate 64 0, by simp⟩⟩
def enc (x : T64) : List Value := cells8 x.val
def vals (d : Array T64) : List Text := d.toList.map (·.val)
def arr (ss : List Text) (h : ∀ t ∈ ss, t.length = 64) : Array T64 := (ss.attach.map fun t => (⟨t.val, h t.val t.property⟩ : T64)).toArray
theorem arr_vals (ss : List Text) (h : ∀ t ∈ ss, t.length = 64) : vals (arr ss h) = ss := by
 unfold vals arr
 rw [List.toList_toArray, List.map_map]
 show (ss.attach.map fun t => t.val) = ss
 exact List.attach_map_subtype_val ss
theorem arr_size (ss : List Text) (h : ∀ t ∈ ss, t.length = 64) : (arr ss h).size = ss.length := by unfold arr; simp
theorem vals_len (d : Array T64) : (vals d).length = d.size := by unfold vals; simp
theorem vals_all (d : Array T64) : ∀ t ∈ vals d, t.length = 64 := fun t ht => by
 obtain ⟨x, -, rfl⟩ := List.mem_map.1 ht
 exact x.property
theorem vals_at (d : Array T64) {i : Nat} (h : i < d.size) : (vals d)[i]? = some (d[i]!).val := by
 unfold vals
 rw [List.getElem?_map, Array.getElem?_toList, getElem!_pos d i h, Array.getElem?_eq_getElem h]
 rfl
theorem flat_len : ∀ (ss : List Text), (∀ t ∈ ss, t.length = 64) → (ss.flatMap cells8).length = ss.length * 64
 | [], _ => rfl
 | s :: ss, h => by
  rw [List.flatMap_cons, List.length_append, cells8_len, h s (by simp), flat_len ss (fun t ht => h t (by simp [ht])), List.length_cons]
  omega
theorem enc_len (x : T64) : (enc x).length = 64 := by unfold enc; rw [cells8_len, x.property]
theorem enc_one (x : T64) : ∀ v ∈ enc x, v.oneCell' = true := cells8_one _
theorem flat_eq (d : Array T64) : Sort.flatK enc 64 d = ((vals d).flatMap cells8).toArray := by
 refine Sort.ext_get! ((Sort.size_flatK enc 64 d).trans (show d.size * 64 = ((vals d).flatMap cells8).length by rw [flat_len _ (vals_all d), vals_len])) fun t ht => ?_
 rw [Sort.size_flatK] at ht
 rw [Sort.get_flatK _ _ _ _ ht]
 have hi : t / 64 < d.size := by omega
 have h := flat_at64 (vals d) (vals_all d) (t / 64) (d[t / 64]!).val (t % 64) (vals_at d hi) (by omega)
 rw [show t / 64 * 64 + t % 64 = t by omega] at h
 have e1 : (enc d[t / 64]!)[t % 64]! = ((cells8 (d[t / 64]!).val)[t % 64]?).getD default := by
  unfold enc
  rw [List.getElem!_eq_getElem?_getD]
 have e2 : (((vals d).flatMap cells8).toArray)[t]! = (((vals d).flatMap cells8)[t]?).getD default := by
  rw [Array.getElem!_eq_getD, Array.getD_eq_getD_getElem?, List.getElem?_toArray]
 rw [e1, e2, h]
def cfS (x y : T64) : Int := cmpT (kyS x.val) (kyS y.val)
theorem lt_eq (x y : T64) : ltOf cfS x y = lex (kyS x.val) (kyS y.val) := by
 unfold ltOf cfS cmpT
 cases h1 : lex (kyS x.val) (kyS y.val) with
 | true => simp
 | false =>
  cases h2 : lex (kyS y.val) (kyS x.val) with
  | true => simp
  | false => simp
theorem swo : Sort.SWO (ltOf cfS) where
 irrefl x := by rw [lt_eq]; exact lex_irrefl _
 trans x y z h1 h2 := by rw [lt_eq] at *; exact lex_trans _ _ _ h1 h2
 ntrans x y z h1 h2 := by rw [lt_eq] at *; exact lex_ntrans _ _ _ h1 h2
theorem sorted_vals {d d' : Array T64} (hp : Sort.PermIn 0 d.size d d') (hs : Sort.SortedIn (ltOf cfS) 0 d.size d') : (vals d').length = d.size ∧ (vals d').Perm (vals d) ∧ (vals d').Pairwise fun a b => lex (kyS b) (kyS a) = false := by
 obtain ⟨h1, -, h3⟩ := hp
 refine ⟨by rw [vals_len, h1], ?_, ?_⟩
 ·have e1 : d'.extract 0 d.size = d' := by rw [← h1, Array.extract_size]
  have e2 : d.extract 0 d.size = d := Array.extract_size
  rw [e1, e2] at h3
  exact h3.map _
 ·rw [List.pairwise_iff_getElem]
  intro i j hi hj hij
  rw [vals_len] at hi hj
  have h := hs i j (Nat.zero_le _) hij (by omega)
  rw [lt_eq] at h
  have a1 := vals_at d' hi
  have a2 := vals_at d' hj
  rw [List.getElem?_eq_getElem (by rw [vals_len]; exact hi)] at a1
  rw [List.getElem?_eq_getElem (by rw [vals_len]; exact hj)] at a2
  rw [Option.some.inj a1, Option.some.inj a2]
  exact h
theorem putCells_all (F cur : Array Value) (h : F.size ≤ cur.size) : (Sort.putCells id 0 F cur).toList.take F.size = F.toList := by
 apply List.ext_getElem?
 intro i
 rw [List.getElem?_take]
 by_cases hi : i < F.size
 ·rw [if_pos hi, Array.getElem?_toList, Array.getElem?_toList]
  unfold Sort.putCells
  rw [Array.getElem?_mapIdx, Array.getElem?_eq_getElem (show i < cur.size by omega), Array.getElem?_eq_getElem hi, Option.map_some, if_pos ⟨Nat.zero_le _, by omega⟩, Nat.sub_zero, getElem!_pos F i hi]
  rfl
 ·rw [if_neg hi, Array.getElem?_toList, Array.getElem?_eq_none (by omega)]
theorem putCells_size (F cur : Array Value) : (Sort.putCells id 0 F cur).size = cur.size := by unfold Sort.putCells; simp
theorem heap_sorted {w : World} {g : Nat} {cur : Array Value} {e : TypeId} (hg : w.heap[g]? = some (.cells cur e (0, 0))) (k : Nat) (d : Array T64) (os : Array Obj) : (sortWorldK enc 64 w g 0 k d os).heap[g]? = some (.cells (Sort.putCells id 0 (Sort.flatK enc 64 d) cur) e (0, 0)) := by
 have hlt : g < w.heap.size := (Array.getElem?_eq_some_iff.1 hg).1
 unfold sortWorldK Sort.putRowK Sort.putRow
 rw [Sort.heap_grow_old _ _ (by unfold Sort.mapBlock; rw [Array.size_modify]; exact hlt)]
 unfold Sort.mapBlock
 rw [Array.getElem?_modify, if_pos rfl]
 show (w.heap[g]?).map _ = _
 rw [hg]
 rfl
theorem below_sorted {w : World} {g B : Nat} (hB : B ≤ g) (hw : B ≤ w.heap.size) (k : Nat) (d : Array T64) (os : Array Obj) : Below B w (sortWorldK enc 64 w g 0 k d os) := by
 refine ⟨rfl, rfl, rfl, ?_, fun i hi => ?_⟩
 ·unfold sortWorldK Sort.putRowK Sort.putRow
  rw [Sort.size_grow]
  unfold Sort.mapBlock
  rw [Array.size_modify]
  exact Nat.le_add_right _ _
 ·unfold sortWorldK Sort.putRowK Sort.putRow
  rw [Sort.heap_grow_old _ _ (by unfold Sort.mapBlock; rw [Array.size_modify]; show i < w.heap.size; omega)]
  unfold Sort.mapBlock
  rw [Array.getElem?_modify, if_neg (by omega)]
  rfl
theorem own_sorted {w : World} {B n c g : Nat} {e : TypeId} {ss : List Text} (h : w.ownsRow B e 64 (.slice (some ⟨g, 0, none⟩) n c) n (ss.flatMap cells8)) (k : Nat) (d : Array T64) (hd : d.size = n) (os : Array Obj) :
  (sortWorldK enc 64 w g 0 k d os).ownsRow B e 64 (.slice (some ⟨g, 0, none⟩) n c) n ((vals d).flatMap cells8) := by
 refine ⟨by rw [flat_len _ (vals_all d), vals_len, hd], ?_⟩
 rcases h.2 with ⟨h2, -⟩ | ⟨g2, c2, cur, h2, hB, hg, hn, hc, hsz, ht⟩
 ·cases h2
 ·injection h2 with h3 _ h4
  injection h3 with h3
  injection h3 with h3
  subst h3 h4
  refine .inr ⟨g, c, _, rfl, hB, heap_sorted hg k d os, hn, hc, by rw [putCells_size]; exact hsz, ?_⟩
  have hF : (Sort.flatK enc 64 d).size = n * 64 := by rw [Sort.size_flatK, hd]
  have hle : n * 64 ≤ c * 64 := Nat.mul_le_mul_right 64 hn
  have := putCells_all (Sort.flatK enc 64 d) cur (by rw [hF, hsz]; exact hle)
  rw [hF] at this
  rw [this, flat_eq]
theorem holds_own {w : World} {B n c g : Nat} {e : TypeId} {ss : List Text} (hl : ∀ t ∈ ss, t.length = 64) (h : w.ownsRow B e 64 (.slice (some ⟨g, 0, none⟩) n c) n (ss.flatMap cells8)) : Sort.HoldsK enc 64 w g 0 (arr ss hl) := by
 intro j hj
 rw [flat_eq, arr_vals] at hj ⊢
 rcases h.2 with ⟨h2, -⟩ | ⟨g2, c2, cur, h2, hB, hg, hn, hc, hsz, ht⟩
 ·cases h2
 ·injection h2 with h3 _ h4
  injection h3 with h3
  injection h3 with h3
  subst h3 h4
  have hj' : j < (ss.flatMap cells8).length := hj
  have hgb : Blk w g e cur := hg
  rw [Nat.zero_add]
  refine ⟨?_, hgb.frozen j⟩
  rw [hgb.cell j]
  have : (ss.flatMap cells8)[j]? = cur[j]? := by
   rw [← ht, List.getElem?_take, Array.getElem?_toList, if_pos (by have := h.1; omega)]
  rw [← this, getElem!_pos _ j hj, List.getElem?_eq_getElem hj']
  rfl
theorem byKey_lays (blk off size : Nat) (w : World) : CmpLays Tryz.prog 212 #[] enc 64 cfS blk off size w := fun m os dk _ x y => by
 refine (byKey_any x.val y.val x.property y.property (sortWorldK enc 64 w blk off m dk os)).mono fun e w' hh => ?_
 obtain ⟨he, q, hw⟩ := hh
 refine ⟨he, q, #[.cells (cells8 x.val).toArray 57, .cells (cells8 y.val).toArray 57], ?_⟩
 rw [hw, Sort.alloc_eq_grow, Sort.alloc_eq_grow, Sort.grow_grow]
 rfl
end Go.Proofs.YtgldkfaiofkhbaaGreatDoor.SortM

namespace Go.Proofs.YtgldkfaiofkhbaaGreatDoor.RingM
open Go Go.RowKit Go.Proofs.YtgldkfaiofkhbaaGreatDoor Mem Sha Bytes SortP Compare Grown Want Go.Proofs.YtgldkfaiofkhbaaGreatDoor.Append Own HeadID

structure KD where
 q : Text
 A : Option Addr
 c : Nat
instance kd_some : Inhabited KD := ⟨⟨[], none, 0⟩⟩
def idK (x : KD) : Text := idOf x.q
theorem idK_len (x : KD) : (idK x).length = 32 := idOf_len _
def encK (x : KD) : List Value := cells8 (idK x) ++ [.slice x.A x.q.length x.c]
theorem encK_len (x : KD) : (encK x).length = 33 := by unfold encK; rw [List.length_append, cells8_len, idK_len]; rfl
theorem encK_one (x : KD) : ∀ v ∈ encK x, v.oneCell' = true := fun v hv => by
 rcases List.mem_append.1 hv with hv | hv
 ·exact cells8_one _ v hv
 ·simp only [List.mem_singleton] at hv
  rw [hv]
  rfl
theorem encK_id {x : KD} {j : Nat} {u : Value} (hu : (cells8 (idK x))[j]? = some u) : (encK x)[j]? = some u := by
 unfold encK
 rw [List.getElem?_append_left (List.getElem?_eq_some_iff.1 hu).1]
 exact hu
theorem encK_key (x : KD) : (encK x)[32]? = some (.slice x.A x.q.length x.c) := by
 unfold encK
 rw [List.getElem?_append_right (by rw [cells8_len, idK_len]; exact Nat.le_refl _), cells8_len, idK_len]
 rfl
theorem flatK_len : ∀ (l : List KD), (l.flatMap encK).length = l.length * 33
 | [] => rfl
 | x :: l => by
  rw [List.flatMap_cons, List.length_append, encK_len, flatK_len l, List.length_cons]
  omega
theorem flatK_at : ∀ (l : List KD) (i : Nat) (x : KD) (j : Nat), l[i]? = some x → j < 33 → (l.flatMap encK)[i * 33 + j]? = (encK x)[j]?
 | [], i, x, j, h, _ => by simp at h
 | y :: l, 0, x, j, h, hj => by
  obtain rfl : y = x := by simpa using h
  rw [List.flatMap_cons, Nat.zero_mul, Nat.zero_add, List.getElem?_append_left (by rw [encK_len]; exact hj)]
 | y :: l, i + 1, x, j, h, hj => by
  rw [List.flatMap_cons, List.getElem?_append_right (by rw [encK_len]; omega), encK_len, show (i + 1) * 33 + j - 33 = i * 33 + j by omega]
  exact flatK_at l i x j (by simpa using h) hj
theorem flatK_eq (d : Array KD) : Sort.flatK encK 33 d = (d.toList.flatMap encK).toArray := by
 refine Sort.ext_get! ((Sort.size_flatK encK 33 d).trans (show d.size * 33 = (d.toList.flatMap encK).length by rw [flatK_len, Array.length_toList])) fun t ht => ?_
 rw [Sort.size_flatK] at ht
 rw [Sort.get_flatK _ _ _ _ ht]
 have hi : t / 33 < d.size := by omega
 have h := flatK_at d.toList (t / 33) d[t / 33]! (t % 33) (by rw [Array.getElem?_toList, getElem!_pos d _ hi, Array.getElem?_eq_getElem hi]) (by omega)
 rw [show t / 33 * 33 + t % 33 = t by omega] at h
 have e1 : (encK d[t / 33]!)[t % 33]! = ((encK d[t / 33]!)[t % 33]?).getD default := by
  rw [List.getElem!_eq_getElem?_getD]
 have e2 : ((d.toList.flatMap encK).toArray)[t]! = ((d.toList.flatMap encK)[t]?).getD default := by
  rw [Array.getElem!_eq_getD, Array.getD_eq_getD_getElem?, List.getElem?_toArray]
 rw [e1, e2, h]
def cfK (x y : KD) : Int := cmpT (idK x) (idK y)
theorem lt_eqK (x y : KD) : ltOf cfK x y = lex (idK x) (idK y) := by
 unfold ltOf cfK cmpT
 cases h1 : lex (idK x) (idK y) with
 | true => simp
 | false =>
  cases h2 : lex (idK y) (idK x) with
  | true => simp
  | false => simp
theorem swoK : Sort.SWO (ltOf cfK) where
 irrefl x := by rw [lt_eqK]; exact lex_irrefl _
 trans x y z h1 h2 := by rw [lt_eqK] at *; exact lex_trans _ _ _ h1 h2
 ntrans x y z h1 h2 := by rw [lt_eqK] at *; exact lex_ntrans _ _ _ h1 h2
theorem sorted_keys {d d' : Array KD} (hp : Sort.PermIn 0 d.size d d') (hs : Sort.SortedIn (ltOf cfK) 0 d.size d') : d'.toList.length = d.size ∧ d'.toList.Perm d.toList ∧ d'.toList.Pairwise fun a b => lex (idK b) (idK a) = false := by
 obtain ⟨h1, -, h3⟩ := hp
 refine ⟨by rw [Array.length_toList, h1], ?_, ?_⟩
 ·have e1 : d'.extract 0 d.size = d' := by rw [← h1, Array.extract_size]
  have e2 : d.extract 0 d.size = d := Array.extract_size
  rw [e1, e2] at h3
  exact h3
 ·rw [List.pairwise_iff_getElem]
  intro i j hi hj hij
  rw [Array.length_toList] at hi hj
  have h := hs i j (Nat.zero_le _) hij (by omega)
  rw [lt_eqK, getElem!_pos d' i hi, getElem!_pos d' j hj] at h
  rw [Array.getElem_toList, Array.getElem_toList]
  exact h
theorem heap_sortedK {w : World} {g : Nat} {cur : Array Value} {e : TypeId} (hg : w.heap[g]? = some (.cells cur e (0, 0))) (k : Nat) (d : Array KD) (os : Array Obj) : (sortWorldK encK 33 w g 0 k d os).heap[g]? = some (.cells (Sort.putCells id 0 (Sort.flatK encK 33 d) cur) e (0, 0)) := by
 have hlt : g < w.heap.size := (Array.getElem?_eq_some_iff.1 hg).1
 unfold sortWorldK Sort.putRowK Sort.putRow
 rw [Sort.heap_grow_old _ _ (by unfold Sort.mapBlock; rw [Array.size_modify]; exact hlt)]
 unfold Sort.mapBlock
 rw [Array.getElem?_modify, if_pos rfl]
 show (w.heap[g]?).map _ = _
 rw [hg]
 rfl
theorem own_sortedK {w : World} {B n c g : Nat} {e : TypeId} {l : List KD} (h : w.ownsRow B e 33 (.slice (some ⟨g, 0, none⟩) n c) n (l.flatMap encK)) (k : Nat) (d : Array KD) (hd : d.size = n) (os : Array Obj) :
  (sortWorldK encK 33 w g 0 k d os).ownsRow B e 33 (.slice (some ⟨g, 0, none⟩) n c) n (d.toList.flatMap encK) := by
 refine ⟨by rw [flatK_len, Array.length_toList, hd], ?_⟩
 rcases h.2 with ⟨h2, -⟩ | ⟨g2, c2, cur, h2, hB, hg, hn, hc, hsz, ht⟩
 ·cases h2
 ·injection h2 with h3 _ h4
  injection h3 with h3
  injection h3 with h3
  subst h3 h4
  refine .inr ⟨g, c, _, rfl, hB, heap_sortedK hg k d os, hn, hc, by rw [SortM.putCells_size]; exact hsz, ?_⟩
  have hF : (Sort.flatK encK 33 d).size = n * 33 := by rw [Sort.size_flatK, hd]
  have hle : n * 33 ≤ c * 33 := Nat.mul_le_mul_right 33 hn
  have := SortM.putCells_all (Sort.flatK encK 33 d) cur (by rw [hF, hsz]; exact hle)
  rw [hF] at this
  rw [this, flatK_eq]
theorem holds_ownK {w : World} {B n c g : Nat} {e : TypeId} {l : List KD} (h : w.ownsRow B e 33 (.slice (some ⟨g, 0, none⟩) n c) n (l.flatMap encK)) : Sort.HoldsK encK 33 w g 0 l.toArray := by
 intro j hj
 rw [flatK_eq, List.toList_toArray] at hj ⊢
 rcases h.2 with ⟨h2, -⟩ | ⟨g2, c2, cur, h2, hB, hg, hn, hc, hsz, ht⟩
 ·cases h2
 ·injection h2 with h3 _ h4
  injection h3 with h3
  injection h3 with h3
  subst h3 h4
  have hj' : j < (l.flatMap encK).length := hj
  have hgb : Blk w g e cur := hg
  rw [Nat.zero_add]
  refine ⟨?_, hgb.frozen j⟩
  rw [hgb.cell j]
  have : (l.flatMap encK)[j]? = cur[j]? := by
   rw [← ht, List.getElem?_take, Array.getElem?_toList, if_pos (by have := h.1; omega)]
  rw [← this, getElem!_pos _ j hj, List.getElem?_eq_getElem hj']
  rfl
def OwnK (w : World) (B : Nat) (v : Value) (n : Nat) (l : List KD) : Prop := l.length = n ∧ w.ownsRow B 142 33 v n (l.flatMap encK)
theorem OwnK.nil (w : World) (B : Nat) : OwnK w B (.slice none 0 0) 0 [] := ⟨rfl, World.ownsRow_nil _ _ _ _⟩
theorem OwnK.below {w w' : World} {B n : Nat} {v : Value} {l : List KD} (h : OwnK w B v n l) (hb : Below w.heap.size w w') : OwnK w' B v n l := ⟨h.1, own_below h.2 hb⟩
theorem OwnK.base {w : World} {B B' n : Nat} {v : Value} {l : List KD} (h : OwnK w B v n l) (hB : B' ≤ B) : OwnK w B' v n l := ⟨h.1, ownsRow_base h.2 hB⟩
theorem reads_pre {w : World} {g : Nat} {t : TypeId} {x : Text} {cs : Array Value} (hx : x.length = 32) (hc : ∀ (j : Nat) (u : Value), (cells8 x)[j]? = some u → cs[j]? = some u) (h : Blk w g t cs) : Reads w 1 (some ⟨g, 0, none⟩) 32 (cells8 x) := by
 refine Blk.reads h 0 _ (by rw [cells8_len, hx]) (fun j u hu => ?_)
 rw [Nat.zero_add]
 exact hc j u hu
theorem reads_dg {w : World} {g : Nat} {t : TypeId} {d : Text} (hd : d.length = 32) (h : Blk w g t (cells8 d).toArray) : Reads w 1 (some ⟨g, 0, none⟩) 32 (cells8 d) := by
 refine Blk.reads h 0 _ (by rw [cells8_len, hd]) (fun j u hu => ?_)
 rw [Nat.zero_add, List.getElem?_toArray]
 exact hu
set_option maxRecDepth 100000 in
set_option maxHeartbeats 1000000 in
theorem heldCmp_l (x y : Text) (hx : x.length = 32) (hy : y.length = 32) (cx cy : Array Value) (hcx : ∀ (j : Nat) (u : Value), (cells8 x)[j]? = some u → cx[j]? = some u) (hcy : ∀ (j : Nat) (u : Value), (cells8 y)[j]? = some u → cy[j]? = some u) (W : World) :
  Calls Tryz.prog 62 #[.agg cx, .agg cy] W fun e w' => e = .returned (.int .i64 (cmpT (x) (y))) ∧ ∃ q, w' = ((W.alloc (.cells cx 142)).alloc (.cells cy 142)).drewN q := by
 have hB1 : Blk ((W.alloc (.cells cx 142)).alloc (.cells cy 142)) W.heap.size 142 cx := (Blk.new W _ _).alloc _
 have hB2 : Blk ((W.alloc (.cells cx 142)).alloc (.cells cy 142)) (W.heap.size + 1) 142 cy := by
  have := Blk.new (W.alloc (.cells cx 142)) 142 cy
  rwa [show (W.alloc (.cells cx 142)).heap.size = W.heap.size + 1 by simp] at this
 have hC := Lib.hid (fun m => compare_any (x) (y) 32 32 hx hy (some ⟨W.heap.size, 0, none⟩) (some ⟨W.heap.size + 1, 0, none⟩) 32 32 (((W.alloc (.cells cx 142)).alloc (.cells cy 142)).drewN m) (reads_pre hx hcx hB1) (reads_pre hy hcy hB2))
 obtain ⟨r, hr⟩ : ∃ r, cmpT (x) (y) = r := ⟨_, rfl⟩
 rw [hr] at hC ⊢
 have X : ∀ (g : Nat) (w' : World), (Instr.sliceAt 23 (.pointer (some ⟨g, 0, none⟩)) none none none).run Tryz.prog w' = .ok (.slice (some ⟨g, 0, none⟩) 32 32) w' := fun g w' => by
  have hl : Tryz.prog.arrayLen 23 = 32 := by kernel_rfl
  have hs : (sizeOf (Tryz.prog.elem 23)).run Tryz.prog w' = .ok 1 w' := by kernel_rfl
  rw [run_sliceAt_array_all w' 23 _ Tryz.underlying23, hs]
  simp [Result.andThen, slicedAt, hl]
  rfl
 clear hr hB1 hB2 hcx hcy hx hy
 go_enter Tryz.func62, Tryz.ntmps62
 go_upto_region 1 with fail
 refine q_region (fun w' => ∃ n, w' = ((W.alloc (.cells cx 142)).alloc (.cells cy 142)).drewN n) (by kernel_rfl) (by kernel_rfl) (⟨1, rfl⟩) ?_
 refine Want.qv0 (.pointer (some ⟨W.heap.size, 0, none⟩)) ?_
 (intro K k; go_simp; apply k; clear k K)
 refine q_val (v := .slice (some ⟨W.heap.size, 0, none⟩) 32 32) rfl (fun w' hw' => by have h := X W.heap.size w'; go_simp) ?_
 (intro K k; go_simp; apply k; clear k K)
 refine Want.qv0 (.pointer (some ⟨W.heap.size + 1, 0, none⟩)) ?_
 (intro K k; go_simp; apply k; clear k K)
 refine q_val (v := .slice (some ⟨W.heap.size + 1, 0, none⟩) 32 32) rfl (fun w' hw' => by have h := X (W.heap.size + 1) w'; go_simp) ?_
 (intro K k; go_simp; apply k; clear k K)
 refine q_fn (v := .int .i64 r) (args := #[.slice (some ⟨W.heap.size, 0, none⟩) 32 32, .slice (some ⟨W.heap.size + 1, 0, none⟩) 32 32]) rfl _ _ rfl rfl Tryz.func63 (by kernel_rfl) (by kernel_rfl) (fun w' hw' => (by obtain ⟨m, rfl⟩ := hw'; exact (hC.out m).mono (fun e w'' ⟨he, hw⟩ => ⟨he, m, hw⟩))) ?_
 (intro K k; go_simp; apply k; clear k K)
 refine Want.qv0 (.int .i64 r) ?_
 (intro K k; go_simp; apply k; clear k K)
 refine q_nil ?_
 intro w5 hw5
 obtain ⟨m, rfl⟩ := hw5
 go_wp2_with fail
 go_ret
 exact ⟨rfl, m, rfl⟩
set_option maxRecDepth 100000 in
set_option maxHeartbeats 1000000 in
theorem findCmp_l (x : Text) (hx : x.length = 32) (cx : Array Value) (hcx : ∀ (j : Nat) (u : Value), (cells8 x)[j]? = some u → cx[j]? = some u) (y : Text) (hy : y.length = 32) (W : World) :
  Calls Tryz.prog 215 #[.agg cx, .agg (cells8 y).toArray] W fun e w' => e = .returned (.int .i64 (cmpT (x) (y))) ∧ ∃ q, w' = ((W.alloc (.cells cx 142)).alloc (.cells (cells8 y).toArray 23)).drewN q := by
 have hB1 : Blk ((W.alloc (.cells cx 142)).alloc (.cells (cells8 y).toArray 23)) W.heap.size 142 cx := (Blk.new W _ _).alloc _
 have hB2 : Blk ((W.alloc (.cells cx 142)).alloc (.cells (cells8 y).toArray 23)) (W.heap.size + 1) 23 (cells8 y).toArray := by
  have := Blk.new (W.alloc (.cells cx 142)) 23 (cells8 y).toArray
  rwa [show (W.alloc (.cells cx 142)).heap.size = W.heap.size + 1 by simp] at this
 have hC := Lib.hid (fun m => compare_any (x) (y) 32 32 hx hy (some ⟨W.heap.size, 0, none⟩) (some ⟨W.heap.size + 1, 0, none⟩) 32 32 (((W.alloc (.cells cx 142)).alloc (.cells (cells8 y).toArray 23)).drewN m) (reads_pre hx hcx hB1) (reads_dg hy hB2))
 obtain ⟨r, hr⟩ : ∃ r, cmpT (x) (y) = r := ⟨_, rfl⟩
 rw [hr] at hC ⊢
 have X : ∀ (g : Nat) (w' : World), (Instr.sliceAt 23 (.pointer (some ⟨g, 0, none⟩)) none none none).run Tryz.prog w' = .ok (.slice (some ⟨g, 0, none⟩) 32 32) w' := fun g w' => by
  have hl : Tryz.prog.arrayLen 23 = 32 := by kernel_rfl
  have hs : (sizeOf (Tryz.prog.elem 23)).run Tryz.prog w' = .ok 1 w' := by kernel_rfl
  rw [run_sliceAt_array_all w' 23 _ Tryz.underlying23, hs]
  simp [Result.andThen, slicedAt, hl]
  rfl
 clear hr hB1 hB2 hcx hx hy
 go_enter Tryz.func215, Tryz.ntmps215
 go_upto_region 1 with fail
 refine q_region (fun w' => ∃ n, w' = ((W.alloc (.cells cx 142)).alloc (.cells (cells8 y).toArray 23)).drewN n) (by kernel_rfl) (by kernel_rfl) (⟨1, rfl⟩) ?_
 refine Want.qv0 (.pointer (some ⟨W.heap.size, 0, none⟩)) ?_
 (intro K k; go_simp; apply k; clear k K)
 refine q_val (v := .slice (some ⟨W.heap.size, 0, none⟩) 32 32) rfl (fun w' hw' => by have h := X W.heap.size w'; go_simp) ?_
 (intro K k; go_simp; apply k; clear k K)
 refine q_val (v := .slice (some ⟨W.heap.size + 1, 0, none⟩) 32 32) rfl (fun w' hw' => by have h := X (W.heap.size + 1) w'; go_simp) ?_
 (intro K k; go_simp; apply k; clear k K)
 refine q_fn (v := .int .i64 r) (args := #[.slice (some ⟨W.heap.size, 0, none⟩) 32 32, .slice (some ⟨W.heap.size + 1, 0, none⟩) 32 32]) rfl _ _ rfl rfl Tryz.func63 (by kernel_rfl) (by kernel_rfl) (fun w' hw' => (by obtain ⟨m, rfl⟩ := hw'; exact (hC.out m).mono (fun e w'' ⟨he, hw⟩ => ⟨he, m, hw⟩))) ?_
 (intro K k; go_simp; apply k; clear k K)
 refine Want.qv0 (.int .i64 r) ?_
 (intro K k; go_simp; apply k; clear k K)
 refine q_nil ?_
 intro w5 hw5
 obtain ⟨m, rfl⟩ := hw5
 go_wp2_with fail
 go_ret
 exact ⟨rfl, m, rfl⟩
theorem encK_pre (x : KD) : ∀ (j : Nat) (u : Value), (cells8 (idK x))[j]? = some u → (encK x).toArray[j]? = some u := fun j u hu => by
 rw [List.getElem?_toArray]
 exact encK_id hu
theorem heldCmp_any (x y : KD) (W : World) :
  Calls Tryz.prog 62 #[.agg (encK x).toArray, .agg (encK y).toArray] W fun e w' => e = .returned (.int .i64 (cmpT (idK x) (idK y))) ∧ ∃ q, w' = ((W.alloc (.cells (encK x).toArray 142)).alloc (.cells (encK y).toArray 142)).drewN q :=
 heldCmp_l (idK x) (idK y) (idK_len x) (idK_len y) (encK x).toArray (encK y).toArray (encK_pre x) (encK_pre y) W
theorem heldCmp_lays (blk off size : Nat) (w : World) : CmpLays Tryz.prog 62 #[] encK 33 cfK blk off size w := fun m os dk _ x y => by
 refine (heldCmp_any x y (sortWorldK encK 33 w blk off m dk os)).mono fun e w' hh => ?_
 obtain ⟨he, q, hw⟩ := hh
 refine ⟨he, q, #[.cells (encK x).toArray 142, .cells (encK y).toArray 142], ?_⟩
 rw [hw, Sort.alloc_eq_grow, Sort.alloc_eq_grow, Sort.grow_grow]
 rfl
theorem findCmp_below (x : KD) (y : Text) (hy : y.length = 32) (W : World) :
  Calls Tryz.prog 215 #[.agg (encK x).toArray, .agg (cells8 y).toArray] W fun e w' => e = .returned (.int .i64 (cmpT (idK x) y)) ∧ Below W.heap.size W w' :=
 (findCmp_l (idK x) (idK_len x) (encK x).toArray (encK_pre x) y hy W).mono fun e w' ⟨he, q, hw⟩ => ⟨he, by rw [hw]; exact below_drawn (((Below.refl _ W).alloc (Nat.le_refl _) _).alloc (by simp) _) q⟩
end Go.Proofs.YtgldkfaiofkhbaaGreatDoor.RingM
