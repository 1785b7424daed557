/-
  docketbook.Same and Intact of digests, walked (printed by wip/gen_book2.py).
-/
import Derived.Test.YtngieimjlkpkaaaBook
namespace Go.Proofs.Ytngieimjlkpkaaa.Book2
open Go Go.RowKit Go.Proofs.Ytngieimjlkpkaaa Go.Proofs.Ytngieimjlkpkaaa.Mem Go.Proofs.Ytngieimjlkpkaaa.Sha Go.Proofs.Ytngieimjlkpkaaa.Bytes Go.Proofs.Ytngieimjlkpkaaa.QuietTail Go.Proofs.Ytngieimjlkpkaaa.Grown Go.Proofs.Ytngieimjlkpkaaa.TreeMem Go.Proofs.Ytngieimjlkpkaaa.TreeRoot Go.Proofs.Ytngieimjlkpkaaa.Book Go.Proofs.Ytngieimjlkpkaaa.DigEq

theorem take_succ_eq {ds es : List Text} {i : Nat} {x : Text} (h : ds.take i = es.take i) (hx : ds[i]? = some x) (hy : es[i]? = some x) : ds.take (i + 1) = es.take (i + 1) := by
  rw [List.take_add_one, List.take_add_one, h, hx, hy]
theorem neq_yes {x : Text} (hx : x.length = 32) (w : World) : (Op.equalIn 10000 28 (.agg (cells8 x).toArray) (.agg (cells8 x).toArray)).run Try.prog w = .ok true w := by
  rw [equal_dig x x hx hx w]; simp
theorem neq_no {x y : Text} (hx : x.length = 32) (hy : y.length = 32) (h : x ≠ y) (w : World) : (Op.equalIn 10000 28 (.agg (cells8 x).toArray) (.agg (cells8 y).toArray)).run Try.prog w = .ok false w := by
  rw [equal_dig x y hx hy w]; simp [h]

set_option maxRecDepth 100000 in
set_option maxHeartbeats 1000000 in
theorem sameD_len (n m : Nat) (A B : Option Addr) (c d : Nat) (w : World) (h : n ≠ m) :
    Calls Try.prog 41 #[.slice A n c, .slice B m d] w fun e w' => e = .returned (.bool false) ∧ Below w.heap.size w w' := by
  have y1 : ((n : Int) != (m : Int)) = true := bne_iff_ne.2 (by omega)
  have y2 : ((n : Int) == (m : Int)) = false := beq_eq_false_iff_ne.2 (by omega)
  clear h
  go_enter Try.func41, Try.ntmps41
  go_wp2_with fail
  go_ret
  exact ⟨rfl, Below.refl _ _⟩

set_option maxRecDepth 100000 in
set_option maxHeartbeats 1000000 in
theorem sameD_eq (n : Nat) (hn47 : n < 140737488355328) (ds es : List Text) (A B : Option Addr) (c d : Nat) (w : World) (h1 : RdD w A n ds) (h2 : RdD w B n es) :
    Calls Try.prog 41 #[.slice A n c, .slice B n d] w fun e w' => e = .returned (.bool (decide (ds = es))) ∧ Below w.heap.size w w' := by
  have y1 : ((n : Int) != (n : Int)) = false := bne_eq_false_iff_eq.2 rfl
  have y3 : (n : Int) < 140737488355328 := by omega
  replace h1 := Lib.hid h1
  replace h2 := Lib.hid h2
  clear hn47
  go_enter Try.func41, Try.ntmps41
  go_wp2_with fail
  go_loopw [5] (fun v wr => ∃ i : Nat, v = .int .i64 (i : Int) ∧ i ≤ n ∧ Hid (ds.take i = es.take i) ∧ Hid (Below w.heap.size w wr)) (fun v _ => n - (intOf v).toNat)
  case atStart => exact ⟨0, rfl, Nat.zero_le _, (by show _ = _; simp), Below.refl _ _⟩
  case round =>
    obtain ⟨i, rfl, hi, hE, hW⟩ := hrel
    by_cases hlt : i < n
    · obtain ⟨x, hxd⟩ : ∃ x, ds[i]? = some x := ⟨_, List.getElem?_eq_getElem (by rw [h1.out.1]; exact hlt)⟩
      obtain ⟨y, hyd⟩ : ∃ y, es[i]? = some y := ⟨_, List.getElem?_eq_getElem (by rw [h2.out.1]; exact hlt)⟩
      obtain ⟨b, o, rfl, hb, hc⟩ := h1.out.at_ hxd
      obtain ⟨b2, o2, rfl, hb2, hc2⟩ := h2.out.at_ hyd
      have hx : Hid (∀ w', Below wr.heap.size wr w' → ∀ j v, (cells8 x)[j]? = some v → w'.cell? ⟨b, o + i * 32 + j, none⟩ = some v) := fun w' hb' j v hv => ((hW.out.trans (hb'.mono hW.out.size)).cell (p := ⟨b, o + i * 32 + j, none⟩) hb).trans (hc j v hv)
      have hy : Hid (∀ w', Below wr.heap.size wr w' → ∀ j v, (cells8 y)[j]? = some v → w'.cell? ⟨b2, o2 + i * 32 + j, none⟩ = some v) := fun w' hb' j v hv => ((hW.out.trans (hb'.mono hW.out.size)).cell (p := ⟨b2, o2 + i * 32 + j, none⟩) hb2).trans (hc2 j v hv)
      have hxl := h1.out.2.1.at_ hxd
      have hyl := h2.out.2.1.at_ hyd
      have Fx := Lib.hid (fit (x := x) hxl)
      have Fy := Lib.hid (fit (x := y) hyl)
      have z1 : (0 : Int) ≤ (i : Int) := by omega
      have z2 : (i : Int) < (n : Int) := by omega
      have z4 : Hid (i + 1 ≤ n) := hlt
      by_cases hxy : x = y
      · have hq := Lib.hid (fun w' => neq_yes (x := x) hxl w')
        subst hxy
        have hE2 := Lib.hid (take_succ_eq hE.out hxd hyd)
        clear hc hc2 hb hb2 hxd hyd hxl hyl hi hlt hE
        go_wp2_with fail
        refine wp_region_class (Class wr) (by kernel_rfl) (by kernel_rfl) (Class.mk_ ((Below.refl _ _).drew)) ?_
        refine wpQuiet_move rfl (.tmp 0) rfl ?_
        (intro K hK; go_simp; refine hK _ ?_; clear hK K)
        refine wpQuiet_move rfl (.tmp 5) rfl ?_
        (intro K hK; go_simp; refine hK _ ?_; clear hK K)
        refine wpQuiet_val (v := .pointer (some ⟨b, o + i * 32, none⟩)) rfl (fun w' hw' => by go_simp) ?_
        (intro K hK; go_simp; refine hK _ ?_; clear hK K)
        refine wpQuiet_load_part rfl 28 (.tmp 19) rfl b (o + i * 32) rfl (cells8 x) _ (fun w' hw' => hx.out w' hw'.below) Try.underlying28 rfl Fx.out.part ?_
        (intro K hK; go_simp; refine hK _ ?_; clear hK K)
        refine wpQuiet_move rfl (.tmp 1) rfl ?_
        (intro K hK; go_simp; refine hK _ ?_; clear hK K)
        refine wpQuiet_move rfl (.tmp 5) rfl ?_
        (intro K hK; go_simp; refine hK _ ?_; clear hK K)
        refine wpQuiet_val (v := .pointer (some ⟨b2, o2 + i * 32, none⟩)) rfl (fun w' hw' => by go_simp) ?_
        (intro K hK; go_simp; refine hK _ ?_; clear hK K)
        refine wpQuiet_load_part rfl 28 (.tmp 23) rfl b2 (o2 + i * 32) rfl (cells8 x) _ (fun w' hw' => hy.out w' hw'.below) Try.underlying28 rfl Fy.out.part ?_
        (intro K hK; go_simp; refine hK _ ?_; clear hK K)
        refine wpQuiet_val (v := .bool false) rfl (fun w' hw' => by have h := hq.out w'; go_simp) ?_
        (intro K hK; go_simp; refine hK _ ?_; clear hK K)
        refine wpQuiet_nil ?_
        intro w' hw'
        have hW' := Lib.hid (hW.out.trans (hw'.below.mono hW.out.size))
        go_wp2_with fail
        go_roundw
        case rel => exact ⟨i + 1, by go_num, z4.out, hE2.out, hW'.out⟩
        case measure => (have := z4.out; simp [intOf]; omega)
      · have hq := Lib.hid (fun w' => neq_no (x := x) (y := y) hxl hyl hxy w')
        have hF : Hid (decide (ds = es) = false) := decide_eq_false (fun e => hxy (by rw [e, hyd] at hxd; exact (Option.some.inj hxd).symm))
        clear hc hc2 hb hb2 hxd hyd hxl hyl hi hlt hE hxy
        go_wp2_with fail
        refine wp_region_class (Class wr) (by kernel_rfl) (by kernel_rfl) (Class.mk_ ((Below.refl _ _).drew)) ?_
        refine wpQuiet_move rfl (.tmp 0) rfl ?_
        (intro K hK; go_simp; refine hK _ ?_; clear hK K)
        refine wpQuiet_move rfl (.tmp 5) rfl ?_
        (intro K hK; go_simp; refine hK _ ?_; clear hK K)
        refine wpQuiet_val (v := .pointer (some ⟨b, o + i * 32, none⟩)) rfl (fun w' hw' => by go_simp) ?_
        (intro K hK; go_simp; refine hK _ ?_; clear hK K)
        refine wpQuiet_load_part rfl 28 (.tmp 19) rfl b (o + i * 32) rfl (cells8 x) _ (fun w' hw' => hx.out w' hw'.below) Try.underlying28 rfl Fx.out.part ?_
        (intro K hK; go_simp; refine hK _ ?_; clear hK K)
        refine wpQuiet_move rfl (.tmp 1) rfl ?_
        (intro K hK; go_simp; refine hK _ ?_; clear hK K)
        refine wpQuiet_move rfl (.tmp 5) rfl ?_
        (intro K hK; go_simp; refine hK _ ?_; clear hK K)
        refine wpQuiet_val (v := .pointer (some ⟨b2, o2 + i * 32, none⟩)) rfl (fun w' hw' => by go_simp) ?_
        (intro K hK; go_simp; refine hK _ ?_; clear hK K)
        refine wpQuiet_load_part rfl 28 (.tmp 23) rfl b2 (o2 + i * 32) rfl (cells8 y) _ (fun w' hw' => hy.out w' hw'.below) Try.underlying28 rfl Fy.out.part ?_
        (intro K hK; go_simp; refine hK _ ?_; clear hK K)
        refine wpQuiet_val (v := .bool true) rfl (fun w' hw' => by have h := hq.out w'; go_simp) ?_
        (intro K hK; go_simp; refine hK _ ?_; clear hK K)
        refine wpQuiet_nil ?_
        intro w' hw'
        have hW' := Lib.hid (hW.out.trans (hw'.below.mono hW.out.size))
        go_wp2_with fail
        go_ret
        exact ⟨by show Ending.returned (.bool false) = _; rw [hF.out], hW'.out⟩
    · have hF : Hid (decide (ds = es) = true) := decide_eq_true (by
        have := hE.out
        rwa [List.take_of_length_le (by have := h1.out.1; omega), List.take_of_length_le (by have := h2.out.1; omega)] at this)
      have z1 : (n : Int) ≤ (i : Int) := by omega
      clear hlt hi y1 y3
      go_wp2_with fail
      go_ret
      exact ⟨by show Ending.returned (.bool true) = _; rw [hF.out], hW.out⟩

theorem sameD_any (n m : Nat) (hn47 : n < 140737488355328) (ds es : List Text) (A B : Option Addr) (c d : Nat) (w : World) (h1 : RdD w A n ds) (h2 : RdD w B m es) :
    Calls Try.prog 41 #[.slice A n c, .slice B m d] w fun e w' => e = .returned (.bool (decide (ds = es))) ∧ Below w.heap.size w w' := by
  by_cases h : n = m
  · subst h
    exact sameD_eq n hn47 ds es A B c d w h1 h2
  · rw [decide_eq_false (fun e => h (by rw [← h1.1, ← h2.1, e]))]
    exact sameD_len n m A B c d w h

set_option maxRecDepth 100000 in
set_option maxHeartbeats 1000000 in
/-- What Roomy made and nobody has written is intact. -/
theorem intactD_any (ds : List Text) (n : Nat) (hn47 : n < 1099511627776) (g : Nat) (A : Option Addr) (c : Nat) (mk : Text) (hmk : mk.length = 32) (w : World) (hr : RdD w A n ds) (hg : RowD w g (ds ++ List.replicate 80 mk)) :
    Calls Try.prog 18 #[.slice (some ⟨g, 0, none⟩) (n + 80) (n + 80), .slice A n c, .agg (cells8 mk).toArray] w fun e w' => e = .returned (.bool true) ∧ Below w.heap.size w w' := by
  have hB0 : Hid (Blk (w.alloc (.cells (cells8 mk).toArray 28)) w.heap.size 28 (cells8 mk).toArray) := Blk.new w _ _
  have hb0 : Hid (Below w.heap.size w (w.alloc (.cells (cells8 mk).toArray 28))) := Below.heap_below w _
  have hl := hr.1
  have hF : RdD w (some ⟨g, 0, none⟩) (n + 80) (ds ++ List.replicate 80 mk) := by
    have := hg.rd (hr.2.1.append_ (Digs.rep 80 hmk))
    rwa [show (ds ++ List.replicate 80 mk).length = n + 80 by simp [hl]] at this
  have hF1 : RdD w (some ⟨g, 0, none⟩) n ds := by
    have := hF.take_ n (by omega)
    rwa [List.take_append_of_le_length (by omega), List.take_of_length_le (by omega)] at this
  have hT := Lib.hid (fun w' (hb : Below w.heap.size w w') => sameD_any n n (by omega) ds ds (some ⟨g, 0, none⟩) A (n + 80) c w' (hF1.below hb) (hr.below hb))
  have hS := run_headD (A := some ⟨g, 0, none⟩) (n := n + 80) (c := n + 80) (k := n) (by omega) (n : Int) rfl
  have x0 : IntKind.i64.wrap ((n : Int) + 80) = (n : Int) + 80 := IntWalk.i64_in _ (by omega)
  have Fm := Lib.hid (fit (x := mk) hmk)
  have hq := Lib.hid (fun w' => neq_yes (x := mk) hmk w')
  have hn0 := Lib.hid hn47
  have hcell : Hid (∀ i, i < 80 → ∀ w', Below w.heap.size w w' → ∀ j v, (cells8 mk)[j]? = some v → w'.cell? ⟨g, (n + i) * 32 + j, none⟩ = some v) := fun i hi w' hb j v hv => by
    obtain ⟨b, o, e, hbl, hc⟩ := hF.at_ (i := n + i) (d := mk) (by rw [List.getElem?_append_right (by omega), hl, show n + i - n = i by omega, List.getElem?_replicate, if_pos hi])
    injection e with e
    injection e with e1 e2
    subst e1 e2
    have := (hb.cell (p := ⟨g, 0 + (n + i) * 32 + j, none⟩) hbl).trans (hc j v hv)
    rwa [Nat.zero_add] at this
  have y0 : (0 : Int) ≤ (n : Int) := by omega
  clear hr hg hl hF hF1 hmk hn47
  go_enter Try.func18, Try.ntmps18
  go_wp2_with (go_at_call 41; refine (hT.out _ hb0.out).mono ?_; rw [decide_eq_true rfl]; rintro e w1 ⟨rfl, hb1⟩; have hB1 : Hid (Blk w1 w.heap.size 28 (cells8 mk).toArray) := (hb1.block _ hB0.out.lt).trans hB0.out; have bb1 : Hid (Below w.heap.size w w1) := hb0.out.trans (hb1.mono hb0.out.size); clear hb1 hB0 hb0)
  clear hS hT
  go_loopw [7] (fun v wr => ∃ i : Nat, v = .int .i64 (((n + i : Nat)) : Int) ∧ Hid (i ≤ 80) ∧ Hid (Blk wr w.heap.size 28 (cells8 mk).toArray) ∧ Hid (Below w.heap.size w wr)) (fun v _ => n + 80 - (intOf v).toNat)
  case atStart => exact ⟨0, rfl, Nat.zero_le _, hB1.out, bb1.out⟩
  case round =>
    clear hB1 bb1
    obtain ⟨i, rfl, hi2, hB, hb⟩ := hrel
    obtain ⟨j, hj⟩ : ∃ j, Hid (n + i = j) := ⟨_, Lib.hid rfl⟩
    rw [hj.out]
    have hj0 : (0 : Int) ≤ (j : Int) := by omega
    by_cases hlt : i < 80
    · have hz : (j : Int) < (n : Int) + 80 := by have := hj.out; omega
      have hj63 : (j : Int) < 9223372036854775807 := by have := hj.out; have := hn0.out; omega
      have hx : Hid (∀ w', Below wr.heap.size wr w' → ∀ k v, (cells8 mk)[k]? = some v → w'.cell? ⟨g, j * 32 + k, none⟩ = some v) := fun w' hb' k v hv => by
        have := hcell.out i hlt w' (hb.out.trans (hb'.mono hb.out.size)) k v hv
        rwa [hj.out] at this
      have hi3 : Hid (i + 1 ≤ 80) := hlt
      clear hlt
      go_wp2_with fail
      refine wp_region_class (Class wr) (by kernel_rfl) (by kernel_rfl) (Class.mk_ ((Below.refl _ _).drew)) ?_
      refine wpQuiet_move rfl (.tmp 0) rfl ?_
      (intro K hK; go_simp; refine hK _ ?_; clear hK K)
      refine wpQuiet_move rfl (.tmp 7) rfl ?_
      (intro K hK; go_simp; refine hK _ ?_; clear hK K)
      refine wpQuiet_val (v := .pointer (some ⟨g, j * 32, none⟩)) rfl (fun w' hw' => by go_simp) ?_
      (intro K hK; go_simp; refine hK _ ?_; clear hK K)
      refine wpQuiet_load_part rfl 28 (.tmp 33) rfl g (j * 32) rfl (cells8 mk) _ (fun w' hw' => hx.out w' hw'.below) Try.underlying28 rfl Fm.out.part ?_
      (intro K hK; go_simp; refine hK _ ?_; clear hK K)
      refine wpQuiet_load_row rfl 28 (.tmp 5) rfl w.heap.size rfl 28 ((cells8 mk).toArray) (0, 0) _ (fun w' hw' => (hw'.below.block _ hB.out.lt).trans hB.out) Try.underlying28 rfl Fm.out.size ?_
      (intro K hK; go_simp; refine hK _ ?_; clear hK K)
      refine wpQuiet_val (v := .bool false) rfl (fun w' hw' => by have h := hq.out w'; go_simp) ?_
      (intro K hK; go_simp; refine hK _ ?_; clear hK K)
      refine wpQuiet_nil ?_
      intro w' hw'
      have hB' := Lib.hid ((hw'.below.block _ hB.out.lt).trans hB.out)
      have hb' := Lib.hid (hb.out.trans (hw'.below.mono hb.out.size))
      go_wp2_with fail
      go_roundw
      case rel => exact ⟨i + 1, by rw [← hj.out]; go_num, hi3.out, hB'.out, hb'.out⟩
      case measure => (have := hj.out; have := hi3.out; simp [intOf]; omega)
    · obtain rfl : i = 80 := by have := hi2.out; omega
      have hz : (n : Int) + 80 ≤ (j : Int) := by have := hj.out; omega
      clear hlt
      go_wp2_with fail
      go_ret
      exact ⟨rfl, hb.out⟩
end Go.Proofs.Ytngieimjlkpkaaa.Book2
