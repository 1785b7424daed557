/-
  The document's Root, walked (printed by wip/gen_refroot.py).
-/
import Derived.Test.YtngieimjlkpkaaaDoorBook2
import Derived.Test.YtngieimjlkpkaaaDoorAppend
import Derived.Test.YtngieimjlkpkaaaDoorHeld
import Derived.Test.YtngieimjlkpkaaaDoorTreeFold
namespace Go.Proofs.YtngieimjlkpkaaaDoor.TreeRefRoot
open Go Go.RowKit Go.Proofs.YtngieimjlkpkaaaDoor Go.Proofs.YtngieimjlkpkaaaDoor.Digest Go.Proofs.YtngieimjlkpkaaaDoor.Mem Go.Proofs.YtngieimjlkpkaaaDoor.Sha Go.Proofs.YtngieimjlkpkaaaDoor.ShaWalk Go.Proofs.YtngieimjlkpkaaaDoor.Bytes Go.Proofs.YtngieimjlkpkaaaDoor.HashMem Go.Proofs.YtngieimjlkpkaaaDoor.DigestMem Go.Proofs.YtngieimjlkpkaaaDoor.DigestTop Go.Proofs.YtngieimjlkpkaaaDoor.RefTop Go.Proofs.YtngieimjlkpkaaaDoor.QuietTail Go.Proofs.YtngieimjlkpkaaaDoor.Grown Go.Proofs.YtngieimjlkpkaaaDoor.Chain Go.Proofs.YtngieimjlkpkaaaDoor.TreeMath Go.Proofs.YtngieimjlkpkaaaDoor.TreeMem Go.Proofs.YtngieimjlkpkaaaDoor.TreeRoot Go.Proofs.YtngieimjlkpkaaaDoor.Book Go.Proofs.YtngieimjlkpkaaaDoor.Book2 Go.Proofs.YtngieimjlkpkaaaDoor.Append Go.Proofs.YtngieimjlkpkaaaDoor.TreeFold Go.Proofs.YtngieimjlkpkaaaDoor.Held

theorem own_below {w w' : World} {base e size n : Nat} {v : Value} {xs : List Value} (h : w.ownsRow base e size v n xs) (hb : Below w.heap.size w w') : w'.ownsRow base e size v n xs := by
  refine ⟨h.1, h.2.imp id fun ⟨g, cap, cur, h1, h2, h3, h4⟩ => ⟨g, cap, cur, h1, h2, ?_, h4⟩⟩
  rw [hb.block g (Array.getElem?_eq_some_iff.1 h3).1, h3]
theorem zero31 : ((Tryd.prog.info? 31).bind (·.zero)).isSome = true := by kernel_rfl
theorem own_rd {w : World} {base n : Nat} {v : Value} {ds : List Text} (h : w.ownsRow base 31 32 v n (ds.flatMap cells8)) (hd : Digs ds) (hn : ds.length = n) (A : Option Addr) (c : Nat) (hv : v = .slice A n c) : RdD w A n ds := by
  obtain ⟨A', c', e, _, _, _, hr, _⟩ := Own.reads h
  rw [hv] at e
  injection e with e1 e2 e3
  subst e1
  exact ⟨hn, hd, hr⟩
theorem up_snoc {α : Type} (nd : α → α → α) (L : List α) (j : Nat) (x y : α) (hx : L[2 * j]? = some x) (hy : L[2 * j + 1]? = some y) : up nd (L.take (2 * (j + 1))) = up nd (L.take (2 * j)) ++ [nd x y] := by
  have hl : 2 * j + 1 < L.length := (List.getElem?_eq_some_iff.1 hy).1
  rw [show 2 * (j + 1) = 2 * j + 1 + 1 by omega, List.take_add_one, List.take_add_one, hx, hy, List.append_assoc, up_append nd j _ _ (by rw [List.length_take]; omega)]
  rfl
theorem up_all {α : Type} (nd : α → α → α) (L : List α) (j : Nat) (h : L.length = 2 * j) : up nd (L.take (2 * j)) = up nd L := by rw [List.take_of_length_le (by omega)]
theorem up_odd {α : Type} (nd : α → α → α) (L : List α) (j : Nat) (x : α) (h : L.length = 2 * j + 1) (hx : L[2 * j]? = some x) : up nd (L.take (2 * j)) ++ [x] = up nd L := by
  have e : L = L.take (2 * j) ++ [x] := by
    have := List.take_add_one (l := L) (i := 2 * j)
    rw [hx] at this
    rw [List.take_of_length_le (by omega)] at this
    simpa using this
  conv => rhs; rw [e]
  rw [up_append nd j _ _ (by rw [List.length_take]; omega)]
  rfl
theorem up_digs (s : Int) : ∀ L : List Text, Digs L → Digs (up (ndOf s) L)
  | [], h => h
  | [x], h => h
  | x :: y :: r, h => fun d hd => by
    simp only [up, List.mem_cons] at hd
    rcases hd with rfl | hd
    · exact ndOf_len s x y
    · exact up_digs s r (fun z hz => h z (by simp [hz])) d hd

set_option maxRecDepth 100000 in
set_option maxHeartbeats 1000000 in
theorem refroot_none (s : Int) (hs63 : s < 9223372036854775808) (A : Option Addr) (c : Nat) (w : World) :
    Calls Tryd.prog 27 #[.int .i64 s, .slice A 0 c] w fun e w' => e = .returned (.agg (cells8 (noneOf s)).toArray) ∧ Below w.heap.size w w' := by
  have hb0 : Hid (Below w.heap.size w (w.alloc (.cells Z32 31))) := Below.heap_below w _
  have hB0 : Hid (Blk (w.alloc (.cells Z32 31)) w.heap.size 31 Z32) := Blk.new w _ _
  obtain ⟨x, hx⟩ : ∃ x, Hid (noneOf s = x) := ⟨_, Lib.hid rfl⟩
  have F := Lib.hid (fit (x := x) (by rw [← hx.out]; exact noneOf_len s))
  have hT := Lib.hid (fun w' => refnothing_any s w' hs63)
  clear hs63
  go_enter Tryd.func27, Tryd.ntmps27
  go_wp2_with (first
    | (go_at_call 37; refine (hT.out _).mono ?_; rw [show cutTo (sum []) (clampN s) = x from hx.out]; rintro e w1 ⟨rfl, hb1⟩; have hB1 : Hid (Blk w1 w.heap.size 31 Z32) := (hb1.block _ hB0.out.lt).trans hB0.out; have bb1 : Hid (Below w.heap.size w w1) := hb0.out.trans (hb1.mono hb0.out.size); clear hb1)
    | ((with_reducible change wpList _ _ _ ({ dst := none, op := Op.store 31 _ _, type := _, pos := _, after := _, guard := _ } :: _) _ _); refine wpList_store_row (o := ⟨none, _, _, _, _, _⟩) rfl 31 (.tmp 4) (.tmp 12) rfl (w.heap.size) ((cells8 x).toArray) rfl rfl 31 (Z32) hB1.out F.out.size F.out.zero F.out.one ?_))
  refine bodyPost_ret (results_cell_row rfl _ _ w.heap.size 31 (cells8 x).toArray (0, 0) _ rfl (setRow_heap _ _ _ _ _ _ hB1.out) Tryd.underlying31 rfl F.out.size) rfl ?_
  exact ⟨by rw [hx.out], below_setRow bb1.out (Nat.le_refl _) _⟩

set_option maxRecDepth 100000 in
set_option maxHeartbeats 1000000 in
theorem refroot_some (s : Int) (hs63 : s < 9223372036854775808) (ds : List Text) (n : Nat) (h1 : 1 ≤ n) (hn47 : n < 1099511627776) (A : Option Addr) (c : Nat) (hnil : A = none → n = 0 ∧ c = 0) (w : World) (hr : RdD w A n ds) :
    Calls Tryd.prog 27 #[.int .i64 s, .slice A n c] w fun e w' => e = .returned (.agg (cells8 (rootOf s ds)).toArray) ∧ Below w.heap.size w w' := by
  obtain ⟨i0, ii, iz0, iz1, iz2⟩ := info_partsN info32
  have hb0 : Hid (Below w.heap.size w (w.alloc (.cells Z32 31))) := Below.heap_below w _
  have hB0 : Hid (Blk (w.alloc (.cells Z32 31)) w.heap.size 31 Z32) := Blk.new w _ _
  have hsz0 : Hid ((w.alloc (.cells Z32 31)).heap.size = w.heap.size + 1) := by show _ = _; simp
  have hR0 : Hid (RdD (w.alloc (.cells Z32 31)) A n ds) := hr.below hb0.out
  have hn0 := Lib.hid hn47
  have hnil0 := Lib.hid hnil
  have hroot0 : Hid (rootOf s ds = rootOf s ds) := rfl
  have hds := Lib.hid hr.2.1
  have hlen := Lib.hid hr.1
  have hT := Lib.hid (fun x y hx hy w' => refnode_any x y hx hy s w' hs63)
  have hone : Hid (∀ (ds : List Text), ∀ v ∈ ds.flatMap cells8, v.oneCell' = true) := fun ds v hv => by
    obtain ⟨d, _, hd⟩ := List.mem_flatMap.1 hv
    exact cells8_one d v hd
  have y1 : ((n : Int) == 0) = false := beq_eq_false_iff_ne.2 (by omega)
  have hO0 : Hid (((w.alloc (.cells Z32 31)).alloc (.cells #[] 31)).ownsRow (w.heap.size + 1) 31 32 (.slice (some ⟨w.heap.size + 1, 0, none⟩) 0 0) 0 []) := by
    have := World.ownsRow_lit (base := w.heap.size + 1) (e := 31) (size := 32) (w.alloc (.cells Z32 31)) #[] 0 (by rw [hsz0.out]; omega) (by decide) rfl
    rw [hsz0.out] at this
    exact this
  have hR1 : Hid (RdD ((w.alloc (.cells Z32 31)).alloc (.cells #[] 31)) A n ds) := hR0.out.below (Below.heap_below _ _)
  have hc1 : Hid (0 + n ≤ maxLen) := by show _ ≤ _; unfold maxLen; omega
  have hc3 : Hid ((0 + n) * 32 ≤ 140737488355328) := by show _ ≤ _; omega
  have hs3 : Hid (w.heap.size + 1 ≤ ((w.alloc (.cells Z32 31)).alloc (.cells #[] 31)).heap.size) := by show _ ≤ _; simp
  have hB1 : Hid (Blk ((w.alloc (.cells Z32 31)).alloc (.cells #[] 31)) w.heap.size 31 Z32) := hB0.out.alloc _
  have hb1 : Hid (Below w.heap.size w ((w.alloc (.cells Z32 31)).alloc (.cells #[] 31))) := hb0.out.alloc hb0.out.size _
  have hnB : Hid (∀ k, (Value.slice (some ⟨w.heap.size + 1, 0, none⟩) 0 0).ownBlock = some k → w.heap.size + 1 = k) := fun k e => Option.some.inj (show some (w.heap.size + 1) = some k from e)
  clear hr hs63 hn47 hnil hB0 hb0 hR0 hsz0
  go_enter Tryd.func27, Tryd.ntmps27
  go_wp2_with ((with_reducible change wpList _ _ _ ({ dst := some 15, op := _, type := _, pos := _, after := _, guard := _ } :: _) _ _); refine wpList_append_src _ (o := ⟨some 15, _, _, _, _, _⟩) rfl (.tmp 13) (.tmp 14) 41 rfl (w.heap.size + 1) 31 i0 (.agg Z32) 32 32 Tryd.underlying41 ii iz0 iz1 iz2 rfl (by decide) (.slice (some ⟨w.heap.size + 1, 0, none⟩) 0 0) 0 ([]) rfl hO0.out A n c (ds.flatMap cells8) rfl hR1.out.2.2 hnil0.out (hone.out ds) hc1.out hc3.out hs3.out ?_; intro v1 w2 hG; have hO2 := hG.own; rw [Nat.zero_add, List.nil_append] at hO2; have hb2 : Hid (Below w.heap.size w w2) := hG.below hb1.out hb1.out.size (fun k e => by have := hnB.out k e; omega); have hB2 : Hid (Blk w2 w.heap.size 31 Z32) := hB1.out.grown hG.grow (fun e => by have := hnB.out _ e.symm; omega); obtain ⟨g, cap, rfl, -, -⟩ := hO2.form h1; have hR2 : Hid (RdD w2 (some ⟨g, 0, none⟩) n ds) := own_rd hO2 hds.out hlen.out _ _ rfl; clear hG hO2)
  clear hO0 hR1 hc1 hc3 hs3 hB1 hb1 hnB hnil0 y1
  go_loopw [5] (fun v wr => ∃ (L : List Text) (p g cap : Nat), v = .slice (some ⟨g, 0, none⟩) p cap ∧ Hid (1 ≤ p ∧ p ≤ n) ∧ Hid (L.length = p) ∧ Hid (Digs L) ∧ Hid (rootOf s L = rootOf s ds) ∧ Hid (RdD wr (some ⟨g, 0, none⟩) p L) ∧ Hid (Blk wr w.heap.size 31 Z32) ∧ Hid (Below w.heap.size w wr)) (fun v _ => match v with | .slice _ p _ => p | _ => 0)
  case atStart => exact ⟨ds, n, g, cap, rfl, ⟨h1, Nat.le_refl _⟩, hlen.out, hds.out, rfl, hR2.out, hB2.out, hb2.out⟩
  case round =>
    clear hR2 hB2 hb2 h1
    obtain ⟨L, p, g, cap, rfl, hp, hL, hd, hroot, hR, hB, hW⟩ := hrel
    by_cases hp1 : p = 1
    · subst hp1
      obtain ⟨x, rfl⟩ : ∃ x, L = [x] := by
        match L, hL.out with
        | [x], _ => exact ⟨x, rfl⟩
      have hxr : Hid (x = rootOf s ds) := by show _ = _; rw [← hroot.out]; rfl
      have F := Lib.hid (fit (x := x) (hd.out x (by simp)))
      obtain ⟨b, o, e, hbl, hc⟩ := hR.out.at_ (i := 0) (d := x) rfl
      injection e with e
      injection e with e1 e2
      subst e1 e2
      simp only [Nat.zero_mul, Nat.add_zero] at hc
      replace hc := Lib.hid hc
      clear hbl hL hp
      go_wp2_with (first
        | ((with_reducible change wpList _ _ _ ({ dst := some 56, op := _, type := _, pos := _, after := _, guard := _ } :: _) _ _); refine wpList_load_part (o := ⟨some 56, _, _, _, _, _⟩) rfl 31 (.tmp 55) rfl (g) (0) rfl (cells8 x) _ hc.out Tryd.underlying31 rfl F.out.part ?_)
        | ((with_reducible change wpList _ _ _ ({ dst := none, op := Op.store 31 _ _, type := _, pos := _, after := _, guard := _ } :: _) _ _); refine wpList_store_row (o := ⟨none, _, _, _, _, _⟩) rfl 31 (.tmp 4) (.tmp 56) rfl (w.heap.size) ((cells8 x).toArray) rfl rfl 31 (Z32) hB.out F.out.size F.out.zero F.out.one ?_))
      refine bodyPost_ret (results_cell_row rfl _ _ w.heap.size 31 (cells8 x).toArray (0, 0) _ rfl (setRow_heap _ _ _ _ _ _ hB.out) Tryd.underlying31 rfl F.out.size) rfl ?_
      exact ⟨by rw [hxr.out], below_setRow hW.out (Nat.le_refl _) _⟩
    · have hz1 : (1 : Int) < (p : Int) := by have := hp.out; omega
      have hp40 : Hid ((p : Int) < 1099511627776) := by show _ < _; have := hp.out; have := hn0.out; omega
      have hp2 : Hid (2 ≤ p) := by have := hp.out; show 2 ≤ p; omega
      obtain ⟨wo, rfl⟩ : ∃ wo : World, wo = wr := ⟨_, rfl⟩
      clear hp1
      go_wp2_with fail
      go_loopw [6, 7] (fun uv v wr => ∃ (j q : Nat) (uu : Value), uv = uu ∧ v = .int .i64 (q : Int) ∧ Hid (q = 2 * j) ∧ Hid (q ≤ p) ∧ Hid (wr.ownsRow wo.heap.size 31 32 uu j ((up (ndOf s) (L.take (2 * j))).flatMap cells8)) ∧ Hid (Below wo.heap.size wo wr)) (fun _ v _ => p - (intOf v).toNat)
      case atStart => exact ⟨0, 0, _, rfl, rfl, rfl, Nat.zero_le _, World.ownsRow_nil _ _ _ _, Below.refl _ _⟩
      case round =>
        obtain ⟨j, q, uu, huv, rfl, hq, hqp, hO, hX⟩ := hrel
        rw [huv]
        clear huv
        have hq0 : (0 : Int) ≤ (q : Int) := by omega
        have hq40 : Hid ((q : Int) < 1099511627776) := by have := hqp.out; have := hp40.out; show _ < _; omega
        have ww1 : IntKind.i64.wrap ((q : Int) + 1) = (q : Int) + 1 := IntWalk.i64_in _ (by have := hq40.out; omega)
        have ww2 : IntKind.i64.wrap ((q : Int) + 2) = (q : Int) + 2 := IntWalk.i64_in _ (by have := hq40.out; omega)
        have ww3 : 0 ≤ (q : Int) + 1 := by omega
        have ww4 : ((q : Int) + 1).toNat = q + 1 := by omega
        have ww7 : wrap64 (q : Int) = (q : Int) := IntWalk.wrap64_in _ (by have := hq40.out; omega)
        have ww5 : IntKind.i64.wrap (p : Int) = (p : Int) := IntWalk.i64_in _ (by have := hp40.out; omega)
        have ww6 : IntKind.i64.wrap ((p : Int) - 1) = (p : Int) - 1 := IntWalk.i64_in _ (by have := hp40.out; omega)
        by_cases hlt : q + 1 < p
        · have hz2 : (q : Int) + 1 < (p : Int) := by omega
          have hz3 : (q : Int) < (p : Int) := by omega
          obtain ⟨x, hxL⟩ : ∃ x, L[q]? = some x := ⟨_, List.getElem?_eq_getElem (by rw [hL.out]; omega)⟩
          obtain ⟨y, hyL⟩ : ∃ y, L[q + 1]? = some y := ⟨_, List.getElem?_eq_getElem (by rw [hL.out]; omega)⟩
          have hxl := Lib.hid (hd.out.at_ hxL)
          have hyl := Lib.hid (hd.out.at_ hyL)
          have Fx := Lib.hid (fit (x := x) hxl.out)
          have Fy := Lib.hid (fit (x := y) hyl.out)
          obtain ⟨z, hz⟩ : ∃ z, Hid (ndOf s x y = z) := ⟨_, Lib.hid rfl⟩
          have hzl : Hid (z.length = 32) := by show _ = _; rw [← hz.out]; exact ndOf_len s x y
          have hup : Hid (up (ndOf s) (L.take (2 * (j + 1))) = up (ndOf s) (L.take (2 * j)) ++ [z]) := by
            show _ = _
            rw [up_snoc (ndOf s) L j x y (by rw [← hq.out]; exact hxL) (by rw [← hq.out]; exact hyL), hz.out]
          have hx : Hid (∀ w', Below wo.heap.size wo w' → ∀ k v, (cells8 x)[k]? = some v → w'.cell? ⟨g, q * 32 + k, none⟩ = some v) := fun w' hb k v hv => by
            obtain ⟨b, o, e, hbl, hc⟩ := hR.out.at_ hxL
            injection e with e
            injection e with e1 e2
            subst e1 e2
            have := (hb.cell (p := ⟨g, 0 + q * 32 + k, none⟩) hbl).trans (hc k v hv)
            rwa [Nat.zero_add] at this
          have hy : Hid (∀ w', Below wo.heap.size wo w' → ∀ k v, (cells8 y)[k]? = some v → w'.cell? ⟨g, (q + 1) * 32 + k, none⟩ = some v) := fun w' hb k v hv => by
            obtain ⟨b, o, e, hbl, hc⟩ := hR.out.at_ hyL
            injection e with e
            injection e with e1 e2
            subst e1 e2
            have := (hb.cell (p := ⟨g, 0 + (q + 1) * 32 + k, none⟩) hbl).trans (hc k v hv)
            rwa [Nat.zero_add] at this
          have hT : Hid (∀ w', Calls Tryd.prog 36 #[.int .i64 s, .agg (cells8 x).toArray, .agg (cells8 y).toArray] w' fun e w'' => e = .returned (.agg (cells8 z).toArray) ∧ Below w'.heap.size w' w'') := fun w' => by
            have := hT.out x y hxl.out hyl.out w'
            rw [show cutTo (sum (kb 1 :: (x ++ y))) (clampN s) = z from hz.out] at this
            exact this
          have q1 : Hid (∀ v ∈ [cells8 z], v.length = 32) := by intro v hv; simp only [List.mem_singleton] at hv; rw [hv, cells8_len, hzl.out]
          have x1 : Hid ([cells8 z].flatten.toArray = (cells8 z).toArray) := by show _ = _; simp
          have hSo := Lib.hid (fun w' (hb : Below wo.heap.size wo w') => And.intro (hx.out w' hb) (hy.out w' hb))
          have hS := Lib.hid (fun w' (hb : Below wr.heap.size wr w') => hSo.out w' (hX.out.trans (hb.mono hX.out.size)))
          have hjp : Hid (j + 1 ≤ p) := by have := hq.out; show _ ≤ _; omega
          have hlt2 : Hid (q + 2 ≤ p) := by show _ ≤ _; omega
          have hq2 : Hid (q + 2 = 2 * (j + 1)) := by have := hq.out; show _ = _; omega
          clear hxL hyL hlt hz hxl hyl
          go_wp2_with fail
          have hS0 := Lib.hid (hS.out wr.drew ((Below.refl _ _).drew))
          refine held_start (fun w' => (∀ k v, (cells8 x)[k]? = some v → w'.cell? ⟨g, q * 32 + k, none⟩ = some v) ∧ (∀ k v, (cells8 y)[k]? = some v → w'.cell? ⟨g, (q + 1) * 32 + k, none⟩ = some v)) 15 rfl (by kernel_rfl) ?_
          refine held_take (i := 0) (v := uu) rfl (by kernel_rfl) (by kernel_rfl) (by kernel_rfl) (fun _ _ _ h => h) hS0.out (by rfl) (fun w' hw' => run_mv (.tmp 6) rfl w') ?_
          (intro K hK; go_simp; refine hK _ ?_; clear hK K)
          refine held_take (i := 1) (v := .int .i64 s) rfl (by kernel_rfl) (by kernel_rfl) (by kernel_rfl) (fun _ _ _ h => h) hS0.out (by rfl) (fun w' hw' => run_mv (.tmp 0) rfl w') ?_
          (intro K hK; go_simp; refine hK _ ?_; clear hK K)
          refine held_take (i := 2) (v := .slice (some ⟨g, 0, none⟩) p cap) rfl (by kernel_rfl) (by kernel_rfl) (by kernel_rfl) (fun _ _ _ h => h) hS0.out (by rfl) (fun w' hw' => run_mv (.tmp 5) rfl w') ?_
          (intro K hK; go_simp; refine hK _ ?_; clear hK K)
          refine held_take (i := 3) (v := .int .i64 (q : Int)) rfl (by kernel_rfl) (by kernel_rfl) (by kernel_rfl) (fun _ _ _ h => h) hS0.out (by rfl) (fun w' hw' => run_mv (.tmp 7) rfl w') ?_
          (intro K hK; go_simp; refine hK _ ?_; clear hK K)
          refine held_take (i := 4) (v := .pointer (some ⟨g, q * 32, none⟩)) rfl (by kernel_rfl) (by kernel_rfl) (by kernel_rfl) (fun _ _ _ h => h) hS0.out (by rfl) (fun w' hw' => by go_simp) ?_
          (intro K hK; go_simp; refine hK _ ?_; clear hK K)
          refine held_take (i := 5) (v := .agg (cells8 x).toArray) rfl (by kernel_rfl) (by kernel_rfl) (by kernel_rfl) (fun _ _ _ h => h) hS0.out (by rfl) (fun w' hw' => exec_part 31 (.tmp 30) rfl (g) (q * 32) rfl (cells8 x) _ (hw'.1) Tryd.underlying31 rfl Fx.out.part) ?_
          (intro K hK; go_simp; refine hK _ ?_; clear hK K)
          refine held_take (i := 6) (v := .slice (some ⟨g, 0, none⟩) p cap) rfl (by kernel_rfl) (by kernel_rfl) (by kernel_rfl) (fun _ _ _ h => h) hS0.out (by rfl) (fun w' hw' => run_mv (.tmp 5) rfl w') ?_
          (intro K hK; go_simp; refine hK _ ?_; clear hK K)
          refine held_take (i := 7) (v := .int .i64 (q : Int)) rfl (by kernel_rfl) (by kernel_rfl) (by kernel_rfl) (fun _ _ _ h => h) hS0.out (by rfl) (fun w' hw' => run_mv (.tmp 7) rfl w') ?_
          (intro K hK; go_simp; refine hK _ ?_; clear hK K)
          refine held_take (i := 8) (v := .int .i64 ((q : Int) + 1)) rfl (by kernel_rfl) (by kernel_rfl) (by kernel_rfl) (fun _ _ _ h => h) hS0.out (by rfl) (fun w' hw' => by go_simp) ?_
          (intro K hK; go_simp; refine hK _ ?_; clear hK K)
          refine held_take (i := 9) (v := .pointer (some ⟨g, (q + 1) * 32, none⟩)) rfl (by kernel_rfl) (by kernel_rfl) (by kernel_rfl) (fun _ _ _ h => h) hS0.out (by rfl) (fun w' hw' => by go_simp) ?_
          (intro K hK; go_simp; refine hK _ ?_; clear hK K)
          refine held_take (i := 10) (v := .agg (cells8 y).toArray) rfl (by kernel_rfl) (by kernel_rfl) (by kernel_rfl) (fun _ _ _ h => h) hS0.out (by rfl) (fun w' hw' => exec_part 31 (.tmp 35) rfl (g) ((q + 1) * 32) rfl (cells8 y) _ (hw'.2) Tryd.underlying31 rfl Fy.out.part) ?_
          (intro K hK; go_simp; refine hK _ ?_; clear hK K)
          refine held_only (i := 11) rfl (by kernel_rfl) (by rfl) (fun K hK => ?_)
          refine wp_fn (R := fun v w'' => v = .agg (cells8 z).toArray ∧ Below wr.heap.size wr w'') (args := #[.int .i64 s, .agg (cells8 x).toArray, .agg (cells8 y).toArray]) _ _ rfl rfl Tryd.func36 (by kernel_rfl) (by kernel_rfl) ((hT.out wr.drew).mono fun e w'' ⟨he, hb⟩ => ⟨_, he, rfl, ((Below.refl _ wr).drew).trans hb⟩) ?_
          rintro v1 w1 ⟨rfl, hb1⟩
          replace hb1 := Lib.hid hb1
          go_simp
          refine hK _ _ (hS.out w1 hb1.out) ?_
          clear hK K
          have hO' := Lib.hid (own_below (own_below hO.out hb1.out) (Below.heap_below w1 (.cells (cells8 z).toArray 31)))
          have hb2 := Lib.hid (hb1.out.alloc hb1.out.size (.cells (cells8 z).toArray 31))
          have hX' := Lib.hid (hX.out.trans (hb2.out.mono hX.out.size))
          have hnew : Hid (Reads (w1.alloc (.cells (cells8 z).toArray 31)) 32 (some ⟨w1.heap.size, 0, none⟩) 1 (cells8 z)) := Blk.reads (Blk.new w1 31 (cells8 z).toArray) 0 _ (by rw [cells8_len, hzl.out]) (fun k u hu => by rw [Nat.zero_add, List.getElem?_toArray]; exact hu)
          have hs3 : Hid (wo.heap.size ≤ (w1.alloc (.cells (cells8 z).toArray 31)).heap.size) := hX'.out.size
          have hc1 : Hid (j + 1 ≤ maxLen) := by have := hjp.out; have := hp.out; have := hn0.out; show _ ≤ _; unfold maxLen; omega
          have hc3 : Hid ((j + 1) * 32 ≤ 140737488355328) := by have := hjp.out; have := hp.out; have := hn0.out; show _ ≤ _; omega
          refine held_only (i := 12) rfl (by kernel_rfl) (by rfl) (fun K hK => ?_)
          refine wp_buildAggs 41 31 1 _ rfl 32 (by decide) [cells8 z] Tryd.underlying41 size31 zero31 rfl (by decide) (by decide) q1.out rfl ?_
          rw [x1.out]
          go_simp
          refine hK _ _ (hS.out _ hb2.out) ?_
          clear hK K
          refine held_only (i := 13) rfl (by kernel_rfl) (by rfl) (fun K hK => ?_)
          refine wp_append_src _ (.tmp 26) (.tmp 38) 41 rfl wo.heap.size 31 i0 (.agg Z32) 32 32 Tryd.underlying41 ii iz0 iz1 iz2 rfl (by decide) uu j ((up (ndOf s) (L.take (2 * j))).flatMap cells8) rfl hO'.out (some ⟨w1.heap.size, 0, none⟩) 1 1 (cells8 z) rfl hnew.out (fun e => by cases e) (cells8_one z) hc1.out hc3.out hs3.out ?_
          intro v3 w3 hG
          have hO2 : Hid (w3.ownsRow wo.heap.size 31 32 v3 (j + 1) ((up (ndOf s) (L.take (2 * (j + 1)))).flatMap cells8)) := (by show World.ownsRow _ _ _ _ _ _ _; rw [hup.out, List.flatMap_append, List.flatMap_singleton]; exact hG.own)
          have hX2 : Hid (Below wo.heap.size wo w3) := hG.below hX'.out hs3.out (fun k e => (hO'.out.lt k e).1)
          have hS3 := Lib.hid (hSo.out w3 hX2.out)
          clear hG hO' hX' hnew hs3 hc1 hc3
          go_simp
          refine hK _ _ hS3.out ?_
          clear hK K
          refine held_take (i := 14) (v := v3) rfl (by kernel_rfl) (by kernel_rfl) (by kernel_rfl) (fun _ _ _ h => h) hS3.out (by rfl) (fun w' hw' => by go_simp) ?_
          (intro K hK; go_simp; refine hK _ ?_; clear hK K)
          refine held_end (by kernel_rfl) ?_
          go_wp2_with fail
          go_roundw
          case rel => exact ⟨j + 1, q + 2, _, rfl, by go_num, hq2.out, hlt2.out, hO2.out, hX2.out⟩
          case measure => (have := hlt2.out; simp [intOf]; omega)
        · have hz2 : decide ((q : Int) + 1 < (p : Int)) = false := decide_eq_false (by omega)
          have hz4 : decide (q + 1 < p) = false := decide_eq_false (by omega)
          have hzp : (p : Int) ≤ (q : Int) + 1 := by omega
          obtain ⟨Au, cu, rfl, hcu, hcm, hnu, hru, -⟩ := Own.reads hO.out
          have hupd := Lib.hid (up_digs s (L.take (2 * j)) (hd.out.take_ _))
          by_cases hpq : p = q
          · have hm1 : (p : Int) % 2 = 0 := by have := hq.out; omega
            have hm2 : (p : Int).tmod 2 = 0 := by rw [Int.tmod_eq_emod_of_nonneg (by omega)]; exact hm1
            have hjp : Hid (p = 2 * j) := by have := hq.out; show _ = _; omega
            have hupL := Lib.hid (up_all (ndOf s) L j (by rw [hL.out]; exact hjp.out))
            rw [hupL.out] at hO hru hupd
            have hjj : Hid (1 ≤ j ∧ j ≤ n ∧ j < p) := by have := hp.out; have := hp2.out; have := hjp.out; show _ ∧ _; omega
            have hul : Hid ((up (ndOf s) L).length = j) := by show _ = _; rw [up_len, hL.out, hjp.out]; omega
            obtain ⟨bu, ou, rfl, -, -⟩ := hru.2 (by have := hjj.out; omega)
            obtain ⟨gu, cpu, eu, -, -⟩ := hO.out.form (by have := hjj.out; omega)
            injection eu with eu1 eu2 eu3
            injection eu1 with eu1
            injection eu1 with eu1 eu4
            subst eu1 eu4
            have hBx := Lib.hid ((hX.out.block _ hB.out.lt).trans hB.out)
            have hWx := Lib.hid (hW.out.trans (hX.out.mono hW.out.size))
            have hRx : Hid (RdD wr (some ⟨bu, 0, none⟩) j (up (ndOf s) L)) := ⟨hul.out, hupd.out, hru⟩
            have hrx : Hid (rootOf s (up (ndOf s) L) = rootOf s ds) := by show _ = _; rw [← hroot.out]; exact root_up (ndOf s) (noneOf s) p L hL.out hp2.out
            clear hpq hlt hO hru hupL hz1
            go_wp2_with fail
            go_roundw
            case rel => exact ⟨up (ndOf s) L, j, _, _, rfl, ⟨hjj.out.1, hjj.out.2.1⟩, hul.out, hupd.out, hrx.out, hRx.out, hBx.out, hWx.out⟩
            case measure => exact hjj.out.2.2
          · have hpq' : Hid (p = q + 1) := by have := hqp.out; show _ = _; omega
            have hm1 : (p : Int) % 2 = 1 := by have := hq.out; have := hpq'.out; omega
            have hm2 : (p : Int).tmod 2 = 1 := by rw [Int.tmod_eq_emod_of_nonneg (by omega)]; exact hm1
            have zi : (p : Int) - 1 = (q : Int) := by have := hpq'.out; omega
            have hz3 : (q : Int) < (p : Int) := by omega
            obtain ⟨x, hxL⟩ : ∃ x, L[q]? = some x := ⟨_, List.getElem?_eq_getElem (by rw [hL.out]; have := hpq'.out; omega)⟩
            have hxl := Lib.hid (hd.out.at_ hxL)
            have Fx := Lib.hid (fit (x := x) hxl.out)
            have hx : Hid (∀ k v, (cells8 x)[k]? = some v → wr.cell? ⟨g, q * 32 + k, none⟩ = some v) := fun k v hv => by
              obtain ⟨b, o, e, hbl, hc⟩ := hR.out.at_ hxL
              injection e with e
              injection e with e1 e2
              subst e1 e2
              have := (hX.out.cell (p := ⟨g, 0 + q * 32 + k, none⟩) hbl).trans (hc k v hv)
              rwa [Nat.zero_add] at this
            have hupL := Lib.hid (up_odd (ndOf s) L j x (by rw [hL.out, hpq'.out, hq.out]) (by rw [← hq.out]; exact hxL))
            have q1 : Hid (∀ v ∈ [cells8 x], v.length = 32) := by intro v hv; simp only [List.mem_singleton] at hv; rw [hv, cells8_len, hxl.out]
            have x1 : Hid ([cells8 x].flatten.toArray = (cells8 x).toArray) := by show _ = _; simp
            have hjj : Hid (1 ≤ j + 1 ∧ j + 1 ≤ n ∧ j + 1 < p) := by have := hp.out; have := hp2.out; have := hpq'.out; have := hq.out; show _ ∧ _; omega
            have hul : Hid ((up (ndOf s) L).length = j + 1) := by show _ = _; rw [up_len, hL.out, hpq'.out, hq.out]; omega
            have hO' := Lib.hid (own_below hO.out (Below.heap_below wr (.cells (cells8 x).toArray 31)))
            have hX' := Lib.hid (hX.out.alloc hX.out.size (.cells (cells8 x).toArray 31))
            have hnew : Hid (Reads (wr.alloc (.cells (cells8 x).toArray 31)) 32 (some ⟨wr.heap.size, 0, none⟩) 1 (cells8 x)) := Blk.reads (Blk.new wr 31 (cells8 x).toArray) 0 _ (by rw [cells8_len, hxl.out]) (fun k u hu => by rw [Nat.zero_add, List.getElem?_toArray]; exact hu)
            have hs3 : Hid (wo.heap.size ≤ (wr.alloc (.cells (cells8 x).toArray 31)).heap.size) := hX'.out.size
            have hc1 : Hid (j + 1 ≤ maxLen) := by have := hjj.out; have := hn0.out; show _ ≤ _; unfold maxLen; omega
            have hc3 : Hid ((j + 1) * 32 ≤ 140737488355328) := by have := hjj.out; have := hn0.out; show _ ≤ _; omega
            have hrx : Hid (rootOf s (up (ndOf s) L) = rootOf s ds) := by show _ = _; rw [← hroot.out]; exact root_up (ndOf s) (noneOf s) p L hL.out hp2.out
            have hudL := Lib.hid (up_digs s L hd.out)
            clear hpq hlt hO hru hz1 hxL hxl hnu hcu hcm hX hupd
            go_wp2_with (first
              | ((with_reducible change wpList _ _ _ ({ dst := some 50, op := _, type := _, pos := _, after := _, guard := _ } :: _) _ _); refine wpList_load_part (o := ⟨some 50, _, _, _, _, _⟩) rfl 31 (.tmp 49) rfl (g) (q * 32) rfl (cells8 x) _ hx.out Tryd.underlying31 rfl Fx.out.part ?_)
              | ((with_reducible change wpList _ _ _ ({ dst := some 51, op := _, type := _, pos := _, after := _, guard := _ } :: _) _ _); refine wpList_buildAggs (o := ⟨some 51, _, _, _, _, _⟩) rfl 41 31 1 _ rfl 32 (by decide) [cells8 x] Tryd.underlying41 size31 zero31 rfl (by decide) (by decide) q1.out rfl ?_; rw [x1.out])
              | ((with_reducible change wpList _ _ _ ({ dst := some 52, op := _, type := _, pos := _, after := _, guard := _ } :: _) _ _); refine wpList_append_src _ (o := ⟨some 52, _, _, _, _, _⟩) rfl (.tmp 44) (.tmp 51) 41 rfl wo.heap.size 31 i0 (.agg Z32) 32 32 Tryd.underlying41 ii iz0 iz1 iz2 rfl (by decide) _ j ((up (ndOf s) (L.take (2 * j))).flatMap cells8) rfl hO'.out (some ⟨wr.heap.size, 0, none⟩) 1 1 (cells8 x) rfl hnew.out (fun e => by cases e) (cells8_one x) hc1.out hc3.out hs3.out ?_; intro v1 w3 hG; have hO2 : w3.ownsRow wo.heap.size 31 32 v1 (j + 1) ((up (ndOf s) L).flatMap cells8) := (by rw [← hupL.out, List.flatMap_append, List.flatMap_singleton]; exact hG.own); have hX2 : Hid (Below wo.heap.size wo w3) := hG.below hX'.out hs3.out (fun k e => (hO'.out.lt k e).1); obtain ⟨gu, cpu, rfl, -, -⟩ := hO2.form (by omega); have hRx : Hid (RdD w3 (some ⟨gu, 0, none⟩) (j + 1) (up (ndOf s) L)) := own_rd hO2 hudL.out hul.out _ _ rfl; clear hG hO2 hO' hX' hnew hs3 hc1 hc3))
            have hBx := Lib.hid ((hX2.out.block _ hB.out.lt).trans hB.out)
            have hWx := Lib.hid (hW.out.trans (hX2.out.mono hW.out.size))
            go_roundw
            case rel => exact ⟨up (ndOf s) L, j + 1, gu, cpu, rfl, ⟨hjj.out.1, hjj.out.2.1⟩, hul.out, hudL.out, hrx.out, hRx.out, hBx.out, hWx.out⟩
            case measure => exact hjj.out.2.2

theorem refroot_any (s : Int) (hs63 : s < 9223372036854775808) (ds : List Text) (n : Nat) (hn47 : n < 1099511627776) (A : Option Addr) (c : Nat) (hnil : A = none → n = 0 ∧ c = 0) (w : World) (hr : RdD w A n ds) :
    Calls Tryd.prog 27 #[.int .i64 s, .slice A n c] w fun e w' => e = .returned (.agg (cells8 (rootOf s ds)).toArray) ∧ Below w.heap.size w w' := by
  by_cases h0 : n = 0
  · subst h0
    obtain rfl := List.eq_nil_of_length_eq_zero hr.1
    exact refroot_none s hs63 A c w
  · exact refroot_some s hs63 ds n (by omega) hn47 A c hnil w hr
end Go.Proofs.YtngieimjlkpkaaaDoor.TreeRefRoot
