/-
  Texts of the claim, put into one file: RefIncl, RefAheadP, Ahead, AheadX, RowsY.
-/
import Derived.Test.YtmdkfhfkdcbpgaaDoorRZ30
import Derived.Test.YtmdkfhfkdcbpgaaDoorRZ9
import Derived.Test.YtmdkfhfkdcbpgaaDoorRZ11

namespace Go.Proofs.YtmdkfhfkdcbpgaaDoorR.RefIncl
open Go Go.RowKit Go.Proofs.YtmdkfhfkdcbpgaaDoorR Digest Mem Sha ShaWalk Bytes HashMem DigestMem DigestTop RefTop QuietTail Grown Chain TreeMath TreeMem TreeRoot Go.Proofs.YtmdkfhfkdcbpgaaDoorR.Append Book TreeRefRoot Held Node Sides WayP Climb Incl InclAny RefSides Levels Texts RefCut RefIncl0


set_option maxRecDepth 100000 in
set_option maxHeartbeats 4000000 in
theorem refincl_in (s : Int) (hs63 : s < 9223372036854775808) (size i : Nat) (hs : size ≤ 1099511627776) (hi : i < size) (leaf : Text) (hl : leaf.length = 32) (ds : List Text) (A : Option Addr) (n c : Nat) (hn40 : n < 1099511627776) (w : World) (hr : RdD w A n ds) :
  Calls Tryd.prog 92 #[.int .i64 s, .int .i64 (size : Int), .int .i64 (i : Int), .agg (cells8 leaf).toArray, .slice A n c] w (RPost w (inclOf s size i leaf [] ds)) := by
 obtain ⟨i0, ii, iz0, iz1, iz2⟩ := info_partsN infoT
 have hb2 : Hid (Below w.heap.size w ((w.alloc (.cells (cells8 leaf).toArray 23)).alloc (.cells Z32 23))) := (Below.heap_below w _).alloc (by simp) _
 have hz2 : Hid (((w.alloc (.cells (cells8 leaf).toArray 23)).alloc (.cells Z32 23)).heap.size = w.heap.size + 1 + 1) := by show _ = _; simp
 have hB2 : Hid (Blk ((w.alloc (.cells (cells8 leaf).toArray 23)).alloc (.cells Z32 23)) (w.heap.size + 1) 23 Z32) := by
  have := Blk.new (w.alloc (.cells (cells8 leaf).toArray 23)) 23 Z32
  rwa [show (w.alloc (.cells (cells8 leaf).toArray 23)).heap.size = w.heap.size + 1 by simp] at this
 have hL2 : Hid (Blk ((w.alloc (.cells (cells8 leaf).toArray 23)).alloc (.cells Z32 23)) w.heap.size 23 (cells8 leaf).toArray) := (Blk.new w 23 (cells8 leaf).toArray).alloc _
 have hin : insideB (size : Int) (i : Int) = true := by
  have h1 : (1 : Int) ≤ size := by omega
  have h2 : (size : Int) ≤ 1099511627776 := by omega
  have h3 : (0 : Int) ≤ i := by omega
  have h4 : (i : Int) < size := by omega
  simp [insideB, h1, h2, h3, h4]
 obtain ⟨X, hX⟩ : ∃ X, inclOf s size i leaf [] ds = X := ⟨_, rfl⟩
 rw [hX]
 unfold inclOf at hX
 rw [if_neg (by rw [hin]; decide), Int.toNat_natCast, Int.toNat_natCast] at hX
 obtain ⟨L, hLv⟩ : ∃ L, Hid (levels size = L) := ⟨_, Lib.hid rfl⟩
 have hL40 : L ≤ 40 := by rw [← hLv.out]; exact levels_40 hs
 have hLn : Hid ((lv size i L).length = (sides size i).length) := by show _ = _; rw [← hLv.out]; exact lv_count hi (levels_pow size)
 have hTl : Hid (∀ w', Calls Tryd.prog 127 #[.int .i64 (size : Int)] w' fun e w'' => e = .returned (.int .i64 (L : Int)) ∧ w' = w'') := fun w' => by
  have := levels_any size hs w'
  rw [hLv.out] at this
  exact this
 have hTn : Hid (∀ k : Nat, k ≤ 40 → ∀ w', Calls Tryd.prog 128 #[.int .i64 (size : Int), .int .i64 (i : Int), .int .i64 (k : Int)] w' fun e w'' => e = .returned (.tuple #[.int .i64 (nbAt i k : Nat), .int .i64 (min (nbAt i k + 2 ^ k) size : Nat), .bool (decide (nbAt i k < size))]) ∧ w' = w'') := fun k hk w' => neighbour_any size i k hs hi hk w'
 have hlle : Hid (∀ l, l ≤ L → (lv size i l).length ≤ 40) := fun l hl => by
  have h1 := lv_le (n := size) (j := i) hl
  have h2 := hLn.out
  have h3 := sides_len (L := L) hi (by rw [← hLv.out]; exact levels_pow size)
  omega
 have y1 : decide ((size : Int) < 1) = false := decide_eq_false (by omega)
 have y2 : decide (1099511627776 < (size : Int)) = false := decide_eq_false (by omega)
 have y3 : decide ((i : Int) < 0) = false := decide_eq_false (by omega)
 have y4 : decide (size ≤ i) = false := decide_eq_false (by omega)
 have y5 : ¬ (size ≤ i) := by omega
 have Fl := Lib.hid (fit (x := leaf) hl)
 replace hl := Lib.hid hl
 replace hr := Lib.hid hr
 replace hX := Lib.hid hX
 replace hs63 := Lib.hid hs63
 replace hs := Lib.hid hs
 replace hi := Lib.hid hi
 replace hn40 := Lib.hid hn40
 clear hin
 go_enter Tryd.func92, Tryd.ntmps92
 go_wp2_with fail
 clear y1 y2 y3 y4 y5
 go_loop [13, 14] (fun a b => ∃ l m : Nat, b = .int .i64 (l : Int) ∧ a = .int .i64 (m : Int) ∧ l ≤ L ∧ Hid ((lv size i l).length = m)) (fun _ b => L - (intOf b).toNat)
 case atStart => exact ⟨0, 0, rfl, rfl, Nat.zero_le _, rfl⟩
 case round =>
  obtain ⟨l, m, rfl, rfl, hlL, hm⟩ := hrel
  have hm40 : m ≤ 40 := by have := hlle.out l hlL; rw [hm.out] at this; exact this
  by_cases hlt : l < L
  ·have hTk := Lib.hid (hTn.out l (by omega))
   have hz1 : (l : Int) < (L : Int) := by omega
   have hmn : Hid ((lv size i (l + 1)).length = m + if nbAt i l < size then 1 else 0) := by
    show _ = _
    rw [lv_succ, List.length_append, hm.out, nb_lvl hi.out]
   by_cases hnb : nbAt i l < size
   ·rw [decide_eq_true hnb] at hTk
    rw [if_pos hnb] at hmn
    clear hnb
    generalize nbAt i l = nb at *
    generalize min (nb + 2 ^ l) size = mn at *
    go_wp2_with (first
     | (go_at_call 127; refine (hTl.out _).mono ?_; rintro e w' ⟨rfl, rfl⟩)
     | (go_at_call 128; refine (hTk.out _).mono ?_; rintro e w' ⟨rfl, rfl⟩))
    go_round
    case rel => exact ⟨l + 1, m + 1, by go_num, by go_num, by omega, hmn.out⟩
    case measure => simp [intOf]; omega
   ·rw [decide_eq_false hnb] at hTk
    rw [if_neg hnb] at hmn
    clear hnb
    generalize nbAt i l = nb at *
    generalize min (nb + 2 ^ l) size = mn at *
    go_wp2_with (first
     | (go_at_call 127; refine (hTl.out _).mono ?_; rintro e w' ⟨rfl, rfl⟩)
     | (go_at_call 128; refine (hTk.out _).mono ?_; rintro e w' ⟨rfl, rfl⟩))
    go_round
    case rel => exact ⟨l + 1, m, by go_num, rfl, by omega, hmn.out⟩
    case measure => simp [intOf]; omega
  ·obtain rfl : l = L := by omega
   have hz1 : ¬ ((l : Int) < (l : Int)) := by omega
   have hms : Hid ((sides size i).length = m) := hLn.out.symm.trans hm.out
   have hrn := hr.out.1
   by_cases hmn : m = n
   ·obtain rfl : n = m := hmn.symm
    have hX' := hX.out
    rw [if_neg (by rw [hms.out, hrn]; exact fun h => h rfl)] at hX'
    replace hX' := Lib.hid hX'
    clear hX hmn hlt hlle hTn hLn
    have y1 : ((n : Int) == (n : Int)) = true := beq_self_eq_true _
    have ws : IntKind.i64.wrap ((size : Int) - 1) = ((size - 1 : Nat) : Int) := by have := hi.out; have := hs.out; rw [IntWalk.i64_in _ (by omega)]; omega
    have ws2 : wrap64 ((size : Int) - 1) = ((size - 1 : Nat) : Int) := by have := hi.out; have := hs.out; rw [IntWalk.wrap64_in _ (by omega)]; omega
    have hN3 : Hid (Blk (((w.alloc (.cells (cells8 leaf).toArray 23)).alloc (.cells Z32 23)).alloc (.cells Z32 23)) (w.heap.size + 1 + 1) 23 Z32) := by
     have := Blk.new ((w.alloc (.cells (cells8 leaf).toArray 23)).alloc (.cells Z32 23)) 23 Z32
     rwa [hz2.out] at this
    have ws4 : wrap64 ((size - 1 : Nat) : Int) = ((size - 1 : Nat) : Int) := by have := hs.out; exact IntWalk.wrap64_in _ (by omega)
    have ws3 : ((size : Int) - 1) = ((size - 1 : Nat) : Int) := by have := hi.out; omega
    go_wp2_with (first
     | (go_at_call 127; refine (hTl.out _).mono ?_; rintro e w' ⟨rfl, rfl⟩)
     | ((with_reducible change wpList _ _ _ (⟨some 65, _, _, _, _, _⟩ :: _) _ _); refine wpList_load_row (o := ⟨some 65, _, _, _, _, _⟩) rfl 23 (.tmp 8) rfl (w.heap.size) rfl 23 ((cells8 leaf).toArray) (0, 0) _ hL2.out Tryd.underlying23 rfl Fl.out.size ?_)
     | ((with_reducible change wpList _ _ _ ({ dst := none, op := Op.store 23 (.tmp 20) _, type := _, pos := _, after := _, guard := _ } :: _) _ _); refine wpList_store_whole (o := ⟨none, _, _, _, _, _⟩) rfl 23 (.tmp 20) (.tmp 65) rfl (w.heap.size + 1 + 1) ((cells8 leaf).toArray) rfl rfl 23 (Z32) hN3.out Fl.out.size Fl.out.zero Fl.out.one ?_; intro wo hLo hko; obtain ⟨hbo, hbo2, hbr⟩ := fresh_at hb2.out hz2.out hko; replace hbo := Lib.hid hbo; replace hbo2 := Lib.hid hbo2; replace hbr := Lib.hid hbr; replace hLo := Lib.hid hLo; clear hko))
    have hBo : Hid (Blk wo (w.heap.size + 1) 23 Z32) := (hbo2.out.block _ hB2.out.lt).trans hB2.out
    have hR0 : Hid (RAt wo wo (w.heap.size + 1 + 1) (climbN s (leaf, []) ((sides size i).zip ds) 0) (.slice none 0 0) []) := by
     show RAt _ _ _ _ _ _
     rw [climbN_zero]
     exact ⟨hLo.out, World.ownsRow_nil _ _ _ _, (fun i q h => by simp at h), Kept.refl _ _⟩
    have hzl : Hid (((sides size i).zip ds).length = n) := by show _ = _; rw [List.length_zip, hms.out, hrn]; omega
    have hlen : Hid (∀ j, j ≤ n → (climbN s (leaf, []) ((sides size i).zip ds) j).1.length = 32 ∧ (climbN s (leaf, []) ((sides size i).zip ds) j).2.length = j) := fun j hj => by
     have := climbN_len (s := s) (st := (leaf, [])) (l := (sides size i).zip ds) hl.out j (by rw [hzl.out]; exact hj)
     exact ⟨this.1, by rw [this.2]; simp⟩
    have hn41 : Hid (n ≤ 40) := hm40
    replace hrn := Lib.hid hrn
    clear y1 ws ws2 ws3 ws4 hB2 hL2 hN3 hLo hm hm40 hb2 hz2 hTl hz1 hl Fl hlL hL40
    go_loopw [18, 19, 21, 22] (fun a b tv jv wr => ∃ (j fn sn : Nat) (v : Value) (xs : List Value), jv = .int .i64 (j : Int) ∧ j ≤ n ∧ a = .int .i64 (fn : Int) ∧ b = .int .i64 (sn : Int) ∧ tv = v ∧ Hid (At size i j fn sn) ∧ Hid (RAt wo wr (w.heap.size + 1 + 1) (climbN s (leaf, []) ((sides size i).zip ds) j) v xs)) (fun _ _ _ jv _ => n - (intOf jv).toNat)
    case atStart => exact ⟨0, i, size - 1, _, [], rfl, Nat.zero_le _, rfl, rfl, rfl, At.zero size i, hR0.out⟩
    case round =>
     clear hR0
     obtain ⟨j, fn, sn, v, xs, rfl, hj, rfl, rfl, htv, hAt, hR⟩ := hrel
     rw [htv]
     clear htv
     have hlj := hlen.out j hj
     obtain ⟨st, hst⟩ : ∃ st, climbN s (leaf, []) ((sides size i).zip ds) j = st := ⟨_, rfl⟩
     rw [hst] at hlj hR
     have hst1 := Lib.hid hlj.1
     have hk : Hid (st.2.length = j) := hlj.2
     have Fs := Lib.hid (fit (x := st.1) hst1.out)
     have hown := hR.out.own
     rw [hk.out] at hown
     obtain ⟨Av, cv, rfl, -⟩ := Own.reads hown
     have hOr := Lib.hid hown
     replace hst := Lib.hid hst
     have hfs := hAt.out.le
     have hfn40 : (fn : Int) < 1099511627776 := by have := hs.out; have := hi.out; omega
     have hsn40 : (sn : Int) < 1099511627776 := by have := hs.out; have := hi.out; omega
     have hfn0 : (0 : Int) ≤ (fn : Int) := by omega
     have hsn0 : (0 : Int) ≤ (sn : Int) := by omega
     have hj0 : (0 : Int) ≤ (j : Int) := by omega
     have hj40 : (j : Int) ≤ 40 := by have := hn41.out; omega
     have hln : Hid (some (w.heap.size + 1 + 1) ≠ (Value.slice Av j cv).ownBlock) := fun e => by have h1 := (hOr.out.lt _ e.symm).1; have h2 := hbr.out; omega
     clear hown hlj hfs
     by_cases hlt : j < n
     ·obtain ⟨d, hd⟩ : ∃ d, Hid (ds[j]? = some d) := ⟨_, Lib.hid (List.getElem?_eq_getElem (by rw [hrn.out]; exact hlt))⟩
      have hdl := Lib.hid (hr.out.2.1.at_ hd.out)
      have Fd := Lib.hid (fit (x := d) hdl.out)
      obtain ⟨b, o, rfl, hbb, hdc0⟩ := hr.out.at_ hd.out
      have hdc : Hid (∀ k v, (cells8 d)[k]? = some v → wr.cell? ⟨b, o + j * 32 + k, none⟩ = some v) := fun k v hv => (((Kept.of_below hbo.out).trans hR.out.kept (fun i _ h => h)).cell (p := ⟨b, o + j * 32 + k, none⟩) hbb (fun h => by have h : b = w.heap.size + 1 + 1 := h; have h2 : b < w.heap.size := hbb; omega)).trans (hdc0 k v hv)
      have hjl : Hid (j < (sides size i).length) := by show _ < _; rw [hms.out]; exact hlt
      have hjn : Hid (j + 1 ≤ n) := hlt
      have hz2 : (j : Int) < (n : Int) := by omega
      have hl1 : Hid (j + 1 ≤ maxLen) := by have := hn41.out; show _ ≤ _; unfold maxLen; omega
      have hl2 : Hid ((j + 1) * 24 ≤ 140737488355328) := by have := hn41.out; show _ ≤ _; omega
      have hdn : Hid (some wr.heap.size ≠ (Value.slice Av j cv).ownBlock) := fun e => by have := (hOr.out.lt _ e.symm).2; omega
      clear hlt hj hbb hdc0
      by_cases ho : fn % 2 = 1
      ·have hm1 : (fn : Int) % 2 = 1 := by omega
       have hm2 : (fn : Int).tmod 2 = 1 := by rw [Int.tmod_eq_emod_of_nonneg (by omega)]; exact hm1
       have hside := At.left hi.out fn sn hAt.out (.inl ho) hjl.out
       have hdir : Hid (Dir fn sn) := .inl ho
       have hst' : Hid (climbN s (leaf, []) ((sides size i).zip ds) (j + 1) = (ndOf s d st.1, st.2 ++ [kb 1 :: (d ++ st.1)])) := by
        show _ = _
        have hzj : ((sides size i).zip ds)[j]? = some (false, d) := List.getElem?_zip_eq_some.2 ⟨hside, hd.out⟩
        rw [climbN_succ hzj, hst.out, climb1]
        rfl
       obtain ⟨z, hz⟩ : ∃ z, Hid (ndOf s d st.1 = z) := ⟨_, Lib.hid rfl⟩
       obtain ⟨q, hq⟩ : ∃ q : Text, Hid (kb 1 :: (d ++ st.1) = q) := ⟨_, Lib.hid rfl⟩
       have hql : Hid (q.length = 65) := by show _ = _; rw [← hq.out]; simp [hst1.out, hdl.out]
       rw [hz.out, hq.out] at hst'
       have F := Lib.hid (fit (x := z) (by rw [← hz.out]; exact ndOf_len s _ _))
       have hN : Hid (∀ w', Calls Tryd.prog 139 #[.int .i64 s, .agg (cells8 d).toArray, .agg (cells8 st.1).toArray] w' fun e w'' => e = .returned (.agg (cells8 z).toArray) ∧ Below w'.heap.size w' w'') := fun w' => by
        have := refnode_any d st.1 hdl.out hst1.out s w' hs63.out
        rw [show cutTo (sum (kb 1 :: (d ++ st.1))) (clampN s) = z from hz.out] at this
        exact this
       have hqq := Lib.hid (F.out.same st.1 hst1.out)
       clear hside ho
       go_wp2_with (first
        | ((with_reducible change wpList _ _ _ (⟨some 75, _, _, _, _, _⟩ :: _) _ _); refine wpList_load_part (o := ⟨some 75, _, _, _, _, _⟩) rfl 23 (.tmp 74) rfl (b) (o + j * 32) rfl (cells8 d) _ hdc.out Tryd.underlying23 rfl Fd.out.part ?_)
        | ((with_reducible change wpList _ _ _ ({ dst := none, op := Op.store 23 (.tmp 23) _, type := _, pos := _, after := _, guard := _ } :: _) _ _); refine wpList_store_whole (o := ⟨none, _, _, _, _, _⟩) rfl 23 (.tmp 23) (.tmp 75) rfl (wr.heap.size) ((cells8 d).toArray) rfl rfl 23 (Z32) (Blk.new wr _ _) Fd.out.size Fd.out.zero Fd.out.one ?_; intro w1 hD1 hk1; have hb1 : Hid (Below wr.heap.size wr w1) := kept_fresh hk1; have hs1 : Hid (wo.heap.size ≤ w1.heap.size) := Nat.le_trans hR.out.kept.size hb1.out.size; have hO1 : Hid (w1.ownsRow wo.heap.size 27 1 (.slice Av j cv) j xs) := own_below hOr.out hb1.out; have hL1 : Hid (Blk w1 (w.heap.size + 1 + 1) 23 (cells8 st.1).toArray) := (hb1.out.block _ hR.out.leaf.lt).trans hR.out.leaf; replace hD1 := Lib.hid hD1; clear hk1))
       have hT : Hid (Calls Tryd.prog 93 #[.int .i64 1, .slice (some ⟨w1.heap.size, 0, none⟩) 2 2] (tW w1 wr.heap.size (w.heap.size + 1 + 1)) fun e w' => ∃ v, e = .returned v ∧ w'.ownsRow (tW w1 wr.heap.size (w.heap.size + 1 + 1)).heap.size 5 1 v 65 (cells8 q) ∧ Below (tW w1 wr.heap.size (w.heap.size + 1 + 1)).heap.size (tW w1 wr.heap.size (w.heap.size + 1 + 1)) w') := by
        have hpc := tW_pieces (w := w1) hD1.out hL1.out hdl.out hst1.out
        have := refText_any [d, st.1] 2 rfl (some ⟨w1.heap.size, 0, none⟩) 2 1 (tW w1 wr.heap.size (w.heap.size + 1 + 1)) (by simp [hst1.out, hdl.out]) (by decide) hpc
        rw [show kb 1 :: [d, st.1].flatten = q by rw [← hq.out]; simp, show 1 + [d, st.1].flatten.length = 65 by simp [hst1.out, hdl.out]] at this
        exact this
       refine held_start (fun _ => True) 8 rfl (by kernel_rfl) ?_
       refine Held.tk0 (i := 0) (v := .slice Av j cv) rfl trivial (fun w' hw' => run_mv (.tmp 21) rfl w') ?_
       (intro K k; go_simp; apply k; clear k K)
       refine Held.tk0 (i := 1) (v := .slice (some ⟨wr.heap.size, 0, none⟩) 32 32) rfl trivial (fun w' hw' => by go_simp) ?_
       (intro K k; go_simp; apply k; clear k K)
       refine Held.tk0 (i := 2) (v := .slice (some ⟨(w.heap.size + 1 + 1), 0, none⟩) 32 32) rfl trivial (fun w' hw' => by go_simp) ?_
       (intro K k; go_simp; apply k; clear k K)
       refine held_only (i := 3) rfl (by kernel_rfl) (by rfl) (fun K hK => ?_)
       go_simp
       refine hK _ _ trivial ?_
       clear hK K
       change wpAnyH _ _ _ _ _ _ _ _ (tW w1 wr.heap.size (w.heap.size + 1 + 1))
       refine held_only (i := 4) rfl (by kernel_rfl) (by rfl) (fun K hK => ?_)
       refine wp_fn (R := fun v w'' => Below (tW w1 wr.heap.size (w.heap.size + 1 + 1)).heap.size (tW w1 wr.heap.size (w.heap.size + 1 + 1)) w'' ∧ w''.ownsRow (tW w1 wr.heap.size (w.heap.size + 1 + 1)).heap.size 5 1 v 65 (cells8 q)) (args := #[.int .i64 1, .slice (some ⟨w1.heap.size, 0, none⟩) 2 2]) _ _ rfl rfl Tryd.func93 (by kernel_rfl) (by kernel_rfl) (hT.out.mono fun e w'' ⟨v, he, ho, hb⟩ => ⟨_, he, hb, ho⟩) ?_
       rintro v3 w3 ⟨hb3, ho3⟩
       obtain ⟨gt, ct, rfl, hgt1, hgt2⟩ := ho3.form (by decide)
       go_simp
       refine hK _ _ trivial ?_
       clear hK K
       have hgt : Hid (w1.heap.size ≤ gt ∧ gt < w3.heap.size) := by have := tW_size w1 wr.heap.size (w.heap.size + 1 + 1); exact ⟨by omega, hgt2⟩
       have hb13 : Hid (Below w1.heap.size w1 w3) := (tW_below w1 _ _).trans (hb3.mono (by rw [tW_size]; omega))
       obtain ⟨At, ct', et, hct, -, -, hrt, -⟩ := Own.reads ho3
       injection et with et1 et2 et3
       subst et1 et3
       have hrq : Hid (Reads w3 1 (some ⟨gt, 0, none⟩) 65 (cells8 q)) := hrt
       replace hct := Lib.hid hct
       have hOw : Hid ((w3.alloc (.cells #[.slice (some ⟨gt, 0, none⟩) 65 ct] 27)).ownsRow wo.heap.size 27 1 (.slice Av j cv) j xs) := (own_below (own_below hO1.out hb13.out) (Below.heap_below w3 _))
       have hNw : Hid (Reads (w3.alloc (.cells #[.slice (some ⟨gt, 0, none⟩) 65 ct] 27)) 1 (some ⟨w3.heap.size, 0, none⟩) 1 [.slice (some ⟨gt, 0, none⟩) 65 ct]) := Blk.reads (Blk.new w3 27 #[.slice (some ⟨gt, 0, none⟩) 65 ct]) 0 _ rfl (fun j u hu => by rw [Nat.zero_add]; simpa using hu)
       have hs3 : Hid (wo.heap.size ≤ (w3.alloc (.cells #[.slice (some ⟨gt, 0, none⟩) 65 ct] 27)).heap.size) := by have := hb13.out.size; have := hs1.out; show _ ≤ _; simp; omega
       clear hb3 ho3 hgt1 hgt2 hrt hT
       refine held_only (i := 5) rfl (by kernel_rfl) (by rfl) (fun K hK => ?_)
       go_simp
       refine hK _ _ trivial ?_
       clear hK K
       refine held_only (i := 6) rfl (by kernel_rfl) (by rfl) (fun K hK => ?_)
       refine wp_append_src _ (.tmp 84) (.tmp 89) 24 rfl wo.heap.size 27 i0 (.slice none 0 0) 1 24 Tryd.underlying24 ii iz0 iz1 iz2 rfl (by decide) (.slice Av j cv) j xs rfl hOw.out (some ⟨w3.heap.size, 0, none⟩) 1 1 [.slice (some ⟨gt, 0, none⟩) 65 ct] rfl hNw.out (fun e => by cases e) (one_one rfl) hl1.out hl2.out hs3.out ?_
       intro v4 w4 hG
       obtain ⟨A4, c4, rfl, -⟩ := Own.reads hG.own
       replace hG := Lib.hid hG
       go_simp
       refine hK _ _ trivial ?_
       clear hK K
       refine Held.tk0 (i := 7) (v := .slice A4 (j + 1) c4) rfl trivial (fun w' hw' => by first | go_simp | rfl) ?_
       (intro K k; go_simp; apply k; clear k K)
       refine held_end (by kernel_rfl) ?_
       have hk14 : Hid (Kept (fun q => some q = (Value.slice Av j cv).ownBlock) w1 w4) := ⟨hG.out.grow.os.trans hb13.out.os, hG.out.grow.tape.trans hb13.out.tape, hG.out.grow.output.trans hb13.out.output, (by have h1 := hG.out.grow.size; have h2 := hb13.out.size; simp at h1; omega), fun p hp hne => (hG.out.grow.block p (by have := hb13.out.size; simp; omega) hne).trans ((Below.heap_alloc _ _ _ (by have := hb13.out.size; omega)).trans (hb13.out.block p hp))⟩
       have hD4 : Hid (Blk w4 wr.heap.size 23 (cells8 d).toArray) := hD1.out.kept hk14.out (fun e => hdn.out e)
       have hL4 : Hid (Blk w4 (w.heap.size + 1 + 1) 23 (cells8 st.1).toArray) := hL1.out.kept hk14.out (fun e => hln.out e)
       clear hNw hs3 hOw
       go_wp2_with (first
        | ((with_reducible change wpList _ _ _ (⟨some 92, _, _, _, _, _⟩ :: _) _ _); refine wpList_load_row (o := ⟨some 92, _, _, _, _, _⟩) rfl 23 (.tmp 23) rfl (wr.heap.size) rfl 23 ((cells8 d).toArray) (0, 0) _ hD4.out Tryd.underlying23 rfl Fd.out.size ?_)
        | ((with_reducible change wpList _ _ _ (⟨some 93, _, _, _, _, _⟩ :: _) _ _); refine wpList_load_row (o := ⟨some 93, _, _, _, _, _⟩) rfl 23 (.tmp 20) rfl ((w.heap.size + 1 + 1)) rfl 23 ((cells8 st.1).toArray) (0, 0) _ hL4.out Tryd.underlying23 rfl Fs.out.size ?_)
        | (go_at_call 139; refine (hN.out _).mono ?_; rintro e w5 ⟨rfl, hb5⟩; have hL5 : Hid (Blk w5 (w.heap.size + 1 + 1) 23 (cells8 st.1).toArray) := (hb5.block _ hL4.out.lt).trans hL4.out; replace hb5 := Lib.hid hb5)
        | ((with_reducible change wpList _ _ _ ({ dst := none, op := Op.store 23 (.tmp 20) _, type := _, pos := _, after := _, guard := _ } :: _) _ _); refine wpList_store_whole0 (o := ⟨none, _, _, _, _, _⟩) rfl rfl 23 (.tmp 20) (.tmp 94) rfl ((w.heap.size + 1 + 1)) ((cells8 z).toArray) rfl rfl 23 ((cells8 st.1).toArray) hL5.out F.out.size hqq.out F.out.one ?_; intro w6 hB6 hk6; have hR6 : Hid (RAt wo w6 (w.heap.size + 1 + 1) (climbN s (leaf, []) ((sides size i).zip ds) (j + 1)) (.slice A4 (j + 1) c4) (xs ++ [.slice (some ⟨gt, 0, none⟩) 65 ct])) := (by show RAt _ _ _ _ _ _; rw [hst'.out]; have := (RAt.step (st' := (z, st.2 ++ [q])) (q := q) (gt := gt) (ct := ct) hR.out hbr.out hk.out hb1.out hb13.out (by rw [hql.out]; exact hrq.out) hgt.out (by rw [hql.out]; exact hct.out) (by rw [hql.out]; exact hG.out) hb5.out hB6 hk6 rfl); rw [hql.out] at this; exact this); clear hB6 hk6 hb5 hL5 hL4 hD4 hG hrq hct hgt hb13 hk14))
       clear hm1 hm2
       go_loopw [18, 19] (fun a b wi => ∃ f2 s2 : Nat, a = .int .i64 (f2 : Int) ∧ b = .int .i64 (s2 : Int) ∧ f2 ≤ fn ∧ s2 ≤ sn ∧ Hid (At size i j f2 s2) ∧ Hid (Dir f2 s2) ∧ wi = w6) (fun a _ _ => (intOf a).toNat)
       case atStart => exact ⟨fn, sn, rfl, rfl, Nat.le_refl _, Nat.le_refl _, hAt.out, hdir.out, rfl⟩
       case round =>
        obtain ⟨f2, s2, rfl, rfl, hf2, hs2, hA2, hd2, rfl⟩ := hrel
        have hf40 : (f2 : Int) < 1099511627776 := by have := hfn40; omega
        have hs40 : (s2 : Int) < 1099511627776 := by have := hsn40; omega
        have hf0 : (0 : Int) ≤ (f2 : Int) := by omega
        have hs0 : (0 : Int) ≤ (s2 : Int) := by omega
        by_cases hodd : f2 % 2 = 1
        ·have hm1 : (f2 : Int) % 2 = 1 := by omega
         have hm2 : (f2 : Int).tmod 2 = 1 := by rw [Int.tmod_eq_emod_of_nonneg (by omega)]; exact hm1
         have hf1 : (f2 : Int).tdiv 2 = ((f2 / 2 : Nat) : Int) := by rw [Int.tdiv_eq_ediv_of_nonneg (by omega)]; omega
         have hs1 : (s2 : Int).tdiv 2 = ((s2 / 2 : Nat) : Int) := by rw [Int.tdiv_eq_ediv_of_nonneg (by omega)]; omega
         obtain ⟨-, hAt2⟩ := hA2.out.odd hi.out hodd
         replace hAt2 := Lib.hid hAt2
         clear hodd hd2
         go_wp2_with fail
         go_roundw
         case rel => exact ⟨j + 1, f2 / 2, s2 / 2, _, _, by go_num, hjn.out, (by first | rfl | (congr 1; omega)), (by first | rfl | (congr 1; omega)), rfl, hAt2.out, hR6.out⟩
         case measure => (have := hjn.out; simp [intOf]; omega)
        ·have hm1 : (f2 : Int) % 2 = 0 := by omega
         have hm2 : (f2 : Int).tmod 2 = 0 := by rw [Int.tmod_eq_emod_of_nonneg (by omega)]; exact hm1
         have heq : f2 = s2 := by have : f2 % 2 = 1 ∨ f2 = s2 := hd2.out; omega
         subst heq
         have hf1 : (f2 : Int).tdiv 2 = ((f2 / 2 : Nat) : Int) := by rw [Int.tdiv_eq_ediv_of_nonneg (by omega)]; omega
         have hne0 : ¬ f2 = 0 := fun e => by
          have h1 := hA2.out
          rw [e] at h1
          have := h1.done hi.out rfl
          have := hjl.out
          omega
         have hm3 : ((f2 : Int) == 0) = false := beq_eq_false_iff_ne.2 (by omega)
         have hm4 : ((f2 : Int) != 0) = true := by rw [bne, hm3]; rfl
         have hm5 : ¬ ((f2 : Int) = 0) := by omega
         have hA3 : Hid (At size i j (f2 / 2) (f2 / 2)) := hA2.out.skip hi.out hodd rfl
         have hlt3 : Hid (f2 / 2 < f2) := by show _ < _; omega
         clear hodd hd2 hne0
         go_wp2_with fail
         go_roundw
         case rel => exact ⟨f2 / 2, f2 / 2, (by first | rfl | (congr 1; omega)), (by first | rfl | (congr 1; omega)), by have := hlt3.out; omega, by have := hlt3.out; omega, hA3.out, .inr rfl, by first | rfl | trivial⟩
         case measure => (have := hlt3.out; simp [intOf]; omega)
      ·by_cases he : fn = sn
       ·subst he
        have hm1 : (fn : Int) % 2 = 0 := by omega
        have hm2 : (fn : Int).tmod 2 = 0 := by rw [Int.tmod_eq_emod_of_nonneg (by omega)]; exact hm1
        have hm3 : ((fn : Int) == (fn : Int)) = true := beq_self_eq_true _
        have hside := At.left hi.out fn fn hAt.out (.inr rfl) hjl.out
        have hdir : Hid (Dir fn fn) := .inr rfl
        have hst' : Hid (climbN s (leaf, []) ((sides size i).zip ds) (j + 1) = (ndOf s d st.1, st.2 ++ [kb 1 :: (d ++ st.1)])) := by
         show _ = _
         have hzj : ((sides size i).zip ds)[j]? = some (false, d) := List.getElem?_zip_eq_some.2 ⟨hside, hd.out⟩
         rw [climbN_succ hzj, hst.out, climb1]
         rfl
        obtain ⟨z, hz⟩ : ∃ z, Hid (ndOf s d st.1 = z) := ⟨_, Lib.hid rfl⟩
        obtain ⟨q, hq⟩ : ∃ q : Text, Hid (kb 1 :: (d ++ st.1) = q) := ⟨_, Lib.hid rfl⟩
        have hql : Hid (q.length = 65) := by show _ = _; rw [← hq.out]; simp [hst1.out, hdl.out]
        rw [hz.out, hq.out] at hst'
        have F := Lib.hid (fit (x := z) (by rw [← hz.out]; exact ndOf_len s _ _))
        have hN : Hid (∀ w', Calls Tryd.prog 139 #[.int .i64 s, .agg (cells8 d).toArray, .agg (cells8 st.1).toArray] w' fun e w'' => e = .returned (.agg (cells8 z).toArray) ∧ Below w'.heap.size w' w'') := fun w' => by
         have := refnode_any d st.1 hdl.out hst1.out s w' hs63.out
         rw [show cutTo (sum (kb 1 :: (d ++ st.1))) (clampN s) = z from hz.out] at this
         exact this
        have hqq := Lib.hid (F.out.same st.1 hst1.out)
        clear hside ho
        go_wp2_with (first
         | ((with_reducible change wpList _ _ _ (⟨some 75, _, _, _, _, _⟩ :: _) _ _); refine wpList_load_part (o := ⟨some 75, _, _, _, _, _⟩) rfl 23 (.tmp 74) rfl (b) (o + j * 32) rfl (cells8 d) _ hdc.out Tryd.underlying23 rfl Fd.out.part ?_)
         | ((with_reducible change wpList _ _ _ ({ dst := none, op := Op.store 23 (.tmp 23) _, type := _, pos := _, after := _, guard := _ } :: _) _ _); refine wpList_store_whole (o := ⟨none, _, _, _, _, _⟩) rfl 23 (.tmp 23) (.tmp 75) rfl (wr.heap.size) ((cells8 d).toArray) rfl rfl 23 (Z32) (Blk.new wr _ _) Fd.out.size Fd.out.zero Fd.out.one ?_; intro w1 hD1 hk1; have hb1 : Hid (Below wr.heap.size wr w1) := kept_fresh hk1; have hs1 : Hid (wo.heap.size ≤ w1.heap.size) := Nat.le_trans hR.out.kept.size hb1.out.size; have hO1 : Hid (w1.ownsRow wo.heap.size 27 1 (.slice Av j cv) j xs) := own_below hOr.out hb1.out; have hL1 : Hid (Blk w1 (w.heap.size + 1 + 1) 23 (cells8 st.1).toArray) := (hb1.out.block _ hR.out.leaf.lt).trans hR.out.leaf; replace hD1 := Lib.hid hD1; clear hk1))
        have hT : Hid (Calls Tryd.prog 93 #[.int .i64 1, .slice (some ⟨w1.heap.size, 0, none⟩) 2 2] (tW w1 wr.heap.size (w.heap.size + 1 + 1)) fun e w' => ∃ v, e = .returned v ∧ w'.ownsRow (tW w1 wr.heap.size (w.heap.size + 1 + 1)).heap.size 5 1 v 65 (cells8 q) ∧ Below (tW w1 wr.heap.size (w.heap.size + 1 + 1)).heap.size (tW w1 wr.heap.size (w.heap.size + 1 + 1)) w') := by
         have hpc := tW_pieces (w := w1) hD1.out hL1.out hdl.out hst1.out
         have := refText_any [d, st.1] 2 rfl (some ⟨w1.heap.size, 0, none⟩) 2 1 (tW w1 wr.heap.size (w.heap.size + 1 + 1)) (by simp [hst1.out, hdl.out]) (by decide) hpc
         rw [show kb 1 :: [d, st.1].flatten = q by rw [← hq.out]; simp, show 1 + [d, st.1].flatten.length = 65 by simp [hst1.out, hdl.out]] at this
         exact this
        refine held_start (fun _ => True) 8 rfl (by kernel_rfl) ?_
        refine Held.tk0 (i := 0) (v := .slice Av j cv) rfl trivial (fun w' hw' => run_mv (.tmp 21) rfl w') ?_
        (intro K k; go_simp; apply k; clear k K)
        refine Held.tk0 (i := 1) (v := .slice (some ⟨wr.heap.size, 0, none⟩) 32 32) rfl trivial (fun w' hw' => by go_simp) ?_
        (intro K k; go_simp; apply k; clear k K)
        refine Held.tk0 (i := 2) (v := .slice (some ⟨(w.heap.size + 1 + 1), 0, none⟩) 32 32) rfl trivial (fun w' hw' => by go_simp) ?_
        (intro K k; go_simp; apply k; clear k K)
        refine held_only (i := 3) rfl (by kernel_rfl) (by rfl) (fun K hK => ?_)
        go_simp
        refine hK _ _ trivial ?_
        clear hK K
        change wpAnyH _ _ _ _ _ _ _ _ (tW w1 wr.heap.size (w.heap.size + 1 + 1))
        refine held_only (i := 4) rfl (by kernel_rfl) (by rfl) (fun K hK => ?_)
        refine wp_fn (R := fun v w'' => Below (tW w1 wr.heap.size (w.heap.size + 1 + 1)).heap.size (tW w1 wr.heap.size (w.heap.size + 1 + 1)) w'' ∧ w''.ownsRow (tW w1 wr.heap.size (w.heap.size + 1 + 1)).heap.size 5 1 v 65 (cells8 q)) (args := #[.int .i64 1, .slice (some ⟨w1.heap.size, 0, none⟩) 2 2]) _ _ rfl rfl Tryd.func93 (by kernel_rfl) (by kernel_rfl) (hT.out.mono fun e w'' ⟨v, he, ho, hb⟩ => ⟨_, he, hb, ho⟩) ?_
        rintro v3 w3 ⟨hb3, ho3⟩
        obtain ⟨gt, ct, rfl, hgt1, hgt2⟩ := ho3.form (by decide)
        go_simp
        refine hK _ _ trivial ?_
        clear hK K
        have hgt : Hid (w1.heap.size ≤ gt ∧ gt < w3.heap.size) := by have := tW_size w1 wr.heap.size (w.heap.size + 1 + 1); exact ⟨by omega, hgt2⟩
        have hb13 : Hid (Below w1.heap.size w1 w3) := (tW_below w1 _ _).trans (hb3.mono (by rw [tW_size]; omega))
        obtain ⟨At, ct', et, hct, -, -, hrt, -⟩ := Own.reads ho3
        injection et with et1 et2 et3
        subst et1 et3
        have hrq : Hid (Reads w3 1 (some ⟨gt, 0, none⟩) 65 (cells8 q)) := hrt
        replace hct := Lib.hid hct
        have hOw : Hid ((w3.alloc (.cells #[.slice (some ⟨gt, 0, none⟩) 65 ct] 27)).ownsRow wo.heap.size 27 1 (.slice Av j cv) j xs) := (own_below (own_below hO1.out hb13.out) (Below.heap_below w3 _))
        have hNw : Hid (Reads (w3.alloc (.cells #[.slice (some ⟨gt, 0, none⟩) 65 ct] 27)) 1 (some ⟨w3.heap.size, 0, none⟩) 1 [.slice (some ⟨gt, 0, none⟩) 65 ct]) := Blk.reads (Blk.new w3 27 #[.slice (some ⟨gt, 0, none⟩) 65 ct]) 0 _ rfl (fun j u hu => by rw [Nat.zero_add]; simpa using hu)
        have hs3 : Hid (wo.heap.size ≤ (w3.alloc (.cells #[.slice (some ⟨gt, 0, none⟩) 65 ct] 27)).heap.size) := by have := hb13.out.size; have := hs1.out; show _ ≤ _; simp; omega
        clear hb3 ho3 hgt1 hgt2 hrt hT
        refine held_only (i := 5) rfl (by kernel_rfl) (by rfl) (fun K hK => ?_)
        go_simp
        refine hK _ _ trivial ?_
        clear hK K
        refine held_only (i := 6) rfl (by kernel_rfl) (by rfl) (fun K hK => ?_)
        refine wp_append_src _ (.tmp 84) (.tmp 89) 24 rfl wo.heap.size 27 i0 (.slice none 0 0) 1 24 Tryd.underlying24 ii iz0 iz1 iz2 rfl (by decide) (.slice Av j cv) j xs rfl hOw.out (some ⟨w3.heap.size, 0, none⟩) 1 1 [.slice (some ⟨gt, 0, none⟩) 65 ct] rfl hNw.out (fun e => by cases e) (one_one rfl) hl1.out hl2.out hs3.out ?_
        intro v4 w4 hG
        obtain ⟨A4, c4, rfl, -⟩ := Own.reads hG.own
        replace hG := Lib.hid hG
        go_simp
        refine hK _ _ trivial ?_
        clear hK K
        refine Held.tk0 (i := 7) (v := .slice A4 (j + 1) c4) rfl trivial (fun w' hw' => by first | go_simp | rfl) ?_
        (intro K k; go_simp; apply k; clear k K)
        refine held_end (by kernel_rfl) ?_
        have hk14 : Hid (Kept (fun q => some q = (Value.slice Av j cv).ownBlock) w1 w4) := ⟨hG.out.grow.os.trans hb13.out.os, hG.out.grow.tape.trans hb13.out.tape, hG.out.grow.output.trans hb13.out.output, (by have h1 := hG.out.grow.size; have h2 := hb13.out.size; simp at h1; omega), fun p hp hne => (hG.out.grow.block p (by have := hb13.out.size; simp; omega) hne).trans ((Below.heap_alloc _ _ _ (by have := hb13.out.size; omega)).trans (hb13.out.block p hp))⟩
        have hD4 : Hid (Blk w4 wr.heap.size 23 (cells8 d).toArray) := hD1.out.kept hk14.out (fun e => hdn.out e)
        have hL4 : Hid (Blk w4 (w.heap.size + 1 + 1) 23 (cells8 st.1).toArray) := hL1.out.kept hk14.out (fun e => hln.out e)
        clear hNw hs3 hOw
        go_wp2_with (first
         | ((with_reducible change wpList _ _ _ (⟨some 92, _, _, _, _, _⟩ :: _) _ _); refine wpList_load_row (o := ⟨some 92, _, _, _, _, _⟩) rfl 23 (.tmp 23) rfl (wr.heap.size) rfl 23 ((cells8 d).toArray) (0, 0) _ hD4.out Tryd.underlying23 rfl Fd.out.size ?_)
         | ((with_reducible change wpList _ _ _ (⟨some 93, _, _, _, _, _⟩ :: _) _ _); refine wpList_load_row (o := ⟨some 93, _, _, _, _, _⟩) rfl 23 (.tmp 20) rfl ((w.heap.size + 1 + 1)) rfl 23 ((cells8 st.1).toArray) (0, 0) _ hL4.out Tryd.underlying23 rfl Fs.out.size ?_)
         | (go_at_call 139; refine (hN.out _).mono ?_; rintro e w5 ⟨rfl, hb5⟩; have hL5 : Hid (Blk w5 (w.heap.size + 1 + 1) 23 (cells8 st.1).toArray) := (hb5.block _ hL4.out.lt).trans hL4.out; replace hb5 := Lib.hid hb5)
         | ((with_reducible change wpList _ _ _ ({ dst := none, op := Op.store 23 (.tmp 20) _, type := _, pos := _, after := _, guard := _ } :: _) _ _); refine wpList_store_whole0 (o := ⟨none, _, _, _, _, _⟩) rfl rfl 23 (.tmp 20) (.tmp 94) rfl ((w.heap.size + 1 + 1)) ((cells8 z).toArray) rfl rfl 23 ((cells8 st.1).toArray) hL5.out F.out.size hqq.out F.out.one ?_; intro w6 hB6 hk6; have hR6 : Hid (RAt wo w6 (w.heap.size + 1 + 1) (climbN s (leaf, []) ((sides size i).zip ds) (j + 1)) (.slice A4 (j + 1) c4) (xs ++ [.slice (some ⟨gt, 0, none⟩) 65 ct])) := (by show RAt _ _ _ _ _ _; rw [hst'.out]; have := (RAt.step (st' := (z, st.2 ++ [q])) (q := q) (gt := gt) (ct := ct) hR.out hbr.out hk.out hb1.out hb13.out (by rw [hql.out]; exact hrq.out) hgt.out (by rw [hql.out]; exact hct.out) (by rw [hql.out]; exact hG.out) hb5.out hB6 hk6 rfl); rw [hql.out] at this; exact this); clear hB6 hk6 hb5 hL5 hL4 hD4 hG hrq hct hgt hb13 hk14))
        clear hm1 hm2 hm3
        go_loopw [18, 19] (fun a b wi => ∃ f2 s2 : Nat, a = .int .i64 (f2 : Int) ∧ b = .int .i64 (s2 : Int) ∧ f2 ≤ fn ∧ s2 ≤ fn ∧ Hid (At size i j f2 s2) ∧ Hid (Dir f2 s2) ∧ wi = w6) (fun a _ _ => (intOf a).toNat)
        case atStart => exact ⟨fn, fn, rfl, rfl, Nat.le_refl _, Nat.le_refl _, hAt.out, hdir.out, rfl⟩
        case round =>
         obtain ⟨f2, s2, rfl, rfl, hf2, hs2, hA2, hd2, rfl⟩ := hrel
         have hf40 : (f2 : Int) < 1099511627776 := by have := hfn40; omega
         have hs40 : (s2 : Int) < 1099511627776 := by have := hsn40; omega
         have hf0 : (0 : Int) ≤ (f2 : Int) := by omega
         have hs0 : (0 : Int) ≤ (s2 : Int) := by omega
         by_cases hodd : f2 % 2 = 1
         ·have hm1 : (f2 : Int) % 2 = 1 := by omega
          have hm2 : (f2 : Int).tmod 2 = 1 := by rw [Int.tmod_eq_emod_of_nonneg (by omega)]; exact hm1
          have hf1 : (f2 : Int).tdiv 2 = ((f2 / 2 : Nat) : Int) := by rw [Int.tdiv_eq_ediv_of_nonneg (by omega)]; omega
          have hs1 : (s2 : Int).tdiv 2 = ((s2 / 2 : Nat) : Int) := by rw [Int.tdiv_eq_ediv_of_nonneg (by omega)]; omega
          obtain ⟨-, hAt2⟩ := hA2.out.odd hi.out hodd
          replace hAt2 := Lib.hid hAt2
          clear hodd hd2
          go_wp2_with fail
          go_roundw
          case rel => exact ⟨j + 1, f2 / 2, s2 / 2, _, _, by go_num, hjn.out, (by first | rfl | (congr 1; omega)), (by first | rfl | (congr 1; omega)), rfl, hAt2.out, hR6.out⟩
          case measure => (have := hjn.out; simp [intOf]; omega)
         ·have hm1 : (f2 : Int) % 2 = 0 := by omega
          have hm2 : (f2 : Int).tmod 2 = 0 := by rw [Int.tmod_eq_emod_of_nonneg (by omega)]; exact hm1
          have heq : f2 = s2 := by have : f2 % 2 = 1 ∨ f2 = s2 := hd2.out; omega
          subst heq
          have hf1 : (f2 : Int).tdiv 2 = ((f2 / 2 : Nat) : Int) := by rw [Int.tdiv_eq_ediv_of_nonneg (by omega)]; omega
          have hne0 : ¬ f2 = 0 := fun e => by
           have h1 := hA2.out
           rw [e] at h1
           have := h1.done hi.out rfl
           have := hjl.out
           omega
          have hm3 : ((f2 : Int) == 0) = false := beq_eq_false_iff_ne.2 (by omega)
          have hm4 : ((f2 : Int) != 0) = true := by rw [bne, hm3]; rfl
          have hm5 : ¬ ((f2 : Int) = 0) := by omega
          have hA3 : Hid (At size i j (f2 / 2) (f2 / 2)) := hA2.out.skip hi.out hodd rfl
          have hlt3 : Hid (f2 / 2 < f2) := by show _ < _; omega
          clear hodd hd2 hne0
          go_wp2_with fail
          go_roundw
          case rel => exact ⟨f2 / 2, f2 / 2, (by first | rfl | (congr 1; omega)), (by first | rfl | (congr 1; omega)), by have := hlt3.out; omega, by have := hlt3.out; omega, hA3.out, .inr rfl, by first | rfl | trivial⟩
          case measure => (have := hlt3.out; simp [intOf]; omega)
       ·have hm1 : (fn : Int) % 2 = 0 := by omega
        have hm2 : (fn : Int).tmod 2 = 0 := by rw [Int.tmod_eq_emod_of_nonneg (by omega)]; exact hm1
        have hm3 : ((fn : Int) == (sn : Int)) = false := beq_eq_false_iff_ne.2 (by omega)
        have hm4 : ¬ ((fn : Int) = (sn : Int)) := by omega
        obtain ⟨hside, hAt2⟩ := hAt.out.right hi.out ho he
        replace hAt2 := Lib.hid hAt2
        have hst' : Hid (climbN s (leaf, []) ((sides size i).zip ds) (j + 1) = (ndOf s st.1 d, st.2 ++ [kb 1 :: (st.1 ++ d)])) := by
         show _ = _
         have hzj : ((sides size i).zip ds)[j]? = some (true, d) := List.getElem?_zip_eq_some.2 ⟨hside, hd.out⟩
         rw [climbN_succ hzj, hst.out, climb1]
         rfl
        obtain ⟨z, hz⟩ : ∃ z, Hid (ndOf s st.1 d = z) := ⟨_, Lib.hid rfl⟩
        obtain ⟨q, hq⟩ : ∃ q : Text, Hid (kb 1 :: (st.1 ++ d) = q) := ⟨_, Lib.hid rfl⟩
        have hql : Hid (q.length = 65) := by show _ = _; rw [← hq.out]; simp [hst1.out, hdl.out]
        rw [hz.out, hq.out] at hst'
        have F := Lib.hid (fit (x := z) (by rw [← hz.out]; exact ndOf_len s _ _))
        have hN : Hid (∀ w', Calls Tryd.prog 139 #[.int .i64 s, .agg (cells8 st.1).toArray, .agg (cells8 d).toArray] w' fun e w'' => e = .returned (.agg (cells8 z).toArray) ∧ Below w'.heap.size w' w'') := fun w' => by
         have := refnode_any st.1 d hst1.out hdl.out s w' hs63.out
         rw [show cutTo (sum (kb 1 :: (st.1 ++ d))) (clampN s) = z from hz.out] at this
         exact this
        have hqq := Lib.hid (F.out.same st.1 hst1.out)
        clear hside ho he
        go_wp2_with (first
         | ((with_reducible change wpList _ _ _ (⟨some 75, _, _, _, _, _⟩ :: _) _ _); refine wpList_load_part (o := ⟨some 75, _, _, _, _, _⟩) rfl 23 (.tmp 74) rfl (b) (o + j * 32) rfl (cells8 d) _ hdc.out Tryd.underlying23 rfl Fd.out.part ?_)
         | ((with_reducible change wpList _ _ _ ({ dst := none, op := Op.store 23 (.tmp 23) _, type := _, pos := _, after := _, guard := _ } :: _) _ _); refine wpList_store_whole (o := ⟨none, _, _, _, _, _⟩) rfl 23 (.tmp 23) (.tmp 75) rfl (wr.heap.size) ((cells8 d).toArray) rfl rfl 23 (Z32) (Blk.new wr _ _) Fd.out.size Fd.out.zero Fd.out.one ?_; intro w1 hD1 hk1; have hb1 : Hid (Below wr.heap.size wr w1) := kept_fresh hk1; have hs1 : Hid (wo.heap.size ≤ w1.heap.size) := Nat.le_trans hR.out.kept.size hb1.out.size; have hO1 : Hid (w1.ownsRow wo.heap.size 27 1 (.slice Av j cv) j xs) := own_below hOr.out hb1.out; have hL1 : Hid (Blk w1 (w.heap.size + 1 + 1) 23 (cells8 st.1).toArray) := (hb1.out.block _ hR.out.leaf.lt).trans hR.out.leaf; replace hD1 := Lib.hid hD1; clear hk1))
        have hT : Hid (Calls Tryd.prog 93 #[.int .i64 1, .slice (some ⟨w1.heap.size, 0, none⟩) 2 2] (tW w1 (w.heap.size + 1 + 1) wr.heap.size) fun e w' => ∃ v, e = .returned v ∧ w'.ownsRow (tW w1 (w.heap.size + 1 + 1) wr.heap.size).heap.size 5 1 v 65 (cells8 q) ∧ Below (tW w1 (w.heap.size + 1 + 1) wr.heap.size).heap.size (tW w1 (w.heap.size + 1 + 1) wr.heap.size) w') := by
         have hpc := tW_pieces (w := w1) hL1.out hD1.out hst1.out hdl.out
         have := refText_any [st.1, d] 2 rfl (some ⟨w1.heap.size, 0, none⟩) 2 1 (tW w1 (w.heap.size + 1 + 1) wr.heap.size) (by simp [hst1.out, hdl.out]) (by decide) hpc
         rw [show kb 1 :: [st.1, d].flatten = q by rw [← hq.out]; simp, show 1 + [st.1, d].flatten.length = 65 by simp [hst1.out, hdl.out]] at this
         exact this
        refine held_start (fun _ => True) 8 rfl (by kernel_rfl) ?_
        refine Held.tk0 (i := 0) (v := .slice Av j cv) rfl trivial (fun w' hw' => run_mv (.tmp 21) rfl w') ?_
        (intro K k; go_simp; apply k; clear k K)
        refine Held.tk0 (i := 1) (v := .slice (some ⟨(w.heap.size + 1 + 1), 0, none⟩) 32 32) rfl trivial (fun w' hw' => by go_simp) ?_
        (intro K k; go_simp; apply k; clear k K)
        refine Held.tk0 (i := 2) (v := .slice (some ⟨wr.heap.size, 0, none⟩) 32 32) rfl trivial (fun w' hw' => by go_simp) ?_
        (intro K k; go_simp; apply k; clear k K)
        refine held_only (i := 3) rfl (by kernel_rfl) (by rfl) (fun K hK => ?_)
        go_simp
        refine hK _ _ trivial ?_
        clear hK K
        change wpAnyH _ _ _ _ _ _ _ _ (tW w1 (w.heap.size + 1 + 1) wr.heap.size)
        refine held_only (i := 4) rfl (by kernel_rfl) (by rfl) (fun K hK => ?_)
        refine wp_fn (R := fun v w'' => Below (tW w1 (w.heap.size + 1 + 1) wr.heap.size).heap.size (tW w1 (w.heap.size + 1 + 1) wr.heap.size) w'' ∧ w''.ownsRow (tW w1 (w.heap.size + 1 + 1) wr.heap.size).heap.size 5 1 v 65 (cells8 q)) (args := #[.int .i64 1, .slice (some ⟨w1.heap.size, 0, none⟩) 2 2]) _ _ rfl rfl Tryd.func93 (by kernel_rfl) (by kernel_rfl) (hT.out.mono fun e w'' ⟨v, he, ho, hb⟩ => ⟨_, he, hb, ho⟩) ?_
        rintro v3 w3 ⟨hb3, ho3⟩
        obtain ⟨gt, ct, rfl, hgt1, hgt2⟩ := ho3.form (by decide)
        go_simp
        refine hK _ _ trivial ?_
        clear hK K
        have hgt : Hid (w1.heap.size ≤ gt ∧ gt < w3.heap.size) := by have := tW_size w1 (w.heap.size + 1 + 1) wr.heap.size; exact ⟨by omega, hgt2⟩
        have hb13 : Hid (Below w1.heap.size w1 w3) := (tW_below w1 _ _).trans (hb3.mono (by rw [tW_size]; omega))
        obtain ⟨At, ct', et, hct, -, -, hrt, -⟩ := Own.reads ho3
        injection et with et1 et2 et3
        subst et1 et3
        have hrq : Hid (Reads w3 1 (some ⟨gt, 0, none⟩) 65 (cells8 q)) := hrt
        replace hct := Lib.hid hct
        have hOw : Hid ((w3.alloc (.cells #[.slice (some ⟨gt, 0, none⟩) 65 ct] 27)).ownsRow wo.heap.size 27 1 (.slice Av j cv) j xs) := (own_below (own_below hO1.out hb13.out) (Below.heap_below w3 _))
        have hNw : Hid (Reads (w3.alloc (.cells #[.slice (some ⟨gt, 0, none⟩) 65 ct] 27)) 1 (some ⟨w3.heap.size, 0, none⟩) 1 [.slice (some ⟨gt, 0, none⟩) 65 ct]) := Blk.reads (Blk.new w3 27 #[.slice (some ⟨gt, 0, none⟩) 65 ct]) 0 _ rfl (fun j u hu => by rw [Nat.zero_add]; simpa using hu)
        have hs3 : Hid (wo.heap.size ≤ (w3.alloc (.cells #[.slice (some ⟨gt, 0, none⟩) 65 ct] 27)).heap.size) := by have := hb13.out.size; have := hs1.out; show _ ≤ _; simp; omega
        clear hb3 ho3 hgt1 hgt2 hrt hT
        refine held_only (i := 5) rfl (by kernel_rfl) (by rfl) (fun K hK => ?_)
        go_simp
        refine hK _ _ trivial ?_
        clear hK K
        refine held_only (i := 6) rfl (by kernel_rfl) (by rfl) (fun K hK => ?_)
        refine wp_append_src _ (.tmp 106) (.tmp 111) 24 rfl wo.heap.size 27 i0 (.slice none 0 0) 1 24 Tryd.underlying24 ii iz0 iz1 iz2 rfl (by decide) (.slice Av j cv) j xs rfl hOw.out (some ⟨w3.heap.size, 0, none⟩) 1 1 [.slice (some ⟨gt, 0, none⟩) 65 ct] rfl hNw.out (fun e => by cases e) (one_one rfl) hl1.out hl2.out hs3.out ?_
        intro v4 w4 hG
        obtain ⟨A4, c4, rfl, -⟩ := Own.reads hG.own
        replace hG := Lib.hid hG
        go_simp
        refine hK _ _ trivial ?_
        clear hK K
        refine Held.tk0 (i := 7) (v := .slice A4 (j + 1) c4) rfl trivial (fun w' hw' => by first | go_simp | rfl) ?_
        (intro K k; go_simp; apply k; clear k K)
        refine held_end (by kernel_rfl) ?_
        have hk14 : Hid (Kept (fun q => some q = (Value.slice Av j cv).ownBlock) w1 w4) := ⟨hG.out.grow.os.trans hb13.out.os, hG.out.grow.tape.trans hb13.out.tape, hG.out.grow.output.trans hb13.out.output, (by have h1 := hG.out.grow.size; have h2 := hb13.out.size; simp at h1; omega), fun p hp hne => (hG.out.grow.block p (by have := hb13.out.size; simp; omega) hne).trans ((Below.heap_alloc _ _ _ (by have := hb13.out.size; omega)).trans (hb13.out.block p hp))⟩
        have hD4 : Hid (Blk w4 wr.heap.size 23 (cells8 d).toArray) := hD1.out.kept hk14.out (fun e => hdn.out e)
        have hL4 : Hid (Blk w4 (w.heap.size + 1 + 1) 23 (cells8 st.1).toArray) := hL1.out.kept hk14.out (fun e => hln.out e)
        clear hNw hs3 hOw
        go_wp2_with (first
         | ((with_reducible change wpList _ _ _ (⟨some 114, _, _, _, _, _⟩ :: _) _ _); refine wpList_load_row (o := ⟨some 114, _, _, _, _, _⟩) rfl 23 (.tmp 20) rfl ((w.heap.size + 1 + 1)) rfl 23 ((cells8 st.1).toArray) (0, 0) _ hL4.out Tryd.underlying23 rfl Fs.out.size ?_)
         | ((with_reducible change wpList _ _ _ (⟨some 115, _, _, _, _, _⟩ :: _) _ _); refine wpList_load_row (o := ⟨some 115, _, _, _, _, _⟩) rfl 23 (.tmp 23) rfl (wr.heap.size) rfl 23 ((cells8 d).toArray) (0, 0) _ hD4.out Tryd.underlying23 rfl Fd.out.size ?_)
         | (go_at_call 139; refine (hN.out _).mono ?_; rintro e w5 ⟨rfl, hb5⟩; have hL5 : Hid (Blk w5 (w.heap.size + 1 + 1) 23 (cells8 st.1).toArray) := (hb5.block _ hL4.out.lt).trans hL4.out; replace hb5 := Lib.hid hb5)
         | ((with_reducible change wpList _ _ _ ({ dst := none, op := Op.store 23 (.tmp 20) _, type := _, pos := _, after := _, guard := _ } :: _) _ _); refine wpList_store_whole0 (o := ⟨none, _, _, _, _, _⟩) rfl rfl 23 (.tmp 20) (.tmp 116) rfl ((w.heap.size + 1 + 1)) ((cells8 z).toArray) rfl rfl 23 ((cells8 st.1).toArray) hL5.out F.out.size hqq.out F.out.one ?_; intro w6 hB6 hk6; have hR6 : Hid (RAt wo w6 (w.heap.size + 1 + 1) (climbN s (leaf, []) ((sides size i).zip ds) (j + 1)) (.slice A4 (j + 1) c4) (xs ++ [.slice (some ⟨gt, 0, none⟩) 65 ct])) := (by show RAt _ _ _ _ _ _; rw [hst'.out]; have := (RAt.step (st' := (z, st.2 ++ [q])) (q := q) (gt := gt) (ct := ct) hR.out hbr.out hk.out hb1.out hb13.out (by rw [hql.out]; exact hrq.out) hgt.out (by rw [hql.out]; exact hct.out) (by rw [hql.out]; exact hG.out) hb5.out hB6 hk6 rfl); rw [hql.out] at this; exact this); clear hB6 hk6 hb5 hL5 hL4 hD4 hG hrq hct hgt hb13 hk14))
        have hf1 : (fn : Int).tdiv 2 = ((fn / 2 : Nat) : Int) := by rw [Int.tdiv_eq_ediv_of_nonneg (by omega)]; omega
        have hs1' : (sn : Int).tdiv 2 = ((sn / 2 : Nat) : Int) := by rw [Int.tdiv_eq_ediv_of_nonneg (by omega)]; omega
        clear hm1 hm2 hm3 hm4
        go_wp2_with fail
        go_roundw
        case rel => exact ⟨j + 1, fn / 2, sn / 2, _, _, by go_num, hjn.out, (by first | rfl | (congr 1; omega)), (by first | rfl | (congr 1; omega)), rfl, hAt2.out, hR6.out⟩
        case measure => (have := hjn.out; simp [intOf]; omega)
     ·obtain rfl : j = n := by omega
      have hz2 : ¬ ((j : Int) < (j : Int)) := by omega
      have hres : Hid (Blk wr (w.heap.size + 1) 23 Z32) := hBo.out.kept hR.out.kept (by omega)
      have hI1 := Lib.hid hR.out.leaf
      clear hj hlt hln
      go_wp2_with (first
       | ((with_reducible change wpList _ _ _ (⟨some 121, _, _, _, _, _⟩ :: _) _ _); refine wpList_load_row (o := ⟨some 121, _, _, _, _, _⟩) rfl 23 (.tmp 20) rfl ((w.heap.size + 1 + 1)) rfl 23 ((cells8 st.1).toArray) (0, 0) _ hI1.out Tryd.underlying23 rfl Fs.out.size ?_)
       | ((with_reducible change wpList _ _ _ ({ dst := none, op := Op.store 23 _ _, type := _, pos := _, after := _, guard := _ } :: _) _ _); refine wpList_store_row (o := ⟨none, _, _, _, _, _⟩) rfl 23 (.tmp 10) (.tmp 121) rfl (w.heap.size + 1) ((cells8 st.1).toArray) rfl rfl 23 (Z32) hres.out Fs.out.size Fs.out.zero Fs.out.one ?_))
      refine bodyPost_ret (results_cell_row3 rfl _ _ (w.heap.size + 1) 23 (cells8 st.1).toArray (0, 0) _ rfl (setRow_heap _ _ _ _ _ _ hres.out) Tryd.underlying23 rfl Fs.out.size) rfl ?_
      have hXX := hX'.out
      rw [hrn.out, hst.out] at hXX
      subst hXX
      have hk9 : Kept (· = w.heap.size + 1) wr (wr.setRow (w.heap.size + 1) (cells8 st.1).toArray) := Bytes.Kept.setRow (S := fun k => k = w.heap.size + 1) (Kept.refl _ _) rfl _
      refine ⟨_, xs, _, w.heap.size + 1 + 1, rfl, ownsRow_base (own_kept hR.out.own hk9 (fun k e h => ?_)) (Nat.zero_le _), Txs.weaken (Txs.keep hR.out.txs hk9 (fun k h => .inr (.inr ?_))), ?_⟩
      ·have h1 := (hR.out.own.lt k e).1
       have h2 := hbr.out
       omega
      ·have h2 := hbr.out
       show k < wo.heap.size
       omega
      ·exact (((Kept.of_below hbo.out).trans hR.out.kept (fun i _ h => h)).trans (T := (· = w.heap.size + 1)) hk9 (fun i hi h => absurd hi (by omega))).mono (fun i hi h => absurd hi (by omega)) |>.below
   ·have hX' := hX.out
    rw [if_pos (by rw [hms.out, hrn]; exact hmn)] at hX'
    subst hX'
    have y1 : ((m : Int) == (n : Int)) = false := beq_eq_false_iff_ne.2 (by omega)
    have y2 : ¬ ((m : Int) = (n : Int)) := by omega
    clear hmn hlt hlle hTn hLn
    go_wp2_with (first
     | (go_at_call 127; refine (hTl.out _).mono ?_; rintro e w' ⟨rfl, rfl⟩)
     | ((with_reducible change wpList _ _ _ ({ dst := none, op := Op.store 23 _ _, type := _, pos := _, after := _, guard := _ } :: _) _ _); refine wpList_store_row (o := ⟨none, _, _, _, _, _⟩) rfl 23 (.tmp 10) (.tmp 61) rfl (w.heap.size + 1) (Z32) rfl rfl 23 (Z32) hB2.out size32' rfl one32 ?_))
    refine bodyPost_ret (results_cell_row3 rfl _ _ (w.heap.size + 1) 23 Z32 (0, 0) _ rfl (setRow_heap _ _ _ _ _ _ hB2.out) Tryd.underlying23 rfl size32') rfl ?_
    exact ⟨.slice none 0 0, [], none, 0, by rw [zero32]; rfl, World.ownsRow_nil _ _ _ _, (fun i q h => by simp at h), below_setRow hb2.out (by omega) _⟩
theorem refincl_any (s : Int) (hs63 : s < 9223372036854775808) (size i : Int) (leaf : Text) (hl : leaf.length = 32) (ds : List Text) (A : Option Addr) (n c : Nat) (hn40 : n < 1099511627776) (w : World) (hr : RdD w A n ds) :
  Calls Tryd.prog 92 #[.int .i64 s, .int .i64 size, .int .i64 i, .agg (cells8 leaf).toArray, .slice A n c] w (RPost w (inclOf s size i leaf [] ds)) := by
 cases hin : insideB size i with
 | false =>
  obtain ⟨X, hX⟩ : ∃ X, inclOf s size i leaf [] ds = X := ⟨_, rfl⟩
  rw [hX]
  unfold inclOf at hX
  rw [if_pos hin] at hX
  subst hX
  refine (refincl_out s size i leaf A n c w hin).mono ?_
  rintro e w' ⟨rfl, hb⟩
  exact ⟨_, [], none, 0, by rw [zero32], World.ownsRow_nil _ _ _ _, (fun i q h => by simp at h), hb⟩
 | true =>
  obtain ⟨h1, h2, h3, h4⟩ := insideB_true hin
  obtain ⟨sz, rfl⟩ := Int.eq_ofNat_of_zero_le (show 0 ≤ size by omega)
  obtain ⟨j, rfl⟩ := Int.eq_ofNat_of_zero_le h3
  exact refincl_in s hs63 sz j (by omega) (by omega) leaf hl ds A n c hn40 w hr
end Go.Proofs.YtmdkfhfkdcbpgaaDoorR.RefIncl

namespace Go.Proofs.YtmdkfhfkdcbpgaaDoorR.RefAhead0
open Go Go.RowKit Go.Proofs.YtmdkfhfkdcbpgaaDoorR Digest Mem Sha Bytes Go.Proofs.YtmdkfhfkdcbpgaaDoorR.Append HashMem TreeMath TreeMem TreeRoot TreeRefRoot Node Sides RefSides Climb Incl Subs RowsP AheadM AheadT RefIncl0

structure Plan (s : Int) (old size : Nat) (root : Text) (ds : List Text) (q a : Nat) (Zf : Nat → Ah) (D : List Text) (x0 : Text) (N : Nat) : Prop where
 d : D = if q = 0 then root :: ds else ds
 len : D.length = N
 dig : Digs D
 n2 : 2 ≤ N
 n42 : N ≤ 42
 zero : D[0]? = some x0
 x32 : x0.length = 32
 start : Zf 1 = ⟨x0, x0, [], []⟩
 step : ∀ j, 1 ≤ j → j < N → ∃ d, D[j]? = some d ∧ d.length = 32 ∧ ∀ b, (sides size (old - 1))[a + j - 1]? = some b → Zf (j + 1) = ahead1 s (Zf j) (b, d)
 ok : ∀ j, 1 ≤ j → j ≤ N → (Zf j).Ok (j - 1)
 last : aheadOf s old size root ds = Zf N
 sd : (sides size (old - 1)).length = a + N - 1
theorem plan (s : Int) {old size : Nat} {root : Text} {ds : List Text} {q a : Nat} (h1 : 1 ≤ old) (h2 : old < size) (hs : size ≤ 1099511627776) (hrt : root.length = 32) (hd : Digs ds) (hn : betw old size = ds.length) (hm : old = (2 * q + 1) * 2 ^ a) :
  ∃ Zf D x0 N, Plan s old size root ds q a Zf D x0 N := by
 obtain ⟨hlow, hll, hdr⟩ := parts_low h1 h2
 have hpl := partsOf_len (Nat.le_of_lt h2)
 have hsl := sides_dirs_len hm h2
 have h41 := betw_le (Nat.le_of_lt h2) hs
 have hpw := powB_iff hm
 have hlo : lowOf old = if q = 0 then 0 else 1 := by
  unfold lowOf
  rw [hpw]
  by_cases hq : q = 0
  ·simp [hq]
  ·simp [hq]
 have hz : (((partsOf old size).map (bh old)).zip ds).length = ds.length := by rw [List.length_zip, List.length_map]; omega
 obtain ⟨x0, hx0⟩ : ∃ x0, (if powB old then root else ds.getD 0 []) = x0 := ⟨_, rfl⟩
 obtain ⟨D, hD⟩ : ∃ D, (if q = 0 then root :: ds else ds) = D := ⟨_, rfl⟩
 have hDl : D.length + lowOf old = ds.length + 1 := by
  rw [hlo, ← hD]
  split <;> simp
 have hDi : ∀ j, 1 ≤ j → D[j]? = ds[lowOf old + (j - 1)]? := fun j hj => by
  obtain ⟨k, rfl⟩ : ∃ k, j = k + 1 := ⟨j - 1, by omega⟩
  rw [hlo, ← hD]
  split
  ·simp
  ·rw [Nat.add_sub_cancel, Nat.add_comm 1 k]
 have hDd : Digs D := by
  rw [← hD]
  split
  ·intro d hd'
   rcases List.mem_cons.1 hd' with rfl | h
   ·exact hrt
   ·exact hd _ h
  ·exact hd
 have hD0 : D[0]? = some x0 := by
  rw [← hD, ← hx0, hpw]
  by_cases hq : q = 0
  ·simp [hq]
  ·rw [if_neg hq, if_neg (by simp [hq])]
   have : 0 < ds.length := by omega
   simp [List.getD, List.getElem?_eq_getElem this]
 have hx32 := hDd.at_ hD0
 have hok : ∀ k, lowOf old + k ≤ ds.length → (aheadS s x0 (lowOf old) (((partsOf old size).map (bh old)).zip ds) (lowOf old + k)).Ok k := fun k hk => aheadS_ok hx32 (fun p hp => hd _ (List.of_mem_zip (show (p.1, p.2) ∈ _ from hp)).2) k (by omega)
 refine ⟨fun j => aheadS s x0 (lowOf old) (((partsOf old size).map (bh old)).zip ds) (lowOf old + (j - 1)), D, x0, (dirs old size).length + 1, hD.symm, by omega, hDd, by omega, by omega, hD0, hx32, ?_, fun j hj hjN => ?_, fun j hj hjN => hok (j - 1) (by omega), ?_, by rw [hsl]; omega⟩
 ·show aheadS _ _ _ _ (lowOf old + 0) = _
  rw [Nat.add_zero, aheadS_low]
 ·have hlt : lowOf old + (j - 1) < ds.length := by omega
  obtain ⟨d, hd0⟩ : ∃ d, ds[lowOf old + (j - 1)]? = some d := ⟨_, List.getElem?_eq_getElem hlt⟩
  refine ⟨d, by rw [hDi j hj, hd0], hd.at_ hd0, fun b hb => ?_⟩
  rw [show a + j - 1 = a + (j - 1) by omega] at hb
  have hb2 := side_dirs hm h2 hb
  rw [← hdr, List.getElem?_drop] at hb2
  show aheadS _ _ _ _ (lowOf old + (j + 1 - 1)) = _
  rw [show lowOf old + (j + 1 - 1) = lowOf old + (j - 1) + 1 by omega]
  exact aheadS_succ (Nat.le_add_right _ _) (List.getElem?_zip_eq_some.2 ⟨hb2, hd0⟩)
 ·show aheadOf _ _ _ _ _ = aheadS _ _ _ _ (lowOf old + ((dirs old size).length + 1 - 1))
  unfold aheadOf
  rw [hx0, show lowOf old + ((dirs old size).length + 1 - 1) = ds.length by omega]

theorem own_new32 (w : World) (B : Nat) (hB : B ≤ w.heap.size) (x : Text) (hx : x.length = 32) : (w.alloc (.cells (cells8 x).toArray 23)).ownsRow B 23 32 (.slice (some ⟨w.heap.size, 0, none⟩) 1 1) 1 (cells8 x) :=
 ⟨by simp [cells8_len, hx], .inr ⟨w.heap.size, 1, (cells8 x).toArray, rfl, hB, heap_alloc_new w _, Nat.le_refl _, by decide, by simp [cells8_len, hx], by rw [List.take_of_length_le (by simp [cells8_len, hx])]⟩⟩
end Go.Proofs.YtmdkfhfkdcbpgaaDoorR.RefAhead0

namespace Go.Proofs.YtmdkfhfkdcbpgaaDoorR.Ahead
open Go Go.RowKit Go.Proofs.YtmdkfhfkdcbpgaaDoorR Digest Mem Sha ShaWalk Bytes Go.Proofs.YtmdkfhfkdcbpgaaDoorR.Append HashMem DigestMem DigestTop QuietTail Grown Chain TreeMath TreeMem TreeRoot Held Guard Book Node NodeW WayP RevP TreeRefRoot Climb Incl Subs RowsP Joint RefIncl0 AheadM AheadT

def AhPost (w : World) (Z : Ah) (e : Ending) (w' : World) : Prop := ∃ A c xs, e = .returned (.tuple #[.agg (cells8 Z.fr).toArray, .agg (cells8 Z.sr).toArray, .slice A (Z.ft.length + Z.st.length) c]) ∧ Reads w' 1 A (Z.ft.length + Z.st.length) xs ∧ Tx w' xs (Z.ft ++ Z.st) ∧ Below w.heap.size w w'
def AhOwn (w : World) (Z : Ah) (e : Ending) (w' : World) : Prop := ∃ A c xs, e = .returned (.tuple #[.agg (cells8 Z.fr).toArray, .agg (cells8 Z.sr).toArray, .slice A (Z.ft.length + Z.st.length) c]) ∧ w'.ownsRow w.heap.size 27 1 (.slice A (Z.ft.length + Z.st.length) c) (Z.ft.length + Z.st.length) xs ∧ Tx w' xs (Z.ft ++ Z.st) ∧ Below w.heap.size w w'
theorem AhOwn.post {w : World} {Z : Ah} {e : Ending} {w' : World} (h : AhOwn w Z e w') : AhPost w Z e w' := by
 obtain ⟨A, c, xs, h1, h2, h3, h4⟩ := h
 obtain ⟨A9, c9, e9, -, -, -, hR9, -⟩ := Append.Own.reads h2
 injection e9 with e91 e92 e93
 subst e91
 exact ⟨A, c, xs, h1, hR9, h3, h4⟩
set_option maxRecDepth 100000 in
set_option maxHeartbeats 4000000 in
theorem ahead_own (s : Int) (old size : Nat) (h1 : 1 ≤ old) (h2 : old < size) (hs : size ≤ 1099511627776) (root : Text) (hrt : root.length = 32) (ds : List Text) (A : Option Addr) (n c : Nat) (hn : (partsOf old size).length = n) (w : World) (hB : Base w) (hr : RdD w A n ds) :
  Calls Tryd.prog 209 #[.int .i64 s, .int .i64 (old : Int), .int .i64 (size : Int), .agg (cells8 root).toArray, .slice A n c] w (AhOwn w (aheadOf s old size root ds)) := by
 obtain ⟨i0, ii, iz0, iz1, iz2⟩ := info_partsN infoT
 have hn41 : Hid (n ≤ 41) := by show _ ≤ _; rw [← hn, partsOf_len (by omega)]; exact betw_le (by omega) hs
 obtain ⟨hlow, -, -⟩ := parts_low h1 h2
 rw [hn] at hlow
 obtain ⟨low, hlo⟩ : ∃ low, lowOf old = low := ⟨_, rfl⟩
 rw [hlo] at hlow
 obtain ⟨P, hP⟩ : ∃ P, ((partsOf old size).map (bh old)).zip ds = P := ⟨_, rfl⟩
 obtain ⟨x0, hx0⟩ : ∃ x0, (if powB old then root else ds.getD 0 []) = x0 := ⟨_, rfl⟩
 have hZ : aheadOf s old size root ds = aheadS s x0 low P n := by unfold aheadOf; rw [hP, hlo, hx0, hr.1]
 rw [hZ]
 clear hZ
 have hPl : P.length = n := by rw [← hP, List.length_zip, List.length_map, hn, hr.1]; omega
 have hPd : ∀ p ∈ P, p.2.length = 32 := fun p hp => by rw [← hP] at hp; exact hr.2.1 _ (List.of_mem_zip (show (p.1, p.2) ∈ _ from hp)).2
 obtain ⟨d0, hd0⟩ : ∃ d0, ds[0]? = some d0 := ⟨_, List.getElem?_eq_getElem (by have := hr.1; omega)⟩
 have hx0l : x0.length = 32 := by
  rw [← hx0]
  split
  ·exact hrt
  ·have := hr.2.1.at_ hd0
   simpa [List.getD, hd0] using this
 have hok : Hid (∀ j, low ≤ j → j ≤ n → (aheadS s x0 low P j).Ok (j - low)) := fun j h1 h2 => by
  have := aheadS_ok (s := s) (low := low) hx0l hPd (j - low) (by omega)
  rwa [show low + (j - low) = j by omega] at this
 have hPj : Hid (∀ j p d, (partsOf old size)[j]? = some p → ds[j]? = some d → P[j]? = some (bh old p, d)) := fun j p d h1 h2 => by
  rw [← hP]
  exact List.getElem?_zip_eq_some.2 ⟨by rw [List.getElem?_map, h1]; rfl, h2⟩
 obtain ⟨ps, hps⟩ : ∃ ps, partsOf old size = ps := ⟨_, rfl⟩
 have hPt := Lib.hid (fun w' => parts_any old size (by omega) hs w')
 rw [hps] at hPt hPj hn
 have hpw := and_pred h1
 have hai := and_i64 old h1 (by omega)
 have hb0 : Hid (Below w.heap.size w (((w.alloc (.cells (cells8 root).toArray 23)).alloc (.cells Z32 23)).alloc (.cells Z32 23))) := ((Below.heap_below w _).alloc (by simp) _).alloc (by simp; omega) _
 have hz0 : Hid ((((w.alloc (.cells (cells8 root).toArray 23)).alloc (.cells Z32 23)).alloc (.cells Z32 23)).heap.size = w.heap.size + 3) := by show _ = _; simp
 have hz2 : ((w.alloc (.cells (cells8 root).toArray 23)).alloc (.cells Z32 23)).heap.size = w.heap.size + 2 := by simp
 have hz1 : (w.alloc (.cells (cells8 root).toArray 23)).heap.size = w.heap.size + 1 := by simp
 have hR0 : Hid (Blk (((w.alloc (.cells (cells8 root).toArray 23)).alloc (.cells Z32 23)).alloc (.cells Z32 23)) w.heap.size 23 (cells8 root).toArray) := ((Blk.new w _ _).alloc _).alloc _
 have hA0 : Hid (Blk (((w.alloc (.cells (cells8 root).toArray 23)).alloc (.cells Z32 23)).alloc (.cells Z32 23)) (w.heap.size + 1) 23 Z32) := by
  have := (Blk.new (w.alloc (.cells (cells8 root).toArray 23)) 23 Z32).alloc (.cells Z32 23)
  rwa [hz1] at this
 have hE0 : Hid (Blk (((w.alloc (.cells (cells8 root).toArray 23)).alloc (.cells Z32 23)).alloc (.cells Z32 23)) (w.heap.size + 2) 23 Z32) := by
  have := Blk.new ((w.alloc (.cells (cells8 root).toArray 23)).alloc (.cells Z32 23)) 23 Z32
  rwa [hz2] at this
 have Fr := Lib.hid (fit (x := root) hrt)
 have Fx := Lib.hid (fit (x := x0) hx0l)
 have hBs := Lib.hid (fun w' (hb : Below w.heap.size w w') => hB.below hb hB.1)
 have hgb : Hid (0 < w.heap.size) := hB.1
 have hlw := Lib.hid hlo
 have hx0h := Lib.hid hx0
 have hd0h := Lib.hid hd0
 replace hr := Lib.hid hr
 replace hn := Lib.hid hn
 replace hlow := Lib.hid hlow
 have hob : Hid (1 ≤ old ∧ old ≤ 1099511627776) := by show _ ∧ _; omega
 have hx0lh := Lib.hid hx0l
 clear hs hrt hB hx0 hx0l hd0 hlo hz1 hz2 hP hPl hPd hps h1 h2
 go_enter Tryd.func209, Tryd.ntmps209
 go_wp2_with fail
 change Calls _ _ _ (((w.alloc (.cells (cells8 root).toArray 23)).alloc (.cells Z32 23)).alloc (.cells Z32 23)) _
 generalize (((w.alloc (.cells (cells8 root).toArray 23)).alloc (.cells Z32 23)).alloc (.cells Z32 23)) = w0 at *
 refine (hPt.out _).mono ?_
 rintro e w3 ⟨v, rfl, hO, hk1⟩
 rw [hn.out] at hO
 obtain ⟨Ap, cp, rfl, -, -, -, hPr, hApB⟩ := Append.Own.reads hO
 have hb3 : Hid (Below w.heap.size w w3) := hb0.out.trans (hk1.mono hb0.out.size)
 have hR3 : Hid (Blk w3 w.heap.size 23 (cells8 root).toArray) := (hk1.block _ hR0.out.lt).trans hR0.out
 have hA3 : Hid (Blk w3 (w.heap.size + 1) 23 Z32) := (hk1.block _ hA0.out.lt).trans hA0.out
 have hE3 : Hid (Blk w3 (w.heap.size + 2) 23 Z32) := (hk1.block _ hE0.out.lt).trans hE0.out
 have hs3 : Hid (w.heap.size + 3 ≤ w3.heap.size) := by have := hk1.size; have := hz0.out; show _ ≤ _; omega
 replace hPr := Lib.hid hPr
 clear hO hk1 hb0 hR0 hA0 hE0 hz0 hPt hApB
 go_wp2_with fail
 obtain ⟨w4, hw4⟩ : ∃ w4, Hid (w4 = (w3.alloc (.cells #[.int .i64 s, .slice none 0 0] 255)).alloc (.cells #[.int .i64 s, .slice none 0 0] 255)) := ⟨_, rfl⟩
 have hb4 : Hid (Below w3.heap.size w3 w4) := by show Below _ _ _; rw [hw4.out]; exact (Below.heap_below w3 _).alloc (by simp) _
 have hW4 : Hid (Blk w4 w3.heap.size 255 #[.int .i64 s, .slice none 0 0]) := by show Blk _ _ _ _; rw [hw4.out]; exact heap_alloc2_old w3 _ _
 have hI4 : Hid (Blk w4 (w3.heap.size + 1) 255 #[.int .i64 s, .slice none 0 0]) := by show Blk _ _ _ _; rw [hw4.out]; exact heap_alloc2_new w3 _ _
 have hs4 : Hid (w4.heap.size = w3.heap.size + 2) := by show _ = _; rw [hw4.out]; simp
 have hR4 : Hid (Blk w4 w.heap.size 23 (cells8 root).toArray) := (hb4.out.block _ hR3.out.lt).trans hR3.out
 change (Code.region _ _ _).wp _ _ _ ((w3.alloc (.cells #[.int .i64 s, .slice none 0 0] 255)).alloc (.cells #[.int .i64 s, .slice none 0 0] 255))
 rw [← hw4.out]
 clear hw4 hR3
 go_cut [16, 17, 18] from 29 to 30 (fun v u z wr => ∃ m16 m17 : Nat, v = .pointer (some ⟨m16, 0, none⟩) ∧ u = .pointer (some ⟨m17, 0, none⟩) ∧ z = .int .i64 0 ∧ Hid (m16 ≠ m17) ∧ Hid (w4.heap.size ≤ m16) ∧ Hid (w4.heap.size ≤ m17) ∧ Hid (Blk wr m16 23 (cells8 root).toArray) ∧ Hid (Blk wr m17 23 (cells8 root).toArray) ∧ Hid (Below w4.heap.size w4 wr))
 case first =>
  have s0 : Hid (Below w4.heap.size w4 w4.drew) := (Below.refl _ _).drew
  refine held_start (fun w' => Below w4.heap.size w4 w') 7 rfl (by kernel_rfl) ?_
  refine Held.tk0 (i := 0) (v := .agg ((cells8 root).toArray)) rfl s0.out (fun w' hw' => exec_row 23 (.tmp 8) rfl (w.heap.size) rfl 23 ((cells8 root).toArray) (0, 0) _ ((hw'.block _ hR4.out.lt).trans hR4.out) Tryd.underlying23 rfl Fr.out.size) ?_
  (intro K k; go_simp; apply k; clear k K)
  refine Held.tk0 (i := 1) (v := .agg ((cells8 root).toArray)) rfl s0.out (fun w' hw' => exec_row 23 (.tmp 8) rfl (w.heap.size) rfl 23 ((cells8 root).toArray) (0, 0) _ ((hw'.block _ hR4.out.lt).trans hR4.out) Tryd.underlying23 rfl Fr.out.size) ?_
  (intro K k; go_simp; apply k; clear k K)
  refine held_two (i := 2) (j := 3) rfl rfl (by kernel_rfl) (by rfl) (by rfl) (fun K hK => ?_) (fun K hK => ?_)
  ·have h5 : Hid (Below w4.heap.size w4 (w4.drew.alloc (.cells Z32 23))) := s0.out.alloc s0.out.size _
   have bA : Hid (Blk (w4.drew.alloc (.cells Z32 23)) w4.drew.heap.size 23 Z32) := Blk.new _ _ _
   go_simp
   refine hK _ _ h5.out ?_
   clear hK K
   refine held_only (i := 3) rfl (by kernel_rfl) (by rfl) (fun K hK => ?_)
   have h6 : Hid (Below w4.heap.size w4 ((w4.drew.alloc (.cells Z32 23)).alloc (.cells Z32 23))) := h5.out.alloc h5.out.size _
   have bB : Hid (Blk ((w4.drew.alloc (.cells Z32 23)).alloc (.cells Z32 23)) (w4.drew.alloc (.cells Z32 23)).heap.size 23 Z32) := Blk.new _ _ _
   go_simp
   refine hK _ _ h6.out ?_
   clear hK K
   have hzA : Hid ((w4.drew.alloc (.cells Z32 23)).heap.size = w4.heap.size + 1) := by show _ = _; simp
   replace bA : Hid (Blk ((w4.drew.alloc (.cells Z32 23)).alloc (.cells Z32 23)) w4.heap.size 23 Z32) := bA.out.alloc _
   replace bB : Hid (Blk ((w4.drew.alloc (.cells Z32 23)).alloc (.cells Z32 23)) (w4.heap.size + 1) 23 Z32) := by have := bB.out; rw [hzA.out] at this; exact this
   refine held_only (i := 4) rfl (by kernel_rfl) (by rfl) (fun K hK => ?_)
   refine wp_store_whole 23 (.tmp 16) (.tmp 29) rfl (w4.heap.size) ((cells8 root).toArray) rfl rfl 23 Z32 bA.out Fr.out.size Fr.out.zero Fr.out.one ?_
   intro w7 q7 k7
   have h7 : Hid (Below w4.heap.size w4 w7) := h6.out.trans (Kept.below_of k7 (by omega) h6.out.size)
   have o7 : Hid (Blk w7 (w4.heap.size + 1) 23 Z32) := bB.out.kept k7 (by omega)
   go_simp
   refine hK _ _ h7.out ?_
   clear hK K
   refine held_only (i := 5) rfl (by kernel_rfl) (by rfl) (fun K hK => ?_)
   refine wp_store_whole 23 (.tmp 17) (.tmp 30) rfl (w4.heap.size + 1) ((cells8 root).toArray) rfl rfl 23 Z32 o7.out Fr.out.size Fr.out.zero Fr.out.one ?_
   intro w8 q8 k8
   have h8 : Hid (Below w4.heap.size w4 w8) := h7.out.trans (Kept.below_of k8 (by omega) h7.out.size)
   have o8 : Hid (Blk w8 (w4.heap.size) 23 (cells8 root).toArray) := q7.kept k8 (by omega)
   go_simp
   refine hK _ _ h8.out ?_
   clear hK K
   refine Held.tk0 (i := 6) (v := .int .i64 0) rfl h8.out (fun w' hw' => by first | go_simp | rfl) ?_
   (intro K k; go_simp; apply k; clear k K)
   refine held_end (by kernel_rfl) ?_
   go_wp2_with fail
   go_meet
   case rel => exact ⟨w4.heap.size, w4.heap.size + 1, rfl, rfl, rfl, (by show _ ≠ _; omega), (by show _ ≤ _; omega), (by show _ ≤ _; omega), o8.out, q8, h8.out⟩
  ·have h5 : Hid (Below w4.heap.size w4 (w4.drew.alloc (.cells Z32 23))) := s0.out.alloc s0.out.size _
   have bA : Hid (Blk (w4.drew.alloc (.cells Z32 23)) w4.drew.heap.size 23 Z32) := Blk.new _ _ _
   go_simp
   refine hK _ _ h5.out ?_
   clear hK K
   refine held_only (i := 2) rfl (by kernel_rfl) (by rfl) (fun K hK => ?_)
   have h6 : Hid (Below w4.heap.size w4 ((w4.drew.alloc (.cells Z32 23)).alloc (.cells Z32 23))) := h5.out.alloc h5.out.size _
   have bB : Hid (Blk ((w4.drew.alloc (.cells Z32 23)).alloc (.cells Z32 23)) (w4.drew.alloc (.cells Z32 23)).heap.size 23 Z32) := Blk.new _ _ _
   go_simp
   refine hK _ _ h6.out ?_
   clear hK K
   have hzA : Hid ((w4.drew.alloc (.cells Z32 23)).heap.size = w4.heap.size + 1) := by show _ = _; simp
   replace bA : Hid (Blk ((w4.drew.alloc (.cells Z32 23)).alloc (.cells Z32 23)) w4.heap.size 23 Z32) := bA.out.alloc _
   replace bB : Hid (Blk ((w4.drew.alloc (.cells Z32 23)).alloc (.cells Z32 23)) (w4.heap.size + 1) 23 Z32) := by have := bB.out; rw [hzA.out] at this; exact this
   refine held_only (i := 4) rfl (by kernel_rfl) (by rfl) (fun K hK => ?_)
   refine wp_store_whole 23 (.tmp 16) (.tmp 29) rfl (w4.heap.size + 1) ((cells8 root).toArray) rfl rfl 23 Z32 bB.out Fr.out.size Fr.out.zero Fr.out.one ?_
   intro w7 q7 k7
   have h7 : Hid (Below w4.heap.size w4 w7) := h6.out.trans (Kept.below_of k7 (by omega) h6.out.size)
   have o7 : Hid (Blk w7 (w4.heap.size) 23 Z32) := bA.out.kept k7 (by omega)
   go_simp
   refine hK _ _ h7.out ?_
   clear hK K
   refine held_only (i := 5) rfl (by kernel_rfl) (by rfl) (fun K hK => ?_)
   refine wp_store_whole 23 (.tmp 17) (.tmp 30) rfl (w4.heap.size) ((cells8 root).toArray) rfl rfl 23 Z32 o7.out Fr.out.size Fr.out.zero Fr.out.one ?_
   intro w8 q8 k8
   have h8 : Hid (Below w4.heap.size w4 w8) := h7.out.trans (Kept.below_of k8 (by omega) h7.out.size)
   have o8 : Hid (Blk w8 (w4.heap.size + 1) 23 (cells8 root).toArray) := q7.kept k8 (by omega)
   go_simp
   refine hK _ _ h8.out ?_
   clear hK K
   refine Held.tk0 (i := 6) (v := .int .i64 0) rfl h8.out (fun w' hw' => by first | go_simp | rfl) ?_
   (intro K k; go_simp; apply k; clear k K)
   refine held_end (by kernel_rfl) ?_
   go_wp2_with fail
   go_meet
   case rel => exact ⟨w4.heap.size + 1, w4.heap.size, rfl, rfl, rfl, (by show _ ≠ _; omega), (by show _ ≤ _; omega), (by show _ ≤ _; omega), o8.out, q8, h8.out⟩
 case rest =>
  obtain ⟨m16, m17, rfl, rfl, rfl, hne, hl16, hl17, hM16, hM17, hk5⟩ := hcut
  obtain ⟨w5, rfl⟩ : ∃ w5 : World, w5 = wc := ⟨_, rfl⟩
  have b1 : (0 : Int) ≤ (old : Int) := by omega
  have b2 : (old : Int) ≤ 1099511627776 := by have := hob.out; omega
  have b3 : (1 : Int) ≤ (old : Int) := by have := hob.out; omega
  obtain ⟨an, han⟩ : ∃ an, old &&& (old - 1) = an := ⟨_, rfl⟩
  rw [han] at hai hpw
  replace hpw := Lib.hid hpw
  clear han
  go_upto_if 35 with fail
  clear b1 b2 b3
  try clear hai
  go_cut [18] from 31 to 41 (fun v wr => v = .int .i64 (low : Int) ∧ Hid (Blk wr m16 23 (cells8 x0).toArray) ∧ Hid (Blk wr m17 23 (cells8 x0).toArray) ∧ Hid (Kept (fun k => k = m16 ∨ k = m17) w5 wr))
  case first =>
   by_cases hp : powB old = true
   ·have hand := hpw.2 hp
    have hl0 : low = 0 := by rw [← hlw.out]; unfold lowOf; rw [if_pos hp]
    have hxr : root = x0 := by rw [← hx0h.out, if_pos hp]
    subst hl0 hxr
    clear hp hpw
    go_wp2_with fail
    go_meet
    case rel => exact ⟨rfl, hM16.out, hM17.out, Kept.refl _ _⟩
   ·have hand : ¬ an = 0 := fun e => hp (hpw.out.1 e)
    have ha1 : ((an : Int) == 0) = false := beq_eq_false_iff_ne.2 (by omega)
    have hl0 : low = 1 := by rw [← hlw.out]; unfold lowOf; rw [if_neg hp]
    have hxd : d0 = x0 := by
     have h := hx0h.out
     rw [if_neg hp] at h
     rw [← h]
     simp [List.getD, hd0h.out]
    subst hl0 hxd
    have hn1 : (0 : Int) < (n : Int) := by have := hlow.out; omega
    obtain ⟨b, o, rfl, hbb, hdc0⟩ := hr.out.at_ hd0h.out
    have hbw5 : Hid (Below w.heap.size w w5) := (hb3.out.trans (hb4.out.mono hb3.out.size)).trans (hk5.out.mono (by have := hb3.out.size; have := hb4.out.size; omega))
    have hdc : Hid (∀ w', Below w5.heap.size w5 w' → ∀ k v, (cells8 d0)[k]? = some v → w'.cell? ⟨b, o + k, none⟩ = some v) := fun w' hb k v hv => by
     have := ((hbw5.out.trans (hb.mono hbw5.out.size)).cell (p := ⟨b, o + 0 * 32 + k, none⟩) hbb).trans (hdc0 k v hv)
     simpa using this
    have hbbh := Lib.hid hbb
    have hn0 : ¬ n = 0 := by omega
    clear hp hpw hdc0 hbb
    go_wp2_with fail
    have hbq : Hid (b < w.heap.size) := hbbh.out
    have hdk : Hid (∀ w', Kept (fun k => k = m16 ∨ k = m17) w5 w' → ∀ k v, (cells8 d0)[k]? = some v → w'.cell? ⟨b, o + k, none⟩ = some v) := fun w' hk k v hv => (hk.cell (p := ⟨b, o + k, none⟩) (by have := hbq.out; have := hbw5.out.size; show b < _; omega) (fun h => by have := hbq.out; have := hl16.out; have := hl17.out; have := hb3.out.size; have := hb4.out.size; rcases h with h | h <;> (have h : b = _ := h; omega))).trans (hdc.out w5 (Below.refl _ _) k v hv)
    have s0 : Hid (Kept (fun k => k = m16 ∨ k = m17) w5 w5.drew) := (Kept.refl _ _).drew
    refine held_start (fun w' => Kept (fun k => k = m16 ∨ k = m17) w5 w') 9 rfl (by kernel_rfl) ?_
    refine Held.tk0 (i := 0) (v := .slice (some ⟨b, o, none⟩) n c) rfl s0.out (fun w' hw' => run_mv (.tmp 4) rfl w') ?_
    (intro K k; go_simp; apply k; clear k K)
    refine Held.tk0 (i := 1) (v := .pointer (some ⟨b, o, none⟩)) rfl s0.out (fun w' hw' => by go_simp) ?_
    (intro K k; go_simp; apply k; clear k K)
    refine Held.tk0 (i := 2) (v := .agg (cells8 d0).toArray) rfl s0.out (fun w' hw' => exec_part 23 (.tmp 37) rfl (b) (o) rfl (cells8 d0) _ (hdk.out w' hw') Tryd.underlying23 rfl Fx.out.part) ?_
    (intro K k; go_simp; apply k; clear k K)
    refine Held.tk0 (i := 3) (v := .slice (some ⟨b, o, none⟩) n c) rfl s0.out (fun w' hw' => run_mv (.tmp 4) rfl w') ?_
    (intro K k; go_simp; apply k; clear k K)
    refine Held.tk0 (i := 4) (v := .pointer (some ⟨b, o, none⟩)) rfl s0.out (fun w' hw' => by go_simp) ?_
    (intro K k; go_simp; apply k; clear k K)
    refine Held.tk0 (i := 5) (v := .agg (cells8 d0).toArray) rfl s0.out (fun w' hw' => exec_part 23 (.tmp 40) rfl (b) (o) rfl (cells8 d0) _ (hdk.out w' hw') Tryd.underlying23 rfl Fx.out.part) ?_
    (intro K k; go_simp; apply k; clear k K)
    refine held_only (i := 6) rfl (by kernel_rfl) (by rfl) (fun K hK => ?_)
    refine wp_store_whole 23 (.tmp 16) (.tmp 38) rfl (m16) ((cells8 d0).toArray) rfl rfl 23 (cells8 root).toArray hM16.out Fx.out.size (Fx.out.same root (by have := Fr.out.part; rw [← cells8_len]; have h2 := size31; rw [h2] at this; simpa using this.symm)) Fx.out.one ?_
    intro w7 q7 k7
    have h7 : Hid (Kept (fun k => k = m16 ∨ k = m17) w5 w7) := s0.out.trans k7 (fun i _ h => .inl h)
    have o7 : Hid (Blk w7 m17 23 (cells8 root).toArray) := Blk.kept (w := w5.drew) hM17.out k7 (fun h => hne.out (Eq.symm h))
    go_simp
    refine hK _ _ h7.out ?_
    clear hK K
    refine held_only (i := 7) rfl (by kernel_rfl) (by rfl) (fun K hK => ?_)
    refine wp_store_whole 23 (.tmp 17) (.tmp 41) rfl (m17) ((cells8 d0).toArray) rfl rfl 23 (cells8 root).toArray o7.out Fx.out.size (Fx.out.same root (by have := Fr.out.part; rw [← cells8_len]; have h2 := size31; rw [h2] at this; simpa using this.symm)) Fx.out.one ?_
    intro w8 q8 k8
    have h8 : Hid (Kept (fun k => k = m16 ∨ k = m17) w5 w8) := h7.out.trans k8 (fun i _ h => .inr h)
    have o8 : Hid (Blk w8 m16 23 (cells8 d0).toArray) := q7.kept k8 (fun h => hne.out h)
    go_simp
    refine hK _ _ h8.out ?_
    clear hK K
    refine Held.tk0 (i := 8) (v := .int .i64 1) rfl h8.out (fun w' hw' => by first | go_simp | rfl) ?_
    (intro K k; go_simp; apply k; clear k K)
    refine held_end (by kernel_rfl) ?_
    go_wp2_with fail
    go_meet
    case rel => exact ⟨rfl, o8.out, q8, h8.out⟩
  case rest =>
   obtain ⟨rfl, hX16, hX17, hk6⟩ := hcut
   clear hpw hM16 hM17 hd0h hx0h hR4
   have hb6 : Hid (Below w3.heap.size w3 wc) := Kept.toBelow (hb4.out.trans (hk5.out.mono hb4.out.size)) hk6.out (fun k h => by have := hl16.out; have := hl17.out; have := hs4.out; rcases h with h | h <;> omega) (by have := hb4.out.size; have := hk5.out.size; omega)
   have hW6 : Hid (Blk wc w3.heap.size 255 #[.int .i64 s, .slice none 0 0]) := Blk.kept (w := w5) (show Blk w5 _ _ _ from (hk5.out.block _ hW4.out.lt).trans hW4.out) hk6.out (fun h => by have := hl16.out; have := hl17.out; have := hs4.out; rcases h with h | h <;> omega)
   have hI6 : Hid (Blk wc (w3.heap.size + 1) 255 #[.int .i64 s, .slice none 0 0]) := Blk.kept (w := w5) (show Blk w5 _ _ _ from (hk5.out.block _ hI4.out.lt).trans hI4.out) hk6.out (fun h => by have := hl16.out; have := hl17.out; have := hs4.out; rcases h with h | h <;> omega)
   have hlt : Hid (w3.heap.size < wc.heap.size ∧ w3.heap.size + 1 < wc.heap.size ∧ m16 < wc.heap.size ∧ m17 < wc.heap.size) := ⟨hW6.out.lt, hI6.out.lt, hX16.out.lt, hX17.out.lt⟩
   have hA0 : Hid (AhAt wc wc w3.heap.size (w3.heap.size + 1) none none m16 m17 s (aheadS s x0 low P low).fr (aheadS s x0 low P low).sr (aheadS s x0 low P low).ft (aheadS s x0 low P low).st) := by
    show AhAt _ _ _ _ _ _ _ _ _ _ _ _ _
    rw [aheadS_low]
    have e1 : ClAt wc w3.heap.size none s [] := ⟨_, [], hW6.out, World.ownsRow_nil _ _ _ _, rfl, (fun k e => by cases e), fun i q h => by simp at h⟩
    have e2 : ClAt wc (w3.heap.size + 1) none s [] := ⟨_, [], hI6.out, World.ownsRow_nil _ _ _ _, rfl, (fun k e => by cases e), fun i q h => by simp at h⟩
    exact ⟨hX16.out, hX17.out, e1, e2, (fun k e => by cases e), (fun k e => by cases e), (fun k e => by cases e), fun _ => rfl, fun _ => rfl, Kept.refl _ _⟩
   have hdis : Hid (w3.heap.size ≠ m16 ∧ w3.heap.size ≠ m17 ∧ w3.heap.size + 1 ≠ m16 ∧ w3.heap.size + 1 ≠ m17 ∧ m16 ≠ m17 ∧ w3.heap.size ≤ m16 ∧ w3.heap.size ≤ m17) := by have := hl16.out; have := hl17.out; have := hs4.out; have := hne.out; show _ ∧ _; omega
   obtain ⟨w6, rfl⟩ : ∃ w6 : World, w6 = wc := ⟨_, rfl⟩
   clear hW4 hI4 hW6 hI6 hX16 hX17 hk5 hk6 hl16 hl17 hne hs4 hb4
   go_wp2_with fail
   go_loopw [19] (fun v wr => ∃ (j : Nat) (r1 r2 : Option Nat), v = .int .i64 (j : Int) ∧ Hid (low ≤ j ∧ j ≤ n) ∧ Hid (AhAt w6 wr w3.heap.size (w3.heap.size + 1) r1 r2 m16 m17 s (aheadS s x0 low P j).fr (aheadS s x0 low P j).sr (aheadS s x0 low P j).ft (aheadS s x0 low P j).st)) (fun v _ => (n - intOf v).toNat)
   case atStart => exact ⟨low, none, none, rfl, ⟨Nat.le_refl _, by have := hlow.out; omega⟩, hA0.out⟩
   case round =>
    clear hA0
    obtain ⟨j, r1, r2, rfl, hj, hI⟩ := hrel
    have hbw : Hid (Below w3.heap.size w3 wr) := Kept.toBelow hb6.out hI.out.kept (fun k h => by have := hdis.out; rcases h with h | h | h | h <;> omega) hb6.out.size
    have hbW : Hid (Below w.heap.size w wr) := hb3.out.trans (hbw.out.mono hb3.out.size)
    have hZok := Lib.hid (hok.out j hj.out.1 hj.out.2)
    by_cases hlt2 : j < n
    ·obtain ⟨p, hp⟩ : ∃ p, ps[j]? = some p := ⟨_, List.getElem?_eq_getElem (by rw [hn.out]; exact hlt2)⟩
     obtain ⟨d, hd⟩ : ∃ d, ds[j]? = some d := ⟨_, List.getElem?_eq_getElem (by rw [hr.out.1]; exact hlt2)⟩
     have hst := Lib.hid (aheadS_succ (s := s) (x := x0) hj.out.1 (hPj.out j p d hp hd))
     have hZok2 := Lib.hid (hok.out (j + 1) (by have := hj.out.1; omega) hlt2)
     have hdl := Lib.hid (hr.out.2.1.at_ hd)
     have Fd := Lib.hid (fit (x := d) hdl.out)
     obtain ⟨Z, hZe⟩ : ∃ Z, Hid (aheadS s x0 low P j = Z) := ⟨_, Lib.hid rfl⟩
     obtain ⟨Y, hYe⟩ : ∃ Y, Hid (aheadS s x0 low P (j + 1) = Y) := ⟨_, Lib.hid rfl⟩
     rw [hZe.out] at hI hst hZok
     rw [hYe.out] at hst hZok2
     obtain ⟨bp, op, rfl, hbp, hpc0⟩ := hPr.out.at_ (by omega)
     have hpc : wr.cell? ⟨bp, op + j * 2, none⟩ = some (.int .i64 (p.1 : Int)) := by
      have h1 := flatP_at ps [] j p hp 0 (.int .i64 (p.1 : Int)) rfl
      rw [List.append_nil, List.getElem?_toArray] at h1
      have h2 := hpc0 _ _ h1
      rw [Nat.add_zero] at h2
      exact (hbw.out.cell (p := ⟨bp, op + j * 2, none⟩) hbp).trans h2
     obtain ⟨b, o, rfl, hbb, hdc0⟩ := hr.out.at_ hd
     have hdc : Hid (∀ w', Below w.heap.size w w' → ∀ k v, (cells8 d)[k]? = some v → w'.cell? ⟨b, o + j * 32 + k, none⟩ = some v) := fun w' hb k v hv => (hb.cell (p := ⟨b, o + j * 32 + k, none⟩) hbb).trans (hdc0 k v hv)
     have hjn : Hid (j + 1 ≤ n) := hlt2
     have z1 : (0 : Int) ≤ (j : Int) := by omega
     have z2 : (j : Int) < (n : Int) := by omega
     have z3 : (n : Int) ≤ 41 := by have := hn41.out; omega
     have Fa := Lib.hid (fit (x := Z.fr) hZok.out.fl)
     have Fb := Lib.hid (fit (x := Z.sr) hZok.out.sl)
     clear hlt2 hp hd hpc0 hdc0 hbb hbp
     by_cases hside : old ≤ p.1
     ·have hY : Hid (Y = ⟨Z.fr, ndOf s Z.sr d, Z.ft, Z.st ++ [kb 1 :: (Z.sr ++ d)]⟩) := by show _ = _; rw [hst.out, ahead1, if_pos (by simp [bh, hside])]
      obtain ⟨zb, hzb⟩ : ∃ z, Hid (ndOf s Z.sr d = z) := ⟨_, Lib.hid rfl⟩
      have Fzb := Lib.hid (fit (x := zb) (by rw [← hzb.out]; exact ndOf_len s _ _))
      rw [hzb.out] at hY
      have hq65 : Hid (∀ q ∈ Z.st ++ [kb 1 :: (Z.sr ++ d)], q.length = 65) := by have := hZok2.out.st; rw [hY.out] at this; exact this
      have zt : (old : Int) ≤ (p.1 : Int) := by omega
      clear hside hst
      go_wp2_with fail
      refine wp_region_class_tail 6 (Class wr) (by kernel_rfl) (by kernel_rfl) (Class.mk_ ((Below.refl _ _).drew)) ?_
      refine wpQuiet_move rfl (.tmp 15) rfl ?_
      (intro K k; go_simp; apply k; clear k K)
      refine wpQuiet_load_row rfl 23 (.tmp 17) rfl m17 rfl 23 ((cells8 Z.sr).toArray) (0, 0) _ (fun w' hw' => (hw'.below.block _ hI.out.lf2.lt).trans hI.out.lf2) Tryd.underlying23 rfl Fb.out.size ?_
      (intro K k; go_simp; apply k; clear k K)
      refine wpQuiet_move rfl (.tmp 4) rfl ?_
      (intro K k; go_simp; apply k; clear k K)
      refine wpQuiet_move rfl (.tmp 19) rfl ?_
      (intro K k; go_simp; apply k; clear k K)
      refine wpQuiet_val (v := .pointer (some ⟨b, o + j * 32, none⟩)) rfl (fun w' hw' => by go_simp) ?_
      (intro K k; go_simp; apply k; clear k K)
      refine wpQuiet_load_part rfl 23 (.tmp 60) rfl b (o + j * 32) rfl (cells8 d) _ (fun w' hw' => hdc.out w' (hbW.out.trans (hw'.below.mono hbW.out.size))) Tryd.underlying23 rfl Fd.out.part ?_
      (intro K k; go_simp; apply k; clear k K)
      refine wpQuiet_nil ?_
      intro u7 hu7
      have hbu7 : Hid (Below w.heap.size w u7) := hbW.out.trans (hu7.below.mono hbW.out.size)
      simp only [List.drop]
      go_wp2_with fail
      refine (node_walk (w3.heap.size + 1) r2 s Z.st Z.sr d hZok.out.sl hdl.out u7 (hBs.out _ hbu7.out) (by have := hgb.out; have := hs3.out; omega) (ClAtM.kept hI.out.cl2 (Kept.of_below hu7.below) (fun h => h) (fun _ _ h => h)) (by have := hZok.out.sk; have := hn41.out; have := hjn.out; omega)).mono ?_
      rw [hzb.out]
      rintro e y7 ⟨rfl, hC7⟩
      obtain ⟨hB7, rn7, hN7⟩ := AhAt.step (z := zb) hI.out.swap hu7.below hC7 hq65.out hZok.out.ft hZok.out.sl (by omega) hdis.out.2.2.2.1 hdis.out.2.2.1 hdis.out.2.1 (fun e => hdis.out.2.2.2.2.1 e.symm) ⟨hlt.out.2.1, hlt.out.1, hlt.out.2.2.2, hlt.out.2.2.1⟩
      replace hB7 := Lib.hid hB7
      replace hN7 := Lib.hid hN7.swap
      have hq7 := Lib.hid (Fzb.out.same Z.sr hZok.out.sl)
      clear hC7
      go_wp2_with ((with_reducible change wpList _ _ _ ({ dst := none, op := Op.store 23 _ _, type := _, pos := _, after := _, guard := _ } :: _) _ _); refine wpList_store_row (o := ⟨none, _, _, _, _, _⟩) rfl 23 (.tmp 17) (.tmp 62) rfl (m17) ((cells8 zb).toArray) rfl rfl 23 ((cells8 Z.sr).toArray) hB7.out Fzb.out.size hq7.out Fzb.out.one ?_)
      go_roundw
      case rel => exact ⟨j + 1, r1, rn7, by go_num, ⟨by have := hj.out.1; omega, hjn.out⟩, (by show AhAt _ _ _ _ _ _ _ _ _ _ _ _ _; rw [hYe.out, hY.out]; exact hN7.out)⟩
      case measure => (have := hjn.out; simp [intOf]; omega)
     ·have hY : Hid (Y = ⟨ndOf s d Z.fr, ndOf s d Z.sr, Z.ft ++ [kb 1 :: (d ++ Z.fr)], Z.st ++ [kb 1 :: (d ++ Z.sr)]⟩) := by show _ = _; rw [hst.out, ahead1, if_neg (by simp [bh]; omega)]
      obtain ⟨za, hza⟩ : ∃ z, Hid (ndOf s d Z.fr = z) := ⟨_, Lib.hid rfl⟩
      have Fza := Lib.hid (fit (x := za) (by rw [← hza.out]; exact ndOf_len s _ _))
      obtain ⟨zb, hzb⟩ : ∃ z, Hid (ndOf s d Z.sr = z) := ⟨_, Lib.hid rfl⟩
      have Fzb := Lib.hid (fit (x := zb) (by rw [← hzb.out]; exact ndOf_len s _ _))
      have hzal : Hid (za.length = 32) := by show _ = _; rw [← hza.out]; exact ndOf_len s _ _
      rw [hza.out, hzb.out] at hY
      have hq65 : Hid (∀ q ∈ Z.st ++ [kb 1 :: (d ++ Z.sr)], q.length = 65) := by have := hZok2.out.st; rw [hY.out] at this; exact this
      have hf65 : Hid (∀ q ∈ Z.ft ++ [kb 1 :: (d ++ Z.fr)], q.length = 65) := by have := hZok2.out.ft; rw [hY.out] at this; exact this
      have zt : ¬ ((old : Int) ≤ (p.1 : Int)) := by omega
      clear hside hst
      go_wp2_with fail
      refine wp_region_class_tail 6 (Class wr) (by kernel_rfl) (by kernel_rfl) (Class.mk_ ((Below.refl _ _).drew)) ?_
      refine wpQuiet_move rfl (.tmp 14) rfl ?_
      (intro K k; go_simp; apply k; clear k K)
      refine wpQuiet_move rfl (.tmp 4) rfl ?_
      (intro K k; go_simp; apply k; clear k K)
      refine wpQuiet_move rfl (.tmp 19) rfl ?_
      (intro K k; go_simp; apply k; clear k K)
      refine wpQuiet_val (v := .pointer (some ⟨b, o + j * 32, none⟩)) rfl (fun w' hw' => by go_simp) ?_
      (intro K k; go_simp; apply k; clear k K)
      refine wpQuiet_load_part rfl 23 (.tmp 66) rfl b (o + j * 32) rfl (cells8 d) _ (fun w' hw' => hdc.out w' (hbW.out.trans (hw'.below.mono hbW.out.size))) Tryd.underlying23 rfl Fd.out.part ?_
      (intro K k; go_simp; apply k; clear k K)
      refine wpQuiet_load_row rfl 23 (.tmp 16) rfl m16 rfl 23 ((cells8 Z.fr).toArray) (0, 0) _ (fun w' hw' => (hw'.below.block _ hI.out.lf1.lt).trans hI.out.lf1) Tryd.underlying23 rfl Fa.out.size ?_
      (intro K k; go_simp; apply k; clear k K)
      refine wpQuiet_nil ?_
      intro u7 hu7
      have hbu7 : Hid (Below w.heap.size w u7) := hbW.out.trans (hu7.below.mono hbW.out.size)
      simp only [List.drop]
      go_wp2_with fail
      refine (node_walk w3.heap.size r1 s Z.ft d Z.fr hdl.out hZok.out.fl u7 (hBs.out _ hbu7.out) (by have := hgb.out; have := hs3.out; omega) (ClAtM.kept hI.out.cl1 (Kept.of_below hu7.below) (fun h => h) (fun _ _ h => h)) (by have := hZok.out.fk; have := hn41.out; have := hjn.out; omega)).mono ?_
      rw [hza.out]
      rintro e y7 ⟨rfl, hC7⟩
      obtain ⟨hB7, rn7, hN7⟩ := AhAt.step (z := za) hI.out hu7.below hC7 hf65.out hZok.out.st hZok.out.fl (by omega) hdis.out.1 hdis.out.2.1 hdis.out.2.2.1 hdis.out.2.2.2.2.1 hlt.out
      replace hB7 := Lib.hid hB7
      replace hN7 := Lib.hid hN7
      have hq7 := Lib.hid (Fza.out.same Z.fr hZok.out.fl)
      clear hC7
      go_wp2_with ((with_reducible change wpList _ _ _ ({ dst := none, op := Op.store 23 _ _, type := _, pos := _, after := _, guard := _ } :: _) _ _); refine wpList_store_row (o := ⟨none, _, _, _, _, _⟩) rfl 23 (.tmp 16) (.tmp 69) rfl (m16) ((cells8 za).toArray) rfl rfl 23 ((cells8 Z.fr).toArray) hB7.out Fza.out.size hq7.out Fza.out.one ?_)
      generalize y7.setRow m16 (cells8 za).toArray = y8 at *
      have hbw8 : Hid (Below w3.heap.size w3 y8) := Kept.toBelow hb6.out hN7.out.kept (fun k h => by have := hdis.out; rcases h with h | h | h | h <;> omega) hb6.out.size
      have hbW8 : Hid (Below w.heap.size w y8) := hb3.out.trans (hbw8.out.mono hb3.out.size)
      clear hB7 hq7 hI hbw hbW hu7 hbu7
      refine wp_region_class_tail 6 (Class y8) (by kernel_rfl) (by kernel_rfl) (Class.mk_ ((Below.refl _ _).drew)) ?_
      refine wpQuiet_move rfl (.tmp 15) rfl ?_
      (intro K k; go_simp; apply k; clear k K)
      refine wpQuiet_move rfl (.tmp 4) rfl ?_
      (intro K k; go_simp; apply k; clear k K)
      refine wpQuiet_move rfl (.tmp 19) rfl ?_
      (intro K k; go_simp; apply k; clear k K)
      refine wpQuiet_val (v := .pointer (some ⟨b, o + j * 32, none⟩)) rfl (fun w' hw' => by go_simp) ?_
      (intro K k; go_simp; apply k; clear k K)
      refine wpQuiet_load_part rfl 23 (.tmp 73) rfl b (o + j * 32) rfl (cells8 d) _ (fun w' hw' => hdc.out w' (hbW8.out.trans (hw'.below.mono hbW8.out.size))) Tryd.underlying23 rfl Fd.out.part ?_
      (intro K k; go_simp; apply k; clear k K)
      refine wpQuiet_load_row rfl 23 (.tmp 17) rfl m17 rfl 23 ((cells8 Z.sr).toArray) (0, 0) _ (fun w' hw' => (hw'.below.block _ hN7.out.lf2.lt).trans hN7.out.lf2) Tryd.underlying23 rfl Fb.out.size ?_
      (intro K k; go_simp; apply k; clear k K)
      refine wpQuiet_nil ?_
      intro u9 hu9
      have hbu9 : Hid (Below w.heap.size w u9) := hbW8.out.trans (hu9.below.mono hbW8.out.size)
      simp only [List.drop]
      go_wp2_with fail
      refine (node_walk (w3.heap.size + 1) r2 s Z.st d Z.sr hdl.out hZok.out.sl u9 (hBs.out _ hbu9.out) (by have := hgb.out; have := hs3.out; omega) (ClAtM.kept hN7.out.cl2 (Kept.of_below hu9.below) (fun h => h) (fun _ _ h => h)) (by have := hZok.out.sk; have := hn41.out; have := hjn.out; omega)).mono ?_
      rw [hzb.out]
      rintro e y9 ⟨rfl, hC9⟩
      obtain ⟨hB9, rn9, hN9⟩ := AhAt.step (z := zb) hN7.out.swap hu9.below hC9 hq65.out hf65.out hZok.out.sl (by omega) hdis.out.2.2.2.1 hdis.out.2.2.1 hdis.out.2.1 (fun e => hdis.out.2.2.2.2.1 e.symm) ⟨hlt.out.2.1, hlt.out.1, hlt.out.2.2.2, hlt.out.2.2.1⟩
      replace hB9 := Lib.hid hB9
      replace hN9 := Lib.hid hN9.swap
      have hq9 := Lib.hid (Fzb.out.same Z.sr hZok.out.sl)
      clear hC9
      go_wp2_with ((with_reducible change wpList _ _ _ ({ dst := none, op := Op.store 23 _ _, type := _, pos := _, after := _, guard := _ } :: _) _ _); refine wpList_store_row (o := ⟨none, _, _, _, _, _⟩) rfl 23 (.tmp 17) (.tmp 76) rfl (m17) ((cells8 zb).toArray) rfl rfl 23 ((cells8 Z.sr).toArray) hB9.out Fzb.out.size hq9.out Fzb.out.one ?_)
      go_roundw
      case rel => exact ⟨j + 1, rn7, rn9, by go_num, ⟨by have := hj.out.1; omega, hjn.out⟩, (by show AhAt _ _ _ _ _ _ _ _ _ _ _ _ _; rw [hYe.out, hY.out]; exact hN9.out)⟩
      case measure => (have := hjn.out; simp [intOf]; omega)
    ·obtain rfl : j = n := by have := hj.out; omega
     have z2 : ¬ ((j : Int) < (j : Int)) := by omega
     obtain ⟨Z, hZe⟩ : ∃ Z, aheadS s x0 low P j = Z := ⟨_, rfl⟩
     rw [hZe] at hI hZok ⊢
     have Fa := Lib.hid (fit (x := Z.fr) hZok.out.fl)
     have Fb := Lib.hid (fit (x := Z.sr) hZok.out.sl)
     have hAr : Hid (Blk wr (w.heap.size + 1) 23 Z32) := (hbw.out.block _ hA3.out.lt).trans hA3.out
     have hEr : Hid (Blk wr (w.heap.size + 2) 23 Z32) := (hbw.out.block _ hE3.out.lt).trans hE3.out
     obtain ⟨v1, xs1, cb1, co1, cv1, cn1, cx1⟩ := hI.out.cl1
     obtain ⟨v2, xs2, cb2, co2, cv2, cn2, cx2⟩ := hI.out.cl2
     obtain ⟨A1, c1, rfl, -⟩ := Append.Own.reads co1
     obtain ⟨A2, c2, rfl, -, -, hnil2, hrd2, -⟩ := Append.Own.reads co2
     obtain ⟨S, hS⟩ : ∃ S : Nat → Prop, Hid (S = fun k => some k = r1 ∨ k = w.heap.size + 1 ∨ k = w.heap.size + 2) := ⟨_, rfl⟩
     have hr1 : Hid (∀ k, some k = r1 → w6.heap.size ≤ k) := fun k e => hI.out.n1 k e.symm
     have hw6s : Hid (w.heap.size + 3 ≤ w6.heap.size) := by have := hs3.out; have := hb6.out.size; show _ ≤ _; omega
     have hSf : Hid (∀ g, S g → (∃ t cs, Blk wr g t cs ∧ cs.size < 65) ∨ (∃ u, wr.cell? ⟨g, 0, none⟩ = some u ∧ ∀ n, u ≠ .int .u8 n)) := fun g hg => by
      rw [hS.out] at hg
      rcases hg with hg | rfl | rfl
      ·exact .inr (ClAt.front hI.out.cl1 hI.out.e1 g (.inr hg))
      ·exact .inl ⟨_, _, hAr.out, by simp [Z32]⟩
      ·exact .inl ⟨_, _, hEr.out, by simp [Z32]⟩
     have hnS : Hid (∀ k, w.heap.size + 3 ≤ k → k < w6.heap.size → ¬ S k) := fun k h1 h2 h => by
      rw [hS.out] at h
      rcases h with h | h | h
      ·have := hr1.out k h; omega
      ·omega
      ·omega
     have hx65 := Lib.hid (And.intro hZok.out.ft hZok.out.st)
     obtain ⟨n1, hn1⟩ : ∃ n1, Z.ft.length = n1 := ⟨_, rfl⟩
     obtain ⟨n2, hn2⟩ : ∃ n2, Z.st.length = n2 := ⟨_, rfl⟩
     have hk1 : Hid (n1 ≤ 41 ∧ n2 ≤ 41) := by have := hZok.out.fk; have := hZok.out.sk; have := hn41.out; show _ ∧ _; omega
     rw [hn1] at co1
     rw [hn2] at co2 hrd2 hnil2
     have hn1h := Lib.hid hn1
     have hn2h := Lib.hid hn2
     have hL1 : Hid (∀ w', Kept S wr w' → Blk w' m16 23 (cells8 Z.fr).toArray) := fun w' h => hI.out.lf1.kept h (hnS.out m16 (by have := hdis.out; have := hs3.out; omega) hlt.out.2.2.1)
     have hL2 : Hid (∀ w', Kept S wr w' → Blk w' m17 23 (cells8 Z.sr).toArray) := fun w' h => hI.out.lf2.kept h (hnS.out m17 (by have := hdis.out; have := hs3.out; omega) hlt.out.2.2.2)
     have hL3 : Hid (∀ w', Kept S wr w' → w'.cell? ⟨w3.heap.size, 1, none⟩ = some (.slice A1 n1 c1)) := fun w' h => by
      have h2 : Blk w' w3.heap.size 255 #[.int .i64 s, .slice A1 Z.ft.length c1] := cb1.kept h (hnS.out _ (by have := hs3.out; omega) hlt.out.1)
      rw [hn1] at h2
      exact h2.cell 1
     have hL4 : Hid (∀ w', Kept S wr w' → w'.cell? ⟨w3.heap.size + 1, 1, none⟩ = some (.slice A2 n2 c2)) := fun w' h => by
      have h2 : Blk w' (w3.heap.size + 1) 255 #[.int .i64 s, .slice A2 Z.st.length c2] := cb2.kept h (hnS.out _ (by have := hs3.out; omega) hlt.out.2.1)
      rw [hn2] at h2
      exact h2.cell 1
     have hv1 : Hid ((Value.slice A1 n1 c1).ownBlock = r1) := by rw [hn1] at cv1; exact cv1
     have hone2 : Hid (∀ u ∈ xs2, u.oneCell' = true) := fun u hu => by
      obtain ⟨i, hi, rfl⟩ := List.getElem_of_mem hu
      have hl : xs2.length = n2 := by simpa using hrd2.1
      obtain ⟨q, hq⟩ : ∃ q, Z.st[i]? = some q := ⟨_, List.getElem?_eq_getElem (by omega)⟩
      obtain ⟨g, cq, a1, -⟩ := cx2 i q hq
      rw [List.getElem?_eq_getElem hi] at a1
      rw [Option.some.inj a1]
      rfl
     have hxl1 : Hid (xs1.length = Z.ft.length) := by show _ = _; have := co1.1; rw [hn1]; simpa using this
     replace co1 := Lib.hid co1
     replace hrd2 := Lib.hid hrd2
     replace hnil2 := Lib.hid hnil2
     replace cx1 := Lib.hid cx1
     replace cx2 := Lib.hid cx2
     clear co2 cb1 cb2 cv1 cv2 cn1 cn2 hn1 hn2
     go_wp2_with fail
     have s0 : Hid (Kept S wr wr.drew) := (Kept.refl _ _).drew
     refine held_start (fun w' => Kept S wr w') 14 rfl (by kernel_rfl) ?_
     refine Held.tk0 (i := 0) (v := .agg ((cells8 Z.fr).toArray)) rfl s0.out (fun w' hw' => exec_row 23 (.tmp 16) rfl (m16) rfl 23 ((cells8 Z.fr).toArray) (0, 0) _ (hL1.out w' hw') Tryd.underlying23 rfl Fa.out.size) ?_
     (intro K k; go_simp; apply k; clear k K)
     refine Held.tk0 (i := 1) (v := .agg ((cells8 Z.sr).toArray)) rfl s0.out (fun w' hw' => exec_row 23 (.tmp 17) rfl (m17) rfl 23 ((cells8 Z.sr).toArray) (0, 0) _ (hL2.out w' hw') Tryd.underlying23 rfl Fb.out.size) ?_
     (intro K k; go_simp; apply k; clear k K)
     refine Held.tk0 (i := 2) (v := .pointer (some ⟨w3.heap.size, 0, none⟩)) rfl s0.out (fun w' hw' => run_mv (.tmp 14) rfl w') ?_
     (intro K k; go_simp; apply k; clear k K)
     refine Held.tk0 (i := 3) (v := .pointer (some ⟨w3.heap.size, 0, none⟩)) rfl s0.out (fun w' hw' => by go_simp) ?_
     (intro K k; go_simp; apply k; clear k K)
     refine Held.tk0 (i := 4) (v := .pointer (some ⟨w3.heap.size, 1, none⟩)) rfl s0.out (fun w' hw' => by go_simp) ?_
     (intro K k; go_simp; apply k; clear k K)
     refine Held.tk0 (i := 5) (v := .slice A1 n1 c1) rfl s0.out (fun w' hw' => by have h := hL3.out w' hw'; go_simp) ?_
     (intro K k; go_simp; apply k; clear k K)
     refine Held.tk0 (i := 6) (v := .pointer (some ⟨w3.heap.size + 1, 0, none⟩)) rfl s0.out (fun w' hw' => run_mv (.tmp 15) rfl w') ?_
     (intro K k; go_simp; apply k; clear k K)
     refine Held.tk0 (i := 7) (v := .pointer (some ⟨w3.heap.size + 1, 0, none⟩)) rfl s0.out (fun w' hw' => by go_simp) ?_
     (intro K k; go_simp; apply k; clear k K)
     refine Held.tk0 (i := 8) (v := .pointer (some ⟨w3.heap.size + 1, 1, none⟩)) rfl s0.out (fun w' hw' => by go_simp) ?_
     (intro K k; go_simp; apply k; clear k K)
     refine Held.tk0 (i := 9) (v := .slice A2 n2 c2) rfl s0.out (fun w' hw' => by have h := hL4.out w' hw'; go_simp) ?_
     (intro K k; go_simp; apply k; clear k K)
     refine held_only (i := 10) rfl (by kernel_rfl) (by rfl) (fun K hK => ?_)
     refine wp_append_src _ (.tmp 82) (.tmp 86) 24 rfl 0 27 i0 (.slice none 0 0) 1 24 Tryd.underlying24 ii iz0 iz1 iz2 rfl (by decide) (.slice A1 n1 c1) n1 xs1 rfl co1.out A2 n2 c2 xs2 rfl hrd2.out hnil2.out hone2.out (by have := hk1.out; unfold maxLen; omega) (by have := hk1.out; omega) (Nat.zero_le _) ?_
     intro v8 w8 hG
     obtain ⟨A8, c8, rfl, -⟩ := Append.Own.reads hG.own
     have h8 : Hid (Kept S wr w8) := (Kept.refl S wr).drew.grown hG.grow (fun k e => .inl (by rw [hS.out]; exact .inl (by rw [← hv1.out, e])))
     have hat : Hid (∀ k, (Value.slice A8 (n1 + n2) c8).ownBlock = some k → w6.heap.size ≤ k) := fun k e => by
      rcases hG.at_ with h | h
      ·rw [h] at e; exact hr1.out k (by rw [← hv1.out, e])
      ·rw [h] at e; have h9 : wr.heap.size = k := Option.some.inj e; have := hI.out.kept.size; omega
     have hA8 : Hid (Blk w8 (w.heap.size + 1) 23 Z32) := Blk.grown (w := wr.drew) hAr.out hG.grow (fun e => by have h := hr1.out _ (e.trans hv1.out); have := hw6s.out; omega)
     have hE8 : Hid (Blk w8 (w.heap.size + 2) 23 Z32) := Blk.grown (w := wr.drew) hEr.out hG.grow (fun e => by have h := hr1.out _ (e.trans hv1.out); have := hw6s.out; omega)
     replace hG := Lib.hid hG
     go_simp
     refine hK _ _ h8.out ?_
     clear hK K
     refine held_only (i := 11) rfl (by kernel_rfl) (by rfl) (fun K hK => ?_)
     refine wp_store_whole 23 (.tmp 10) (.tmp 77) rfl (w.heap.size + 1) ((cells8 Z.fr).toArray) rfl rfl 23 Z32 hA8.out Fa.out.size Fa.out.zero Fa.out.one ?_
     intro w9 q9 k9
     have h9 : Hid (Kept S wr w9) := h8.out.trans k9 (fun i _ h => by rw [hS.out]; exact .inr (.inl h))
     go_simp
     refine hK _ _ h9.out ?_
     clear hK K
     refine held_only (i := 12) rfl (by kernel_rfl) (by rfl) (fun K hK => ?_)
     refine wp_store_whole 23 (.tmp 11) (.tmp 78) rfl (w.heap.size + 2) ((cells8 Z.sr).toArray) rfl rfl 23 Z32 (hE8.out.kept k9 (by omega)) Fb.out.size Fb.out.zero Fb.out.one ?_
     intro w10 q10 k10
     have h10 : Hid (Kept S wr w10) := h9.out.trans k10 (fun i _ h => by rw [hS.out]; exact .inr (.inr h))
     go_simp
     refine hK _ _ h10.out ?_
     clear hK K
     refine Held.tk0 (i := 13) (v := .slice A8 (n1 + n2) c8) rfl h10.out (fun w' hw' => by first | go_simp | rfl) ?_
     (intro K k; go_simp; apply k; clear k K)
     refine held_end (by kernel_rfl) ?_
     have hQ1 : Hid (Blk w10 (w.heap.size + 1) 23 (cells8 Z.fr).toArray) := Blk.kept q9 k10 (by omega)
     have hQ2 : Hid (Blk w10 (w.heap.size + 2) 23 (cells8 Z.sr).toArray) := q10
     have hO10 : w10.ownsRow 0 27 1 (.slice A8 (n1 + n2) c8) (n1 + n2) (xs1 ++ xs2) := own_kept (own_kept hG.out.own k9 (fun k e h => by have := hat.out k e; have := hw6s.out; omega)) k10 (fun k e h => by have := hat.out k e; have := hw6s.out; omega)
     have hO11 : Hid (w10.ownsRow w.heap.size 27 1 (.slice A8 (n1 + n2) c8) (n1 + n2) (xs1 ++ xs2)) := Go.Proofs.YtmdkfhfkdcbpgaaDoorR.RowsT.own_up hO10 (fun k e => by have := hat.out k e; have := hw6s.out; omega)
     have hT9 : Hid (Tx w10 (xs1 ++ xs2) (Z.ft ++ Z.st)) := (Txs.toTx cx1.out hx65.out.1 h10.out hSf.out).append (Txs.toTx cx2.out hx65.out.2 h10.out hSf.out) hxl1.out
     have hfin : Hid (Below w.heap.size w w10) := Kept.toBelow hbW.out h10.out (fun k h => by rw [hS.out] at h; rcases h with h | h | h; (have := hr1.out k h; have := hw6s.out; omega); omega; omega) hbW.out.size
     clear hG hO10
     go_wp2_with fail
     refine bodyPost_ret (results_ccr rfl _ _ (w.heap.size + 1) (w.heap.size + 2) 23 23 (cells8 Z.fr).toArray (cells8 Z.sr).toArray (0, 0) (0, 0) _ rfl hQ1.out rfl hQ2.out Tryd.underlying23 rfl Fa.out.size Fb.out.size) rfl ?_
     show AhOwn w _ _ _
     try rw [hZe]
     exact ⟨A8, c8, xs1 ++ xs2, by rw [hn1h.out, hn2h.out]; rfl, by rw [hn1h.out, hn2h.out]; exact hO11.out, hT9.out, hfin.out⟩
theorem ahead_any (s : Int) (old size : Nat) (h1 : 1 ≤ old) (h2 : old < size) (hs : size ≤ 1099511627776) (root : Text) (hrt : root.length = 32) (ds : List Text) (A : Option Addr) (n c : Nat) (hn : (partsOf old size).length = n) (w : World) (hB : Base w) (hr : RdD w A n ds) :
  Calls Tryd.prog 209 #[.int .i64 s, .int .i64 (old : Int), .int .i64 (size : Int), .agg (cells8 root).toArray, .slice A n c] w (AhPost w (aheadOf s old size root ds)) :=
 (ahead_own s old size h1 h2 hs root hrt ds A n c hn w hB hr).mono fun _ _ h => h.post
end Go.Proofs.YtmdkfhfkdcbpgaaDoorR.Ahead

namespace Go.Proofs.YtmdkfhfkdcbpgaaDoorR.AheadX
open Go Go.RowKit Go.Proofs.YtmdkfhfkdcbpgaaDoorR Digest Mem Sha ShaWalk Bytes Go.Proofs.YtmdkfhfkdcbpgaaDoorR.Append HashMem DigestMem DigestTop QuietTail Grown Chain TreeMath TreeMem TreeRoot Held Guard Book Node NodeW WayP RevP TreeRefRoot Climb Incl Subs RowsP Joint RefIncl0 AheadM AheadT Ahead Guard2 Want

theorem _root_.Go.Proofs.YtmdkfhfkdcbpgaaDoorR.Mem.Blk.onX {w w' : World} {g : Nat} {t : TypeId} {cs : Array Value} (h : Blk w g t cs) (hb : Below w.heap.size w w') : Blk w' g t cs := (hb.block g h.lt).trans h
set_option maxRecDepth 100000 in
set_option maxHeartbeats 4000000 in
theorem aheadx_any (s : Int) (old size : Nat) (h1 : 1 ≤ old) (h2 : old < size) (hs : size ≤ 1099511627776) (root : Text) (hrt : root.length = 32) (ds : List Text) (A : Option Addr) (n c : Nat) (hn : (partsOf old size).length = n) (w : World) (hB : Base w) (hr : RdD w A n ds) (Z : Ah) (hZ : aheadOf s old size root ds = Z) (hfr : Z.fr.length = 32) (hsr : Z.sr.length = 32) :
  Calls Tryd.prog 206 #[.int .i64 s, .int .i64 (old : Int), .int .i64 (size : Int), .agg (cells8 root).toArray, .slice A n c] w fun e w' => ∃ A' c' xs, e = .returned (.tuple #[.agg (cells8 Z.fr).toArray, .agg (cells8 Z.sr).toArray, .slice A' (Z.ft.length + Z.st.length) c', .int .i64 0]) ∧ w'.ownsRow w.heap.size 27 1 (.slice A' (Z.ft.length + Z.st.length) c') (Z.ft.length + Z.st.length) xs ∧ Tx w' xs (Z.ft ++ Z.st) ∧ Below w.heap.size w w' := by
 have hj : joinsB (old : Int) (size : Int) = true := by
  have a1 : (0 : Int) ≤ old := by omega
  have a2 : (old : Int) ≤ size := by omega
  have a3 : (size : Int) ≤ 1099511627776 := by omega
  simp [joinsB, a1, a2, a3]
 have hSz : Hid (∀ w', Calls Tryd.prog 81 #[.int .i64 (old : Int), .int .i64 (size : Int)] w' fun e w'' => e = .returned (.bool true) ∧ w' = w'') := fun w' => by have := sizes_any old size w'; rwa [hj] at this
 have hPt := Lib.hid (fun w' => parts_any old size (by omega) hs w')
 have hnh := Lib.hid hn
 have hAh := Lib.hid (fun w' (hb : Below w.heap.size w w') => ahead_own s old size h1 h2 hs root hrt ds A n c hn w' (hB.below hb hB.1) (hr.below hb))
 rw [hZ] at hAh
 have y1 : ((old : Int) == 0) = false := beq_eq_false_iff_ne.2 (by omega)
 have y2 : ((old : Int) == (size : Int)) = false := beq_eq_false_iff_ne.2 (by omega)
 have F0 := Lib.hid (fit (x := root) hrt)
 have Fa := Lib.hid (fit (x := Z.fr) hfr)
 have Fb := Lib.hid (fit (x := Z.sr) hsr)
 obtain ⟨k, hk⟩ : ∃ k, Z.ft.length + Z.st.length = k := ⟨_, rfl⟩
 unfold AhOwn at hAh
 rw [hk] at hAh ⊢
 obtain ⟨fr, hfre⟩ : ∃ x, Z.fr = x := ⟨_, rfl⟩
 obtain ⟨sr, hsre⟩ : ∃ x, Z.sr = x := ⟨_, rfl⟩
 obtain ⟨tx, htx⟩ : ∃ x, Z.ft ++ Z.st = x := ⟨_, rfl⟩
 rw [hfre, hsre, htx] at hAh
 rw [hfre] at Fa ⊢
 rw [hsre] at Fb ⊢
 rw [htx]
 have hb : Hid (Below w.heap.size w (((w.alloc (.cells (cells8 root).toArray 23)).alloc (.cells Z32 23)).alloc (.cells Z32 23))) := ((Below.heap_below w _).alloc (by simp) _).alloc (by simp; omega) _
 have hR : Hid (Blk (((w.alloc (.cells (cells8 root).toArray 23)).alloc (.cells Z32 23)).alloc (.cells Z32 23)) w.heap.size 23 (cells8 root).toArray) := ((Blk.new w _ _).alloc _).alloc _
 have hP : Hid (Blk (((w.alloc (.cells (cells8 root).toArray 23)).alloc (.cells Z32 23)).alloc (.cells Z32 23)) (w.heap.size + 1) 23 Z32) := by
  have := (Blk.new (w.alloc (.cells (cells8 root).toArray 23)) 23 Z32).alloc (.cells Z32 23)
  rwa [show (w.alloc (.cells (cells8 root).toArray 23)).heap.size = w.heap.size + 1 by simp] at this
 have hQ : Hid (Blk (((w.alloc (.cells (cells8 root).toArray 23)).alloc (.cells Z32 23)).alloc (.cells Z32 23)) (w.heap.size + 2) 23 Z32) := by
  have := heap_alloc2_new (w.alloc (.cells (cells8 root).toArray 23)) (.cells Z32 23) (.cells Z32 23)
  rwa [show (w.alloc (.cells (cells8 root).toArray 23)).heap.size = w.heap.size + 1 by simp] at this
 have hz : Hid ((((w.alloc (.cells (cells8 root).toArray 23)).alloc (.cells Z32 23)).alloc (.cells Z32 23)).heap.size = w.heap.size + 3) := by show _ = _; simp
 clear hj h1 h2 hs hrt hB hr hn hZ hfr hsr hk hfre hsre htx
 go_enter Tryd.func206, Tryd.ntmps206
 go_wp2_with (first
  | (go_at_call 81; refine (hSz.out _).mono ?_; rintro e w1 ⟨rfl, rfl⟩; clear hSz)
  | (go_at_call 82; refine (hPt.out _).mono ?_; rintro e w4 ⟨v, rfl, hO, kk⟩; rw [hnh.out] at hO; obtain ⟨Av, cv, rfl, -⟩ := Append.Own.reads hO; have hR4 := Lib.hid (hR.out.onX kk); have hP4 := Lib.hid (hP.out.onX kk); have hQ4 := Lib.hid (hQ.out.onX kk); have hb4 : Hid (Below w.heap.size w w4) := hb.out.trans (kk.mono hb.out.size); have hz4 : Hid (w.heap.size + 3 ≤ w4.heap.size) := Nat.le_trans (Nat.le_of_eq hz.out.symm) kk.size; clear hPt hO kk hR hP hQ hb)
  | ((with_reducible change wpList _ _ _ (⟨some 45, _, _, _, _, _⟩ :: _) _ _); refine wpList_load_row (o := ⟨some 45, _, _, _, _, _⟩) rfl 23 (.tmp 8) rfl (w.heap.size) rfl 23 ((cells8 root).toArray) (0, 0) _ hR4.out Tryd.underlying23 rfl F0.out.size ?_)
  | (go_at_call 209; refine (hAh.out _ hb4.out).mono ?_; rintro e w5 ⟨A5, c5, xs5, rfl, hO5, hT5, kk⟩; replace hO5 := Lib.hid (Go.Proofs.YtmdkfhfkdcbpgaaDoorR.RowsT.own_down hO5 hb4.out.size); replace hT5 := Lib.hid hT5; have hP5 := Lib.hid (hP4.out.onX kk); have hQ5 := Lib.hid (hQ4.out.onX kk); have hb5 : Hid (Below w.heap.size w w5) := hb4.out.trans (kk.mono hb4.out.size); have hz5 : Hid (w.heap.size + 3 ≤ w5.heap.size) := Nat.le_trans hz4.out kk.size; clear hAh kk hR4 hP4 hQ4 hb4 hz4)
  | ((with_reducible change wpList _ _ _ ({ dst := none, op := Op.store 23 (.tmp 14) _, type := _, pos := _, after := _, guard := _ } :: _) _ _); refine wpList_store_whole (o := ⟨none, _, _, _, _, _⟩) rfl 23 (.tmp 14) (.tmp 48) rfl (w5.heap.size) ((cells8 fr).toArray) rfl rfl 23 (Z32) ((Blk.new w5 _ _).alloc _) Fa.out.size Fa.out.zero Fa.out.one ?_; intro w6 hX6 kk; have hY6 : Hid (Blk w6 (w5.heap.size + 1) 23 Z32) := Blk.kept (heap_alloc2_new w5 _ _) kk (by omega); have k56 : Hid (Below w5.heap.size w5 w6) := ((Below.heap_below w5 _).alloc (by simp) _).trans (Kept.below_of kk (Nat.le_refl _) (by simp; omega)); replace hX6 := Lib.hid hX6; clear kk)
  | ((with_reducible change wpList _ _ _ ({ dst := none, op := Op.store 23 (.tmp 15) _, type := _, pos := _, after := _, guard := _ } :: _) _ _); refine wpList_store_whole (o := ⟨none, _, _, _, _, _⟩) rfl 23 (.tmp 15) (.tmp 49) rfl (w5.heap.size + 1) ((cells8 sr).toArray) rfl rfl 23 (Z32) hY6.out Fb.out.size Fb.out.zero Fb.out.one ?_; intro w7 hY7 kk; have hX7 := Lib.hid (hX6.out.kept kk (by omega)); have k57 : Below w5.heap.size w5 w7 := k56.out.trans (Kept.below_of kk (by omega) k56.out.size); have hP7 := Lib.hid (hP5.out.onX k57); have hQ7 := Lib.hid (hQ5.out.onX k57); have hb7 : Hid (Below w.heap.size w w7) := hb5.out.trans (k57.mono hb5.out.size); have hO7 := Lib.hid (Go.Proofs.YtmdkfhfkdcbpgaaDoorR.Own.own_below hO5.out k57); have hT7 := Lib.hid (hT5.out.below k57); replace hY7 := Lib.hid hY7; clear kk k57 k56 hX6 hY6 hP5 hQ5 hb5 hO5 hT5))
 have hX : Hid (∀ w', Kept (fun k => k = w.heap.size + 1 ∨ k = w.heap.size + 2) w7 w' → Blk w' w5.heap.size 23 (cells8 fr).toArray) := fun w' h => hX7.out.kept h (by have := hz5.out; omega)
 have hY : Hid (∀ w', Kept (fun k => k = w.heap.size + 1 ∨ k = w.heap.size + 2) w7 w' → Blk w' (w5.heap.size + 1) 23 (cells8 sr).toArray) := fun w' h => hY7.out.kept h (by have := hz5.out; omega)
 have s0 : Hid (Kept (fun k => k = w.heap.size + 1 ∨ k = w.heap.size + 2) w7 w7.drew) := (Kept.refl _ _).drew
 refine held_start (fun w' => Kept (fun k => k = w.heap.size + 1 ∨ k = w.heap.size + 2) w7 w') 7 rfl (by kernel_rfl) ?_
 refine Held.tk0 (i := 0) (v := .agg ((cells8 fr).toArray)) rfl s0.out (fun w' hw' => exec_row 23 (.tmp 14) rfl (w5.heap.size) rfl 23 ((cells8 fr).toArray) (0, 0) _ (hX.out w' hw') Tryd.underlying23 rfl Fa.out.size) ?_
 (intro K k; go_simp; apply k; clear k K)
 refine Held.tk0 (i := 1) (v := .agg ((cells8 sr).toArray)) rfl s0.out (fun w' hw' => exec_row 23 (.tmp 15) rfl (w5.heap.size + 1) rfl 23 ((cells8 sr).toArray) (0, 0) _ (hY.out w' hw') Tryd.underlying23 rfl Fb.out.size) ?_
 (intro K k; go_simp; apply k; clear k K)
 refine Held.tk0 (i := 2) (v := .slice A5 k c5) rfl s0.out (fun w' hw' => by first | go_simp | rfl) ?_
 (intro K k; go_simp; apply k; clear k K)
 refine held_only (i := 3) rfl (by kernel_rfl) (by rfl) (fun K hK => ?_)
 refine wp_store_whole 23 (.tmp 10) (.tmp 51) rfl (w.heap.size + 1) ((cells8 fr).toArray) rfl rfl 23 Z32 hP7.out Fa.out.size Fa.out.zero Fa.out.one ?_
 intro w8 q8 k8
 have h8 : Hid (Kept (fun k => k = w.heap.size + 1 ∨ k = w.heap.size + 2) w7 w8) := s0.out.trans k8 (fun i _ h => .inl h)
 have hQ8 : Hid (Blk w8 (w.heap.size + 2) 23 Z32) := Blk.kept (w := w7.drew) hQ7.out k8 (by omega)
 go_simp
 refine hK _ _ h8.out ?_
 clear hK K
 refine held_only (i := 4) rfl (by kernel_rfl) (by rfl) (fun K hK => ?_)
 refine wp_store_whole 23 (.tmp 11) (.tmp 52) rfl (w.heap.size + 2) ((cells8 sr).toArray) rfl rfl 23 Z32 hQ8.out Fb.out.size Fb.out.zero Fb.out.one ?_
 intro w9 q9 k9
 have h9 : Hid (Kept (fun k => k = w.heap.size + 1 ∨ k = w.heap.size + 2) w7 w9) := h8.out.trans k9 (fun i _ h => .inr h)
 have q10 : Hid (Blk w9 (w.heap.size + 1) 23 (cells8 fr).toArray) := Blk.kept q8 k9 (by omega)
 go_simp
 refine hK _ _ h9.out ?_
 clear hK K
 refine Held.tk0 (i := 5) (v := .slice A5 k c5) rfl h9.out (fun w' hw' => by first | go_simp | rfl) ?_
 (intro K k; go_simp; apply k; clear k K)
 refine Held.tk0 (i := 6) (v := .int .i64 0) rfl h9.out (fun w' hw' => by first | go_simp | rfl) ?_
 (intro K k; go_simp; apply k; clear k K)
 refine held_end (by kernel_rfl) ?_
 have hT9 : Tx w9 xs5 tx := Go.Proofs.YtmdkfhfkdcbpgaaDoorR.RowsT.Tx.small hT7.out h9.out (fun g h => by
  rcases h with rfl | rfl
  ·exact ⟨_, _, hP7.out, by decide⟩
  ·exact ⟨_, _, hQ7.out, by decide⟩)
 have hO9 : w9.ownsRow w.heap.size 27 1 (.slice A5 k c5) k xs5 := Go.Proofs.YtmdkfhfkdcbpgaaDoorR.RowsT.own_keepT hO7.out h9.out (fun g h => by
  rcases h with rfl | rfl
  ·exact ⟨_, _, hP7.out, by decide⟩
  ·exact ⟨_, _, hQ7.out, by decide⟩)
 have hb9 : Below w.heap.size w w9 := Kept.toBelow hb7.out h9.out (fun k h => by rcases h with h | h <;> omega) hb7.out.size
 go_wp2_with fail
 refine bodyPost_ret (results_ccrr rfl _ _ (w.heap.size + 1) (w.heap.size + 2) 23 23 (cells8 fr).toArray (cells8 sr).toArray (0, 0) (0, 0) _ rfl q10.out rfl q9 Tryd.underlying23 rfl Fa.out.size Fb.out.size) rfl ?_
 exact ⟨A5, c5, xs5, rfl, hO9, hT9, hb9⟩
end Go.Proofs.YtmdkfhfkdcbpgaaDoorR.AheadX

namespace Go.Proofs.YtmdkfhfkdcbpgaaDoorR.RowsY
open Go Go.RowKit Go.Proofs.YtmdkfhfkdcbpgaaDoorR Mem Sha Bytes Go.Proofs.YtmdkfhfkdcbpgaaDoorR.Append TreeMem Node Texts AheadT RowsT

def Ty (w : World) (xs : List Value) (ts : List Text) : Prop := ∀ (i : Nat) (q : Text), ts[i]? = some q → 0 < q.length ∧ ∃ g c, xs[i]? = some (.slice (some ⟨g, 0, none⟩) q.length c) ∧ q.length ≤ c ∧ Reads w 1 (some ⟨g, 0, none⟩) q.length (cells8 q)
theorem Tx.ty {w : World} {xs : List Value} {ts : List Text} (h : Tx w xs ts) : Ty w xs ts := fun i q hq => by
 obtain ⟨hl, g, c, a⟩ := h i q hq
 exact ⟨by omega, g, c, a⟩
theorem Ty.nil_ (w : World) : Ty w [] [] := fun i q h => by cases h
theorem Ty.append {w : World} {xs ys : List Value} {ts us : List Text} (h : Ty w xs ts) (k : Ty w ys us) (hl : xs.length = ts.length) : Ty w (xs ++ ys) (ts ++ us) := fun i q hq => by
 rcases Nat.lt_or_ge i ts.length with hi | hi
 ·rw [List.getElem?_append_left hi] at hq
  obtain ⟨hl, g, c, a1, a2, a3⟩ := h i q hq
  exact ⟨hl, g, c, by rw [List.getElem?_append_left (by omega)]; exact a1, a2, a3⟩
 ·rw [List.getElem?_append_right hi] at hq
  obtain ⟨hl', g, c, a1, a2, a3⟩ := k _ q hq
  exact ⟨hl', g, c, by rw [List.getElem?_append_right (by omega), hl]; exact a1, a2, a3⟩
theorem Ty.below {w w' : World} {xs : List Value} {ts : List Text} (h : Ty w xs ts) (hb : Below w.heap.size w w') : Ty w' xs ts := fun i q hq => by
 obtain ⟨hl, g, c, a1, a2, a3⟩ := h i q hq
 exact ⟨hl, g, c, a1, a2, a3.below hb⟩
theorem Ty.keep {S : Nat → Prop} {w w' : World} {xs : List Value} {ts : List Text} (h : Ty w xs ts) (hk : Kept S w w') (hS : ∀ g, S g → ∃ u, w.cell? ⟨g, 0, none⟩ = some u ∧ ∀ n, u ≠ .int .u8 n) : Ty w' xs ts := fun i q hq => by
 obtain ⟨hl, g, c, b1, b2, b3⟩ := h i q hq
 refine ⟨hl, g, c, b1, b2, b3.kept hk (fun b o e hs => ?_)⟩
 injection e with e
 injection e with e1 e2
 subst e1 e2
 obtain ⟨b', o, e1, -, e2⟩ := b3.at_ (by omega)
 injection e1 with e1
 injection e1 with e3 e4
 subst e3 e4
 obtain ⟨u, hu, hne⟩ := hS _ hs
 have h2 := e2 0 _ (cells8_at q 0 (by omega))
 rw [Nat.add_zero, hu] at h2
 exact hne _ (Option.some.inj h2)
theorem own_frontY {w : World} {B : Nat} {v : Value} {xs : List Value} {ts : List Text} (hO : w.ownsRow B 27 1 v ts.length xs) (hx : Ty w xs ts) (h0 : 0 < ts.length) : ∀ g, some g = v.ownBlock → ∃ u, w.cell? ⟨g, 0, none⟩ = some u ∧ ∀ n, u ≠ .int .u8 n := by
 intro g hg
 obtain ⟨q, hq⟩ : ∃ q, ts[0]? = some q := ⟨_, List.getElem?_eq_getElem h0⟩
 obtain ⟨-, gq, c, b1, -⟩ := hx 0 q hq
 obtain ⟨A, c2, rfl, -, -, -, hr, hA⟩ := Append.Own.reads hO
 obtain ⟨b', o, rfl, -, e2⟩ := hr.at_ (by omega)
 have h2 := e2 0 _ b1
 have h3 := (hA _ rfl).2
 rw [h3] at hg
 have hkb : g = b' := Option.some.inj hg
 have ho : o = 0 := by
  rcases hO.2 with ⟨e, -⟩ | ⟨g', cap, cur, e, -⟩
  ·injection e with e; cases e
  ·injection e with e; injection e with e; injection e
 subst hkb ho
 exact ⟨_, h2, fun n e => by cases e⟩
theorem Ty.pieces {w : World} {B : Nat} {v : Value} {xs : List Value} {ts : List Text} (hO : w.ownsRow B 27 1 v ts.length xs) (hx : Ty w xs ts) : ∃ A c, v = .slice A ts.length c ∧ ts.length ≤ c ∧ (A = none → ts.length = 0 ∧ c = 0) ∧ Pieces w A ts := by
 obtain ⟨A, c, e, hc, -, hnil, hr, -⟩ := Append.Own.reads hO
 refine ⟨A, c, e, hc, hnil, fun h0 => ?_⟩
 obtain ⟨b, o, e1, hb, hcs⟩ := hr.at_ (by omega)
 refine ⟨b, o, e1, hb, fun i q hq => ?_⟩
 obtain ⟨-, g, cq, a1, a2, a3⟩ := hx i q hq
 exact ⟨some ⟨g, 0, none⟩, cq, hcs i _ a1, a2, a3, fun h => by cases h⟩
theorem Ty.one {w : World} {B n : Nat} {v : Value} {xs : List Value} {ts : List Text} (hO : w.ownsRow B 27 1 v n xs) (h : Ty w xs ts) (hn : ts.length = n) : ∀ u ∈ xs, u.oneCell' = true := by
 intro u hu
 obtain ⟨j, hj, rfl⟩ := List.mem_iff_getElem.1 hu
 have hl : xs.length = n := by have := hO.1; omega
 obtain ⟨-, g, c, h1, -⟩ := h j _ (List.getElem?_eq_getElem (show j < ts.length by omega))
 rw [List.getElem?_eq_getElem hj] at h1
 rw [Option.some.inj h1]
 rfl
theorem ty_cat2 {w w' : World} {B n m : Nat} {v1 v' : Value} {xs1 xs2 : List Value} {ts1 ts2 : List Text} (l1 : ts1.length = n) (hO : w.ownsRow B 27 1 v1 n xs1) (h1 : Ty w xs1 ts1) (h2 : Ty w xs2 ts2) (h0 : n = 0 → v1 = .slice none 0 0)
  (hG : Grew w B 27 1 v1 n m xs1 xs2 v' w') : Ty w' (xs1 ++ xs2) (ts1 ++ ts2) ∧ w'.ownsRow B 27 1 v' (n + m) (xs1 ++ xs2) ∧ (n + m = 0 → v' = .slice none 0 0) := by
 subst l1
 have hk : Kept (fun k => some k = v1.ownBlock) w w' := (Kept.refl _ w).grown hG.grow (fun k e => .inl e.symm)
 have hxl : xs1.length = ts1.length := by have := hO.1; simpa using this
 have hS : ∀ g, some g = v1.ownBlock → ∃ u, w.cell? ⟨g, 0, none⟩ = some u ∧ ∀ n, u ≠ .int .u8 n := fun g hg => by
  rcases Nat.eq_zero_or_pos ts1.length with h | h
  ·rw [h0 h] at hg; cases hg
  ·exact own_frontY hO h1 h g hg
 exact ⟨(Ty.keep h1 hk hS).append (Ty.keep h2 hk hS) hxl, hG.own, fun h => hG.nil_.2 ⟨h0 (by omega), by omega⟩⟩
end Go.Proofs.YtmdkfhfkdcbpgaaDoorR.RowsY
