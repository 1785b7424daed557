/-
  Texts of the claim, put into one file: RefIncl, Aud0, AudIncl.
-/
import Derived.Test.YtaelcgimgomnnaaDoorZ28
import Derived.Test.YtaelcgimgomnnaaDoorZ23
import Derived.Test.YtaelcgimgomnnaaDoorZ12
import Derived.Test.YtaelcgimgomnnaaDoorZ5
import Derived.Test.YtaelcgimgomnnaaDoorZ24
import Derived.Test.YtaelcgimgomnnaaDoorZ11

namespace Go.Proofs.YtaelcgimgomnnaaDoor.RefIncl
open Go Go.RowKit Go.Proofs.YtaelcgimgomnnaaDoor Go.Proofs.YtaelcgimgomnnaaDoor.Digest Go.Proofs.YtaelcgimgomnnaaDoor.Mem Go.Proofs.YtaelcgimgomnnaaDoor.Sha Go.Proofs.YtaelcgimgomnnaaDoor.ShaWalk Go.Proofs.YtaelcgimgomnnaaDoor.Bytes Go.Proofs.YtaelcgimgomnnaaDoor.HashMem Go.Proofs.YtaelcgimgomnnaaDoor.DigestMem Go.Proofs.YtaelcgimgomnnaaDoor.DigestTop Go.Proofs.YtaelcgimgomnnaaDoor.RefTop Go.Proofs.YtaelcgimgomnnaaDoor.QuietTail Go.Proofs.YtaelcgimgomnnaaDoor.Grown Go.Proofs.YtaelcgimgomnnaaDoor.Chain Go.Proofs.YtaelcgimgomnnaaDoor.TreeMath Go.Proofs.YtaelcgimgomnnaaDoor.TreeMem Go.Proofs.YtaelcgimgomnnaaDoor.TreeRoot Go.Proofs.YtaelcgimgomnnaaDoor.Append Go.Proofs.YtaelcgimgomnnaaDoor.Book Go.Proofs.YtaelcgimgomnnaaDoor.TreeRefRoot Go.Proofs.YtaelcgimgomnnaaDoor.Held Go.Proofs.YtaelcgimgomnnaaDoor.Node Go.Proofs.YtaelcgimgomnnaaDoor.Sides Go.Proofs.YtaelcgimgomnnaaDoor.WayP Go.Proofs.YtaelcgimgomnnaaDoor.Climb Go.Proofs.YtaelcgimgomnnaaDoor.Incl Go.Proofs.YtaelcgimgomnnaaDoor.InclAny Go.Proofs.YtaelcgimgomnnaaDoor.RefSides Go.Proofs.YtaelcgimgomnnaaDoor.Levels Go.Proofs.YtaelcgimgomnnaaDoor.Texts Go.Proofs.YtaelcgimgomnnaaDoor.RefCut Go.Proofs.YtaelcgimgomnnaaDoor.RefIncl0


set_option maxRecDepth 100000 in
set_option maxHeartbeats 4000000 in
theorem refincl_in (s : Int) (hs63 : s < 9223372036854775808) (size i : Nat) (hs : size ≤ 1099511627776) (hi : i < size) (leaf : Text) (hl : leaf.length = 32) (ds : List Text) (A : Option Addr) (n c : Nat) (hn40 : n < 1099511627776) (w : World) (hr : RdD w A n ds) :
    Calls Tryd.prog 58 #[.int .i64 s, .int .i64 (size : Int), .int .i64 (i : Int), .agg (cells8 leaf).toArray, .slice A n c] w (RPost w (inclOf s size i leaf [] ds)) := by
  obtain ⟨i0, ii, iz0, iz1, iz2⟩ := info_partsN infoT
  have hb2 : Hid (Below w.heap.size w ((w.alloc (.cells (cells8 leaf).toArray 23)).alloc (.cells Z32 23))) := (Below.heap_below w _).alloc (by simp) _
  have hz2 : Hid (((w.alloc (.cells (cells8 leaf).toArray 23)).alloc (.cells Z32 23)).heap.size = w.heap.size + 1 + 1) := by show _ = _; simp
  have hB2 : Hid (Blk ((w.alloc (.cells (cells8 leaf).toArray 23)).alloc (.cells Z32 23)) (w.heap.size + 1) 23 Z32) := by
    have := Blk.new (w.alloc (.cells (cells8 leaf).toArray 23)) 23 Z32
    rwa [show (w.alloc (.cells (cells8 leaf).toArray 23)).heap.size = w.heap.size + 1 by simp] at this
  have hL2 : Hid (Blk ((w.alloc (.cells (cells8 leaf).toArray 23)).alloc (.cells Z32 23)) w.heap.size 23 (cells8 leaf).toArray) := (Blk.new w 23 (cells8 leaf).toArray).alloc _
  have hin : insideB (size : Int) (i : Int) = true := by
    have h1 : (1 : Int) ≤ size := by omega
    have h2 : (size : Int) ≤ 1099511627776 := by omega
    have h3 : (0 : Int) ≤ i := by omega
    have h4 : (i : Int) < size := by omega
    simp [insideB, h1, h2, h3, h4]
  obtain ⟨X, hX⟩ : ∃ X, inclOf s size i leaf [] ds = X := ⟨_, rfl⟩
  rw [hX]
  unfold inclOf at hX
  rw [if_neg (by rw [hin]; decide), Int.toNat_natCast, Int.toNat_natCast] at hX
  obtain ⟨L, hLv⟩ : ∃ L, Hid (levels size = L) := ⟨_, Lib.hid rfl⟩
  have hL40 : L ≤ 40 := by rw [← hLv.out]; exact levels_40 hs
  have hLn : Hid ((lv size i L).length = (sides size i).length) := by show _ = _; rw [← hLv.out]; exact lv_count hi (levels_pow size)
  have hTl : Hid (∀ w', Calls Tryd.prog 109 #[.int .i64 (size : Int)] w' fun e w'' => e = .returned (.int .i64 (L : Int)) ∧ w' = w'') := fun w' => by
    have := levels_any size hs w'
    rw [hLv.out] at this
    exact this
  have hTn : Hid (∀ k : Nat, k ≤ 40 → ∀ w', Calls Tryd.prog 110 #[.int .i64 (size : Int), .int .i64 (i : Int), .int .i64 (k : Int)] w' fun e w'' => e = .returned (.tuple #[.int .i64 (nbAt i k : Nat), .int .i64 (min (nbAt i k + 2 ^ k) size : Nat), .bool (decide (nbAt i k < size))]) ∧ w' = w'') := fun k hk w' => neighbour_any size i k hs hi hk w'
  have hlle : Hid (∀ l, l ≤ L → (lv size i l).length ≤ 40) := fun l hl => by
    have h1 := lv_le (n := size) (j := i) hl
    have h2 := hLn.out
    have h3 := sides_len (L := L) hi (by rw [← hLv.out]; exact levels_pow size)
    omega
  have y1 : decide ((size : Int) < 1) = false := decide_eq_false (by omega)
  have y2 : decide (1099511627776 < (size : Int)) = false := decide_eq_false (by omega)
  have y3 : decide ((i : Int) < 0) = false := decide_eq_false (by omega)
  have y4 : decide (size ≤ i) = false := decide_eq_false (by omega)
  have y5 : ¬ (size ≤ i) := by omega
  have Fl := Lib.hid (fit (x := leaf) hl)
  replace hl := Lib.hid hl
  replace hr := Lib.hid hr
  replace hX := Lib.hid hX
  replace hs63 := Lib.hid hs63
  replace hs := Lib.hid hs
  replace hi := Lib.hid hi
  replace hn40 := Lib.hid hn40
  clear hin
  go_enter Tryd.func58, Tryd.ntmps58
  go_wp2_with fail
  clear y1 y2 y3 y4 y5
  go_loop [13, 14] (fun a b => ∃ l m : Nat, b = .int .i64 (l : Int) ∧ a = .int .i64 (m : Int) ∧ l ≤ L ∧ Hid ((lv size i l).length = m)) (fun _ b => L - (intOf b).toNat)
  case atStart => exact ⟨0, 0, rfl, rfl, Nat.zero_le _, rfl⟩
  case round =>
    obtain ⟨l, m, rfl, rfl, hlL, hm⟩ := hrel
    have hm40 : m ≤ 40 := by have := hlle.out l hlL; rw [hm.out] at this; exact this
    by_cases hlt : l < L
    · have hTk := Lib.hid (hTn.out l (by omega))
      have hz1 : (l : Int) < (L : Int) := by omega
      have hmn : Hid ((lv size i (l + 1)).length = m + if nbAt i l < size then 1 else 0) := by
        show _ = _
        rw [lv_succ, List.length_append, hm.out, nb_lvl hi.out]
      by_cases hnb : nbAt i l < size
      · rw [decide_eq_true hnb] at hTk
        rw [if_pos hnb] at hmn
        clear hnb
        generalize nbAt i l = nb at *
        generalize min (nb + 2 ^ l) size = mn at *
        go_wp2_with (first
          | (go_at_call 109; refine (hTl.out _).mono ?_; rintro e w' ⟨rfl, rfl⟩)
          | (go_at_call 110; refine (hTk.out _).mono ?_; rintro e w' ⟨rfl, rfl⟩))
        go_round
        case rel => exact ⟨l + 1, m + 1, by go_num, by go_num, by omega, hmn.out⟩
        case measure => simp [intOf]; omega
      · rw [decide_eq_false hnb] at hTk
        rw [if_neg hnb] at hmn
        clear hnb
        generalize nbAt i l = nb at *
        generalize min (nb + 2 ^ l) size = mn at *
        go_wp2_with (first
          | (go_at_call 109; refine (hTl.out _).mono ?_; rintro e w' ⟨rfl, rfl⟩)
          | (go_at_call 110; refine (hTk.out _).mono ?_; rintro e w' ⟨rfl, rfl⟩))
        go_round
        case rel => exact ⟨l + 1, m, by go_num, rfl, by omega, hmn.out⟩
        case measure => simp [intOf]; omega
    · obtain rfl : l = L := by omega
      have hz1 : ¬ ((l : Int) < (l : Int)) := by omega
      have hms : Hid ((sides size i).length = m) := hLn.out.symm.trans hm.out
      have hrn := hr.out.1
      by_cases hmn : m = n
      · obtain rfl : n = m := hmn.symm
        have hX' := hX.out
        rw [if_neg (by rw [hms.out, hrn]; exact fun h => h rfl)] at hX'
        replace hX' := Lib.hid hX'
        clear hX hmn hlt hlle hTn hLn
        have y1 : ((n : Int) == (n : Int)) = true := beq_self_eq_true _
        have ws : IntKind.i64.wrap ((size : Int) - 1) = ((size - 1 : Nat) : Int) := by have := hi.out; have := hs.out; rw [IntWalk.i64_in _ (by omega)]; omega
        have ws2 : wrap64 ((size : Int) - 1) = ((size - 1 : Nat) : Int) := by have := hi.out; have := hs.out; rw [IntWalk.wrap64_in _ (by omega)]; omega
        have hN3 : Hid (Blk (((w.alloc (.cells (cells8 leaf).toArray 23)).alloc (.cells Z32 23)).alloc (.cells Z32 23)) (w.heap.size + 1 + 1) 23 Z32) := by
          have := Blk.new ((w.alloc (.cells (cells8 leaf).toArray 23)).alloc (.cells Z32 23)) 23 Z32
          rwa [hz2.out] at this
        have ws4 : wrap64 ((size - 1 : Nat) : Int) = ((size - 1 : Nat) : Int) := by have := hs.out; exact IntWalk.wrap64_in _ (by omega)
        have ws3 : ((size : Int) - 1) = ((size - 1 : Nat) : Int) := by have := hi.out; omega
        go_wp2_with (first
          | (go_at_call 109; refine (hTl.out _).mono ?_; rintro e w' ⟨rfl, rfl⟩)
          | ((with_reducible change wpList _ _ _ ({ dst := some 65, op := _, type := _, pos := _, after := _, guard := _ } :: _) _ _); refine wpList_load_row (o := ⟨some 65, _, _, _, _, _⟩) rfl 23 (.tmp 8) rfl (w.heap.size) rfl 23 ((cells8 leaf).toArray) (0, 0) _ hL2.out Tryd.underlying23 rfl Fl.out.size ?_)
          | ((with_reducible change wpList _ _ _ ({ dst := none, op := Op.store 23 (.tmp 20) _, type := _, pos := _, after := _, guard := _ } :: _) _ _); refine wpList_store_whole (o := ⟨none, _, _, _, _, _⟩) rfl 23 (.tmp 20) (.tmp 65) rfl (w.heap.size + 1 + 1) ((cells8 leaf).toArray) rfl rfl 23 (Z32) hN3.out Fl.out.size Fl.out.zero Fl.out.one ?_; intro wo hLo hko; obtain ⟨hbo, hbo2, hbr⟩ := fresh_at hb2.out hz2.out hko; replace hbo := Lib.hid hbo; replace hbo2 := Lib.hid hbo2; replace hbr := Lib.hid hbr; replace hLo := Lib.hid hLo; clear hko))
        have hBo : Hid (Blk wo (w.heap.size + 1) 23 Z32) := (hbo2.out.block _ hB2.out.lt).trans hB2.out
        have hR0 : Hid (RAt wo wo (w.heap.size + 1 + 1) (climbN s (leaf, []) ((sides size i).zip ds) 0) (.slice none 0 0) []) := by
          show RAt _ _ _ _ _ _
          rw [climbN_zero]
          exact ⟨hLo.out, World.ownsRow_nil _ _ _ _, (fun i q h => by simp at h), Kept.refl _ _⟩
        have hzl : Hid (((sides size i).zip ds).length = n) := by show _ = _; rw [List.length_zip, hms.out, hrn]; omega
        have hlen : Hid (∀ j, j ≤ n → (climbN s (leaf, []) ((sides size i).zip ds) j).1.length = 32 ∧ (climbN s (leaf, []) ((sides size i).zip ds) j).2.length = j) := fun j hj => by
          have := climbN_len (s := s) (st := (leaf, [])) (l := (sides size i).zip ds) hl.out j (by rw [hzl.out]; exact hj)
          exact ⟨this.1, by rw [this.2]; simp⟩
        have hn41 : Hid (n ≤ 40) := hm40
        replace hrn := Lib.hid hrn
        clear y1 ws ws2 ws3 ws4 hB2 hL2 hN3 hLo hm hm40 hb2 hz2 hTl hz1 hl Fl hlL hL40
        go_loopw [18, 19, 21, 22] (fun a b tv jv wr => ∃ (j fn sn : Nat) (v : Value) (xs : List Value), jv = .int .i64 (j : Int) ∧ j ≤ n ∧ a = .int .i64 (fn : Int) ∧ b = .int .i64 (sn : Int) ∧ tv = v ∧ Hid (At size i j fn sn) ∧ Hid (RAt wo wr (w.heap.size + 1 + 1) (climbN s (leaf, []) ((sides size i).zip ds) j) v xs)) (fun _ _ _ jv _ => n - (intOf jv).toNat)
        case atStart => exact ⟨0, i, size - 1, _, [], rfl, Nat.zero_le _, rfl, rfl, rfl, At.zero size i, hR0.out⟩
        case round =>
          clear hR0
          obtain ⟨j, fn, sn, v, xs, rfl, hj, rfl, rfl, htv, hAt, hR⟩ := hrel
          rw [htv]
          clear htv
          have hlj := hlen.out j hj
          obtain ⟨st, hst⟩ : ∃ st, climbN s (leaf, []) ((sides size i).zip ds) j = st := ⟨_, rfl⟩
          rw [hst] at hlj hR
          have hst1 := Lib.hid hlj.1
          have hk : Hid (st.2.length = j) := hlj.2
          have Fs := Lib.hid (fit (x := st.1) hst1.out)
          have hown := hR.out.own
          rw [hk.out] at hown
          obtain ⟨Av, cv, rfl, -⟩ := Own.reads hown
          have hOr := Lib.hid hown
          replace hst := Lib.hid hst
          have hfs := hAt.out.le
          have hfn40 : (fn : Int) < 1099511627776 := by have := hs.out; have := hi.out; omega
          have hsn40 : (sn : Int) < 1099511627776 := by have := hs.out; have := hi.out; omega
          have hfn0 : (0 : Int) ≤ (fn : Int) := by omega
          have hsn0 : (0 : Int) ≤ (sn : Int) := by omega
          have hj0 : (0 : Int) ≤ (j : Int) := by omega
          have hj40 : (j : Int) ≤ 40 := by have := hn41.out; omega
          have hln : Hid (some (w.heap.size + 1 + 1) ≠ (Value.slice Av j cv).ownBlock) := fun e => by have h1 := (hOr.out.lt _ e.symm).1; have h2 := hbr.out; omega
          clear hown hlj hfs
          by_cases hlt : j < n
          · obtain ⟨d, hd⟩ : ∃ d, Hid (ds[j]? = some d) := ⟨_, Lib.hid (List.getElem?_eq_getElem (by rw [hrn.out]; exact hlt))⟩
            have hdl := Lib.hid (hr.out.2.1.at_ hd.out)
            have Fd := Lib.hid (fit (x := d) hdl.out)
            obtain ⟨b, o, rfl, hbb, hdc0⟩ := hr.out.at_ hd.out
            have hdc : Hid (∀ k v, (cells8 d)[k]? = some v → wr.cell? ⟨b, o + j * 32 + k, none⟩ = some v) := fun k v hv => (((Kept.of_below hbo.out).trans hR.out.kept (fun i _ h => h)).cell (p := ⟨b, o + j * 32 + k, none⟩) hbb (fun h => by have h : b = w.heap.size + 1 + 1 := h; have h2 : b < w.heap.size := hbb; omega)).trans (hdc0 k v hv)
            have hjl : Hid (j < (sides size i).length) := by show _ < _; rw [hms.out]; exact hlt
            have hjn : Hid (j + 1 ≤ n) := hlt
            have hz2 : (j : Int) < (n : Int) := by omega
            have hl1 : Hid (j + 1 ≤ maxLen) := by have := hn41.out; show _ ≤ _; unfold maxLen; omega
            have hl2 : Hid ((j + 1) * 24 ≤ 140737488355328) := by have := hn41.out; show _ ≤ _; omega
            have hdn : Hid (some wr.heap.size ≠ (Value.slice Av j cv).ownBlock) := fun e => by have := (hOr.out.lt _ e.symm).2; omega
            clear hlt hj hbb hdc0
            by_cases ho : fn % 2 = 1
            · have hm1 : (fn : Int) % 2 = 1 := by omega
              have hm2 : (fn : Int).tmod 2 = 1 := by rw [Int.tmod_eq_emod_of_nonneg (by omega)]; exact hm1
              have hside := At.left hi.out fn sn hAt.out (.inl ho) hjl.out
              have hdir : Hid (Dir fn sn) := .inl ho
              have hst' : Hid (climbN s (leaf, []) ((sides size i).zip ds) (j + 1) = (ndOf s d st.1, st.2 ++ [kb 1 :: (d ++ st.1)])) := by
                show _ = _
                have hzj : ((sides size i).zip ds)[j]? = some (false, d) := List.getElem?_zip_eq_some.2 ⟨hside, hd.out⟩
                rw [climbN_succ hzj, hst.out, climb1]
                rfl
              obtain ⟨z, hz⟩ : ∃ z, Hid (ndOf s d st.1 = z) := ⟨_, Lib.hid rfl⟩
              obtain ⟨q, hq⟩ : ∃ q : Text, Hid (kb 1 :: (d ++ st.1) = q) := ⟨_, Lib.hid rfl⟩
              have hql : Hid (q.length = 65) := by show _ = _; rw [← hq.out]; simp [hst1.out, hdl.out]
              rw [hz.out, hq.out] at hst'
              have F := Lib.hid (fit (x := z) (by rw [← hz.out]; exact ndOf_len s _ _))
              have hN : Hid (∀ w', Calls Tryd.prog 30 #[.int .i64 s, .agg (cells8 d).toArray, .agg (cells8 st.1).toArray] w' fun e w'' => e = .returned (.agg (cells8 z).toArray) ∧ Below w'.heap.size w' w'') := fun w' => by
                have := refnode_any d st.1 hdl.out hst1.out s w' hs63.out
                rw [show cutTo (sum (kb 1 :: (d ++ st.1))) (clampN s) = z from hz.out] at this
                exact this
              have hqq := Lib.hid (F.out.same st.1 hst1.out)
              clear hside ho
              go_wp2_with (first
                | ((with_reducible change wpList _ _ _ ({ dst := some 75, op := _, type := _, pos := _, after := _, guard := _ } :: _) _ _); refine wpList_load_part (o := ⟨some 75, _, _, _, _, _⟩) rfl 23 (.tmp 74) rfl (b) (o + j * 32) rfl (cells8 d) _ hdc.out Tryd.underlying23 rfl Fd.out.part ?_)
                | ((with_reducible change wpList _ _ _ ({ dst := none, op := Op.store 23 (.tmp 23) _, type := _, pos := _, after := _, guard := _ } :: _) _ _); refine wpList_store_whole (o := ⟨none, _, _, _, _, _⟩) rfl 23 (.tmp 23) (.tmp 75) rfl (wr.heap.size) ((cells8 d).toArray) rfl rfl 23 (Z32) (Blk.new wr _ _) Fd.out.size Fd.out.zero Fd.out.one ?_; intro w1 hD1 hk1; have hb1 : Hid (Below wr.heap.size wr w1) := kept_fresh hk1; have hs1 : Hid (wo.heap.size ≤ w1.heap.size) := Nat.le_trans hR.out.kept.size hb1.out.size; have hO1 : Hid (w1.ownsRow wo.heap.size 24 1 (.slice Av j cv) j xs) := own_below hOr.out hb1.out; have hL1 : Hid (Blk w1 (w.heap.size + 1 + 1) 23 (cells8 st.1).toArray) := (hb1.out.block _ hR.out.leaf.lt).trans hR.out.leaf; replace hD1 := Lib.hid hD1; clear hk1))
              have hT : Hid (Calls Tryd.prog 59 #[.int .i64 1, .slice (some ⟨w1.heap.size, 0, none⟩) 2 2] (tW w1 wr.heap.size (w.heap.size + 1 + 1)) fun e w' => ∃ v, e = .returned v ∧ w'.ownsRow (tW w1 wr.heap.size (w.heap.size + 1 + 1)).heap.size 5 1 v 65 (cells8 q) ∧ Below (tW w1 wr.heap.size (w.heap.size + 1 + 1)).heap.size (tW w1 wr.heap.size (w.heap.size + 1 + 1)) w') := by
                have hpc := tW_pieces (w := w1) hD1.out hL1.out hdl.out hst1.out
                have := refText_any [d, st.1] 2 rfl (some ⟨w1.heap.size, 0, none⟩) 2 1 (tW w1 wr.heap.size (w.heap.size + 1 + 1)) (by simp [hst1.out, hdl.out]) (by decide) hpc
                rw [show kb 1 :: [d, st.1].flatten = q by rw [← hq.out]; simp, show 1 + [d, st.1].flatten.length = 65 by simp [hst1.out, hdl.out]] at this
                exact this
              refine held_start (fun _ => True) 8 rfl (by kernel_rfl) ?_
              refine held_take (i := 0) (v := .slice Av j cv) rfl (by kernel_rfl) (by kernel_rfl) (by kernel_rfl) (fun _ _ _ h => h) trivial (by rfl) (fun w' hw' => run_mv (.tmp 21) rfl w') ?_
              (intro K hK; go_simp; refine hK _ ?_; clear hK K)
              refine held_take (i := 1) (v := .slice (some ⟨wr.heap.size, 0, none⟩) 32 32) rfl (by kernel_rfl) (by kernel_rfl) (by kernel_rfl) (fun _ _ _ h => h) trivial (by rfl) (fun w' hw' => by go_simp) ?_
              (intro K hK; go_simp; refine hK _ ?_; clear hK K)
              refine held_take (i := 2) (v := .slice (some ⟨(w.heap.size + 1 + 1), 0, none⟩) 32 32) rfl (by kernel_rfl) (by kernel_rfl) (by kernel_rfl) (fun _ _ _ h => h) trivial (by rfl) (fun w' hw' => by go_simp) ?_
              (intro K hK; go_simp; refine hK _ ?_; clear hK K)
              refine held_only (i := 3) rfl (by kernel_rfl) (by rfl) (fun K hK => ?_)
              go_simp
              refine hK _ _ trivial ?_
              clear hK K
              change wpAnyH _ _ _ _ _ _ _ _ (tW w1 wr.heap.size (w.heap.size + 1 + 1))
              refine held_only (i := 4) rfl (by kernel_rfl) (by rfl) (fun K hK => ?_)
              refine wp_fn (R := fun v w'' => Below (tW w1 wr.heap.size (w.heap.size + 1 + 1)).heap.size (tW w1 wr.heap.size (w.heap.size + 1 + 1)) w'' ∧ w''.ownsRow (tW w1 wr.heap.size (w.heap.size + 1 + 1)).heap.size 5 1 v 65 (cells8 q)) (args := #[.int .i64 1, .slice (some ⟨w1.heap.size, 0, none⟩) 2 2]) _ _ rfl rfl Tryd.func59 (by kernel_rfl) (by kernel_rfl) (hT.out.mono fun e w'' ⟨v, he, ho, hb⟩ => ⟨_, he, hb, ho⟩) ?_
              rintro v3 w3 ⟨hb3, ho3⟩
              obtain ⟨gt, ct, rfl, hgt1, hgt2⟩ := ho3.form (by decide)
              go_simp
              refine hK _ _ trivial ?_
              clear hK K
              have hgt : Hid (w1.heap.size ≤ gt ∧ gt < w3.heap.size) := by have := tW_size w1 wr.heap.size (w.heap.size + 1 + 1); exact ⟨by omega, hgt2⟩
              have hb13 : Hid (Below w1.heap.size w1 w3) := (tW_below w1 _ _).trans (hb3.mono (by rw [tW_size]; omega))
              obtain ⟨At, ct', et, hct, -, -, hrt, -⟩ := Own.reads ho3
              injection et with et1 et2 et3
              subst et1 et3
              have hrq : Hid (Reads w3 1 (some ⟨gt, 0, none⟩) 65 (cells8 q)) := hrt
              replace hct := Lib.hid hct
              have hOw : Hid ((w3.alloc (.cells #[.slice (some ⟨gt, 0, none⟩) 65 ct] 24)).ownsRow wo.heap.size 24 1 (.slice Av j cv) j xs) := (own_below (own_below hO1.out hb13.out) (Below.heap_below w3 _))
              have hNw : Hid (Reads (w3.alloc (.cells #[.slice (some ⟨gt, 0, none⟩) 65 ct] 24)) 1 (some ⟨w3.heap.size, 0, none⟩) 1 [.slice (some ⟨gt, 0, none⟩) 65 ct]) := Blk.reads (Blk.new w3 24 #[.slice (some ⟨gt, 0, none⟩) 65 ct]) 0 _ rfl (fun j u hu => by rw [Nat.zero_add]; simpa using hu)
              have hs3 : Hid (wo.heap.size ≤ (w3.alloc (.cells #[.slice (some ⟨gt, 0, none⟩) 65 ct] 24)).heap.size) := by have := hb13.out.size; have := hs1.out; show _ ≤ _; simp; omega
              clear hb3 ho3 hgt1 hgt2 hrt hT
              refine held_only (i := 5) rfl (by kernel_rfl) (by rfl) (fun K hK => ?_)
              go_simp
              refine hK _ _ trivial ?_
              clear hK K
              refine held_only (i := 6) rfl (by kernel_rfl) (by rfl) (fun K hK => ?_)
              refine wp_append_src _ (.tmp 84) (.tmp 89) 35 rfl wo.heap.size 24 i0 (.slice none 0 0) 1 24 Tryd.underlying35 ii iz0 iz1 iz2 rfl (by decide) (.slice Av j cv) j xs rfl hOw.out (some ⟨w3.heap.size, 0, none⟩) 1 1 [.slice (some ⟨gt, 0, none⟩) 65 ct] rfl hNw.out (fun e => by cases e) (one_one rfl) hl1.out hl2.out hs3.out ?_
              intro v4 w4 hG
              obtain ⟨A4, c4, rfl, -⟩ := Own.reads hG.own
              replace hG := Lib.hid hG
              go_simp
              refine hK _ _ trivial ?_
              clear hK K
              refine held_take (i := 7) (v := .slice A4 (j + 1) c4) rfl (by kernel_rfl) (by kernel_rfl) (by kernel_rfl) (fun _ _ _ h => h) trivial (by rfl) (fun w' hw' => by first | go_simp | rfl) ?_
              (intro K hK; go_simp; refine hK _ ?_; clear hK K)
              refine held_end (by kernel_rfl) ?_
              have hk14 : Hid (Kept (fun q => some q = (Value.slice Av j cv).ownBlock) w1 w4) := ⟨hG.out.grow.os.trans hb13.out.os, hG.out.grow.tape.trans hb13.out.tape, hG.out.grow.output.trans hb13.out.output, (by have h1 := hG.out.grow.size; have h2 := hb13.out.size; simp at h1; omega), fun p hp hne => (hG.out.grow.block p (by have := hb13.out.size; simp; omega) hne).trans ((Below.heap_alloc _ _ _ (by have := hb13.out.size; omega)).trans (hb13.out.block p hp))⟩
              have hD4 : Hid (Blk w4 wr.heap.size 23 (cells8 d).toArray) := hD1.out.kept hk14.out (fun e => hdn.out e)
              have hL4 : Hid (Blk w4 (w.heap.size + 1 + 1) 23 (cells8 st.1).toArray) := hL1.out.kept hk14.out (fun e => hln.out e)
              clear hNw hs3 hOw
              go_wp2_with (first
                | ((with_reducible change wpList _ _ _ ({ dst := some 92, op := _, type := _, pos := _, after := _, guard := _ } :: _) _ _); refine wpList_load_row (o := ⟨some 92, _, _, _, _, _⟩) rfl 23 (.tmp 23) rfl (wr.heap.size) rfl 23 ((cells8 d).toArray) (0, 0) _ hD4.out Tryd.underlying23 rfl Fd.out.size ?_)
                | ((with_reducible change wpList _ _ _ ({ dst := some 93, op := _, type := _, pos := _, after := _, guard := _ } :: _) _ _); refine wpList_load_row (o := ⟨some 93, _, _, _, _, _⟩) rfl 23 (.tmp 20) rfl ((w.heap.size + 1 + 1)) rfl 23 ((cells8 st.1).toArray) (0, 0) _ hL4.out Tryd.underlying23 rfl Fs.out.size ?_)
                | (go_at_call 30; refine (hN.out _).mono ?_; rintro e w5 ⟨rfl, hb5⟩; have hL5 : Hid (Blk w5 (w.heap.size + 1 + 1) 23 (cells8 st.1).toArray) := (hb5.block _ hL4.out.lt).trans hL4.out; replace hb5 := Lib.hid hb5)
                | ((with_reducible change wpList _ _ _ ({ dst := none, op := Op.store 23 (.tmp 20) _, type := _, pos := _, after := _, guard := _ } :: _) _ _); refine wpList_store_whole0 (o := ⟨none, _, _, _, _, _⟩) rfl rfl 23 (.tmp 20) (.tmp 94) rfl ((w.heap.size + 1 + 1)) ((cells8 z).toArray) rfl rfl 23 ((cells8 st.1).toArray) hL5.out F.out.size hqq.out F.out.one ?_; intro w6 hB6 hk6; have hR6 : Hid (RAt wo w6 (w.heap.size + 1 + 1) (climbN s (leaf, []) ((sides size i).zip ds) (j + 1)) (.slice A4 (j + 1) c4) (xs ++ [.slice (some ⟨gt, 0, none⟩) 65 ct])) := (by show RAt _ _ _ _ _ _; rw [hst'.out]; have := (RAt.step (st' := (z, st.2 ++ [q])) (q := q) (gt := gt) (ct := ct) hR.out hbr.out hk.out hb1.out hb13.out (by rw [hql.out]; exact hrq.out) hgt.out (by rw [hql.out]; exact hct.out) (by rw [hql.out]; exact hG.out) hb5.out hB6 hk6 rfl); rw [hql.out] at this; exact this); clear hB6 hk6 hb5 hL5 hL4 hD4 hG hrq hct hgt hb13 hk14))
              clear hm1 hm2
              go_loopw [18, 19] (fun a b wi => ∃ f2 s2 : Nat, a = .int .i64 (f2 : Int) ∧ b = .int .i64 (s2 : Int) ∧ f2 ≤ fn ∧ s2 ≤ sn ∧ Hid (At size i j f2 s2) ∧ Hid (Dir f2 s2) ∧ wi = w6) (fun a _ _ => (intOf a).toNat)
              case atStart => exact ⟨fn, sn, rfl, rfl, Nat.le_refl _, Nat.le_refl _, hAt.out, hdir.out, rfl⟩
              case round =>
                obtain ⟨f2, s2, rfl, rfl, hf2, hs2, hA2, hd2, rfl⟩ := hrel
                have hf40 : (f2 : Int) < 1099511627776 := by have := hfn40; omega
                have hs40 : (s2 : Int) < 1099511627776 := by have := hsn40; omega
                have hf0 : (0 : Int) ≤ (f2 : Int) := by omega
                have hs0 : (0 : Int) ≤ (s2 : Int) := by omega
                by_cases hodd : f2 % 2 = 1
                · have hm1 : (f2 : Int) % 2 = 1 := by omega
                  have hm2 : (f2 : Int).tmod 2 = 1 := by rw [Int.tmod_eq_emod_of_nonneg (by omega)]; exact hm1
                  have hf1 : (f2 : Int).tdiv 2 = ((f2 / 2 : Nat) : Int) := by rw [Int.tdiv_eq_ediv_of_nonneg (by omega)]; omega
                  have hs1 : (s2 : Int).tdiv 2 = ((s2 / 2 : Nat) : Int) := by rw [Int.tdiv_eq_ediv_of_nonneg (by omega)]; omega
                  obtain ⟨-, hAt2⟩ := hA2.out.odd hi.out hodd
                  replace hAt2 := Lib.hid hAt2
                  clear hodd hd2
                  go_wp2_with fail
                  go_roundw
                  case rel => exact ⟨j + 1, f2 / 2, s2 / 2, _, _, by go_num, hjn.out, (by first | rfl | (congr 1; omega)), (by first | rfl | (congr 1; omega)), rfl, hAt2.out, hR6.out⟩
                  case measure => (have := hjn.out; simp [intOf]; omega)
                · have hm1 : (f2 : Int) % 2 = 0 := by omega
                  have hm2 : (f2 : Int).tmod 2 = 0 := by rw [Int.tmod_eq_emod_of_nonneg (by omega)]; exact hm1
                  have heq : f2 = s2 := by have : f2 % 2 = 1 ∨ f2 = s2 := hd2.out; omega
                  subst heq
                  have hf1 : (f2 : Int).tdiv 2 = ((f2 / 2 : Nat) : Int) := by rw [Int.tdiv_eq_ediv_of_nonneg (by omega)]; omega
                  have hne0 : ¬ f2 = 0 := fun e => by
                    have h1 := hA2.out
                    rw [e] at h1
                    have := h1.done hi.out rfl
                    have := hjl.out
                    omega
                  have hm3 : ((f2 : Int) == 0) = false := beq_eq_false_iff_ne.2 (by omega)
                  have hm4 : ((f2 : Int) != 0) = true := by rw [bne, hm3]; rfl
                  have hm5 : ¬ ((f2 : Int) = 0) := by omega
                  have hA3 : Hid (At size i j (f2 / 2) (f2 / 2)) := hA2.out.skip hi.out hodd rfl
                  have hlt3 : Hid (f2 / 2 < f2) := by show _ < _; omega
                  clear hodd hd2 hne0
                  go_wp2_with fail
                  go_roundw
                  case rel => exact ⟨f2 / 2, f2 / 2, (by first | rfl | (congr 1; omega)), (by first | rfl | (congr 1; omega)), by have := hlt3.out; omega, by have := hlt3.out; omega, hA3.out, .inr rfl, by first | rfl | trivial⟩
                  case measure => (have := hlt3.out; simp [intOf]; omega)
            · by_cases he : fn = sn
              · subst he
                have hm1 : (fn : Int) % 2 = 0 := by omega
                have hm2 : (fn : Int).tmod 2 = 0 := by rw [Int.tmod_eq_emod_of_nonneg (by omega)]; exact hm1
                have hm3 : ((fn : Int) == (fn : Int)) = true := beq_self_eq_true _
                have hside := At.left hi.out fn fn hAt.out (.inr rfl) hjl.out
                have hdir : Hid (Dir fn fn) := .inr rfl
                have hst' : Hid (climbN s (leaf, []) ((sides size i).zip ds) (j + 1) = (ndOf s d st.1, st.2 ++ [kb 1 :: (d ++ st.1)])) := by
                  show _ = _
                  have hzj : ((sides size i).zip ds)[j]? = some (false, d) := List.getElem?_zip_eq_some.2 ⟨hside, hd.out⟩
                  rw [climbN_succ hzj, hst.out, climb1]
                  rfl
                obtain ⟨z, hz⟩ : ∃ z, Hid (ndOf s d st.1 = z) := ⟨_, Lib.hid rfl⟩
                obtain ⟨q, hq⟩ : ∃ q : Text, Hid (kb 1 :: (d ++ st.1) = q) := ⟨_, Lib.hid rfl⟩
                have hql : Hid (q.length = 65) := by show _ = _; rw [← hq.out]; simp [hst1.out, hdl.out]
                rw [hz.out, hq.out] at hst'
                have F := Lib.hid (fit (x := z) (by rw [← hz.out]; exact ndOf_len s _ _))
                have hN : Hid (∀ w', Calls Tryd.prog 30 #[.int .i64 s, .agg (cells8 d).toArray, .agg (cells8 st.1).toArray] w' fun e w'' => e = .returned (.agg (cells8 z).toArray) ∧ Below w'.heap.size w' w'') := fun w' => by
                  have := refnode_any d st.1 hdl.out hst1.out s w' hs63.out
                  rw [show cutTo (sum (kb 1 :: (d ++ st.1))) (clampN s) = z from hz.out] at this
                  exact this
                have hqq := Lib.hid (F.out.same st.1 hst1.out)
                clear hside ho
                go_wp2_with (first
                  | ((with_reducible change wpList _ _ _ ({ dst := some 75, op := _, type := _, pos := _, after := _, guard := _ } :: _) _ _); refine wpList_load_part (o := ⟨some 75, _, _, _, _, _⟩) rfl 23 (.tmp 74) rfl (b) (o + j * 32) rfl (cells8 d) _ hdc.out Tryd.underlying23 rfl Fd.out.part ?_)
                  | ((with_reducible change wpList _ _ _ ({ dst := none, op := Op.store 23 (.tmp 23) _, type := _, pos := _, after := _, guard := _ } :: _) _ _); refine wpList_store_whole (o := ⟨none, _, _, _, _, _⟩) rfl 23 (.tmp 23) (.tmp 75) rfl (wr.heap.size) ((cells8 d).toArray) rfl rfl 23 (Z32) (Blk.new wr _ _) Fd.out.size Fd.out.zero Fd.out.one ?_; intro w1 hD1 hk1; have hb1 : Hid (Below wr.heap.size wr w1) := kept_fresh hk1; have hs1 : Hid (wo.heap.size ≤ w1.heap.size) := Nat.le_trans hR.out.kept.size hb1.out.size; have hO1 : Hid (w1.ownsRow wo.heap.size 24 1 (.slice Av j cv) j xs) := own_below hOr.out hb1.out; have hL1 : Hid (Blk w1 (w.heap.size + 1 + 1) 23 (cells8 st.1).toArray) := (hb1.out.block _ hR.out.leaf.lt).trans hR.out.leaf; replace hD1 := Lib.hid hD1; clear hk1))
                have hT : Hid (Calls Tryd.prog 59 #[.int .i64 1, .slice (some ⟨w1.heap.size, 0, none⟩) 2 2] (tW w1 wr.heap.size (w.heap.size + 1 + 1)) fun e w' => ∃ v, e = .returned v ∧ w'.ownsRow (tW w1 wr.heap.size (w.heap.size + 1 + 1)).heap.size 5 1 v 65 (cells8 q) ∧ Below (tW w1 wr.heap.size (w.heap.size + 1 + 1)).heap.size (tW w1 wr.heap.size (w.heap.size + 1 + 1)) w') := by
                  have hpc := tW_pieces (w := w1) hD1.out hL1.out hdl.out hst1.out
                  have := refText_any [d, st.1] 2 rfl (some ⟨w1.heap.size, 0, none⟩) 2 1 (tW w1 wr.heap.size (w.heap.size + 1 + 1)) (by simp [hst1.out, hdl.out]) (by decide) hpc
                  rw [show kb 1 :: [d, st.1].flatten = q by rw [← hq.out]; simp, show 1 + [d, st.1].flatten.length = 65 by simp [hst1.out, hdl.out]] at this
                  exact this
                refine held_start (fun _ => True) 8 rfl (by kernel_rfl) ?_
                refine held_take (i := 0) (v := .slice Av j cv) rfl (by kernel_rfl) (by kernel_rfl) (by kernel_rfl) (fun _ _ _ h => h) trivial (by rfl) (fun w' hw' => run_mv (.tmp 21) rfl w') ?_
                (intro K hK; go_simp; refine hK _ ?_; clear hK K)
                refine held_take (i := 1) (v := .slice (some ⟨wr.heap.size, 0, none⟩) 32 32) rfl (by kernel_rfl) (by kernel_rfl) (by kernel_rfl) (fun _ _ _ h => h) trivial (by rfl) (fun w' hw' => by go_simp) ?_
                (intro K hK; go_simp; refine hK _ ?_; clear hK K)
                refine held_take (i := 2) (v := .slice (some ⟨(w.heap.size + 1 + 1), 0, none⟩) 32 32) rfl (by kernel_rfl) (by kernel_rfl) (by kernel_rfl) (fun _ _ _ h => h) trivial (by rfl) (fun w' hw' => by go_simp) ?_
                (intro K hK; go_simp; refine hK _ ?_; clear hK K)
                refine held_only (i := 3) rfl (by kernel_rfl) (by rfl) (fun K hK => ?_)
                go_simp
                refine hK _ _ trivial ?_
                clear hK K
                change wpAnyH _ _ _ _ _ _ _ _ (tW w1 wr.heap.size (w.heap.size + 1 + 1))
                refine held_only (i := 4) rfl (by kernel_rfl) (by rfl) (fun K hK => ?_)
                refine wp_fn (R := fun v w'' => Below (tW w1 wr.heap.size (w.heap.size + 1 + 1)).heap.size (tW w1 wr.heap.size (w.heap.size + 1 + 1)) w'' ∧ w''.ownsRow (tW w1 wr.heap.size (w.heap.size + 1 + 1)).heap.size 5 1 v 65 (cells8 q)) (args := #[.int .i64 1, .slice (some ⟨w1.heap.size, 0, none⟩) 2 2]) _ _ rfl rfl Tryd.func59 (by kernel_rfl) (by kernel_rfl) (hT.out.mono fun e w'' ⟨v, he, ho, hb⟩ => ⟨_, he, hb, ho⟩) ?_
                rintro v3 w3 ⟨hb3, ho3⟩
                obtain ⟨gt, ct, rfl, hgt1, hgt2⟩ := ho3.form (by decide)
                go_simp
                refine hK _ _ trivial ?_
                clear hK K
                have hgt : Hid (w1.heap.size ≤ gt ∧ gt < w3.heap.size) := by have := tW_size w1 wr.heap.size (w.heap.size + 1 + 1); exact ⟨by omega, hgt2⟩
                have hb13 : Hid (Below w1.heap.size w1 w3) := (tW_below w1 _ _).trans (hb3.mono (by rw [tW_size]; omega))
                obtain ⟨At, ct', et, hct, -, -, hrt, -⟩ := Own.reads ho3
                injection et with et1 et2 et3
                subst et1 et3
                have hrq : Hid (Reads w3 1 (some ⟨gt, 0, none⟩) 65 (cells8 q)) := hrt
                replace hct := Lib.hid hct
                have hOw : Hid ((w3.alloc (.cells #[.slice (some ⟨gt, 0, none⟩) 65 ct] 24)).ownsRow wo.heap.size 24 1 (.slice Av j cv) j xs) := (own_below (own_below hO1.out hb13.out) (Below.heap_below w3 _))
                have hNw : Hid (Reads (w3.alloc (.cells #[.slice (some ⟨gt, 0, none⟩) 65 ct] 24)) 1 (some ⟨w3.heap.size, 0, none⟩) 1 [.slice (some ⟨gt, 0, none⟩) 65 ct]) := Blk.reads (Blk.new w3 24 #[.slice (some ⟨gt, 0, none⟩) 65 ct]) 0 _ rfl (fun j u hu => by rw [Nat.zero_add]; simpa using hu)
                have hs3 : Hid (wo.heap.size ≤ (w3.alloc (.cells #[.slice (some ⟨gt, 0, none⟩) 65 ct] 24)).heap.size) := by have := hb13.out.size; have := hs1.out; show _ ≤ _; simp; omega
                clear hb3 ho3 hgt1 hgt2 hrt hT
                refine held_only (i := 5) rfl (by kernel_rfl) (by rfl) (fun K hK => ?_)
                go_simp
                refine hK _ _ trivial ?_
                clear hK K
                refine held_only (i := 6) rfl (by kernel_rfl) (by rfl) (fun K hK => ?_)
                refine wp_append_src _ (.tmp 84) (.tmp 89) 35 rfl wo.heap.size 24 i0 (.slice none 0 0) 1 24 Tryd.underlying35 ii iz0 iz1 iz2 rfl (by decide) (.slice Av j cv) j xs rfl hOw.out (some ⟨w3.heap.size, 0, none⟩) 1 1 [.slice (some ⟨gt, 0, none⟩) 65 ct] rfl hNw.out (fun e => by cases e) (one_one rfl) hl1.out hl2.out hs3.out ?_
                intro v4 w4 hG
                obtain ⟨A4, c4, rfl, -⟩ := Own.reads hG.own
                replace hG := Lib.hid hG
                go_simp
                refine hK _ _ trivial ?_
                clear hK K
                refine held_take (i := 7) (v := .slice A4 (j + 1) c4) rfl (by kernel_rfl) (by kernel_rfl) (by kernel_rfl) (fun _ _ _ h => h) trivial (by rfl) (fun w' hw' => by first | go_simp | rfl) ?_
                (intro K hK; go_simp; refine hK _ ?_; clear hK K)
                refine held_end (by kernel_rfl) ?_
                have hk14 : Hid (Kept (fun q => some q = (Value.slice Av j cv).ownBlock) w1 w4) := ⟨hG.out.grow.os.trans hb13.out.os, hG.out.grow.tape.trans hb13.out.tape, hG.out.grow.output.trans hb13.out.output, (by have h1 := hG.out.grow.size; have h2 := hb13.out.size; simp at h1; omega), fun p hp hne => (hG.out.grow.block p (by have := hb13.out.size; simp; omega) hne).trans ((Below.heap_alloc _ _ _ (by have := hb13.out.size; omega)).trans (hb13.out.block p hp))⟩
                have hD4 : Hid (Blk w4 wr.heap.size 23 (cells8 d).toArray) := hD1.out.kept hk14.out (fun e => hdn.out e)
                have hL4 : Hid (Blk w4 (w.heap.size + 1 + 1) 23 (cells8 st.1).toArray) := hL1.out.kept hk14.out (fun e => hln.out e)
                clear hNw hs3 hOw
                go_wp2_with (first
                  | ((with_reducible change wpList _ _ _ ({ dst := some 92, op := _, type := _, pos := _, after := _, guard := _ } :: _) _ _); refine wpList_load_row (o := ⟨some 92, _, _, _, _, _⟩) rfl 23 (.tmp 23) rfl (wr.heap.size) rfl 23 ((cells8 d).toArray) (0, 0) _ hD4.out Tryd.underlying23 rfl Fd.out.size ?_)
                  | ((with_reducible change wpList _ _ _ ({ dst := some 93, op := _, type := _, pos := _, after := _, guard := _ } :: _) _ _); refine wpList_load_row (o := ⟨some 93, _, _, _, _, _⟩) rfl 23 (.tmp 20) rfl ((w.heap.size + 1 + 1)) rfl 23 ((cells8 st.1).toArray) (0, 0) _ hL4.out Tryd.underlying23 rfl Fs.out.size ?_)
                  | (go_at_call 30; refine (hN.out _).mono ?_; rintro e w5 ⟨rfl, hb5⟩; have hL5 : Hid (Blk w5 (w.heap.size + 1 + 1) 23 (cells8 st.1).toArray) := (hb5.block _ hL4.out.lt).trans hL4.out; replace hb5 := Lib.hid hb5)
                  | ((with_reducible change wpList _ _ _ ({ dst := none, op := Op.store 23 (.tmp 20) _, type := _, pos := _, after := _, guard := _ } :: _) _ _); refine wpList_store_whole0 (o := ⟨none, _, _, _, _, _⟩) rfl rfl 23 (.tmp 20) (.tmp 94) rfl ((w.heap.size + 1 + 1)) ((cells8 z).toArray) rfl rfl 23 ((cells8 st.1).toArray) hL5.out F.out.size hqq.out F.out.one ?_; intro w6 hB6 hk6; have hR6 : Hid (RAt wo w6 (w.heap.size + 1 + 1) (climbN s (leaf, []) ((sides size i).zip ds) (j + 1)) (.slice A4 (j + 1) c4) (xs ++ [.slice (some ⟨gt, 0, none⟩) 65 ct])) := (by show RAt _ _ _ _ _ _; rw [hst'.out]; have := (RAt.step (st' := (z, st.2 ++ [q])) (q := q) (gt := gt) (ct := ct) hR.out hbr.out hk.out hb1.out hb13.out (by rw [hql.out]; exact hrq.out) hgt.out (by rw [hql.out]; exact hct.out) (by rw [hql.out]; exact hG.out) hb5.out hB6 hk6 rfl); rw [hql.out] at this; exact this); clear hB6 hk6 hb5 hL5 hL4 hD4 hG hrq hct hgt hb13 hk14))
                clear hm1 hm2 hm3
                go_loopw [18, 19] (fun a b wi => ∃ f2 s2 : Nat, a = .int .i64 (f2 : Int) ∧ b = .int .i64 (s2 : Int) ∧ f2 ≤ fn ∧ s2 ≤ fn ∧ Hid (At size i j f2 s2) ∧ Hid (Dir f2 s2) ∧ wi = w6) (fun a _ _ => (intOf a).toNat)
                case atStart => exact ⟨fn, fn, rfl, rfl, Nat.le_refl _, Nat.le_refl _, hAt.out, hdir.out, rfl⟩
                case round =>
                  obtain ⟨f2, s2, rfl, rfl, hf2, hs2, hA2, hd2, rfl⟩ := hrel
                  have hf40 : (f2 : Int) < 1099511627776 := by have := hfn40; omega
                  have hs40 : (s2 : Int) < 1099511627776 := by have := hsn40; omega
                  have hf0 : (0 : Int) ≤ (f2 : Int) := by omega
                  have hs0 : (0 : Int) ≤ (s2 : Int) := by omega
                  by_cases hodd : f2 % 2 = 1
                  · have hm1 : (f2 : Int) % 2 = 1 := by omega
                    have hm2 : (f2 : Int).tmod 2 = 1 := by rw [Int.tmod_eq_emod_of_nonneg (by omega)]; exact hm1
                    have hf1 : (f2 : Int).tdiv 2 = ((f2 / 2 : Nat) : Int) := by rw [Int.tdiv_eq_ediv_of_nonneg (by omega)]; omega
                    have hs1 : (s2 : Int).tdiv 2 = ((s2 / 2 : Nat) : Int) := by rw [Int.tdiv_eq_ediv_of_nonneg (by omega)]; omega
                    obtain ⟨-, hAt2⟩ := hA2.out.odd hi.out hodd
                    replace hAt2 := Lib.hid hAt2
                    clear hodd hd2
                    go_wp2_with fail
                    go_roundw
                    case rel => exact ⟨j + 1, f2 / 2, s2 / 2, _, _, by go_num, hjn.out, (by first | rfl | (congr 1; omega)), (by first | rfl | (congr 1; omega)), rfl, hAt2.out, hR6.out⟩
                    case measure => (have := hjn.out; simp [intOf]; omega)
                  · have hm1 : (f2 : Int) % 2 = 0 := by omega
                    have hm2 : (f2 : Int).tmod 2 = 0 := by rw [Int.tmod_eq_emod_of_nonneg (by omega)]; exact hm1
                    have heq : f2 = s2 := by have : f2 % 2 = 1 ∨ f2 = s2 := hd2.out; omega
                    subst heq
                    have hf1 : (f2 : Int).tdiv 2 = ((f2 / 2 : Nat) : Int) := by rw [Int.tdiv_eq_ediv_of_nonneg (by omega)]; omega
                    have hne0 : ¬ f2 = 0 := fun e => by
                      have h1 := hA2.out
                      rw [e] at h1
                      have := h1.done hi.out rfl
                      have := hjl.out
                      omega
                    have hm3 : ((f2 : Int) == 0) = false := beq_eq_false_iff_ne.2 (by omega)
                    have hm4 : ((f2 : Int) != 0) = true := by rw [bne, hm3]; rfl
                    have hm5 : ¬ ((f2 : Int) = 0) := by omega
                    have hA3 : Hid (At size i j (f2 / 2) (f2 / 2)) := hA2.out.skip hi.out hodd rfl
                    have hlt3 : Hid (f2 / 2 < f2) := by show _ < _; omega
                    clear hodd hd2 hne0
                    go_wp2_with fail
                    go_roundw
                    case rel => exact ⟨f2 / 2, f2 / 2, (by first | rfl | (congr 1; omega)), (by first | rfl | (congr 1; omega)), by have := hlt3.out; omega, by have := hlt3.out; omega, hA3.out, .inr rfl, by first | rfl | trivial⟩
                    case measure => (have := hlt3.out; simp [intOf]; omega)
              · have hm1 : (fn : Int) % 2 = 0 := by omega
                have hm2 : (fn : Int).tmod 2 = 0 := by rw [Int.tmod_eq_emod_of_nonneg (by omega)]; exact hm1
                have hm3 : ((fn : Int) == (sn : Int)) = false := beq_eq_false_iff_ne.2 (by omega)
                have hm4 : ¬ ((fn : Int) = (sn : Int)) := by omega
                obtain ⟨hside, hAt2⟩ := hAt.out.right hi.out ho he
                replace hAt2 := Lib.hid hAt2
                have hst' : Hid (climbN s (leaf, []) ((sides size i).zip ds) (j + 1) = (ndOf s st.1 d, st.2 ++ [kb 1 :: (st.1 ++ d)])) := by
                  show _ = _
                  have hzj : ((sides size i).zip ds)[j]? = some (true, d) := List.getElem?_zip_eq_some.2 ⟨hside, hd.out⟩
                  rw [climbN_succ hzj, hst.out, climb1]
                  rfl
                obtain ⟨z, hz⟩ : ∃ z, Hid (ndOf s st.1 d = z) := ⟨_, Lib.hid rfl⟩
                obtain ⟨q, hq⟩ : ∃ q : Text, Hid (kb 1 :: (st.1 ++ d) = q) := ⟨_, Lib.hid rfl⟩
                have hql : Hid (q.length = 65) := by show _ = _; rw [← hq.out]; simp [hst1.out, hdl.out]
                rw [hz.out, hq.out] at hst'
                have F := Lib.hid (fit (x := z) (by rw [← hz.out]; exact ndOf_len s _ _))
                have hN : Hid (∀ w', Calls Tryd.prog 30 #[.int .i64 s, .agg (cells8 st.1).toArray, .agg (cells8 d).toArray] w' fun e w'' => e = .returned (.agg (cells8 z).toArray) ∧ Below w'.heap.size w' w'') := fun w' => by
                  have := refnode_any st.1 d hst1.out hdl.out s w' hs63.out
                  rw [show cutTo (sum (kb 1 :: (st.1 ++ d))) (clampN s) = z from hz.out] at this
                  exact this
                have hqq := Lib.hid (F.out.same st.1 hst1.out)
                clear hside ho he
                go_wp2_with (first
                  | ((with_reducible change wpList _ _ _ ({ dst := some 75, op := _, type := _, pos := _, after := _, guard := _ } :: _) _ _); refine wpList_load_part (o := ⟨some 75, _, _, _, _, _⟩) rfl 23 (.tmp 74) rfl (b) (o + j * 32) rfl (cells8 d) _ hdc.out Tryd.underlying23 rfl Fd.out.part ?_)
                  | ((with_reducible change wpList _ _ _ ({ dst := none, op := Op.store 23 (.tmp 23) _, type := _, pos := _, after := _, guard := _ } :: _) _ _); refine wpList_store_whole (o := ⟨none, _, _, _, _, _⟩) rfl 23 (.tmp 23) (.tmp 75) rfl (wr.heap.size) ((cells8 d).toArray) rfl rfl 23 (Z32) (Blk.new wr _ _) Fd.out.size Fd.out.zero Fd.out.one ?_; intro w1 hD1 hk1; have hb1 : Hid (Below wr.heap.size wr w1) := kept_fresh hk1; have hs1 : Hid (wo.heap.size ≤ w1.heap.size) := Nat.le_trans hR.out.kept.size hb1.out.size; have hO1 : Hid (w1.ownsRow wo.heap.size 24 1 (.slice Av j cv) j xs) := own_below hOr.out hb1.out; have hL1 : Hid (Blk w1 (w.heap.size + 1 + 1) 23 (cells8 st.1).toArray) := (hb1.out.block _ hR.out.leaf.lt).trans hR.out.leaf; replace hD1 := Lib.hid hD1; clear hk1))
                have hT : Hid (Calls Tryd.prog 59 #[.int .i64 1, .slice (some ⟨w1.heap.size, 0, none⟩) 2 2] (tW w1 (w.heap.size + 1 + 1) wr.heap.size) fun e w' => ∃ v, e = .returned v ∧ w'.ownsRow (tW w1 (w.heap.size + 1 + 1) wr.heap.size).heap.size 5 1 v 65 (cells8 q) ∧ Below (tW w1 (w.heap.size + 1 + 1) wr.heap.size).heap.size (tW w1 (w.heap.size + 1 + 1) wr.heap.size) w') := by
                  have hpc := tW_pieces (w := w1) hL1.out hD1.out hst1.out hdl.out
                  have := refText_any [st.1, d] 2 rfl (some ⟨w1.heap.size, 0, none⟩) 2 1 (tW w1 (w.heap.size + 1 + 1) wr.heap.size) (by simp [hst1.out, hdl.out]) (by decide) hpc
                  rw [show kb 1 :: [st.1, d].flatten = q by rw [← hq.out]; simp, show 1 + [st.1, d].flatten.length = 65 by simp [hst1.out, hdl.out]] at this
                  exact this
                refine held_start (fun _ => True) 8 rfl (by kernel_rfl) ?_
                refine held_take (i := 0) (v := .slice Av j cv) rfl (by kernel_rfl) (by kernel_rfl) (by kernel_rfl) (fun _ _ _ h => h) trivial (by rfl) (fun w' hw' => run_mv (.tmp 21) rfl w') ?_
                (intro K hK; go_simp; refine hK _ ?_; clear hK K)
                refine held_take (i := 1) (v := .slice (some ⟨(w.heap.size + 1 + 1), 0, none⟩) 32 32) rfl (by kernel_rfl) (by kernel_rfl) (by kernel_rfl) (fun _ _ _ h => h) trivial (by rfl) (fun w' hw' => by go_simp) ?_
                (intro K hK; go_simp; refine hK _ ?_; clear hK K)
                refine held_take (i := 2) (v := .slice (some ⟨wr.heap.size, 0, none⟩) 32 32) rfl (by kernel_rfl) (by kernel_rfl) (by kernel_rfl) (fun _ _ _ h => h) trivial (by rfl) (fun w' hw' => by go_simp) ?_
                (intro K hK; go_simp; refine hK _ ?_; clear hK K)
                refine held_only (i := 3) rfl (by kernel_rfl) (by rfl) (fun K hK => ?_)
                go_simp
                refine hK _ _ trivial ?_
                clear hK K
                change wpAnyH _ _ _ _ _ _ _ _ (tW w1 (w.heap.size + 1 + 1) wr.heap.size)
                refine held_only (i := 4) rfl (by kernel_rfl) (by rfl) (fun K hK => ?_)
                refine wp_fn (R := fun v w'' => Below (tW w1 (w.heap.size + 1 + 1) wr.heap.size).heap.size (tW w1 (w.heap.size + 1 + 1) wr.heap.size) w'' ∧ w''.ownsRow (tW w1 (w.heap.size + 1 + 1) wr.heap.size).heap.size 5 1 v 65 (cells8 q)) (args := #[.int .i64 1, .slice (some ⟨w1.heap.size, 0, none⟩) 2 2]) _ _ rfl rfl Tryd.func59 (by kernel_rfl) (by kernel_rfl) (hT.out.mono fun e w'' ⟨v, he, ho, hb⟩ => ⟨_, he, hb, ho⟩) ?_
                rintro v3 w3 ⟨hb3, ho3⟩
                obtain ⟨gt, ct, rfl, hgt1, hgt2⟩ := ho3.form (by decide)
                go_simp
                refine hK _ _ trivial ?_
                clear hK K
                have hgt : Hid (w1.heap.size ≤ gt ∧ gt < w3.heap.size) := by have := tW_size w1 (w.heap.size + 1 + 1) wr.heap.size; exact ⟨by omega, hgt2⟩
                have hb13 : Hid (Below w1.heap.size w1 w3) := (tW_below w1 _ _).trans (hb3.mono (by rw [tW_size]; omega))
                obtain ⟨At, ct', et, hct, -, -, hrt, -⟩ := Own.reads ho3
                injection et with et1 et2 et3
                subst et1 et3
                have hrq : Hid (Reads w3 1 (some ⟨gt, 0, none⟩) 65 (cells8 q)) := hrt
                replace hct := Lib.hid hct
                have hOw : Hid ((w3.alloc (.cells #[.slice (some ⟨gt, 0, none⟩) 65 ct] 24)).ownsRow wo.heap.size 24 1 (.slice Av j cv) j xs) := (own_below (own_below hO1.out hb13.out) (Below.heap_below w3 _))
                have hNw : Hid (Reads (w3.alloc (.cells #[.slice (some ⟨gt, 0, none⟩) 65 ct] 24)) 1 (some ⟨w3.heap.size, 0, none⟩) 1 [.slice (some ⟨gt, 0, none⟩) 65 ct]) := Blk.reads (Blk.new w3 24 #[.slice (some ⟨gt, 0, none⟩) 65 ct]) 0 _ rfl (fun j u hu => by rw [Nat.zero_add]; simpa using hu)
                have hs3 : Hid (wo.heap.size ≤ (w3.alloc (.cells #[.slice (some ⟨gt, 0, none⟩) 65 ct] 24)).heap.size) := by have := hb13.out.size; have := hs1.out; show _ ≤ _; simp; omega
                clear hb3 ho3 hgt1 hgt2 hrt hT
                refine held_only (i := 5) rfl (by kernel_rfl) (by rfl) (fun K hK => ?_)
                go_simp
                refine hK _ _ trivial ?_
                clear hK K
                refine held_only (i := 6) rfl (by kernel_rfl) (by rfl) (fun K hK => ?_)
                refine wp_append_src _ (.tmp 106) (.tmp 111) 35 rfl wo.heap.size 24 i0 (.slice none 0 0) 1 24 Tryd.underlying35 ii iz0 iz1 iz2 rfl (by decide) (.slice Av j cv) j xs rfl hOw.out (some ⟨w3.heap.size, 0, none⟩) 1 1 [.slice (some ⟨gt, 0, none⟩) 65 ct] rfl hNw.out (fun e => by cases e) (one_one rfl) hl1.out hl2.out hs3.out ?_
                intro v4 w4 hG
                obtain ⟨A4, c4, rfl, -⟩ := Own.reads hG.own
                replace hG := Lib.hid hG
                go_simp
                refine hK _ _ trivial ?_
                clear hK K
                refine held_take (i := 7) (v := .slice A4 (j + 1) c4) rfl (by kernel_rfl) (by kernel_rfl) (by kernel_rfl) (fun _ _ _ h => h) trivial (by rfl) (fun w' hw' => by first | go_simp | rfl) ?_
                (intro K hK; go_simp; refine hK _ ?_; clear hK K)
                refine held_end (by kernel_rfl) ?_
                have hk14 : Hid (Kept (fun q => some q = (Value.slice Av j cv).ownBlock) w1 w4) := ⟨hG.out.grow.os.trans hb13.out.os, hG.out.grow.tape.trans hb13.out.tape, hG.out.grow.output.trans hb13.out.output, (by have h1 := hG.out.grow.size; have h2 := hb13.out.size; simp at h1; omega), fun p hp hne => (hG.out.grow.block p (by have := hb13.out.size; simp; omega) hne).trans ((Below.heap_alloc _ _ _ (by have := hb13.out.size; omega)).trans (hb13.out.block p hp))⟩
                have hD4 : Hid (Blk w4 wr.heap.size 23 (cells8 d).toArray) := hD1.out.kept hk14.out (fun e => hdn.out e)
                have hL4 : Hid (Blk w4 (w.heap.size + 1 + 1) 23 (cells8 st.1).toArray) := hL1.out.kept hk14.out (fun e => hln.out e)
                clear hNw hs3 hOw
                go_wp2_with (first
                  | ((with_reducible change wpList _ _ _ ({ dst := some 114, op := _, type := _, pos := _, after := _, guard := _ } :: _) _ _); refine wpList_load_row (o := ⟨some 114, _, _, _, _, _⟩) rfl 23 (.tmp 20) rfl ((w.heap.size + 1 + 1)) rfl 23 ((cells8 st.1).toArray) (0, 0) _ hL4.out Tryd.underlying23 rfl Fs.out.size ?_)
                  | ((with_reducible change wpList _ _ _ ({ dst := some 115, op := _, type := _, pos := _, after := _, guard := _ } :: _) _ _); refine wpList_load_row (o := ⟨some 115, _, _, _, _, _⟩) rfl 23 (.tmp 23) rfl (wr.heap.size) rfl 23 ((cells8 d).toArray) (0, 0) _ hD4.out Tryd.underlying23 rfl Fd.out.size ?_)
                  | (go_at_call 30; refine (hN.out _).mono ?_; rintro e w5 ⟨rfl, hb5⟩; have hL5 : Hid (Blk w5 (w.heap.size + 1 + 1) 23 (cells8 st.1).toArray) := (hb5.block _ hL4.out.lt).trans hL4.out; replace hb5 := Lib.hid hb5)
                  | ((with_reducible change wpList _ _ _ ({ dst := none, op := Op.store 23 (.tmp 20) _, type := _, pos := _, after := _, guard := _ } :: _) _ _); refine wpList_store_whole0 (o := ⟨none, _, _, _, _, _⟩) rfl rfl 23 (.tmp 20) (.tmp 116) rfl ((w.heap.size + 1 + 1)) ((cells8 z).toArray) rfl rfl 23 ((cells8 st.1).toArray) hL5.out F.out.size hqq.out F.out.one ?_; intro w6 hB6 hk6; have hR6 : Hid (RAt wo w6 (w.heap.size + 1 + 1) (climbN s (leaf, []) ((sides size i).zip ds) (j + 1)) (.slice A4 (j + 1) c4) (xs ++ [.slice (some ⟨gt, 0, none⟩) 65 ct])) := (by show RAt _ _ _ _ _ _; rw [hst'.out]; have := (RAt.step (st' := (z, st.2 ++ [q])) (q := q) (gt := gt) (ct := ct) hR.out hbr.out hk.out hb1.out hb13.out (by rw [hql.out]; exact hrq.out) hgt.out (by rw [hql.out]; exact hct.out) (by rw [hql.out]; exact hG.out) hb5.out hB6 hk6 rfl); rw [hql.out] at this; exact this); clear hB6 hk6 hb5 hL5 hL4 hD4 hG hrq hct hgt hb13 hk14))
                have hf1 : (fn : Int).tdiv 2 = ((fn / 2 : Nat) : Int) := by rw [Int.tdiv_eq_ediv_of_nonneg (by omega)]; omega
                have hs1' : (sn : Int).tdiv 2 = ((sn / 2 : Nat) : Int) := by rw [Int.tdiv_eq_ediv_of_nonneg (by omega)]; omega
                clear hm1 hm2 hm3 hm4
                go_wp2_with fail
                go_roundw
                case rel => exact ⟨j + 1, fn / 2, sn / 2, _, _, by go_num, hjn.out, (by first | rfl | (congr 1; omega)), (by first | rfl | (congr 1; omega)), rfl, hAt2.out, hR6.out⟩
                case measure => (have := hjn.out; simp [intOf]; omega)
          · obtain rfl : j = n := by omega
            have hz2 : ¬ ((j : Int) < (j : Int)) := by omega
            have hres : Hid (Blk wr (w.heap.size + 1) 23 Z32) := hBo.out.kept hR.out.kept (by omega)
            have hI1 := Lib.hid hR.out.leaf
            clear hj hlt hln
            go_wp2_with (first
              | ((with_reducible change wpList _ _ _ ({ dst := some 121, op := _, type := _, pos := _, after := _, guard := _ } :: _) _ _); refine wpList_load_row (o := ⟨some 121, _, _, _, _, _⟩) rfl 23 (.tmp 20) rfl ((w.heap.size + 1 + 1)) rfl 23 ((cells8 st.1).toArray) (0, 0) _ hI1.out Tryd.underlying23 rfl Fs.out.size ?_)
              | ((with_reducible change wpList _ _ _ ({ dst := none, op := Op.store 23 _ _, type := _, pos := _, after := _, guard := _ } :: _) _ _); refine wpList_store_row (o := ⟨none, _, _, _, _, _⟩) rfl 23 (.tmp 10) (.tmp 121) rfl (w.heap.size + 1) ((cells8 st.1).toArray) rfl rfl 23 (Z32) hres.out Fs.out.size Fs.out.zero Fs.out.one ?_))
            refine bodyPost_ret (results_cell_row3 rfl _ _ (w.heap.size + 1) 23 (cells8 st.1).toArray (0, 0) _ rfl (setRow_heap _ _ _ _ _ _ hres.out) Tryd.underlying23 rfl Fs.out.size) rfl ?_
            have hXX := hX'.out
            rw [hrn.out, hst.out] at hXX
            subst hXX
            have hk9 : Kept (· = w.heap.size + 1) wr (wr.setRow (w.heap.size + 1) (cells8 st.1).toArray) := Bytes.Kept.setRow (S := fun k => k = w.heap.size + 1) (Kept.refl _ _) rfl _
            refine ⟨_, xs, _, w.heap.size + 1 + 1, rfl, ownsRow_base (own_kept hR.out.own hk9 (fun k e h => ?_)) (Nat.zero_le _), Txs.weaken (Txs.keep hR.out.txs hk9 (fun k h => .inr (.inr ?_))), ?_⟩
            · have h1 := (hR.out.own.lt k e).1
              have h2 := hbr.out
              omega
            · have h2 := hbr.out
              show k < wo.heap.size
              omega
            · exact (((Kept.of_below hbo.out).trans hR.out.kept (fun i _ h => h)).trans (T := (· = w.heap.size + 1)) hk9 (fun i hi h => absurd hi (by omega))).mono (fun i hi h => absurd hi (by omega)) |>.below
      · have hX' := hX.out
        rw [if_pos (by rw [hms.out, hrn]; exact hmn)] at hX'
        subst hX'
        have y1 : ((m : Int) == (n : Int)) = false := beq_eq_false_iff_ne.2 (by omega)
        have y2 : ¬ ((m : Int) = (n : Int)) := by omega
        clear hmn hlt hlle hTn hLn
        go_wp2_with (first
          | (go_at_call 109; refine (hTl.out _).mono ?_; rintro e w' ⟨rfl, rfl⟩)
          | ((with_reducible change wpList _ _ _ ({ dst := none, op := Op.store 23 _ _, type := _, pos := _, after := _, guard := _ } :: _) _ _); refine wpList_store_row (o := ⟨none, _, _, _, _, _⟩) rfl 23 (.tmp 10) (.tmp 61) rfl (w.heap.size + 1) (Z32) rfl rfl 23 (Z32) hB2.out size32' rfl one32 ?_))
        refine bodyPost_ret (results_cell_row3 rfl _ _ (w.heap.size + 1) 23 Z32 (0, 0) _ rfl (setRow_heap _ _ _ _ _ _ hB2.out) Tryd.underlying23 rfl size32') rfl ?_
        exact ⟨.slice none 0 0, [], none, 0, by rw [zero32]; rfl, World.ownsRow_nil _ _ _ _, (fun i q h => by simp at h), below_setRow hb2.out (by omega) _⟩
theorem refincl_any (s : Int) (hs63 : s < 9223372036854775808) (size i : Int) (leaf : Text) (hl : leaf.length = 32) (ds : List Text) (A : Option Addr) (n c : Nat) (hn40 : n < 1099511627776) (w : World) (hr : RdD w A n ds) :
    Calls Tryd.prog 58 #[.int .i64 s, .int .i64 size, .int .i64 i, .agg (cells8 leaf).toArray, .slice A n c] w (RPost w (inclOf s size i leaf [] ds)) := by
  cases hin : insideB size i with
  | false =>
    obtain ⟨X, hX⟩ : ∃ X, inclOf s size i leaf [] ds = X := ⟨_, rfl⟩
    rw [hX]
    unfold inclOf at hX
    rw [if_pos hin] at hX
    subst hX
    refine (refincl_out s size i leaf A n c w hin).mono ?_
    rintro e w' ⟨rfl, hb⟩
    exact ⟨_, [], none, 0, by rw [zero32], World.ownsRow_nil _ _ _ _, (fun i q h => by simp at h), hb⟩
  | true =>
    obtain ⟨h1, h2, h3, h4⟩ := insideB_true hin
    obtain ⟨sz, rfl⟩ := Int.eq_ofNat_of_zero_le (show 0 ≤ size by omega)
    obtain ⟨j, rfl⟩ := Int.eq_ofNat_of_zero_le h3
    exact refincl_in s hs63 sz j (by omega) (by omega) leaf hl ds A n c hn40 w hr
end Go.Proofs.YtaelcgimgomnnaaDoor.RefIncl

namespace Go.Proofs.YtaelcgimgomnnaaDoor.Aud0
end Go.Proofs.YtaelcgimgomnnaaDoor.Aud0

namespace Go.Proofs.YtaelcgimgomnnaaDoor.AudIncl
open Go Go.RowKit Go.Proofs.YtaelcgimgomnnaaDoor Go.Proofs.YtaelcgimgomnnaaDoor.Mem Go.Proofs.YtaelcgimgomnnaaDoor.Sha Go.Proofs.YtaelcgimgomnnaaDoor.Bytes Go.Proofs.YtaelcgimgomnnaaDoor.HashMem Go.Proofs.YtaelcgimgomnnaaDoor.DigestMem Go.Proofs.YtaelcgimgomnnaaDoor.Digest Go.Proofs.YtaelcgimgomnnaaDoor.DigestTop Go.Proofs.YtaelcgimgomnnaaDoor.RefTop Go.Proofs.YtaelcgimgomnnaaDoor.QuietTail Go.Proofs.YtaelcgimgomnnaaDoor.Grown Go.Proofs.YtaelcgimgomnnaaDoor.Chain Go.Proofs.YtaelcgimgomnnaaDoor.TreeMem Go.Proofs.YtaelcgimgomnnaaDoor.TreeRoot Go.Proofs.YtaelcgimgomnnaaDoor.Held Go.Proofs.YtaelcgimgomnnaaDoor.Guard Go.Proofs.YtaelcgimgomnnaaDoor.Sides Go.Proofs.YtaelcgimgomnnaaDoor.Node Go.Proofs.YtaelcgimgomnnaaDoor.Climb Go.Proofs.YtaelcgimgomnnaaDoor.Incl Go.Proofs.YtaelcgimgomnnaaDoor.Include Go.Proofs.YtaelcgimgomnnaaDoor.RefIncl0 Go.Proofs.YtaelcgimgomnnaaDoor.RefIncl Go.Proofs.YtaelcgimgomnnaaDoor.ProofEnc Go.Proofs.YtaelcgimgomnnaaDoor.Ref17 Go.Proofs.YtaelcgimgomnnaaDoor.InclAll Go.Proofs.YtaelcgimgomnnaaDoor.Book Go.Proofs.YtaelcgimgomnnaaDoor.Book2 Go.Proofs.YtaelcgimgomnnaaDoor.Within

theorem _root_.Go.Proofs.YtaelcgimgomnnaaDoor.Mem.Blk.onw {w w' : World} {g : Nat} {t : TypeId} {cs : Array Value} (h : Blk w g t cs) (hb : Below w.heap.size w w') : Blk w' g t cs := (hb.block g h.lt).trans h
theorem sizeI : (Tryd.prog.info? 27).map (·.size) = some 3 := by kernel_rfl
theorem oneI (x y : Int) (A : Option Addr) (n c : Nat) : ((#[Value.int .i64 x, Value.int .i64 y, Value.slice A n c] : Array Value).all fun v => v.oneCell') = true := by rw [List.all_toArray]; rfl
/-- What it answers whether an event and its proof lead to a root. -/
def audIncl (s : Int) (root ev : Text) (x1 x2 : Int) (ds : List Text) : Int :=
  if inclWant x1 x2 ds = none ∨ ev.length < 1 ∨ 65536 < ev.length ∨ withinB s ds = false then 170
  else if (inclOf s x1 x2 (leafOf s ev) [] ds).1 = root then 0 else 171
theorem want_zero {s x1 x2 : Int} {leaf : Text} {ds : List Text} {b : Text} (h : inclWant x1 x2 ds = some b) : (inclOf s x1 x2 leaf [] ds).2.1 = 0 := by
  unfold inclWant at h
  split at h
  · rename_i hh
    unfold inclOf
    rw [if_neg (by rw [show WayP.insideB x1 x2 = true from hh.1]; decide), if_neg (fun e => e hh.2)]
  · cases h
theorem want_pos {x1 x2 : Int} {l : List Text} {b : Text} (h : inclWant x1 x2 l = some b) : 0 < b.length := by
  unfold inclWant at h
  split at h
  · rw [← Option.some.inj h]; simp [ProofEnc.inclBytes]
  · cases h
theorem audIncl_none {s : Int} {root ev : Text} {x1 x2 : Int} {ds : List Text} (h : inclWant x1 x2 ds = none) : audIncl s root ev x1 x2 ds = 170 := if_pos (.inl h)
theorem audIncl_short {s : Int} {root ev : Text} {x1 x2 : Int} {ds : List Text} (h : ev.length < 1) : audIncl s root ev x1 x2 ds = 170 := if_pos (.inr (.inl h))
theorem audIncl_long {s : Int} {root ev : Text} {x1 x2 : Int} {ds : List Text} (h : 65536 < ev.length) : audIncl s root ev x1 x2 ds = 170 := if_pos (.inr (.inr (.inl h)))
theorem audIncl_wide {s : Int} {root ev : Text} {x1 x2 : Int} {ds : List Text} (h : withinB s ds = false) : audIncl s root ev x1 x2 ds = 170 := if_pos (.inr (.inr (.inr h)))
theorem audIncl_in {s : Int} {root ev : Text} {x1 x2 : Int} {ds : List Text} {b : Text} (h : inclWant x1 x2 ds = some b) (h1 : ¬ ev.length < 1) (h2 : ¬ 65536 < ev.length) (h3 : withinB s ds = true) : audIncl s root ev x1 x2 ds = if (inclOf s x1 x2 (leafOf s ev) [] ds).1 = root then 0 else 171 := by
  unfold audIncl
  rw [if_neg]
  rintro (h' | h' | h' | h')
  · rw [h] at h'; cases h'
  · exact h1 h'
  · exact h2 h'
  · rw [h3] at h'; cases h'

set_option maxRecDepth 100000 in
set_option maxHeartbeats 2000000 in
theorem audIncl_any (s : Int) (root : Text) (hrt : root.length = 32) (ev : Text) (k : Nat) (hk : ev.length = k) (hk47 : k < 140737488355328) (A : Option Addr) (c : Nat) (hkc : k ≤ c) (hnil : A = none → k = 0 ∧ c = 0) (x1 x2 : Int) (ds : List Text) (A2 : Option Addr) (n c2 : Nat) (hn40 : n < 1099511627776) (w : World) (hB : Base w) (hr : Reads w 1 A k (cells8 ev)) (hrd : RdD w A2 n ds) :
    Calls Tryd.prog 16 #[.int .i64 s, .agg (cells8 root).toArray, .slice A k c, .agg (inclCells x1 x2 A2 n c2)] w fun e w' => e = .returned (.int .i64 (audIncl s root ev x1 x2 ds)) ∧ Below w.heap.size w w' := by
  unfold inclCells
  obtain ⟨W, hW⟩ : ∃ W, Hid (W = (w.alloc (.cells (cells8 root).toArray 23)).alloc (.cells #[Value.int .i64 x1, Value.int .i64 x2, Value.slice A2 n c2] 27)) := ⟨_, rfl⟩
  have hb1 : Hid (Below w.heap.size w W) := by show Below _ _ _; rw [hW.out]; exact ((Below.refl _ w).alloc (Nat.le_refl _) _).alloc (by simp) _
  have hR1 : Hid (Blk W w.heap.size 23 (cells8 root).toArray) := by show Blk _ _ _ _; rw [hW.out]; exact heap_alloc2_old w _ _
  have hP1 : Hid (Blk W (w.heap.size + 1) 27 #[Value.int .i64 x1, Value.int .i64 x2, Value.slice A2 n c2]) := by show Blk _ _ _ _; rw [hW.out]; exact heap_alloc2_new w _ _
  have Fr := Lib.hid (fit (x := root) hrt)
  obtain ⟨⟨x, kk, ts⟩, hX⟩ : ∃ X, inclOf s x1 x2 (leafOf s ev) [] ds = X := ⟨_, rfl⟩
  have hxl := inclOf_len s x1 x2 (leafOf s ev) [] ds (leafOf_len s ev)
  have hzero := Lib.hid (fun b (h : inclWant x1 x2 ds = some b) => want_zero (s := s) (leaf := leafOf s ev) h)
  rw [hX] at hxl hzero
  dsimp only at hxl hzero
  have F := Lib.hid (fit (x := x) hxl)
  have hq := Lib.hid (fun w => neq_dg x root hxl hrt w)
  obtain ⟨lf, hlf⟩ : ∃ lf, Hid (leafOf s ev = lf) := ⟨_, Lib.hid rfl⟩
  have hlfl : Hid (lf.length = 32) := by show _ = _; rw [← hlf.out]; exact leafOf_len s ev
  have hWi : Hid (∀ w', Below w.heap.size w w' → Calls Tryd.prog 54 #[.int .i64 s, .slice A2 n c2] w' fun e w'' => e = .returned (.bool (withinB s ds)) ∧ Below w'.heap.size w' w'') := fun w' hb => within_any s ds n (by omega) A2 c2 w' (hrd.below hb)
  have hLf : Hid (∀ w', Below w.heap.size w w' → Calls Tryd.prog 55 #[.int .i64 s, .slice A k c] w' fun e w'' => e = .returned (.agg (cells8 lf).toArray) ∧ Below w'.heap.size w' w'') := fun w' hb => by
    have := leaf_any ev k hk A c s w' (hB.below hb hB.1) hk47 (hr.below hb) hkc hnil
    rw [← hlf.out]
    exact this
  have hsome := Lib.hid (fun b (h : inclWant x1 x2 ds = some b) h1 h2 h3 => audIncl_in (s := s) (root := root) (ev := ev) h h1 h2 h3)
  rw [hX] at hsome
  dsimp only at hsome
  have hIn : Hid (∀ w', Below w.heap.size w w' → Calls Tryd.prog 23 #[.int .i64 s, .int .i64 x1, .int .i64 x2, .agg (cells8 lf).toArray, .slice A2 n c2] w' fun e w'' => e = .returned (.tuple #[.agg (cells8 x).toArray, .int .i64 kk]) ∧ Below w'.heap.size w' w'') := fun w' hb => by
    have := include_any s x1 x2 lf hlfl.out ds A2 n c2 hn40 w' (hB.below hb hB.1) (hrd.below hb)
    rw [← hlf.out] at this
    rw [hX] at this
    rw [← hlf.out]
    exact this
  have hEn : Hid (∀ w', Below w.heap.size w w' → Calls Tryd.prog 53 #[.agg #[Value.int .i64 x1, Value.int .i64 x2, Value.slice A2 n c2]] w' fun e w'' => ∃ A4 c4 b err, e = .returned (.tuple #[.slice A4 b.length c4, .int .i64 err]) ∧ Reads w'' 1 A4 b.length (cells8 b) ∧ ((inclWant x1 x2 ds = some b ∧ err = 0) ∨ (inclWant x1 x2 ds = none ∧ b = [] ∧ err = 170)) ∧ Below w'.heap.size w' w'') := fun w' hb => encIncl_any x1 x2 ds A2 n c2 w' (hrd.below hb)
  have hnoneA := Lib.hid (fun h => audIncl_none (s := s) (root := root) (ev := ev) (x1 := x1) (x2 := x2) (ds := ds) h)
  have hshortA := Lib.hid (fun h => audIncl_short (s := s) (root := root) (ev := ev) (x1 := x1) (x2 := x2) (ds := ds) h)
  have hlongA := Lib.hid (fun h => audIncl_long (s := s) (root := root) (ev := ev) (x1 := x1) (x2 := x2) (ds := ds) h)
  have hwideA := Lib.hid (fun h => audIncl_wide (s := s) (root := root) (ev := ev) (x1 := x1) (x2 := x2) (ds := ds) h)
  obtain ⟨ans, hans⟩ : ∃ a, Hid (audIncl s root ev x1 x2 ds = a) := ⟨_, Lib.hid rfl⟩
  rw [hans.out] at hsome hnoneA hshortA hlongA hwideA ⊢
  have hkh := Lib.hid hk
  rw [hkh.out] at hsome hshortA hlongA
  clear hrt hk hk47 hkc hnil hn40 hr hrd hX hxl hB
  go_enter Tryd.func16, Tryd.ntmps16
  go_wp2_with fail
  change Calls _ _ _ ((w.alloc (.cells (cells8 root).toArray 23)).alloc (.cells #[Value.int .i64 x1, Value.int .i64 x2, Value.slice A2 n c2] 27)) _
  rw [← hW.out]
  clear hW
  refine (hEn.out W hb1.out).mono ?_
  rintro e w2 ⟨A4, c4, b, err, rfl, -, hbe, hk1⟩
  have hb2 : Hid (Below w.heap.size w w2) := hb1.out.trans (hk1.mono hb1.out.size)
  have hR2 : Hid (Blk w2 w.heap.size 23 (cells8 root).toArray) := Blk.onw hR1.out hk1
  have hP2 : Hid (Blk w2 (w.heap.size + 1) 27 #[Value.int .i64 x1, Value.int .i64 x2, Value.slice A2 n c2]) := Blk.onw hP1.out hk1
  clear hk1 hEn
  rcases hbe with ⟨hwt, rfl⟩ | ⟨hwt, rfl, rfl⟩
  · by_cases hs1 : k < 1
    · obtain rfl := hshortA.out hs1
      have y1 : (k : Int) < 1 := by omega
      clear hans hwt
      go_wp2_with fail
      go_ret
      exact ⟨rfl, hb2.out⟩
    · by_cases hs2 : 65536 < k
      · obtain rfl := hlongA.out hs2
        have y1 : ¬ ((k : Int) < 1) := by omega
        have y2 : (65536 : Int) < (k : Int) := by omega
        clear hans hwt hs1
        go_wp2_with fail
        go_ret
        exact ⟨rfl, hb2.out⟩
      · have y1 : ¬ ((k : Int) < 1) := by omega
        have y2 : ¬ ((65536 : Int) < (k : Int)) := by omega
        have hWd := Lib.hid (hWi.out w2 hb2.out)
        have hsm := Lib.hid (hsome.out b hwt hs1 hs2)
        obtain rfl : kk = 0 := hzero.out b hwt
        clear hshortA hlongA hnoneA hwt hs1 hs2 hzero hsome
        have c2' : w2.cell? ⟨w.heap.size + 1, 2, none⟩ = some (.slice A2 n c2) := hP2.out.cell 2
        cases hwi : withinB s ds with
        | false =>
          obtain rfl := hwideA.out hwi
          rw [hwi] at hWd
          clear hwi hsm hans
          go_wp2_with (go_at_call 54; refine hWd.out.mono ?_; rintro e w3 ⟨rfl, hk1⟩; have hb3 : Hid (Below w.heap.size w w3) := hb2.out.trans (hk1.mono hb2.out.size); have hR3 : Hid (Blk w3 w.heap.size 23 (cells8 root).toArray) := Blk.onw hR2.out hk1; have hP3 : Hid (Blk w3 (w.heap.size + 1) 27 #[Value.int .i64 x1, Value.int .i64 x2, Value.slice A2 n c2]) := Blk.onw hP2.out hk1; clear hk1)
          go_ret
          exact ⟨rfl, hb3.out⟩
        | true =>
          have hsm2 := Lib.hid (hsm.out hwi)
          rw [hwi] at hWd
          clear hwi hsm hwideA hans
          go_wp2_with (go_at_call 54; refine hWd.out.mono ?_; rintro e w3 ⟨rfl, hk1⟩; have hb3 : Hid (Below w.heap.size w w3) := hb2.out.trans (hk1.mono hb2.out.size); have hR3 : Hid (Blk w3 w.heap.size 23 (cells8 root).toArray) := Blk.onw hR2.out hk1; have hP3 : Hid (Blk w3 (w.heap.size + 1) 27 #[Value.int .i64 x1, Value.int .i64 x2, Value.slice A2 n c2]) := Blk.onw hP2.out hk1; clear hk1)
          go_cut [11, 12] from 37 to 50 (fun v u wr => ∃ m : Nat, v = .pointer (some ⟨m, 0, none⟩) ∧ u = .int .i64 0 ∧ Hid (Blk wr m 23 (cells8 x).toArray) ∧ Hid (Below w3.heap.size w3 wr))
          case first =>
            have s0 : Hid (Below w3.heap.size w3 w3.drew) := (Below.refl _ _).drew
            refine held_start (fun w' => Below w3.heap.size w3 w') 17 rfl (by kernel_rfl) ?_
            refine held_take (i := 0) (v := .int .i64 s) rfl (by kernel_rfl) (by kernel_rfl) (by kernel_rfl) (fun _ _ _ h => h) s0.out (by rfl) (fun w' hw' => run_mv (.tmp 0) rfl w') ?_
            (intro K hK; go_simp; refine hK _ ?_; clear hK K)
            refine held_take (i := 1) (v := .pointer (some ⟨w.heap.size + 1, 0, none⟩)) rfl (by kernel_rfl) (by kernel_rfl) (by kernel_rfl) (fun _ _ _ h => h) s0.out (by rfl) (fun w' hw' => by go_simp) ?_
            (intro K hK; go_simp; refine hK _ ?_; clear hK K)
            refine held_take (i := 2) (v := .int .i64 x1) rfl (by kernel_rfl) (by kernel_rfl) (by kernel_rfl) (fun _ _ _ h => h) s0.out (by rfl) (fun w' hw' => by have h := (Blk.onw hP3.out hw').cell 0; go_simp) ?_
            (intro K hK; go_simp; refine hK _ ?_; clear hK K)
            refine held_take (i := 3) (v := .pointer (some ⟨w.heap.size + 1, 1, none⟩)) rfl (by kernel_rfl) (by kernel_rfl) (by kernel_rfl) (fun _ _ _ h => h) s0.out (by rfl) (fun w' hw' => by go_simp) ?_
            (intro K hK; go_simp; refine hK _ ?_; clear hK K)
            refine held_take (i := 4) (v := .int .i64 x2) rfl (by kernel_rfl) (by kernel_rfl) (by kernel_rfl) (fun _ _ _ h => h) s0.out (by rfl) (fun w' hw' => by have h := (Blk.onw hP3.out hw').cell 1; go_simp) ?_
            (intro K hK; go_simp; refine hK _ ?_; clear hK K)
            refine held_take (i := 5) (v := .int .i64 s) rfl (by kernel_rfl) (by kernel_rfl) (by kernel_rfl) (fun _ _ _ h => h) s0.out (by rfl) (fun w' hw' => run_mv (.tmp 0) rfl w') ?_
            (intro K hK; go_simp; refine hK _ ?_; clear hK K)
            refine held_take (i := 6) (v := .slice A k c) rfl (by kernel_rfl) (by kernel_rfl) (by kernel_rfl) (fun _ _ _ h => h) s0.out (by rfl) (fun w' hw' => run_mv (.tmp 2) rfl w') ?_
            (intro K hK; go_simp; refine hK _ ?_; clear hK K)
            refine held_take (i := 8) (v := .pointer (some ⟨w.heap.size + 1, 2, none⟩)) rfl (by kernel_rfl) (by kernel_rfl) (by kernel_rfl) (fun _ _ _ h => h) s0.out (by rfl) (fun w' hw' => by go_simp) ?_
            (intro K hK; go_simp; refine hK _ ?_; clear hK K)
            refine held_take (i := 9) (v := .slice A2 n c2) rfl (by kernel_rfl) (by kernel_rfl) (by kernel_rfl) (fun _ _ _ h => h) s0.out (by rfl) (fun w' hw' => by have h := (Blk.onw hP3.out hw').cell 2; go_simp) ?_
            (intro K hK; go_simp; refine hK _ ?_; clear hK K)
            refine held_two (i := 7) (j := 14) rfl rfl (by kernel_rfl) (by rfl) (by rfl) (fun K hK => ?_) (fun K hK => ?_)
            · refine wp_fn (R := fun v w'' => v = .agg (cells8 lf).toArray ∧ Below w3.heap.size w3 w'' ∧ Below (w3.drew).heap.size (w3.drew) w'') (args := #[.int .i64 s, .slice A k c]) _ _ rfl rfl Tryd.func55 (by kernel_rfl) (by kernel_rfl) ((hLf.out _ (hb3.out.trans ((s0.out).mono hb3.out.size))).mono fun e w'' ⟨he, hb⟩ => ⟨_, he, rfl, s0.out.trans (hb.mono s0.out.size), hb⟩) ?_
              rintro qq w5 ⟨rfl, h5, kk1⟩
              replace h5 := Lib.hid h5
              replace kk1 := Lib.hid kk1
              clear kk1
              go_simp
              refine hK _ _ h5.out ?_
              clear hK K
              refine held_two (i := 10) (j := 14) rfl rfl (by kernel_rfl) (by rfl) (by rfl) (fun K hK => ?_) (fun K hK => ?_)
              · refine wp_fn (R := fun v w'' => v = .tuple #[.agg (cells8 x).toArray, .int .i64 0] ∧ Below w3.heap.size w3 w'' ∧ Below (w5).heap.size (w5) w'') (args := #[.int .i64 s, .int .i64 x1, .int .i64 x2, .agg (cells8 lf).toArray, .slice A2 n c2]) _ _ rfl rfl Tryd.func23 (by kernel_rfl) (by kernel_rfl) ((hIn.out _ (hb3.out.trans ((h5.out).mono hb3.out.size))).mono fun e w'' ⟨he, hb⟩ => ⟨_, he, rfl, h5.out.trans (hb.mono h5.out.size), hb⟩) ?_
                rintro qq w6 ⟨rfl, h6, kk1⟩
                replace h6 := Lib.hid h6
                replace kk1 := Lib.hid kk1
                clear kk1
                go_simp
                refine hK _ _ h6.out ?_
                clear hK K
                refine held_take (i := 11) (v := .tuple #[.agg (cells8 x).toArray, .int .i64 0]) rfl (by kernel_rfl) (by kernel_rfl) (by kernel_rfl) (fun _ _ _ h => h) h6.out (by rfl) (fun w' hw' => run_mv (.tmp 48) rfl w') ?_
                (intro K hK; go_simp; refine hK _ ?_; clear hK K)
                refine held_take (i := 12) (v := .agg (cells8 x).toArray) rfl (by kernel_rfl) (by kernel_rfl) (by kernel_rfl) (fun _ _ _ h => h) h6.out (by rfl) (fun w' hw' => by go_simp) ?_
                (intro K hK; go_simp; refine hK _ ?_; clear hK K)
                refine held_take (i := 13) (v := .int .i64 0) rfl (by kernel_rfl) (by kernel_rfl) (by kernel_rfl) (fun _ _ _ h => h) h6.out (by rfl) (fun w' hw' => by go_simp) ?_
                (intro K hK; go_simp; refine hK _ ?_; clear hK K)
                refine held_only (i := 14) rfl (by kernel_rfl) (by rfl) (fun K hK => ?_)
                have h7 := Lib.hid (h6.out.alloc h6.out.size (.cells Z32 23))
                have bb : Hid (Blk (w6.alloc (.cells Z32 23)) w6.heap.size 23 Z32) := Blk.new _ _ _
                go_simp
                refine hK _ _ h7.out ?_
                clear hK K
                refine held_only (i := 15) rfl (by kernel_rfl) (by rfl) (fun K hK => ?_)
                refine wp_store_whole 23 (.tmp 11) (.tmp 49) rfl (w6.heap.size) ((cells8 x).toArray) rfl rfl 23 (Z32) (bb.out) F.out.size F.out.zero F.out.one ?_
                intro w99 B9 k9
                have b9 : Hid (Below w3.heap.size w3 w99) := h7.out.trans (Kept.below_of k9 (h6.out.size) h7.out.size)
                go_simp
                refine hK _ _ b9.out ?_
                clear hK K
                refine held_take (i := 16) (v := .int .i64 0) rfl (by kernel_rfl) (by kernel_rfl) (by kernel_rfl) (fun _ _ _ h => h) b9.out (by rfl) (fun w' hw' => by first | go_simp | rfl) ?_
                (intro K hK; go_simp; refine hK _ ?_; clear hK K)
                refine held_end (by kernel_rfl) ?_
                go_wp2_with fail
                go_meet
                case rel => exact ⟨_, rfl, rfl, B9, b9.out⟩
              · have h6 := Lib.hid (h5.out.alloc h5.out.size (.cells Z32 23))
                have bb : Hid (Blk (w5.alloc (.cells Z32 23)) w5.heap.size 23 Z32) := Blk.new _ _ _
                go_simp
                refine hK _ _ h6.out ?_
                clear hK K
                refine held_only (i := 10) rfl (by kernel_rfl) (by rfl) (fun K hK => ?_)
                refine wp_fn (R := fun v w'' => v = .tuple #[.agg (cells8 x).toArray, .int .i64 0] ∧ Below w3.heap.size w3 w'' ∧ Below ((w5.alloc (.cells Z32 23))).heap.size ((w5.alloc (.cells Z32 23))) w'') (args := #[.int .i64 s, .int .i64 x1, .int .i64 x2, .agg (cells8 lf).toArray, .slice A2 n c2]) _ _ rfl rfl Tryd.func23 (by kernel_rfl) (by kernel_rfl) ((hIn.out _ (hb3.out.trans ((h6.out).mono hb3.out.size))).mono fun e w'' ⟨he, hb⟩ => ⟨_, he, rfl, h6.out.trans (hb.mono h6.out.size), hb⟩) ?_
                rintro qq w7 ⟨rfl, h7, kk1⟩
                replace h7 := Lib.hid h7
                replace kk1 := Lib.hid kk1
                replace bb := Lib.hid ((kk1.out.block _ (Blk.lt bb.out)).trans bb.out)
                clear kk1
                go_simp
                refine hK _ _ h7.out ?_
                clear hK K
                refine held_take (i := 11) (v := .tuple #[.agg (cells8 x).toArray, .int .i64 0]) rfl (by kernel_rfl) (by kernel_rfl) (by kernel_rfl) (fun _ _ _ h => h) h7.out (by rfl) (fun w' hw' => run_mv (.tmp 48) rfl w') ?_
                (intro K hK; go_simp; refine hK _ ?_; clear hK K)
                refine held_take (i := 12) (v := .agg (cells8 x).toArray) rfl (by kernel_rfl) (by kernel_rfl) (by kernel_rfl) (fun _ _ _ h => h) h7.out (by rfl) (fun w' hw' => by go_simp) ?_
                (intro K hK; go_simp; refine hK _ ?_; clear hK K)
                refine held_take (i := 13) (v := .int .i64 0) rfl (by kernel_rfl) (by kernel_rfl) (by kernel_rfl) (fun _ _ _ h => h) h7.out (by rfl) (fun w' hw' => by go_simp) ?_
                (intro K hK; go_simp; refine hK _ ?_; clear hK K)
                refine held_only (i := 15) rfl (by kernel_rfl) (by rfl) (fun K hK => ?_)
                refine wp_store_whole 23 (.tmp 11) (.tmp 49) rfl (w5.heap.size) ((cells8 x).toArray) rfl rfl 23 (Z32) (bb.out) F.out.size F.out.zero F.out.one ?_
                intro w99 B9 k9
                have b9 : Hid (Below w3.heap.size w3 w99) := h7.out.trans (Kept.below_of k9 (h5.out.size) h7.out.size)
                go_simp
                refine hK _ _ b9.out ?_
                clear hK K
                refine held_take (i := 16) (v := .int .i64 0) rfl (by kernel_rfl) (by kernel_rfl) (by kernel_rfl) (fun _ _ _ h => h) b9.out (by rfl) (fun w' hw' => by first | go_simp | rfl) ?_
                (intro K hK; go_simp; refine hK _ ?_; clear hK K)
                refine held_end (by kernel_rfl) ?_
                go_wp2_with fail
                go_meet
                case rel => exact ⟨_, rfl, rfl, B9, b9.out⟩
            · have h5 := Lib.hid (s0.out.alloc s0.out.size (.cells Z32 23))
              have bb : Hid (Blk (w3.drew.alloc (.cells Z32 23)) w3.heap.size 23 Z32) := Blk.new _ _ _
              go_simp
              refine hK _ _ h5.out ?_
              clear hK K
              refine held_only (i := 7) rfl (by kernel_rfl) (by rfl) (fun K hK => ?_)
              refine wp_fn (R := fun v w'' => v = .agg (cells8 lf).toArray ∧ Below w3.heap.size w3 w'' ∧ Below ((w3.drew.alloc (.cells Z32 23))).heap.size ((w3.drew.alloc (.cells Z32 23))) w'') (args := #[.int .i64 s, .slice A k c]) _ _ rfl rfl Tryd.func55 (by kernel_rfl) (by kernel_rfl) ((hLf.out _ (hb3.out.trans ((h5.out).mono hb3.out.size))).mono fun e w'' ⟨he, hb⟩ => ⟨_, he, rfl, h5.out.trans (hb.mono h5.out.size), hb⟩) ?_
              rintro qq w6 ⟨rfl, h6, kk1⟩
              replace h6 := Lib.hid h6
              replace kk1 := Lib.hid kk1
              replace bb := Lib.hid ((kk1.out.block _ (Blk.lt bb.out)).trans bb.out)
              clear kk1
              go_simp
              refine hK _ _ h6.out ?_
              clear hK K
              refine held_only (i := 10) rfl (by kernel_rfl) (by rfl) (fun K hK => ?_)
              refine wp_fn (R := fun v w'' => v = .tuple #[.agg (cells8 x).toArray, .int .i64 0] ∧ Below w3.heap.size w3 w'' ∧ Below (w6).heap.size (w6) w'') (args := #[.int .i64 s, .int .i64 x1, .int .i64 x2, .agg (cells8 lf).toArray, .slice A2 n c2]) _ _ rfl rfl Tryd.func23 (by kernel_rfl) (by kernel_rfl) ((hIn.out _ (hb3.out.trans ((h6.out).mono hb3.out.size))).mono fun e w'' ⟨he, hb⟩ => ⟨_, he, rfl, h6.out.trans (hb.mono h6.out.size), hb⟩) ?_
              rintro qq w7 ⟨rfl, h7, kk1⟩
              replace h7 := Lib.hid h7
              replace kk1 := Lib.hid kk1
              replace bb := Lib.hid ((kk1.out.block _ (Blk.lt bb.out)).trans bb.out)
              clear kk1
              go_simp
              refine hK _ _ h7.out ?_
              clear hK K
              refine held_take (i := 11) (v := .tuple #[.agg (cells8 x).toArray, .int .i64 0]) rfl (by kernel_rfl) (by kernel_rfl) (by kernel_rfl) (fun _ _ _ h => h) h7.out (by rfl) (fun w' hw' => run_mv (.tmp 48) rfl w') ?_
              (intro K hK; go_simp; refine hK _ ?_; clear hK K)
              refine held_take (i := 12) (v := .agg (cells8 x).toArray) rfl (by kernel_rfl) (by kernel_rfl) (by kernel_rfl) (fun _ _ _ h => h) h7.out (by rfl) (fun w' hw' => by go_simp) ?_
              (intro K hK; go_simp; refine hK _ ?_; clear hK K)
              refine held_take (i := 13) (v := .int .i64 0) rfl (by kernel_rfl) (by kernel_rfl) (by kernel_rfl) (fun _ _ _ h => h) h7.out (by rfl) (fun w' hw' => by go_simp) ?_
              (intro K hK; go_simp; refine hK _ ?_; clear hK K)
              refine held_only (i := 15) rfl (by kernel_rfl) (by rfl) (fun K hK => ?_)
              refine wp_store_whole 23 (.tmp 11) (.tmp 49) rfl (w3.heap.size) ((cells8 x).toArray) rfl rfl 23 (Z32) (bb.out) F.out.size F.out.zero F.out.one ?_
              intro w99 B9 k9
              have b9 : Hid (Below w3.heap.size w3 w99) := h7.out.trans (Kept.below_of k9 (s0.out.size) h7.out.size)
              go_simp
              refine hK _ _ b9.out ?_
              clear hK K
              refine held_take (i := 16) (v := .int .i64 0) rfl (by kernel_rfl) (by kernel_rfl) (by kernel_rfl) (fun _ _ _ h => h) b9.out (by rfl) (fun w' hw' => by first | go_simp | rfl) ?_
              (intro K hK; go_simp; refine hK _ ?_; clear hK K)
              refine held_end (by kernel_rfl) ?_
              go_wp2_with fail
              go_meet
              case rel => exact ⟨_, rfl, rfl, B9, b9.out⟩
          case rest =>
            obtain ⟨m, rfl, rfl, hM, hk4⟩ := hcut
            have hb4 : Hid (Below w.heap.size w wc) := hb3.out.trans (hk4.out.mono hb3.out.size)
            have hR4 : Hid (Blk wc w.heap.size 23 (cells8 root).toArray) := Blk.onw hR3.out hk4.out
            clear hk4
            by_cases hxr : x = root
            · have hqq : Hid (∀ w, (Op.equalIn 10000 23 (.agg (cells8 x).toArray) (.agg (cells8 root).toArray)).run Tryd.prog w = .ok true w) := fun w => by rw [hq.out w, decide_eq_true hxr]
              have hqq2 := hqq.out
              have ha : ans = 0 := by rw [hsm2.out, if_pos hxr]
              clear hq hqq hxr
              go_wp2_with (first
                | ((with_reducible change wpList _ _ _ ({ dst := some 54, op := _, type := _, pos := _, after := _, guard := _ } :: _) _ _); refine wpList_load_rowG (o := ⟨some 54, _, _, _, _, _⟩) rfl 23 (.tmp 11) rfl (m) rfl 23 ((cells8 x).toArray) (0, 0) _ hM.out Tryd.underlying23 rfl F.out.size ?_)
                | ((with_reducible change wpList _ _ _ ({ dst := some 55, op := _, type := _, pos := _, after := _, guard := _ } :: _) _ _); refine wpList_load_rowG (o := ⟨some 55, _, _, _, _, _⟩) rfl 23 (.tmp 5) rfl (w.heap.size) rfl 23 ((cells8 root).toArray) (0, 0) _ hR4.out Tryd.underlying23 rfl Fr.out.size ?_))
              go_ret
              exact ⟨by rw [ha]; rfl, hb4.out⟩
            · have hqq : Hid (∀ w, (Op.equalIn 10000 23 (.agg (cells8 x).toArray) (.agg (cells8 root).toArray)).run Tryd.prog w = .ok false w) := fun w => by rw [hq.out w, decide_eq_false hxr]
              have hqq2 := hqq.out
              have ha : ans = 171 := by rw [hsm2.out, if_neg hxr]
              clear hq hqq hxr
              go_wp2_with (first
                | ((with_reducible change wpList _ _ _ ({ dst := some 54, op := _, type := _, pos := _, after := _, guard := _ } :: _) _ _); refine wpList_load_rowG (o := ⟨some 54, _, _, _, _, _⟩) rfl 23 (.tmp 11) rfl (m) rfl 23 ((cells8 x).toArray) (0, 0) _ hM.out Tryd.underlying23 rfl F.out.size ?_)
                | ((with_reducible change wpList _ _ _ ({ dst := some 55, op := _, type := _, pos := _, after := _, guard := _ } :: _) _ _); refine wpList_load_rowG (o := ⟨some 55, _, _, _, _, _⟩) rfl 23 (.tmp 5) rfl (w.heap.size) rfl 23 ((cells8 root).toArray) (0, 0) _ hR4.out Tryd.underlying23 rfl Fr.out.size ?_))
              go_ret
              exact ⟨by rw [ha]; rfl, hb4.out⟩
  · obtain rfl := hnoneA.out hwt
    clear hans hwt
    go_wp2_with fail
    go_ret
    exact ⟨rfl, hb2.out⟩

set_option maxRecDepth 100000 in
set_option maxHeartbeats 2000000 in
theorem refIncl_any (s : Int) (root : Text) (hrt : root.length = 32) (ev : Text) (k : Nat) (hk : ev.length = k) (hk47 : k < 140737488355328) (A : Option Addr) (c : Nat) (hkc : k ≤ c) (hnil : A = none → k = 0 ∧ c = 0) (x1 x2 : Int) (ds : List Text) (A2 : Option Addr) (n c2 : Nat) (hn40 : n < 1099511627776) (w : World) (hs63 : s < 9223372036854775808) (hr : Reads w 1 A k (cells8 ev)) (hrd : RdD w A2 n ds) :
    Calls Tryd.prog 17 #[.int .i64 s, .agg (cells8 root).toArray, .slice A k c, .agg (inclCells x1 x2 A2 n c2)] w fun e w' => e = .returned (.int .i64 (audIncl s root ev x1 x2 ds)) ∧ Below w.heap.size w w' := by
  unfold inclCells
  obtain ⟨W, hW⟩ : ∃ W, Hid (W = (w.alloc (.cells (cells8 root).toArray 23)).alloc (.cells #[Value.int .i64 x1, Value.int .i64 x2, Value.slice A2 n c2] 27)) := ⟨_, rfl⟩
  have hb1 : Hid (Below w.heap.size w W) := by show Below _ _ _; rw [hW.out]; exact ((Below.refl _ w).alloc (Nat.le_refl _) _).alloc (by simp) _
  have hR1 : Hid (Blk W w.heap.size 23 (cells8 root).toArray) := by show Blk _ _ _ _; rw [hW.out]; exact heap_alloc2_old w _ _
  have hP1 : Hid (Blk W (w.heap.size + 1) 27 #[Value.int .i64 x1, Value.int .i64 x2, Value.slice A2 n c2]) := by show Blk _ _ _ _; rw [hW.out]; exact heap_alloc2_new w _ _
  have Fr := Lib.hid (fit (x := root) hrt)
  obtain ⟨⟨x, kk, ts⟩, hX⟩ : ∃ X, inclOf s x1 x2 (leafOf s ev) [] ds = X := ⟨_, rfl⟩
  have hxl := inclOf_len s x1 x2 (leafOf s ev) [] ds (leafOf_len s ev)
  have hzero := Lib.hid (fun b (h : inclWant x1 x2 ds = some b) => want_zero (s := s) (leaf := leafOf s ev) h)
  rw [hX] at hxl hzero
  dsimp only at hxl hzero
  have F := Lib.hid (fit (x := x) hxl)
  have hq := Lib.hid (fun w => neq_dg x root hxl hrt w)
  obtain ⟨lf, hlf⟩ : ∃ lf, Hid (leafOf s ev = lf) := ⟨_, Lib.hid rfl⟩
  have hlfl : Hid (lf.length = 32) := by show _ = _; rw [← hlf.out]; exact leafOf_len s ev
  have hWi : Hid (∀ w', Below w.heap.size w w' → Calls Tryd.prog 57 #[.int .i64 s, .slice A2 n c2] w' fun e w'' => e = .returned (.bool (withinB s ds)) ∧ Below w'.heap.size w' w'') := fun w' hb => refwithin_any s hs63 ds n (by omega) A2 c2 w' (hrd.below hb)
  have hLf : Hid (∀ w', Below w.heap.size w w' → Calls Tryd.prog 36 #[.int .i64 s, .slice A k c] w' fun e w'' => e = .returned (.agg (cells8 lf).toArray) ∧ Below w'.heap.size w' w'') := fun w' hb => by
    have := refleaf_any ev k hk A c s w' hs63 hk47 (hr.below hb) hkc hnil
    rw [← hlf.out]
    exact this
  have hsome := Lib.hid (fun b (h : inclWant x1 x2 ds = some b) h1 h2 h3 => audIncl_in (s := s) (root := root) (ev := ev) h h1 h2 h3)
  rw [hX] at hsome
  dsimp only at hsome
  have hIn : Hid (∀ w', Below w.heap.size w w' → Calls Tryd.prog 58 #[.int .i64 s, .int .i64 x1, .int .i64 x2, .agg (cells8 lf).toArray, .slice A2 n c2] w' fun e w'' => ∃ v xs r gc, e = .returned (.tuple #[.agg (cells8 x).toArray, v, .int .i64 kk]) ∧ w''.ownsRow 0 24 1 v ts.length xs ∧ Txs (fun _ => False) w'' gc r xs ts ∧ Below w'.heap.size w' w'') := fun w' hb => by
    have := refincl_any s hs63 x1 x2 lf hlfl.out ds A2 n c2 hn40 w' (hrd.below hb)
    rw [← hlf.out, hX] at this
    rw [← hlf.out]
    exact this
  have hEn : Hid (∀ w', Below w.heap.size w w' → Calls Tryd.prog 56 #[.agg #[Value.int .i64 x1, Value.int .i64 x2, Value.slice A2 n c2]] w' fun e w'' => ∃ A4 c4 b, e = .returned (.slice A4 b.length c4) ∧ Reads w'' 1 A4 b.length (cells8 b) ∧ (A4 = none → b.length = 0 ∧ c4 = 0) ∧ b.length ≤ c4 ∧ (inclWant x1 x2 ds = some b ∨ (inclWant x1 x2 ds = none ∧ A4 = none ∧ b = [])) ∧ Below w'.heap.size w' w'') := fun w' hb => refincl17_any x1 x2 ds A2 n c2 w' (hrd.below hb)
  have hnoneA := Lib.hid (fun h => audIncl_none (s := s) (root := root) (ev := ev) (x1 := x1) (x2 := x2) (ds := ds) h)
  have hshortA := Lib.hid (fun h => audIncl_short (s := s) (root := root) (ev := ev) (x1 := x1) (x2 := x2) (ds := ds) h)
  have hlongA := Lib.hid (fun h => audIncl_long (s := s) (root := root) (ev := ev) (x1 := x1) (x2 := x2) (ds := ds) h)
  have hwideA := Lib.hid (fun h => audIncl_wide (s := s) (root := root) (ev := ev) (x1 := x1) (x2 := x2) (ds := ds) h)
  obtain ⟨ans, hans⟩ : ∃ a, Hid (audIncl s root ev x1 x2 ds = a) := ⟨_, Lib.hid rfl⟩
  rw [hans.out] at hsome hnoneA hshortA hlongA hwideA ⊢
  have hkh := Lib.hid hk
  rw [hkh.out] at hsome hshortA hlongA
  clear hrt hk hk47 hkc hnil hn40 hr hrd hX hxl hs63
  go_enter Tryd.func17, Tryd.ntmps17
  go_wp2_with fail
  change Calls _ _ _ ((w.alloc (.cells (cells8 root).toArray 23)).alloc (.cells #[Value.int .i64 x1, Value.int .i64 x2, Value.slice A2 n c2] 27)) _
  rw [← hW.out]
  clear hW
  refine (hEn.out W hb1.out).mono ?_
  rintro e w2 ⟨A4, c4, b, rfl, -, hn4, -, hbe, hk1⟩
  have hb2 : Hid (Below w.heap.size w w2) := hb1.out.trans (hk1.mono hb1.out.size)
  have hR2 : Hid (Blk w2 w.heap.size 23 (cells8 root).toArray) := Blk.onw hR1.out hk1
  have hP2 : Hid (Blk w2 (w.heap.size + 1) 27 #[Value.int .i64 x1, Value.int .i64 x2, Value.slice A2 n c2]) := Blk.onw hP1.out hk1
  clear hk1 hEn
  rcases hbe with hwt | ⟨hwt, rfl, rfl⟩
  · have hbp := want_pos hwt
    obtain ⟨a4, rfl⟩ : ∃ a, A4 = some a := by
      cases A4 with
      | none => have := (hn4 rfl).1; omega
      | some a => exact ⟨a, rfl⟩
    have X4 := fun w' => Lib.run_eql_slice_nil (P := Tryd.prog) w' 24 5 (some a4) b.length c4 0 0 Tryd.underlying24
    clear hn4 hbp
    by_cases hs1 : k < 1
    · obtain rfl := hshortA.out hs1
      have y1 : (k : Int) < 1 := by omega
      clear hans hwt
      go_wp2_with fail
      go_ret
      exact ⟨rfl, hb2.out⟩
    · by_cases hs2 : 65536 < k
      · obtain rfl := hlongA.out hs2
        have y1 : ¬ ((k : Int) < 1) := by omega
        have y2 : (65536 : Int) < (k : Int) := by omega
        clear hans hwt hs1
        go_wp2_with fail
        go_ret
        exact ⟨rfl, hb2.out⟩
      · have y1 : ¬ ((k : Int) < 1) := by omega
        have y2 : ¬ ((65536 : Int) < (k : Int)) := by omega
        have hWd := Lib.hid (hWi.out w2 hb2.out)
        have hsm := Lib.hid (hsome.out b hwt hs1 hs2)
        obtain rfl : kk = 0 := hzero.out b hwt
        clear hshortA hlongA hnoneA hwt hs1 hs2 hzero hsome
        have c2' : w2.cell? ⟨w.heap.size + 1, 2, none⟩ = some (.slice A2 n c2) := hP2.out.cell 2
        cases hwi : withinB s ds with
        | false =>
          obtain rfl := hwideA.out hwi
          rw [hwi] at hWd
          clear hwi hsm hans
          go_wp2_with (go_at_call 57; refine hWd.out.mono ?_; rintro e w3 ⟨rfl, hk1⟩; have hb3 : Hid (Below w.heap.size w w3) := hb2.out.trans (hk1.mono hb2.out.size); have hR3 : Hid (Blk w3 w.heap.size 23 (cells8 root).toArray) := Blk.onw hR2.out hk1; have hP3 : Hid (Blk w3 (w.heap.size + 1) 27 #[Value.int .i64 x1, Value.int .i64 x2, Value.slice A2 n c2]) := Blk.onw hP2.out hk1; clear hk1)
          go_ret
          exact ⟨rfl, hb3.out⟩
        | true =>
          have hsm2 := Lib.hid (hsm.out hwi)
          rw [hwi] at hWd
          clear hwi hsm hwideA hans
          go_wp2_with (go_at_call 57; refine hWd.out.mono ?_; rintro e w3 ⟨rfl, hk1⟩; have hb3 : Hid (Below w.heap.size w w3) := hb2.out.trans (hk1.mono hb2.out.size); have hR3 : Hid (Blk w3 w.heap.size 23 (cells8 root).toArray) := Blk.onw hR2.out hk1; have hP3 : Hid (Blk w3 (w.heap.size + 1) 27 #[Value.int .i64 x1, Value.int .i64 x2, Value.slice A2 n c2]) := Blk.onw hP2.out hk1; clear hk1)
          clear X4
          go_cut [9, 10, 11] from 32 to 46 (fun v tv u wr => ∃ (m : Nat) (A0 : Option Addr) (n0 c0 : Nat), v = .pointer (some ⟨m, 0, none⟩) ∧ tv = .slice A0 n0 c0 ∧ u = .int .i64 0 ∧ Hid (Blk wr m 23 (cells8 x).toArray) ∧ Hid (Below w3.heap.size w3 wr))
          case first =>
            have s0 : Hid (Below w3.heap.size w3 w3.drew) := (Below.refl _ _).drew
            refine held_start (fun w' => Below w3.heap.size w3 w') 19 rfl (by kernel_rfl) ?_
            refine held_take (i := 0) (v := .int .i64 s) rfl (by kernel_rfl) (by kernel_rfl) (by kernel_rfl) (fun _ _ _ h => h) s0.out (by rfl) (fun w' hw' => run_mv (.tmp 0) rfl w') ?_
            (intro K hK; go_simp; refine hK _ ?_; clear hK K)
            refine held_take (i := 1) (v := .pointer (some ⟨w.heap.size + 1, 0, none⟩)) rfl (by kernel_rfl) (by kernel_rfl) (by kernel_rfl) (fun _ _ _ h => h) s0.out (by rfl) (fun w' hw' => by go_simp) ?_
            (intro K hK; go_simp; refine hK _ ?_; clear hK K)
            refine held_take (i := 2) (v := .int .i64 x1) rfl (by kernel_rfl) (by kernel_rfl) (by kernel_rfl) (fun _ _ _ h => h) s0.out (by rfl) (fun w' hw' => by have h := (Blk.onw hP3.out hw').cell 0; go_simp) ?_
            (intro K hK; go_simp; refine hK _ ?_; clear hK K)
            refine held_take (i := 3) (v := .pointer (some ⟨w.heap.size + 1, 1, none⟩)) rfl (by kernel_rfl) (by kernel_rfl) (by kernel_rfl) (fun _ _ _ h => h) s0.out (by rfl) (fun w' hw' => by go_simp) ?_
            (intro K hK; go_simp; refine hK _ ?_; clear hK K)
            refine held_take (i := 4) (v := .int .i64 x2) rfl (by kernel_rfl) (by kernel_rfl) (by kernel_rfl) (fun _ _ _ h => h) s0.out (by rfl) (fun w' hw' => by have h := (Blk.onw hP3.out hw').cell 1; go_simp) ?_
            (intro K hK; go_simp; refine hK _ ?_; clear hK K)
            refine held_take (i := 5) (v := .int .i64 s) rfl (by kernel_rfl) (by kernel_rfl) (by kernel_rfl) (fun _ _ _ h => h) s0.out (by rfl) (fun w' hw' => run_mv (.tmp 0) rfl w') ?_
            (intro K hK; go_simp; refine hK _ ?_; clear hK K)
            refine held_take (i := 6) (v := .slice A k c) rfl (by kernel_rfl) (by kernel_rfl) (by kernel_rfl) (fun _ _ _ h => h) s0.out (by rfl) (fun w' hw' => run_mv (.tmp 2) rfl w') ?_
            (intro K hK; go_simp; refine hK _ ?_; clear hK K)
            refine held_take (i := 8) (v := .pointer (some ⟨w.heap.size + 1, 2, none⟩)) rfl (by kernel_rfl) (by kernel_rfl) (by kernel_rfl) (fun _ _ _ h => h) s0.out (by rfl) (fun w' hw' => by go_simp) ?_
            (intro K hK; go_simp; refine hK _ ?_; clear hK K)
            refine held_take (i := 9) (v := .slice A2 n c2) rfl (by kernel_rfl) (by kernel_rfl) (by kernel_rfl) (fun _ _ _ h => h) s0.out (by rfl) (fun w' hw' => by have h := (Blk.onw hP3.out hw').cell 2; go_simp) ?_
            (intro K hK; go_simp; refine hK _ ?_; clear hK K)
            refine held_two (i := 7) (j := 15) rfl rfl (by kernel_rfl) (by rfl) (by rfl) (fun K hK => ?_) (fun K hK => ?_)
            · refine wp_fn (R := fun v w'' => v = .agg (cells8 lf).toArray ∧ Below w3.heap.size w3 w'' ∧ Below (w3.drew).heap.size (w3.drew) w'') (args := #[.int .i64 s, .slice A k c]) _ _ rfl rfl Tryd.func36 (by kernel_rfl) (by kernel_rfl) ((hLf.out _ (hb3.out.trans ((s0.out).mono hb3.out.size))).mono fun e w'' ⟨he, hb⟩ => ⟨_, he, rfl, s0.out.trans (hb.mono s0.out.size), hb⟩) ?_
              rintro qq w5 ⟨rfl, h5, kk1⟩
              replace h5 := Lib.hid h5
              replace kk1 := Lib.hid kk1
              clear kk1
              go_simp
              refine hK _ _ h5.out ?_
              clear hK K
              refine held_two (i := 10) (j := 15) rfl rfl (by kernel_rfl) (by rfl) (by rfl) (fun K hK => ?_) (fun K hK => ?_)
              · refine wp_fn (R := fun v w'' => ∃ A0 n0 c0, v = .tuple #[.agg (cells8 x).toArray, .slice A0 n0 c0, .int .i64 0] ∧ Below w3.heap.size w3 w'' ∧ Below (w5).heap.size (w5) w'') (args := #[.int .i64 s, .int .i64 x1, .int .i64 x2, .agg (cells8 lf).toArray, .slice A2 n c2]) _ _ rfl rfl Tryd.func58 (by kernel_rfl) (by kernel_rfl) ((hIn.out _ (hb3.out.trans ((h5.out).mono hb3.out.size))).mono fun e w'' ⟨v0, xs, r, gc, he, ho, _, hb⟩ => by obtain ⟨A0, c0, e0, -⟩ := Append.Own.reads ho; subst e0; exact ⟨_, he, A0, _, c0, rfl, h5.out.trans (hb.mono h5.out.size), hb⟩) ?_
                rintro qq w6 ⟨A0, n0, c0, rfl, h6, kk1⟩
                replace h6 := Lib.hid h6
                replace kk1 := Lib.hid kk1
                clear kk1
                go_simp
                refine hK _ _ h6.out ?_
                clear hK K
                refine held_take (i := 11) (v := .tuple #[.agg (cells8 x).toArray, .slice A0 n0 c0, .int .i64 0]) rfl (by kernel_rfl) (by kernel_rfl) (by kernel_rfl) (fun _ _ _ h => h) h6.out (by rfl) (fun w' hw' => run_mv (.tmp 43) rfl w') ?_
                (intro K hK; go_simp; refine hK _ ?_; clear hK K)
                refine held_take (i := 12) (v := .agg (cells8 x).toArray) rfl (by kernel_rfl) (by kernel_rfl) (by kernel_rfl) (fun _ _ _ h => h) h6.out (by rfl) (fun w' hw' => by go_simp) ?_
                (intro K hK; go_simp; refine hK _ ?_; clear hK K)
                refine held_take (i := 13) (v := .slice A0 n0 c0) rfl (by kernel_rfl) (by kernel_rfl) (by kernel_rfl) (fun _ _ _ h => h) h6.out (by rfl) (fun w' hw' => by go_simp) ?_
                (intro K hK; go_simp; refine hK _ ?_; clear hK K)
                refine held_take (i := 14) (v := .int .i64 0) rfl (by kernel_rfl) (by kernel_rfl) (by kernel_rfl) (fun _ _ _ h => h) h6.out (by rfl) (fun w' hw' => by go_simp) ?_
                (intro K hK; go_simp; refine hK _ ?_; clear hK K)
                refine held_only (i := 15) rfl (by kernel_rfl) (by rfl) (fun K hK => ?_)
                have h7 := Lib.hid (h6.out.alloc h6.out.size (.cells Z32 23))
                have bb : Hid (Blk (w6.alloc (.cells Z32 23)) w6.heap.size 23 Z32) := Blk.new _ _ _
                go_simp
                refine hK _ _ h7.out ?_
                clear hK K
                refine held_only (i := 16) rfl (by kernel_rfl) (by rfl) (fun K hK => ?_)
                refine wp_store_whole 23 (.tmp 9) (.tmp 44) rfl (w6.heap.size) ((cells8 x).toArray) rfl rfl 23 (Z32) (bb.out) F.out.size F.out.zero F.out.one ?_
                intro w99 B9 k9
                have b9 : Hid (Below w3.heap.size w3 w99) := h7.out.trans (Kept.below_of k9 (h6.out.size) h7.out.size)
                go_simp
                refine hK _ _ b9.out ?_
                clear hK K
                refine held_take (i := 17) (v := .slice A0 n0 c0) rfl (by kernel_rfl) (by kernel_rfl) (by kernel_rfl) (fun _ _ _ h => h) b9.out (by rfl) (fun w' hw' => by first | go_simp | rfl) ?_
                (intro K hK; go_simp; refine hK _ ?_; clear hK K)
                refine held_take (i := 18) (v := .int .i64 0) rfl (by kernel_rfl) (by kernel_rfl) (by kernel_rfl) (fun _ _ _ h => h) b9.out (by rfl) (fun w' hw' => by first | go_simp | rfl) ?_
                (intro K hK; go_simp; refine hK _ ?_; clear hK K)
                refine held_end (by kernel_rfl) ?_
                go_wp2_with fail
                go_meet
                case rel => exact ⟨_, _, _, _, rfl, rfl, rfl, B9, b9.out⟩
              · have h6 := Lib.hid (h5.out.alloc h5.out.size (.cells Z32 23))
                have bb : Hid (Blk (w5.alloc (.cells Z32 23)) w5.heap.size 23 Z32) := Blk.new _ _ _
                go_simp
                refine hK _ _ h6.out ?_
                clear hK K
                refine held_only (i := 10) rfl (by kernel_rfl) (by rfl) (fun K hK => ?_)
                refine wp_fn (R := fun v w'' => ∃ A0 n0 c0, v = .tuple #[.agg (cells8 x).toArray, .slice A0 n0 c0, .int .i64 0] ∧ Below w3.heap.size w3 w'' ∧ Below ((w5.alloc (.cells Z32 23))).heap.size ((w5.alloc (.cells Z32 23))) w'') (args := #[.int .i64 s, .int .i64 x1, .int .i64 x2, .agg (cells8 lf).toArray, .slice A2 n c2]) _ _ rfl rfl Tryd.func58 (by kernel_rfl) (by kernel_rfl) ((hIn.out _ (hb3.out.trans ((h6.out).mono hb3.out.size))).mono fun e w'' ⟨v0, xs, r, gc, he, ho, _, hb⟩ => by obtain ⟨A0, c0, e0, -⟩ := Append.Own.reads ho; subst e0; exact ⟨_, he, A0, _, c0, rfl, h6.out.trans (hb.mono h6.out.size), hb⟩) ?_
                rintro qq w7 ⟨A0, n0, c0, rfl, h7, kk1⟩
                replace h7 := Lib.hid h7
                replace kk1 := Lib.hid kk1
                replace bb := Lib.hid ((kk1.out.block _ (Blk.lt bb.out)).trans bb.out)
                clear kk1
                go_simp
                refine hK _ _ h7.out ?_
                clear hK K
                refine held_take (i := 11) (v := .tuple #[.agg (cells8 x).toArray, .slice A0 n0 c0, .int .i64 0]) rfl (by kernel_rfl) (by kernel_rfl) (by kernel_rfl) (fun _ _ _ h => h) h7.out (by rfl) (fun w' hw' => run_mv (.tmp 43) rfl w') ?_
                (intro K hK; go_simp; refine hK _ ?_; clear hK K)
                refine held_take (i := 12) (v := .agg (cells8 x).toArray) rfl (by kernel_rfl) (by kernel_rfl) (by kernel_rfl) (fun _ _ _ h => h) h7.out (by rfl) (fun w' hw' => by go_simp) ?_
                (intro K hK; go_simp; refine hK _ ?_; clear hK K)
                refine held_take (i := 13) (v := .slice A0 n0 c0) rfl (by kernel_rfl) (by kernel_rfl) (by kernel_rfl) (fun _ _ _ h => h) h7.out (by rfl) (fun w' hw' => by go_simp) ?_
                (intro K hK; go_simp; refine hK _ ?_; clear hK K)
                refine held_take (i := 14) (v := .int .i64 0) rfl (by kernel_rfl) (by kernel_rfl) (by kernel_rfl) (fun _ _ _ h => h) h7.out (by rfl) (fun w' hw' => by go_simp) ?_
                (intro K hK; go_simp; refine hK _ ?_; clear hK K)
                refine held_only (i := 16) rfl (by kernel_rfl) (by rfl) (fun K hK => ?_)
                refine wp_store_whole 23 (.tmp 9) (.tmp 44) rfl (w5.heap.size) ((cells8 x).toArray) rfl rfl 23 (Z32) (bb.out) F.out.size F.out.zero F.out.one ?_
                intro w99 B9 k9
                have b9 : Hid (Below w3.heap.size w3 w99) := h7.out.trans (Kept.below_of k9 (h5.out.size) h7.out.size)
                go_simp
                refine hK _ _ b9.out ?_
                clear hK K
                refine held_take (i := 17) (v := .slice A0 n0 c0) rfl (by kernel_rfl) (by kernel_rfl) (by kernel_rfl) (fun _ _ _ h => h) b9.out (by rfl) (fun w' hw' => by first | go_simp | rfl) ?_
                (intro K hK; go_simp; refine hK _ ?_; clear hK K)
                refine held_take (i := 18) (v := .int .i64 0) rfl (by kernel_rfl) (by kernel_rfl) (by kernel_rfl) (fun _ _ _ h => h) b9.out (by rfl) (fun w' hw' => by first | go_simp | rfl) ?_
                (intro K hK; go_simp; refine hK _ ?_; clear hK K)
                refine held_end (by kernel_rfl) ?_
                go_wp2_with fail
                go_meet
                case rel => exact ⟨_, _, _, _, rfl, rfl, rfl, B9, b9.out⟩
            · have h5 := Lib.hid (s0.out.alloc s0.out.size (.cells Z32 23))
              have bb : Hid (Blk (w3.drew.alloc (.cells Z32 23)) w3.heap.size 23 Z32) := Blk.new _ _ _
              go_simp
              refine hK _ _ h5.out ?_
              clear hK K
              refine held_only (i := 7) rfl (by kernel_rfl) (by rfl) (fun K hK => ?_)
              refine wp_fn (R := fun v w'' => v = .agg (cells8 lf).toArray ∧ Below w3.heap.size w3 w'' ∧ Below ((w3.drew.alloc (.cells Z32 23))).heap.size ((w3.drew.alloc (.cells Z32 23))) w'') (args := #[.int .i64 s, .slice A k c]) _ _ rfl rfl Tryd.func36 (by kernel_rfl) (by kernel_rfl) ((hLf.out _ (hb3.out.trans ((h5.out).mono hb3.out.size))).mono fun e w'' ⟨he, hb⟩ => ⟨_, he, rfl, h5.out.trans (hb.mono h5.out.size), hb⟩) ?_
              rintro qq w6 ⟨rfl, h6, kk1⟩
              replace h6 := Lib.hid h6
              replace kk1 := Lib.hid kk1
              replace bb := Lib.hid ((kk1.out.block _ (Blk.lt bb.out)).trans bb.out)
              clear kk1
              go_simp
              refine hK _ _ h6.out ?_
              clear hK K
              refine held_only (i := 10) rfl (by kernel_rfl) (by rfl) (fun K hK => ?_)
              refine wp_fn (R := fun v w'' => ∃ A0 n0 c0, v = .tuple #[.agg (cells8 x).toArray, .slice A0 n0 c0, .int .i64 0] ∧ Below w3.heap.size w3 w'' ∧ Below (w6).heap.size (w6) w'') (args := #[.int .i64 s, .int .i64 x1, .int .i64 x2, .agg (cells8 lf).toArray, .slice A2 n c2]) _ _ rfl rfl Tryd.func58 (by kernel_rfl) (by kernel_rfl) ((hIn.out _ (hb3.out.trans ((h6.out).mono hb3.out.size))).mono fun e w'' ⟨v0, xs, r, gc, he, ho, _, hb⟩ => by obtain ⟨A0, c0, e0, -⟩ := Append.Own.reads ho; subst e0; exact ⟨_, he, A0, _, c0, rfl, h6.out.trans (hb.mono h6.out.size), hb⟩) ?_
              rintro qq w7 ⟨A0, n0, c0, rfl, h7, kk1⟩
              replace h7 := Lib.hid h7
              replace kk1 := Lib.hid kk1
              replace bb := Lib.hid ((kk1.out.block _ (Blk.lt bb.out)).trans bb.out)
              clear kk1
              go_simp
              refine hK _ _ h7.out ?_
              clear hK K
              refine held_take (i := 11) (v := .tuple #[.agg (cells8 x).toArray, .slice A0 n0 c0, .int .i64 0]) rfl (by kernel_rfl) (by kernel_rfl) (by kernel_rfl) (fun _ _ _ h => h) h7.out (by rfl) (fun w' hw' => run_mv (.tmp 43) rfl w') ?_
              (intro K hK; go_simp; refine hK _ ?_; clear hK K)
              refine held_take (i := 12) (v := .agg (cells8 x).toArray) rfl (by kernel_rfl) (by kernel_rfl) (by kernel_rfl) (fun _ _ _ h => h) h7.out (by rfl) (fun w' hw' => by go_simp) ?_
              (intro K hK; go_simp; refine hK _ ?_; clear hK K)
              refine held_take (i := 13) (v := .slice A0 n0 c0) rfl (by kernel_rfl) (by kernel_rfl) (by kernel_rfl) (fun _ _ _ h => h) h7.out (by rfl) (fun w' hw' => by go_simp) ?_
              (intro K hK; go_simp; refine hK _ ?_; clear hK K)
              refine held_take (i := 14) (v := .int .i64 0) rfl (by kernel_rfl) (by kernel_rfl) (by kernel_rfl) (fun _ _ _ h => h) h7.out (by rfl) (fun w' hw' => by go_simp) ?_
              (intro K hK; go_simp; refine hK _ ?_; clear hK K)
              refine held_only (i := 16) rfl (by kernel_rfl) (by rfl) (fun K hK => ?_)
              refine wp_store_whole 23 (.tmp 9) (.tmp 44) rfl (w3.heap.size) ((cells8 x).toArray) rfl rfl 23 (Z32) (bb.out) F.out.size F.out.zero F.out.one ?_
              intro w99 B9 k9
              have b9 : Hid (Below w3.heap.size w3 w99) := h7.out.trans (Kept.below_of k9 (s0.out.size) h7.out.size)
              go_simp
              refine hK _ _ b9.out ?_
              clear hK K
              refine held_take (i := 17) (v := .slice A0 n0 c0) rfl (by kernel_rfl) (by kernel_rfl) (by kernel_rfl) (fun _ _ _ h => h) b9.out (by rfl) (fun w' hw' => by first | go_simp | rfl) ?_
              (intro K hK; go_simp; refine hK _ ?_; clear hK K)
              refine held_take (i := 18) (v := .int .i64 0) rfl (by kernel_rfl) (by kernel_rfl) (by kernel_rfl) (fun _ _ _ h => h) b9.out (by rfl) (fun w' hw' => by first | go_simp | rfl) ?_
              (intro K hK; go_simp; refine hK _ ?_; clear hK K)
              refine held_end (by kernel_rfl) ?_
              go_wp2_with fail
              go_meet
              case rel => exact ⟨_, _, _, _, rfl, rfl, rfl, B9, b9.out⟩
          case rest =>
            obtain ⟨m, A0, n0, c0, rfl, rfl, rfl, hM, hk4⟩ := hcut
            have hb4 : Hid (Below w.heap.size w wc) := hb3.out.trans (hk4.out.mono hb3.out.size)
            have hR4 : Hid (Blk wc w.heap.size 23 (cells8 root).toArray) := Blk.onw hR3.out hk4.out
            clear hk4
            by_cases hxr : x = root
            · have hqq : Hid (∀ w, (Op.equalIn 10000 23 (.agg (cells8 x).toArray) (.agg (cells8 root).toArray)).run Tryd.prog w = .ok true w) := fun w => by rw [hq.out w, decide_eq_true hxr]
              have hqq2 := hqq.out
              have ha : ans = 0 := by rw [hsm2.out, if_pos hxr]
              clear hq hqq hxr
              go_wp2_with (first
                | ((with_reducible change wpList _ _ _ ({ dst := some 50, op := _, type := _, pos := _, after := _, guard := _ } :: _) _ _); refine wpList_load_rowG (o := ⟨some 50, _, _, _, _, _⟩) rfl 23 (.tmp 9) rfl (m) rfl 23 ((cells8 x).toArray) (0, 0) _ hM.out Tryd.underlying23 rfl F.out.size ?_)
                | ((with_reducible change wpList _ _ _ ({ dst := some 51, op := _, type := _, pos := _, after := _, guard := _ } :: _) _ _); refine wpList_load_rowG (o := ⟨some 51, _, _, _, _, _⟩) rfl 23 (.tmp 5) rfl (w.heap.size) rfl 23 ((cells8 root).toArray) (0, 0) _ hR4.out Tryd.underlying23 rfl Fr.out.size ?_))
              go_ret
              exact ⟨by rw [ha]; rfl, hb4.out⟩
            · have hqq : Hid (∀ w, (Op.equalIn 10000 23 (.agg (cells8 x).toArray) (.agg (cells8 root).toArray)).run Tryd.prog w = .ok false w) := fun w => by rw [hq.out w, decide_eq_false hxr]
              have hqq2 := hqq.out
              have ha : ans = 171 := by rw [hsm2.out, if_neg hxr]
              clear hq hqq hxr
              go_wp2_with (first
                | ((with_reducible change wpList _ _ _ ({ dst := some 50, op := _, type := _, pos := _, after := _, guard := _ } :: _) _ _); refine wpList_load_rowG (o := ⟨some 50, _, _, _, _, _⟩) rfl 23 (.tmp 9) rfl (m) rfl 23 ((cells8 x).toArray) (0, 0) _ hM.out Tryd.underlying23 rfl F.out.size ?_)
                | ((with_reducible change wpList _ _ _ ({ dst := some 51, op := _, type := _, pos := _, after := _, guard := _ } :: _) _ _); refine wpList_load_rowG (o := ⟨some 51, _, _, _, _, _⟩) rfl 23 (.tmp 5) rfl (w.heap.size) rfl 23 ((cells8 root).toArray) (0, 0) _ hR4.out Tryd.underlying23 rfl Fr.out.size ?_))
              go_ret
              exact ⟨by rw [ha]; rfl, hb4.out⟩
  · have X4 := fun w' => Lib.run_eql_slice_nil (P := Tryd.prog) w' 24 5 none 0 c4 0 0 Tryd.underlying24
    obtain rfl := hnoneA.out hwt
    clear hans hwt hn4
    go_wp2_with fail
    go_ret
    exact ⟨rfl, hb2.out⟩

end Go.Proofs.YtaelcgimgomnnaaDoor.AudIncl
