/-
  docketlaw6.TreeRoots, walked.
-/
import Derived.Test.YtngieimjlkpkaaaDoorTreeRefRoot
namespace Go.Proofs.YtngieimjlkpkaaaDoor.TreeRoots
open Go Go.RowKit Go.Proofs.YtngieimjlkpkaaaDoor Go.Proofs.YtngieimjlkpkaaaDoor.Digest Go.Proofs.YtngieimjlkpkaaaDoor.Mem Go.Proofs.YtngieimjlkpkaaaDoor.Sha Go.Proofs.YtngieimjlkpkaaaDoor.ShaWalk Go.Proofs.YtngieimjlkpkaaaDoor.Bytes Go.Proofs.YtngieimjlkpkaaaDoor.HashMem Go.Proofs.YtngieimjlkpkaaaDoor.DigestMem Go.Proofs.YtngieimjlkpkaaaDoor.DigestTop Go.Proofs.YtngieimjlkpkaaaDoor.RefTop Go.Proofs.YtngieimjlkpkaaaDoor.QuietTail Go.Proofs.YtngieimjlkpkaaaDoor.Grown Go.Proofs.YtngieimjlkpkaaaDoor.Chain Go.Proofs.YtngieimjlkpkaaaDoor.TreeMath Go.Proofs.YtngieimjlkpkaaaDoor.TreeMem Go.Proofs.YtngieimjlkpkaaaDoor.TreeRoot Go.Proofs.YtngieimjlkpkaaaDoor.TreeFold Go.Proofs.YtngieimjlkpkaaaDoor.Book Go.Proofs.YtngieimjlkpkaaaDoor.Book2 Go.Proofs.YtngieimjlkpkaaaDoor.TreeRefRoot

def mk0 : Text := [165, 90, 165] ++ List.replicate 29 0
theorem mk0_len : mk0.length = 32 := rfl
set_option maxRecDepth 100000 in
set_option maxHeartbeats 1000000 in
theorem stranger6_any (w : World) : Calls Tryd.prog 25 #[] w fun e w' => e = .returned (.agg (cells8 mk0).toArray) ∧ Below w.heap.size w w' := by
  have hB0 : Hid (Blk (w.alloc (.cells Z32 31)) w.heap.size 31 Z32) := Blk.new w _ _
  have hb0 : Hid (Below w.heap.size w (w.alloc (.cells Z32 31))) := Below.heap_below w _
  have F := Lib.hid (fit (x := mk0) mk0_len)
  go_enter Tryd.func25, Tryd.ntmps25
  go_wp2_with ((with_reducible change wpList _ _ _ ({ dst := none, op := Op.store 31 _ _, type := _, pos := _, after := _, guard := _ } :: _) _ _); refine wpList_store_row (o := ⟨none, _, _, _, _, _⟩) rfl 31 (.tmp 0) (.tmp 1) rfl w.heap.size (cells8 mk0).toArray rfl rfl 31 Z32 hB0.out F.out.size F.out.zero F.out.one ?_)
  refine bodyPost_ret (results_cell_row rfl _ _ w.heap.size 31 (cells8 mk0).toArray (0, 0) _ rfl (setRow_heap _ _ _ _ _ _ hB0.out) Tryd.underlying31 rfl F.out.size) rfl ?_
  exact ⟨rfl, below_setRow hb0.out (Nat.le_refl _) _⟩

set_option maxRecDepth 100000 in
theorem few6_yes (A : Option Addr) (n c : Nat) (hn : n ≤ 300) (w : World) :
    Calls Tryd.prog 23 #[.slice A n c, .int .i64 300] w fun e w' => e = .returned (.slice A n c) ∧ w = w' := by
  have h1 : (n : Int) ≤ 300 := by omega
  go_enter Tryd.func23, Tryd.ntmps23
  go_wp2_with fail
  go_ret
  exact ⟨rfl, rfl⟩
set_option maxRecDepth 100000 in
theorem few6_no (A : Option Addr) (n c : Nat) (hn : 300 < n) (hc : n ≤ c) (w : World) :
    Calls Tryd.prog 23 #[.slice A n c, .int .i64 300] w fun e w' => e = .returned (.slice A 300 c) ∧ w = w' := by
  have h1 : (300 : Int) < (n : Int) := by omega
  have X := run_headD (A := A) (n := n) (c := c) (k := 300) (by omega) 300 rfl
  go_enter Tryd.func23, Tryd.ntmps23
  go_wp2_with fail
  go_ret
  exact ⟨rfl, rfl⟩
theorem few6_any (A : Option Addr) (n c : Nat) (hc : n ≤ c) (w : World) :
    Calls Tryd.prog 23 #[.slice A n c, .int .i64 300] w fun e w' => e = .returned (.slice A (min n 300) c) ∧ w = w' := by
  by_cases h : n ≤ 300
  · rw [Nat.min_eq_left h]
    exact few6_yes A n c h w
  · rw [Nat.min_eq_right (by omega)]
    exact few6_no A n c (by omega) hc w

set_option maxRecDepth 100000 in
set_option maxHeartbeats 1000000 in
theorem treeRoots_any (s : Int) (hs63 : s < 9223372036854775808) (es : List Text) (m : Nat) (A : Option Addr) (c : Nat) (hmc : m ≤ c) (hnil : A = none → m = 0 ∧ c = 0) (w : World) (hB : Base w) (hr0 : RdD w A m es) :
    Calls Tryd.prog 6 #[.int .i64 s, .slice A m c] w fun e w' => e = .returned (.bool true) ∧ Below w.heap.size w w' := by
  have hF := Lib.hid (few6_any A m c hmc w)
  obtain ⟨n, hn⟩ : ∃ n, min m 300 = n := ⟨_, rfl⟩
  obtain ⟨ds, hds⟩ : ∃ ds, es.take n = ds := ⟨_, rfl⟩
  have hr : RdD w A n ds := by rw [← hds]; exact hr0.take_ n (by omega)
  have hn300 : n ≤ 300 := by omega
  have hnc : n ≤ c := by omega
  have hnil' : A = none → n = 0 ∧ c = 0 := fun e => by have := hnil e; omega
  rw [hn] at hF
  have hR := Lib.hid (fun w' (hb : Below w.heap.size w w') => hr.below hb)
  have hBs := Lib.hid (fun w' (hb : Below w.heap.size w w') => hB.below hb hB.1)
  have hG0 := Lib.hid (fun w' g (hg : RowD w' g (ds ++ List.replicate 80 mk0)) => (by
    have := (hg.rd (hr.2.1.append_ (Digs.rep 80 mk0_len))).take_ n (by simp [hr.1])
    rwa [List.take_append_of_le_length (by rw [hr.1]; exact Nat.le_refl _), List.take_of_length_le (by rw [hr.1]; exact Nat.le_refl _)] at this : RdD w' (some ⟨g, 0, none⟩) n ds))
  have hS := fun (g : Nat) => run_headD (A := some ⟨g, 0, none⟩) (n := n + 80) (c := n + 80) (k := n) (by omega) (n : Int) rfl
  replace hS := Lib.hid hS
  have hT1 := Lib.hid (fun w' g (hg : RowD w' g (ds ++ List.replicate 80 mk0)) (hb : Below w.heap.size w w') => root_any s n (by omega) ds (some ⟨g, 0, none⟩) (n + 80) w' (by omega) (hBs.out w' hb) (hG0.out w' g hg))
  have hT2 := Lib.hid (fun w' (hb : Below w.heap.size w w') => refroot_any s hs63 ds n (by omega) A c hnil' w' (hR.out w' hb))
  have hT3 := Lib.hid (fun w' g (hg : RowD w' g (ds ++ List.replicate 80 mk0)) (hb : Below w.heap.size w w') => fold_any s ds n (by omega) (some ⟨g, 0, none⟩) (n + 80) w' (hBs.out w' hb) (hG0.out w' g hg))
  have hT4 := Lib.hid (fun w' (hb : Below w.heap.size w w') => reffold_any s hs63 ds n (by omega) A c hnc w' (hR.out w' hb))
  have hT5 := Lib.hid (fun w' g (hg : RowD w' g (ds ++ List.replicate 80 mk0)) (hb : Below w.heap.size w w') => intactD_any ds n (by omega) g A c mk0 mk0_len w' (hR.out w' hb) hg)
  have hT6 := Lib.hid (fun w' (hb : Below w.heap.size w w') => roomyD_any ds n (by omega) A c mk0 mk0_len w' (hR.out w' hb))
  have hq1 := neq_yes (x := rootOf s ds) (rootOf_len s ds hr.2.1)
  have hq2 := neq_yes (x := foldOf s ds) (foldOf_len s ds hr.2.1)
  generalize (cells8 (rootOf s ds)).toArray = RX at *
  generalize (cells8 (foldOf s ds)).toArray = FX at *
  have hMK : Hid (∀ w', Calls Tryd.prog 25 #[] w' fun e w'' => e = .returned (.agg (cells8 mk0).toArray) ∧ Below w'.heap.size w' w'') := stranger6_any
  clear hr0 hr hds hnil hnil' hB hnc hn300 hn hmc hs63
  go_enter Tryd.func6, Tryd.ntmps6
  go_wp2_with fail
  refine hF.out.mono ?_
  rintro e w0 ⟨rfl, rfl⟩
  go_wp2_with fail
  refine (hMK.out _).mono ?_
  rintro e w1 ⟨rfl, hb⟩
  replace hb := Lib.hid hb
  go_wp2_with fail
  refine (hT6.out _ hb.out).mono ?_
  rintro e w2 ⟨g, rfl, -, hG, hk⟩
  replace hb := Lib.hid (hb.out.trans (hk.mono hb.out.size))
  replace hG := Lib.hid hG
  have hSg := hS.out g
  clear hk hF hS hT6
  go_wp2_with fail
  refine (hT1.out _ g hG.out hb.out).mono ?_
  rintro e w3 ⟨rfl, hk⟩
  replace hb := Lib.hid (hb.out.trans (hk.mono hb.out.size))
  replace hG := Lib.hid (hG.out.below hk)
  clear hk
  go_wp2_with fail
  refine (hT2.out _ hb.out).mono ?_
  rintro e w4 ⟨rfl, hk⟩
  replace hb := Lib.hid (hb.out.trans (hk.mono hb.out.size))
  replace hG := Lib.hid (hG.out.below hk)
  clear hk
  go_wp2_with fail
  refine (hT3.out _ g hG.out hb.out).mono ?_
  rintro e w5 ⟨rfl, hk⟩
  replace hb := Lib.hid (hb.out.trans (hk.mono hb.out.size))
  replace hG := Lib.hid (hG.out.below hk)
  clear hk
  go_wp2_with fail
  refine (hT4.out _ hb.out).mono ?_
  rintro e w6 ⟨rfl, hk⟩
  replace hb := Lib.hid (hb.out.trans (hk.mono hb.out.size))
  replace hG := Lib.hid (hG.out.below hk)
  clear hk
  go_wp2_with fail
  refine (hMK.out _).mono ?_
  rintro e w7 ⟨rfl, hk⟩
  replace hb := Lib.hid (hb.out.trans (hk.mono hb.out.size))
  replace hG := Lib.hid (hG.out.below hk)
  clear hk
  go_wp2_with fail
  refine (hT5.out _ g hG.out hb.out).mono ?_
  rintro e w8 ⟨rfl, hk⟩
  replace hb := Lib.hid (hb.out.trans (hk.mono hb.out.size))
  clear hk
  go_wp2_with fail
  go_ret
  exact ⟨rfl, hb.out⟩
end Go.Proofs.YtngieimjlkpkaaaDoor.TreeRoots
