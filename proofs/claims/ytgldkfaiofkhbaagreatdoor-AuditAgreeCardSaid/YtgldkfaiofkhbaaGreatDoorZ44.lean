/-
  Texts of the claim, put into one file: Included.
-/
import Derived.Test.YtgldkfaiofkhbaaGreatDoorZ32
import Derived.Test.YtgldkfaiofkhbaaGreatDoorZ33
import Derived.Test.YtgldkfaiofkhbaaGreatDoorZ36

namespace Go.Proofs.YtgldkfaiofkhbaaGreatDoor.Included
open Go Go.RowKit Go.Proofs.YtgldkfaiofkhbaaGreatDoor DigestText Mem Sha Bytes HashMem DigestMem Digest DigestTop RefTop QuietTail Grown Chain TreeMem TreeRoot Go.Proofs.YtgldkfaiofkhbaaGreatDoor.Append Held Guard Sides Node Climb Incl Include Climbs Texts AheadT RowsT RowsY RefIncl ProofEnc Ref17 InclAll Own Book Book2 Within AudIncl Way20 TwoEvP

def incV (s : Int) (root : Text) (A : Option Addr) (k c : Nat) (x1 x2 : Int) (A2 : Option Addr) (n c2 : Nat) : List Value := Value.int .i64 s :: (cells8 root ++ [Value.slice A k c, Value.int .i64 x1, Value.int .i64 x2, Value.slice A2 n c2])
section
variable {s x1 x2 : Int} {root : Text} {A A2 : Option Addr} {k c n c2 : Nat}
theorem incV_0 : (incV s root A k c x1 x2 A2 n c2)[0]? = some (.int .i64 s) := rfl
theorem incV_root (j : Nat) (v : Value) (hv : (cells8 root)[j]? = some v) : (incV s root A k c x1 x2 A2 n c2)[1 + j]? = some v := by
 rw [Nat.add_comm, incV, List.getElem?_cons_succ, List.getElem?_append_left (List.getElem?_eq_some_iff.1 hv).1]
 exact hv
theorem incV_end (h : root.length = 32) (j : Nat) : (incV s root A k c x1 x2 A2 n c2)[33 + j]? = [Value.slice A k c, Value.int .i64 x1, Value.int .i64 x2, Value.slice A2 n c2][j]? := by
 have hl : (cells8 root).length = 32 := by rw [cells8_len, h]
 rw [show 33 + j = (32 + j) + 1 by omega, incV, List.getElem?_cons_succ, List.getElem?_append_right (by omega), hl, Nat.add_sub_cancel_left]
end
theorem own_some {w : World} {B n : Nat} {e : TypeId} {v : Value} {xs : List Value} (ho : w.ownsRow B e 1 v n xs) (h : 0 < n) : ∃ g c, v = .slice (some ⟨g, 0, none⟩) n c ∧ n ≤ c := by
 rcases ho.2 with ⟨rfl, rfl⟩ | ⟨g, cap, cur, rfl, hbg, hg, hnc, -⟩
 ·exact absurd h (Nat.lt_irrefl 0)
 ·exact ⟨g, cap, rfl, hnc⟩
set_option maxRecDepth 100000 in
set_option maxHeartbeats 2000000 in
theorem taken_any (s : Int) (root : Text) (hrt : root.length = 32) (ev : Text) (k : Nat) (hk : ev.length = k) (hk47 : k < 140737488355328) (A : Option Addr) (c : Nat) (hkc : k ≤ c) (hnil : A = none → k = 0 ∧ c = 0) (x1 x2 : Int) (ds : List Text) (A2 : Option Addr) (n c2 : Nat) (hn40 : n < 1099511627776) (w : World) (hB : Base w) (hr : Reads w 1 A k (cells8 ev)) (hrd : RdD w A2 n ds) :
  Calls Tryz.prog 315 #[.agg (incV s root A k c x1 x2 A2 n c2).toArray] w fun e w' => e = .returned (.bool (audIncl s root ev x1 x2 ds == 0)) ∧ Below w.heap.size w w' := by
 have hIn := Lib.hid (fun w' (hb : Below w.heap.size w w') => audIncl_any s root hrt ev k hk hk47 A c hkc hnil x1 x2 ds A2 n c2 (by omega) w' (hB.below hb hB.1) (hr.below hb) (hrd.below hb))
 unfold inclCells at hIn
 obtain ⟨cs, hcs⟩ : ∃ cs, Hid ((incV s root A k c x1 x2 A2 n c2).toArray = cs) := ⟨_, Lib.hid rfl⟩
 have hb0 : Hid (Below w.heap.size w (w.alloc (.cells cs 155))) := Below.heap_below w _
 have hP : Hid (Blk (w.alloc (.cells cs 155)) w.heap.size 155 cs) := Blk.new w _ _
 have c0 : (w.alloc (.cells cs 155)).cell? ⟨w.heap.size, 0, none⟩ = some (.int .i64 s) := by rw [hP.out.cell 0, ← hcs.out, List.getElem?_toArray]; exact incV_0
 have c33 : (w.alloc (.cells cs 155)).cell? ⟨w.heap.size, 33, none⟩ = some (.slice A k c) := by rw [hP.out.cell 33, ← hcs.out, List.getElem?_toArray]; exact incV_end hrt 0
 have hroot : Hid (∀ j v, (cells8 root)[j]? = some v → (w.alloc (.cells cs 155)).cell? ⟨w.heap.size, 1 + j, none⟩ = some v) := fun j v h => by rw [hP.out.cell (1 + j), ← hcs.out, List.getElem?_toArray]; exact incV_root j v h
 have hpr : Hid (∀ j v, [Value.int .i64 x1, Value.int .i64 x2, Value.slice A2 n c2][j]? = some v → (w.alloc (.cells cs 155)).cell? ⟨w.heap.size, 34 + j, none⟩ = some v) := fun j v h => by
  rw [hP.out.cell (34 + j), ← hcs.out, List.getElem?_toArray, show 34 + j = 33 + (j + 1) by omega, incV_end hrt (j + 1)]
  exact h
 have hsz : Hid ((Tryz.prog.info? 23).map (·.size) = some (cells8 root).length) := by show _ = _; rw [cells8_len, hrt]; exact size31
 obtain ⟨bb, hbb⟩ : ∃ b, (audIncl s root ev x1 x2 ds == 0) = b := ⟨_, rfl⟩
 rw [hcs.out, hbb]
 clear hrt hk hk47 hkc hnil hn40 hB hr hrd hcs hP
 go_enter Tryz.func315, Tryz.ntmps315
 go_wp2_with (first
  | ((with_reducible change wpList _ _ _ (⟨some 6, _, _, _, _, _⟩ :: _) _ _); refine wpList_load_part (o := ⟨some 6, _, _, _, _, _⟩) rfl 23 (.tmp 5) rfl w.heap.size 1 rfl (cells8 root) _ hroot.out Tryz.underlying23 rfl hsz.out ?_)
  | ((with_reducible change wpList _ _ _ (⟨some 10, _, _, _, _, _⟩ :: _) _ _); refine wpList_load_part (o := ⟨some 10, _, _, _, _, _⟩) rfl 48 (.tmp 9) rfl w.heap.size 34 rfl [Value.int .i64 x1, Value.int .i64 x2, Value.slice A2 n c2] _ hpr.out Tryz.underlying48 rfl sizeI ?_))
 refine (hIn.out _ hb0.out).mono ?_
 rintro e w1 ⟨rfl, hk1⟩
 have hb1 := Lib.hid (hb0.out.trans (hk1.mono hb0.out.size))
 clear hk1 hb0 hIn c0 c33 hroot hpr
 go_wp2_with fail
 go_ret
 exact ⟨rfl, hb1.out⟩

set_option maxRecDepth 100000 in
set_option maxHeartbeats 2000000 in
theorem texts_any (s : Int) (root : Text) (hrt : root.length = 32) (ev : Text) (k : Nat) (hk : ev.length = k) (hk1 : 0 < k) (hk47 : k < 140737488355327) (A : Option Addr) (c : Nat) (hkc : k ≤ c) (hnil : A = none → k = 0 ∧ c = 0) (x1 x2 : Int) (ds : List Text) (A2 : Option Addr) (n c2 : Nat) (hn40 : n < 1099511627776) (w : World) (hB : Base w) (hr : Reads w 1 A k (cells8 ev)) (hrd : RdD w A2 n ds) :
  Calls Tryz.prog 316 #[.agg (incV s root A k c x1 x2 A2 n c2).toArray] w fun e w' => ∃ v xs, e = .returned v ∧ w'.ownsRow w.heap.size 27 1 v (evTexts s ev x1 x2 ds).length xs ∧ Ty w' xs (evTexts s ev x1 x2 ds) ∧ Below w.heap.size w w' := by
 obtain ⟨i0, ii, iz0, iz1, iz2⟩ := info_partsN infoT
 have hxt := inclOf_texts s x1 x2 (leafOf s ev) ds (leafOf_len s ev) hrd.2.1
 rw [hrd.1] at hxt
 unfold evTexts
 obtain ⟨⟨x, kk, ts⟩, hX⟩ : ∃ X, inclOf s x1 x2 (leafOf s ev) [] ds = X := ⟨_, rfl⟩
 rw [hX] at hxt ⊢
 dsimp only at hxt ⊢
 obtain ⟨lf, hlf⟩ : ∃ lf, Hid (leafOf s ev = lf) := ⟨_, Lib.hid rfl⟩
 have hlfl : Hid (lf.length = 32) := by show _ = _; rw [← hlf.out]; exact leafOf_len s ev
 have hLf : Hid (∀ w', Below w.heap.size w w' → Calls Tryz.prog 137 #[.int .i64 s, .slice A k c] w' fun e w'' => e = .returned (.agg (cells8 lf).toArray) ∧ Below w'.heap.size w' w'') := fun w' hb => by
  have := leaf_any ev k hk A c s w' (hB.below hb hB.1) (by omega) (hr.below hb) hkc hnil
  rw [← hlf.out]
  exact this
 obtain ⟨m, hm⟩ : ∃ m, ts.length = m := ⟨_, rfl⟩
 have hIn : Hid (∀ w', Below w.heap.size w w' → Calls Tryz.prog 317 #[.int .i64 s, .int .i64 x1, .int .i64 x2, .agg (cells8 lf).toArray, .slice A2 n c2] w' fun e w'' => ∃ A0 c0 xs, e = .returned (.tuple #[.slice A0 m c0, .int .i64 kk]) ∧ (A0 = none → m = 0 ∧ c0 = 0) ∧ Reads w'' 1 A0 m xs ∧ Tx w'' xs ts ∧ Below w'.heap.size w' w'') := fun w' hb => by
  have := climb_own s x1 x2 lf hlfl.out ds A2 n c2 (by omega) w' (hB.below hb hB.1) (hrd.below hb)
  rw [← hlf.out, hX] at this
  rw [← hlf.out]
  refine this.mono ?_
  rintro e w'' ⟨v, xs, r, gc, rfl, ho, hx, hb, -⟩
  obtain ⟨A0, c0, rfl, -, -, hn0, hrr, -⟩ := Append.Own.reads ho
  dsimp only at *
  rw [hm] at hn0 hrr
  exact ⟨A0, c0, xs, by rw [hm], hn0, hrr, Txs.tx hx hxt.2, hb⟩
 have hTe : Hid (∀ w', Below w.heap.size w w' → Calls Tryz.prog 281 #[.int .i64 0, .slice (some ⟨w'.heap.size, 0, none⟩) 1 1] (w'.alloc (.cells #[.slice A k c] 27)) fun e w'' => ∃ A5 c5, e = .returned (.slice (some ⟨A5, 0, none⟩) (k + 1) c5) ∧ k + 1 ≤ c5 ∧ Reads w'' 1 (some ⟨A5, 0, none⟩) (k + 1) (cells8 (kb 0 :: ev)) ∧ Below w'.heap.size w' w'') := fun w' hb => by
  have hpc := one_piece (hr.below hb) hk hkc hnil
  have hlt : AllLt (w'.alloc (.cells #[.slice A k c] 27)) (w'.alloc (.cells #[.slice A k c] 27)).heap.size (some ⟨w'.heap.size, 0, none⟩) [ev] := ⟨fun a e => by injection e with e; subst e; simp, fun i q hq b o e Ai ci hc _ a ha => by
   injection e with e
   injection e with e1 e2
   subst e1 e2
   match i, hq with
   | 0, hq =>
    have hc' := hc
    rw [(Blk.new w' 27 #[.slice A k c]).cell] at hc'
    have h3 : Value.slice A k c = .slice Ai q.length ci := Option.some.inj hc'
    injection h3 with h4
    obtain ⟨b', o', e', hlt', -⟩ := hr.at_ (by omega)
    rw [← h4, e'] at ha
    obtain rfl := Option.some.inj ha
    have := hb.size
    simp
    omega
   | i + 1, hq => simp at hq⟩
  have := text_any 0 [ev] 1 rfl (some ⟨w'.heap.size, 0, none⟩) 1 (w'.alloc (.cells #[.slice A k c] 27)) (by decide) k (by simp [hk]) (by omega) hpc hlt
  refine this.mono ?_
  rintro e w'' ⟨v, rfl, hb2, ho⟩
  rw [show 1 + k = k + 1 by omega, show kb 0 :: [ev].flatten = kb 0 :: ev by simp] at ho
  obtain ⟨g, c5, rfl, hc5⟩ := own_some ho (by omega)
  obtain ⟨A5, c6, e5, -, -, h3, -⟩ := Own.own_reads ho
  injection e5 with e5 _ e6
  subst e5
  exact ⟨g, c5, rfl, hc5, h3, (Below.heap_below w' _).trans (hb2.mono (by simp))⟩
 have hm300 : Hid (m < 1099511627776) := by show _ < _; omega
 have hk1h : Hid ((kb 0 :: ev).length = k + 1) := by show _ = _; simp [hk]
 have hml : Hid ((( kb 0 :: ev) :: ts).length = 1 + m) := by show _ = _; rw [List.length_cons, hm, Nat.add_comm]
 rw [hml.out]
 replace hm := Lib.hid hm
 obtain ⟨cs, hcs⟩ : ∃ cs, Hid ((incV s root A k c x1 x2 A2 n c2).toArray = cs) := ⟨_, Lib.hid rfl⟩
 rw [hcs.out]
 obtain ⟨W, hW⟩ : ∃ W, Hid (W = w.alloc (.cells cs 155)) := ⟨_, rfl⟩
 have hb1 : Hid (Below w.heap.size w W) := by show Below _ _ _; rw [hW.out]; exact Below.heap_below w _
 have hP1 : Hid (Blk W w.heap.size 155 cs) := by show Blk _ _ _ _; rw [hW.out]; exact Blk.new w _ _
 have q0 : Hid (∀ w', Below W.heap.size W w' → w'.cell? ⟨w.heap.size, 0, none⟩ = some (.int .i64 s)) := fun w' hw' => by rw [(Blk.onw hP1.out hw').cell 0, ← hcs.out, List.getElem?_toArray]; exact incV_0
 have q33 : Hid (∀ w', Below W.heap.size W w' → w'.cell? ⟨w.heap.size, 33, none⟩ = some (.slice A k c)) := fun w' hw' => by rw [(Blk.onw hP1.out hw').cell 33, ← hcs.out, List.getElem?_toArray]; exact incV_end hrt 0
 have q34 : Hid (∀ w', Below W.heap.size W w' → w'.cell? ⟨w.heap.size, 34, none⟩ = some (.int .i64 x1)) := fun w' hw' => by rw [(Blk.onw hP1.out hw').cell 34, ← hcs.out, List.getElem?_toArray]; exact incV_end hrt 1
 have q35 : Hid (∀ w', Below W.heap.size W w' → w'.cell? ⟨w.heap.size, 35, none⟩ = some (.int .i64 x2)) := fun w' hw' => by rw [(Blk.onw hP1.out hw').cell 35, ← hcs.out, List.getElem?_toArray]; exact incV_end hrt 2
 have q36 : Hid (∀ w', Below W.heap.size W w' → w'.cell? ⟨w.heap.size, 36, none⟩ = some (.slice A2 n c2)) := fun w' hw' => by rw [(Blk.onw hP1.out hw').cell 36, ← hcs.out, List.getElem?_toArray]; exact incV_end hrt 3
 clear hrt hk hk1 hk47 hkc hnil hn40 hr hrd hX hxt hcs hB
 go_enter Tryz.func316, Tryz.ntmps316
 go_wp2_with fail
 change Code.wp _ _ _ _ (w.alloc (.cells cs 155))
 rw [← hW.out]
 clear hW
 have s0 : Hid (Below W.heap.size W W.drew) := (Below.refl _ _).drew
 refine held_start (fun w' => Below W.heap.size W w') 22 rfl (by kernel_rfl) ?_
 refine Held.tk0 (i := 0) (v := .pointer (some ⟨w.heap.size, 0, none⟩)) rfl s0.out (fun w' hw' => by go_simp) ?_
 (intro K k; go_simp; apply k; clear k K)
 refine Held.tk0 (i := 1) (v := .int .i64 s) rfl s0.out (fun w' hw' => by have h := q0.out w' hw'; go_simp) ?_
 (intro K k; go_simp; apply k; clear k K)
 refine Held.tk0 (i := 2) (v := .pointer (some ⟨w.heap.size, 34, none⟩)) rfl s0.out (fun w' hw' => by go_simp) ?_
 (intro K k; go_simp; apply k; clear k K)
 refine Held.tk0 (i := 3) (v := .pointer (some ⟨w.heap.size, 34, none⟩)) rfl s0.out (fun w' hw' => by go_simp) ?_
 (intro K k; go_simp; apply k; clear k K)
 refine Held.tk0 (i := 4) (v := .int .i64 x1) rfl s0.out (fun w' hw' => by have h := q34.out w' hw'; go_simp) ?_
 (intro K k; go_simp; apply k; clear k K)
 refine Held.tk0 (i := 5) (v := .pointer (some ⟨w.heap.size, 34, none⟩)) rfl s0.out (fun w' hw' => by go_simp) ?_
 (intro K k; go_simp; apply k; clear k K)
 refine Held.tk0 (i := 6) (v := .pointer (some ⟨w.heap.size, 35, none⟩)) rfl s0.out (fun w' hw' => by go_simp) ?_
 (intro K k; go_simp; apply k; clear k K)
 refine Held.tk0 (i := 7) (v := .int .i64 x2) rfl s0.out (fun w' hw' => by have h := q35.out w' hw'; go_simp) ?_
 (intro K k; go_simp; apply k; clear k K)
 refine Held.tk0 (i := 8) (v := .pointer (some ⟨w.heap.size, 0, none⟩)) rfl s0.out (fun w' hw' => by go_simp) ?_
 (intro K k; go_simp; apply k; clear k K)
 refine Held.tk0 (i := 9) (v := .int .i64 s) rfl s0.out (fun w' hw' => by have h := q0.out w' hw'; go_simp) ?_
 (intro K k; go_simp; apply k; clear k K)
 refine Held.tk0 (i := 10) (v := .pointer (some ⟨w.heap.size, 33, none⟩)) rfl s0.out (fun w' hw' => by go_simp) ?_
 (intro K k; go_simp; apply k; clear k K)
 refine Held.tk0 (i := 11) (v := .slice A k c) rfl s0.out (fun w' hw' => by have h := q33.out w' hw'; go_simp) ?_
 (intro K k; go_simp; apply k; clear k K)
 refine Held.tk0 (i := 13) (v := .pointer (some ⟨w.heap.size, 34, none⟩)) rfl s0.out (fun w' hw' => by go_simp) ?_
 (intro K k; go_simp; apply k; clear k K)
 refine Held.tk0 (i := 14) (v := .pointer (some ⟨w.heap.size, 36, none⟩)) rfl s0.out (fun w' hw' => by go_simp) ?_
 (intro K k; go_simp; apply k; clear k K)
 refine Held.tk0 (i := 15) (v := .slice A2 n c2) rfl s0.out (fun w' hw' => by have h := q36.out w' hw'; go_simp) ?_
 (intro K k; go_simp; apply k; clear k K)
 refine held_only (i := 12) rfl (by kernel_rfl) (by rfl) (fun K hK => ?_)
 refine wp_fn (R := fun v w'' => v = .agg (cells8 lf).toArray ∧ Below W.heap.size W w'') (args := #[.int .i64 s, .slice A k c]) _ _ rfl rfl Tryz.func137 (by kernel_rfl) (by kernel_rfl) ((hLf.out _ (hb1.out.trans ((s0.out).mono hb1.out.size))).mono fun e w'' ⟨he, hb⟩ => ⟨_, he, rfl, s0.out.trans (hb.mono s0.out.size)⟩) ?_
 rintro qq w1 ⟨rfl, h1⟩
 replace h1 := Lib.hid h1
 go_simp
 refine hK _ _ h1.out ?_
 clear hK K
 refine held_only (i := 16) rfl (by kernel_rfl) (by rfl) (fun K hK => ?_)
 refine wp_fn (R := fun v w'' => ∃ A0 c0 xs, v = .tuple #[.slice A0 m c0, .int .i64 kk] ∧ (A0 = none → m = 0 ∧ c0 = 0) ∧ Reads w'' 1 A0 m xs ∧ Tx w'' xs ts ∧ Below W.heap.size W w'') (args := #[.int .i64 s, .int .i64 x1, .int .i64 x2, .agg (cells8 lf).toArray, .slice A2 n c2]) _ _ rfl rfl Tryz.func317 (by kernel_rfl) (by kernel_rfl) ((hIn.out _ (hb1.out.trans ((h1.out).mono hb1.out.size))).mono fun e w'' ⟨A0, c0, xs, he, hn0, hr0, hT, hb⟩ => ⟨_, he, A0, c0, xs, rfl, hn0, hr0, hT, h1.out.trans (hb.mono h1.out.size)⟩) ?_
 rintro qq w2 ⟨A0, c0, xs, rfl, hn0, hxr, hT, h2⟩
 replace h2 := Lib.hid h2
 replace hn0 := Lib.hid hn0
 replace hxr := Lib.hid hxr
 replace hT := Lib.hid hT
 go_simp
 refine hK _ _ h2.out ?_
 clear hK K
 refine Held.tk0 (i := 17) (v := .tuple #[.slice A0 m c0, .int .i64 kk]) rfl h2.out (fun w' hw' => run_mv (.tmp 22) rfl w') ?_
 (intro K k; go_simp; apply k; clear k K)
 refine Held.tk0 (i := 18) (v := .slice A0 m c0) rfl h2.out (fun w' hw' => by go_simp) ?_
 (intro K k; go_simp; apply k; clear k K)
 refine Held.tk0 (i := 19) (v := .int .i64 kk) rfl h2.out (fun w' hw' => by go_simp) ?_
 (intro K k; go_simp; apply k; clear k K)
 refine Held.tk0 (i := 20) (v := .slice A0 m c0) rfl h2.out (fun w' hw' => by first | go_simp | rfl) ?_
 (intro K k; go_simp; apply k; clear k K)
 refine Held.tk0 (i := 21) (v := .int .i64 kk) rfl h2.out (fun w' hw' => by first | go_simp | rfl) ?_
 (intro K k; go_simp; apply k; clear k K)
 refine held_end (by kernel_rfl) ?_
 have hb4 : Hid (Below w.heap.size w w2) := hb1.out.trans (h2.out.mono hb1.out.size)
 have c33 := q33.out w2 h2.out
 clear q0 q33 q34 q35 q36 hIn hLf
 go_wp2_with fail
 refine (hTe.out w2 hb4.out).mono ?_
 rintro e w5 ⟨A5, c5, rfl, hc5, hr5, hk5⟩
 have hb5 : Hid (Below w.heap.size w w5) := hb4.out.trans (hk5.mono hb4.out.size)
 have hT5 : Tx w5 xs ts := hT.out.below hk5
 have hxr5 : Reads w5 1 A0 m xs := hxr.out.below hk5
 have hO : Hid ((w5.alloc (.cells #[.slice (some ⟨A5, 0, none⟩) (k + 1) c5] 27)).ownsRow w5.heap.size 27 1 (.slice (some ⟨w5.heap.size, 0, none⟩) 1 1) 1 [.slice (some ⟨A5, 0, none⟩) (k + 1) c5]) := Go.Proofs.YtgldkfaiofkhbaaGreatDoor.RefCut.owns_new _ _ _
 have hTy1 : Hid (Ty (w5.alloc (.cells #[.slice (some ⟨A5, 0, none⟩) (k + 1) c5] 27)) [.slice (some ⟨A5, 0, none⟩) (k + 1) c5] [kb 0 :: ev]) := fun i q hq => by
  match i with
  | 0 =>
   obtain rfl := Option.some.inj hq
   exact ⟨Nat.succ_pos _, A5, c5, by rw [hk1h.out]; rfl, by rw [hk1h.out]; exact hc5, by rw [hk1h.out]; exact hr5.alloc _⟩
  | i + 1 => simp at hq
 have hTy2 : Hid (Ty (w5.alloc (.cells #[.slice (some ⟨A5, 0, none⟩) (k + 1) c5] 27)) xs ts) := Ty.below (Tx.ty hT5) (Below.heap_below _ _)
 have hS : Hid (Reads (w5.alloc (.cells #[.slice (some ⟨A5, 0, none⟩) (k + 1) c5] 27)) 1 A0 m xs) := hxr5.alloc _
 have hx1 : Hid (∀ u ∈ xs, u.oneCell' = true) := fun u hu => by
  obtain ⟨i, hi, rfl⟩ := List.getElem_of_mem hu
  have hl : xs.length = m := by simpa using hxr5.1
  obtain ⟨q, hq⟩ : ∃ q, ts[i]? = some q := ⟨_, List.getElem?_eq_getElem (by have := hm.out; omega)⟩
  obtain ⟨-, g, cq, a1, -⟩ := hT5 i q hq
  rw [List.getElem?_eq_getElem hi] at a1
  rw [Option.some.inj a1]
  rfl
 have hm1 : Hid (1 + m ≤ maxLen) := by have := hm300.out; show _ ≤ _; unfold maxLen; omega
 have hm2 : Hid ((1 + m) * 24 ≤ 140737488355328) := by have := hm300.out; show _ ≤ _; omega
 have hs6 : Hid (w5.heap.size ≤ (w5.alloc (.cells #[.slice (some ⟨A5, 0, none⟩) (k + 1) c5] 27)).heap.size) := by show _ ≤ _; simp
 clear hk5 hT5 hxr5 hr5 hc5 hT hxr c33
 go_wp2_with ((with_reducible change wpList _ _ _ (⟨some 31, _, _, _, _, _⟩ :: _) _ _); refine wpList_append_src _ (o := ⟨some 31, _, _, _, _, _⟩) rfl (.tmp 29) (.tmp 30) 24 rfl w5.heap.size 27 i0 (.slice none 0 0) 1 24 Tryz.underlying24 ii iz0 iz1 iz2 rfl (by decide) (.slice (some ⟨w5.heap.size, 0, none⟩) 1 1) 1 [.slice (some ⟨A5, 0, none⟩) (k + 1) c5] rfl hO.out A0 m c0 xs rfl hS.out hn0.out hx1.out hm1.out hm2.out hs6.out ?_; intro v6 w6 hG; obtain ⟨A6, c6, rfl, -⟩ := Append.Own.reads hG.own; replace hG := Lib.hid hG)
 go_ret
 obtain ⟨a1, a2, -⟩ := ty_cat2 (n := 1) (ts1 := [kb 0 :: ev]) rfl hO.out hTy1.out hTy2.out (fun h => by omega) hG.out
 have hk6 : Kept (· = w5.heap.size) (w5.alloc (.cells #[.slice (some ⟨A5, 0, none⟩) (k + 1) c5] 27)) w6 := hG.out.kept (Kept.refl _ _) (fun k e => by injection e with e; exact .inl e.symm)
 exact ⟨_, _, rfl, own_down a2 hb5.out.size, a1, hb5.out.trans ((kept_fresh hk6).mono hb5.out.size)⟩
end Go.Proofs.YtgldkfaiofkhbaaGreatDoor.Included
