/-
  Texts of the claim, put into one file: AheadX.
-/
import Derived.Test.YtpgenpogjhpeoaaDoorZ27
import Derived.Test.YtpgenpogjhpeoaaDoorZ28

namespace Go.Proofs.YtpgenpogjhpeoaaDoor.AheadX
open Go Go.RowKit Go.Proofs.YtpgenpogjhpeoaaDoor Go.Proofs.YtpgenpogjhpeoaaDoor.Digest Go.Proofs.YtpgenpogjhpeoaaDoor.Mem Go.Proofs.YtpgenpogjhpeoaaDoor.Sha Go.Proofs.YtpgenpogjhpeoaaDoor.ShaWalk Go.Proofs.YtpgenpogjhpeoaaDoor.Bytes Go.Proofs.YtpgenpogjhpeoaaDoor.Append Go.Proofs.YtpgenpogjhpeoaaDoor.HashMem Go.Proofs.YtpgenpogjhpeoaaDoor.DigestMem Go.Proofs.YtpgenpogjhpeoaaDoor.DigestTop Go.Proofs.YtpgenpogjhpeoaaDoor.QuietTail Go.Proofs.YtpgenpogjhpeoaaDoor.Grown Go.Proofs.YtpgenpogjhpeoaaDoor.Chain Go.Proofs.YtpgenpogjhpeoaaDoor.TreeMath Go.Proofs.YtpgenpogjhpeoaaDoor.TreeMem Go.Proofs.YtpgenpogjhpeoaaDoor.TreeRoot Go.Proofs.YtpgenpogjhpeoaaDoor.Held Go.Proofs.YtpgenpogjhpeoaaDoor.Guard Go.Proofs.YtpgenpogjhpeoaaDoor.Book Go.Proofs.YtpgenpogjhpeoaaDoor.Node Go.Proofs.YtpgenpogjhpeoaaDoor.NodeW Go.Proofs.YtpgenpogjhpeoaaDoor.WayP Go.Proofs.YtpgenpogjhpeoaaDoor.RevP Go.Proofs.YtpgenpogjhpeoaaDoor.TreeRefRoot Go.Proofs.YtpgenpogjhpeoaaDoor.Climb Go.Proofs.YtpgenpogjhpeoaaDoor.Incl Go.Proofs.YtpgenpogjhpeoaaDoor.Subs Go.Proofs.YtpgenpogjhpeoaaDoor.RowsP Go.Proofs.YtpgenpogjhpeoaaDoor.Joint Go.Proofs.YtpgenpogjhpeoaaDoor.RefIncl0 Go.Proofs.YtpgenpogjhpeoaaDoor.AheadM Go.Proofs.YtpgenpogjhpeoaaDoor.AheadT Go.Proofs.YtpgenpogjhpeoaaDoor.Ahead Go.Proofs.YtpgenpogjhpeoaaDoor.Guard2 Go.Proofs.YtpgenpogjhpeoaaDoor.Want

theorem _root_.Go.Proofs.YtpgenpogjhpeoaaDoor.Mem.Blk.onX {w w' : World} {g : Nat} {t : TypeId} {cs : Array Value} (h : Blk w g t cs) (hb : Below w.heap.size w w') : Blk w' g t cs := (hb.block g h.lt).trans h
set_option maxRecDepth 100000 in
set_option maxHeartbeats 4000000 in
theorem aheadx_any (s : Int) (old size : Nat) (h1 : 1 ≤ old) (h2 : old < size) (hs : size ≤ 1099511627776) (root : Text) (hrt : root.length = 32) (ds : List Text) (A : Option Addr) (n c : Nat) (hn : (partsOf old size).length = n) (w : World) (hB : Base w) (hr : RdD w A n ds) (Z : Ah) (hZ : aheadOf s old size root ds = Z) (hfr : Z.fr.length = 32) (hsr : Z.sr.length = 32) :
    Calls Tryd.prog 26 #[.int .i64 s, .int .i64 (old : Int), .int .i64 (size : Int), .agg (cells8 root).toArray, .slice A n c] w fun e w' => ∃ A' c' xs, e = .returned (.tuple #[.agg (cells8 Z.fr).toArray, .agg (cells8 Z.sr).toArray, .slice A' (Z.ft.length + Z.st.length) c', .int .i64 0]) ∧ w'.ownsRow w.heap.size 27 1 (.slice A' (Z.ft.length + Z.st.length) c') (Z.ft.length + Z.st.length) xs ∧ Tx w' xs (Z.ft ++ Z.st) ∧ Below w.heap.size w w' := by
  have hj : joinsB (old : Int) (size : Int) = true := by
    have a1 : (0 : Int) ≤ old := by omega
    have a2 : (old : Int) ≤ size := by omega
    have a3 : (size : Int) ≤ 1099511627776 := by omega
    simp [joinsB, a1, a2, a3]
  have hSz : Hid (∀ w', Calls Tryd.prog 67 #[.int .i64 (old : Int), .int .i64 (size : Int)] w' fun e w'' => e = .returned (.bool true) ∧ w' = w'') := fun w' => by have := sizes_any old size w'; rwa [hj] at this
  have hPt := Lib.hid (fun w' => parts_any old size (by omega) hs w')
  have hnh := Lib.hid hn
  have hAh := Lib.hid (fun w' (hb : Below w.heap.size w w') => ahead_own s old size h1 h2 hs root hrt ds A n c hn w' (hB.below hb hB.1) (hr.below hb))
  rw [hZ] at hAh
  have y1 : ((old : Int) == 0) = false := beq_eq_false_iff_ne.2 (by omega)
  have y2 : ((old : Int) == (size : Int)) = false := beq_eq_false_iff_ne.2 (by omega)
  have F0 := Lib.hid (fit (x := root) hrt)
  have Fa := Lib.hid (fit (x := Z.fr) hfr)
  have Fb := Lib.hid (fit (x := Z.sr) hsr)
  obtain ⟨k, hk⟩ : ∃ k, Z.ft.length + Z.st.length = k := ⟨_, rfl⟩
  unfold AhOwn at hAh
  rw [hk] at hAh ⊢
  obtain ⟨fr, hfre⟩ : ∃ x, Z.fr = x := ⟨_, rfl⟩
  obtain ⟨sr, hsre⟩ : ∃ x, Z.sr = x := ⟨_, rfl⟩
  obtain ⟨tx, htx⟩ : ∃ x, Z.ft ++ Z.st = x := ⟨_, rfl⟩
  rw [hfre, hsre, htx] at hAh
  rw [hfre] at Fa ⊢
  rw [hsre] at Fb ⊢
  rw [htx]
  have hb : Hid (Below w.heap.size w (((w.alloc (.cells (cells8 root).toArray 23)).alloc (.cells Z32 23)).alloc (.cells Z32 23))) := ((Below.heap_below w _).alloc (by simp) _).alloc (by simp; omega) _
  have hR : Hid (Blk (((w.alloc (.cells (cells8 root).toArray 23)).alloc (.cells Z32 23)).alloc (.cells Z32 23)) w.heap.size 23 (cells8 root).toArray) := ((Blk.new w _ _).alloc _).alloc _
  have hP : Hid (Blk (((w.alloc (.cells (cells8 root).toArray 23)).alloc (.cells Z32 23)).alloc (.cells Z32 23)) (w.heap.size + 1) 23 Z32) := by
    have := (Blk.new (w.alloc (.cells (cells8 root).toArray 23)) 23 Z32).alloc (.cells Z32 23)
    rwa [show (w.alloc (.cells (cells8 root).toArray 23)).heap.size = w.heap.size + 1 by simp] at this
  have hQ : Hid (Blk (((w.alloc (.cells (cells8 root).toArray 23)).alloc (.cells Z32 23)).alloc (.cells Z32 23)) (w.heap.size + 2) 23 Z32) := by
    have := heap_alloc2_new (w.alloc (.cells (cells8 root).toArray 23)) (.cells Z32 23) (.cells Z32 23)
    rwa [show (w.alloc (.cells (cells8 root).toArray 23)).heap.size = w.heap.size + 1 by simp] at this
  have hz : Hid ((((w.alloc (.cells (cells8 root).toArray 23)).alloc (.cells Z32 23)).alloc (.cells Z32 23)).heap.size = w.heap.size + 3) := by show _ = _; simp
  clear hj h1 h2 hs hrt hB hr hn hZ hfr hsr hk hfre hsre htx
  go_enter Tryd.func26, Tryd.ntmps26
  go_wp2_with (first
    | (go_at_call 67; refine (hSz.out _).mono ?_; rintro e w1 ⟨rfl, rfl⟩; clear hSz)
    | (go_at_call 68; refine (hPt.out _).mono ?_; rintro e w4 ⟨v, rfl, hO, kk⟩; rw [hnh.out] at hO; obtain ⟨Av, cv, rfl, -⟩ := Append.Own.reads hO; have hR4 := Lib.hid (hR.out.onX kk); have hP4 := Lib.hid (hP.out.onX kk); have hQ4 := Lib.hid (hQ.out.onX kk); have hb4 : Hid (Below w.heap.size w w4) := hb.out.trans (kk.mono hb.out.size); have hz4 : Hid (w.heap.size + 3 ≤ w4.heap.size) := Nat.le_trans (Nat.le_of_eq hz.out.symm) kk.size; clear hPt hO kk hR hP hQ hb)
    | ((with_reducible change wpList _ _ _ ({ dst := some 45, op := _, type := _, pos := _, after := _, guard := _ } :: _) _ _); refine wpList_load_row (o := ⟨some 45, _, _, _, _, _⟩) rfl 23 (.tmp 8) rfl (w.heap.size) rfl 23 ((cells8 root).toArray) (0, 0) _ hR4.out Tryd.underlying23 rfl F0.out.size ?_)
    | (go_at_call 70; refine (hAh.out _ hb4.out).mono ?_; rintro e w5 ⟨A5, c5, xs5, rfl, hO5, hT5, kk⟩; replace hO5 := Lib.hid (Go.Proofs.YtpgenpogjhpeoaaDoor.RowsT.own_down hO5 hb4.out.size); replace hT5 := Lib.hid hT5; have hP5 := Lib.hid (hP4.out.onX kk); have hQ5 := Lib.hid (hQ4.out.onX kk); have hb5 : Hid (Below w.heap.size w w5) := hb4.out.trans (kk.mono hb4.out.size); have hz5 : Hid (w.heap.size + 3 ≤ w5.heap.size) := Nat.le_trans hz4.out kk.size; clear hAh kk hR4 hP4 hQ4 hb4 hz4)
    | ((with_reducible change wpList _ _ _ ({ dst := none, op := Op.store 23 (.tmp 14) _, type := _, pos := _, after := _, guard := _ } :: _) _ _); refine wpList_store_whole (o := ⟨none, _, _, _, _, _⟩) rfl 23 (.tmp 14) (.tmp 48) rfl (w5.heap.size) ((cells8 fr).toArray) rfl rfl 23 (Z32) ((Blk.new w5 _ _).alloc _) Fa.out.size Fa.out.zero Fa.out.one ?_; intro w6 hX6 kk; have hY6 : Hid (Blk w6 (w5.heap.size + 1) 23 Z32) := Blk.kept (heap_alloc2_new w5 _ _) kk (by omega); have k56 : Hid (Below w5.heap.size w5 w6) := ((Below.heap_below w5 _).alloc (by simp) _).trans (Kept.below_of kk (Nat.le_refl _) (by simp; omega)); replace hX6 := Lib.hid hX6; clear kk)
    | ((with_reducible change wpList _ _ _ ({ dst := none, op := Op.store 23 (.tmp 15) _, type := _, pos := _, after := _, guard := _ } :: _) _ _); refine wpList_store_whole (o := ⟨none, _, _, _, _, _⟩) rfl 23 (.tmp 15) (.tmp 49) rfl (w5.heap.size + 1) ((cells8 sr).toArray) rfl rfl 23 (Z32) hY6.out Fb.out.size Fb.out.zero Fb.out.one ?_; intro w7 hY7 kk; have hX7 := Lib.hid (hX6.out.kept kk (by omega)); have k57 : Below w5.heap.size w5 w7 := k56.out.trans (Kept.below_of kk (by omega) k56.out.size); have hP7 := Lib.hid (hP5.out.onX k57); have hQ7 := Lib.hid (hQ5.out.onX k57); have hb7 : Hid (Below w.heap.size w w7) := hb5.out.trans (k57.mono hb5.out.size); have hO7 := Lib.hid (Go.Proofs.YtpgenpogjhpeoaaDoor.Own.own_below hO5.out k57); have hT7 := Lib.hid (hT5.out.below k57); replace hY7 := Lib.hid hY7; clear kk k57 k56 hX6 hY6 hP5 hQ5 hb5 hO5 hT5))
  have hX : Hid (∀ w', Kept (fun k => k = w.heap.size + 1 ∨ k = w.heap.size + 2) w7 w' → Blk w' w5.heap.size 23 (cells8 fr).toArray) := fun w' h => hX7.out.kept h (by have := hz5.out; omega)
  have hY : Hid (∀ w', Kept (fun k => k = w.heap.size + 1 ∨ k = w.heap.size + 2) w7 w' → Blk w' (w5.heap.size + 1) 23 (cells8 sr).toArray) := fun w' h => hY7.out.kept h (by have := hz5.out; omega)
  have s0 : Hid (Kept (fun k => k = w.heap.size + 1 ∨ k = w.heap.size + 2) w7 w7.drew) := (Kept.refl _ _).drew
  refine held_start (fun w' => Kept (fun k => k = w.heap.size + 1 ∨ k = w.heap.size + 2) w7 w') 7 rfl (by kernel_rfl) ?_
  refine held_take (i := 0) (v := .agg ((cells8 fr).toArray)) rfl (by kernel_rfl) (by kernel_rfl) (by kernel_rfl) (fun _ _ _ h => h) s0.out (by rfl) (fun w' hw' => exec_row 23 (.tmp 14) rfl (w5.heap.size) rfl 23 ((cells8 fr).toArray) (0, 0) _ (hX.out w' hw') Tryd.underlying23 rfl Fa.out.size) ?_
  (intro K hK; go_simp; refine hK _ ?_; clear hK K)
  refine held_take (i := 1) (v := .agg ((cells8 sr).toArray)) rfl (by kernel_rfl) (by kernel_rfl) (by kernel_rfl) (fun _ _ _ h => h) s0.out (by rfl) (fun w' hw' => exec_row 23 (.tmp 15) rfl (w5.heap.size + 1) rfl 23 ((cells8 sr).toArray) (0, 0) _ (hY.out w' hw') Tryd.underlying23 rfl Fb.out.size) ?_
  (intro K hK; go_simp; refine hK _ ?_; clear hK K)
  refine held_take (i := 2) (v := .slice A5 k c5) rfl (by kernel_rfl) (by kernel_rfl) (by kernel_rfl) (fun _ _ _ h => h) s0.out (by rfl) (fun w' hw' => by first | go_simp | rfl) ?_
  (intro K hK; go_simp; refine hK _ ?_; clear hK K)
  refine held_only (i := 3) rfl (by kernel_rfl) (by rfl) (fun K hK => ?_)
  refine wp_store_whole 23 (.tmp 10) (.tmp 51) rfl (w.heap.size + 1) ((cells8 fr).toArray) rfl rfl 23 Z32 hP7.out Fa.out.size Fa.out.zero Fa.out.one ?_
  intro w8 q8 k8
  have h8 : Hid (Kept (fun k => k = w.heap.size + 1 ∨ k = w.heap.size + 2) w7 w8) := s0.out.trans k8 (fun i _ h => .inl h)
  have hQ8 : Hid (Blk w8 (w.heap.size + 2) 23 Z32) := Blk.kept (w := w7.drew) hQ7.out k8 (by omega)
  go_simp
  refine hK _ _ h8.out ?_
  clear hK K
  refine held_only (i := 4) rfl (by kernel_rfl) (by rfl) (fun K hK => ?_)
  refine wp_store_whole 23 (.tmp 11) (.tmp 52) rfl (w.heap.size + 2) ((cells8 sr).toArray) rfl rfl 23 Z32 hQ8.out Fb.out.size Fb.out.zero Fb.out.one ?_
  intro w9 q9 k9
  have h9 : Hid (Kept (fun k => k = w.heap.size + 1 ∨ k = w.heap.size + 2) w7 w9) := h8.out.trans k9 (fun i _ h => .inr h)
  have q10 : Hid (Blk w9 (w.heap.size + 1) 23 (cells8 fr).toArray) := Blk.kept q8 k9 (by omega)
  go_simp
  refine hK _ _ h9.out ?_
  clear hK K
  refine held_take (i := 5) (v := .slice A5 k c5) rfl (by kernel_rfl) (by kernel_rfl) (by kernel_rfl) (fun _ _ _ h => h) h9.out (by rfl) (fun w' hw' => by first | go_simp | rfl) ?_
  (intro K hK; go_simp; refine hK _ ?_; clear hK K)
  refine held_take (i := 6) (v := .int .i64 0) rfl (by kernel_rfl) (by kernel_rfl) (by kernel_rfl) (fun _ _ _ h => h) h9.out (by rfl) (fun w' hw' => by first | go_simp | rfl) ?_
  (intro K hK; go_simp; refine hK _ ?_; clear hK K)
  refine held_end (by kernel_rfl) ?_
  have hT9 : Tx w9 xs5 tx := Go.Proofs.YtpgenpogjhpeoaaDoor.RowsT.Tx.small hT7.out h9.out (fun g h => by
    rcases h with rfl | rfl
    · exact ⟨_, _, hP7.out, by decide⟩
    · exact ⟨_, _, hQ7.out, by decide⟩)
  have hO9 : w9.ownsRow w.heap.size 27 1 (.slice A5 k c5) k xs5 := Go.Proofs.YtpgenpogjhpeoaaDoor.RowsT.own_keepT hO7.out h9.out (fun g h => by
    rcases h with rfl | rfl
    · exact ⟨_, _, hP7.out, by decide⟩
    · exact ⟨_, _, hQ7.out, by decide⟩)
  have hb9 : Below w.heap.size w w9 := Kept.toBelow hb7.out h9.out (fun k h => by rcases h with h | h <;> omega) hb7.out.size
  go_wp2_with fail
  refine bodyPost_ret (results_ccrr rfl _ _ (w.heap.size + 1) (w.heap.size + 2) 23 23 (cells8 fr).toArray (cells8 sr).toArray (0, 0) (0, 0) _ rfl q10.out rfl q9 Tryd.underlying23 rfl Fa.out.size Fb.out.size) rfl ?_
  exact ⟨A5, c5, xs5, rfl, hO9, hT9, hb9⟩
end Go.Proofs.YtpgenpogjhpeoaaDoor.AheadX
