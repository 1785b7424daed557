/-
  The reference's ReadHead, walked.
-/
import Derived.Test.YtngieimjlkpkaaaHigh
namespace Go.Proofs.Ytngieimjlkpkaaa.ReadHead
open Go Go.RowKit Go.Proofs.Ytngieimjlkpkaaa Go.Proofs.Ytngieimjlkpkaaa.Mem Go.Proofs.Ytngieimjlkpkaaa.Sha Go.Proofs.Ytngieimjlkpkaaa.Bytes Go.Proofs.Ytngieimjlkpkaaa.Append Go.Proofs.Ytngieimjlkpkaaa.Octet Go.Proofs.Ytngieimjlkpkaaa.QuietTail Go.Proofs.Ytngieimjlkpkaaa.Grown Go.Proofs.Ytngieimjlkpkaaa.Reader Go.Proofs.Ytngieimjlkpkaaa.Reader2 Go.Proofs.Ytngieimjlkpkaaa.Reader3 Go.Proofs.Ytngieimjlkpkaaa.HeadMem Go.Proofs.Ytngieimjlkpkaaa.HeadTake Go.Proofs.Ytngieimjlkpkaaa.HeadTake2 Go.Proofs.Ytngieimjlkpkaaa.Decode Go.Proofs.Ytngieimjlkpkaaa.High

theorem high_val (l : Text) (L : Nat) (hL : L ≤ 4611686018427387904) : ∃ v : Int, ∃ b : Bool, highOut l L = .tuple #[.int .i64 v, .bool b] ∧ b = decide (num l ≤ L) ∧ (b = true → v = (num l : Int)) := by
  refine ⟨_, _, rfl, rfl, fun h => ?_⟩
  have h1 := of_decide_eq_true h
  exact IntWalk.wrap64_in _ (by omega)
theorem reads_sub {w : World} {b o c : Nat} {q : Text} (h : Reads w 1 (some ⟨b, o, none⟩) q.length (cells8 q)) (at_ n : Nat) (hn : at_ + n ≤ q.length) (hc : q.length ≤ c) (hlt : at_ < q.length) : Reads w 1 (some ⟨b, o + at_, none⟩) n (cells8 ((q.drop at_).take n)) := by
  have := Reads.mid (A := some ⟨b, o, none⟩) (c := c) h hn hc
  unfold cutA at this
  rw [if_neg (by omega), Option.map_some, add_at] at this
  exact this
theorem reads_pos {w : World} {A : Addr} {p : Text} {X : Prop} (h : Reads w 1 (some A) p.length (cells8 p)) (hX : X) : 0 < (cells8 p).length → X ∧ ∃ ad, some A = some ad ∧ ∀ j v, (cells8 p)[j]? = some v → w.cell? (ad.add j) = some v := fun h0 => by
  obtain ⟨b, o, e, _, hc⟩ := h.2 (by rw [cells8_len] at h0; omega)
  exact ⟨hX, A, rfl, fun j v hv => by injection e with e; subst e; rw [add_at]; exact hc j v hv⟩

/-- The result's cell and the head that is filled. -/
structure Rs (w0 w : World) (cs : Array Value) : Prop where
  res : Blk w w0.heap.size 30 Z98
  head : Blk w (w0.heap.size + 1) 30 cs
  below : Below w0.heap.size w0 w
section
variable {w0 w w' : World} {cs cs' : Array Value}
theorem Rs.store (h : Rs w0 w cs) (hb : Blk w' (w0.heap.size + 1) 30 cs') (hk : Kept (· = w0.heap.size + 1) w w') : Rs w0 w' cs' :=
  ⟨h.res.kept hk (by omega), hb, h.below.trans (Kept.below_of hk (Nat.le_succ _) h.below.size)⟩
theorem Rs.drewN (h : Rs w0 w cs) (n : Nat) : Rs w0 (w.drewN n) cs := ⟨h.res, h.head, below_drawn h.below n⟩
theorem Rs.set_ (h : Rs w0 w cs) (i : Nat) (u : Value) : Rs w0 (w.setCell ⟨w0.heap.size + 1, i, none⟩ u) (cs.setIfInBounds i u) :=
  h.store (h.head.set_ i u) ((Kept.refl (· = w0.heap.size + 1) w).setCell (p := ⟨w0.heap.size + 1, i, none⟩) (.inl rfl) u)
theorem Rs.new (w : World) : Rs w ((w.alloc (.cells Z98 30)).alloc (.cells Z98 30)) Z98 := by
  have e : (w.alloc (.cells Z98 30)).heap.size = w.heap.size + 1 := by simp
  have hN := Blk.new (w.alloc (.cells Z98 30)) 30 Z98
  rw [e] at hN
  exact ⟨(Blk.new w _ _).alloc _, hN, (Below.heap_below w _).alloc (by rw [e]; omega) _⟩
theorem Rs.end_ (h : Rs w0 w cs) (X : Array Value) : Below w0.heap.size w0 (w.setRow w0.heap.size X) := below_setRow h.below (Nat.le_refl _) X
end

def readOut (q : Text) : Value := .tuple (if decOk q = true then #[.agg (headCells (headOf q)).toArray, .bool true] else #[.agg Z98, .bool false])
theorem readOut_yes {q : Text} (h : decOk q = true) : readOut q = .tuple #[.agg (headCells (headOf q)).toArray, .bool true] := by unfold readOut; rw [if_pos h]
theorem readOut_no {q : Text} (h : ¬ decOk q = true) : readOut q = .tuple #[.agg Z98, .bool false] := by unfold readOut; rw [if_neg h]

set_option maxRecDepth 100000 in
set_option maxHeartbeats 1000000 in
theorem readHead_short (q : Text) (k : Nat) (hk : q.length = k) (hk47 : k < 140737488355328) (A : Option Addr) (c : Nat) (w : World) (hr : Reads w 1 A k (cells8 q)) (hd : ¬ (k = 113 ∧ q.getD 0 0 = 32)) :
    Calls Try.prog 35 #[.slice A k c] w fun e w' => e = .returned (readOut q) ∧ Below w.heap.size w w' := by
  have hY : Hid (readOut q = .tuple #[.agg Z98, .bool false]) := readOut_no (fun h => hd (by simp [decOk, okH] at h; exact ⟨by omega, h.2.1.1⟩))
  have hZ : Hid (Blk (w.alloc (.cells Z98 30)) w.heap.size 30 Z98) := Blk.new w _ _
  have hb : Hid (Below w.heap.size w (w.alloc (.cells Z98 30))) := Below.heap_below w _
  by_cases h113 : k = 113
  · subst h113
    obtain ⟨b, o, rfl, hbl, hcell⟩ := hr.2 (by omega)
    have hc0 : (w.alloc (.cells Z98 30)).cell? ⟨b, o, none⟩ = some (.int .u8 (b8 (q.getD 0 0))) := by
      rw [Below.cell (p := ⟨b, o, none⟩) (Below.heap_below w _) hbl]
      exact hcell 0 _ (cells8_at q 0 (by omega))
    have hy : ¬ b8 (q.getD 0 0) = 32 := fun e => hd ⟨rfl, by unfold b8 at e; apply BitVec.eq_of_toNat_eq; have : (32 : BitVec 8).toNat = 32 := rfl; omega⟩
    obtain ⟨y, hye⟩ : ∃ y, y = b8 (q.getD 0 0) := ⟨_, rfl⟩
    rw [← hye] at hc0 hy
    change (w.alloc (.cells Try.zeroCells30 30)).cell? ⟨b, o, none⟩ = some (.int .u8 y) at hc0
    clear hye hk hk47 hr hd hbl hcell
    go_enter Try.func35, Try.ntmps35
    go_wp2_with ((with_reducible change wpList _ _ _ ({ dst := none, op := Op.store 30 (.tmp 2) (.tmp 18), type := _, pos := _, after := _, guard := _ } :: _) _ _); refine wpList_store_row (o := ⟨none, _, _, _, _, _⟩) rfl 30 (.tmp 2) (.tmp 18) rfl w.heap.size Z98 rfl rfl 30 Z98 hZ.out size98' rfl one98 ?_)
    refine bodyPost_ret (results_cell_row2 rfl _ _ w.heap.size 30 Z98 (0, 0) _ rfl (setRow_heap _ _ _ _ _ _ hZ.out) Try.underlying30 rfl size98') rfl ?_
    exact ⟨by rw [hY.out]; rfl, below_setRow hb.out (Nat.le_refl _) _⟩
  · have hk2 : ¬ (k : Int) = 113 := by omega
    replace hk47 := Lib.hid hk47
    clear hr hd hk h113
    go_enter Try.func35, Try.ntmps35
    go_wp2_with ((with_reducible change wpList _ _ _ ({ dst := none, op := Op.store 30 (.tmp 2) (.tmp 18), type := _, pos := _, after := _, guard := _ } :: _) _ _); refine wpList_store_row (o := ⟨none, _, _, _, _, _⟩) rfl 30 (.tmp 2) (.tmp 18) rfl w.heap.size Z98 rfl rfl 30 Z98 hZ.out size98' rfl one98 ?_)
    refine bodyPost_ret (results_cell_row2 rfl _ _ w.heap.size 30 Z98 (0, 0) _ rfl (setRow_heap _ _ _ _ _ _ hZ.out) Try.underlying30 rfl size98') rfl ?_
    exact ⟨by rw [hY.out]; rfl, below_setRow hb.out (Nat.le_refl _) _⟩

set_option maxRecDepth 100000 in
set_option maxHeartbeats 1000000 in
theorem readHead_full (q : Text) (hk : q.length = 113) (hy : q.getD 0 0 = 32) (b o c : Nat) (hcap : 113 ≤ c) (w : World) (hr : Reads w 1 (some ⟨b, o, none⟩) q.length (cells8 q)) :
    Calls Try.prog 35 #[.slice (some ⟨b, o, none⟩) 113 c] w fun e w' => e = .returned (readOut q) ∧ Below w.heap.size w w' := by
  have hbl : b < w.heap.size := by obtain ⟨b', o', e, h, _⟩ := hr.2 (by omega); injection e with e; injection e with e1; subst e1; exact h
  have hc0 : (w.alloc (.cells Z98 30)).cell? ⟨b, o, none⟩ = some (.int .u8 32) := by
    rw [Below.cell (p := ⟨b, o, none⟩) (Below.heap_below w _) hbl]
    obtain ⟨b', o', e, h, hcell⟩ := hr.2 (by omega)
    injection e with e; injection e with e1 e2; subst e1 e2
    have := hcell 0 _ (cells8_at q 0 (by omega))
    rw [hy] at this
    exact this
  change (w.alloc (.cells Try.zeroCells30 30)).cell? ⟨b, o, none⟩ = some (.int .u8 32) at hc0
  obtain ⟨w0, hw0⟩ : ∃ w0, w0 = (w.alloc (.cells Z98 30)).alloc (.cells Z98 30) := ⟨_, rfl⟩
  have R0 : Hid (Rs w w0 Z98) := by show Rs _ _ _; rw [hw0]; exact Rs.new w
  have hsub : Hid (∀ w', Below w.heap.size w w' → ∀ at_ n, at_ + n ≤ 113 → at_ < 113 → Reads w' 1 (some ⟨b, o + at_, none⟩) n (cells8 ((q.drop at_).take n))) := fun w' hb at_ n h1 h2 => reads_sub (c := c) (hr.below hb) at_ n (by omega) (by omega) (by omega)
  have hlen : Hid (∀ at_ n, at_ + n ≤ 113 → ((q.drop at_).take n).length = n) := fun at_ n h => by rw [List.length_take, List.length_drop]; omega
  have X : ∀ (l h : Nat), l ≤ h → h ≤ c → l < c → ∀ (x y : Int), x = l → y = h → ∀ w', (Instr.sliceAt 23 (.slice (some ⟨b, o, none⟩) 113 c) (some (.int .i64 x)) (some (.int .i64 y)) none).run Try.prog w' = .ok (.slice (some ⟨b, o + l, none⟩) (h - l) (c - l)) w' := fun l h h1 h2 h3 x y hx hy w' => by
    rw [run_mid (l := l) (h := h) Try.underlying23 (fun _ => rfl) h1 h2 x y hx hy w']
    simp only [cutA, if_neg (show ¬ c = l by omega), Option.map_some, add_at]
  have X1 : ∀ w', (Instr.sliceAt 23 (.slice (some ⟨b, o, none⟩) 113 c) (some (.int .i64 1)) (some (.int .i64 33)) none).run Try.prog w' = .ok (.slice (some ⟨b, o + 1, none⟩) 32 (c - 1)) w' := X 1 33 (by omega) (by omega) (by omega) 1 33 rfl rfl
  have X2 : ∀ w', (Instr.sliceAt 23 (.slice (some ⟨b, o, none⟩) 113 c) (some (.int .i64 33)) (some (.int .i64 41)) none).run Try.prog w' = .ok (.slice (some ⟨b, o + 33, none⟩) 8 (c - 33)) w' := X 33 41 (by omega) (by omega) (by omega) 33 41 rfl rfl
  have X3 : ∀ w', (Instr.sliceAt 23 (.slice (some ⟨b, o, none⟩) 113 c) (some (.int .i64 41)) (some (.int .i64 73)) none).run Try.prog w' = .ok (.slice (some ⟨b, o + 41, none⟩) 32 (c - 41)) w' := X 41 73 (by omega) (by omega) (by omega) 41 73 rfl rfl
  have X4 : ∀ w', (Instr.sliceAt 23 (.slice (some ⟨b, o, none⟩) 113 c) (some (.int .i64 73)) (some (.int .i64 105)) none).run Try.prog w' = .ok (.slice (some ⟨b, o + 73, none⟩) 32 (c - 73)) w' := X 73 105 (by omega) (by omega) (by omega) 73 105 rfl rfl
  have X5 : ∀ w', (Instr.sliceAt 23 (.slice (some ⟨b, o, none⟩) 113 c) (some (.int .i64 105)) (some (.int .i64 113)) none).run Try.prog w' = .ok (.slice (some ⟨b, o + 105, none⟩) 8 (c - 105)) w' := X 105 113 (by omega) (by omega) (by omega) 105 113 rfl rfl
  obtain ⟨v1, f1, ho1, hf1, hv1⟩ := high_val ((q.drop 33).take 8) 1099511627776 (by omega)
  have hH1 : Hid (∀ w', Reads w' 1 (some ⟨b, o + 33, none⟩) 8 (cells8 ((q.drop 33).take 8)) → Calls Try.prog 56 #[.slice (some ⟨b, o + 33, none⟩) 8 (c - 33), .int .i64 1099511627776] w' fun e w'' => e = .returned (.tuple #[.int .i64 v1, .bool f1]) ∧ w' = w'') := fun w' h => by
    have := high_any ((q.drop 33).take 8) (hlen.out 33 8 (by omega)) 1099511627776 (by omega) (some ⟨b, o + 33, none⟩) (c - 33) w' h
    rw [ho1] at this
    exact this
  clear ho1
  replace hf1 := Lib.hid hf1
  replace hv1 := Lib.hid hv1
  obtain ⟨v2, f2, ho2, hf2, hv2⟩ := high_val ((q.drop 105).take 8) 4611686018427387904 (by omega)
  have hH2 : Hid (∀ w', Reads w' 1 (some ⟨b, o + 105, none⟩) 8 (cells8 ((q.drop 105).take 8)) → Calls Try.prog 56 #[.slice (some ⟨b, o + 105, none⟩) 8 (c - 105), .int .i64 4611686018427387904] w' fun e w'' => e = .returned (.tuple #[.int .i64 v2, .bool f2]) ∧ w' = w'') := fun w' h => by
    have := high_any ((q.drop 105).take 8) (hlen.out 105 8 (by omega)) 4611686018427387904 (by omega) (some ⟨b, o + 105, none⟩) (c - 105) w' h
    rw [ho2] at this
    exact this
  clear ho2
  replace hf2 := Lib.hid hf2
  replace hv2 := Lib.hid hv2
  clear X hr hbl
  replace hk := Lib.hid hk
  replace hy := Lib.hid hy
  replace hcap := Lib.hid hcap
  go_enter Try.func35, Try.ntmps35
  go_wp2_with fail
  have hww : (w.alloc (.cells Try.zeroCells30 30)).alloc (.cells Try.zeroCells30 30) = w0 := hw0.symm
  rw [hww]
  clear hww hw0 hc0
  refine wp_region_quiet_tail 4 (by kernel_rfl) (by kernel_rfl) ?_
  repeat (quiet_step (fail))
  refine wpQuiet_nil ?_
  intro _ hw'
  obtain ⟨na, hw''⟩ := hw'
  subst hw''
  simp only [List.drop]
  have Qa : Hid (Rs w (w0.drewN na) Z98) := R0.out.drewN na
  clear R0
  generalize w0.drewN na = ua at *
  have Ca := Lib.hid (reads_pos (X := some (⟨w.heap.size + 1, 0, none⟩ : Addr) = some ⟨w.heap.size + 1, 0, none⟩) (p := (q.drop 1).take 32) (by rw [hlen.out 1 32 (by omega)]; exact hsub.out ua Qa.out.below 1 32 (by omega) (by omega)) rfl)
  have La : Hid ((cells8 ((q.drop 1).take 32)).length = 32) := by show _ = _; rw [cells8_len, hlen.out 1 32 (by omega)]
  have Za : Hid (((Z98 : Array Value)).size = 98) := z98_size
  have Fa : Hid (0 + (cells8 ((q.drop 1).take 32)).length ≤ (Z98 : Array Value).size) := by show _ ≤ _; rw [Za.out, La.out]; decide
  go_wp2_with ((with_reducible change wpList _ _ _ ({ dst := some 23, op := _, type := _, pos := _, after := _, guard := _ } :: _) _ _); refine wpList_copy_into (o := ⟨some 23, _, _, _, _, _⟩) rfl (.tmp 20) (.tmp 22) 23 23 rfl 5 Try.underlying23 size8 (some ⟨w.heap.size + 1, 0, none⟩) (some ⟨b, o + 1, none⟩) 32 32 32 (c - 1) rfl rfl (w.heap.size + 1) 0 (Z98) 30 Qa.out.head (cells8 ((q.drop 1).take 32)) La.out Ca.out Fa.out (cells8_one _) ua (Kept.refl _ ua) 32 La.out ?_; intro w1 hba hka; have R1 := Lib.hid (Qa.out.store hba.out hka); clear hba hka Qa Ca Fa)
  refine (hH1.out w1 (hsub.out w1 R1.out.below 33 8 (by omega) (by omega))).mono ?_
  rintro e w' ⟨rfl, rfl⟩
  go_wp2_with fail
  refine wp_region_quiet_tail 4 (by kernel_rfl) (by kernel_rfl) ?_
  repeat (quiet_step (fail))
  refine wpQuiet_nil ?_
  intro _ hw'
  obtain ⟨nb, hw''⟩ := hw'
  subst hw''
  simp only [List.drop]
  have Qb : Hid (Rs w (w1.drewN nb) (splice Z98.toList 0 (cells8 ((q.drop 1).take 32))).toArray) := R1.out.drewN nb
  clear R1
  generalize w1.drewN nb = ub at *
  have Cb := Lib.hid (reads_pos (X := some (⟨w.heap.size + 1, 33, none⟩ : Addr) = some ⟨w.heap.size + 1, 33, none⟩) (p := (q.drop 41).take 32) (by rw [hlen.out 41 32 (by omega)]; exact hsub.out ub Qb.out.below 41 32 (by omega) (by omega)) rfl)
  have Lb : Hid ((cells8 ((q.drop 41).take 32)).length = 32) := by show _ = _; rw [cells8_len, hlen.out 41 32 (by omega)]
  have Zb : Hid ((((splice Z98.toList 0 (cells8 ((q.drop 1).take 32))).toArray : Array Value)).size = 98) := by show _ = _; rw [List.size_toArray, len_splice _ _ _ (by rw [La.out]; decide)]; exact z98_size
  have Fb : Hid (33 + (cells8 ((q.drop 41).take 32)).length ≤ ((splice Z98.toList 0 (cells8 ((q.drop 1).take 32))).toArray : Array Value).size) := by show _ ≤ _; rw [Zb.out, Lb.out]; decide
  go_wp2_with ((with_reducible change wpList _ _ _ ({ dst := some 34, op := _, type := _, pos := _, after := _, guard := _ } :: _) _ _); refine wpList_copy_into (o := ⟨some 34, _, _, _, _, _⟩) rfl (.tmp 31) (.tmp 33) 23 23 rfl 5 Try.underlying23 size8 (some ⟨w.heap.size + 1, 33, none⟩) (some ⟨b, o + 41, none⟩) 32 32 32 (c - 41) rfl rfl (w.heap.size + 1) 33 ((splice Z98.toList 0 (cells8 ((q.drop 1).take 32))).toArray) 30 Qb.out.head (cells8 ((q.drop 41).take 32)) Lb.out Cb.out Fb.out (cells8_one _) ub (Kept.refl _ ub) 32 Lb.out ?_; intro w2 hbb hkb; have R2 := Lib.hid (Qb.out.store hbb.out hkb); clear hbb hkb Qb Cb Fb)
  refine wp_region_quiet_tail 4 (by kernel_rfl) (by kernel_rfl) ?_
  repeat (quiet_step (fail))
  refine wpQuiet_nil ?_
  intro _ hw'
  obtain ⟨nc, hw''⟩ := hw'
  subst hw''
  simp only [List.drop]
  have Qc : Hid (Rs w (w2.drewN nc) (splice (splice Z98.toList 0 (cells8 ((q.drop 1).take 32))) 33 (cells8 ((q.drop 41).take 32))).toArray) := R2.out.drewN nc
  clear R2
  generalize w2.drewN nc = uc at *
  have Cc := Lib.hid (reads_pos (X := some (⟨w.heap.size + 1, 65, none⟩ : Addr) = some ⟨w.heap.size + 1, 65, none⟩) (p := (q.drop 73).take 32) (by rw [hlen.out 73 32 (by omega)]; exact hsub.out uc Qc.out.below 73 32 (by omega) (by omega)) rfl)
  have Lc : Hid ((cells8 ((q.drop 73).take 32)).length = 32) := by show _ = _; rw [cells8_len, hlen.out 73 32 (by omega)]
  have Zc : Hid ((((splice (splice Z98.toList 0 (cells8 ((q.drop 1).take 32))) 33 (cells8 ((q.drop 41).take 32))).toArray : Array Value)).size = 98) := by show _ = _; rw [List.size_toArray, len_splice _ _ _ (by rw [Lb.out]; have := Zb.out; rw [List.size_toArray] at this; omega)]; have := Zb.out; rwa [List.size_toArray] at this
  have Fc : Hid (65 + (cells8 ((q.drop 73).take 32)).length ≤ ((splice (splice Z98.toList 0 (cells8 ((q.drop 1).take 32))) 33 (cells8 ((q.drop 41).take 32))).toArray : Array Value).size) := by show _ ≤ _; rw [Zc.out, Lc.out]; decide
  go_wp2_with ((with_reducible change wpList _ _ _ ({ dst := some 39, op := _, type := _, pos := _, after := _, guard := _ } :: _) _ _); refine wpList_copy_into (o := ⟨some 39, _, _, _, _, _⟩) rfl (.tmp 36) (.tmp 38) 23 23 rfl 5 Try.underlying23 size8 (some ⟨w.heap.size + 1, 65, none⟩) (some ⟨b, o + 73, none⟩) 32 32 32 (c - 73) rfl rfl (w.heap.size + 1) 65 ((splice (splice Z98.toList 0 (cells8 ((q.drop 1).take 32))) 33 (cells8 ((q.drop 41).take 32))).toArray) 30 Qc.out.head (cells8 ((q.drop 73).take 32)) Lc.out Cc.out Fc.out (cells8_one _) uc (Kept.refl _ uc) 32 Lc.out ?_; intro w3 hbc hkc; have R3 := Lib.hid (Qc.out.store hbc.out hkc); clear hbc hkc Qc Cc Fc)
  have R4 : Hid (Rs w w3 (filled ((q.drop 1).take 32) ((q.drop 41).take 32) ((q.drop 73).take 32))) := R3.out
  clear R3
  refine (hH2.out w3 (hsub.out w3 R4.out.below 105 8 (by omega) (by omega))).mono ?_
  rintro e w' ⟨rfl, rfl⟩
  clear hH1 hH2 X1 X2 X3 X4 X5 hsub La Lb Lc Za Zb Zc
  rcases Bool.eq_false_or_eq_true f1 with rfl | rfl
  · rcases Bool.eq_false_or_eq_true f2 with rfl | rfl
    · have hdec : Hid (decOk q = true) := by
        have h1 := hf1.out; have h2 := hf2.out
        show _ = _
        simp at h1 h2
        unfold decOk okH
        rw [hk.out, hy.out, decide_eq_true h1, decide_eq_true h2]
        rfl
      have hOK := headOf_ok q (by have := hk.out; omega) (by have := hdec.out; simp only [decOk, Bool.and_eq_true] at this; exact this.2)
      obtain ⟨hz, ho, hs⟩ := head_sizes hOK
      have hY : Hid (readOut q = .tuple #[.agg (headCells (headOf q)).toArray, .bool true]) := readOut_yes hdec.out
      have hsz := filled_size ((q.drop 1).take 32) ((q.drop 41).take 32) ((q.drop 73).take 32) (hlen.out 1 32 (by omega)) (hlen.out 41 32 (by omega)) (hlen.out 73 32 (by omega))
      obtain ⟨x1, hx1⟩ : ∃ x1, (filled ((q.drop 1).take 32) ((q.drop 41).take 32) ((q.drop 73).take 32))[32]? = some x1 := ⟨_, Array.getElem?_eq_getElem (by omega)⟩
      obtain ⟨x2, hx2⟩ : ∃ x2, (filled ((q.drop 1).take 32) ((q.drop 41).take 32) ((q.drop 73).take 32))[97]? = some x2 := ⟨_, Array.getElem?_eq_getElem (by omega)⟩
      have c1 : w3.cell? ⟨w.heap.size + 1, 32, none⟩ = some x1 := (R4.out.head.cell 32).trans hx1
      have c2 : w3.cell? ⟨w.heap.size + 1, 97, none⟩ = some x2 := (R4.out.head.cell 97).trans hx2
      have g1 := R4.out.head.frozen 32
      have g2 := R4.out.head.frozen 97
      have R5 : Hid (Rs w ((w3.setCell ⟨w.heap.size + 1, 32, none⟩ (.int .i64 v1)).setCell ⟨w.heap.size + 1, 97, none⟩ (.int .i64 v2)) (headCells (headOf q)).toArray) := by
        have := (R4.out.set_ 32 (.int .i64 v1)).set_ 97 (.int .i64 v2)
        have e := filled_head (headOf q) hOK
        rw [hv1.out rfl, hv2.out rfl] at this ⊢
        unfold headOf at e
        simp only at e
        rw [e] at this
        exact this
      clear hf1 hf2 hv1 hv2 hsz hx1 hx2 hlen hOK hdec
      go_wp2_with (first
        | ((with_reducible change wpList _ _ _ ({ dst := some 57, op := _, type := _, pos := _, after := _, guard := _ } :: _) _ _); refine wpList_load_row (o := ⟨some 57, _, _, _, _, _⟩) rfl 30 (.tmp 4) rfl (w.heap.size + 1) rfl 30 (headCells (headOf q)).toArray (0, 0) _ R5.out.head Try.underlying30 rfl hz.out ?_)
        | ((with_reducible change wpList _ _ _ ({ dst := none, op := Op.store 30 _ _, type := _, pos := _, after := _, guard := _ } :: _) _ _); refine wpList_store_row (o := ⟨none, _, _, _, _, _⟩) rfl 30 (.tmp 2) (.tmp 57) rfl w.heap.size (headCells (headOf q)).toArray rfl rfl 30 Z98 R5.out.res hz.out hs.out ho.out ?_))
      refine bodyPost_ret (results_cell_row2 rfl _ _ w.heap.size 30 (headCells (headOf q)).toArray (0, 0) _ rfl (setRow_heap _ _ _ _ _ _ R5.out.res) Try.underlying30 rfl hz.out) rfl ?_
      exact ⟨by rw [hY.out]; rfl, R5.out.end_ _⟩
    · have hY : Hid (readOut q = .tuple #[.agg Z98, .bool false]) := readOut_no (fun h => by simp [decOk, okH] at h; have h1 := hf1.out; have h2 := hf2.out; simp at h1 h2; omega)
      go_wp2_with ((with_reducible change wpList _ _ _ ({ dst := none, op := Op.store 30 (.tmp 2) (.tmp 52), type := _, pos := _, after := _, guard := _ } :: _) _ _); refine wpList_store_row (o := ⟨none, _, _, _, _, _⟩) rfl 30 (.tmp 2) (.tmp 52) rfl w.heap.size Z98 rfl rfl 30 Z98 R4.out.res size98' rfl one98 ?_)
      refine bodyPost_ret (results_cell_row2 rfl _ _ w.heap.size 30 Z98 (0, 0) _ rfl (setRow_heap _ _ _ _ _ _ R4.out.res) Try.underlying30 rfl size98') rfl ?_
      exact ⟨by rw [hY.out]; rfl, R4.out.end_ _⟩
  · have hY : Hid (readOut q = .tuple #[.agg Z98, .bool false]) := readOut_no (fun h => by simp [decOk, okH] at h; have h1 := hf1.out; have h2 := hf2.out; simp at h1 h2; omega)
    go_wp2_with ((with_reducible change wpList _ _ _ ({ dst := none, op := Op.store 30 (.tmp 2) (.tmp 52), type := _, pos := _, after := _, guard := _ } :: _) _ _); refine wpList_store_row (o := ⟨none, _, _, _, _, _⟩) rfl 30 (.tmp 2) (.tmp 52) rfl w.heap.size Z98 rfl rfl 30 Z98 R4.out.res size98' rfl one98 ?_)
    refine bodyPost_ret (results_cell_row2 rfl _ _ w.heap.size 30 Z98 (0, 0) _ rfl (setRow_heap _ _ _ _ _ _ R4.out.res) Try.underlying30 rfl size98') rfl ?_
    exact ⟨by rw [hY.out]; rfl, R4.out.end_ _⟩

theorem readHead_any (q : Text) (k : Nat) (hk : q.length = k) (hk47 : k < 140737488355328) (A : Option Addr) (c : Nat) (hkc : k ≤ c) (w : World) (hr : Reads w 1 A k (cells8 q)) :
    Calls Try.prog 35 #[.slice A k c] w fun e w' => e = .returned (readOut q) ∧ Below w.heap.size w w' := by
  by_cases hd : k = 113 ∧ q.getD 0 0 = 32
  · obtain ⟨rfl, hy⟩ := hd
    obtain ⟨b, o, rfl, _⟩ := hr.2 (by omega)
    exact readHead_full q hk hy b o c hkc w (by rw [hk]; exact hr)
  · exact readHead_short q k hk hk47 A c w hr hd
end Go.Proofs.Ytngieimjlkpkaaa.ReadHead
