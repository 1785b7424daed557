/-
  Texts of the claim, put into one file: Way20, AuditNumbers.
-/
import Derived.Test.YtaelcgimgomnnaaDoorZ29

namespace Go.Proofs.YtaelcgimgomnnaaDoor.Way20
open Go Go.RowKit Go.Proofs.YtaelcgimgomnnaaDoor Go.Proofs.YtaelcgimgomnnaaDoor.Mem Go.Proofs.YtaelcgimgomnnaaDoor.Sha Go.Proofs.YtaelcgimgomnnaaDoor.Bytes Go.Proofs.YtaelcgimgomnnaaDoor.Append Go.Proofs.YtaelcgimgomnnaaDoor.HashMem Go.Proofs.YtaelcgimgomnnaaDoor.DigestMem Go.Proofs.YtaelcgimgomnnaaDoor.Digest Go.Proofs.YtaelcgimgomnnaaDoor.RefCut Go.Proofs.YtaelcgimgomnnaaDoor.RefTop Go.Proofs.YtaelcgimgomnnaaDoor.QuietTail Go.Proofs.YtaelcgimgomnnaaDoor.Grown Go.Proofs.YtaelcgimgomnnaaDoor.Chain Go.Proofs.YtaelcgimgomnnaaDoor.TreeMem Go.Proofs.YtaelcgimgomnnaaDoor.TreeRoot Go.Proofs.YtaelcgimgomnnaaDoor.Held Go.Proofs.YtaelcgimgomnnaaDoor.Guard Go.Proofs.YtaelcgimgomnnaaDoor.Sides Go.Proofs.YtaelcgimgomnnaaDoor.Node Go.Proofs.YtaelcgimgomnnaaDoor.Climb Go.Proofs.YtaelcgimgomnnaaDoor.Incl Go.Proofs.YtaelcgimgomnnaaDoor.Include Go.Proofs.YtaelcgimgomnnaaDoor.Texts Go.Proofs.YtaelcgimgomnnaaDoor.RefIncl0 Go.Proofs.YtaelcgimgomnnaaDoor.RefIncl Go.Proofs.YtaelcgimgomnnaaDoor.Ref17 Go.Proofs.YtaelcgimgomnnaaDoor.Book Go.Proofs.YtaelcgimgomnnaaDoor.Book2 Go.Proofs.YtaelcgimgomnnaaDoor.AudIncl

/-- A row of texts, each longer than a sum. -/
def TxP (w : World) (A : Option Addr) (n : Nat) (ts : List Text) : Prop :=
  ∃ xs, ts.length = n ∧ Reads w 1 A n xs ∧ ∀ (i : Nat) (q : Text), ts[i]? = some q → 32 < q.length ∧ ∃ g c, xs[i]? = some (.slice (some ⟨g, 0, none⟩) q.length c) ∧ q.length ≤ c ∧ Reads w 1 (some ⟨g, 0, none⟩) q.length (cells8 q)
theorem TxP.below {w w' : World} {A : Option Addr} {n : Nat} {ts : List Text} (h : TxP w A n ts) (hb : Below w.heap.size w w') : TxP w' A n ts := by
  obtain ⟨xs, h1, h2, h3⟩ := h
  refine ⟨xs, h1, h2.below hb, fun i q hq => ?_⟩
  obtain ⟨hl, g, c, a1, a2, a3⟩ := h3 i q hq
  exact ⟨hl, g, c, a1, a2, a3.below hb⟩
theorem TxP.keptN {w w' : World} {A : Option Addr} {n m : Nat} {ts : List Text} (h : TxP w A n ts) (hB : Blk w m 23 Z32) (hk : Kept (· = m) w w') : TxP w' A n ts := by
  obtain ⟨xs, h1, h2, h3⟩ := h
  refine ⟨xs, h1, h2.kept0 hk (fun h0 b o e hbm => ?_), fun i q hq => ?_⟩
  · have hbm : b = m := hbm
    subst hbm
    obtain ⟨b', o', e', -, hc⟩ := h2.at_ h0
    rw [e] at e'
    injection e' with e'
    injection e' with e1 e2
    subst e1 e2
    obtain ⟨q, hq⟩ : ∃ q, ts[0]? = some q := ⟨_, List.getElem?_eq_getElem (by omega)⟩
    obtain ⟨-, g, c, a1, -⟩ := h3 0 q hq
    have h5 := hc 0 _ a1
    rw [hB.cell] at h5
    have h6 : ∀ (j : Nat) (v : Value), (Z32 : Array Value)[j]? = some v → v = .int .u8 0 := by
      intro j v hv
      have := Array.mem_of_getElem? hv
      simp [Z32] at this
      exact this
    have := h6 _ _ h5
    cases this
  · obtain ⟨hl, g, c, a1, a2, a3⟩ := h3 i q hq
    refine ⟨hl, g, c, a1, a2, a3.kept hk (fun b o e hbm => ?_)⟩
    have hbm : b = m := hbm
    subst hbm
    injection e with e
    injection e with e1 e2
    subst e1 e2
    obtain ⟨b', o', e', -, hc⟩ := a3.at_ (by omega)
    injection e' with e'
    injection e' with e1 e2
    subst e1 e2
    have h5 := hc 32 _ (cells8_at q 32 hl)
    rw [hB.cell] at h5
    simp [Z32] at h5
theorem TxP.mk_ {w : World} {M : Nat → Prop} {gc : Nat} {r : Option Nat} {v : Value} {xs : List Value} {ts : List Text} {base : Nat} (hO : w.ownsRow base 24 1 v ts.length xs) (hx : Txs M w gc r xs ts) (hl : ∀ q ∈ ts, q.length = 65) : ∃ A c, v = .slice A ts.length c ∧ (A = none → ts.length = 0 ∧ c = 0) ∧ TxP w A ts.length ts := by
  obtain ⟨A, c, e, -, -, hnil, hr, -⟩ := Append.Own.reads hO
  refine ⟨A, c, e, hnil, xs, rfl, hr, fun i q hq => ?_⟩
  obtain ⟨g, cq, a1, a2, a3, -⟩ := hx i q hq
  exact ⟨by rw [hl q (List.mem_of_getElem? hq)]; decide, g, cq, a1, a2, a3⟩
theorem inclOf_texts (s size i : Int) (leaf : Text) (ds : List Text) (hl : leaf.length = 32) (hd : Digs ds) : (inclOf s size i leaf [] ds).2.2.length ≤ ds.length ∧ ∀ q ∈ (inclOf s size i leaf [] ds).2.2, q.length = 65 := by
  unfold inclOf
  split
  · exact ⟨Nat.zero_le _, fun q h => by cases h⟩
  · split
    · exact ⟨Nat.zero_le _, fun q h => by cases h⟩
    · rename_i h
      have h2 : (sides size.toNat i.toNat).length = ds.length := by omega
      have hz : ((sides size.toNat i.toNat).zip ds).length = ds.length := by rw [List.length_zip]; omega
      refine ⟨by rw [show _ = _ from (climbN_len (s := s) (st := (leaf, [])) (l := (sides size.toNat i.toNat).zip ds) hl ds.length (by omega)).2]; simp, ?_⟩
      exact climbN_long hl (fun q h => by cases h) (fun p hp => hd _ (List.of_mem_zip (show (p.1, p.2) ∈ _ from hp)).2) ds.length (by omega)
/-- One text as pieces, in a row of its own. -/
theorem one_piece {w : World} {A : Option Addr} {k c : Nat} {q : Text} (h : Reads w 1 A k (cells8 q)) (hk : q.length = k) (hkc : k ≤ c) (hnil : A = none → k = 0 ∧ c = 0) : Pieces (w.alloc (.cells #[.slice A k c] 24)) (some ⟨w.heap.size, 0, none⟩) [q] := fun _ => by
  have hB := Blk.new w 24 #[.slice A k c]
  refine ⟨w.heap.size, 0, rfl, hB.lt, fun i p hp => ?_⟩
  match i with
  | 0 =>
    obtain rfl := Option.some.inj hp
    exact ⟨A, c, by rw [hB.cell, hk]; rfl, by omega, by rw [hk]; exact h.alloc _, fun e => by have := hnil e; omega⟩
  | i + 1 => simp at hp
/-- A row of texts behind one text. -/
theorem cons_pieces {w w' : World} {B : Nat} {A5 : Option Addr} {n c5 m : Nat} {q : Text} {ts : List Text} {v1 : Value} {xs : List Value} (h3 : ∀ (i : Nat) (q : Text), ts[i]? = some q → 32 < q.length ∧ ∃ g c, xs[i]? = some (.slice (some ⟨g, 0, none⟩) q.length c) ∧ q.length ≤ c ∧ Reads w 1 (some ⟨g, 0, none⟩) q.length (cells8 q))
    (hn : ts.length = n) (hq : Reads w 1 A5 q.length (cells8 q)) (hc5 : q.length ≤ c5) (hnil : A5 = none → q.length = 0 ∧ c5 = 0)
    (hO : w'.ownsRow B 24 1 v1 (1 + n) ([.slice A5 q.length c5] ++ xs)) (hk : Kept (· = m) w w') (hm : ∀ b o, A5 = some ⟨b, o, none⟩ → b ≠ m) (hm2 : ∀ (i : Nat) (p : Text) g c, ts[i]? = some p → xs[i]? = some (.slice (some ⟨g, 0, none⟩) p.length c) → g ≠ m) :
    ∃ A1 c1, v1 = .slice A1 (1 + n) c1 ∧ 1 + n ≤ c1 ∧ Pieces w' A1 (q :: ts) := by
  obtain ⟨A1, c1, e, hc, -, hnil1, hr, -⟩ := Append.Own.reads hO
  refine ⟨A1, c1, e, hc, fun _ => ?_⟩
  obtain ⟨b, o, e1, hb, hcs⟩ := hr.at_ (by omega)
  refine ⟨b, o, e1, hb, fun i p hp => ?_⟩
  match i with
  | 0 =>
    obtain rfl := Option.some.inj hp
    exact ⟨A5, c5, hcs 0 _ rfl, hc5, hq.kept hk hm, hnil⟩
  | i + 1 =>
    have hp' : ts[i]? = some p := hp
    obtain ⟨-, g, cq, a1, a2, a3⟩ := h3 i p hp'
    refine ⟨some ⟨g, 0, none⟩, cq, hcs (i + 1) _ (by simpa using a1), a2, a3.kept hk (fun b o e => ?_), fun h => by cases h⟩
    injection e with e
    injection e with e1 e2
    subst e1
    exact hm2 i p _ cq hp' a1

set_option maxRecDepth 100000 in
set_option maxHeartbeats 2000000 in
theorem way20_any (s : Int) (hs63 : s < 9223372036854775808) (ev : Text) (k : Nat) (hk : ev.length = k) (hk47 : k < 140737488355327) (A : Option Addr) (c : Nat) (hkc : k ≤ c) (hnil : A = none → k = 0 ∧ c = 0) (x1 x2 : Int) (ds : List Text) (A2 : Option Addr) (n c2 : Nat) (hn40 : n < 1099511627776) (w : World) (hr : Reads w 1 A k (cells8 ev)) (hrd : RdD w A2 n ds) :
    Calls Tryd.prog 18 #[.int .i64 s, .slice A k c, .agg (inclCells x1 x2 A2 n c2)] w fun e w' => ∃ A4 c4, e = .returned (.slice A4 (1 + (inclOf s x1 x2 (leafOf s ev) [] ds).2.2.length) c4) ∧ 1 + (inclOf s x1 x2 (leafOf s ev) [] ds).2.2.length ≤ c4 ∧ Pieces w' A4 ((kb 0 :: ev) :: (inclOf s x1 x2 (leafOf s ev) [] ds).2.2) ∧ Below w.heap.size w w' := by
  unfold inclCells
  obtain ⟨i0, ii, iz0, iz1, iz2⟩ := info_partsN infoT
  obtain ⟨W, hW⟩ : ∃ W, Hid (W = w.alloc (.cells #[Value.int .i64 x1, Value.int .i64 x2, Value.slice A2 n c2] 27)) := ⟨_, rfl⟩
  have hb1 : Hid (Below w.heap.size w W) := by show Below _ _ _; rw [hW.out]; exact Below.heap_below w _
  have hP1 : Hid (Blk W w.heap.size 27 #[Value.int .i64 x1, Value.int .i64 x2, Value.slice A2 n c2]) := by show Blk _ _ _ _; rw [hW.out]; exact Blk.new w _ _
  obtain ⟨⟨x, kk, ts⟩, hX⟩ : ∃ X, inclOf s x1 x2 (leafOf s ev) [] ds = X := ⟨_, rfl⟩
  have hxl := inclOf_len s x1 x2 (leafOf s ev) [] ds (leafOf_len s ev)
  have hxt := inclOf_texts s x1 x2 (leafOf s ev) ds (leafOf_len s ev) hrd.2.1
  rw [hrd.1] at hxt
  rw [hX] at hxl hxt ⊢
  dsimp only at hxl hxt ⊢
  have F := Lib.hid (fit (x := x) hxl)
  obtain ⟨lf, hlf⟩ : ∃ lf, Hid (leafOf s ev = lf) := ⟨_, Lib.hid rfl⟩
  have hlfl : Hid (lf.length = 32) := by show _ = _; rw [← hlf.out]; exact leafOf_len s ev
  have hLf : Hid (∀ w', Below w.heap.size w w' → Calls Tryd.prog 36 #[.int .i64 s, .slice A k c] w' fun e w'' => e = .returned (.agg (cells8 lf).toArray) ∧ Below w'.heap.size w' w'') := fun w' hb => by
    have := refleaf_any ev k hk A c s w' hs63 (by omega) (hr.below hb) hkc hnil
    rw [← hlf.out]
    exact this
  obtain ⟨m, hm⟩ : ∃ m, ts.length = m := ⟨_, rfl⟩
  have hIn : Hid (∀ w', Below w.heap.size w w' → Calls Tryd.prog 58 #[.int .i64 s, .int .i64 x1, .int .i64 x2, .agg (cells8 lf).toArray, .slice A2 n c2] w' fun e w'' => ∃ A0 c0, e = .returned (.tuple #[.agg (cells8 x).toArray, .slice A0 m c0, .int .i64 kk]) ∧ (A0 = none → m = 0 ∧ c0 = 0) ∧ TxP w'' A0 m ts ∧ Below w'.heap.size w' w'') := fun w' hb => by
    have := refincl_any s hs63 x1 x2 lf hlfl.out ds A2 n c2 hn40 w' (hrd.below hb)
    rw [← hlf.out, hX] at this
    rw [← hlf.out]
    refine this.mono ?_
    rintro e w'' ⟨v, xs, r, gc, rfl, ho, hx, hb⟩
    obtain ⟨A0, c0, rfl, hn0, hT⟩ := TxP.mk_ ho hx hxt.2
    dsimp only at *
    rw [hm] at hn0 hT
    exact ⟨A0, c0, by rw [hm], hn0, hT, hb⟩
  have hTe : Hid (∀ w', Below w.heap.size w w' → Calls Tryd.prog 59 #[.int .i64 0, .slice (some ⟨w'.heap.size, 0, none⟩) 1 1] (w'.alloc (.cells #[.slice A k c] 24)) fun e w'' => ∃ A5 c5, e = .returned (.slice A5 (k + 1) c5) ∧ k + 1 ≤ c5 ∧ (A5 = none → k + 1 = 0 ∧ c5 = 0) ∧ Reads w'' 1 A5 (k + 1) (cells8 (kb 0 :: ev)) ∧ Below w'.heap.size w' w'') := fun w' hb => by
    have := refText_any [ev] 1 rfl (some ⟨w'.heap.size, 0, none⟩) 1 0 (w'.alloc (.cells #[.slice A k c] 24)) (by simp; omega) (by decide) (one_piece (hr.below hb) hk hkc hnil)
    refine this.mono ?_
    rintro e w'' ⟨v, rfl, ho, hb2⟩
    rw [show 1 + [ev].flatten.length = k + 1 by simp [hk]; omega, show kb 0 :: [ev].flatten = kb 0 :: ev by simp] at ho
    obtain ⟨A5, c5, rfl, h1, h2, h3, -⟩ := Own.own_reads ho
    exact ⟨A5, c5, rfl, h1, h2, h3, (Below.heap_below w' _).trans (hb2.mono (by simp))⟩
  have hm300 : Hid (m < 1099511627776) := by show _ < _; omega
  have hk1h : Hid ((kb 0 :: ev).length = k + 1) := by show _ = _; simp [hk]
  rw [hm]
  replace hm := Lib.hid hm
  clear hs63 hk hk47 hkc hnil hn40 hr hrd hX hxl hxt
  go_enter Tryd.func18, Tryd.ntmps18
  go_wp2_with fail
  change Code.wp _ _ _ _ (w.alloc (.cells #[Value.int .i64 x1, Value.int .i64 x2, Value.slice A2 n c2] 27))
  rw [← hW.out]
  clear hW
  go_cut [7, 8, 9] from 10 to 24 (fun v tv u wr => ∃ (mb : Nat) (A0 : Option Addr) (c0 : Nat), v = .pointer (some ⟨mb, 0, none⟩) ∧ tv = .slice A0 m c0 ∧ u = .int .i64 kk ∧ Hid (A0 = none → m = 0 ∧ c0 = 0) ∧ Hid (TxP wr A0 m ts) ∧ Hid (Below W.heap.size W wr))
  case first =>
    have s0 : Hid (Below W.heap.size W W.drew) := (Below.refl _ _).drew
    refine held_start (fun w' => Below W.heap.size W w') 19 rfl (by kernel_rfl) ?_
    refine held_take (i := 0) (v := .int .i64 s) rfl (by kernel_rfl) (by kernel_rfl) (by kernel_rfl) (fun _ _ _ h => h) s0.out (by rfl) (fun w' hw' => run_mv (.tmp 0) rfl w') ?_
    (intro K hK; go_simp; refine hK _ ?_; clear hK K)
    refine held_take (i := 1) (v := .pointer (some ⟨w.heap.size, 0, none⟩)) rfl (by kernel_rfl) (by kernel_rfl) (by kernel_rfl) (fun _ _ _ h => h) s0.out (by rfl) (fun w' hw' => by go_simp) ?_
    (intro K hK; go_simp; refine hK _ ?_; clear hK K)
    refine held_take (i := 2) (v := .int .i64 x1) rfl (by kernel_rfl) (by kernel_rfl) (by kernel_rfl) (fun _ _ _ h => h) s0.out (by rfl) (fun w' hw' => by have h := (Blk.onw hP1.out hw').cell 0; go_simp) ?_
    (intro K hK; go_simp; refine hK _ ?_; clear hK K)
    refine held_take (i := 3) (v := .pointer (some ⟨w.heap.size, 1, none⟩)) rfl (by kernel_rfl) (by kernel_rfl) (by kernel_rfl) (fun _ _ _ h => h) s0.out (by rfl) (fun w' hw' => by go_simp) ?_
    (intro K hK; go_simp; refine hK _ ?_; clear hK K)
    refine held_take (i := 4) (v := .int .i64 x2) rfl (by kernel_rfl) (by kernel_rfl) (by kernel_rfl) (fun _ _ _ h => h) s0.out (by rfl) (fun w' hw' => by have h := (Blk.onw hP1.out hw').cell 1; go_simp) ?_
    (intro K hK; go_simp; refine hK _ ?_; clear hK K)
    refine held_take (i := 5) (v := .int .i64 s) rfl (by kernel_rfl) (by kernel_rfl) (by kernel_rfl) (fun _ _ _ h => h) s0.out (by rfl) (fun w' hw' => run_mv (.tmp 0) rfl w') ?_
    (intro K hK; go_simp; refine hK _ ?_; clear hK K)
    refine held_take (i := 6) (v := .slice A k c) rfl (by kernel_rfl) (by kernel_rfl) (by kernel_rfl) (fun _ _ _ h => h) s0.out (by rfl) (fun w' hw' => run_mv (.tmp 1) rfl w') ?_
    (intro K hK; go_simp; refine hK _ ?_; clear hK K)
    refine held_take (i := 8) (v := .pointer (some ⟨w.heap.size, 2, none⟩)) rfl (by kernel_rfl) (by kernel_rfl) (by kernel_rfl) (fun _ _ _ h => h) s0.out (by rfl) (fun w' hw' => by go_simp) ?_
    (intro K hK; go_simp; refine hK _ ?_; clear hK K)
    refine held_take (i := 9) (v := .slice A2 n c2) rfl (by kernel_rfl) (by kernel_rfl) (by kernel_rfl) (fun _ _ _ h => h) s0.out (by rfl) (fun w' hw' => by have h := (Blk.onw hP1.out hw').cell 2; go_simp) ?_
    (intro K hK; go_simp; refine hK _ ?_; clear hK K)
    refine held_two (i := 7) (j := 15) rfl rfl (by kernel_rfl) (by rfl) (by rfl) (fun K hK => ?_) (fun K hK => ?_)
    · refine wp_fn (R := fun v w'' => v = .agg (cells8 lf).toArray ∧ Below W.heap.size W w'' ∧ Below (W.drew).heap.size (W.drew) w'') (args := #[.int .i64 s, .slice A k c]) _ _ rfl rfl Tryd.func36 (by kernel_rfl) (by kernel_rfl) ((hLf.out _ (hb1.out.trans ((s0.out).mono hb1.out.size))).mono fun e w'' ⟨he, hb⟩ => ⟨_, he, rfl, s0.out.trans (hb.mono s0.out.size), hb⟩) ?_
      rintro qq w5 ⟨rfl, h5, kk1⟩
      replace h5 := Lib.hid h5
      replace kk1 := Lib.hid kk1
      clear kk1
      go_simp
      refine hK _ _ h5.out ?_
      clear hK K
      refine held_two (i := 10) (j := 15) rfl rfl (by kernel_rfl) (by rfl) (by rfl) (fun K hK => ?_) (fun K hK => ?_)
      · refine wp_fn (R := fun v w'' => ∃ A0 c0, v = .tuple #[.agg (cells8 x).toArray, .slice A0 m c0, .int .i64 kk] ∧ (A0 = none → m = 0 ∧ c0 = 0) ∧ TxP w'' A0 m ts ∧ Below W.heap.size W w'' ∧ Below (w5).heap.size (w5) w'') (args := #[.int .i64 s, .int .i64 x1, .int .i64 x2, .agg (cells8 lf).toArray, .slice A2 n c2]) _ _ rfl rfl Tryd.func58 (by kernel_rfl) (by kernel_rfl) ((hIn.out _ (hb1.out.trans ((h5.out).mono hb1.out.size))).mono fun e w'' ⟨A0, c0, he, hn0, hT, hb⟩ => ⟨_, he, A0, c0, rfl, hn0, hT, h5.out.trans (hb.mono h5.out.size), hb⟩) ?_
        rintro qq w6 ⟨A0, c0, rfl, hn0, hT, h6, kk1⟩
        replace h6 := Lib.hid h6
        replace kk1 := Lib.hid kk1
        replace hn0 := Lib.hid hn0
        replace hT := Lib.hid hT
        clear kk1
        go_simp
        refine hK _ _ h6.out ?_
        clear hK K
        refine held_take (i := 11) (v := .tuple #[.agg (cells8 x).toArray, .slice A0 m c0, .int .i64 kk]) rfl (by kernel_rfl) (by kernel_rfl) (by kernel_rfl) (fun _ _ _ h => h) h6.out (by rfl) (fun w' hw' => run_mv (.tmp 21) rfl w') ?_
        (intro K hK; go_simp; refine hK _ ?_; clear hK K)
        refine held_take (i := 12) (v := .agg (cells8 x).toArray) rfl (by kernel_rfl) (by kernel_rfl) (by kernel_rfl) (fun _ _ _ h => h) h6.out (by rfl) (fun w' hw' => by go_simp) ?_
        (intro K hK; go_simp; refine hK _ ?_; clear hK K)
        refine held_take (i := 13) (v := .slice A0 m c0) rfl (by kernel_rfl) (by kernel_rfl) (by kernel_rfl) (fun _ _ _ h => h) h6.out (by rfl) (fun w' hw' => by go_simp) ?_
        (intro K hK; go_simp; refine hK _ ?_; clear hK K)
        refine held_take (i := 14) (v := .int .i64 kk) rfl (by kernel_rfl) (by kernel_rfl) (by kernel_rfl) (fun _ _ _ h => h) h6.out (by rfl) (fun w' hw' => by go_simp) ?_
        (intro K hK; go_simp; refine hK _ ?_; clear hK K)
        refine held_only (i := 15) rfl (by kernel_rfl) (by rfl) (fun K hK => ?_)
        have h7 := Lib.hid (h6.out.alloc h6.out.size (.cells Z32 23))
        have bb : Hid (Blk (w6.alloc (.cells Z32 23)) w6.heap.size 23 Z32) := Blk.new _ _ _
        replace hT := Lib.hid (hT.out.below (Below.heap_below _ (.cells Z32 23)))
        go_simp
        refine hK _ _ h7.out ?_
        clear hK K
        refine held_only (i := 16) rfl (by kernel_rfl) (by rfl) (fun K hK => ?_)
        refine wp_store_whole 23 (.tmp 7) (.tmp 22) rfl (w6.heap.size) ((cells8 x).toArray) rfl rfl 23 (Z32) (bb.out) F.out.size F.out.zero F.out.one ?_
        intro w99 B9 k9
        have b9 : Hid (Below W.heap.size W w99) := h7.out.trans (Kept.below_of k9 (h6.out.size) h7.out.size)
        replace hT := Lib.hid (hT.out.keptN bb.out k9)
        go_simp
        refine hK _ _ b9.out ?_
        clear hK K
        refine held_take (i := 17) (v := .slice A0 m c0) rfl (by kernel_rfl) (by kernel_rfl) (by kernel_rfl) (fun _ _ _ h => h) b9.out (by rfl) (fun w' hw' => by first | go_simp | rfl) ?_
        (intro K hK; go_simp; refine hK _ ?_; clear hK K)
        refine held_take (i := 18) (v := .int .i64 kk) rfl (by kernel_rfl) (by kernel_rfl) (by kernel_rfl) (fun _ _ _ h => h) b9.out (by rfl) (fun w' hw' => by first | go_simp | rfl) ?_
        (intro K hK; go_simp; refine hK _ ?_; clear hK K)
        refine held_end (by kernel_rfl) ?_
        go_wp2_with fail
        go_meet
        case rel => exact ⟨_, _, _, rfl, rfl, rfl, hn0.out, hT.out, b9.out⟩
      · have h6 := Lib.hid (h5.out.alloc h5.out.size (.cells Z32 23))
        have bb : Hid (Blk (w5.alloc (.cells Z32 23)) w5.heap.size 23 Z32) := Blk.new _ _ _
        go_simp
        refine hK _ _ h6.out ?_
        clear hK K
        refine held_only (i := 10) rfl (by kernel_rfl) (by rfl) (fun K hK => ?_)
        refine wp_fn (R := fun v w'' => ∃ A0 c0, v = .tuple #[.agg (cells8 x).toArray, .slice A0 m c0, .int .i64 kk] ∧ (A0 = none → m = 0 ∧ c0 = 0) ∧ TxP w'' A0 m ts ∧ Below W.heap.size W w'' ∧ Below ((w5.alloc (.cells Z32 23))).heap.size ((w5.alloc (.cells Z32 23))) w'') (args := #[.int .i64 s, .int .i64 x1, .int .i64 x2, .agg (cells8 lf).toArray, .slice A2 n c2]) _ _ rfl rfl Tryd.func58 (by kernel_rfl) (by kernel_rfl) ((hIn.out _ (hb1.out.trans ((h6.out).mono hb1.out.size))).mono fun e w'' ⟨A0, c0, he, hn0, hT, hb⟩ => ⟨_, he, A0, c0, rfl, hn0, hT, h6.out.trans (hb.mono h6.out.size), hb⟩) ?_
        rintro qq w7 ⟨A0, c0, rfl, hn0, hT, h7, kk1⟩
        replace h7 := Lib.hid h7
        replace kk1 := Lib.hid kk1
        replace hn0 := Lib.hid hn0
        replace hT := Lib.hid hT
        replace bb := Lib.hid ((kk1.out.block _ (Blk.lt bb.out)).trans bb.out)
        clear kk1
        go_simp
        refine hK _ _ h7.out ?_
        clear hK K
        refine held_take (i := 11) (v := .tuple #[.agg (cells8 x).toArray, .slice A0 m c0, .int .i64 kk]) rfl (by kernel_rfl) (by kernel_rfl) (by kernel_rfl) (fun _ _ _ h => h) h7.out (by rfl) (fun w' hw' => run_mv (.tmp 21) rfl w') ?_
        (intro K hK; go_simp; refine hK _ ?_; clear hK K)
        refine held_take (i := 12) (v := .agg (cells8 x).toArray) rfl (by kernel_rfl) (by kernel_rfl) (by kernel_rfl) (fun _ _ _ h => h) h7.out (by rfl) (fun w' hw' => by go_simp) ?_
        (intro K hK; go_simp; refine hK _ ?_; clear hK K)
        refine held_take (i := 13) (v := .slice A0 m c0) rfl (by kernel_rfl) (by kernel_rfl) (by kernel_rfl) (fun _ _ _ h => h) h7.out (by rfl) (fun w' hw' => by go_simp) ?_
        (intro K hK; go_simp; refine hK _ ?_; clear hK K)
        refine held_take (i := 14) (v := .int .i64 kk) rfl (by kernel_rfl) (by kernel_rfl) (by kernel_rfl) (fun _ _ _ h => h) h7.out (by rfl) (fun w' hw' => by go_simp) ?_
        (intro K hK; go_simp; refine hK _ ?_; clear hK K)
        refine held_only (i := 16) rfl (by kernel_rfl) (by rfl) (fun K hK => ?_)
        refine wp_store_whole 23 (.tmp 7) (.tmp 22) rfl (w5.heap.size) ((cells8 x).toArray) rfl rfl 23 (Z32) (bb.out) F.out.size F.out.zero F.out.one ?_
        intro w99 B9 k9
        have b9 : Hid (Below W.heap.size W w99) := h7.out.trans (Kept.below_of k9 (h5.out.size) h7.out.size)
        replace hT := Lib.hid (hT.out.keptN bb.out k9)
        go_simp
        refine hK _ _ b9.out ?_
        clear hK K
        refine held_take (i := 17) (v := .slice A0 m c0) rfl (by kernel_rfl) (by kernel_rfl) (by kernel_rfl) (fun _ _ _ h => h) b9.out (by rfl) (fun w' hw' => by first | go_simp | rfl) ?_
        (intro K hK; go_simp; refine hK _ ?_; clear hK K)
        refine held_take (i := 18) (v := .int .i64 kk) rfl (by kernel_rfl) (by kernel_rfl) (by kernel_rfl) (fun _ _ _ h => h) b9.out (by rfl) (fun w' hw' => by first | go_simp | rfl) ?_
        (intro K hK; go_simp; refine hK _ ?_; clear hK K)
        refine held_end (by kernel_rfl) ?_
        go_wp2_with fail
        go_meet
        case rel => exact ⟨_, _, _, rfl, rfl, rfl, hn0.out, hT.out, b9.out⟩
    · have h5 := Lib.hid (s0.out.alloc s0.out.size (.cells Z32 23))
      have bb : Hid (Blk (W.drew.alloc (.cells Z32 23)) W.heap.size 23 Z32) := Blk.new _ _ _
      go_simp
      refine hK _ _ h5.out ?_
      clear hK K
      refine held_only (i := 7) rfl (by kernel_rfl) (by rfl) (fun K hK => ?_)
      refine wp_fn (R := fun v w'' => v = .agg (cells8 lf).toArray ∧ Below W.heap.size W w'' ∧ Below ((W.drew.alloc (.cells Z32 23))).heap.size ((W.drew.alloc (.cells Z32 23))) w'') (args := #[.int .i64 s, .slice A k c]) _ _ rfl rfl Tryd.func36 (by kernel_rfl) (by kernel_rfl) ((hLf.out _ (hb1.out.trans ((h5.out).mono hb1.out.size))).mono fun e w'' ⟨he, hb⟩ => ⟨_, he, rfl, h5.out.trans (hb.mono h5.out.size), hb⟩) ?_
      rintro qq w6 ⟨rfl, h6, kk1⟩
      replace h6 := Lib.hid h6
      replace kk1 := Lib.hid kk1
      replace bb := Lib.hid ((kk1.out.block _ (Blk.lt bb.out)).trans bb.out)
      clear kk1
      go_simp
      refine hK _ _ h6.out ?_
      clear hK K
      refine held_only (i := 10) rfl (by kernel_rfl) (by rfl) (fun K hK => ?_)
      refine wp_fn (R := fun v w'' => ∃ A0 c0, v = .tuple #[.agg (cells8 x).toArray, .slice A0 m c0, .int .i64 kk] ∧ (A0 = none → m = 0 ∧ c0 = 0) ∧ TxP w'' A0 m ts ∧ Below W.heap.size W w'' ∧ Below (w6).heap.size (w6) w'') (args := #[.int .i64 s, .int .i64 x1, .int .i64 x2, .agg (cells8 lf).toArray, .slice A2 n c2]) _ _ rfl rfl Tryd.func58 (by kernel_rfl) (by kernel_rfl) ((hIn.out _ (hb1.out.trans ((h6.out).mono hb1.out.size))).mono fun e w'' ⟨A0, c0, he, hn0, hT, hb⟩ => ⟨_, he, A0, c0, rfl, hn0, hT, h6.out.trans (hb.mono h6.out.size), hb⟩) ?_
      rintro qq w7 ⟨A0, c0, rfl, hn0, hT, h7, kk1⟩
      replace h7 := Lib.hid h7
      replace kk1 := Lib.hid kk1
      replace hn0 := Lib.hid hn0
      replace hT := Lib.hid hT
      replace bb := Lib.hid ((kk1.out.block _ (Blk.lt bb.out)).trans bb.out)
      clear kk1
      go_simp
      refine hK _ _ h7.out ?_
      clear hK K
      refine held_take (i := 11) (v := .tuple #[.agg (cells8 x).toArray, .slice A0 m c0, .int .i64 kk]) rfl (by kernel_rfl) (by kernel_rfl) (by kernel_rfl) (fun _ _ _ h => h) h7.out (by rfl) (fun w' hw' => run_mv (.tmp 21) rfl w') ?_
      (intro K hK; go_simp; refine hK _ ?_; clear hK K)
      refine held_take (i := 12) (v := .agg (cells8 x).toArray) rfl (by kernel_rfl) (by kernel_rfl) (by kernel_rfl) (fun _ _ _ h => h) h7.out (by rfl) (fun w' hw' => by go_simp) ?_
      (intro K hK; go_simp; refine hK _ ?_; clear hK K)
      refine held_take (i := 13) (v := .slice A0 m c0) rfl (by kernel_rfl) (by kernel_rfl) (by kernel_rfl) (fun _ _ _ h => h) h7.out (by rfl) (fun w' hw' => by go_simp) ?_
      (intro K hK; go_simp; refine hK _ ?_; clear hK K)
      refine held_take (i := 14) (v := .int .i64 kk) rfl (by kernel_rfl) (by kernel_rfl) (by kernel_rfl) (fun _ _ _ h => h) h7.out (by rfl) (fun w' hw' => by go_simp) ?_
      (intro K hK; go_simp; refine hK _ ?_; clear hK K)
      refine held_only (i := 16) rfl (by kernel_rfl) (by rfl) (fun K hK => ?_)
      refine wp_store_whole 23 (.tmp 7) (.tmp 22) rfl (W.heap.size) ((cells8 x).toArray) rfl rfl 23 (Z32) (bb.out) F.out.size F.out.zero F.out.one ?_
      intro w99 B9 k9
      have b9 : Hid (Below W.heap.size W w99) := h7.out.trans (Kept.below_of k9 (s0.out.size) h7.out.size)
      replace hT := Lib.hid (hT.out.keptN bb.out k9)
      go_simp
      refine hK _ _ b9.out ?_
      clear hK K
      refine held_take (i := 17) (v := .slice A0 m c0) rfl (by kernel_rfl) (by kernel_rfl) (by kernel_rfl) (fun _ _ _ h => h) b9.out (by rfl) (fun w' hw' => by first | go_simp | rfl) ?_
      (intro K hK; go_simp; refine hK _ ?_; clear hK K)
      refine held_take (i := 18) (v := .int .i64 kk) rfl (by kernel_rfl) (by kernel_rfl) (by kernel_rfl) (fun _ _ _ h => h) b9.out (by rfl) (fun w' hw' => by first | go_simp | rfl) ?_
      (intro K hK; go_simp; refine hK _ ?_; clear hK K)
      refine held_end (by kernel_rfl) ?_
      go_wp2_with fail
      go_meet
      case rel => exact ⟨_, _, _, rfl, rfl, rfl, hn0.out, hT.out, b9.out⟩
  case rest =>
    obtain ⟨mb, A0, c0, rfl, rfl, rfl, hn0, hT, hk4⟩ := hcut
    have hb4 : Hid (Below w.heap.size w wc) := hb1.out.trans (hk4.out.mono hb1.out.size)
    clear hk4
    go_wp2_with fail
    refine (hTe.out wc hb4.out).mono ?_
    rintro e w5 ⟨A5, c5, rfl, hc5, hn5, hr5, hk5⟩
    have hb5 : Hid (Below w.heap.size w w5) := hb4.out.trans (hk5.mono hb4.out.size)
    have hT5 := hT.out.below hk5
    obtain ⟨xs, hxn, hxr, hx3⟩ := hT5
    have hO : Hid ((w5.alloc (.cells #[.slice A5 (k + 1) c5] 24)).ownsRow w5.heap.size 24 1 (.slice (some ⟨w5.heap.size, 0, none⟩) 1 1) 1 [.slice A5 (k + 1) c5]) := owns_new _ _ _
    have hx1 : Hid (∀ u ∈ xs, u.oneCell' = true) := fun u hu => by
      obtain ⟨i, hi, rfl⟩ := List.getElem_of_mem hu
      have hl : xs.length = m := by simpa using hxr.1
      obtain ⟨q, hq⟩ : ∃ q, ts[i]? = some q := ⟨_, List.getElem?_eq_getElem (by omega)⟩
      obtain ⟨-, g, cq, a1, -⟩ := hx3 i q hq
      rw [List.getElem?_eq_getElem hi] at a1
      rw [Option.some.inj a1]
      rfl
    have hS : Hid (Reads (w5.alloc (.cells #[.slice A5 (k + 1) c5] 24)) 1 A0 m xs) := hxr.alloc _
    have hm1 : Hid (1 + m ≤ maxLen) := by have := hm300.out; show _ ≤ _; unfold maxLen; omega
    have hm2 : Hid ((1 + m) * 24 ≤ 140737488355328) := by have := hm300.out; show _ ≤ _; omega
    have hs6 : Hid (w5.heap.size ≤ (w5.alloc (.cells #[.slice A5 (k + 1) c5] 24)).heap.size) := by show _ ≤ _; simp
    replace hr5 := Lib.hid hr5
    replace hx3 := Lib.hid hx3
    replace hn5 := Lib.hid hn5
    replace hc5 := Lib.hid hc5
    clear hk5 hxr hT
    go_wp2_with ((with_reducible change wpList _ _ _ ({ dst := some 30, op := _, type := _, pos := _, after := _, guard := _ } :: _) _ _); refine wpList_append_src _ (o := ⟨some 30, _, _, _, _, _⟩) rfl (.tmp 28) (.tmp 29) 35 rfl w5.heap.size 24 i0 (.slice none 0 0) 1 24 Tryd.underlying35 ii iz0 iz1 iz2 rfl (by decide) (.slice (some ⟨w5.heap.size, 0, none⟩) 1 1) 1 [.slice A5 (k + 1) c5] rfl hO.out A0 m c0 xs rfl hS.out hn0.out hx1.out hm1.out hm2.out hs6.out ?_; intro v6 w6 hG; obtain ⟨A6, c6, rfl, -⟩ := Append.Own.reads hG.own; replace hG := Lib.hid hG)
    go_ret
    have hk6 : Kept (· = w5.heap.size) (w5.alloc (.cells #[.slice A5 (k + 1) c5] 24)) w6 := hG.out.kept (Kept.refl _ _) (fun k e => by injection e with e; exact .inl e.symm)
    have hb6 : Below w.heap.size w w6 := hb5.out.trans ((kept_fresh hk6).mono hb5.out.size)
    obtain ⟨A7, c7, e7, hc7, hp⟩ := cons_pieces (w := w5.alloc (.cells #[.slice A5 (k + 1) c5] 24)) (w' := w6) (q := kb 0 :: ev) (ts := ts) (A5 := A5) (c5 := c5) (m := w5.heap.size) (fun i q hq => by
      obtain ⟨hl, g, cq, a1, a2, a3⟩ := hx3.out i q hq
      exact ⟨hl, g, cq, a1, a2, a3.alloc _⟩) hm.out (by rw [hk1h.out]; exact hr5.out.alloc _) (by rw [hk1h.out]; exact hc5.out) (by rw [hk1h.out]; exact hn5.out) (by rw [hk1h.out]; exact hG.out.own) hk6 (fun b o e => by
        obtain ⟨b', o', e', hlt, -⟩ := hr5.out.at_ (by omega)
        rw [e] at e'
        injection e' with e'
        injection e' with e1 e2
        omega) (fun i p g cq hp a1 => by
        obtain ⟨hl, g', cq', b1, b2, b3⟩ := hx3.out i p hp
        rw [b1] at a1
        have a1 := Option.some.inj a1
        injection a1 with a1
        injection a1 with a1
        injection a1 with e1 e2
        obtain ⟨b', o', e', hlt, -⟩ := b3.at_ (by omega)
        injection e' with e'
        injection e' with e3 e4
        omega)
    injection e7 with e71 e72 e73
    subst e71 e73
    exact ⟨_, _, rfl, hc7, hp, hb6⟩
end Go.Proofs.YtaelcgimgomnnaaDoor.Way20

namespace Go.Proofs.YtaelcgimgomnnaaDoor.AuditNumbers
open Go Go.RowKit Go.Proofs.YtaelcgimgomnnaaDoor Go.Proofs.YtaelcgimgomnnaaDoor.Mem Go.Proofs.YtaelcgimgomnnaaDoor.Sha Go.Proofs.YtaelcgimgomnnaaDoor.Bytes Go.Proofs.YtaelcgimgomnnaaDoor.HashMem Go.Proofs.YtaelcgimgomnnaaDoor.DigestMem Go.Proofs.YtaelcgimgomnnaaDoor.Digest Go.Proofs.YtaelcgimgomnnaaDoor.RefTop Go.Proofs.YtaelcgimgomnnaaDoor.QuietTail Go.Proofs.YtaelcgimgomnnaaDoor.Grown Go.Proofs.YtaelcgimgomnnaaDoor.Chain Go.Proofs.YtaelcgimgomnnaaDoor.TreeMem Go.Proofs.YtaelcgimgomnnaaDoor.TreeRoot Go.Proofs.YtaelcgimgomnnaaDoor.Held Go.Proofs.YtaelcgimgomnnaaDoor.Guard Go.Proofs.YtaelcgimgomnnaaDoor.Climb Go.Proofs.YtaelcgimgomnnaaDoor.Include Go.Proofs.YtaelcgimgomnnaaDoor.InclAny Go.Proofs.YtaelcgimgomnnaaDoor.Ref17 Go.Proofs.YtaelcgimgomnnaaDoor.Book Go.Proofs.YtaelcgimgomnnaaDoor.Book2 Go.Proofs.YtaelcgimgomnnaaDoor.AudIncl Go.Proofs.YtaelcgimgomnnaaDoor.Way20

theorem _root_.Go.Proofs.YtaelcgimgomnnaaDoor.Mem.Kept.below_fresh_ {w w' : World} {g : Nat} {o : Obj} (hg : g = w.heap.size) (hk : Kept (· = g) (w.alloc o) w') : Below w.heap.size w w' := by subst hg; exact kept_fresh hk
def ev : Text := [5, 7]
def no : Text := List.replicate 32 0
theorem num_incl : audIncl 32 (leafOf 32 ev) ev 1 0 [] = 0 := by
  have hw : inclWant 1 0 [] = some (ProofEnc.inclBytes (1 : Int).toNat (0 : Int).toNat []) := by
    unfold inclWant
    rw [if_pos ⟨by decide, by decide⟩]
  rw [audIncl_in hw (by decide) (by decide) rfl]
  refine if_pos ?_
  unfold inclOf
  rw [if_neg (by decide), if_neg (by decide)]
  show (climbN 32 (leafOf 32 ev, []) ((Sides.sides (Int.toNat 1) (Int.toNat 0)).zip []) 0).1 = leafOf 32 ev
  rw [climbN_zero]

set_option maxRecDepth 100000 in
set_option maxHeartbeats 2000000 in
theorem auditNumbers_any (w : World) (hB : Base w) :
    Calls Tryd.prog 8 #[] w fun e w' => e = .returned (.bool true) ∧ Below w.heap.size w w' := by
  have hBs := Lib.hid (fun w' (hb : Below w.heap.size w w') => hB.below hb hB.1)
  obtain ⟨W, hW⟩ : ∃ W, Hid (W = w.alloc (.cells #[.int .u8 5, .int .u8 7] 5)) := ⟨_, rfl⟩
  have hb1 : Hid (Below w.heap.size w W) := by show Below _ _ _; rw [hW.out]; exact Below.heap_below w _
  have hE1 : Hid (Reads W 1 (some ⟨w.heap.size, 0, none⟩) 2 (cells8 ev)) := by
    show Reads _ _ _ _ _
    rw [hW.out]
    exact Blk.reads (Blk.new w 5 #[.int .u8 5, .int .u8 7]) 0 (cells8 ev) rfl (fun j u hu => by
      rw [Nat.zero_add]
      match j, hu with
      | 0, hu => exact hu
      | 1, hu => exact hu
      | j + 2, hu => simp [ev, cells8] at hu)
  obtain ⟨lf, hlf⟩ : ∃ lf, Hid (leafOf 32 ev = lf) := ⟨_, Lib.hid rfl⟩
  have hlfl : Hid (lf.length = 32) := by show _ = _; rw [← hlf.out]; exact leafOf_len _ _
  obtain ⟨lk, hlk⟩ : ∃ lk, Hid (linkOf 32 no lf = lk) := ⟨_, Lib.hid rfl⟩
  have hlkl : Hid (lk.length = 32) := by show _ = _; rw [← hlk.out]; exact linkOf_len _ _ _
  have hLf : Hid (∀ w', Reads w' 1 (some ⟨w.heap.size, 0, none⟩) 2 (cells8 ev) → Calls Tryd.prog 36 #[.int .i64 32, .slice (some ⟨w.heap.size, 0, none⟩) 2 2] w' fun e w'' => e = .returned (.agg (cells8 lf).toArray) ∧ Below w'.heap.size w' w'') := fun w' h => by
    rw [← hlf.out]
    exact refleaf_any ev 2 rfl (some ⟨w.heap.size, 0, none⟩) 2 32 w' (by decide) (by decide) h (Nat.le_refl _) (fun e => by cases e)
  have hLk : Hid (∀ w', Calls Tryd.prog 35 #[.int .i64 32, .agg Z32, .agg (cells8 lf).toArray] w' fun e w'' => e = .returned (.agg (cells8 lk).toArray) ∧ Below w'.heap.size w' w'') := fun w' => by
    have := reflink_any no lf rfl hlfl.out 32 w' (by decide)
    rw [show (cells8 no).toArray = Z32 from zero32] at this
    rw [← hlk.out]
    exact this
  have hCh : Hid (∀ w' A c, Below w.heap.size w w' → Pieces w' A [ev] → Calls Tryd.prog 34 #[.int .i64 32, .agg Z32, .slice A 1 c] w' fun e w'' => e = .returned (.agg (cells8 lk).toArray) ∧ Below w'.heap.size w' w'') := fun w' A c hb hp => by
    have := chain_any 32 no rfl [ev] 1 rfl (by decide) A c w' (hBs.out w' hb) hp (fun q hq => by simp only [List.mem_singleton] at hq; rw [hq]; decide)
    rw [show (cells8 no).toArray = Z32 from zero32] at this
    rw [show chainOf 32 no [ev] = linkOf 32 no (leafOf 32 ev) from (by unfold chainOf; rw [List.foldl_cons, List.foldl_nil]), hlf.out, hlk.out] at this
    exact this
  have hIn : Hid (∀ w', Below w.heap.size w w' → Reads w' 1 (some ⟨w.heap.size, 0, none⟩) 2 (cells8 ev) → Calls Tryd.prog 16 #[.int .i64 32, .agg (cells8 lf).toArray, .slice (some ⟨w.heap.size, 0, none⟩) 2 2, .agg #[.int .i64 1, .int .i64 0, .slice none 0 0]] w' fun e w'' => e = .returned (.int .i64 0) ∧ Below w'.heap.size w' w'') := fun w' hb h => by
    have := audIncl_any 32 lf hlfl.out ev 2 rfl (by decide) (some ⟨w.heap.size, 0, none⟩) 2 (Nat.le_refl _) (fun e => by cases e) 1 0 [] none 0 0 (by decide) w' (hBs.out w' hb) h (RdD.nil_ _ _)
    rw [← hlf.out] at this
    rw [num_incl] at this
    rw [← hlf.out]
    exact this
  have q1 := neq_yes (x := lk) hlkl.out
  have q2 : ((0 : Int) == 0) = true := rfl
  have zz : Hid ((Tryd.prog.info? 23).map (·.size) = some (Z32 : Array Value).size) := by show _ = _; kernel_rfl
  clear hB
  go_enter Tryd.func8, Tryd.ntmps8
  go_wp2_with ((with_reducible change wpList _ _ _ ({ dst := none, op := Op.store 23 (.tmp 2) _, type := _, pos := _, after := _, guard := _ } :: _) _ _); refine wpList_store_whole (o := ⟨none, _, _, _, _, _⟩) rfl 23 (.tmp 2) (.tmp 4) rfl (w.heap.size + 1) (Z32) rfl rfl 23 (Z32) (heap_alloc2_new w _ _) zz.out rfl (by kernel_rfl) ?_; intro w2 hB2 hk2; rw [← hW.out] at hk2; have hgW : w.heap.size + 1 = W.heap.size := (by rw [hW.out]; simp); have hk1 := Lib.hid (Kept.below_fresh_ hgW hk2); have hb2 : Hid (Below w.heap.size w w2) := hb1.out.trans (hk1.out.mono hb1.out.size); have hE2 : Hid (Reads w2 1 (some ⟨w.heap.size, 0, none⟩) 2 (cells8 ev)) := hE1.out.below hk1.out; replace hB2 := Lib.hid hB2; clear hk1 hk2 hgW hb1 hE1 hW)
  have s0 : Hid (Below w2.heap.size w2 w2.drew) := (Below.refl _ _).drew
  refine held_start (fun w' => Below w2.heap.size w2 w') 18 rfl (by kernel_rfl) ?_
  refine held_take (i := 0) (v := .agg (Z32)) rfl (by kernel_rfl) (by kernel_rfl) (by kernel_rfl) (fun _ _ _ h => h) s0.out (by rfl) (fun w' hw' => exec_row 23 (.tmp 2) rfl ((w.heap.size + 1)) rfl 23 (Z32) (0, 0) _ ((hw'.block _ hB2.out.lt).trans hB2.out) Tryd.underlying23 rfl zz.out) ?_
  (intro K hK; go_simp; refine hK _ ?_; clear hK K)
  refine held_take (i := 1) (v := .slice (some ⟨w.heap.size, 0, none⟩) 2 2) rfl (by kernel_rfl) (by kernel_rfl) (by kernel_rfl) (fun _ _ _ h => h) s0.out (by rfl) (fun w' hw' => run_mv (.tmp 1) rfl w') ?_
  (intro K hK; go_simp; refine hK _ ?_; clear hK K)
  refine held_take (i := 4) (v := .agg (Z32)) rfl (by kernel_rfl) (by kernel_rfl) (by kernel_rfl) (fun _ _ _ h => h) s0.out (by rfl) (fun w' hw' => exec_row 23 (.tmp 2) rfl ((w.heap.size + 1)) rfl 23 (Z32) (0, 0) _ ((hw'.block _ hB2.out.lt).trans hB2.out) Tryd.underlying23 rfl zz.out) ?_
  (intro K hK; go_simp; refine hK _ ?_; clear hK K)
  refine held_take (i := 5) (v := .slice (some ⟨w.heap.size, 0, none⟩) 2 2) rfl (by kernel_rfl) (by kernel_rfl) (by kernel_rfl) (fun _ _ _ h => h) s0.out (by rfl) (fun w' hw' => run_mv (.tmp 1) rfl w') ?_
  (intro K hK; go_simp; refine hK _ ?_; clear hK K)
  refine held_only (i := 2) rfl (by kernel_rfl) (by rfl) (fun K hK => ?_)
  have h3 : Hid (Below w2.heap.size w2 (w2.drew.alloc (.cells #[.slice (some ⟨w.heap.size, 0, none⟩) 2 2] 24))) := s0.out.alloc s0.out.size _
  have hP3 : Hid (Pieces (w2.drew.alloc (.cells #[.slice (some ⟨w.heap.size, 0, none⟩) 2 2] 24)) (some ⟨w2.heap.size, 0, none⟩) [ev]) := one_piece (w := w2.drew) (hE2.out.below s0.out) rfl (Nat.le_refl _) (fun e => by cases e)
  go_simp
  refine hK _ _ h3.out ?_
  clear hK K
  refine held_only (i := 3) rfl (by kernel_rfl) (by rfl) (fun K hK => ?_)
  refine wp_fn (R := fun v w'' => v = .agg (cells8 lk).toArray ∧ Below w2.heap.size w2 w'') (args := #[.int .i64 32, .agg Z32, .slice (some ⟨w2.heap.size, 0, none⟩) 1 1]) _ _ rfl rfl Tryd.func34 (by kernel_rfl) (by kernel_rfl) ((hCh.out _ _ 1 (hb2.out.trans (h3.out.mono hb2.out.size)) hP3.out).mono fun e w'' ⟨he, hb⟩ => ⟨_, he, rfl, h3.out.trans (hb.mono h3.out.size)⟩) ?_
  rintro qq w5 ⟨rfl, h5⟩
  replace h5 := Lib.hid h5
  go_simp
  refine hK _ _ h5.out ?_
  clear hK K
  refine held_only (i := 6) rfl (by kernel_rfl) (by rfl) (fun K hK => ?_)
  refine wp_fn (R := fun v w'' => v = .agg (cells8 lf).toArray ∧ Below w2.heap.size w2 w'') (args := #[.int .i64 32, .slice (some ⟨w.heap.size, 0, none⟩) 2 2]) _ _ rfl rfl Tryd.func36 (by kernel_rfl) (by kernel_rfl) ((hLf.out _ (hE2.out.below h5.out)).mono fun e w'' ⟨he, hb⟩ => ⟨_, he, rfl, h5.out.trans (hb.mono h5.out.size)⟩) ?_
  rintro qq w6 ⟨rfl, h6⟩
  replace h6 := Lib.hid h6
  go_simp
  refine hK _ _ h6.out ?_
  clear hK K
  refine held_only (i := 7) rfl (by kernel_rfl) (by rfl) (fun K hK => ?_)
  refine wp_fn (R := fun v w'' => v = .agg (cells8 lk).toArray ∧ Below w2.heap.size w2 w'') (args := #[.int .i64 32, .agg Z32, .agg (cells8 lf).toArray]) _ _ rfl rfl Tryd.func35 (by kernel_rfl) (by kernel_rfl) ((hLk.out _).mono fun e w'' ⟨he, hb⟩ => ⟨_, he, rfl, h6.out.trans (hb.mono h6.out.size)⟩) ?_
  rintro qq w7 ⟨rfl, h7⟩
  replace h7 := Lib.hid h7
  go_simp
  refine hK _ _ h7.out ?_
  clear hK K
  refine held_take (i := 8) (v := .bool true) rfl (by kernel_rfl) (by kernel_rfl) (by kernel_rfl) (fun _ _ _ h => h) h7.out (by rfl) (fun w' hw' => by have h := q1 w'; go_simp) ?_
  (intro K hK; go_simp; refine hK _ ?_; clear hK K)
  refine held_take (i := 9) (v := .bool true) rfl (by kernel_rfl) (by kernel_rfl) (by kernel_rfl) (fun _ _ _ h => h) h7.out (by rfl) (fun w' hw' => run_mv (.tmp 13) rfl w') ?_
  (intro K hK; go_simp; refine hK _ ?_; clear hK K)
  refine held_take (i := 10) (v := .slice (some ⟨w.heap.size, 0, none⟩) 2 2) rfl (by kernel_rfl) (by kernel_rfl) (by kernel_rfl) (fun _ _ _ h => h) h7.out (by rfl) (fun w' hw' => run_mv (.tmp 1) rfl w') ?_
  (intro K hK; go_simp; refine hK _ ?_; clear hK K)
  refine held_take (i := 12) (v := .slice (some ⟨w.heap.size, 0, none⟩) 2 2) rfl (by kernel_rfl) (by kernel_rfl) (by kernel_rfl) (fun _ _ _ h => h) h7.out (by rfl) (fun w' hw' => run_mv (.tmp 1) rfl w') ?_
  (intro K hK; go_simp; refine hK _ ?_; clear hK K)
  refine held_take (i := 13) (v := .agg #[.int .i64 1, .int .i64 0, .slice none 0 0]) rfl (by kernel_rfl) (by kernel_rfl) (by kernel_rfl) (fun _ _ _ h => h) h7.out (by rfl) (fun w' hw' => by go_simp) ?_
  (intro K hK; go_simp; refine hK _ ?_; clear hK K)
  refine held_only (i := 11) rfl (by kernel_rfl) (by rfl) (fun K hK => ?_)
  refine wp_fn (R := fun v w'' => v = .agg (cells8 lf).toArray ∧ Below w2.heap.size w2 w'') (args := #[.int .i64 32, .slice (some ⟨w.heap.size, 0, none⟩) 2 2]) _ _ rfl rfl Tryd.func36 (by kernel_rfl) (by kernel_rfl) ((hLf.out _ (hE2.out.below h7.out)).mono fun e w'' ⟨he, hb⟩ => ⟨_, he, rfl, h7.out.trans (hb.mono h7.out.size)⟩) ?_
  rintro qq w8 ⟨rfl, h8⟩
  replace h8 := Lib.hid h8
  go_simp
  refine hK _ _ h8.out ?_
  clear hK K
  refine held_only (i := 14) rfl (by kernel_rfl) (by rfl) (fun K hK => ?_)
  refine wp_fn (R := fun v w'' => v = .int .i64 0 ∧ Below w2.heap.size w2 w'') (args := #[.int .i64 32, .agg (cells8 lf).toArray, .slice (some ⟨w.heap.size, 0, none⟩) 2 2, .agg #[.int .i64 1, .int .i64 0, .slice none 0 0]]) _ _ rfl rfl Tryd.func16 (by kernel_rfl) (by kernel_rfl) ((hIn.out _ (hb2.out.trans (h8.out.mono hb2.out.size)) (hE2.out.below h8.out)).mono fun e w'' ⟨he, hb⟩ => ⟨_, he, rfl, h8.out.trans (hb.mono h8.out.size)⟩) ?_
  rintro qq w9 ⟨rfl, h9⟩
  replace h9 := Lib.hid h9
  go_simp
  refine hK _ _ h9.out ?_
  clear hK K
  refine held_take (i := 15) (v := .bool true) rfl (by kernel_rfl) (by kernel_rfl) (by kernel_rfl) (fun _ _ _ h => h) h9.out (by rfl) (fun w' hw' => by go_simp) ?_
  (intro K hK; go_simp; refine hK _ ?_; clear hK K)
  refine held_take (i := 16) (v := .bool true) rfl (by kernel_rfl) (by kernel_rfl) (by kernel_rfl) (fun _ _ _ h => h) h9.out (by rfl) (fun w' hw' => by go_simp) ?_
  (intro K hK; go_simp; refine hK _ ?_; clear hK K)
  refine held_take (i := 17) (v := .bool true) rfl (by kernel_rfl) (by kernel_rfl) (by kernel_rfl) (fun _ _ _ h => h) h9.out (by rfl) (fun w' hw' => by first | go_simp | rfl) ?_
  (intro K hK; go_simp; refine hK _ ?_; clear hK K)
  refine held_end (by kernel_rfl) ?_
  have hfin : Hid (Below w.heap.size w w9) := hb2.out.trans (h9.out.mono hb2.out.size)
  go_wp2_with fail
  go_ret
  exact ⟨rfl, hfin.out⟩
end Go.Proofs.YtaelcgimgomnnaaDoor.AuditNumbers
