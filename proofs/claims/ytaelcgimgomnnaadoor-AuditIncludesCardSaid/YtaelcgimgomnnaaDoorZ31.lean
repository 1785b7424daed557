/-
  Texts of the claim, put into one file: Way20, AuditIncludes.
-/
import Derived.Test.YtaelcgimgomnnaaDoorZ30

namespace Go.Proofs.YtaelcgimgomnnaaDoor.Way20
open Go Go.RowKit Go.Proofs.YtaelcgimgomnnaaDoor Go.Proofs.YtaelcgimgomnnaaDoor.Mem Go.Proofs.YtaelcgimgomnnaaDoor.Sha Go.Proofs.YtaelcgimgomnnaaDoor.Bytes Go.Proofs.YtaelcgimgomnnaaDoor.Append Go.Proofs.YtaelcgimgomnnaaDoor.HashMem Go.Proofs.YtaelcgimgomnnaaDoor.DigestMem Go.Proofs.YtaelcgimgomnnaaDoor.Digest Go.Proofs.YtaelcgimgomnnaaDoor.RefCut Go.Proofs.YtaelcgimgomnnaaDoor.RefTop Go.Proofs.YtaelcgimgomnnaaDoor.QuietTail Go.Proofs.YtaelcgimgomnnaaDoor.Grown Go.Proofs.YtaelcgimgomnnaaDoor.Chain Go.Proofs.YtaelcgimgomnnaaDoor.TreeMem Go.Proofs.YtaelcgimgomnnaaDoor.TreeRoot Go.Proofs.YtaelcgimgomnnaaDoor.Held Go.Proofs.YtaelcgimgomnnaaDoor.Guard Go.Proofs.YtaelcgimgomnnaaDoor.Sides Go.Proofs.YtaelcgimgomnnaaDoor.Node Go.Proofs.YtaelcgimgomnnaaDoor.Climb Go.Proofs.YtaelcgimgomnnaaDoor.Incl Go.Proofs.YtaelcgimgomnnaaDoor.Include Go.Proofs.YtaelcgimgomnnaaDoor.Texts Go.Proofs.YtaelcgimgomnnaaDoor.RefIncl0 Go.Proofs.YtaelcgimgomnnaaDoor.RefIncl Go.Proofs.YtaelcgimgomnnaaDoor.Ref17 Go.Proofs.YtaelcgimgomnnaaDoor.Book Go.Proofs.YtaelcgimgomnnaaDoor.Book2 Go.Proofs.YtaelcgimgomnnaaDoor.AudIncl

/-- A row of texts, each longer than a sum. -/
def TxP (w : World) (A : Option Addr) (n : Nat) (ts : List Text) : Prop :=
  ∃ xs, ts.length = n ∧ Reads w 1 A n xs ∧ ∀ (i : Nat) (q : Text), ts[i]? = some q → 32 < q.length ∧ ∃ g c, xs[i]? = some (.slice (some ⟨g, 0, none⟩) q.length c) ∧ q.length ≤ c ∧ Reads w 1 (some ⟨g, 0, none⟩) q.length (cells8 q)
theorem TxP.below {w w' : World} {A : Option Addr} {n : Nat} {ts : List Text} (h : TxP w A n ts) (hb : Below w.heap.size w w') : TxP w' A n ts := by
  obtain ⟨xs, h1, h2, h3⟩ := h
  refine ⟨xs, h1, h2.below hb, fun i q hq => ?_⟩
  obtain ⟨hl, g, c, a1, a2, a3⟩ := h3 i q hq
  exact ⟨hl, g, c, a1, a2, a3.below hb⟩
theorem TxP.keptN {w w' : World} {A : Option Addr} {n m : Nat} {ts : List Text} (h : TxP w A n ts) (hB : Blk w m 23 Z32) (hk : Kept (· = m) w w') : TxP w' A n ts := by
  obtain ⟨xs, h1, h2, h3⟩ := h
  refine ⟨xs, h1, h2.kept0 hk (fun h0 b o e hbm => ?_), fun i q hq => ?_⟩
  · have hbm : b = m := hbm
    subst hbm
    obtain ⟨b', o', e', -, hc⟩ := h2.at_ h0
    rw [e] at e'
    injection e' with e'
    injection e' with e1 e2
    subst e1 e2
    obtain ⟨q, hq⟩ : ∃ q, ts[0]? = some q := ⟨_, List.getElem?_eq_getElem (by omega)⟩
    obtain ⟨-, g, c, a1, -⟩ := h3 0 q hq
    have h5 := hc 0 _ a1
    rw [hB.cell] at h5
    have h6 : ∀ (j : Nat) (v : Value), (Z32 : Array Value)[j]? = some v → v = .int .u8 0 := by
      intro j v hv
      have := Array.mem_of_getElem? hv
      simp [Z32] at this
      exact this
    have := h6 _ _ h5
    cases this
  · obtain ⟨hl, g, c, a1, a2, a3⟩ := h3 i q hq
    refine ⟨hl, g, c, a1, a2, a3.kept hk (fun b o e hbm => ?_)⟩
    have hbm : b = m := hbm
    subst hbm
    injection e with e
    injection e with e1 e2
    subst e1 e2
    obtain ⟨b', o', e', -, hc⟩ := a3.at_ (by omega)
    injection e' with e'
    injection e' with e1 e2
    subst e1 e2
    have h5 := hc 32 _ (cells8_at q 32 hl)
    rw [hB.cell] at h5
    simp [Z32] at h5
theorem TxP.mk_ {w : World} {M : Nat → Prop} {gc : Nat} {r : Option Nat} {v : Value} {xs : List Value} {ts : List Text} {base : Nat} (hO : w.ownsRow base 24 1 v ts.length xs) (hx : Txs M w gc r xs ts) (hl : ∀ q ∈ ts, q.length = 65) : ∃ A c, v = .slice A ts.length c ∧ (A = none → ts.length = 0 ∧ c = 0) ∧ TxP w A ts.length ts := by
  obtain ⟨A, c, e, -, -, hnil, hr, -⟩ := Append.Own.reads hO
  refine ⟨A, c, e, hnil, xs, rfl, hr, fun i q hq => ?_⟩
  obtain ⟨g, cq, a1, a2, a3, -⟩ := hx i q hq
  exact ⟨by rw [hl q (List.mem_of_getElem? hq)]; decide, g, cq, a1, a2, a3⟩
theorem inclOf_texts (s size i : Int) (leaf : Text) (ds : List Text) (hl : leaf.length = 32) (hd : Digs ds) : (inclOf s size i leaf [] ds).2.2.length ≤ ds.length ∧ ∀ q ∈ (inclOf s size i leaf [] ds).2.2, q.length = 65 := by
  unfold inclOf
  split
  · exact ⟨Nat.zero_le _, fun q h => by cases h⟩
  · split
    · exact ⟨Nat.zero_le _, fun q h => by cases h⟩
    · rename_i h
      have h2 : (sides size.toNat i.toNat).length = ds.length := by omega
      have hz : ((sides size.toNat i.toNat).zip ds).length = ds.length := by rw [List.length_zip]; omega
      refine ⟨by rw [show _ = _ from (climbN_len (s := s) (st := (leaf, [])) (l := (sides size.toNat i.toNat).zip ds) hl ds.length (by omega)).2]; simp, ?_⟩
      exact climbN_long hl (fun q h => by cases h) (fun p hp => hd _ (List.of_mem_zip (show (p.1, p.2) ∈ _ from hp)).2) ds.length (by omega)
/-- One text as pieces, in a row of its own. -/
theorem one_piece {w : World} {A : Option Addr} {k c : Nat} {q : Text} (h : Reads w 1 A k (cells8 q)) (hk : q.length = k) (hkc : k ≤ c) (hnil : A = none → k = 0 ∧ c = 0) : Pieces (w.alloc (.cells #[.slice A k c] 24)) (some ⟨w.heap.size, 0, none⟩) [q] := fun _ => by
  have hB := Blk.new w 24 #[.slice A k c]
  refine ⟨w.heap.size, 0, rfl, hB.lt, fun i p hp => ?_⟩
  match i with
  | 0 =>
    obtain rfl := Option.some.inj hp
    exact ⟨A, c, by rw [hB.cell, hk]; rfl, by omega, by rw [hk]; exact h.alloc _, fun e => by have := hnil e; omega⟩
  | i + 1 => simp at hp
/-- A row of texts behind one text. -/
theorem cons_pieces {w w' : World} {B : Nat} {A5 : Option Addr} {n c5 m : Nat} {q : Text} {ts : List Text} {v1 : Value} {xs : List Value} (h3 : ∀ (i : Nat) (q : Text), ts[i]? = some q → 32 < q.length ∧ ∃ g c, xs[i]? = some (.slice (some ⟨g, 0, none⟩) q.length c) ∧ q.length ≤ c ∧ Reads w 1 (some ⟨g, 0, none⟩) q.length (cells8 q))
    (hn : ts.length = n) (hq : Reads w 1 A5 q.length (cells8 q)) (hc5 : q.length ≤ c5) (hnil : A5 = none → q.length = 0 ∧ c5 = 0)
    (hO : w'.ownsRow B 24 1 v1 (1 + n) ([.slice A5 q.length c5] ++ xs)) (hk : Kept (· = m) w w') (hm : ∀ b o, A5 = some ⟨b, o, none⟩ → b ≠ m) (hm2 : ∀ (i : Nat) (p : Text) g c, ts[i]? = some p → xs[i]? = some (.slice (some ⟨g, 0, none⟩) p.length c) → g ≠ m) :
    ∃ A1 c1, v1 = .slice A1 (1 + n) c1 ∧ 1 + n ≤ c1 ∧ Pieces w' A1 (q :: ts) := by
  obtain ⟨A1, c1, e, hc, -, hnil1, hr, -⟩ := Append.Own.reads hO
  refine ⟨A1, c1, e, hc, fun _ => ?_⟩
  obtain ⟨b, o, e1, hb, hcs⟩ := hr.at_ (by omega)
  refine ⟨b, o, e1, hb, fun i p hp => ?_⟩
  match i with
  | 0 =>
    obtain rfl := Option.some.inj hp
    exact ⟨A5, c5, hcs 0 _ rfl, hc5, hq.kept hk hm, hnil⟩
  | i + 1 =>
    have hp' : ts[i]? = some p := hp
    obtain ⟨-, g, cq, a1, a2, a3⟩ := h3 i p hp'
    refine ⟨some ⟨g, 0, none⟩, cq, hcs (i + 1) _ (by simpa using a1), a2, a3.kept hk (fun b o e => ?_), fun h => by cases h⟩
    injection e with e
    injection e with e1 e2
    subst e1
    exact hm2 i p _ cq hp' a1

set_option maxRecDepth 100000 in
set_option maxHeartbeats 2000000 in
theorem way20_any (s : Int) (hs63 : s < 9223372036854775808) (ev : Text) (k : Nat) (hk : ev.length = k) (hk47 : k < 140737488355327) (A : Option Addr) (c : Nat) (hkc : k ≤ c) (hnil : A = none → k = 0 ∧ c = 0) (x1 x2 : Int) (ds : List Text) (A2 : Option Addr) (n c2 : Nat) (hn40 : n < 1099511627776) (w : World) (hr : Reads w 1 A k (cells8 ev)) (hrd : RdD w A2 n ds) :
    Calls Tryd.prog 18 #[.int .i64 s, .slice A k c, .agg (inclCells x1 x2 A2 n c2)] w fun e w' => ∃ A4 c4, e = .returned (.slice A4 (1 + (inclOf s x1 x2 (leafOf s ev) [] ds).2.2.length) c4) ∧ 1 + (inclOf s x1 x2 (leafOf s ev) [] ds).2.2.length ≤ c4 ∧ Pieces w' A4 ((kb 0 :: ev) :: (inclOf s x1 x2 (leafOf s ev) [] ds).2.2) ∧ Below w.heap.size w w' := by
  unfold inclCells
  obtain ⟨i0, ii, iz0, iz1, iz2⟩ := info_partsN infoT
  obtain ⟨W, hW⟩ : ∃ W, Hid (W = w.alloc (.cells #[Value.int .i64 x1, Value.int .i64 x2, Value.slice A2 n c2] 27)) := ⟨_, rfl⟩
  have hb1 : Hid (Below w.heap.size w W) := by show Below _ _ _; rw [hW.out]; exact Below.heap_below w _
  have hP1 : Hid (Blk W w.heap.size 27 #[Value.int .i64 x1, Value.int .i64 x2, Value.slice A2 n c2]) := by show Blk _ _ _ _; rw [hW.out]; exact Blk.new w _ _
  obtain ⟨⟨x, kk, ts⟩, hX⟩ : ∃ X, inclOf s x1 x2 (leafOf s ev) [] ds = X := ⟨_, rfl⟩
  have hxl := inclOf_len s x1 x2 (leafOf s ev) [] ds (leafOf_len s ev)
  have hxt := inclOf_texts s x1 x2 (leafOf s ev) ds (leafOf_len s ev) hrd.2.1
  rw [hrd.1] at hxt
  rw [hX] at hxl hxt ⊢
  dsimp only at hxl hxt ⊢
  have F := Lib.hid (fit (x := x) hxl)
  obtain ⟨lf, hlf⟩ : ∃ lf, Hid (leafOf s ev = lf) := ⟨_, Lib.hid rfl⟩
  have hlfl : Hid (lf.length = 32) := by show _ = _; rw [← hlf.out]; exact leafOf_len s ev
  have hLf : Hid (∀ w', Below w.heap.size w w' → Calls Tryd.prog 36 #[.int .i64 s, .slice A k c] w' fun e w'' => e = .returned (.agg (cells8 lf).toArray) ∧ Below w'.heap.size w' w'') := fun w' hb => by
    have := refleaf_any ev k hk A c s w' hs63 (by omega) (hr.below hb) hkc hnil
    rw [← hlf.out]
    exact this
  obtain ⟨m, hm⟩ : ∃ m, ts.length = m := ⟨_, rfl⟩
  have hIn : Hid (∀ w', Below w.heap.size w w' → Calls Tryd.prog 58 #[.int .i64 s, .int .i64 x1, .int .i64 x2, .agg (cells8 lf).toArray, .slice A2 n c2] w' fun e w'' => ∃ A0 c0, e = .returned (.tuple #[.agg (cells8 x).toArray, .slice A0 m c0, .int .i64 kk]) ∧ (A0 = none → m = 0 ∧ c0 = 0) ∧ TxP w'' A0 m ts ∧ Below w'.heap.size w' w'') := fun w' hb => by
    have := refincl_any s hs63 x1 x2 lf hlfl.out ds A2 n c2 hn40 w' (hrd.below hb)
    rw [← hlf.out, hX] at this
    rw [← hlf.out]
    refine this.mono ?_
    rintro e w'' ⟨v, xs, r, gc, rfl, ho, hx, hb⟩
    obtain ⟨A0, c0, rfl, hn0, hT⟩ := TxP.mk_ ho hx hxt.2
    dsimp only at *
    rw [hm] at hn0 hT
    exact ⟨A0, c0, by rw [hm], hn0, hT, hb⟩
  have hTe : Hid (∀ w', Below w.heap.size w w' → Calls Tryd.prog 59 #[.int .i64 0, .slice (some ⟨w'.heap.size, 0, none⟩) 1 1] (w'.alloc (.cells #[.slice A k c] 24)) fun e w'' => ∃ A5 c5, e = .returned (.slice A5 (k + 1) c5) ∧ k + 1 ≤ c5 ∧ (A5 = none → k + 1 = 0 ∧ c5 = 0) ∧ Reads w'' 1 A5 (k + 1) (cells8 (kb 0 :: ev)) ∧ Below w'.heap.size w' w'') := fun w' hb => by
    have := refText_any [ev] 1 rfl (some ⟨w'.heap.size, 0, none⟩) 1 0 (w'.alloc (.cells #[.slice A k c] 24)) (by simp; omega) (by decide) (one_piece (hr.below hb) hk hkc hnil)
    refine this.mono ?_
    rintro e w'' ⟨v, rfl, ho, hb2⟩
    rw [show 1 + [ev].flatten.length = k + 1 by simp [hk]; omega, show kb 0 :: [ev].flatten = kb 0 :: ev by simp] at ho
    obtain ⟨A5, c5, rfl, h1, h2, h3, -⟩ := Own.own_reads ho
    exact ⟨A5, c5, rfl, h1, h2, h3, (Below.heap_below w' _).trans (hb2.mono (by simp))⟩
  have hm300 : Hid (m < 1099511627776) := by show _ < _; omega
  have hk1h : Hid ((kb 0 :: ev).length = k + 1) := by show _ = _; simp [hk]
  rw [hm]
  replace hm := Lib.hid hm
  clear hs63 hk hk47 hkc hnil hn40 hr hrd hX hxl hxt
  go_enter Tryd.func18, Tryd.ntmps18
  go_wp2_with fail
  change Code.wp _ _ _ _ (w.alloc (.cells #[Value.int .i64 x1, Value.int .i64 x2, Value.slice A2 n c2] 27))
  rw [← hW.out]
  clear hW
  go_cut [7, 8, 9] from 10 to 24 (fun v tv u wr => ∃ (mb : Nat) (A0 : Option Addr) (c0 : Nat), v = .pointer (some ⟨mb, 0, none⟩) ∧ tv = .slice A0 m c0 ∧ u = .int .i64 kk ∧ Hid (A0 = none → m = 0 ∧ c0 = 0) ∧ Hid (TxP wr A0 m ts) ∧ Hid (Below W.heap.size W wr))
  case first =>
    have s0 : Hid (Below W.heap.size W W.drew) := (Below.refl _ _).drew
    refine held_start (fun w' => Below W.heap.size W w') 19 rfl (by kernel_rfl) ?_
    refine held_take (i := 0) (v := .int .i64 s) rfl (by kernel_rfl) (by kernel_rfl) (by kernel_rfl) (fun _ _ _ h => h) s0.out (by rfl) (fun w' hw' => run_mv (.tmp 0) rfl w') ?_
    (intro K hK; go_simp; refine hK _ ?_; clear hK K)
    refine held_take (i := 1) (v := .pointer (some ⟨w.heap.size, 0, none⟩)) rfl (by kernel_rfl) (by kernel_rfl) (by kernel_rfl) (fun _ _ _ h => h) s0.out (by rfl) (fun w' hw' => by go_simp) ?_
    (intro K hK; go_simp; refine hK _ ?_; clear hK K)
    refine held_take (i := 2) (v := .int .i64 x1) rfl (by kernel_rfl) (by kernel_rfl) (by kernel_rfl) (fun _ _ _ h => h) s0.out (by rfl) (fun w' hw' => by have h := (Blk.onw hP1.out hw').cell 0; go_simp) ?_
    (intro K hK; go_simp; refine hK _ ?_; clear hK K)
    refine held_take (i := 3) (v := .pointer (some ⟨w.heap.size, 1, none⟩)) rfl (by kernel_rfl) (by kernel_rfl) (by kernel_rfl) (fun _ _ _ h => h) s0.out (by rfl) (fun w' hw' => by go_simp) ?_
    (intro K hK; go_simp; refine hK _ ?_; clear hK K)
    refine held_take (i := 4) (v := .int .i64 x2) rfl (by kernel_rfl) (by kernel_rfl) (by kernel_rfl) (fun _ _ _ h => h) s0.out (by rfl) (fun w' hw' => by have h := (Blk.onw hP1.out hw').cell 1; go_simp) ?_
    (intro K hK; go_simp; refine hK _ ?_; clear hK K)
    refine held_take (i := 5) (v := .int .i64 s) rfl (by kernel_rfl) (by kernel_rfl) (by kernel_rfl) (fun _ _ _ h => h) s0.out (by rfl) (fun w' hw' => run_mv (.tmp 0) rfl w') ?_
    (intro K hK; go_simp; refine hK _ ?_; clear hK K)
    refine held_take (i := 6) (v := .slice A k c) rfl (by kernel_rfl) (by kernel_rfl) (by kernel_rfl) (fun _ _ _ h => h) s0.out (by rfl) (fun w' hw' => run_mv (.tmp 1) rfl w') ?_
    (intro K hK; go_simp; refine hK _ ?_; clear hK K)
    refine held_take (i := 8) (v := .pointer (some ⟨w.heap.size, 2, none⟩)) rfl (by kernel_rfl) (by kernel_rfl) (by kernel_rfl) (fun _ _ _ h => h) s0.out (by rfl) (fun w' hw' => by go_simp) ?_
    (intro K hK; go_simp; refine hK _ ?_; clear hK K)
    refine held_take (i := 9) (v := .slice A2 n c2) rfl (by kernel_rfl) (by kernel_rfl) (by kernel_rfl) (fun _ _ _ h => h) s0.out (by rfl) (fun w' hw' => by have h := (Blk.onw hP1.out hw').cell 2; go_simp) ?_
    (intro K hK; go_simp; refine hK _ ?_; clear hK K)
    refine held_two (i := 7) (j := 15) rfl rfl (by kernel_rfl) (by rfl) (by rfl) (fun K hK => ?_) (fun K hK => ?_)
    · refine wp_fn (R := fun v w'' => v = .agg (cells8 lf).toArray ∧ Below W.heap.size W w'' ∧ Below (W.drew).heap.size (W.drew) w'') (args := #[.int .i64 s, .slice A k c]) _ _ rfl rfl Tryd.func36 (by kernel_rfl) (by kernel_rfl) ((hLf.out _ (hb1.out.trans ((s0.out).mono hb1.out.size))).mono fun e w'' ⟨he, hb⟩ => ⟨_, he, rfl, s0.out.trans (hb.mono s0.out.size), hb⟩) ?_
      rintro qq w5 ⟨rfl, h5, kk1⟩
      replace h5 := Lib.hid h5
      replace kk1 := Lib.hid kk1
      clear kk1
      go_simp
      refine hK _ _ h5.out ?_
      clear hK K
      refine held_two (i := 10) (j := 15) rfl rfl (by kernel_rfl) (by rfl) (by rfl) (fun K hK => ?_) (fun K hK => ?_)
      · refine wp_fn (R := fun v w'' => ∃ A0 c0, v = .tuple #[.agg (cells8 x).toArray, .slice A0 m c0, .int .i64 kk] ∧ (A0 = none → m = 0 ∧ c0 = 0) ∧ TxP w'' A0 m ts ∧ Below W.heap.size W w'' ∧ Below (w5).heap.size (w5) w'') (args := #[.int .i64 s, .int .i64 x1, .int .i64 x2, .agg (cells8 lf).toArray, .slice A2 n c2]) _ _ rfl rfl Tryd.func58 (by kernel_rfl) (by kernel_rfl) ((hIn.out _ (hb1.out.trans ((h5.out).mono hb1.out.size))).mono fun e w'' ⟨A0, c0, he, hn0, hT, hb⟩ => ⟨_, he, A0, c0, rfl, hn0, hT, h5.out.trans (hb.mono h5.out.size), hb⟩) ?_
        rintro qq w6 ⟨A0, c0, rfl, hn0, hT, h6, kk1⟩
        replace h6 := Lib.hid h6
        replace kk1 := Lib.hid kk1
        replace hn0 := Lib.hid hn0
        replace hT := Lib.hid hT
        clear kk1
        go_simp
        refine hK _ _ h6.out ?_
        clear hK K
        refine held_take (i := 11) (v := .tuple #[.agg (cells8 x).toArray, .slice A0 m c0, .int .i64 kk]) rfl (by kernel_rfl) (by kernel_rfl) (by kernel_rfl) (fun _ _ _ h => h) h6.out (by rfl) (fun w' hw' => run_mv (.tmp 21) rfl w') ?_
        (intro K hK; go_simp; refine hK _ ?_; clear hK K)
        refine held_take (i := 12) (v := .agg (cells8 x).toArray) rfl (by kernel_rfl) (by kernel_rfl) (by kernel_rfl) (fun _ _ _ h => h) h6.out (by rfl) (fun w' hw' => by go_simp) ?_
        (intro K hK; go_simp; refine hK _ ?_; clear hK K)
        refine held_take (i := 13) (v := .slice A0 m c0) rfl (by kernel_rfl) (by kernel_rfl) (by kernel_rfl) (fun _ _ _ h => h) h6.out (by rfl) (fun w' hw' => by go_simp) ?_
        (intro K hK; go_simp; refine hK _ ?_; clear hK K)
        refine held_take (i := 14) (v := .int .i64 kk) rfl (by kernel_rfl) (by kernel_rfl) (by kernel_rfl) (fun _ _ _ h => h) h6.out (by rfl) (fun w' hw' => by go_simp) ?_
        (intro K hK; go_simp; refine hK _ ?_; clear hK K)
        refine held_only (i := 15) rfl (by kernel_rfl) (by rfl) (fun K hK => ?_)
        have h7 := Lib.hid (h6.out.alloc h6.out.size (.cells Z32 23))
        have bb : Hid (Blk (w6.alloc (.cells Z32 23)) w6.heap.size 23 Z32) := Blk.new _ _ _
        replace hT := Lib.hid (hT.out.below (Below.heap_below _ (.cells Z32 23)))
        go_simp
        refine hK _ _ h7.out ?_
        clear hK K
        refine held_only (i := 16) rfl (by kernel_rfl) (by rfl) (fun K hK => ?_)
        refine wp_store_whole 23 (.tmp 7) (.tmp 22) rfl (w6.heap.size) ((cells8 x).toArray) rfl rfl 23 (Z32) (bb.out) F.out.size F.out.zero F.out.one ?_
        intro w99 B9 k9
        have b9 : Hid (Below W.heap.size W w99) := h7.out.trans (Kept.below_of k9 (h6.out.size) h7.out.size)
        replace hT := Lib.hid (hT.out.keptN bb.out k9)
        go_simp
        refine hK _ _ b9.out ?_
        clear hK K
        refine held_take (i := 17) (v := .slice A0 m c0) rfl (by kernel_rfl) (by kernel_rfl) (by kernel_rfl) (fun _ _ _ h => h) b9.out (by rfl) (fun w' hw' => by first | go_simp | rfl) ?_
        (intro K hK; go_simp; refine hK _ ?_; clear hK K)
        refine held_take (i := 18) (v := .int .i64 kk) rfl (by kernel_rfl) (by kernel_rfl) (by kernel_rfl) (fun _ _ _ h => h) b9.out (by rfl) (fun w' hw' => by first | go_simp | rfl) ?_
        (intro K hK; go_simp; refine hK _ ?_; clear hK K)
        refine held_end (by kernel_rfl) ?_
        go_wp2_with fail
        go_meet
        case rel => exact ⟨_, _, _, rfl, rfl, rfl, hn0.out, hT.out, b9.out⟩
      · have h6 := Lib.hid (h5.out.alloc h5.out.size (.cells Z32 23))
        have bb : Hid (Blk (w5.alloc (.cells Z32 23)) w5.heap.size 23 Z32) := Blk.new _ _ _
        go_simp
        refine hK _ _ h6.out ?_
        clear hK K
        refine held_only (i := 10) rfl (by kernel_rfl) (by rfl) (fun K hK => ?_)
        refine wp_fn (R := fun v w'' => ∃ A0 c0, v = .tuple #[.agg (cells8 x).toArray, .slice A0 m c0, .int .i64 kk] ∧ (A0 = none → m = 0 ∧ c0 = 0) ∧ TxP w'' A0 m ts ∧ Below W.heap.size W w'' ∧ Below ((w5.alloc (.cells Z32 23))).heap.size ((w5.alloc (.cells Z32 23))) w'') (args := #[.int .i64 s, .int .i64 x1, .int .i64 x2, .agg (cells8 lf).toArray, .slice A2 n c2]) _ _ rfl rfl Tryd.func58 (by kernel_rfl) (by kernel_rfl) ((hIn.out _ (hb1.out.trans ((h6.out).mono hb1.out.size))).mono fun e w'' ⟨A0, c0, he, hn0, hT, hb⟩ => ⟨_, he, A0, c0, rfl, hn0, hT, h6.out.trans (hb.mono h6.out.size), hb⟩) ?_
        rintro qq w7 ⟨A0, c0, rfl, hn0, hT, h7, kk1⟩
        replace h7 := Lib.hid h7
        replace kk1 := Lib.hid kk1
        replace hn0 := Lib.hid hn0
        replace hT := Lib.hid hT
        replace bb := Lib.hid ((kk1.out.block _ (Blk.lt bb.out)).trans bb.out)
        clear kk1
        go_simp
        refine hK _ _ h7.out ?_
        clear hK K
        refine held_take (i := 11) (v := .tuple #[.agg (cells8 x).toArray, .slice A0 m c0, .int .i64 kk]) rfl (by kernel_rfl) (by kernel_rfl) (by kernel_rfl) (fun _ _ _ h => h) h7.out (by rfl) (fun w' hw' => run_mv (.tmp 21) rfl w') ?_
        (intro K hK; go_simp; refine hK _ ?_; clear hK K)
        refine held_take (i := 12) (v := .agg (cells8 x).toArray) rfl (by kernel_rfl) (by kernel_rfl) (by kernel_rfl) (fun _ _ _ h => h) h7.out (by rfl) (fun w' hw' => by go_simp) ?_
        (intro K hK; go_simp; refine hK _ ?_; clear hK K)
        refine held_take (i := 13) (v := .slice A0 m c0) rfl (by kernel_rfl) (by kernel_rfl) (by kernel_rfl) (fun _ _ _ h => h) h7.out (by rfl) (fun w' hw' => by go_simp) ?_
        (intro K hK; go_simp; refine hK _ ?_; clear hK K)
        refine held_take (i := 14) (v := .int .i64 kk) rfl (by kernel_rfl) (by kernel_rfl) (by kernel_rfl) (fun _ _ _ h => h) h7.out (by rfl) (fun w' hw' => by go_simp) ?_
        (intro K hK; go_simp; refine hK _ ?_; clear hK K)
        refine held_only (i := 16) rfl (by kernel_rfl) (by rfl) (fun K hK => ?_)
        refine wp_store_whole 23 (.tmp 7) (.tmp 22) rfl (w5.heap.size) ((cells8 x).toArray) rfl rfl 23 (Z32) (bb.out) F.out.size F.out.zero F.out.one ?_
        intro w99 B9 k9
        have b9 : Hid (Below W.heap.size W w99) := h7.out.trans (Kept.below_of k9 (h5.out.size) h7.out.size)
        replace hT := Lib.hid (hT.out.keptN bb.out k9)
        go_simp
        refine hK _ _ b9.out ?_
        clear hK K
        refine held_take (i := 17) (v := .slice A0 m c0) rfl (by kernel_rfl) (by kernel_rfl) (by kernel_rfl) (fun _ _ _ h => h) b9.out (by rfl) (fun w' hw' => by first | go_simp | rfl) ?_
        (intro K hK; go_simp; refine hK _ ?_; clear hK K)
        refine held_take (i := 18) (v := .int .i64 kk) rfl (by kernel_rfl) (by kernel_rfl) (by kernel_rfl) (fun _ _ _ h => h) b9.out (by rfl) (fun w' hw' => by first | go_simp | rfl) ?_
        (intro K hK; go_simp; refine hK _ ?_; clear hK K)
        refine held_end (by kernel_rfl) ?_
        go_wp2_with fail
        go_meet
        case rel => exact ⟨_, _, _, rfl, rfl, rfl, hn0.out, hT.out, b9.out⟩
    · have h5 := Lib.hid (s0.out.alloc s0.out.size (.cells Z32 23))
      have bb : Hid (Blk (W.drew.alloc (.cells Z32 23)) W.heap.size 23 Z32) := Blk.new _ _ _
      go_simp
      refine hK _ _ h5.out ?_
      clear hK K
      refine held_only (i := 7) rfl (by kernel_rfl) (by rfl) (fun K hK => ?_)
      refine wp_fn (R := fun v w'' => v = .agg (cells8 lf).toArray ∧ Below W.heap.size W w'' ∧ Below ((W.drew.alloc (.cells Z32 23))).heap.size ((W.drew.alloc (.cells Z32 23))) w'') (args := #[.int .i64 s, .slice A k c]) _ _ rfl rfl Tryd.func36 (by kernel_rfl) (by kernel_rfl) ((hLf.out _ (hb1.out.trans ((h5.out).mono hb1.out.size))).mono fun e w'' ⟨he, hb⟩ => ⟨_, he, rfl, h5.out.trans (hb.mono h5.out.size), hb⟩) ?_
      rintro qq w6 ⟨rfl, h6, kk1⟩
      replace h6 := Lib.hid h6
      replace kk1 := Lib.hid kk1
      replace bb := Lib.hid ((kk1.out.block _ (Blk.lt bb.out)).trans bb.out)
      clear kk1
      go_simp
      refine hK _ _ h6.out ?_
      clear hK K
      refine held_only (i := 10) rfl (by kernel_rfl) (by rfl) (fun K hK => ?_)
      refine wp_fn (R := fun v w'' => ∃ A0 c0, v = .tuple #[.agg (cells8 x).toArray, .slice A0 m c0, .int .i64 kk] ∧ (A0 = none → m = 0 ∧ c0 = 0) ∧ TxP w'' A0 m ts ∧ Below W.heap.size W w'' ∧ Below (w6).heap.size (w6) w'') (args := #[.int .i64 s, .int .i64 x1, .int .i64 x2, .agg (cells8 lf).toArray, .slice A2 n c2]) _ _ rfl rfl Tryd.func58 (by kernel_rfl) (by kernel_rfl) ((hIn.out _ (hb1.out.trans ((h6.out).mono hb1.out.size))).mono fun e w'' ⟨A0, c0, he, hn0, hT, hb⟩ => ⟨_, he, A0, c0, rfl, hn0, hT, h6.out.trans (hb.mono h6.out.size), hb⟩) ?_
      rintro qq w7 ⟨A0, c0, rfl, hn0, hT, h7, kk1⟩
      replace h7 := Lib.hid h7
      replace kk1 := Lib.hid kk1
      replace hn0 := Lib.hid hn0
      replace hT := Lib.hid hT
      replace bb := Lib.hid ((kk1.out.block _ (Blk.lt bb.out)).trans bb.out)
      clear kk1
      go_simp
      refine hK _ _ h7.out ?_
      clear hK K
      refine held_take (i := 11) (v := .tuple #[.agg (cells8 x).toArray, .slice A0 m c0, .int .i64 kk]) rfl (by kernel_rfl) (by kernel_rfl) (by kernel_rfl) (fun _ _ _ h => h) h7.out (by rfl) (fun w' hw' => run_mv (.tmp 21) rfl w') ?_
      (intro K hK; go_simp; refine hK _ ?_; clear hK K)
      refine held_take (i := 12) (v := .agg (cells8 x).toArray) rfl (by kernel_rfl) (by kernel_rfl) (by kernel_rfl) (fun _ _ _ h => h) h7.out (by rfl) (fun w' hw' => by go_simp) ?_
      (intro K hK; go_simp; refine hK _ ?_; clear hK K)
      refine held_take (i := 13) (v := .slice A0 m c0) rfl (by kernel_rfl) (by kernel_rfl) (by kernel_rfl) (fun _ _ _ h => h) h7.out (by rfl) (fun w' hw' => by go_simp) ?_
      (intro K hK; go_simp; refine hK _ ?_; clear hK K)
      refine held_take (i := 14) (v := .int .i64 kk) rfl (by kernel_rfl) (by kernel_rfl) (by kernel_rfl) (fun _ _ _ h => h) h7.out (by rfl) (fun w' hw' => by go_simp) ?_
      (intro K hK; go_simp; refine hK _ ?_; clear hK K)
      refine held_only (i := 16) rfl (by kernel_rfl) (by rfl) (fun K hK => ?_)
      refine wp_store_whole 23 (.tmp 7) (.tmp 22) rfl (W.heap.size) ((cells8 x).toArray) rfl rfl 23 (Z32) (bb.out) F.out.size F.out.zero F.out.one ?_
      intro w99 B9 k9
      have b9 : Hid (Below W.heap.size W w99) := h7.out.trans (Kept.below_of k9 (s0.out.size) h7.out.size)
      replace hT := Lib.hid (hT.out.keptN bb.out k9)
      go_simp
      refine hK _ _ b9.out ?_
      clear hK K
      refine held_take (i := 17) (v := .slice A0 m c0) rfl (by kernel_rfl) (by kernel_rfl) (by kernel_rfl) (fun _ _ _ h => h) b9.out (by rfl) (fun w' hw' => by first | go_simp | rfl) ?_
      (intro K hK; go_simp; refine hK _ ?_; clear hK K)
      refine held_take (i := 18) (v := .int .i64 kk) rfl (by kernel_rfl) (by kernel_rfl) (by kernel_rfl) (fun _ _ _ h => h) b9.out (by rfl) (fun w' hw' => by first | go_simp | rfl) ?_
      (intro K hK; go_simp; refine hK _ ?_; clear hK K)
      refine held_end (by kernel_rfl) ?_
      go_wp2_with fail
      go_meet
      case rel => exact ⟨_, _, _, rfl, rfl, rfl, hn0.out, hT.out, b9.out⟩
  case rest =>
    obtain ⟨mb, A0, c0, rfl, rfl, rfl, hn0, hT, hk4⟩ := hcut
    have hb4 : Hid (Below w.heap.size w wc) := hb1.out.trans (hk4.out.mono hb1.out.size)
    clear hk4
    go_wp2_with fail
    refine (hTe.out wc hb4.out).mono ?_
    rintro e w5 ⟨A5, c5, rfl, hc5, hn5, hr5, hk5⟩
    have hb5 : Hid (Below w.heap.size w w5) := hb4.out.trans (hk5.mono hb4.out.size)
    have hT5 := hT.out.below hk5
    obtain ⟨xs, hxn, hxr, hx3⟩ := hT5
    have hO : Hid ((w5.alloc (.cells #[.slice A5 (k + 1) c5] 24)).ownsRow w5.heap.size 24 1 (.slice (some ⟨w5.heap.size, 0, none⟩) 1 1) 1 [.slice A5 (k + 1) c5]) := owns_new _ _ _
    have hx1 : Hid (∀ u ∈ xs, u.oneCell' = true) := fun u hu => by
      obtain ⟨i, hi, rfl⟩ := List.getElem_of_mem hu
      have hl : xs.length = m := by simpa using hxr.1
      obtain ⟨q, hq⟩ : ∃ q, ts[i]? = some q := ⟨_, List.getElem?_eq_getElem (by omega)⟩
      obtain ⟨-, g, cq, a1, -⟩ := hx3 i q hq
      rw [List.getElem?_eq_getElem hi] at a1
      rw [Option.some.inj a1]
      rfl
    have hS : Hid (Reads (w5.alloc (.cells #[.slice A5 (k + 1) c5] 24)) 1 A0 m xs) := hxr.alloc _
    have hm1 : Hid (1 + m ≤ maxLen) := by have := hm300.out; show _ ≤ _; unfold maxLen; omega
    have hm2 : Hid ((1 + m) * 24 ≤ 140737488355328) := by have := hm300.out; show _ ≤ _; omega
    have hs6 : Hid (w5.heap.size ≤ (w5.alloc (.cells #[.slice A5 (k + 1) c5] 24)).heap.size) := by show _ ≤ _; simp
    replace hr5 := Lib.hid hr5
    replace hx3 := Lib.hid hx3
    replace hn5 := Lib.hid hn5
    replace hc5 := Lib.hid hc5
    clear hk5 hxr hT
    go_wp2_with ((with_reducible change wpList _ _ _ ({ dst := some 30, op := _, type := _, pos := _, after := _, guard := _ } :: _) _ _); refine wpList_append_src _ (o := ⟨some 30, _, _, _, _, _⟩) rfl (.tmp 28) (.tmp 29) 35 rfl w5.heap.size 24 i0 (.slice none 0 0) 1 24 Tryd.underlying35 ii iz0 iz1 iz2 rfl (by decide) (.slice (some ⟨w5.heap.size, 0, none⟩) 1 1) 1 [.slice A5 (k + 1) c5] rfl hO.out A0 m c0 xs rfl hS.out hn0.out hx1.out hm1.out hm2.out hs6.out ?_; intro v6 w6 hG; obtain ⟨A6, c6, rfl, -⟩ := Append.Own.reads hG.own; replace hG := Lib.hid hG)
    go_ret
    have hk6 : Kept (· = w5.heap.size) (w5.alloc (.cells #[.slice A5 (k + 1) c5] 24)) w6 := hG.out.kept (Kept.refl _ _) (fun k e => by injection e with e; exact .inl e.symm)
    have hb6 : Below w.heap.size w w6 := hb5.out.trans ((kept_fresh hk6).mono hb5.out.size)
    obtain ⟨A7, c7, e7, hc7, hp⟩ := cons_pieces (w := w5.alloc (.cells #[.slice A5 (k + 1) c5] 24)) (w' := w6) (q := kb 0 :: ev) (ts := ts) (A5 := A5) (c5 := c5) (m := w5.heap.size) (fun i q hq => by
      obtain ⟨hl, g, cq, a1, a2, a3⟩ := hx3.out i q hq
      exact ⟨hl, g, cq, a1, a2, a3.alloc _⟩) hm.out (by rw [hk1h.out]; exact hr5.out.alloc _) (by rw [hk1h.out]; exact hc5.out) (by rw [hk1h.out]; exact hn5.out) (by rw [hk1h.out]; exact hG.out.own) hk6 (fun b o e => by
        obtain ⟨b', o', e', hlt, -⟩ := hr5.out.at_ (by omega)
        rw [e] at e'
        injection e' with e'
        injection e' with e1 e2
        omega) (fun i p g cq hp a1 => by
        obtain ⟨hl, g', cq', b1, b2, b3⟩ := hx3.out i p hp
        rw [b1] at a1
        have a1 := Option.some.inj a1
        injection a1 with a1
        injection a1 with a1
        injection a1 with e1 e2
        obtain ⟨b', o', e', hlt, -⟩ := b3.at_ (by omega)
        injection e' with e'
        injection e' with e3 e4
        omega)
    injection e7 with e71 e72 e73
    subst e71 e73
    exact ⟨_, _, rfl, hc7, hp, hb6⟩
end Go.Proofs.YtaelcgimgomnnaaDoor.Way20

namespace Go.Proofs.YtaelcgimgomnnaaDoor.AuditIncludes
open Go Go.RowKit Go.Proofs.YtaelcgimgomnnaaDoor Go.Proofs.YtaelcgimgomnnaaDoor.Mem Go.Proofs.YtaelcgimgomnnaaDoor.Sha Go.Proofs.YtaelcgimgomnnaaDoor.Bytes Go.Proofs.YtaelcgimgomnnaaDoor.HashMem Go.Proofs.YtaelcgimgomnnaaDoor.DigestMem Go.Proofs.YtaelcgimgomnnaaDoor.Digest Go.Proofs.YtaelcgimgomnnaaDoor.RefSum Go.Proofs.YtaelcgimgomnnaaDoor.RefCut Go.Proofs.YtaelcgimgomnnaaDoor.QuietTail Go.Proofs.YtaelcgimgomnnaaDoor.Grown Go.Proofs.YtaelcgimgomnnaaDoor.Chain Go.Proofs.YtaelcgimgomnnaaDoor.TreeMem Go.Proofs.YtaelcgimgomnnaaDoor.TreeRoot Go.Proofs.YtaelcgimgomnnaaDoor.Held Go.Proofs.YtaelcgimgomnnaaDoor.Guard Go.Proofs.YtaelcgimgomnnaaDoor.Climb Go.Proofs.YtaelcgimgomnnaaDoor.Include Go.Proofs.YtaelcgimgomnnaaDoor.Ref17 Go.Proofs.YtaelcgimgomnnaaDoor.Book Go.Proofs.YtaelcgimgomnnaaDoor.Book2 Go.Proofs.YtaelcgimgomnnaaDoor.Book8 Go.Proofs.YtaelcgimgomnnaaDoor.Law20 Go.Proofs.YtaelcgimgomnnaaDoor.AudIncl Go.Proofs.YtaelcgimgomnnaaDoor.Way20

structure FitT (T : TypeId) (Z cs : Array Value) : Prop where
  size : (Tryd.prog.info? T).map (·.size) = some cs.size
  zero : Z.size = cs.size
  one : cs.all (fun v => v.oneCell') = true
theorem fitI (x y : Int) (A : Option Addr) (n c : Nat) : FitT 27 #[Value.int .i64 0, Value.int .i64 0, Value.slice none 0 0] #[Value.int .i64 x, Value.int .i64 y, Value.slice A n c] := ⟨sizeI, rfl, oneI _ _ _ _ _⟩

set_option maxRecDepth 100000 in
set_option maxHeartbeats 4000000 in
theorem auditIncludes_any (s : Int) (hs63 : s < 9223372036854775808) (root : Text) (hrt : root.length = 32) (ev : Text) (k : Nat) (hk : ev.length = k) (hk47 : k < 140737488355247) (A : Option Addr) (c : Nat) (hkc : k ≤ c) (hnil : A = none → k = 0 ∧ c = 0) (x1 x2 : Int) (es : List Text) (m : Nat) (A2 : Option Addr) (c2 : Nat) (hmc : m ≤ c2) (w : World) (hB : Base w) (hr : Reads w 1 A k (cells8 ev)) (hrd : RdD w A2 m es) :
    Calls Tryd.prog 3 #[.int .i64 s, .agg (cells8 root).toArray, .slice A k c, .agg (inclCells x1 x2 A2 m c2)] w fun e w' => e = .returned (.bool true) ∧ Below w.heap.size w w' := by
  unfold inclCells
  obtain ⟨n, hn⟩ : ∃ n, min m 300 = n := ⟨_, rfl⟩
  obtain ⟨ds, hds⟩ : ∃ ds, es.take n = ds := ⟨_, rfl⟩
  have hrn : RdD w A2 n ds := by rw [← hds]; exact hrd.take_ n (by omega)
  have hn300 : n ≤ 300 := by omega
  have hF : Hid (∀ w', Calls Tryd.prog 12 #[.slice A2 m c2, .int .i64 300] w' fun e w'' => e = .returned (.slice A2 n c2) ∧ w' = w'') := fun w' => by
    have := few20_any A2 m c2 hmc w'
    rwa [hn] at this
  have hRo8 := Lib.hid (fun w' (hb : Below w.heap.size w w') => roomy8_any ev k hk (by omega) 165 165 rfl A c w' (hr.below hb))
  have hRo := Lib.hid (fun w' (hb : Below w.heap.size w w') => roomyD_any ds n (by omega) A2 c2 mk0 mk0_len w' (hrn.below hb))
  have hMK : Hid (∀ w', Calls Tryd.prog 15 #[] w' fun e w'' => e = .returned (.agg (cells8 mk0).toArray) ∧ Below w'.heap.size w' w'') := stranger20_any
  have hIt8 := Lib.hid (fun w' g (hg : RoomB w' g ev 165) (hb : Below w.heap.size w w') => intact8_any ev k hk (by omega) 165 165 rfl g A c w' hg (hr.below hb))
  have hIt := Lib.hid (fun w' g (hg : RowD w' g (ds ++ List.replicate 80 mk0)) (hb : Below w.heap.size w w') => intactD_any ds n (by omega) g A2 c2 mk0 mk0_len w' (hrn.below hb) hg)
  have hG0 := Lib.hid (fun w' g (hg : RowD w' g (ds ++ List.replicate 80 mk0)) => (by
    have := (hg.rd (hrn.2.1.append_ (Digs.rep 80 mk0_len))).take_ n (by simp [hrn.1])
    rwa [List.take_append_of_le_length (by rw [hrn.1]; exact Nat.le_refl _), List.take_of_length_le (by rw [hrn.1]; exact Nat.le_refl _)] at this : RdD w' (some ⟨g, 0, none⟩) n ds))
  have hG8 : Hid (∀ w' g, RoomB w' g ev 165 → Reads w' 1 (some ⟨g, 0, none⟩) k (cells8 ev)) := fun w' g h => by have := h.reads; rwa [hk] at this
  have hS := Lib.hid (fun (g : Nat) => run_headD (A := some ⟨g, 0, none⟩) (n := n + 80) (c := n + 80) (k := n) (by omega) (n : Int) rfl)
  have hS8 : Hid (∀ g w', (Instr.sliceAt 24 (.slice (some ⟨g, 0, none⟩) (k + 80) (k + 80)) none (some (.int .i64 (k : Int))) none).run Tryd.prog w' = .ok (.slice (some ⟨g, 0, none⟩) k (k + 80)) w') := fun g => run_headOf (m := k) Tryd.underlying24 (fun _ => rfl) (by omega) _ rfl
  obtain ⟨lt, hlt⟩ : ∃ lt, ((kb 0 :: ev) :: (inclOf s x1 x2 (leafOf s ev) [] ds).2.2)[(inclOf s x1 x2 (leafOf s ev) [] ds).2.2.length]? = some lt := ⟨_, List.getElem?_eq_getElem (by simp)⟩
  have hltl : Hid (lt.length < 144115188075855872) := by
    show _ < _
    have hxt := inclOf_texts s x1 x2 (leafOf s ev) ds (leafOf_len s ev) hrn.2.1
    rcases List.mem_cons.1 (List.mem_of_getElem? hlt) with h | h
    · rw [h]; simp; omega
    · rw [hxt.2 lt h]; decide
  have hWay : Hid (∀ w', Below w.heap.size w w' → Calls Tryd.prog 18 #[.int .i64 s, .slice A k c, .agg #[Value.int .i64 x1, Value.int .i64 x2, Value.slice A2 n c2]] w' fun e w'' => ∃ A4 c4 b o Al cl m4, e = .returned (.slice A4 (1 + m4) c4) ∧ 1 + m4 ≤ c4 ∧ A4 = some ⟨b, o, none⟩ ∧ m4 ≤ 300 ∧ w''.cell? ⟨b, o + m4, none⟩ = some (.slice Al lt.length cl) ∧ Reads w'' 1 Al lt.length (cells8 lt) ∧ Below w'.heap.size w' w'') := fun w' hb => by
    refine (way20_any s hs63 ev k hk (by omega) A c hkc hnil x1 x2 ds A2 n c2 (by omega) w' (hr.below hb) (hrn.below hb)).mono ?_
    rintro e w'' ⟨A4, c4, rfl, hc4, hp, hb2⟩
    have hxt := inclOf_texts s x1 x2 (leafOf s ev) ds (leafOf_len s ev) hrn.2.1
    obtain ⟨b, o, rfl, hbw, hcs⟩ := hp (by simp)
    obtain ⟨Al, cl, a1, -, a2, -⟩ := hcs _ lt hlt
    exact ⟨_, c4, b, o, Al, cl, _, rfl, hc4, rfl, by rw [hrn.1] at hxt; omega, a1, a2, hb2⟩
  have hSm : Hid (∀ w' Al cl, Reads w' 1 Al lt.length (cells8 lt) → Calls Tryd.prog 20 #[.slice Al lt.length cl] w' fun e w'' => e = .returned (.agg (cells8 (sum lt)).toArray) ∧ Below w'.heap.size w' w'') := fun w' Al cl h => refSum_any lt lt.length rfl Al cl w' hltl.out h
  obtain ⟨tg, hto⟩ : ∃ tg, Hid (cutTo (sum lt) (clampN s) = tg) := ⟨_, Lib.hid rfl⟩
  have htol : Hid (tg.length = 32) := by show _ = _; rw [← hto.out]; exact cutTo_len _ _ (sum_len _) (clampN_ok s).2
  have hCu : Hid (∀ w', Calls Tryd.prog 19 #[.agg (cells8 (sum lt)).toArray, .int .i64 s] w' fun e w'' => e = .returned (.agg (cells8 tg).toArray) ∧ Below w'.heap.size w' w'') := fun w' => by
    have := refCut_any (sum lt) (sum_len _) s hs63 w'
    rwa [hto.out] at this
  have hA : Hid (∀ (r : Text) (hr32 : r.length = 32) g8 g w', Below w.heap.size w w' → RoomB w' g8 ev 165 → RowD w' g (ds ++ List.replicate 80 mk0) → Calls Tryd.prog 16 #[.int .i64 s, .agg (cells8 r).toArray, .slice (some ⟨g8, 0, none⟩) k (k + 80), .agg #[Value.int .i64 x1, Value.int .i64 x2, Value.slice (some ⟨g, 0, none⟩) n (n + 80)]] w' fun e w'' => e = .returned (.int .i64 (audIncl s r ev x1 x2 ds)) ∧ Below w'.heap.size w' w'') := fun r hr32 g8 g w' hb h8 hg => audIncl_any s r hr32 ev k hk (by omega) (some ⟨g8, 0, none⟩) (k + 80) (by omega) (fun e => by cases e) x1 x2 ds (some ⟨g, 0, none⟩) n (n + 80) (by omega) w' (hB.below hb hB.1) (hG8.out w' g8 h8) (hG0.out w' g hg)
  have hRf : Hid (∀ (r : Text) (hr32 : r.length = 32) w', Below w.heap.size w w' → Calls Tryd.prog 17 #[.int .i64 s, .agg (cells8 r).toArray, .slice A k c, .agg #[Value.int .i64 x1, Value.int .i64 x2, Value.slice A2 n c2]] w' fun e w'' => e = .returned (.int .i64 (audIncl s r ev x1 x2 ds)) ∧ Below w'.heap.size w' w'') := fun r hr32 w' hb => refIncl_any s r hr32 ev k hk (by omega) A c hkc hnil x1 x2 ds A2 n c2 (by omega) w' hs63 (hr.below hb) (hrn.below hb)
  have Fr := Lib.hid (fit (x := root) hrt)
  have Ft := Lib.hid (fit (x := tg) htol.out)
  have hrth := Lib.hid hrt
  obtain ⟨a1, ha1⟩ : ∃ a, Hid (audIncl s root ev x1 x2 ds = a) := ⟨_, Lib.hid rfl⟩
  obtain ⟨a2, ha2⟩ : ∃ a, Hid (audIncl s tg ev x1 x2 ds = a) := ⟨_, Lib.hid rfl⟩
  have q1 : (a1 == a1) = true := beq_self_eq_true _
  have q2 : (a2 == a2) = true := beq_self_eq_true _
  have hb1 : Hid (Below w.heap.size w ((w.alloc (.cells (cells8 root).toArray 23)).alloc (.cells #[Value.int .i64 x1, Value.int .i64 x2, Value.slice A2 n c2] 27))) := ((Below.refl _ w).alloc (Nat.le_refl _) _).alloc (by simp) _
  have hR1 : Hid (Blk ((w.alloc (.cells (cells8 root).toArray 23)).alloc (.cells #[Value.int .i64 x1, Value.int .i64 x2, Value.slice A2 n c2] 27)) w.heap.size 23 (cells8 root).toArray) := heap_alloc2_old w _ _
  have hP1 : Hid (Blk ((w.alloc (.cells (cells8 root).toArray 23)).alloc (.cells #[Value.int .i64 x1, Value.int .i64 x2, Value.slice A2 n c2] 27)) (w.heap.size + 1) 27 #[Value.int .i64 x1, Value.int .i64 x2, Value.slice A2 n c2]) := heap_alloc2_new w _ _
  clear hs63 hrt hk hk47 hkc hnil hmc hB hr hrd hrn hn300 hn hds hlt
  go_enter Tryd.func3, Tryd.ntmps3
  go_wp2_with fail
  refine (hF.out _).mono ?_
  rintro e w0 ⟨rfl, rfl⟩
  clear hF
  go_wp2_with fail
  generalize ((w.alloc (.cells (cells8 root).toArray 23)).alloc (.cells #[Value.int .i64 x1, Value.int .i64 x2, Value.slice A2 n c2] 27)) = w1 at *
  refine (hRo8.out w1 hb1.out).mono ?_
  rintro e w2 ⟨g8, rfl, -, h8, hk1⟩
  have hb2 : Hid (Below w.heap.size w w2) := hb1.out.trans (hk1.mono hb1.out.size)
  have hR2 : Hid (Blk w2 w.heap.size 23 (cells8 root).toArray) := Blk.onw hR1.out hk1
  have hP2 : Hid (Blk w2 (w.heap.size + 1) 27 #[Value.int .i64 x1, Value.int .i64 x2, Value.slice A2 n c2]) := Blk.onw hP1.out hk1
  replace h8 := Lib.hid h8
  have hS8g := hS8.out g8
  clear hk1 hb1 hR1 hP1 hRo8 hS8
  go_wp2_with fail
  have s0 : Hid (Below w2.heap.size w2 w2.drew) := (Below.refl _ _).drew
  refine held_start (fun w' => Below w2.heap.size w2 w') 5 rfl (by kernel_rfl) ?_
  refine held_take (i := 0) (v := .pointer (some ⟨w.heap.size + 1, 2, none⟩)) rfl (by kernel_rfl) (by kernel_rfl) (by kernel_rfl) (fun _ _ _ h => h) s0.out (by rfl) (fun w' hw' => by go_simp) ?_
  (intro K hK; go_simp; refine hK _ ?_; clear hK K)
  refine held_take (i := 1) (v := .slice A2 n c2) rfl (by kernel_rfl) (by kernel_rfl) (by kernel_rfl) (fun _ _ _ h => h) s0.out (by rfl) (fun w' hw' => by have h := (Blk.onw hP2.out hw').cell 2; go_simp) ?_
  (intro K hK; go_simp; refine hK _ ?_; clear hK K)
  refine held_only (i := 2) rfl (by kernel_rfl) (by rfl) (fun K hK => ?_)
  refine wp_fn (R := fun v w'' => v = .agg (cells8 mk0).toArray ∧ Below w2.heap.size w2 w'') (args := #[]) _ _ rfl rfl Tryd.func15 (by kernel_rfl) (by kernel_rfl) ((hMK.out _).mono fun e w'' ⟨he, hb⟩ => ⟨_, he, rfl, s0.out.trans hb⟩) ?_
  rintro qq w4 ⟨rfl, h4⟩
  replace h4 := Lib.hid h4
  go_simp
  refine hK _ _ h4.out ?_
  clear hK K
  refine held_only (i := 3) rfl (by kernel_rfl) (by rfl) (fun K hK => ?_)
  refine wp_fn (R := fun v w'' => ∃ g, v = .slice (some ⟨g, 0, none⟩) (n + 80) (n + 80) ∧ RowD w'' g (ds ++ List.replicate 80 mk0) ∧ Below w2.heap.size w2 w'') (args := #[.slice A2 n c2, .agg (cells8 mk0).toArray]) _ _ rfl rfl Tryd.func14 (by kernel_rfl) (by kernel_rfl) ((hRo.out w4 (hb2.out.trans (h4.out.mono hb2.out.size))).mono fun e w'' ⟨g, he, _, hg, hk⟩ => ⟨_, he, g, rfl, hg, h4.out.trans (hk.mono h4.out.size)⟩) ?_
  rintro qq w5 ⟨g, rfl, hG, h5⟩
  replace hG := Lib.hid hG
  replace h5 := Lib.hid h5
  go_simp
  refine hK _ _ h5.out ?_
  clear hK K
  refine held_take (i := 4) (v := .slice (some ⟨g, 0, none⟩) (n + 80) (n + 80)) rfl (by kernel_rfl) (by kernel_rfl) (by kernel_rfl) (fun _ _ _ h => h) h5.out (by rfl) (fun w' hw' => by first | go_simp | rfl) ?_
  (intro K hK; go_simp; refine hK _ ?_; clear hK K)
  refine held_end (by kernel_rfl) ?_
  have hb5 : Hid (Below w.heap.size w w5) := hb2.out.trans (h5.out.mono hb2.out.size)
  have hR5 : Hid (Blk w5 w.heap.size 23 (cells8 root).toArray) := Blk.onw hR2.out h5.out
  have hP5 : Hid (Blk w5 (w.heap.size + 1) 27 #[Value.int .i64 x1, Value.int .i64 x2, Value.slice A2 n c2]) := Blk.onw hP2.out h5.out
  have h85 : Hid (RoomB w5 g8 ev 165) := h8.out.below h5.out (Tab.lt h8.out)
  have hSg := hS.out g
  clear h5 h4 hb2 hR2 hP2 h8 hRo hS
  go_wp2_with fail
  have FI := Lib.hid (fitI x1 x2 (some ⟨g, 0, none⟩) n (n + 80))
  go_cut [11] from 24 to 33 (fun v wr => ∃ m : Nat, v = .pointer (some ⟨m, 0, none⟩) ∧ Hid (Blk wr m 27 #[Value.int .i64 x1, Value.int .i64 x2, Value.slice (some ⟨g, 0, none⟩) n (n + 80)]) ∧ Hid (Below w5.heap.size w5 wr))
  case first =>
    have s0 : Hid (Below w5.heap.size w5 w5.drew) := (Below.refl _ _).drew
    refine held_start (fun w' => Below w5.heap.size w5 w') 12 rfl (by kernel_rfl) ?_
    refine held_take (i := 0) (v := .pointer (some ⟨w.heap.size + 1, 0, none⟩)) rfl (by kernel_rfl) (by kernel_rfl) (by kernel_rfl) (fun _ _ _ h => h) s0.out (by rfl) (fun w' hw' => by go_simp) ?_
    (intro K hK; go_simp; refine hK _ ?_; clear hK K)
    refine held_take (i := 1) (v := .int .i64 x1) rfl (by kernel_rfl) (by kernel_rfl) (by kernel_rfl) (fun _ _ _ h => h) s0.out (by rfl) (fun w' hw' => by have h := (Blk.onw hP5.out hw').cell 0; go_simp) ?_
    (intro K hK; go_simp; refine hK _ ?_; clear hK K)
    refine held_take (i := 2) (v := .pointer (some ⟨w.heap.size + 1, 1, none⟩)) rfl (by kernel_rfl) (by kernel_rfl) (by kernel_rfl) (fun _ _ _ h => h) s0.out (by rfl) (fun w' hw' => by go_simp) ?_
    (intro K hK; go_simp; refine hK _ ?_; clear hK K)
    refine held_take (i := 3) (v := .int .i64 x2) rfl (by kernel_rfl) (by kernel_rfl) (by kernel_rfl) (fun _ _ _ h => h) s0.out (by rfl) (fun w' hw' => by have h := (Blk.onw hP5.out hw').cell 1; go_simp) ?_
    (intro K hK; go_simp; refine hK _ ?_; clear hK K)
    refine held_take (i := 4) (v := .slice (some ⟨g, 0, none⟩) (n + 80) (n + 80)) rfl (by kernel_rfl) (by kernel_rfl) (by kernel_rfl) (fun _ _ _ h => h) s0.out (by rfl) (fun w' hw' => run_mv (.tmp 10) rfl w') ?_
    (intro K hK; go_simp; refine hK _ ?_; clear hK K)
    refine held_take (i := 5) (v := .pointer (some ⟨w.heap.size + 1, 2, none⟩)) rfl (by kernel_rfl) (by kernel_rfl) (by kernel_rfl) (fun _ _ _ h => h) s0.out (by rfl) (fun w' hw' => by go_simp) ?_
    (intro K hK; go_simp; refine hK _ ?_; clear hK K)
    refine held_take (i := 6) (v := .slice A2 n c2) rfl (by kernel_rfl) (by kernel_rfl) (by kernel_rfl) (fun _ _ _ h => h) s0.out (by rfl) (fun w' hw' => by have h := (Blk.onw hP5.out hw').cell 2; go_simp) ?_
    (intro K hK; go_simp; refine hK _ ?_; clear hK K)
    refine held_take (i := 7) (v := .int .i64 (n : Int)) rfl (by kernel_rfl) (by kernel_rfl) (by kernel_rfl) (fun _ _ _ h => h) s0.out (by rfl) (fun w' hw' => by go_simp) ?_
    (intro K hK; go_simp; refine hK _ ?_; clear hK K)
    refine held_take (i := 8) (v := .slice (some ⟨g, 0, none⟩) n (n + 80)) rfl (by kernel_rfl) (by kernel_rfl) (by kernel_rfl) (fun _ _ _ h => h) s0.out (by rfl) (fun w' hw' => by have h := hSg w'; go_simp) ?_
    (intro K hK; go_simp; refine hK _ ?_; clear hK K)
    refine held_take (i := 9) (v := .agg #[Value.int .i64 x1, Value.int .i64 x2, Value.slice (some ⟨g, 0, none⟩) n (n + 80)]) rfl (by kernel_rfl) (by kernel_rfl) (by kernel_rfl) (fun _ _ _ h => h) s0.out (by rfl) (fun w' hw' => by go_simp) ?_
    (intro K hK; go_simp; refine hK _ ?_; clear hK K)
    refine held_only (i := 10) rfl (by kernel_rfl) (by rfl) (fun K hK => ?_)
    have h5 := Lib.hid (s0.out.alloc s0.out.size (.cells #[Value.int .i64 0, Value.int .i64 0, Value.slice none 0 0] 27))
    have bb : Hid (Blk (w5.drew.alloc (.cells #[Value.int .i64 0, Value.int .i64 0, Value.slice none 0 0] 27)) w5.heap.size 27 #[Value.int .i64 0, Value.int .i64 0, Value.slice none 0 0]) := Blk.new _ _ _
    go_simp
    refine hK _ _ h5.out ?_
    clear hK K
    refine held_only (i := 11) rfl (by kernel_rfl) (by rfl) (fun K hK => ?_)
    refine wp_store_whole 27 (.tmp 11) (.tmp 33) rfl (w5.heap.size) (#[Value.int .i64 x1, Value.int .i64 x2, Value.slice (some ⟨g, 0, none⟩) n (n + 80)]) rfl rfl 27 (#[Value.int .i64 0, Value.int .i64 0, Value.slice none 0 0]) (bb.out) FI.out.size FI.out.zero FI.out.one ?_
    intro w99 B9 k9
    have b9 : Hid (Below w5.heap.size w5 w99) := h5.out.trans (Kept.below_of k9 (s0.out.size) h5.out.size)
    go_simp
    refine hK _ _ b9.out ?_
    clear hK K
    refine held_end (by kernel_rfl) ?_
    go_wp2_with fail
    go_meet
    case rel => exact ⟨_, rfl, B9, b9.out⟩
  case rest =>
    obtain ⟨mq, rfl, hQ, hk6⟩ := hcut
    have hb6 : Hid (Below w.heap.size w wc) := hb5.out.trans (hk6.out.mono hb5.out.size)
    have hR6 : Hid (Blk wc w.heap.size 23 (cells8 root).toArray) := Blk.onw hR5.out hk6.out
    have hP6 : Hid (Blk wc (w.heap.size + 1) 27 #[Value.int .i64 x1, Value.int .i64 x2, Value.slice A2 n c2]) := Blk.onw hP5.out hk6.out
    have h86 : Hid (RoomB wc g8 ev 165) := h85.out.below hk6.out (Tab.lt h85.out)
    have hG6 : Hid (RowD wc g (ds ++ List.replicate 80 mk0)) := hG.out.below hk6.out
    clear hk6 hb5 hR5 hP5 h85 hG
    go_wp2_with fail
    refine wp_region_class (Class wc) (by kernel_rfl) (by kernel_rfl) (Class.mk_ ((Below.refl _ _).drew)) ?_
    refine wpQuiet_move rfl (.tmp 0) rfl ?_
    (intro K hK; go_simp; refine hK _ ?_; clear hK K)
    refine wpQuiet_load_row rfl 23 (.tmp 5) rfl w.heap.size rfl 23 ((cells8 root).toArray) (0, 0) _ (fun w' hw' => (hw'.below.block _ hR6.out.lt).trans hR6.out) Tryd.underlying23 rfl Fr.out.size ?_
    (intro K hK; go_simp; refine hK _ ?_; clear hK K)
    refine wpQuiet_move rfl (.tmp 9) rfl ?_
    (intro K hK; go_simp; refine hK _ ?_; clear hK K)
    refine wpQuiet_move rfl (.tmp 2) rfl ?_
    (intro K hK; go_simp; refine hK _ ?_; clear hK K)
    refine wpQuiet_val (v := .int .i64 (k : Int)) rfl (fun w' hw' => by go_simp) ?_
    (intro K hK; go_simp; refine hK _ ?_; clear hK K)
    refine wpQuiet_val (v := .slice (some ⟨g8, 0, none⟩) k (k + 80)) rfl (fun w' hw' => by have h := hS8g w'; go_simp) ?_
    (intro K hK; go_simp; refine hK _ ?_; clear hK K)
    refine wpQuiet_load_row rfl 27 (.tmp 11) rfl mq rfl 27 (#[Value.int .i64 x1, Value.int .i64 x2, Value.slice (some ⟨g, 0, none⟩) n (n + 80)]) (0, 0) _ (fun w' hw' => (hw'.below.block _ hQ.out.lt).trans hQ.out) Tryd.underlying27 rfl sizeI ?_
    (intro K hK; go_simp; refine hK _ ?_; clear hK K)
    refine wpQuiet_fn (v := .int .i64 a1) (args := #[.int .i64 s, .agg (cells8 root).toArray, .slice (some ⟨g8, 0, none⟩) k (k + 80), .agg #[Value.int .i64 x1, Value.int .i64 x2, Value.slice (some ⟨g, 0, none⟩) n (n + 80)]]) rfl _ _ rfl rfl Tryd.func16 (by kernel_rfl) (by kernel_rfl) (fun w' hw' => (hA.out root hrth.out g8 g w' (hb6.out.trans (hw'.below.mono hb6.out.size)) (h86.out.below hw'.below (Tab.lt h86.out)) (hG6.out.below hw'.below)).mono (fun e w'' ⟨he, hb⟩ => ⟨by rw [he, ha1.out], hw'.next hb⟩)) ?_
    (intro K hK; go_simp; refine hK _ ?_; clear hK K)
    refine wpQuiet_move rfl (.tmp 0) rfl ?_
    (intro K hK; go_simp; refine hK _ ?_; clear hK K)
    refine wpQuiet_load_row rfl 23 (.tmp 5) rfl w.heap.size rfl 23 ((cells8 root).toArray) (0, 0) _ (fun w' hw' => (hw'.below.block _ hR6.out.lt).trans hR6.out) Tryd.underlying23 rfl Fr.out.size ?_
    (intro K hK; go_simp; refine hK _ ?_; clear hK K)
    refine wpQuiet_move rfl (.tmp 2) rfl ?_
    (intro K hK; go_simp; refine hK _ ?_; clear hK K)
    refine wpQuiet_load_row rfl 27 (.tmp 7) rfl (w.heap.size + 1) rfl 27 (#[Value.int .i64 x1, Value.int .i64 x2, Value.slice A2 n c2]) (0, 0) _ (fun w' hw' => (hw'.below.block _ hP6.out.lt).trans hP6.out) Tryd.underlying27 rfl sizeI ?_
    (intro K hK; go_simp; refine hK _ ?_; clear hK K)
    refine wpQuiet_fn (v := .int .i64 a1) (args := #[.int .i64 s, .agg (cells8 root).toArray, .slice A k c, .agg #[Value.int .i64 x1, Value.int .i64 x2, Value.slice A2 n c2]]) rfl _ _ rfl rfl Tryd.func17 (by kernel_rfl) (by kernel_rfl) (fun w' hw' => (hRf.out root hrth.out w' (hb6.out.trans (hw'.below.mono hb6.out.size))).mono (fun e w'' ⟨he, hb⟩ => ⟨by rw [he, ha1.out], hw'.next hb⟩)) ?_
    (intro K hK; go_simp; refine hK _ ?_; clear hK K)
    refine wpQuiet_val (v := .bool false) rfl (fun w' hw' => by go_simp) ?_
    (intro K hK; go_simp; refine hK _ ?_; clear hK K)
    refine wpQuiet_nil ?_
    intro w7 hw7
    have hb7 : Hid (Below w.heap.size w w7) := hb6.out.trans (hw7.below.mono hb6.out.size)
    have hR7 : Hid (Blk w7 w.heap.size 23 (cells8 root).toArray) := Blk.onw hR6.out hw7.below
    have hP7 : Hid (Blk w7 (w.heap.size + 1) 27 #[Value.int .i64 x1, Value.int .i64 x2, Value.slice A2 n c2]) := Blk.onw hP6.out hw7.below
    have hQ7 : Hid (Blk w7 mq 27 #[Value.int .i64 x1, Value.int .i64 x2, Value.slice (some ⟨g, 0, none⟩) n (n + 80)]) := Blk.onw hQ.out hw7.below
    have h87 : Hid (RoomB w7 g8 ev 165) := h86.out.below hw7.below (Tab.lt h86.out)
    have hG7 : Hid (RowD w7 g (ds ++ List.replicate 80 mk0)) := hG6.out.below hw7.below
    clear hw7 hb6 hR6 hP6 hQ h86 hG6 ha1
    go_wp2_with ((with_reducible change wpList _ _ _ ({ dst := some 50, op := _, type := _, pos := _, after := _, guard := _ } :: _) _ _); refine wpList_load_row (o := ⟨some 50, _, _, _, _, _⟩) rfl 27 (.tmp 7) rfl (w.heap.size + 1) rfl 27 (#[Value.int .i64 x1, Value.int .i64 x2, Value.slice A2 n c2]) (0, 0) _ hP7.out Tryd.underlying27 rfl sizeI ?_)
    refine (hWay.out w7 hb7.out).mono ?_
    rintro e w8 ⟨A4, c4, b, o, Al, cl, m4, rfl, hc4, rfl, hm4, hcell, hrl, hk1⟩
    have hb8 : Hid (Below w.heap.size w w8) := hb7.out.trans (hk1.mono hb7.out.size)
    have hP8 : Hid (Blk w8 (w.heap.size + 1) 27 #[Value.int .i64 x1, Value.int .i64 x2, Value.slice A2 n c2]) := Blk.onw hP7.out hk1
    have hQ8 : Hid (Blk w8 mq 27 #[Value.int .i64 x1, Value.int .i64 x2, Value.slice (some ⟨g, 0, none⟩) n (n + 80)]) := Blk.onw hQ7.out hk1
    have h88 : Hid (RoomB w8 g8 ev 165) := h87.out.below hk1 (Tab.lt h87.out)
    have hG8' : Hid (RowD w8 g (ds ++ List.replicate 80 mk0)) := hG7.out.below hk1
    have z1 : ((1 + m4 : Nat) : Int) - 1 = (m4 : Int) := by omega
    have z2 : (0 : Int) ≤ (m4 : Int) := by omega
    have z3 : (m4 : Int) < ((1 + m4 : Nat) : Int) := by omega
    have z4 : (1 : Int) + (m4 : Int) - 1 = (m4 : Int) := by omega
    have z5 : (m4 : Int) < 1 + (m4 : Int) := by omega
    have z6 : (m4 : Int) ≤ 300 := by omega
    replace hrl := Lib.hid hrl
    obtain ⟨L, hL⟩ : ∃ L, Hid (lt.length = L) := ⟨_, Lib.hid rfl⟩
    rw [hL.out] at hcell hrl hSm
    clear hk1 hb7 hR7 hP7 hQ7 h87 hG7 hWay hm4 hc4
    go_wp2_with (first
      | (go_at_call 20; refine (hSm.out w8 Al cl hrl.out).mono ?_; rintro e w9 ⟨rfl, hk9⟩; have hb9 : Hid (Below w.heap.size w w9) := hb8.out.trans (hk9.mono hb8.out.size); have hP9 : Hid (Blk w9 (w.heap.size + 1) 27 #[Value.int .i64 x1, Value.int .i64 x2, Value.slice A2 n c2]) := Blk.onw hP8.out hk9; have hQ9 : Hid (Blk w9 mq 27 #[Value.int .i64 x1, Value.int .i64 x2, Value.slice (some ⟨g, 0, none⟩) n (n + 80)]) := Blk.onw hQ8.out hk9; have h89 : Hid (RoomB w9 g8 ev 165) := h88.out.below hk9 (Tab.lt h88.out); have hG9 : Hid (RowD w9 g (ds ++ List.replicate 80 mk0)) := hG8'.out.below hk9; clear hk9)
      | (go_at_call 19; refine (hCu.out _).mono ?_; rintro e w10 ⟨rfl, hk9⟩; have hb10 : Hid (Below w.heap.size w w10) := hb9.out.trans (hk9.mono hb9.out.size); have hP10 : Hid (Blk w10 (w.heap.size + 1) 27 #[Value.int .i64 x1, Value.int .i64 x2, Value.slice A2 n c2]) := Blk.onw hP9.out hk9; have hQ10 : Hid (Blk w10 mq 27 #[Value.int .i64 x1, Value.int .i64 x2, Value.slice (some ⟨g, 0, none⟩) n (n + 80)]) := Blk.onw hQ9.out hk9; have h810 : Hid (RoomB w10 g8 ev 165) := h89.out.below hk9 (Tab.lt h89.out); have hG10 : Hid (RowD w10 g (ds ++ List.replicate 80 mk0)) := hG9.out.below hk9; clear hk9)
      | ((with_reducible change wpList _ _ _ ({ dst := none, op := Op.store 23 (.tmp 13) _, type := _, pos := _, after := _, guard := _ } :: _) _ _); refine wpList_store_whole (o := ⟨none, _, _, _, _, _⟩) rfl 23 (.tmp 13) (.tmp 60) rfl (w10.heap.size) ((cells8 tg).toArray) rfl rfl 23 (Z32) (Blk.new w10 _ _) Ft.out.size Ft.out.zero Ft.out.one ?_; intro w11 hT11 hk11; have hk1 := kept_fresh hk11; have hb11 : Hid (Below w.heap.size w w11) := hb10.out.trans (hk1.mono hb10.out.size); have hP11 : Hid (Blk w11 (w.heap.size + 1) 27 #[Value.int .i64 x1, Value.int .i64 x2, Value.slice A2 n c2]) := Blk.onw hP10.out hk1; have hQ11 : Hid (Blk w11 mq 27 #[Value.int .i64 x1, Value.int .i64 x2, Value.slice (some ⟨g, 0, none⟩) n (n + 80)]) := Blk.onw hQ10.out hk1; have h811 : Hid (RoomB w11 g8 ev 165) := h810.out.below hk1 (Tab.lt h810.out); have hG11 : Hid (RowD w11 g (ds ++ List.replicate 80 mk0)) := hG10.out.below hk1; replace hT11 := Lib.hid hT11; clear hk1 hk11))
    clear hb8 hP8 hQ8 h88 hG8' hb9 hP9 hQ9 h89 hG9 hb10 hP10 hQ10 h810 hG10 hcell z1 z2 z3 z4 z5 z6
    refine wp_region_class (Class w11) (by kernel_rfl) (by kernel_rfl) (Class.mk_ ((Below.refl _ _).drew)) ?_
    refine wpQuiet_move rfl (.tmp 0) rfl ?_
    (intro K hK; go_simp; refine hK _ ?_; clear hK K)
    refine wpQuiet_load_row rfl 23 (.tmp 13) rfl w10.heap.size rfl 23 ((cells8 tg).toArray) (0, 0) _ (fun w' hw' => (hw'.below.block _ hT11.out.lt).trans hT11.out) Tryd.underlying23 rfl Ft.out.size ?_
    (intro K hK; go_simp; refine hK _ ?_; clear hK K)
    refine wpQuiet_move rfl (.tmp 9) rfl ?_
    (intro K hK; go_simp; refine hK _ ?_; clear hK K)
    refine wpQuiet_move rfl (.tmp 2) rfl ?_
    (intro K hK; go_simp; refine hK _ ?_; clear hK K)
    refine wpQuiet_val (v := .int .i64 (k : Int)) rfl (fun w' hw' => by go_simp) ?_
    (intro K hK; go_simp; refine hK _ ?_; clear hK K)
    refine wpQuiet_val (v := .slice (some ⟨g8, 0, none⟩) k (k + 80)) rfl (fun w' hw' => by have h := hS8g w'; go_simp) ?_
    (intro K hK; go_simp; refine hK _ ?_; clear hK K)
    refine wpQuiet_load_row rfl 27 (.tmp 11) rfl mq rfl 27 (#[Value.int .i64 x1, Value.int .i64 x2, Value.slice (some ⟨g, 0, none⟩) n (n + 80)]) (0, 0) _ (fun w' hw' => (hw'.below.block _ hQ11.out.lt).trans hQ11.out) Tryd.underlying27 rfl sizeI ?_
    (intro K hK; go_simp; refine hK _ ?_; clear hK K)
    refine wpQuiet_fn (v := .int .i64 a2) (args := #[.int .i64 s, .agg (cells8 tg).toArray, .slice (some ⟨g8, 0, none⟩) k (k + 80), .agg #[Value.int .i64 x1, Value.int .i64 x2, Value.slice (some ⟨g, 0, none⟩) n (n + 80)]]) rfl _ _ rfl rfl Tryd.func16 (by kernel_rfl) (by kernel_rfl) (fun w' hw' => (hA.out tg htol.out g8 g w' (hb11.out.trans (hw'.below.mono hb11.out.size)) (h811.out.below hw'.below (Tab.lt h811.out)) (hG11.out.below hw'.below)).mono (fun e w'' ⟨he, hb⟩ => ⟨by rw [he, ha2.out], hw'.next hb⟩)) ?_
    (intro K hK; go_simp; refine hK _ ?_; clear hK K)
    refine wpQuiet_move rfl (.tmp 0) rfl ?_
    (intro K hK; go_simp; refine hK _ ?_; clear hK K)
    refine wpQuiet_load_row rfl 23 (.tmp 13) rfl w10.heap.size rfl 23 ((cells8 tg).toArray) (0, 0) _ (fun w' hw' => (hw'.below.block _ hT11.out.lt).trans hT11.out) Tryd.underlying23 rfl Ft.out.size ?_
    (intro K hK; go_simp; refine hK _ ?_; clear hK K)
    refine wpQuiet_move rfl (.tmp 2) rfl ?_
    (intro K hK; go_simp; refine hK _ ?_; clear hK K)
    refine wpQuiet_load_row rfl 27 (.tmp 7) rfl (w.heap.size + 1) rfl 27 (#[Value.int .i64 x1, Value.int .i64 x2, Value.slice A2 n c2]) (0, 0) _ (fun w' hw' => (hw'.below.block _ hP11.out.lt).trans hP11.out) Tryd.underlying27 rfl sizeI ?_
    (intro K hK; go_simp; refine hK _ ?_; clear hK K)
    refine wpQuiet_fn (v := .int .i64 a2) (args := #[.int .i64 s, .agg (cells8 tg).toArray, .slice A k c, .agg #[Value.int .i64 x1, Value.int .i64 x2, Value.slice A2 n c2]]) rfl _ _ rfl rfl Tryd.func17 (by kernel_rfl) (by kernel_rfl) (fun w' hw' => (hRf.out tg htol.out w' (hb11.out.trans (hw'.below.mono hb11.out.size))).mono (fun e w'' ⟨he, hb⟩ => ⟨by rw [he, ha2.out], hw'.next hb⟩)) ?_
    (intro K hK; go_simp; refine hK _ ?_; clear hK K)
    refine wpQuiet_val (v := .bool false) rfl (fun w' hw' => by go_simp) ?_
    (intro K hK; go_simp; refine hK _ ?_; clear hK K)
    refine wpQuiet_nil ?_
    intro w12 hw12
    have hb12 : Hid (Below w.heap.size w w12) := hb11.out.trans (hw12.below.mono hb11.out.size)
    have hP12 : Hid (Blk w12 (w.heap.size + 1) 27 #[Value.int .i64 x1, Value.int .i64 x2, Value.slice A2 n c2]) := Blk.onw hP11.out hw12.below
    have h812 : Hid (RoomB w12 g8 ev 165) := h811.out.below hw12.below (Tab.lt h811.out)
    have hG12 : Hid (RowD w12 g (ds ++ List.replicate 80 mk0)) := hG11.out.below hw12.below
    clear hw12 hb11 hP11 hQ11 h811 hG11
    go_wp2_with fail
    refine wp_region_class (Class w12) (by kernel_rfl) (by kernel_rfl) (Class.mk_ ((Below.refl _ _).drew)) ?_
    refine wpQuiet_move rfl (.tmp 9) rfl ?_
    (intro K hK; go_simp; refine hK _ ?_; clear hK K)
    refine wpQuiet_move rfl (.tmp 2) rfl ?_
    (intro K hK; go_simp; refine hK _ ?_; clear hK K)
    refine wpQuiet_fn (v := .bool true) (args := #[.slice (some ⟨g8, 0, none⟩) (k + 80) (k + 80), .slice A k c, .int .u8 165]) rfl _ _ rfl rfl Tryd.func21 (by kernel_rfl) (by kernel_rfl) (fun w' hw' => (hIt8.out w' g8 (h812.out.below hw'.below (Tab.lt h812.out)) (hb12.out.trans (hw'.below.mono hb12.out.size))).mono (fun e w'' ⟨he, n, hn⟩ => ⟨he, by rw [hn]; exact hw'.next (below_drawn (Below.refl _ _) n)⟩)) ?_
    (intro K hK; go_simp; refine hK _ ?_; clear hK K)
    refine wpQuiet_val (v := .bool true) rfl (fun w' hw' => by go_simp) ?_
    (intro K hK; go_simp; refine hK _ ?_; clear hK K)
    refine wpQuiet_move rfl (.tmp 10) rfl ?_
    (intro K hK; go_simp; refine hK _ ?_; clear hK K)
    refine wpQuiet_val (v := .pointer (some ⟨w.heap.size + 1, 2, none⟩)) rfl (fun w' hw' => by go_simp) ?_
    (intro K hK; go_simp; refine hK _ ?_; clear hK K)
    refine wpQuiet_val (v := .slice A2 n c2) rfl (fun w' hw' => by have h := (Blk.onw hP12.out hw'.below).cell 2; go_simp) ?_
    (intro K hK; go_simp; refine hK _ ?_; clear hK K)
    refine wpQuiet_fn (v := .agg (cells8 mk0).toArray) (args := #[]) rfl _ _ rfl rfl Tryd.func15 (by kernel_rfl) (by kernel_rfl) (fun w' hw' => (hMK.out w').mono (fun e w'' ⟨he, hb⟩ => ⟨he, hw'.next hb⟩)) ?_
    (intro K hK; go_simp; refine hK _ ?_; clear hK K)
    refine wpQuiet_fn (v := .bool true) (args := #[.slice (some ⟨g, 0, none⟩) (n + 80) (n + 80), .slice A2 n c2, .agg (cells8 mk0).toArray]) rfl _ _ rfl rfl Tryd.func22 (by kernel_rfl) (by kernel_rfl) (fun w' hw' => (hIt.out w' g (hG12.out.below hw'.below) (hb12.out.trans (hw'.below.mono hb12.out.size))).mono (fun e w'' ⟨he, hb⟩ => ⟨he, hw'.next hb⟩)) ?_
    (intro K hK; go_simp; refine hK _ ?_; clear hK K)
    refine wpQuiet_val (v := .bool true) rfl (fun w' hw' => by go_simp) ?_
    (intro K hK; go_simp; refine hK _ ?_; clear hK K)
    refine wpQuiet_val (v := .bool true) rfl (fun w' hw' => by go_simp) ?_
    (intro K hK; go_simp; refine hK _ ?_; clear hK K)
    refine wpQuiet_nil ?_
    intro w13 hw13
    have hb13 : Hid (Below w.heap.size w w13) := hb12.out.trans (hw13.below.mono hb12.out.size)
    go_wp2_with fail
    go_ret
    exact ⟨rfl, hb13.out⟩
end Go.Proofs.YtaelcgimgomnnaaDoor.AuditIncludes
