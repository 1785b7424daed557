/-
  Texts of the claim, put into one file: AudTake, AuditGrows.
-/
import Derived.Test.YtgldkfaiofkhbaaDoorZ33
import Derived.Test.YtgldkfaiofkhbaaDoorZ15
import Derived.Test.YtgldkfaiofkhbaaDoorZ3
import Derived.Test.YtgldkfaiofkhbaaDoorZ16
import Derived.Deep.Cut
import Derived.Deep.CutRange

namespace Go.Proofs.YtgldkfaiofkhbaaDoor.AudTake
open Go Go.RowKit Go.Proofs.YtgldkfaiofkhbaaDoor Go.Proofs.YtgldkfaiofkhbaaDoor.Mem Go.Proofs.YtgldkfaiofkhbaaDoor.Sha Go.Proofs.YtgldkfaiofkhbaaDoor.Bytes Go.Proofs.YtgldkfaiofkhbaaDoor.HashMem Go.Proofs.YtgldkfaiofkhbaaDoor.DigestMem Go.Proofs.YtgldkfaiofkhbaaDoor.SortP Go.Proofs.YtgldkfaiofkhbaaDoor.NoteP Go.Proofs.YtgldkfaiofkhbaaDoor.QuietTail Go.Proofs.YtgldkfaiofkhbaaDoor.Grown Go.Proofs.YtgldkfaiofkhbaaDoor.TreeMem Go.Proofs.YtgldkfaiofkhbaaDoor.Held Go.Proofs.YtgldkfaiofkhbaaDoor.Want Go.Proofs.YtgldkfaiofkhbaaDoor.Append Go.Proofs.YtgldkfaiofkhbaaDoor.Own Go.Proofs.YtgldkfaiofkhbaaDoor.Rise Go.Proofs.YtgldkfaiofkhbaaDoor.SortM Go.Proofs.YtgldkfaiofkhbaaDoor.SgM Go.Proofs.YtgldkfaiofkhbaaDoor.HeadMem Go.Proofs.YtgldkfaiofkhbaaDoor.EncNoteP Go.Proofs.YtgldkfaiofkhbaaDoor.EncNote Go.Proofs.YtgldkfaiofkhbaaDoor.RefNote Go.Proofs.YtgldkfaiofkhbaaDoor.NoteM Go.Proofs.YtgldkfaiofkhbaaDoor.Fill Go.Proofs.YtgldkfaiofkhbaaDoor.HeadTake Go.Proofs.YtgldkfaiofkhbaaDoor.Decode Go.Proofs.YtgldkfaiofkhbaaDoor.SignEq Go.Proofs.YtgldkfaiofkhbaaDoor.CmpW Go.Proofs.YtgldkfaiofkhbaaDoor.RingM Go.Proofs.YtgldkfaiofkhbaaDoor.RingS Go.Proofs.YtgldkfaiofkhbaaDoor.VerP Go.Proofs.YtgldkfaiofkhbaaDoor.Verify Go.Proofs.YtgldkfaiofkhbaaDoor.Signs Go.Proofs.YtgldkfaiofkhbaaDoor.HeadID Go.Proofs.YtgldkfaiofkhbaaDoor.Ref17 Go.Proofs.YtgldkfaiofkhbaaDoor.RefCons Go.Proofs.YtgldkfaiofkhbaaDoor.EncConsAny Go.Proofs.YtgldkfaiofkhbaaDoor.AudJoins Go.Proofs.YtgldkfaiofkhbaaDoor.HeadCmp Go.Proofs.YtgldkfaiofkhbaaDoor.GrowP Go.Proofs.YtgldkfaiofkhbaaDoor.AudM Go.Proofs.YtgldkfaiofkhbaaDoor.AudNote Go.Proofs.YtgldkfaiofkhbaaDoor.DigEq

theorem qHDt : Tryd.prog.eqGuardType Tryd.prog.depth 36 = false := by kernel_rfl
theorem qDGt : Tryd.prog.eqGuardType Tryd.prog.depth 23 = false := by kernel_rfl
theorem sizeCt : (Tryd.prog.info? 44).map (·.size) = some 3 := by kernel_rfl
theorem size32t : (Tryd.prog.info? 23).map (·.size) = some 32 := by kernel_rfl
structure FitH (cs : Array Value) : Prop where
  size : (Tryd.prog.info? 36).map (·.size) = some cs.size
  zero : Z98.size = cs.size
  one : cs.all (fun v => v.oneCell') = true
theorem fitH {h : HeadD} (ok : h.Ok) : FitH (headCells h).toArray := ⟨by rw [List.size_toArray, headCells_len ok]; exact size98, z98_size.trans (show 98 = (headCells h).length from (headCells_len ok).symm), by rw [List.all_toArray]; exact List.all_eq_true.2 (headCells_one h)⟩
theorem ver_few {es : List Text} {h : HeadD} {rs : List Text} {least : Int} (hv : (verAns es h rs least).2 = 0) : rs.length ≤ 16 := by
  unfold verAns at hv
  by_cases h1 : least < 1 ∨ 16 < least
  · rw [if_pos h1] at hv; exact absurd hv (by decide)
  rw [if_neg h1] at hv
  by_cases h2 : (noteAns h rs).2 = 0
  · rcases note_cases h rs rs.length rfl with ⟨-, e⟩ | ⟨-, -, e⟩ | ⟨-, -, e⟩ | ⟨-, -, -, -, e⟩ | ⟨-, -, h3, -⟩
    · rw [e] at h2; cases h2
    · rw [e] at h2; cases h2
    · rw [e] at h2; cases h2
    · rw [e] at h2; cases h2
    · exact h3
  · rw [if_neg h2] at hv; exact absurd hv (by decide)
/-- A refusal, or the trusted head itself: nothing turns. -/
theorem take_no {a : Nat} {s least : Int} {R : Nat} {es : List Text} {H h : HeadD} {rs : List Text} {x y : Int} {ds : List Text} {w w' : World} {e : Ending} {k : Int} (ht : takeA s least es H h rs x y ds = k) (hn : k ≠ 0 ∨ headB h H = true) (he : e = .returned (.int .i64 k)) (hb : Below w.heap.size w w') : TakeOut a s least R es H h rs x y ds w e w' := by
  refine ⟨by rw [ht]; exact he, .inl ⟨?_, hb⟩⟩
  unfold newB
  rw [ht]
  rcases hn with hn | hn
  · rw [decide_eq_false hn]; rfl
  · rw [hn]; simp
theorem take_new {a : Nat} {s least : Int} {R : Nat} {es : List Text} {H : HeadD} {A : Option Addr} {n c : Nat} {ss : List Text} {h : HeadD} {rs : List Text} {x y : Int} {ds : List Text} {w w7 w8 : World} {e : Ending} {A8 : Option Addr} {m c8 : Nat} (hA : AudAt w a s least R H A n c ss) (ok : h.Ok) (hm : m ≤ 16) (ht : takeA s least es H h rs x y ds = 0) (hn : headB h H = false) (he : e = .returned (.int .i64 0)) (hb : Below w.heap.size w w7) (hO : OwnS w7 w.heap.size (.slice A8 m c8) m rs) (hk : Kept (· = a) w7 w8) (hB : Blk w8 a 110 (audC s least R h (.slice A8 m c8)).toArray) : TakeOut a s least R es H h rs x y ds w e w8 := by
  obtain ⟨A9, c9, e9, -, -, hnil, hS, hbl⟩ := OwnS.reads hO
  injection e9 with e1 _ e3
  subst e1 e3
  have hlt := hA.blk.lt
  refine ⟨by rw [ht]; exact he, .inr ⟨?_, (Kept.of_below hb).trans hk (fun i _ e => e), A8, m, c8, ⟨ok, hnil, hm, hB, hS.kept hk (fun b o e => ?_)⟩, hbl⟩⟩
  · unfold newB
    rw [ht, hn]
    rfl
  · have := hbl _ e
    show ¬ b = a
    dsimp only at this
    omega
set_option maxRecDepth 100000 in
set_option maxHeartbeats 16000000 in
theorem take_any (es : List Text) (l : List KD) (hpm : (l.map (·.q)).Perm es) (hst : Strict idK l) (hl64 : l.length ≤ 64) (hkb : ∀ x ∈ l, keyB x.q.length = true) (a : Nat) (s least : Int) (R : Nat) (H : HeadD) (A : Option Addr) (n c : Nat) (ss : List Text) (h : HeadD) (ok : h.Ok) (rs : List Text) (m : Nat) (Ao : Option Addr) (co : Nat) (hnilo : Ao = none → m = 0 ∧ co = 0) (x y : Int) (ds : List Text) (A2 : Option Addr) (n2 c2 : Nat) (hn47 : n2 < 140737488355328) (w : World) (hB : Base w) (hR : RingAt w R l) (hA : AudAt w a s least R H A n c ss) (hS : Sgs w Ao m rs) (hrd : RdD w A2 n2 ds) :
    Calls Tryd.prog 12 #[.pointer (some ⟨a, 0, none⟩), .agg (noteCells h (.slice Ao m co)).toArray, .agg (inclCells x y A2 n2 c2)] w (TakeOut a s least R es H h rs x y ds w) := by
  unfold inclCells
  obtain ⟨w0, hw0⟩ : ∃ w0, Hid ((w.alloc (.cells (noteCells h (.slice Ao m co)).toArray 40)).alloc (.cells #[Value.int .i64 x, Value.int .i64 y, Value.slice A2 n2 c2] 44) = w0) := ⟨_, Lib.hid rfl⟩
  have hs0 : (w.alloc (.cells (noteCells h (.slice Ao m co)).toArray 40)).heap.size = w.heap.size + 1 := by simp
  have N0 : Hid (NoteAt w0 w.heap.size h Ao m co rs) := by show NoteAt _ _ _ _ _ _ _; rw [← hw0.out]; exact (NoteAt.new hS).below (Below.heap_below _ _)
  have C0 : Hid (Blk w0 (w.heap.size + 1) 44 #[Value.int .i64 x, Value.int .i64 y, Value.slice A2 n2 c2]) := by
    show Blk _ _ _ _
    rw [← hw0.out, ← hs0]
    exact Blk.new _ _ _
  have b0 : Hid (Below w.heap.size w w0) := by show Below _ _ _; rw [← hw0.out]; exact (Below.heap_below w _).alloc (by rw [hs0]; omega) _
  have hw0' := hw0.out
  have A0 := Lib.hid (hA.below b0.out)
  have hA' := Lib.hid hA
  have hBs : Hid (∀ w', Below w.heap.size w w' → Base w') := fun w' hb => hB.below hb hB.1
  have hRs : Hid (∀ w', Below w.heap.size w w' → RingAt w' R l) := fun w' hb => hR.below hb
  have hDs : Hid (∀ w', Below w.heap.size w w' → RdD w' A2 n2 ds) := fun w' hb => hrd.below hb
  have hAs : Hid (∀ w', Below w.heap.size w w' → AudAt w' a s least R H A n c ss) := fun w' hb => hA.below hb
  have ok' := Lib.hid ok
  have okH := Lib.hid hA.ok
  have hnl := Lib.hid hnilo
  have hVe : Hid (∀ w', Below w.heap.size w w' → Sgs w' Ao m rs → Calls Tryd.prog 53 #[.pointer (some ⟨R, 0, none⟩), .agg (noteCells h (.slice Ao m co)).toArray, .int .i64 least] w' (VerOut es h rs least w')) := fun w' hb hS' => verify_any es l hpm hst hl64 hkb h ok rs m Ao co hnilo least R w' (hB.below hb hB.1) (hR.below hb) hS'
  have hml := Lib.hid hS.len
  have zL : Hid ((Tryd.prog.info? 40).map (·.size) = some (noteCells h (.slice Ao m co)).toArray.size) := note_size ok _
  have z2 := Lib.hid (fun v => note_zero ok v)
  have oN := Lib.hid (fun A n c => note_one (h := h) A n c)
  have sH : Hid ((Tryd.prog.info? 36).map (·.size) = some (headCells H).length) := by show _ = _; rw [headCells_len hA.ok]; exact size98
  have sh : Hid ((Tryd.prog.info? 36).map (·.size) = some (headCells h).length) := by show _ = _; rw [headCells_len ok]; exact size98
  have FH := Lib.hid (fitH hA.ok)
  have Fh := Lib.hid (fitH ok)
  have lz1 := Lib.hid ok.log
  have lz2 := Lib.hid hA.ok.log
  have hn7 := Lib.hid hn47
  obtain ⟨kv, hkv⟩ : ∃ k, Hid ((verAns es h rs least).2 = k) := ⟨_, Lib.hid rfl⟩
  have hT1 : Hid (¬ kv = 0 → takeA s least es H h rs x y ds = kv) := fun k => by unfold takeA; rw [hkv.out, if_pos k]
  have hT2 : Hid (kv = 0 → takeA s least es H h rs x y ds = headA s H h x y ds) := fun k => by unfold takeA; rw [hkv.out, if_neg (fun q => q k)]
  have c0h := Lib.hid A0.out.ring
  have c0l := Lib.hid A0.out.wants
  clear hw0 hB hR hA hS hrd ok hnilo hpm hst hl64 hkb hs0 hn47
  go_enter Tryd.func12, Tryd.ntmps12
  go_upto_region 1 with fail
  have s0 : Hid (Below w0.heap.size w0 w0.drew) := (Below.refl _ _).drew
  refine held_start (fun w' => Below w0.heap.size w0 w') 15 rfl (by kernel_rfl) ?_
  refine held_take (i := 0) (v := .pointer (some ⟨a, 0, none⟩)) rfl (by kernel_rfl) (by kernel_rfl) (by kernel_rfl) (fun _ _ _ h => h) s0.out (by rfl) (fun w' hw' => run_mv (.tmp 0) rfl w') ?_
  (intro K hK; go_simp; refine hK _ ?_; clear hK K)
  refine held_take (i := 1) (v := .pointer (some ⟨a, 0, none⟩)) rfl (by kernel_rfl) (by kernel_rfl) (by kernel_rfl) (fun _ _ _ h => h) s0.out (by rfl) (fun w' hw' => by go_simp) ?_
  (intro K hK; go_simp; refine hK _ ?_; clear hK K)
  refine held_take (i := 2) (v := .pointer (some ⟨a, 2, none⟩)) rfl (by kernel_rfl) (by kernel_rfl) (by kernel_rfl) (fun _ _ _ h => h) s0.out (by rfl) (fun w' hw' => by go_simp) ?_
  (intro K hK; go_simp; refine hK _ ?_; clear hK K)
  refine held_take (i := 3) (v := .pointer (some ⟨R, 0, none⟩)) rfl (by kernel_rfl) (by kernel_rfl) (by kernel_rfl) (fun _ _ _ h => h) s0.out (by rfl) (fun w' hw' => by have hc := (hw'.cell (p := ⟨a, 2, none⟩) A0.out.blk.lt).trans c0h.out; go_simp) ?_
  (intro K hK; go_simp; refine hK _ ?_; clear hK K)
  refine held_take (i := 4) (v := .agg ((noteCells h (.slice Ao m co)).toArray)) rfl (by kernel_rfl) (by kernel_rfl) (by kernel_rfl) (fun _ _ _ h => h) s0.out (by rfl) (fun w' hw' => exec_row 40 (.tmp 4) rfl (w.heap.size) rfl 40 ((noteCells h (.slice Ao m co)).toArray) (0, 0) _ ((show Blk w' w.heap.size 40 (noteCells h (.slice Ao m co)).toArray from (hw'.block _ N0.out.blk.lt).trans N0.out.blk)) Tryd.underlying40 rfl zL.out) ?_
  (intro K hK; go_simp; refine hK _ ?_; clear hK K)
  refine held_take (i := 5) (v := .pointer (some ⟨a, 0, none⟩)) rfl (by kernel_rfl) (by kernel_rfl) (by kernel_rfl) (fun _ _ _ h => h) s0.out (by rfl) (fun w' hw' => run_mv (.tmp 0) rfl w') ?_
  (intro K hK; go_simp; refine hK _ ?_; clear hK K)
  refine held_take (i := 6) (v := .pointer (some ⟨a, 0, none⟩)) rfl (by kernel_rfl) (by kernel_rfl) (by kernel_rfl) (fun _ _ _ h => h) s0.out (by rfl) (fun w' hw' => by go_simp) ?_
  (intro K hK; go_simp; refine hK _ ?_; clear hK K)
  refine held_take (i := 7) (v := .pointer (some ⟨a, 1, none⟩)) rfl (by kernel_rfl) (by kernel_rfl) (by kernel_rfl) (fun _ _ _ h => h) s0.out (by rfl) (fun w' hw' => by go_simp) ?_
  (intro K hK; go_simp; refine hK _ ?_; clear hK K)
  refine held_take (i := 8) (v := .int .i64 least) rfl (by kernel_rfl) (by kernel_rfl) (by kernel_rfl) (fun _ _ _ h => h) s0.out (by rfl) (fun w' hw' => by have hc := (hw'.cell (p := ⟨a, 1, none⟩) A0.out.blk.lt).trans c0l.out; go_simp) ?_
  (intro K hK; go_simp; refine hK _ ?_; clear hK K)
  refine held_only (i := 9) rfl (by kernel_rfl) (by rfl) (fun K hK => ?_)
  refine wp_fn (R := fun v w'' => (∃ u, v = .tuple #[u, .int .i64 kv]) ∧ Below w0.heap.size w0 w'') (args := #[.pointer (some ⟨R, 0, none⟩), .agg (noteCells h (.slice Ao m co)).toArray, .int .i64 least]) _ _ rfl rfl Tryd.func53 (by kernel_rfl) (by kernel_rfl) ((hVe.out _ (b0.out.trans (s0.out.mono b0.out.size)) (N0.out.below s0.out).sgs).mono fun e w'' ⟨u, he, hb, _⟩ => ⟨_, he, ⟨u, by rw [hkv.out]⟩, s0.out.trans (hb.mono s0.out.size)⟩) ?_
  rintro qq w1 ⟨⟨u, rfl⟩, h1⟩
  replace h1 := Lib.hid h1
  go_simp
  refine hK _ _ h1.out ?_
  clear hK K
  refine held_take (i := 10) (v := .tuple #[u, .int .i64 kv]) rfl (by kernel_rfl) (by kernel_rfl) (by kernel_rfl) (fun _ _ _ h => h) h1.out (by rfl) (fun w' hw' => run_mv (.tmp 24) rfl w') ?_
  (intro K hK; go_simp; refine hK _ ?_; clear hK K)
  refine held_take (i := 11) (v := u) rfl (by kernel_rfl) (by kernel_rfl) (by kernel_rfl) (fun _ _ _ h => h) h1.out (by rfl) (fun w' hw' => by go_simp) ?_
  (intro K hK; go_simp; refine hK _ ?_; clear hK K)
  refine held_take (i := 12) (v := .int .i64 kv) rfl (by kernel_rfl) (by kernel_rfl) (by kernel_rfl) (fun _ _ _ h => h) h1.out (by rfl) (fun w' hw' => by go_simp) ?_
  (intro K hK; go_simp; refine hK _ ?_; clear hK K)
  refine held_take (i := 13) (v := u) rfl (by kernel_rfl) (by kernel_rfl) (by kernel_rfl) (fun _ _ _ h => h) h1.out (by rfl) (fun w' hw' => by go_simp) ?_
  (intro K hK; go_simp; refine hK _ ?_; clear hK K)
  refine held_take (i := 14) (v := .int .i64 kv) rfl (by kernel_rfl) (by kernel_rfl) (by kernel_rfl) (fun _ _ _ h => h) h1.out (by rfl) (fun w' hw' => by go_simp) ?_
  (intro K hK; go_simp; refine hK _ ?_; clear hK K)
  refine held_end (by kernel_rfl) ?_
  have bb1 : Hid (Below w.heap.size w w1) := b0.out.trans (h1.out.mono b0.out.size)
  have N1 := Lib.hid (N0.out.below h1.out)
  have C1 : Hid (Blk w1 (w.heap.size + 1) 44 #[Value.int .i64 x, Value.int .i64 y, Value.slice A2 n2 c2]) := (h1.out.block _ C0.out.lt).trans C0.out
  have A1 := Lib.hid (A0.out.below h1.out)
  clear h1 s0 hw0' N0 C0 A0 c0h c0l b0
  by_cases hk0 : ¬ (kv = 0)
  · go_wp2_with fail
    go_ret
    exact take_no (hT1.out hk0) (.inl hk0) rfl bb1.out
  have hk1 : kv = 0 := Decidable.not_not.1 hk0
  subst hk1
  clear hk0 hT1
  have hm16 : Hid (m ≤ 16) := by show _ ≤ _; rw [← hml.out]; exact ver_few hkv.out
  have hT := Lib.hid (hT2.out rfl)
  clear hT2 hkv hVe
  go_upto_region 4 with fail
  go_cut [9, 10] from 30 to 37 (fun v u wr => ∃ g9 g10, v = .pointer (some ⟨g9, 0, none⟩) ∧ u = .pointer (some ⟨g10, 0, none⟩) ∧ Hid (Blk wr g9 36 (headCells H).toArray) ∧ Hid (Blk wr g10 36 (headCells h).toArray) ∧ Hid (Below w1.heap.size w1 wr))
  case first =>
    have s0 : Hid (Below w1.heap.size w1 w1.drew) := (Below.refl _ _).drew
    refine held_start (fun w' => Below w1.heap.size w1 w') 11 rfl (by kernel_rfl) ?_
    refine held_take (i := 0) (v := .pointer (some ⟨a, 0, none⟩)) rfl (by kernel_rfl) (by kernel_rfl) (by kernel_rfl) (fun _ _ _ h => h) s0.out (by rfl) (fun w' hw' => run_mv (.tmp 0) rfl w') ?_
    (intro K hK; go_simp; refine hK _ ?_; clear hK K)
    refine held_take (i := 1) (v := .pointer (some ⟨a, 0, none⟩)) rfl (by kernel_rfl) (by kernel_rfl) (by kernel_rfl) (fun _ _ _ h => h) s0.out (by rfl) (fun w' hw' => by go_simp) ?_
    (intro K hK; go_simp; refine hK _ ?_; clear hK K)
    refine held_take (i := 2) (v := .pointer (some ⟨a, 3, none⟩)) rfl (by kernel_rfl) (by kernel_rfl) (by kernel_rfl) (fun _ _ _ h => h) s0.out (by rfl) (fun w' hw' => by go_simp) ?_
    (intro K hK; go_simp; refine hK _ ?_; clear hK K)
    refine held_take (i := 3) (v := .pointer (some ⟨a, 3, none⟩)) rfl (by kernel_rfl) (by kernel_rfl) (by kernel_rfl) (fun _ _ _ h => h) s0.out (by rfl) (fun w' hw' => by go_simp) ?_
    (intro K hK; go_simp; refine hK _ ?_; clear hK K)
    refine held_take (i := 4) (v := .agg (headCells H).toArray) rfl (by kernel_rfl) (by kernel_rfl) (by kernel_rfl) (fun _ _ _ h => h) s0.out (by rfl) (fun w' hw' => exec_part 36 (.tmp 33) rfl (a) (3) rfl (headCells H) _ ((A1.out.below hw').head) Tryd.underlying36 rfl sH.out) ?_
    (intro K hK; go_simp; refine hK _ ?_; clear hK K)
    refine held_take (i := 5) (v := .pointer (some ⟨w.heap.size, 0, none⟩)) rfl (by kernel_rfl) (by kernel_rfl) (by kernel_rfl) (fun _ _ _ h => h) s0.out (by rfl) (fun w' hw' => by go_simp) ?_
    (intro K hK; go_simp; refine hK _ ?_; clear hK K)
    refine held_take (i := 6) (v := .agg (headCells h).toArray) rfl (by kernel_rfl) (by kernel_rfl) (by kernel_rfl) (fun _ _ _ h => h) s0.out (by rfl) (fun w' hw' => exec_part 36 (.tmp 35) rfl (w.heap.size) (0) rfl (headCells h) _ ((N1.out.below hw').head) Tryd.underlying36 rfl sh.out) ?_
    (intro K hK; go_simp; refine hK _ ?_; clear hK K)
    refine held_two (i := 7) (j := 8) rfl rfl (by kernel_rfl) (by rfl) (by rfl) (fun K hK => ?_) (fun K hK => ?_)
    · have h1 := Lib.hid (s0.out.alloc s0.out.size (.cells Tryd.zeroCells36 36))
      go_simp
      refine hK _ _ h1.out ?_
      clear hK K
      refine held_only (i := 8) rfl (by kernel_rfl) (by rfl) (fun K hK => ?_)
      have h2 := Lib.hid (h1.out.alloc h1.out.size (.cells Tryd.zeroCells36 36))
      go_simp
      refine hK _ _ h2.out ?_
      clear hK K
      have e1 : (w1.alloc (.cells Tryd.zeroCells36 36)).heap.size = w1.heap.size + 1 := by simp
      have p1 : Hid (Blk ((w1.alloc (.cells Tryd.zeroCells36 36)).alloc (.cells Tryd.zeroCells36 36)).drew w1.heap.size 36 Z98) := ((Blk.new w1 _ _).alloc _).drew
      have p2 : Hid (Blk ((w1.alloc (.cells Tryd.zeroCells36 36)).alloc (.cells Tryd.zeroCells36 36)).drew (w1.heap.size + 1) 36 Z98) := by show Blk _ _ _ _; rw [← e1]; exact (Blk.new _ _ _).drew
      replace h2 : Hid (Below w1.heap.size w1 ((w1.alloc (.cells Tryd.zeroCells36 36)).alloc (.cells Tryd.zeroCells36 36)).drew) := (((Below.refl _ w1).alloc (Nat.le_refl _) _).alloc (by simp) _).drew
      clear e1
      generalize ((w1.alloc (.cells Tryd.zeroCells36 36)).alloc (.cells Tryd.zeroCells36 36)).drew = w3 at *
      refine held_only (i := 9) rfl (by kernel_rfl) (by rfl) (fun K hK => ?_)
      refine wp_store_whole 36 (.tmp 9) (.tmp 34) rfl w1.heap.size (headCells H).toArray rfl rfl 36 Z98 p1.out FH.out.size FH.out.zero FH.out.one ?_
      intro w5 B5 k5
      have h3 : Hid (Below w1.heap.size w1 w5) := h2.out.trans (Kept.below_of k5 (by omega) h2.out.size)
      have q2 : Hid (Blk w5 (w1.heap.size + 1) 36 Z98) := Blk.kept p2.out k5 (by omega)
      replace B5 := Lib.hid B5
      clear k5
      go_simp
      refine hK _ _ h3.out ?_
      clear hK K
      refine held_only (i := 10) rfl (by kernel_rfl) (by rfl) (fun K hK => ?_)
      refine wp_store_whole 36 (.tmp 10) (.tmp 36) rfl (w1.heap.size + 1) (headCells h).toArray rfl rfl 36 Z98 q2.out Fh.out.size Fh.out.zero Fh.out.one ?_
      intro w6 B6 k6
      have h4 : Hid (Below w1.heap.size w1 w6) := h3.out.trans (Kept.below_of k6 (by omega) h3.out.size)
      have q3 : Hid (Blk w6 w1.heap.size 36 (headCells H).toArray) := Blk.kept B5.out k6 (by omega)
      replace B6 := Lib.hid B6
      clear k6
      go_simp
      refine hK _ _ h4.out ?_
      clear hK K
      refine held_end (by kernel_rfl) ?_
      go_wp2_with fail
      go_meet
      case rel => exact ⟨_, _, rfl, rfl, q3.out, B6.out, h4.out⟩
    · have h1 := Lib.hid (s0.out.alloc s0.out.size (.cells Tryd.zeroCells36 36))
      go_simp
      refine hK _ _ h1.out ?_
      clear hK K
      refine held_only (i := 7) rfl (by kernel_rfl) (by rfl) (fun K hK => ?_)
      have h2 := Lib.hid (h1.out.alloc h1.out.size (.cells Tryd.zeroCells36 36))
      go_simp
      refine hK _ _ h2.out ?_
      clear hK K
      have e1 : (w1.alloc (.cells Tryd.zeroCells36 36)).heap.size = w1.heap.size + 1 := by simp
      have p1 : Hid (Blk ((w1.alloc (.cells Tryd.zeroCells36 36)).alloc (.cells Tryd.zeroCells36 36)).drew w1.heap.size 36 Z98) := ((Blk.new w1 _ _).alloc _).drew
      have p2 : Hid (Blk ((w1.alloc (.cells Tryd.zeroCells36 36)).alloc (.cells Tryd.zeroCells36 36)).drew (w1.heap.size + 1) 36 Z98) := by show Blk _ _ _ _; rw [← e1]; exact (Blk.new _ _ _).drew
      replace h2 : Hid (Below w1.heap.size w1 ((w1.alloc (.cells Tryd.zeroCells36 36)).alloc (.cells Tryd.zeroCells36 36)).drew) := (((Below.refl _ w1).alloc (Nat.le_refl _) _).alloc (by simp) _).drew
      clear e1
      generalize ((w1.alloc (.cells Tryd.zeroCells36 36)).alloc (.cells Tryd.zeroCells36 36)).drew = w3 at *
      refine held_only (i := 9) rfl (by kernel_rfl) (by rfl) (fun K hK => ?_)
      refine wp_store_whole 36 (.tmp 9) (.tmp 34) rfl (w1.heap.size + 1) (headCells H).toArray rfl rfl 36 Z98 p2.out FH.out.size FH.out.zero FH.out.one ?_
      intro w5 B5 k5
      have h3 : Hid (Below w1.heap.size w1 w5) := h2.out.trans (Kept.below_of k5 (by omega) h2.out.size)
      have q2 : Hid (Blk w5 w1.heap.size 36 Z98) := Blk.kept p1.out k5 (by omega)
      replace B5 := Lib.hid B5
      clear k5
      go_simp
      refine hK _ _ h3.out ?_
      clear hK K
      refine held_only (i := 10) rfl (by kernel_rfl) (by rfl) (fun K hK => ?_)
      refine wp_store_whole 36 (.tmp 10) (.tmp 36) rfl w1.heap.size (headCells h).toArray rfl rfl 36 Z98 q2.out Fh.out.size Fh.out.zero Fh.out.one ?_
      intro w6 B6 k6
      have h4 : Hid (Below w1.heap.size w1 w6) := h3.out.trans (Kept.below_of k6 (by omega) h3.out.size)
      have q3 : Hid (Blk w6 (w1.heap.size + 1) 36 (headCells H).toArray) := Blk.kept B5.out k6 (by omega)
      replace B6 := Lib.hid B6
      clear k6
      go_simp
      refine hK _ _ h4.out ?_
      clear hK K
      refine held_end (by kernel_rfl) ?_
      go_wp2_with fail
      go_meet
      case rel => exact ⟨_, _, rfl, rfl, q3.out, B6.out, h4.out⟩
  case rest =>
    obtain ⟨g9, g10, rfl, rfl, hg9, hg10, hbe⟩ := hcut
    obtain ⟨w4, rfl⟩ : ∃ w4, w4 = wc := ⟨_, rfl⟩
    have bb4 : Hid (Below w.heap.size w w4) := bb1.out.trans (hbe.out.mono bb1.out.size)
    have N4 := Lib.hid (N1.out.below hbe.out)
    have C4 : Hid (Blk w4 (w.heap.size + 1) 44 #[Value.int .i64 x, Value.int .i64 y, Value.slice A2 n2 c2]) := (hbe.out.block _ C1.out.lt).trans C1.out
    clear hbe bb1 N1 C1 A1
    have hq1 : Hid ((binOp .neq 23 (.agg (cells8 h.log).toArray) (.agg (cells8 H.log).toArray)).run Tryd.prog w4 = .ok (.bool (!decide (h.log = H.log))) w4) := neq_dig _ _ lz1.out lz2.out w4
    have pl10 : Hid (∀ j u, (cells8 h.log)[j]? = some u → w4.cell? ⟨g10, 0 + j, none⟩ = some u) := fun j u hu => by rw [hg10.out.cell (0 + j), List.getElem?_toArray]; exact headCells_log j u hu
    have pl9 : Hid (∀ j u, (cells8 H.log)[j]? = some u → w4.cell? ⟨g9, 0 + j, none⟩ = some u) := fun j u hu => by rw [hg9.out.cell (0 + j), List.getElem?_toArray]; exact headCells_log j u hu
    have sl10 : Hid ((Tryd.prog.info? 23).map (·.size) = some (cells8 h.log).length) := by show _ = _; rw [cells8_len, lz1.out]; exact size32t
    have sl9 : Hid ((Tryd.prog.info? 23).map (·.size) = some (cells8 H.log).length) := by show _ = _; rw [cells8_len, lz2.out]; exact size32t
    have cs10 : w4.cell? ⟨g10, 32, none⟩ = some (.int .i64 h.size) := by rw [hg10.out.cell 32, List.getElem?_toArray]; exact headCells_size ok'.out
    have cs9 : w4.cell? ⟨g9, 32, none⟩ = some (.int .i64 H.size) := by rw [hg9.out.cell 32, List.getElem?_toArray]; exact headCells_size okH.out
    have cc10 : w4.cell? ⟨g10, 97, none⟩ = some (.int .i64 h.clock) := by rw [hg10.out.cell 97, List.getElem?_toArray]; exact headCells_clock ok'.out
    have cc9 : w4.cell? ⟨g9, 97, none⟩ = some (.int .i64 H.clock) := by rw [hg9.out.cell 97, List.getElem?_toArray]; exact headCells_clock okH.out
    have hqh : Hid ((binOp .eql 36 (.agg (headCells h).toArray) (.agg (headCells H).toArray)).run Tryd.prog w4 = .ok (.bool (headB h H)) w4) := eql_head2 h H ok'.out okH.out w4
    by_cases hlog : h.log = H.log
    · have x1 := decide_eq_true hlog
      rw [x1] at hq1
      by_cases hsz : h.size < H.size
      · have hA5 : Hid (headA s H h x y ds = 172) := by show _ = _; unfold headA; rw [if_neg (fun k => k hlog), if_pos hsz]
        replace hlog := Lib.hid hlog
        clear x1
        go_wp2_with (first
    | (((with_reducible change wpList _ _ _ ({ dst := some 39, op := _, type := _, pos := _, after := _, guard := _ } :: _) _ _); refine wpList_load_part (o := ⟨some 39, _, _, _, _, _⟩) rfl 23 (.tmp 38) rfl (g10) (0) rfl (cells8 h.log) _ pl10.out Tryd.underlying23 rfl sl10.out ?_))
    | (((with_reducible change wpList _ _ _ ({ dst := some 41, op := _, type := _, pos := _, after := _, guard := _ } :: _) _ _); refine wpList_load_part (o := ⟨some 41, _, _, _, _, _⟩) rfl 23 (.tmp 40) rfl (g9) (0) rfl (cells8 H.log) _ pl9.out Tryd.underlying23 rfl sl9.out ?_))
    | ((with_reducible change wpList _ _ _ ({ dst := some 42, op := _, type := _, pos := _, after := _, guard := _ } :: _) _ _); (with_reducible refine Veil.out ?_); refine wpList_cmpW (o := ⟨some 42, _, _, _, _, _⟩) rfl .neq 23 23 (.tmp 39) (.tmp 41) rfl ((cells8 h.log).toArray) ((cells8 H.log).toArray) rfl rfl qDGt (_) (hq1.out) ?_)
    | (((with_reducible change wpList _ _ _ ({ dst := some 50, op := _, type := _, pos := _, after := _, guard := _ } :: _) _ _); refine wpList_load_row (o := ⟨some 50, _, _, _, _, _⟩) rfl 36 (.tmp 10) rfl (g10) rfl 36 ((headCells h).toArray) (0, 0) _ hg10.out Tryd.underlying36 rfl Fh.out.size ?_))
    | (((with_reducible change wpList _ _ _ ({ dst := some 51, op := _, type := _, pos := _, after := _, guard := _ } :: _) _ _); refine wpList_load_row (o := ⟨some 51, _, _, _, _, _⟩) rfl 36 (.tmp 9) rfl (g9) rfl 36 ((headCells H).toArray) (0, 0) _ hg9.out Tryd.underlying36 rfl FH.out.size ?_))
    | ((with_reducible change wpList _ _ _ ({ dst := some 52, op := _, type := _, pos := _, after := _, guard := _ } :: _) _ _); (with_reducible refine Veil.out ?_); refine wpList_cmpW (o := ⟨some 52, _, _, _, _, _⟩) rfl .eql 36 36 (.tmp 50) (.tmp 51) rfl ((headCells h).toArray) ((headCells H).toArray) rfl rfl qHDt (_) (hqh.out) ?_))
        go_ret
        exact take_no (hT.out.trans hA5.out) (.inl (by decide)) rfl bb4.out
      have x2 : (h.size < H.size) = False := eq_false hsz
      cases hhb : headB h H with
      | true =>
        rw [hhb] at hqh
        have hA5 : Hid (headA s H h x y ds = 0) := by show _ = _; unfold headA; rw [if_neg (fun k => k hlog), if_neg hsz, if_pos hhb]
        have hhb' := Lib.hid hhb
        clear hlog x1 hsz hhb
        go_wp2_with (first
    | (((with_reducible change wpList _ _ _ ({ dst := some 39, op := _, type := _, pos := _, after := _, guard := _ } :: _) _ _); refine wpList_load_part (o := ⟨some 39, _, _, _, _, _⟩) rfl 23 (.tmp 38) rfl (g10) (0) rfl (cells8 h.log) _ pl10.out Tryd.underlying23 rfl sl10.out ?_))
    | (((with_reducible change wpList _ _ _ ({ dst := some 41, op := _, type := _, pos := _, after := _, guard := _ } :: _) _ _); refine wpList_load_part (o := ⟨some 41, _, _, _, _, _⟩) rfl 23 (.tmp 40) rfl (g9) (0) rfl (cells8 H.log) _ pl9.out Tryd.underlying23 rfl sl9.out ?_))
    | ((with_reducible change wpList _ _ _ ({ dst := some 42, op := _, type := _, pos := _, after := _, guard := _ } :: _) _ _); (with_reducible refine Veil.out ?_); refine wpList_cmpW (o := ⟨some 42, _, _, _, _, _⟩) rfl .neq 23 23 (.tmp 39) (.tmp 41) rfl ((cells8 h.log).toArray) ((cells8 H.log).toArray) rfl rfl qDGt (_) (hq1.out) ?_)
    | (((with_reducible change wpList _ _ _ ({ dst := some 50, op := _, type := _, pos := _, after := _, guard := _ } :: _) _ _); refine wpList_load_row (o := ⟨some 50, _, _, _, _, _⟩) rfl 36 (.tmp 10) rfl (g10) rfl 36 ((headCells h).toArray) (0, 0) _ hg10.out Tryd.underlying36 rfl Fh.out.size ?_))
    | (((with_reducible change wpList _ _ _ ({ dst := some 51, op := _, type := _, pos := _, after := _, guard := _ } :: _) _ _); refine wpList_load_row (o := ⟨some 51, _, _, _, _, _⟩) rfl 36 (.tmp 9) rfl (g9) rfl 36 ((headCells H).toArray) (0, 0) _ hg9.out Tryd.underlying36 rfl FH.out.size ?_))
    | ((with_reducible change wpList _ _ _ ({ dst := some 52, op := _, type := _, pos := _, after := _, guard := _ } :: _) _ _); (with_reducible refine Veil.out ?_); refine wpList_cmpW (o := ⟨some 52, _, _, _, _, _⟩) rfl .eql 36 36 (.tmp 50) (.tmp 51) rfl ((headCells h).toArray) ((headCells H).toArray) rfl rfl qHDt (_) (hqh.out) ?_))
        go_ret
        exact take_no (hT.out.trans hA5.out) (.inr hhb'.out) rfl bb4.out
      | false =>
        rw [hhb] at hqh
        by_cases hfk : h.size = H.size ∨ h.clock < H.clock
        · have hA5 : Hid (headA s H h x y ds = 173) := by show _ = _; unfold headA; rw [if_neg (fun k => k hlog), if_neg hsz, if_neg (by rw [hhb]; decide), if_pos hfk]
          clear hlog x1 hsz hhb
          by_cases he1 : h.size = H.size
          · have y1 : (h.size == H.size) = true := by simpa using he1
            clear he1 hfk x2
            have x2 : (h.size < H.size) = False := eq_false (by have := eq_of_beq y1; omega)
            go_wp2_with (first
    | (((with_reducible change wpList _ _ _ ({ dst := some 39, op := _, type := _, pos := _, after := _, guard := _ } :: _) _ _); refine wpList_load_part (o := ⟨some 39, _, _, _, _, _⟩) rfl 23 (.tmp 38) rfl (g10) (0) rfl (cells8 h.log) _ pl10.out Tryd.underlying23 rfl sl10.out ?_))
    | (((with_reducible change wpList _ _ _ ({ dst := some 41, op := _, type := _, pos := _, after := _, guard := _ } :: _) _ _); refine wpList_load_part (o := ⟨some 41, _, _, _, _, _⟩) rfl 23 (.tmp 40) rfl (g9) (0) rfl (cells8 H.log) _ pl9.out Tryd.underlying23 rfl sl9.out ?_))
    | ((with_reducible change wpList _ _ _ ({ dst := some 42, op := _, type := _, pos := _, after := _, guard := _ } :: _) _ _); (with_reducible refine Veil.out ?_); refine wpList_cmpW (o := ⟨some 42, _, _, _, _, _⟩) rfl .neq 23 23 (.tmp 39) (.tmp 41) rfl ((cells8 h.log).toArray) ((cells8 H.log).toArray) rfl rfl qDGt (_) (hq1.out) ?_)
    | (((with_reducible change wpList _ _ _ ({ dst := some 50, op := _, type := _, pos := _, after := _, guard := _ } :: _) _ _); refine wpList_load_row (o := ⟨some 50, _, _, _, _, _⟩) rfl 36 (.tmp 10) rfl (g10) rfl 36 ((headCells h).toArray) (0, 0) _ hg10.out Tryd.underlying36 rfl Fh.out.size ?_))
    | (((with_reducible change wpList _ _ _ ({ dst := some 51, op := _, type := _, pos := _, after := _, guard := _ } :: _) _ _); refine wpList_load_row (o := ⟨some 51, _, _, _, _, _⟩) rfl 36 (.tmp 9) rfl (g9) rfl 36 ((headCells H).toArray) (0, 0) _ hg9.out Tryd.underlying36 rfl FH.out.size ?_))
    | ((with_reducible change wpList _ _ _ ({ dst := some 52, op := _, type := _, pos := _, after := _, guard := _ } :: _) _ _); (with_reducible refine Veil.out ?_); refine wpList_cmpW (o := ⟨some 52, _, _, _, _, _⟩) rfl .eql 36 36 (.tmp 50) (.tmp 51) rfl ((headCells h).toArray) ((headCells H).toArray) rfl rfl qHDt (_) (hqh.out) ?_))
            go_ret
            exact take_no (hT.out.trans hA5.out) (.inl (by decide)) rfl bb4.out
          · have y1 : (h.size == H.size) = false := by simpa using he1
            have y2 : h.clock < H.clock := hfk.resolve_left he1
            clear he1 hfk
            go_wp2_with (first
    | (((with_reducible change wpList _ _ _ ({ dst := some 39, op := _, type := _, pos := _, after := _, guard := _ } :: _) _ _); refine wpList_load_part (o := ⟨some 39, _, _, _, _, _⟩) rfl 23 (.tmp 38) rfl (g10) (0) rfl (cells8 h.log) _ pl10.out Tryd.underlying23 rfl sl10.out ?_))
    | (((with_reducible change wpList _ _ _ ({ dst := some 41, op := _, type := _, pos := _, after := _, guard := _ } :: _) _ _); refine wpList_load_part (o := ⟨some 41, _, _, _, _, _⟩) rfl 23 (.tmp 40) rfl (g9) (0) rfl (cells8 H.log) _ pl9.out Tryd.underlying23 rfl sl9.out ?_))
    | ((with_reducible change wpList _ _ _ ({ dst := some 42, op := _, type := _, pos := _, after := _, guard := _ } :: _) _ _); (with_reducible refine Veil.out ?_); refine wpList_cmpW (o := ⟨some 42, _, _, _, _, _⟩) rfl .neq 23 23 (.tmp 39) (.tmp 41) rfl ((cells8 h.log).toArray) ((cells8 H.log).toArray) rfl rfl qDGt (_) (hq1.out) ?_)
    | (((with_reducible change wpList _ _ _ ({ dst := some 50, op := _, type := _, pos := _, after := _, guard := _ } :: _) _ _); refine wpList_load_row (o := ⟨some 50, _, _, _, _, _⟩) rfl 36 (.tmp 10) rfl (g10) rfl 36 ((headCells h).toArray) (0, 0) _ hg10.out Tryd.underlying36 rfl Fh.out.size ?_))
    | (((with_reducible change wpList _ _ _ ({ dst := some 51, op := _, type := _, pos := _, after := _, guard := _ } :: _) _ _); refine wpList_load_row (o := ⟨some 51, _, _, _, _, _⟩) rfl 36 (.tmp 9) rfl (g9) rfl 36 ((headCells H).toArray) (0, 0) _ hg9.out Tryd.underlying36 rfl FH.out.size ?_))
    | ((with_reducible change wpList _ _ _ ({ dst := some 52, op := _, type := _, pos := _, after := _, guard := _ } :: _) _ _); (with_reducible refine Veil.out ?_); refine wpList_cmpW (o := ⟨some 52, _, _, _, _, _⟩) rfl .eql 36 36 (.tmp 50) (.tmp 51) rfl ((headCells h).toArray) ((headCells H).toArray) rfl rfl qHDt (_) (hqh.out) ?_))
            go_ret
            exact take_no (hT.out.trans hA5.out) (.inl (by decide)) rfl bb4.out
        · have hA5 : Hid (headA s H h x y ds = joinA s H h x y ds) := by show _ = _; unfold headA; rw [if_neg (fun k => k hlog), if_neg hsz, if_neg (by rw [hhb]; decide), if_neg hfk]
          have y1 : (h.size == H.size) = false := by have := mt Or.inl hfk; simpa using this
          have y2 : (h.clock < H.clock) = False := eq_false (mt Or.inr hfk)
          have hhb' := Lib.hid hhb
          have hTj := Lib.hid (hT.out.trans hA5.out)
          clear hlog x1 hsz hhb hfk hT hA5
          have hEn : Hid (∀ w', Below w.heap.size w w' → Calls Tryd.prog 22 #[.agg #[Value.int .i64 x, Value.int .i64 y, Value.slice A2 n2 c2]] w' fun e w'' => ∃ A4 c4 b err, e = .returned (.tuple #[.slice A4 b.length c4, .int .i64 err]) ∧ Reads w'' 1 A4 b.length (cells8 b) ∧ ((consWant x y ds = some b ∧ err = 0) ∨ (consWant x y ds = none ∧ b = [] ∧ err = 170)) ∧ Below w'.heap.size w' w'') := fun w' hb => encCons_any x y ds A2 n2 c2 w' (hDs.out w' hb)
          go_upto_region 14 with (first
    | (((with_reducible change wpList _ _ _ ({ dst := some 39, op := _, type := _, pos := _, after := _, guard := _ } :: _) _ _); refine wpList_load_part (o := ⟨some 39, _, _, _, _, _⟩) rfl 23 (.tmp 38) rfl (g10) (0) rfl (cells8 h.log) _ pl10.out Tryd.underlying23 rfl sl10.out ?_))
    | (((with_reducible change wpList _ _ _ ({ dst := some 41, op := _, type := _, pos := _, after := _, guard := _ } :: _) _ _); refine wpList_load_part (o := ⟨some 41, _, _, _, _, _⟩) rfl 23 (.tmp 40) rfl (g9) (0) rfl (cells8 H.log) _ pl9.out Tryd.underlying23 rfl sl9.out ?_))
    | ((with_reducible change wpList _ _ _ ({ dst := some 42, op := _, type := _, pos := _, after := _, guard := _ } :: _) _ _); (with_reducible refine Veil.out ?_); refine wpList_cmpW (o := ⟨some 42, _, _, _, _, _⟩) rfl .neq 23 23 (.tmp 39) (.tmp 41) rfl ((cells8 h.log).toArray) ((cells8 H.log).toArray) rfl rfl qDGt (_) (hq1.out) ?_)
    | (((with_reducible change wpList _ _ _ ({ dst := some 50, op := _, type := _, pos := _, after := _, guard := _ } :: _) _ _); refine wpList_load_row (o := ⟨some 50, _, _, _, _, _⟩) rfl 36 (.tmp 10) rfl (g10) rfl 36 ((headCells h).toArray) (0, 0) _ hg10.out Tryd.underlying36 rfl Fh.out.size ?_))
    | (((with_reducible change wpList _ _ _ ({ dst := some 51, op := _, type := _, pos := _, after := _, guard := _ } :: _) _ _); refine wpList_load_row (o := ⟨some 51, _, _, _, _, _⟩) rfl 36 (.tmp 9) rfl (g9) rfl 36 ((headCells H).toArray) (0, 0) _ hg9.out Tryd.underlying36 rfl FH.out.size ?_))
    | ((with_reducible change wpList _ _ _ ({ dst := some 52, op := _, type := _, pos := _, after := _, guard := _ } :: _) _ _); (with_reducible refine Veil.out ?_); refine wpList_cmpW (o := ⟨some 52, _, _, _, _, _⟩) rfl .eql 36 36 (.tmp 50) (.tmp 51) rfl ((headCells h).toArray) ((headCells H).toArray) rfl rfl qHDt (_) (hqh.out) ?_)
    | (((with_reducible change wpList _ _ _ ({ dst := some 67, op := _, type := _, pos := _, after := _, guard := _ } :: _) _ _); refine wpList_load_row (o := ⟨some 67, _, _, _, _, _⟩) rfl 44 (.tmp 5) rfl (w.heap.size + 1) rfl 44 (#[Value.int .i64 x, Value.int .i64 y, Value.slice A2 n2 c2]) (0, 0) _ C4.out Tryd.underlying44 rfl sizeCt ?_))
    | (go_at_call 22; refine (hEn.out _ bb4.out).mono ?_; rintro e w5 ⟨A5, c5, b5, err, rfl, -, hbe5, hb5⟩; have bb5 : Hid (Below w.heap.size w w5) := bb4.out.trans (hb5.mono bb4.out.size); have N5 := Lib.hid (N4.out.below hb5); have C5 : Hid (Blk w5 (w.heap.size + 1) 44 #[Value.int .i64 x, Value.int .i64 y, Value.slice A2 n2 c2]) := (hb5.block _ C4.out.lt).trans C4.out; have hg9' : Hid (Blk w5 g9 36 (headCells H).toArray) := (hb5.block _ hg9.out.lt).trans hg9.out; have hg10' : Hid (Blk w5 g10 36 (headCells h).toArray) := (hb5.block _ hg10.out.lt).trans hg10.out; have cx := C5.out.cell 0; have cy := C5.out.cell 1; have ct10 : w5.cell? ⟨g10, 32, none⟩ = some (.int .i64 h.size) := (by rw [hg10'.out.cell 32, List.getElem?_toArray]; exact headCells_size ok'.out); have ct9 : w5.cell? ⟨g9, 32, none⟩ = some (.int .i64 H.size) := (by rw [hg9'.out.cell 32, List.getElem?_toArray]; exact headCells_size okH.out); clear hb5 C4 N4))
          clear x2 y1 y2 cs10 cs9 cc10 cc9 hq1 pl10 pl9 hqh
          rcases hbe5 with ⟨hcw, rfl⟩ | ⟨hcw, rfl, rfl⟩
          · by_cases hx1 : x = H.size
            · by_cases hy1 : y = h.size
              · have hJ : Hid (joinA s H h x y ds = audJoins s H.root h.root x y ds) := by show _ = _; unfold joinA; rw [if_neg]; rintro (q | q | q); rw [hcw] at q; cases q; exact q hx1; exact q hy1
                have hTk := Lib.hid (hTj.out.trans hJ.out)
                subst hx1 hy1
                obtain ⟨kj, hkj⟩ : ∃ k, Hid (audJoins s H.root h.root H.size h.size ds = k) := ⟨_, Lib.hid rfl⟩
                rw [hkj.out] at hTk
                have hJn : Hid (∀ w', Below w.heap.size w w' → Calls Tryd.prog 54 #[.int .i64 s, .agg (cells8 H.root).toArray, .agg (cells8 h.root).toArray, .agg #[Value.int .i64 H.size, Value.int .i64 h.size, Value.slice A2 n2 c2]] w' fun e w'' => e = .returned (.int .i64 kj) ∧ Below w'.heap.size w' w'') := fun w' hb => by
                  have := audJoins_any s H.root h.root okH.out.root ok'.out.root H.size h.size ds A2 n2 c2 hn7.out w' (hBs.out w' hb) (hDs.out w' hb)
                  rw [hkj.out] at this
                  exact this
                have sr9 : Hid ((Tryd.prog.info? 23).map (·.size) = some (cells8 H.root).length) := by show _ = _; rw [cells8_len, okH.out.root]; exact size32t
                have sr10 : Hid ((Tryd.prog.info? 23).map (·.size) = some (cells8 h.root).length) := by show _ = _; rw [cells8_len, ok'.out.root]; exact size32t
                have pr10 : Hid (∀ j u, (cells8 h.root)[j]? = some u → w5.cell? ⟨g10, 33 + j, none⟩ = some u) := fun j u hu => by rw [hg10'.out.cell (33 + j), List.getElem?_toArray]; exact headCells_root ok'.out j u hu
                have pr9 : Hid (∀ j u, (cells8 H.root)[j]? = some u → w5.cell? ⟨g9, 33 + j, none⟩ = some u) := fun j u hu => by rw [hg9'.out.cell (33 + j), List.getElem?_toArray]; exact headCells_root okH.out j u hu
                have hln9 := Lib.hid hg9'.out.lt
                have hln10 := Lib.hid hg10'.out.lt
                clear hcw hJ hTj
                go_upto_region 16 with fail
                clear ct10 ct9
                refine q_region (Class w5) (by kernel_rfl) (by kernel_rfl) (Class.mk_ ((Below.refl _ _).drew)) ?_
                refine q_move rfl (.tmp 0) rfl ?_
                (intro K hK; go_simp; refine hK _ ?_; clear hK K)
                refine q_val (v := .pointer (some ⟨a, 0, none⟩)) rfl (fun w' hw' => by go_simp) ?_
                (intro K hK; go_simp; refine hK _ ?_; clear hK K)
                refine q_val (v := .pointer (some ⟨a, 0, none⟩)) rfl (fun w' hw' => by go_simp) ?_
                (intro K hK; go_simp; refine hK _ ?_; clear hK K)
                refine q_val (v := .int .i64 s) rfl (fun w' hw' => by have hc := (hAs.out w' (bb5.out.trans (hw'.below.mono bb5.out.size))).width; go_simp) ?_
                (intro K hK; go_simp; refine hK _ ?_; clear hK K)
                refine q_val (v := .pointer (some ⟨g9, 33, none⟩)) rfl (fun w' hw' => by go_simp) ?_
                (intro K hK; go_simp; refine hK _ ?_; clear hK K)
                refine q_part rfl 23 (.tmp 91) rfl g9 (33) rfl (cells8 H.root) _ (fun w' hw' => (fun j u hu => (hw'.below.cell (p := ⟨g9, 33 + j, none⟩) hln9.out).trans (pr9.out j u hu))) Tryd.underlying23 rfl sr9.out ?_
                (intro K hK; go_simp; refine hK _ ?_; clear hK K)
                refine q_val (v := .pointer (some ⟨g10, 33, none⟩)) rfl (fun w' hw' => by go_simp) ?_
                (intro K hK; go_simp; refine hK _ ?_; clear hK K)
                refine q_part rfl 23 (.tmp 93) rfl g10 (33) rfl (cells8 h.root) _ (fun w' hw' => (fun j u hu => (hw'.below.cell (p := ⟨g10, 33 + j, none⟩) hln10.out).trans (pr10.out j u hu))) Tryd.underlying23 rfl sr10.out ?_
                (intro K hK; go_simp; refine hK _ ?_; clear hK K)
                refine q_row rfl 44 (.tmp 5) rfl (w.heap.size + 1) rfl 44 (#[Value.int .i64 H.size, Value.int .i64 h.size, Value.slice A2 n2 c2]) (0, 0) _ (fun w' hw' => (show Blk w' (w.heap.size + 1) 44 #[Value.int .i64 H.size, Value.int .i64 h.size, Value.slice A2 n2 c2] from (hw'.below.block _ C5.out.lt).trans C5.out)) Tryd.underlying44 rfl sizeCt ?_
                (intro K hK; go_simp; refine hK _ ?_; clear hK K)
                refine q_fn (v := .int .i64 kj) (args := #[.int .i64 s, .agg (cells8 H.root).toArray, .agg (cells8 h.root).toArray, .agg #[Value.int .i64 H.size, Value.int .i64 h.size, Value.slice A2 n2 c2]]) rfl _ _ rfl rfl Tryd.func54 (by kernel_rfl) (by kernel_rfl) (fun w' hw' => ((hJn.out w' (bb5.out.trans (hw'.below.mono bb5.out.size))).mono fun e w'' ⟨he, hb⟩ => ⟨he, hw'.next hb⟩)) ?_
                (intro K hK; go_simp; refine hK _ ?_; clear hK K)
                refine q_val (v := .int .i64 kj) rfl (fun w' hw' => by go_simp) ?_
                (intro K hK; go_simp; refine hK _ ?_; clear hK K)
                refine q_nil ?_
                intro w6 hw6
                have b56 : Hid (Below w5.heap.size w5 w6) := hw6.below
                have bb6 : Hid (Below w.heap.size w w6) := bb5.out.trans (b56.out.mono bb5.out.size)
                have N6 := Lib.hid (N5.out.below b56.out)
                clear hw6 b56 pr9 pr10 hln9 hln10 C5 N5
                by_cases hj0 : kj = 0
                · subst hj0
                  have A7 := Lib.hid (hAs.out w6 bb6.out)
                  go_wp2_with (first
    | (((with_reducible change wpList _ _ _ ({ dst := some 101, op := _, type := _, pos := _, after := _, guard := _ } :: _) _ _); refine wpList_load_row (o := ⟨some 101, _, _, _, _, _⟩) rfl 40 (.tmp 4) rfl (w.heap.size) rfl 40 ((noteCells h (.slice Ao m co)).toArray) (0, 0) _ N6.out.blk Tryd.underlying40 rfl zL.out ?_))
    | (go_at_call 52; refine (copied_any h ok'.out rs m (by have := hm16.out; omega) Ao co hnl.out w6 N6.out.sgs).mono ?_; rintro e w7 ⟨A7, c7, rfl, hO, hb7⟩; have bb7 : Hid (Below w.heap.size w w7) := bb6.out.trans (hb7.mono bb6.out.size); have hO7 : Hid (OwnS w7 w.heap.size (.slice A7 m c7) m rs) := hO.base bb6.out.size; have B7 : Hid (Blk w7 a 110 (audC s least R H (.slice A n c)).toArray) := (hAs.out w7 bb7.out).blk; have hset := Lib.hid (audC_set (s := s) (least := least) (R := R) okH.out ok'.out (.slice A n c) (.slice A7 m c7)); clear hO hb7)
    | ((with_reducible change wpList _ _ _ ({ dst := none, op := Op.store 40 (.tmp 104) (.tmp 102), type := _, pos := _, after := _, guard := _ } :: _) _ _); refine Go.Proofs.YtgldkfaiofkhbaaDoor.Book.wpList_store_part (o := ⟨none, _, _, _, _, _⟩) rfl 40 (.tmp 104) (.tmp 102) rfl a 3 (noteCells h (.slice A7 m c7)).toArray rfl rfl 110 _ B7.out (note_size ok'.out _) (by rw [List.size_toArray, List.size_toArray, noteCells_len ok'.out, audC_len okH.out]; decide) (oN.out _ _ _) ?_; rw [hset.out]; have B8 : Hid (Blk (w7.setRow a (audC s least R h (.slice A7 m c7)).toArray) a 110 (audC s least R h (.slice A7 m c7)).toArray) := setRow_heap _ _ _ _ _ _ B7.out; have k8 : Hid (Kept (· = a) w7 (w7.setRow a (audC s least R h (.slice A7 m c7)).toArray)) := Bytes.Kept.setRow (S := (· = a)) (Kept.refl _ w7) rfl _))
                  go_ret
                  exact take_new hA'.out ok'.out hm16.out hTk.out hhb'.out rfl bb7.out hO7.out k8.out B8.out
                · have hj1 : ¬ (kj = 0) := hj0
                  go_wp2_with fail
                  go_ret
                  exact take_no hTk.out (.inl hj0) rfl bb6.out
              · have hJ : Hid (joinA s H h x y ds = 170) := by show _ = _; unfold joinA; rw [if_pos (.inr (.inr hy1))]
                have u2 : (y == h.size) = false := by simpa using hy1
                subst hx1
                clear hcw hy1
                go_wp2_with fail
                go_ret
                exact take_no (hTj.out.trans hJ.out) (.inl (by decide)) rfl bb5.out
            · have hJ : Hid (joinA s H h x y ds = 170) := by show _ = _; unfold joinA; rw [if_pos (.inr (.inl hx1))]
              have u1 : (x == H.size) = false := by simpa using hx1
              clear hcw hx1
              go_wp2_with fail
              go_ret
              exact take_no (hTj.out.trans hJ.out) (.inl (by decide)) rfl bb5.out
          · have hJ : Hid (joinA s H h x y ds = 170) := by show _ = _; unfold joinA; rw [if_pos (.inl hcw)]
            clear hcw
            go_wp2_with fail
            go_ret
            exact take_no (hTj.out.trans hJ.out) (.inl (by decide)) rfl bb5.out
    · have x1 := decide_eq_false hlog
      rw [x1] at hq1
      have hA5 : Hid (headA s H h x y ds = 173) := by show _ = _; unfold headA; rw [if_pos hlog]
      clear hlog x1
      go_wp2_with (first
    | (((with_reducible change wpList _ _ _ ({ dst := some 39, op := _, type := _, pos := _, after := _, guard := _ } :: _) _ _); refine wpList_load_part (o := ⟨some 39, _, _, _, _, _⟩) rfl 23 (.tmp 38) rfl (g10) (0) rfl (cells8 h.log) _ pl10.out Tryd.underlying23 rfl sl10.out ?_))
    | (((with_reducible change wpList _ _ _ ({ dst := some 41, op := _, type := _, pos := _, after := _, guard := _ } :: _) _ _); refine wpList_load_part (o := ⟨some 41, _, _, _, _, _⟩) rfl 23 (.tmp 40) rfl (g9) (0) rfl (cells8 H.log) _ pl9.out Tryd.underlying23 rfl sl9.out ?_))
    | ((with_reducible change wpList _ _ _ ({ dst := some 42, op := _, type := _, pos := _, after := _, guard := _ } :: _) _ _); (with_reducible refine Veil.out ?_); refine wpList_cmpW (o := ⟨some 42, _, _, _, _, _⟩) rfl .neq 23 23 (.tmp 39) (.tmp 41) rfl ((cells8 h.log).toArray) ((cells8 H.log).toArray) rfl rfl qDGt (_) (hq1.out) ?_)
    | (((with_reducible change wpList _ _ _ ({ dst := some 50, op := _, type := _, pos := _, after := _, guard := _ } :: _) _ _); refine wpList_load_row (o := ⟨some 50, _, _, _, _, _⟩) rfl 36 (.tmp 10) rfl (g10) rfl 36 ((headCells h).toArray) (0, 0) _ hg10.out Tryd.underlying36 rfl Fh.out.size ?_))
    | (((with_reducible change wpList _ _ _ ({ dst := some 51, op := _, type := _, pos := _, after := _, guard := _ } :: _) _ _); refine wpList_load_row (o := ⟨some 51, _, _, _, _, _⟩) rfl 36 (.tmp 9) rfl (g9) rfl 36 ((headCells H).toArray) (0, 0) _ hg9.out Tryd.underlying36 rfl FH.out.size ?_))
    | ((with_reducible change wpList _ _ _ ({ dst := some 52, op := _, type := _, pos := _, after := _, guard := _ } :: _) _ _); (with_reducible refine Veil.out ?_); refine wpList_cmpW (o := ⟨some 52, _, _, _, _, _⟩) rfl .eql 36 36 (.tmp 50) (.tmp 51) rfl ((headCells h).toArray) ((headCells H).toArray) rfl rfl qHDt (_) (hqh.out) ?_))
      go_ret
      exact take_no (hT.out.trans hA5.out) (.inl (by decide)) rfl bb4.out
end Go.Proofs.YtgldkfaiofkhbaaDoor.AudTake

namespace Go.Proofs.YtgldkfaiofkhbaaDoor.AuditGrows
open Go Go.RowKit Go.Proofs.YtgldkfaiofkhbaaDoor Go.Proofs.YtgldkfaiofkhbaaDoor.Mem Go.Proofs.YtgldkfaiofkhbaaDoor.Sha Go.Proofs.YtgldkfaiofkhbaaDoor.Bytes Go.Proofs.YtgldkfaiofkhbaaDoor.HashMem Go.Proofs.YtgldkfaiofkhbaaDoor.DigestMem Go.Proofs.YtgldkfaiofkhbaaDoor.SortP Go.Proofs.YtgldkfaiofkhbaaDoor.NoteP Go.Proofs.YtgldkfaiofkhbaaDoor.QuietTail Go.Proofs.YtgldkfaiofkhbaaDoor.Grown Go.Proofs.YtgldkfaiofkhbaaDoor.TreeMem Go.Proofs.YtgldkfaiofkhbaaDoor.Held Go.Proofs.YtgldkfaiofkhbaaDoor.Want Go.Proofs.YtgldkfaiofkhbaaDoor.Guard2 Go.Proofs.YtgldkfaiofkhbaaDoor.Append Go.Proofs.YtgldkfaiofkhbaaDoor.Own Go.Proofs.YtgldkfaiofkhbaaDoor.Rise Go.Proofs.YtgldkfaiofkhbaaDoor.SortM Go.Proofs.YtgldkfaiofkhbaaDoor.SgM Go.Proofs.YtgldkfaiofkhbaaDoor.HeadMem Go.Proofs.YtgldkfaiofkhbaaDoor.EncNoteP Go.Proofs.YtgldkfaiofkhbaaDoor.EncNote Go.Proofs.YtgldkfaiofkhbaaDoor.RefNote Go.Proofs.YtgldkfaiofkhbaaDoor.NoteM Go.Proofs.YtgldkfaiofkhbaaDoor.Fill Go.Proofs.YtgldkfaiofkhbaaDoor.HeadTake Go.Proofs.YtgldkfaiofkhbaaDoor.Decode Go.Proofs.YtgldkfaiofkhbaaDoor.CmpW Go.Proofs.YtgldkfaiofkhbaaDoor.Chain Go.Proofs.YtgldkfaiofkhbaaDoor.RingM Go.Proofs.YtgldkfaiofkhbaaDoor.RingS Go.Proofs.YtgldkfaiofkhbaaDoor.NewRing Go.Proofs.YtgldkfaiofkhbaaDoor.VerP Go.Proofs.YtgldkfaiofkhbaaDoor.Verify Go.Proofs.YtgldkfaiofkhbaaDoor.Signs Go.Proofs.YtgldkfaiofkhbaaDoor.HeadID Go.Proofs.YtgldkfaiofkhbaaDoor.Ref17 Go.Proofs.YtgldkfaiofkhbaaDoor.HeadCmp Go.Proofs.YtgldkfaiofkhbaaDoor.GrowP Go.Proofs.YtgldkfaiofkhbaaDoor.AudM Go.Proofs.YtgldkfaiofkhbaaDoor.AudNote Go.Proofs.YtgldkfaiofkhbaaDoor.AudNew Go.Proofs.YtgldkfaiofkhbaaDoor.AudTake Go.Proofs.YtgldkfaiofkhbaaDoor.SameN20 Go.Proofs.YtgldkfaiofkhbaaDoor.Offers Go.Proofs.YtgldkfaiofkhbaaDoor.Law20b Go.Proofs.YtgldkfaiofkhbaaDoor.DigEq Go.Proofs.YtgldkfaiofkhbaaDoor.Clamp Go.Proofs.YtgldkfaiofkhbaaDoor.Digest

theorem wpList_store_allX {P : Program} {ops : Array Oper} {rest : List Oper} {o : Oper} {a : Act} {w : World} {Q : Exit → Act → World → Prop} (hgd : o.guard = none) (hdst : o.dst = none) (ty : TypeId) (x y : Operand) (ho : o.op = .store ty x y)
    (g : Nat) (cells : Array Value) (hx : a.eval x = .pointer (some ⟨g, 0, none⟩)) (hy : a.eval y = .agg cells)
    (t : TypeId) (old : Array Value) (hg : Blk w g t old) (hi : (P.info? ty).map (·.size) = some cells.size)
    (hold : old.size = cells.size) (h1 : cells.all (·.oneCell') = true)
    (h : ∀ w', Hid (Blk w' g t cells) → Kept (· = g) w w' → wpList P ops Q rest a w') : wpList P ops Q (o :: rest) a w :=
  wpList_store_all hgd ty x y ho g cells hx hy t old hg hi hold h1 (fun w' h1 h2 => by rw [hdst]; exact h w' h1 h2)
theorem size102 : (Tryd.prog.info? 46).map (·.size) = some 102 := by kernel_rfl
theorem zero102 : (Tryd.zeroCells46 : Array Value).size = 102 := by kernel_rfl
theorem ring_ok3 {ks : List Text} {k : Int} (hk : k = ringAns ks) (h0 : k = 0) : ks.length ≤ 64 ∧ keysB ks = true := by
  rw [h0] at hk
  unfold ringAns at hk
  split at hk
  · cases hk
  · split at hk
    · split at hk
      · exact ⟨by omega, by assumption⟩
      · cases hk
    · cases hk
/-- What stands while offers are made. -/
structure GI (w1 : World) (sc least : Int) (R : Nat) (log : Text) (a g14 : Nat) (wr : World) (H : HeadD) (A : Option Addr) (n c : Nat) (ss : List Text) : Prop where
  aud : AudAt wr a sc least R H A n c ss
  best : Blk wr g14 36 (headCells H).toArray
  log : H.log = log
  below : Below w1.heap.size w1 wr
  off : ∀ b, A = some b → g14 < b.block
theorem GI.far {w1 : World} {sc least : Int} {R : Nat} {log : Text} {a g14 : Nat} {wr w' : World} {H : HeadD} {A : Option Addr} {n c : Nat} {ss : List Text} (h : GI w1 sc least R log a g14 wr H A n c ss) (hb : Below wr.heap.size wr w') : GI w1 sc least R log a g14 w' H A n c ss :=
  ⟨h.aud.below hb, (hb.block _ h.best.lt).trans h.best, h.log, h.below.trans (hb.mono h.below.size), h.off⟩
theorem take_zero_same {s least : Int} {es : List Text} {H h : HeadD} {ss : List Text} {x y : Int} {ds : List Text} (e : takeA s least es H h ss x y ds = 0) (hn : newB s least es H h ss x y ds = false) : h = H := by
  unfold newB at hn
  rw [e] at hn
  refine headB_yes ?_
  simpa using hn
theorem take_zero_new {s least : Int} {es : List Text} {H h : HeadD} {ss : List Text} {x y : Int} {ds : List Text} (hn : newB s least es H h ss x y ds = true) : takeA s least es H h ss x y ds = 0 ∧ h.log = H.log ∧ H.size < h.size ∧ H.clock ≤ h.clock := by
  unfold newB at hn
  rw [Bool.and_eq_true, decide_eq_true_eq] at hn
  obtain ⟨h1, h2⟩ := hn
  obtain ⟨h3, h4⟩ := head_yes (take_yes h1).2
  refine ⟨h1, h3, ?_⟩
  rcases h4 with ⟨e, -⟩ | ⟨-, e1, e2⟩
  · rw [e] at h2; exact absurd h2 (by decide)
  · exact ⟨e1, e2⟩
theorem take_ver {s least : Int} {es : List Text} {H h : HeadD} {ss : List Text} {x y : Int} {ds : List Text} (e : takeA s least es H h ss x y ds = 0) : ss.length ≤ 16 := ver_few (take_yes e).1
/-- A copy of a note, in a block of its own. -/
theorem copy_store {n : Nat} {ss : List Text} {w w' : World} {A' : Option Addr} {c' : Nat} (hO : OwnS w' w.heap.size (.slice A' n c') n ss) : Sgs w' A' n ss ∧ ∀ b, A' = some b → w.heap.size ≤ b.block := by
  obtain ⟨A9, c9, e9, -, -, -, hS, hbl⟩ := OwnS.reads hO
  injection e9 with e1 _ e3
  subst e1 e3
  exact ⟨hS, hbl⟩
theorem NoteAt.keptA {S : Nat → Prop} {w w' : World} {g n c : Nat} {h : HeadD} {A : Option Addr} {ss : List Text} (k : NoteAt w g h A n c ss) (hk : Kept S w w') (h1 : ¬ S g) (h2 : ∀ b, A = some b → ¬ S b.block) : NoteAt w' g h A n c ss := ⟨k.blk.kept hk h1, k.sgs.kept hk (fun _ _ e => h2 _ e)⟩
theorem again_below {a : Nat} {s least : Int} {R : Nat} {es : List Text} {h : HeadD} {rs : List Text} {x y : Int} {ds : List Text} {w w' : World} (k : TakePost a s least R es h h rs x y ds w w') : Below w.heap.size w w' := by
  rcases k with ⟨-, hb⟩ | ⟨hn, -⟩
  · exact hb
  · unfold newB at hn
    rw [headB_refl] at hn
    simp at hn
theorem same_mn {h : HeadD} (ok : h.Ok) {rs : List Text} {m n : Nat} (e : m = n) (hn : n ≤ 2199023255552) {A B : Option Addr} {c d : Nat} {w : World} (h1 : Sgs w A n rs) (h2 : Sgs w B m rs) : Calls Tryd.prog 13 #[.agg (noteCells h (.slice A n c)).toArray, .agg (noteCells h (.slice B m d)).toArray] w fun e w' => e = .returned (.bool true) ∧ Below w.heap.size w w' := by
  subst e
  exact sameN20_any h ok rs m hn A B c d w h1 h2
set_option maxRecDepth 100000 in
set_option maxHeartbeats 32000000 in
theorem auditGrows_any (s : Int) (log : Text) (hlog : log.length = 32) (es : List Text) (p : Nat) (hp : es.length = p) (Ap : Option Addr) (cp : Nat) (hpc : p ≤ cp) (least : Int) (l : List OfferD) (na : Nat) (hna : na ≤ 140737488355328) (Aa : Option Addr) (ca : Nat) (w : World) (hB : Base w) (hP : Pieces w Ap es) (hsh : ∀ q ∈ es, q.length < 140737488355228) (hA : OffersAt w Aa na l) :
    Calls Tryd.prog 3 #[.int .i64 s, .agg (cells8 log).toArray, .slice Ap p cp, .int .i64 least, .slice Aa na ca] w fun e w' => e = .returned (.bool true) ∧ Below w.heap.size w w' := by
  obtain ⟨w0, hw0⟩ : ∃ w0, Hid (w.alloc (.cells (cells8 log).toArray 23) = w0) := ⟨_, Lib.hid rfl⟩
  have L0 : Hid (Blk w0 w.heap.size 23 (cells8 log).toArray) := by show Blk _ _ _ _; rw [← hw0.out]; exact Blk.new w _ _
  have b0 : Hid (Below w.heap.size w w0) := by show Below _ _ _; rw [← hw0.out]; exact Below.heap_below w _
  have hw0' := hw0.out
  obtain ⟨N, hN⟩ : ∃ N, Hid (min p 64 = N) := ⟨_, Lib.hid rfl⟩
  have hFw : Hid (∀ w', Calls Tryd.prog 8 #[.slice Ap p cp, .int .i64 64] w' fun e w'' => e = .returned (.slice Ap N cp) ∧ w' = w'') := fun w' => by
    have := fewX_any Ap p cp 64 hpc w'
    rw [hN.out] at this
    exact this
  obtain ⟨ks, hks⟩ : ∃ ks, Hid (es.take 64 = ks) := ⟨_, Lib.hid rfl⟩
  have hkl : Hid (ks.length = N) := by show _ = _; rw [← hks.out, List.length_take, hp, ← hN.out]; exact Nat.min_comm _ _
  have hNR : Hid (∀ w', Below w.heap.size w w' → Calls Tryd.prog 7 #[.slice Ap N cp] w' (NewOut ks w')) := fun w' hb => newRing_any ks N hkl.out (by have := hN.out; omega) Ap cp w' (hB.below hb hB.1) (by rw [← hks.out]; exact pieces_takeX (hP.below hb) 64) (fun q hq => hsh q (by rw [← hks.out] at hq; exact List.mem_of_mem_take hq))
  have hBs : Hid (∀ w', Below w.heap.size w w' → Base w') := fun w' hb => hB.below hb hB.1
  have hAs : Hid (∀ w', Below w.heap.size w w' → OffersAt w' Aa na l) := fun w' hb => hA.below hb
  have hA0 := Lib.hid hA
  have hna0 := Lib.hid hna
  have hlg := Lib.hid hlog
  have hfl := Lib.hid (dig_size log hlog)
  clear hw0 hB hP hsh hA hp hpc hna hlog hN hks
  go_enter Tryd.func3, Tryd.ntmps3
  go_upto_region 2 with (first
    | (go_at_call 8; refine (hFw.out _).mono ?_; rintro e w' ⟨rfl, rfl⟩)
    | (go_at_call 7; refine (hNR.out w0 b0.out).mono ?_; rintro e w1 ⟨v1, k1, rfl, hb1, hk1, hkn, hkr⟩; replace hk1 := Lib.hid hk1; replace hkn := Lib.hid hkn; replace hkr := Lib.hid hkr; have bb1 : Hid (Below w.heap.size w w1) := b0.out.trans (hb1.mono b0.out.size); have L1 : Hid (Blk w1 w.heap.size 23 (cells8 log).toArray) := (hb1.block _ L0.out.lt).trans L0.out; clear hb1 L0))
  clear hw0' hFw hNR
  have hLs : Hid (∀ w', Below w1.heap.size w1 w' → Blk w' w.heap.size 23 (cells8 log).toArray) := fun w' hb => (hb.block _ L1.out.lt).trans L1.out
  by_cases hk0 : ¬ (k1 = 0)
  · go_wp2_with fail
    go_ret
    exact ⟨rfl, bb1.out⟩
  have hk0' := Decidable.not_not.1 hk0
  obtain ⟨h64, hkb⟩ := ring_ok3 hk1.out hk0'
  obtain ⟨kd, rfl, hR, hpm, hst⟩ := hkr.out hk0'
  subst hk0'
  have hll : Hid (kd.length ≤ 64) := by show _ ≤ _; have h1 := hpm.length_eq; rw [List.length_map] at h1; omega
  have hlk : Hid (∀ x ∈ kd, keyB x.q.length = true) := fun x hx => List.all_eq_true.1 hkb x.q (hpm.mem_iff.1 (List.mem_map.2 ⟨x, hx, rfl⟩))
  have hRs : Hid (∀ w', Below w1.heap.size w1 w' → RingAt w' w0.heap.size kd) := fun w' hb => hR.at_.below hb
  have hpm0 := Lib.hid hpm
  have hst0 := Lib.hid hst
  clear hk0 hk1 hkn hkr h64 hkb hR hpm hst
  generalize w0.heap.size = R at *
  go_upto_region 5 with (first
    | (((with_reducible change wpList _ _ _ ({ dst := some 30, op := _, type := _, pos := _, after := _, guard := _ } :: _) _ _); refine wpList_load_row (o := ⟨some 30, _, _, _, _, _⟩) rfl 23 (.tmp 6) rfl (w.heap.size) rfl 23 ((cells8 log).toArray) (0, 0) _ L1.out Tryd.underlying23 rfl hfl.out ?_))
    | (go_at_call 9; refine (audNew_any s log hlg.out least R w1 (hBs.out w1 bb1.out)).mono ?_; rintro e w2 ⟨v2, k2, rfl, hb2, hk2, hk2n, hk2y⟩; replace hk2 := Lib.hid hk2; replace hk2n := Lib.hid hk2n; replace hk2y := Lib.hid hk2y; have b12 : Hid (Below w1.heap.size w1 w2) := hb2; have bb2 : Hid (Below w.heap.size w w2) := bb1.out.trans (hb2.mono bb1.out.size); have L2 : Hid (Blk w2 w.heap.size 23 (cells8 log).toArray) := (hb2.block _ L1.out.lt).trans L1.out; clear hb2 L1))
  by_cases hq0 : ¬ (k2 = 0)
  · have hnw := hk2.out
    unfold newA at hnw
    by_cases hl1 : least < 1
    · clear hnw
      go_wp2_with fail
      go_ret
      exact ⟨rfl, bb2.out⟩
    · by_cases hl2 : 16 < least
      · have x1 : (least < 1) = False := eq_false hl1
        clear hnw hl1
        go_wp2_with fail
        go_ret
        exact ⟨rfl, bb2.out⟩
      · rw [if_neg (by rintro (h | h) <;> contradiction)] at hnw
        exact absurd hnw hq0
  have hq0' := Decidable.not_not.1 hq0
  obtain ⟨a, rfl, hga, hAu⟩ := hk2y.out hq0'
  subst hq0'
  obtain ⟨sc, hsc⟩ : ∃ sc, Hid (cl s = sc) := ⟨_, Lib.hid rfl⟩
  rw [hsc.out] at hAu
  obtain ⟨H0, hH0⟩ : ∃ H0, Hid (H00 sc log = H0) := ⟨_, Lib.hid rfl⟩
  rw [hH0.out] at hAu
  have hz0 : Hid (H0.size = 0 ∧ H0.log = log) := by show _ ∧ _; rw [← hH0.out]; exact ⟨rfl, rfl⟩
  have ok0 := Lib.hid hAu.ok
  replace hAu := Lib.hid hAu
  have hga' : Hid (w1.heap.size ≤ a) := hga
  have F0 := Lib.hid (AudTake.fitH ok0.out)
  have sl0 : Hid ((Tryd.prog.info? 23).map (·.size) = some (cells8 log).length) := by show _ = _; rw [cells8_len, hlg.out]; exact size32t
  have hqn : Hid (∀ w', (binOp .neq 23 (.agg (cells8 log).toArray) (.agg (cells8 log).toArray)).run Tryd.prog w' = .ok (.bool false) w') := fun w' => by rw [neq_dig _ _ hlg.out hlg.out]; simp
  have hfd := Lib.hid (fun v w' => run_noteSigns ok0.out v w')
  clear hq0 hk2 hk2n hk2y hga hsc hH0
  go_upto_region 10 with (first
    | (go_at_call 10; refine (audHead_any a sc least R H0 none 0 0 [] w2 hAu.out).mono ?_; rintro e w3 ⟨rfl, hb3⟩; have b13 : Hid (Below w1.heap.size w1 w3) := b12.out.trans (hb3.mono b12.out.size); have hAu3 := Lib.hid (hAu.out.below hb3); have L3 : Hid (Blk w3 w.heap.size 23 (cells8 log).toArray) := (hb3.block _ L2.out.lt).trans L2.out; have hlta : Hid (a < w3.heap.size) := hAu3.out.blk.lt; clear hb3 b12 L2)
    | ((with_reducible change wpList _ _ _ ({ dst := none, op := Op.store 36 (.tmp 14) (.tmp 45), type := _, pos := _, after := _, guard := _ } :: _) _ _); refine wpList_store_allX (o := ⟨none, _, _, _, _, _⟩) rfl rfl 36 (.tmp 14) (.tmp 45) rfl w3.heap.size (headCells H0).toArray rfl rfl 36 Z98 (Blk.new w3 _ _) F0.out.size F0.out.zero F0.out.one ?_; intro w4 B14 k14; have hb := below_new k14; have b14 : Hid (Below w1.heap.size w1 w4) := b13.out.trans (hb.mono b13.out.size); have bb4 : Hid (Below w.heap.size w w4) := bb1.out.trans (b14.out.mono bb1.out.size); have hAu4 := Lib.hid (hAu3.out.below hb); have L4 : Hid (Blk w4 w.heap.size 23 (cells8 log).toArray) := (hb.block _ L3.out.lt).trans L3.out; clear hb k14 b13 L3 hAu3; generalize w3.heap.size = g14 at *; have hcs : w4.cell? ⟨g14, 32, none⟩ = some (.int .i64 0) := (by rw [B14.out.cell 32, List.getElem?_toArray, headCells_size ok0.out, hz0.out.1]); have hcl : Hid (∀ j u, (cells8 log)[j]? = some u → w4.cell? ⟨g14, 0 + j, none⟩ = some u) := (fun j u hu => by rw [B14.out.cell (0 + j), List.getElem?_toArray]; exact headCells_log j u (by rw [hz0.out.2]; exact hu)); have hgs14 : Hid (a < g14) := hlta.out)
    | (((with_reducible change wpList _ _ _ ({ dst := some 51, op := _, type := _, pos := _, after := _, guard := _ } :: _) _ _); (with_reducible refine Veil.out ?_); refine wpList_partW (o := ⟨some 51, _, _, _, _, _⟩) rfl 23 (.tmp 50) rfl (g14) (0) rfl (cells8 log) _ hcl.out Tryd.underlying23 rfl sl0.out ?_))
    | (((with_reducible change wpList _ _ _ ({ dst := some 52, op := _, type := _, pos := _, after := _, guard := _ } :: _) _ _); (with_reducible refine Veil.out ?_); refine wpList_rowW (o := ⟨some 52, _, _, _, _, _⟩) rfl 23 (.tmp 6) rfl (w.heap.size) rfl 23 ((cells8 log).toArray) (0, 0) _ L4.out Tryd.underlying23 rfl hfl.out ?_))
    | ((with_reducible change wpList _ _ _ ({ dst := some 53, op := _, type := _, pos := _, after := _, guard := _ } :: _) _ _); (with_reducible refine Veil.out ?_); refine wpList_cmpW (o := ⟨some 53, _, _, _, _, _⟩) rfl .neq 23 23 (.tmp 51) (.tmp 52) rfl ((cells8 log).toArray) ((cells8 log).toArray) rfl rfl qDGt (_) (hqn.out _) ?_)
    | (go_at_call 11; refine (audNote_any a sc least R H0 none 0 0 [] w4 hAu4.out).mono ?_; rintro e w5 ⟨Ae, ce, rfl, -, hb5⟩; have hfs := hfd.out (.slice Ae 0 ce); have hB5 : Hid (Blk w5 g14 36 (headCells H0).toArray) := (hb5.block _ B14.out.lt).trans B14.out; have b15 : Hid (Below w1.heap.size w1 w5) := b14.out.trans (hb5.mono b14.out.size); have bb5 : Hid (Below w.heap.size w w5) := bb4.out.trans (hb5.mono bb4.out.size); have hAu5 := Lib.hid (hAu4.out.below hb5); have L5 : Hid (Blk w5 w.heap.size 23 (cells8 log).toArray) := (hb5.block _ L4.out.lt).trans L4.out; clear hb5 hcs hcl B14 b14 bb4 hAu4 L4))
  clear hfd hfs F0 hqn
  go_wp2_with fail
  go_loopw [15] (fun v wr => ∃ (i : Nat) (H : HeadD) (A : Option Addr) (n c : Nat) (ss : List Text), v = .int .i64 (i : Int) ∧ Hid (i ≤ 40) ∧ Hid (GI w1 sc least R log a g14 wr H A n c ss)) (fun v _ => 40 - (intOf v).toNat)
  case atStart => exact ⟨0, H0, none, 0, 0, [], rfl, Nat.zero_le _, ⟨hAu5.out, hB5.out, hz0.out.2, b15.out, fun b e => by cases e⟩⟩
  case round =>
    clear hAu5 hB5 b15 bb5 hz0 ok0 L5
    obtain ⟨i, H, A, n, c, ss, rfl, hi, hG⟩ := hrel
    have hi0 : (0 : Int) ≤ (i : Int) := by omega
    have hi6 : (i : Int) ≤ 40 := by have := hi.out; omega
    have bbr : Hid (Below w.heap.size w wr) := bb1.out.trans (hG.out.below.mono bb1.out.size)
    by_cases hlt : i < na
    · have hz : (i : Int) < (na : Int) := by omega
      by_cases h40 : i < 40
      · have hz2 : (i : Int) < 40 := by omega
        have h40' := Lib.hid h40
        obtain ⟨x, hx⟩ : ∃ x, Hid (l[i]? = some x) := ⟨_, List.getElem?_eq_getElem (by rw [hA0.out.len]; exact hlt)⟩
        obtain ⟨b, o, hAa, -, -⟩ := hA0.out.at_ hx.out
        subst hAa
        have hfO : Hid (∀ w', Below w.heap.size w w' → ∀ (j : Nat) (u : Value), (offC x)[j]? = some u → w'.cell? ⟨b, o + i * 102 + j, none⟩ = some u) := fun w' hb => by
          obtain ⟨b2, o2, e, -, h1⟩ := (hAs.out w' hb).at_ hx.out
          injection e with e
          injection e with e1 e2
          subst e1 e2
          exact h1
        have hfK : Hid (∀ w', Below w.heap.size w w' → OfferOk w' x) := fun w' hb => (hAs.out w' hb).ok x (List.mem_of_getElem? hx.out)
        have hK0 := hfK.out w (Below.refl _ _)
        have ok' : Hid x.h.Ok := hK0.ok
        have hO1 := Lib.hid (fun j u hu => offC_note (p := x) j u hu)
        have hO2 := Lib.hid (fun j u hu => offC_cons (p := x) ok'.out j u hu)
        have hO3 : Hid ((offC x).toArray.all (fun v => v.oneCell') = true) := by show _ = _; rw [List.all_toArray]; exact List.all_eq_true.2 (offC_one x)
        have hO4 := Lib.hid (offC_len (p := x) ok'.out)
        obtain ⟨OC, hOC⟩ : ∃ OC, Hid (offC x = OC) := ⟨_, Lib.hid rfl⟩
        rw [hOC.out] at hfO hO1 hO2 hO3 hO4
        have hTk : Hid (∀ (H : HeadD) (A : Option Addr) (n c : Nat) (ss : List Text) w', Below w1.heap.size w1 w' → AudAt w' a sc least R H A n c ss → Calls Tryd.prog 12 #[.pointer (some ⟨a, 0, none⟩), .agg (noteCells x.h (.slice x.A x.n x.c)).toArray, .agg (inclCells x.x x.y x.A2 x.m x.c2)] w' (TakeOut a sc least R ks H x.h x.ss x.x x.y x.ds w')) := fun H A n c ss w' hb hAu => by
          have hbw := bb1.out.trans (hb.mono bb1.out.size)
          have hK := hfK.out w' hbw
          exact take_any ks kd hpm0.out hst0.out hll.out hlk.out a sc least R H A n c ss x.h hK.ok x.ss x.n x.A x.c hK.nil x.x x.y x.ds x.A2 x.m x.c2 hK.few w' (hBs.out w' hbw) (hRs.out w' hb) hAu hK.sgs hK.rd
        have hTk0 : Hid (∀ (H : HeadD) (A : Option Addr) (n c : Nat) (ss : List Text) w', Below w1.heap.size w1 w' → AudAt w' a sc least R H A n c ss → Calls Tryd.prog 12 #[.pointer (some ⟨a, 0, none⟩), .agg (noteCells x.h (.slice x.A x.n x.c)).toArray, .agg #[.int .i64 0, .int .i64 0, .slice none 0 0]] w' (TakeOut a sc least R ks H x.h x.ss 0 0 [] w')) := fun H A n c ss w' hb hAu => by
          have hbw := bb1.out.trans (hb.mono bb1.out.size)
          have hK := hfK.out w' hbw
          exact take_any ks kd hpm0.out hst0.out hll.out hlk.out a sc least R H A n c ss x.h hK.ok x.ss x.n x.A x.c hK.nil 0 0 [] none 0 0 (by decide) w' (hBs.out w' hbw) (hRs.out w' hb) hAu hK.sgs ⟨rfl, (fun d hd => by cases hd), Reads.nil_ _ _ _⟩
        have hSg : Hid (∀ w', Below w1.heap.size w1 w' → Sgs w' x.A x.n x.ss) := fun w' hb => (hfK.out w' (bb1.out.trans (hb.mono bb1.out.size))).sgs
        have hxn := Lib.hid hK0.sgs.len
        have hcC : Hid (∀ j u, (#[Value.int .i64 x.x, Value.int .i64 x.y, Value.slice x.A2 x.m x.c2] : Array Value).toList[j]? = some u → OC[99 + j]? = some u) := fun j u hu => hO2.out j u hu
        unfold inclCells at hTk
        obtain ⟨h, Ao, m, co, rs, X1, Y1, A2, n2, c2, ds⟩ := x
        dsimp only at ok' hO1 hTk hTk0 hSg hxn hcC
        have zN := Lib.hid (fun v => note_size ok'.out v)
        have s0N := Lib.hid (fun v => note_zero ok'.out v)
        have zL : Hid ((Tryd.prog.info? 40).map (·.size) = some (noteCells h (.slice Ao m co)).length) := by have := zN.out (.slice Ao m co); rw [List.size_toArray] at this; exact this
        have oN := Lib.hid (fun A n c => note_one (h := h) A n c)
        have okH := Lib.hid hG.out.aud.ok
        have zNH := Lib.hid (fun v => note_size okH.out v)
        have s0NH := Lib.hid (fun v => note_zero okH.out v)
        have oNH := Lib.hid (fun A n c => note_one (h := H) A n c)
        have zO : Hid ((Tryd.prog.info? 46).map (·.size) = some OC.length) := by show _ = _; rw [hO4.out]; exact size102
        have zO' : Hid ((Tryd.prog.info? 46).map (·.size) = some OC.toArray.size) := by show _ = _; rw [List.size_toArray]; exact zO.out
        have s0O : Hid ((Tryd.zeroCells46 : Array Value).size = OC.toArray.size) := zero102.trans (show 102 = OC.length from hO4.out.symm)
        have hn17 := Lib.hid hG.out.aud.few
        clear hK0 hlt h40 hx hfK hO2 hOC hO4
        go_upto_region 15 with (first
    | (((with_reducible change wpList _ _ _ ({ dst := some 75, op := _, type := _, pos := _, after := _, guard := _ } :: _) _ _); refine wpList_load_part (o := ⟨some 75, _, _, _, _, _⟩) rfl 46 (.tmp 74) rfl (b) ((o + i * 102)) rfl (OC) _ (hfO.out wr bbr.out) Tryd.underlying46 rfl zO.out ?_))
    | ((with_reducible change wpList _ _ _ ({ dst := none, op := Op.store 46 (.tmp 16) (.tmp 75), type := _, pos := _, after := _, guard := _ } :: _) _ _); refine wpList_store_allX (o := ⟨none, _, _, _, _, _⟩) rfl rfl 46 (.tmp 16) (.tmp 75) rfl wr.heap.size OC.toArray rfl rfl 46 Tryd.zeroCells46 (Blk.new wr _ _) zO'.out s0O.out hO3.out ?_; intro wE O16 k16; have hb := below_new k16; have GE := Lib.hid (hG.out.far hb); have hgE : Hid (g14 < wr.heap.size) := hG.out.best.lt; clear hb k16; generalize wr.heap.size = g16 at *)
    | (go_at_call 11; refine (audNote_any a sc least R H A n c ss wE GE.out.aud).mono ?_; rintro e w9 ⟨A17, c17, rfl, hO, hb9⟩; obtain ⟨hS9, hbl9⟩ := copy_store hO; have G9 := Lib.hid (GE.out.far hb9); have O16n : Hid (Blk w9 g16 46 OC.toArray) := (hb9.block _ O16.out.lt).trans O16.out; have hg17 : Hid (∀ b, A17 = some b → g16 < b.block) := (fun b e => by have := hbl9 b e; have := O16.out.lt; omega); replace hS9 := Lib.hid hS9; clear hO hb9 O16 GE hbl9)
    | ((with_reducible change wpList _ _ _ ({ dst := none, op := Op.store 40 (.tmp 17) (.tmp 77), type := _, pos := _, after := _, guard := _ } :: _) _ _); refine wpList_store_allX (o := ⟨none, _, _, _, _, _⟩) rfl rfl 40 (.tmp 17) (.tmp 77) rfl w9.heap.size (noteCells H (.slice A17 n c17)).toArray rfl rfl 40 Z99 (Blk.new w9 _ _) (zNH.out _) (s0NH.out _) (oNH.out _ _ _) ?_; intro wF hB17 k17; have hb := below_new k17; have N17 : Hid (NoteAt wF w9.heap.size H A17 n c17 ss) := ⟨hB17.out, hS9.out.below hb⟩; have hGF := Lib.hid (G9.out.far hb); have O16 : Hid (Blk wF g16 46 OC.toArray) := (hb.block _ O16n.out.lt).trans O16n.out; have hgs : Hid (a < g14 ∧ g14 < g16 ∧ g16 < w9.heap.size) := ⟨hgs14.out, hgE.out, O16n.out.lt⟩; clear hb k17 hB17 hS9 G9 O16n hgE; generalize w9.heap.size = g17 at *))
        go_upto_region 16 with (first
    | (((with_reducible change wpList _ _ _ ({ dst := some 80, op := _, type := _, pos := _, after := _, guard := _ } :: _) _ _); refine wpList_load_part (o := ⟨some 80, _, _, _, _, _⟩) rfl 40 (.tmp 79) rfl (g16) (0) rfl (noteCells h (.slice Ao m co)) _ (fun j u hu => by rw [O16.out.cell (0 + j), List.getElem?_toArray, Nat.zero_add]; exact hO1.out j u hu) Tryd.underlying40 rfl zL.out ?_))
    | (((with_reducible change wpList _ _ _ ({ dst := some 82, op := _, type := _, pos := _, after := _, guard := _ } :: _) _ _); refine wpList_load_part (o := ⟨some 82, _, _, _, _, _⟩) rfl 44 (.tmp 81) rfl (g16) (99) rfl ([Value.int .i64 X1, Value.int .i64 Y1, Value.slice A2 n2 c2]) _ (fun j u hu => by rw [O16.out.cell (99 + j), List.getElem?_toArray]; exact hcC.out j u hu) Tryd.underlying44 rfl sizeCt ?_))
    | (go_at_call 12; refine (hTk.out H A n c ss wF hGF.out.below hGF.out.aud).mono ?_; rintro e w5 ⟨rfl, hTP⟩; replace hTP := Lib.hid hTP))
        obtain ⟨k, hk⟩ : ∃ k, Hid (takeA sc least ks H h rs X1 Y1 ds = k) := ⟨_, Lib.hid rfl⟩
        rw [hk.out]
        rcases hTP.out with ⟨hnb, hb5⟩ | ⟨hnb, hk5, A5, n5, c5, hA5, hA5b⟩
        · replace hb5 := Lib.hid hb5
          have GH := Lib.hid (hGF.out.far hb5.out)
          have N17' := Lib.hid (N17.out.below hb5.out)
          have O16' : Hid (Blk w5 g16 46 OC.toArray) := (hb5.out.block _ O16.out.lt).trans O16.out
          have B14lt : Hid (g14 < w5.heap.size) := GH.out.best.lt
          by_cases h0 : k = 0
          · subst h0
            obtain rfl := take_zero_same hk.out hnb
            clear hnb hTP hb5 N17 O16 hGF hTk
            have hm16 := Lib.hid (take_ver hk.out)
            have hAo : Hid (∀ b, A = some b → g14 < b.block) := GH.out.off
            have hlE : Hid (h.log = log) := GH.out.log
            have Fh := Lib.hid (AudTake.fitH ok'.out)
            have shh : Hid ((Tryd.prog.info? 36).map (·.size) = some (headCells h).length) := by show _ = _; rw [headCells_len ok'.out]; exact size98
            go_upto_region 17 with (first
                | (go_at_call 11; refine (audNote_any a sc least R h A n c ss w5 GH.out.aud).mono ?_; rintro e w6 ⟨A19, c19, rfl, hO, hb6⟩; obtain ⟨hS6, hbl6⟩ := copy_store hO; have b56 : Hid (Below w5.heap.size w5 w6) := hb6; replace hS6 := Lib.hid hS6; have hA19o : Hid (∀ b, A19 = some b → ¬ b.block = g14) := (fun b e => by have := hbl6 b e; have := B14lt.out; omega); clear hO hb6 hbl6)
                | ((with_reducible change wpList _ _ _ ({ dst := none, op := Op.store 40 (.tmp 19) (.tmp 85), type := _, pos := _, after := _, guard := _ } :: _) _ _); refine wpList_store_allX (o := ⟨none, _, _, _, _, _⟩) rfl rfl 40 (.tmp 19) (.tmp 85) rfl w6.heap.size (noteCells h (.slice A19 n c19)).toArray rfl rfl 40 Z99 (Blk.new w6 _ _) (zN.out _) (s0N.out _) (oN.out _ _ _) ?_; intro w7 hB19 k19; have hb := below_new k19; have b57 : Hid (Below w5.heap.size w5 w7) := b56.out.trans (hb.mono b56.out.size); have N19 : Hid (NoteAt w7 w6.heap.size h A19 n c19 ss) := ⟨hB19.out, hS6.out.below hb⟩; have N17q := Lib.hid (N17'.out.below b57.out); have O16q : Hid (Blk w7 g16 46 OC.toArray) := (b57.out.block _ O16'.out.lt).trans O16'.out; have B14q : Hid (Blk w7 g14 36 (headCells h).toArray) := (b57.out.block _ GH.out.best.lt).trans GH.out.best; have b17 : Hid (Below w1.heap.size w1 w7) := GH.out.below.trans (b57.out.mono GH.out.below.size); have h19 : Hid (g14 < w6.heap.size) := Nat.lt_of_lt_of_le GH.out.best.lt b56.out.size; clear hb k19 hB19 hS6 b56; generalize w6.heap.size = g19 at *))
            have cs16 : w7.cell? ⟨g16, 32, none⟩ = some (.int .i64 h.size) := by rw [O16q.out.cell 32, List.getElem?_toArray]; exact hO1.out 32 _ (by have := noteCells_head (h := h) (.slice Ao m co) 32 _ (headCells_size ok'.out); rwa [Nat.zero_add] at this)
            have cc16 : w7.cell? ⟨g16, 97, none⟩ = some (.int .i64 h.clock) := by rw [O16q.out.cell 97, List.getElem?_toArray]; exact hO1.out 97 _ (by have := noteCells_head (h := h) (.slice Ao m co) 97 _ (headCells_clock ok'.out); rwa [Nat.zero_add] at this)
            have cl16 : Hid (∀ j u, (cells8 log)[j]? = some u → w7.cell? ⟨g16, 0 + j, none⟩ = some u) := fun j u hu => by rw [O16q.out.cell (0 + j), List.getElem?_toArray, Nat.zero_add]; exact hO1.out j _ (by have := noteCells_head (h := h) (.slice Ao m co) j u (by have := headCells_log (h := h) j u (by rw [hlE.out]; exact hu); rwa [Nat.zero_add] at this); rwa [Nat.zero_add] at this)
            have ch16 : Hid (∀ w', Blk w' g16 46 OC.toArray → ∀ j u, (headCells h)[j]? = some u → w'.cell? ⟨g16, 0 + j, none⟩ = some u) := fun w' hO j u hu => by rw [hO.cell (0 + j), List.getElem?_toArray, Nat.zero_add]; exact hO1.out j _ (by have := noteCells_head (h := h) (.slice Ao m co) j u hu; rwa [Nat.zero_add] at this)
            have cs14 : w7.cell? ⟨g14, 32, none⟩ = some (.int .i64 h.size) := by rw [B14q.out.cell 32, List.getElem?_toArray]; exact headCells_size ok'.out
            have cc14 : w7.cell? ⟨g14, 97, none⟩ = some (.int .i64 h.clock) := by rw [B14q.out.cell 97, List.getElem?_toArray]; exact headCells_clock ok'.out
            have L7 : Hid (Blk w7 w.heap.size 23 (cells8 log).toArray) := hLs.out w7 b17.out
            have hqn : Hid ((binOp .neq 23 (.agg (cells8 log).toArray) (.agg (cells8 log).toArray)).run Tryd.prog w7 = .ok (.bool false) w7) := by show _ = _; rw [neq_dig _ _ hlg.out hlg.out]; simp
            have y1 : (h.size < h.size) = False := eq_false (by omega)
            have y2 : (h.clock < h.clock) = False := eq_false (by omega)
            have hqe : Hid ((binOp .neq 36 (.agg (headCells h).toArray) (.agg (headCells h).toArray)).run Tryd.prog w7 = .ok (.bool false) w7) := by show _ = _; rw [neq_head2 h h ok'.out ok'.out, headB_refl]; rfl
            have hn5 := Lib.hid hn17.out
            have G7 := Lib.hid (GH.out.far b57.out)
            go_upto_region 27 with (first
                | (((with_reducible change wpList _ _ _ ({ dst := some 103, op := _, type := _, pos := _, after := _, guard := _ } :: _) _ _); (with_reducible refine Veil.out ?_); refine wpList_partW (o := ⟨some 103, _, _, _, _, _⟩) rfl 23 (.tmp 102) rfl (g16) (0) rfl (cells8 log) _ cl16.out Tryd.underlying23 rfl sl0.out ?_))
                | (((with_reducible change wpList _ _ _ ({ dst := some 104, op := _, type := _, pos := _, after := _, guard := _ } :: _) _ _); (with_reducible refine Veil.out ?_); refine wpList_rowW (o := ⟨some 104, _, _, _, _, _⟩) rfl 23 (.tmp 6) rfl (w.heap.size) rfl 23 ((cells8 log).toArray) (0, 0) _ L7.out Tryd.underlying23 rfl hfl.out ?_))
                | ((with_reducible change wpList _ _ _ ({ dst := some 105, op := _, type := _, pos := _, after := _, guard := _ } :: _) _ _); (with_reducible refine Veil.out ?_); refine wpList_cmpW (o := ⟨some 105, _, _, _, _, _⟩) rfl .neq 23 23 (.tmp 103) (.tmp 104) rfl ((cells8 log).toArray) ((cells8 log).toArray) rfl rfl qDGt (_) (hqn.out) ?_)
                | (((with_reducible change wpList _ _ _ ({ dst := some 130, op := _, type := _, pos := _, after := _, guard := _ } :: _) _ _); refine wpList_load_part (o := ⟨some 130, _, _, _, _, _⟩) rfl 36 (.tmp 129) rfl (g16) (0) rfl (headCells h) _ (ch16.out w7 O16q.out) Tryd.underlying36 rfl shh.out ?_))
                | (((with_reducible change wpList _ _ _ ({ dst := some 131, op := _, type := _, pos := _, after := _, guard := _ } :: _) _ _); refine wpList_load_row (o := ⟨some 131, _, _, _, _, _⟩) rfl 36 (.tmp 14) rfl (g14) rfl 36 ((headCells h).toArray) (0, 0) _ B14q.out Tryd.underlying36 rfl Fh.out.size ?_))
                | ((with_reducible change wpList _ _ _ ({ dst := some 132, op := _, type := _, pos := _, after := _, guard := _ } :: _) _ _); (with_reducible refine Veil.out ?_); refine wpList_cmpW (o := ⟨some 132, _, _, _, _, _⟩) rfl .neq 36 36 (.tmp 130) (.tmp 131) rfl ((headCells h).toArray) ((headCells h).toArray) rfl rfl qHDt (_) (hqe.out) ?_)
                | (((with_reducible change wpList _ _ _ ({ dst := some 134, op := _, type := _, pos := _, after := _, guard := _ } :: _) _ _); (with_reducible refine Veil.out ?_); refine wpList_rowW (o := ⟨some 134, _, _, _, _, _⟩) rfl 40 (.tmp 19) rfl (g19) rfl 40 ((noteCells h (.slice A19 n c19)).toArray) (0, 0) _ N19.out.blk Tryd.underlying40 rfl (zN.out _) ?_))
                | (((with_reducible change wpList _ _ _ ({ dst := some 135, op := _, type := _, pos := _, after := _, guard := _ } :: _) _ _); (with_reducible refine Veil.out ?_); refine wpList_rowW (o := ⟨some 135, _, _, _, _, _⟩) rfl 40 (.tmp 17) rfl (g17) rfl 40 ((noteCells h (.slice A17 n c17)).toArray) (0, 0) _ N17q.out.blk Tryd.underlying40 rfl (zN.out _) ?_))
                | (go_at_call 13; refine (sameN20_any h ok'.out ss n (by have := hn17.out; omega) A19 A17 c19 c17 w7 N19.out.sgs N17q.out.sgs).mono ?_; rintro e w8 ⟨rfl, hb8⟩; have A8 := Lib.hid (G7.out.aud.below hb8); have B14r : Hid (Blk w8 g14 36 (headCells h).toArray) := (hb8.block _ B14q.out.lt).trans B14q.out; have N19r := Lib.hid (N19.out.below hb8); have O16r : Hid (Blk w8 g16 46 OC.toArray) := (hb8.block _ O16q.out.lt).trans O16q.out; have b18 : Hid (Below w1.heap.size w1 w8) := b17.out.trans (hb8.mono b17.out.size); clear hb8 cs16 cc16 cl16 cs14 cc14 L7 hqn hqe))
            have hB14z : Hid ((headCells h).toArray.size = (headCells h).toArray.size) := rfl
            go_upto_region 28 with (first
                | (((with_reducible change wpList _ _ _ ({ dst := some 141, op := _, type := _, pos := _, after := _, guard := _ } :: _) _ _); refine wpList_load_part (o := ⟨some 141, _, _, _, _, _⟩) rfl 36 (.tmp 140) rfl (g16) (0) rfl (headCells h) _ (ch16.out w8 O16r.out) Tryd.underlying36 rfl shh.out ?_))
                | ((with_reducible change wpList _ _ _ ({ dst := none, op := Op.store 36 (.tmp 14) (.tmp 141), type := _, pos := _, after := _, guard := _ } :: _) _ _); refine wpList_store_allX (o := ⟨none, _, _, _, _, _⟩) rfl rfl 36 (.tmp 14) (.tmp 141) rfl g14 (headCells h).toArray rfl rfl 36 _ B14r.out Fh.out.size hB14z.out Fh.out.one ?_; intro wX BX kX; have AX : Hid (AudAt wX a sc least R h A n c ss) := A8.out.kept kX (by have := hgs.out; omega) (fun b o e => by have := hAo.out _ e; dsimp only at this; omega); have NX := Lib.hid (NoteAt.keptA N19r.out kX (by have := h19.out; omega) hA19o.out); have OX : Hid (Blk wX g16 46 OC.toArray) := O16r.out.kept kX (by have := hgs.out; omega); have b1X : Hid (Below w1.heap.size w1 wX) := b18.out.trans (Kept.below_of kX (by have := hgs.out; have := hga'.out; omega) b18.out.size); clear kX B14r N19r O16r A8 b18))
            have hqh : Hid (∀ w', (binOp .neq 36 (.agg (headCells h).toArray) (.agg (headCells h).toArray)).run Tryd.prog w' = .ok (.bool false) w') := fun w' => by rw [neq_head2 h h ok'.out ok'.out, headB_refl]; rfl
            have s0 : Hid (Below wX.heap.size wX wX.drew) := (Below.refl _ _).drew
            refine held_start (fun w' => Below wX.heap.size wX w') 19 rfl (by kernel_rfl) ?_
            refine held_take (i := 0) (v := .pointer (some ⟨a, 0, none⟩)) rfl (by kernel_rfl) (by kernel_rfl) (by kernel_rfl) (fun _ _ _ h => h) s0.out (by rfl) (fun w' hw' => run_mv (.tmp 13) rfl w') ?_
            (intro K hK; go_simp; refine hK _ ?_; clear hK K)
            refine held_take (i := 2) (v := .agg ((headCells h).toArray)) rfl (by kernel_rfl) (by kernel_rfl) (by kernel_rfl) (fun _ _ _ h => h) s0.out (by rfl) (fun w' hw' => exec_row 36 (.tmp 14) rfl (g14) rfl 36 ((headCells h).toArray) (0, 0) _ ((show Blk w' g14 36 (headCells h).toArray from (hw'.block _ BX.out.lt).trans BX.out)) Tryd.underlying36 rfl Fh.out.size) ?_
            (intro K hK; go_simp; refine hK _ ?_; clear hK K)
            refine held_only (i := 1) rfl (by kernel_rfl) (by rfl) (fun K hK => ?_)
            refine wp_fn (R := fun v w'' => v = .agg (headCells h).toArray ∧ Below wX.heap.size wX w'') (args := #[.pointer (some ⟨a, 0, none⟩)]) _ _ rfl rfl Tryd.func10 (by kernel_rfl) (by kernel_rfl) ((audHead_any a sc least R h A n c ss _ (AX.out.below s0.out)).mono fun e w'' ⟨he, hb⟩ => ⟨_, he, rfl, s0.out.trans (hb.mono s0.out.size)⟩) ?_
            rintro qq wa ⟨rfl, ha⟩
            replace ha := Lib.hid ha
            go_simp
            refine hK _ _ ha.out ?_
            clear hK K
            refine held_take (i := 3) (v := .bool false) rfl (by kernel_rfl) (by kernel_rfl) (by kernel_rfl) (fun _ _ _ h => h) ha.out (by rfl) (fun w' hw' => run_cmp rfl rfl rfl qHDt (hqh.out w')) ?_
            (intro K hK; go_simp; refine hK _ ?_; clear hK K)
            refine held_take (i := 4) (v := .bool false) rfl (by kernel_rfl) (by kernel_rfl) (by kernel_rfl) (fun _ _ _ h => h) ha.out (by rfl) (fun w' hw' => run_mv (.tmp 145) rfl w') ?_
            (intro K hK; go_simp; refine hK _ ?_; clear hK K)
            refine held_take (i := 5) (v := .pointer (some ⟨a, 0, none⟩)) rfl (by kernel_rfl) (by kernel_rfl) (by kernel_rfl) (fun _ _ _ h => h) ha.out (by rfl) (fun w' hw' => run_mv (.tmp 13) rfl w') ?_
            (intro K hK; go_simp; refine hK _ ?_; clear hK K)
            refine held_take (i := 6) (v := .pointer (some ⟨g16, 0, none⟩)) rfl (by kernel_rfl) (by kernel_rfl) (by kernel_rfl) (fun _ _ _ h => h) ha.out (by rfl) (fun w' hw' => by go_simp) ?_
            (intro K hK; go_simp; refine hK _ ?_; clear hK K)
            refine held_take (i := 7) (v := .agg (noteCells h (.slice Ao m co)).toArray) rfl (by kernel_rfl) (by kernel_rfl) (by kernel_rfl) (fun _ _ _ h => h) ha.out (by rfl) (fun w' hw' => exec_part 40 (.tmp 148) rfl (g16) (0) rfl (noteCells h (.slice Ao m co)) _ ((fun j u hu => by rw [Blk.cell (show Blk w' g16 46 OC.toArray from (hw'.block _ OX.out.lt).trans OX.out) (0 + j), List.getElem?_toArray, Nat.zero_add]; exact hO1.out j u hu)) Tryd.underlying40 rfl zL.out) ?_
            (intro K hK; go_simp; refine hK _ ?_; clear hK K)
            refine held_take (i := 8) (v := .agg #[.int .i64 0, .int .i64 0, .slice none 0 0]) rfl (by kernel_rfl) (by kernel_rfl) (by kernel_rfl) (fun _ _ _ h => h) ha.out (by rfl) (fun w' hw' => by go_simp) ?_
            (intro K hK; go_simp; refine hK _ ?_; clear hK K)
            refine held_only (i := 9) rfl (by kernel_rfl) (by rfl) (fun K hK => ?_)
            refine wp_fn (R := fun v w'' => v = .int .i64 0 ∧ Below wX.heap.size wX w'') (args := #[.pointer (some ⟨a, 0, none⟩), .agg (noteCells h (.slice Ao m co)).toArray, .agg #[.int .i64 0, .int .i64 0, .slice none 0 0]]) _ _ rfl rfl Tryd.func12 (by kernel_rfl) (by kernel_rfl) ((hTk0.out h A n c ss _ (b1X.out.trans (ha.out.mono b1X.out.size)) (AX.out.below ha.out)).mono fun e w'' hT => ⟨_, hT.1, by rw [take_again hk.out], ha.out.trans ((again_below hT.2).mono ha.out.size)⟩) ?_
            rintro qq wb ⟨rfl, hb⟩
            replace hb := Lib.hid hb
            go_simp
            refine hK _ _ hb.out ?_
            clear hK K
            refine held_take (i := 10) (v := .bool false) rfl (by kernel_rfl) (by kernel_rfl) (by kernel_rfl) (fun _ _ _ h => h) hb.out (by rfl) (fun w' hw' => by go_simp) ?_
            (intro K hK; go_simp; refine hK _ ?_; clear hK K)
            refine held_take (i := 11) (v := .bool false) rfl (by kernel_rfl) (by kernel_rfl) (by kernel_rfl) (fun _ _ _ h => h) hb.out (by rfl) (fun w' hw' => by go_simp) ?_
            (intro K hK; go_simp; refine hK _ ?_; clear hK K)
            refine held_take (i := 12) (v := .bool false) rfl (by kernel_rfl) (by kernel_rfl) (by kernel_rfl) (fun _ _ _ h => h) hb.out (by rfl) (fun w' hw' => run_mv (.tmp 153) rfl w') ?_
            (intro K hK; go_simp; refine hK _ ?_; clear hK K)
            refine held_take (i := 13) (v := .pointer (some ⟨a, 0, none⟩)) rfl (by kernel_rfl) (by kernel_rfl) (by kernel_rfl) (fun _ _ _ h => h) hb.out (by rfl) (fun w' hw' => run_mv (.tmp 13) rfl w') ?_
            (intro K hK; go_simp; refine hK _ ?_; clear hK K)
            refine held_take (i := 15) (v := .agg ((noteCells h (.slice A19 n c19)).toArray)) rfl (by kernel_rfl) (by kernel_rfl) (by kernel_rfl) (fun _ _ _ h => h) hb.out (by rfl) (fun w' hw' => exec_row 40 (.tmp 19) rfl (g19) rfl 40 ((noteCells h (.slice A19 n c19)).toArray) (0, 0) _ ((NX.out.below hw').blk) Tryd.underlying40 rfl (zN.out _)) ?_
            (intro K hK; go_simp; refine hK _ ?_; clear hK K)
            refine held_only (i := 14) rfl (by kernel_rfl) (by rfl) (fun K hK => ?_)
            refine wp_fn (R := fun v w'' => ∃ A2 c2, v = .agg (noteCells h (.slice A2 n c2)).toArray ∧ Sgs w'' A2 n ss ∧ Below wX.heap.size wX w'') (args := #[.pointer (some ⟨a, 0, none⟩)]) _ _ rfl rfl Tryd.func11 (by kernel_rfl) (by kernel_rfl) ((audNote_any a sc least R h A n c ss _ (AX.out.below hb.out)).mono fun e w'' ⟨A2, c2, he, hO, hb2⟩ => ⟨_, he, A2, c2, rfl, (copy_store hO).1, hb.out.trans (hb2.mono hb.out.size)⟩) ?_
            rintro qq wc ⟨A29, c29, rfl, hS29, hc⟩
            replace hc := Lib.hid hc
            replace hS29 := Lib.hid hS29
            go_simp
            refine hK _ _ hc.out ?_
            clear hK K
            refine held_only (i := 16) rfl (by kernel_rfl) (by rfl) (fun K hK => ?_)
            refine wp_fn (R := fun v w'' => v = .bool true ∧ Below wX.heap.size wX w'') (args := #[.agg (noteCells h (.slice A29 n c29)).toArray, .agg (noteCells h (.slice A19 n c19)).toArray]) _ _ rfl rfl Tryd.func13 (by kernel_rfl) (by kernel_rfl) ((sameN20_any h ok'.out ss n (by have := hn5.out; omega) A29 A19 c29 c19 wc hS29.out (NX.out.below hc.out).sgs).mono fun e w'' ⟨he, hb2⟩ => ⟨_, he, rfl, hc.out.trans (hb2.mono hc.out.size)⟩) ?_
            rintro qq wd ⟨rfl, hd⟩
            replace hd := Lib.hid hd
            go_simp
            refine hK _ _ hd.out ?_
            clear hK K
            refine held_take (i := 17) (v := .bool false) rfl (by kernel_rfl) (by kernel_rfl) (by kernel_rfl) (fun _ _ _ h => h) hd.out (by rfl) (fun w' hw' => by go_simp) ?_
            (intro K hK; go_simp; refine hK _ ?_; clear hK K)
            refine held_take (i := 18) (v := .bool false) rfl (by kernel_rfl) (by kernel_rfl) (by kernel_rfl) (fun _ _ _ h => h) hd.out (by rfl) (fun w' hw' => by go_simp) ?_
            (intro K hK; go_simp; refine hK _ ?_; clear hK K)
            refine held_end (by kernel_rfl) ?_
            have G9 : Hid (GI w1 sc least R log a g14 wd h A n c ss) := ⟨AX.out.below hd.out, (hd.out.block _ BX.out.lt).trans BX.out, hlE.out, b1X.out.trans (hd.out.mono b1X.out.size), hAo.out⟩
            go_wp2_with fail
            go_roundw
            case rel => exact ⟨i + 1, h, A, n, c, ss, by go_num, h40'.out, G9.out⟩
            case measure => (have := h40'.out; simp [intOf]; omega)
          · have hz5 : ¬ (k = 0) := h0
            clear hnb hTP hb5 N17 O16 hGF hTk hTk0
            go_wp2_with (first
    | (go_at_call 11; refine (audNote_any a sc least R H A n c ss w5 GH.out.aud).mono ?_; rintro e w6 ⟨A19, c19, rfl, hO, hb6⟩; obtain ⟨hS6, hbl6⟩ := copy_store hO; have b56 : Hid (Below w5.heap.size w5 w6) := hb6; replace hS6 := Lib.hid hS6; have hA19o : Hid (∀ b, A19 = some b → ¬ b.block = g14) := (fun b e => by have := hbl6 b e; have := B14lt.out; omega); clear hO hb6 hbl6)
    | ((with_reducible change wpList _ _ _ ({ dst := none, op := Op.store 40 (.tmp 19) (.tmp 85), type := _, pos := _, after := _, guard := _ } :: _) _ _); refine wpList_store_allX (o := ⟨none, _, _, _, _, _⟩) rfl rfl 40 (.tmp 19) (.tmp 85) rfl w6.heap.size (noteCells H (.slice A19 n c19)).toArray rfl rfl 40 Z99 (Blk.new w6 _ _) (zNH.out _) (s0NH.out _) (oNH.out _ _ _) ?_; intro w7 hB19 k19; have hb := below_new k19; have b57 : Hid (Below w5.heap.size w5 w7) := b56.out.trans (hb.mono b56.out.size); have N19 : Hid (NoteAt w7 w6.heap.size H A19 n c19 ss) := ⟨hB19.out, hS6.out.below hb⟩; have N17q := Lib.hid (N17'.out.below b57.out); have O16q : Hid (Blk w7 g16 46 OC.toArray) := (b57.out.block _ O16'.out.lt).trans O16'.out; have B14q : Hid (Blk w7 g14 36 (headCells H).toArray) := (b57.out.block _ GH.out.best.lt).trans GH.out.best; have b17 : Hid (Below w1.heap.size w1 w7) := GH.out.below.trans (b57.out.mono GH.out.below.size); have h19 : Hid (g14 < w6.heap.size) := Nat.lt_of_lt_of_le GH.out.best.lt b56.out.size; clear hb k19 hB19 hS6 b56; generalize w6.heap.size = g19 at *)
    | (((with_reducible change wpList _ _ _ ({ dst := some 88, op := _, type := _, pos := _, after := _, guard := _ } :: _) _ _); refine wpList_load_row (o := ⟨some 88, _, _, _, _, _⟩) rfl 40 (.tmp 17) rfl (g17) rfl 40 ((noteCells H (.slice A17 n c17)).toArray) (0, 0) _ N17q.out.blk Tryd.underlying40 rfl (zNH.out _) ?_))
    | (((with_reducible change wpList _ _ _ ({ dst := some 89, op := _, type := _, pos := _, after := _, guard := _ } :: _) _ _); refine wpList_load_row (o := ⟨some 89, _, _, _, _, _⟩) rfl 40 (.tmp 19) rfl (g19) rfl 40 ((noteCells H (.slice A19 n c19)).toArray) (0, 0) _ N19.out.blk Tryd.underlying40 rfl (zNH.out _) ?_))
    | (go_at_call 13; refine (sameN20_any H okH.out ss n (by have := hn17.out; omega) A17 A19 c17 c19 w7 N17q.out.sgs N19.out.sgs).mono ?_; rintro e w8 ⟨rfl, hb8⟩; have hG9 := Lib.hid ((GH.out.far b57.out).far hb8); clear hb8))
            go_roundw
            case rel => exact ⟨i + 1, H, A, n, c, ss, by go_num, h40'.out, hG9.out⟩
            case measure => (have := h40'.out; simp [intOf]; omega)
        · obtain ⟨ht0, hlgE, hszE, hclE⟩ := take_zero_new hnb
          have hk0 : k = 0 := hk.out.symm.trans ht0
          subst hk0
          replace hk5 := Lib.hid hk5
          replace hA5 := Lib.hid hA5
          have hA5o : Hid (∀ b, A5 = some b → g14 < b.block) := fun b e => by have := hA5b b e; have := hgs.out; have := N17.out.blk.lt; omega
          have hm16 := Lib.hid (take_ver hk.out)
          have N17' : Hid (NoteAt w5 g17 H A17 n c17 ss) := NoteAt.keptA N17.out hk5.out (by have := hgs.out; omega) (fun b e => by have := hgs.out; have := hg17.out b e; omega)
          have O16' : Hid (Blk w5 g16 46 OC.toArray) := O16.out.kept hk5.out (by have := hgs.out; omega)
          have B14lt : Hid (g14 < w5.heap.size) := by have h1 := N17'.out.blk.lt; have := hgs.out; show _ < _; omega
          have b15 : Hid (Below w1.heap.size w1 w5) := hGF.out.below.trans (Kept.below_of hk5.out hga'.out hGF.out.below.size)
          have B14' : Hid (Blk w5 g14 36 (headCells H).toArray) := hGF.out.best.kept hk5.out (by have := hgs.out; omega)
          have hlE : Hid (h.log = log) := hlgE.trans hG.out.log
          clear hnb hTP ht0 N17 O16 hGF hTk hk5 hlgE hA5b
          have Fh := Lib.hid (AudTake.fitH ok'.out)
          have shh : Hid ((Tryd.prog.info? 36).map (·.size) = some (headCells h).length) := by show _ = _; rw [headCells_len ok'.out]; exact size98
          have hn5 : Hid (n5 ≤ 16) := hA5.out.few
          go_upto_region 17 with (first
              | (go_at_call 11; refine (audNote_any a sc least R h A5 n5 c5 rs w5 hA5.out).mono ?_; rintro e w6 ⟨A19, c19, rfl, hO, hb6⟩; obtain ⟨hS6, hbl6⟩ := copy_store hO; have b56 : Hid (Below w5.heap.size w5 w6) := hb6; replace hS6 := Lib.hid hS6; have hA19o : Hid (∀ b, A19 = some b → ¬ b.block = g14) := (fun b e => by have := hbl6 b e; have := B14lt.out; omega); clear hO hb6 hbl6)
              | ((with_reducible change wpList _ _ _ ({ dst := none, op := Op.store 40 (.tmp 19) (.tmp 85), type := _, pos := _, after := _, guard := _ } :: _) _ _); refine wpList_store_allX (o := ⟨none, _, _, _, _, _⟩) rfl rfl 40 (.tmp 19) (.tmp 85) rfl w6.heap.size (noteCells h (.slice A19 n5 c19)).toArray rfl rfl 40 Z99 (Blk.new w6 _ _) (zN.out _) (s0N.out _) (oN.out _ _ _) ?_; intro w7 hB19 k19; have hb := below_new k19; have b57 : Hid (Below w5.heap.size w5 w7) := b56.out.trans (hb.mono b56.out.size); have N19 : Hid (NoteAt w7 w6.heap.size h A19 n5 c19 rs) := ⟨hB19.out, hS6.out.below hb⟩; have N17q := Lib.hid (N17'.out.below b57.out); have O16q : Hid (Blk w7 g16 46 OC.toArray) := (b57.out.block _ O16'.out.lt).trans O16'.out; have B14q : Hid (Blk w7 g14 36 (headCells H).toArray) := (b57.out.block _ B14'.out.lt).trans B14'.out; have b17 : Hid (Below w1.heap.size w1 w7) := b15.out.trans (b57.out.mono b15.out.size); have h19 : Hid (g14 < w6.heap.size) := Nat.lt_of_lt_of_le B14'.out.lt b56.out.size; clear hb k19 hB19 hS6 b56; generalize w6.heap.size = g19 at *))
          have cs16 : w7.cell? ⟨g16, 32, none⟩ = some (.int .i64 h.size) := by rw [O16q.out.cell 32, List.getElem?_toArray]; exact hO1.out 32 _ (by have := noteCells_head (h := h) (.slice Ao m co) 32 _ (headCells_size ok'.out); rwa [Nat.zero_add] at this)
          have cc16 : w7.cell? ⟨g16, 97, none⟩ = some (.int .i64 h.clock) := by rw [O16q.out.cell 97, List.getElem?_toArray]; exact hO1.out 97 _ (by have := noteCells_head (h := h) (.slice Ao m co) 97 _ (headCells_clock ok'.out); rwa [Nat.zero_add] at this)
          have cl16 : Hid (∀ j u, (cells8 log)[j]? = some u → w7.cell? ⟨g16, 0 + j, none⟩ = some u) := fun j u hu => by rw [O16q.out.cell (0 + j), List.getElem?_toArray, Nat.zero_add]; exact hO1.out j _ (by have := noteCells_head (h := h) (.slice Ao m co) j u (by have := headCells_log (h := h) j u (by rw [hlE.out]; exact hu); rwa [Nat.zero_add] at this); rwa [Nat.zero_add] at this)
          have ch16 : Hid (∀ w', Blk w' g16 46 OC.toArray → ∀ j u, (headCells h)[j]? = some u → w'.cell? ⟨g16, 0 + j, none⟩ = some u) := fun w' hO j u hu => by rw [hO.cell (0 + j), List.getElem?_toArray, Nat.zero_add]; exact hO1.out j _ (by have := noteCells_head (h := h) (.slice Ao m co) j u hu; rwa [Nat.zero_add] at this)
          have cs14 : w7.cell? ⟨g14, 32, none⟩ = some (.int .i64 H.size) := by rw [B14q.out.cell 32, List.getElem?_toArray]; exact headCells_size okH.out
          have cc14 : w7.cell? ⟨g14, 97, none⟩ = some (.int .i64 H.clock) := by rw [B14q.out.cell 97, List.getElem?_toArray]; exact headCells_clock okH.out
          have L7 : Hid (Blk w7 w.heap.size 23 (cells8 log).toArray) := hLs.out w7 b17.out
          have hqn : Hid ((binOp .neq 23 (.agg (cells8 log).toArray) (.agg (cells8 log).toArray)).run Tryd.prog w7 = .ok (.bool false) w7) := by show _ = _; rw [neq_dig _ _ hlg.out hlg.out]; simp
          have y1 : (h.size < H.size) = False := eq_false (by omega)
          have y2 : (h.clock < H.clock) = False := eq_false (by omega)
          have y3 : H.size < h.size := hszE
          have hmn : Hid (m = n5) := by show _ = _; have h1 := hA5.out.sgs.len; have h2 := hxn.out; omega
          have hS7 := Lib.hid (hSg.out w7 b17.out)
          clear hszE hclE
          go_upto_region 27 with (first
              | (((with_reducible change wpList _ _ _ ({ dst := some 103, op := _, type := _, pos := _, after := _, guard := _ } :: _) _ _); (with_reducible refine Veil.out ?_); refine wpList_partW (o := ⟨some 103, _, _, _, _, _⟩) rfl 23 (.tmp 102) rfl (g16) (0) rfl (cells8 log) _ cl16.out Tryd.underlying23 rfl sl0.out ?_))
              | (((with_reducible change wpList _ _ _ ({ dst := some 104, op := _, type := _, pos := _, after := _, guard := _ } :: _) _ _); (with_reducible refine Veil.out ?_); refine wpList_rowW (o := ⟨some 104, _, _, _, _, _⟩) rfl 23 (.tmp 6) rfl (w.heap.size) rfl 23 ((cells8 log).toArray) (0, 0) _ L7.out Tryd.underlying23 rfl hfl.out ?_))
              | ((with_reducible change wpList _ _ _ ({ dst := some 105, op := _, type := _, pos := _, after := _, guard := _ } :: _) _ _); (with_reducible refine Veil.out ?_); refine wpList_cmpW (o := ⟨some 105, _, _, _, _, _⟩) rfl .neq 23 23 (.tmp 103) (.tmp 104) rfl ((cells8 log).toArray) ((cells8 log).toArray) rfl rfl qDGt (_) (hqn.out) ?_)
              | (((with_reducible change wpList _ _ _ ({ dst := some 123, op := _, type := _, pos := _, after := _, guard := _ } :: _) _ _); refine wpList_load_row (o := ⟨some 123, _, _, _, _, _⟩) rfl 40 (.tmp 19) rfl (g19) rfl 40 ((noteCells h (.slice A19 n5 c19)).toArray) (0, 0) _ N19.out.blk Tryd.underlying40 rfl (zN.out _) ?_))
              | (((with_reducible change wpList _ _ _ ({ dst := some 125, op := _, type := _, pos := _, after := _, guard := _ } :: _) _ _); refine wpList_load_part (o := ⟨some 125, _, _, _, _, _⟩) rfl 40 (.tmp 124) rfl (g16) (0) rfl (noteCells h (.slice Ao m co)) _ (fun j u hu => by rw [O16q.out.cell (0 + j), List.getElem?_toArray, Nat.zero_add]; exact hO1.out j u hu) Tryd.underlying40 rfl zL.out ?_))
              | (go_at_call 13; refine (same_mn ok'.out hmn.out (by have := hn5.out; omega) N19.out.sgs hS7.out).mono ?_; rintro e w8 ⟨rfl, hb8⟩; have A8 := Lib.hid ((hA5.out.below b57.out).below hb8); have B14r : Hid (Blk w8 g14 36 (headCells H).toArray) := (hb8.block _ B14q.out.lt).trans B14q.out; have N19r := Lib.hid (N19.out.below hb8); have O16r : Hid (Blk w8 g16 46 OC.toArray) := (hb8.block _ O16q.out.lt).trans O16q.out; have b18 : Hid (Below w1.heap.size w1 w8) := b17.out.trans (hb8.mono b17.out.size); clear hb8 cs16 cc16 cl16 cs14 cc14 L7 hqn))
          have hB14z : Hid ((headCells H).toArray.size = (headCells h).toArray.size) := by show _ = _; rw [List.size_toArray, List.size_toArray, headCells_len ok'.out, headCells_len okH.out]
          go_upto_region 28 with (first
              | (((with_reducible change wpList _ _ _ ({ dst := some 141, op := _, type := _, pos := _, after := _, guard := _ } :: _) _ _); refine wpList_load_part (o := ⟨some 141, _, _, _, _, _⟩) rfl 36 (.tmp 140) rfl (g16) (0) rfl (headCells h) _ (ch16.out w8 O16r.out) Tryd.underlying36 rfl shh.out ?_))
              | ((with_reducible change wpList _ _ _ ({ dst := none, op := Op.store 36 (.tmp 14) (.tmp 141), type := _, pos := _, after := _, guard := _ } :: _) _ _); refine wpList_store_allX (o := ⟨none, _, _, _, _, _⟩) rfl rfl 36 (.tmp 14) (.tmp 141) rfl g14 (headCells h).toArray rfl rfl 36 _ B14r.out Fh.out.size hB14z.out Fh.out.one ?_; intro wX BX kX; have AX : Hid (AudAt wX a sc least R h A5 n5 c5 rs) := A8.out.kept kX (by have := hgs.out; omega) (fun b o e => by have := hA5o.out _ e; dsimp only at this; omega); have NX := Lib.hid (NoteAt.keptA N19r.out kX (by have := h19.out; omega) hA19o.out); have OX : Hid (Blk wX g16 46 OC.toArray) := O16r.out.kept kX (by have := hgs.out; omega); have b1X : Hid (Below w1.heap.size w1 wX) := b18.out.trans (Kept.below_of kX (by have := hgs.out; have := hga'.out; omega) b18.out.size); clear kX B14r N19r O16r A8 b18))
          have hqh : Hid (∀ w', (binOp .neq 36 (.agg (headCells h).toArray) (.agg (headCells h).toArray)).run Tryd.prog w' = .ok (.bool false) w') := fun w' => by rw [neq_head2 h h ok'.out ok'.out, headB_refl]; rfl
          have s0 : Hid (Below wX.heap.size wX wX.drew) := (Below.refl _ _).drew
          refine held_start (fun w' => Below wX.heap.size wX w') 19 rfl (by kernel_rfl) ?_
          refine held_take (i := 0) (v := .pointer (some ⟨a, 0, none⟩)) rfl (by kernel_rfl) (by kernel_rfl) (by kernel_rfl) (fun _ _ _ h => h) s0.out (by rfl) (fun w' hw' => run_mv (.tmp 13) rfl w') ?_
          (intro K hK; go_simp; refine hK _ ?_; clear hK K)
          refine held_take (i := 2) (v := .agg ((headCells h).toArray)) rfl (by kernel_rfl) (by kernel_rfl) (by kernel_rfl) (fun _ _ _ h => h) s0.out (by rfl) (fun w' hw' => exec_row 36 (.tmp 14) rfl (g14) rfl 36 ((headCells h).toArray) (0, 0) _ ((show Blk w' g14 36 (headCells h).toArray from (hw'.block _ BX.out.lt).trans BX.out)) Tryd.underlying36 rfl Fh.out.size) ?_
          (intro K hK; go_simp; refine hK _ ?_; clear hK K)
          refine held_only (i := 1) rfl (by kernel_rfl) (by rfl) (fun K hK => ?_)
          refine wp_fn (R := fun v w'' => v = .agg (headCells h).toArray ∧ Below wX.heap.size wX w'') (args := #[.pointer (some ⟨a, 0, none⟩)]) _ _ rfl rfl Tryd.func10 (by kernel_rfl) (by kernel_rfl) ((audHead_any a sc least R h A5 n5 c5 rs _ (AX.out.below s0.out)).mono fun e w'' ⟨he, hb⟩ => ⟨_, he, rfl, s0.out.trans (hb.mono s0.out.size)⟩) ?_
          rintro qq wa ⟨rfl, ha⟩
          replace ha := Lib.hid ha
          go_simp
          refine hK _ _ ha.out ?_
          clear hK K
          refine held_take (i := 3) (v := .bool false) rfl (by kernel_rfl) (by kernel_rfl) (by kernel_rfl) (fun _ _ _ h => h) ha.out (by rfl) (fun w' hw' => run_cmp rfl rfl rfl qHDt (hqh.out w')) ?_
          (intro K hK; go_simp; refine hK _ ?_; clear hK K)
          refine held_take (i := 4) (v := .bool false) rfl (by kernel_rfl) (by kernel_rfl) (by kernel_rfl) (fun _ _ _ h => h) ha.out (by rfl) (fun w' hw' => run_mv (.tmp 145) rfl w') ?_
          (intro K hK; go_simp; refine hK _ ?_; clear hK K)
          refine held_take (i := 5) (v := .pointer (some ⟨a, 0, none⟩)) rfl (by kernel_rfl) (by kernel_rfl) (by kernel_rfl) (fun _ _ _ h => h) ha.out (by rfl) (fun w' hw' => run_mv (.tmp 13) rfl w') ?_
          (intro K hK; go_simp; refine hK _ ?_; clear hK K)
          refine held_take (i := 6) (v := .pointer (some ⟨g16, 0, none⟩)) rfl (by kernel_rfl) (by kernel_rfl) (by kernel_rfl) (fun _ _ _ h => h) ha.out (by rfl) (fun w' hw' => by go_simp) ?_
          (intro K hK; go_simp; refine hK _ ?_; clear hK K)
          refine held_take (i := 7) (v := .agg (noteCells h (.slice Ao m co)).toArray) rfl (by kernel_rfl) (by kernel_rfl) (by kernel_rfl) (fun _ _ _ h => h) ha.out (by rfl) (fun w' hw' => exec_part 40 (.tmp 148) rfl (g16) (0) rfl (noteCells h (.slice Ao m co)) _ ((fun j u hu => by rw [Blk.cell (show Blk w' g16 46 OC.toArray from (hw'.block _ OX.out.lt).trans OX.out) (0 + j), List.getElem?_toArray, Nat.zero_add]; exact hO1.out j u hu)) Tryd.underlying40 rfl zL.out) ?_
          (intro K hK; go_simp; refine hK _ ?_; clear hK K)
          refine held_take (i := 8) (v := .agg #[.int .i64 0, .int .i64 0, .slice none 0 0]) rfl (by kernel_rfl) (by kernel_rfl) (by kernel_rfl) (fun _ _ _ h => h) ha.out (by rfl) (fun w' hw' => by go_simp) ?_
          (intro K hK; go_simp; refine hK _ ?_; clear hK K)
          refine held_only (i := 9) rfl (by kernel_rfl) (by rfl) (fun K hK => ?_)
          refine wp_fn (R := fun v w'' => v = .int .i64 0 ∧ Below wX.heap.size wX w'') (args := #[.pointer (some ⟨a, 0, none⟩), .agg (noteCells h (.slice Ao m co)).toArray, .agg #[.int .i64 0, .int .i64 0, .slice none 0 0]]) _ _ rfl rfl Tryd.func12 (by kernel_rfl) (by kernel_rfl) ((hTk0.out h A5 n5 c5 rs _ (b1X.out.trans (ha.out.mono b1X.out.size)) (AX.out.below ha.out)).mono fun e w'' hT => ⟨_, hT.1, by rw [take_again hk.out], ha.out.trans ((again_below hT.2).mono ha.out.size)⟩) ?_
          rintro qq wb ⟨rfl, hb⟩
          replace hb := Lib.hid hb
          go_simp
          refine hK _ _ hb.out ?_
          clear hK K
          refine held_take (i := 10) (v := .bool false) rfl (by kernel_rfl) (by kernel_rfl) (by kernel_rfl) (fun _ _ _ h => h) hb.out (by rfl) (fun w' hw' => by go_simp) ?_
          (intro K hK; go_simp; refine hK _ ?_; clear hK K)
          refine held_take (i := 11) (v := .bool false) rfl (by kernel_rfl) (by kernel_rfl) (by kernel_rfl) (fun _ _ _ h => h) hb.out (by rfl) (fun w' hw' => by go_simp) ?_
          (intro K hK; go_simp; refine hK _ ?_; clear hK K)
          refine held_take (i := 12) (v := .bool false) rfl (by kernel_rfl) (by kernel_rfl) (by kernel_rfl) (fun _ _ _ h => h) hb.out (by rfl) (fun w' hw' => run_mv (.tmp 153) rfl w') ?_
          (intro K hK; go_simp; refine hK _ ?_; clear hK K)
          refine held_take (i := 13) (v := .pointer (some ⟨a, 0, none⟩)) rfl (by kernel_rfl) (by kernel_rfl) (by kernel_rfl) (fun _ _ _ h => h) hb.out (by rfl) (fun w' hw' => run_mv (.tmp 13) rfl w') ?_
          (intro K hK; go_simp; refine hK _ ?_; clear hK K)
          refine held_take (i := 15) (v := .agg ((noteCells h (.slice A19 n5 c19)).toArray)) rfl (by kernel_rfl) (by kernel_rfl) (by kernel_rfl) (fun _ _ _ h => h) hb.out (by rfl) (fun w' hw' => exec_row 40 (.tmp 19) rfl (g19) rfl 40 ((noteCells h (.slice A19 n5 c19)).toArray) (0, 0) _ ((NX.out.below hw').blk) Tryd.underlying40 rfl (zN.out _)) ?_
          (intro K hK; go_simp; refine hK _ ?_; clear hK K)
          refine held_only (i := 14) rfl (by kernel_rfl) (by rfl) (fun K hK => ?_)
          refine wp_fn (R := fun v w'' => ∃ A2 c2, v = .agg (noteCells h (.slice A2 n5 c2)).toArray ∧ Sgs w'' A2 n5 rs ∧ Below wX.heap.size wX w'') (args := #[.pointer (some ⟨a, 0, none⟩)]) _ _ rfl rfl Tryd.func11 (by kernel_rfl) (by kernel_rfl) ((audNote_any a sc least R h A5 n5 c5 rs _ (AX.out.below hb.out)).mono fun e w'' ⟨A2, c2, he, hO, hb2⟩ => ⟨_, he, A2, c2, rfl, (copy_store hO).1, hb.out.trans (hb2.mono hb.out.size)⟩) ?_
          rintro qq wc ⟨A29, c29, rfl, hS29, hc⟩
          replace hc := Lib.hid hc
          replace hS29 := Lib.hid hS29
          go_simp
          refine hK _ _ hc.out ?_
          clear hK K
          refine held_only (i := 16) rfl (by kernel_rfl) (by rfl) (fun K hK => ?_)
          refine wp_fn (R := fun v w'' => v = .bool true ∧ Below wX.heap.size wX w'') (args := #[.agg (noteCells h (.slice A29 n5 c29)).toArray, .agg (noteCells h (.slice A19 n5 c19)).toArray]) _ _ rfl rfl Tryd.func13 (by kernel_rfl) (by kernel_rfl) ((sameN20_any h ok'.out rs n5 (by have := hn5.out; omega) A29 A19 c29 c19 wc hS29.out (NX.out.below hc.out).sgs).mono fun e w'' ⟨he, hb2⟩ => ⟨_, he, rfl, hc.out.trans (hb2.mono hc.out.size)⟩) ?_
          rintro qq wd ⟨rfl, hd⟩
          replace hd := Lib.hid hd
          go_simp
          refine hK _ _ hd.out ?_
          clear hK K
          refine held_take (i := 17) (v := .bool false) rfl (by kernel_rfl) (by kernel_rfl) (by kernel_rfl) (fun _ _ _ h => h) hd.out (by rfl) (fun w' hw' => by go_simp) ?_
          (intro K hK; go_simp; refine hK _ ?_; clear hK K)
          refine held_take (i := 18) (v := .bool false) rfl (by kernel_rfl) (by kernel_rfl) (by kernel_rfl) (fun _ _ _ h => h) hd.out (by rfl) (fun w' hw' => by go_simp) ?_
          (intro K hK; go_simp; refine hK _ ?_; clear hK K)
          refine held_end (by kernel_rfl) ?_
          have G9 : Hid (GI w1 sc least R log a g14 wd h A5 n5 c5 rs) := ⟨AX.out.below hd.out, (hd.out.block _ BX.out.lt).trans BX.out, hlE.out, b1X.out.trans (hd.out.mono b1X.out.size), hA5o.out⟩
          go_wp2_with fail
          go_roundw
          case rel => exact ⟨i + 1, h, A5, n5, c5, rs, by go_num, h40'.out, G9.out⟩
          case measure => (have := h40'.out; simp [intOf]; omega)
      · have hz2 : ¬ ((i : Int) < 40) := by omega
        clear hlt h40
        go_wp2_with fail
        go_ret
        exact ⟨rfl, bbr.out⟩
    · have hz : ¬ ((i : Int) < (na : Int)) := by omega
      clear hlt
      go_wp2_with fail
      go_ret
      exact ⟨rfl, bbr.out⟩
end Go.Proofs.YtgldkfaiofkhbaaDoor.AuditGrows
