/-
  Texts of the claim, put into one file: Ahead, AheadX, Climbs, ThirdP.
-/
import Derived.Test.YtpgenpogjhpeoaaDoorZ26
import Derived.Test.YtpgenpogjhpeoaaDoorZ7
import Derived.Test.YtpgenpogjhpeoaaDoorZ13

namespace Go.Proofs.YtpgenpogjhpeoaaDoor.Ahead
open Go Go.RowKit Go.Proofs.YtpgenpogjhpeoaaDoor Go.Proofs.YtpgenpogjhpeoaaDoor.Digest Go.Proofs.YtpgenpogjhpeoaaDoor.Mem Go.Proofs.YtpgenpogjhpeoaaDoor.Sha Go.Proofs.YtpgenpogjhpeoaaDoor.ShaWalk Go.Proofs.YtpgenpogjhpeoaaDoor.Bytes Go.Proofs.YtpgenpogjhpeoaaDoor.Append Go.Proofs.YtpgenpogjhpeoaaDoor.HashMem Go.Proofs.YtpgenpogjhpeoaaDoor.DigestMem Go.Proofs.YtpgenpogjhpeoaaDoor.DigestTop Go.Proofs.YtpgenpogjhpeoaaDoor.QuietTail Go.Proofs.YtpgenpogjhpeoaaDoor.Grown Go.Proofs.YtpgenpogjhpeoaaDoor.Chain Go.Proofs.YtpgenpogjhpeoaaDoor.TreeMath Go.Proofs.YtpgenpogjhpeoaaDoor.TreeMem Go.Proofs.YtpgenpogjhpeoaaDoor.TreeRoot Go.Proofs.YtpgenpogjhpeoaaDoor.Held Go.Proofs.YtpgenpogjhpeoaaDoor.Guard Go.Proofs.YtpgenpogjhpeoaaDoor.Book Go.Proofs.YtpgenpogjhpeoaaDoor.Node Go.Proofs.YtpgenpogjhpeoaaDoor.NodeW Go.Proofs.YtpgenpogjhpeoaaDoor.WayP Go.Proofs.YtpgenpogjhpeoaaDoor.RevP Go.Proofs.YtpgenpogjhpeoaaDoor.TreeRefRoot Go.Proofs.YtpgenpogjhpeoaaDoor.Climb Go.Proofs.YtpgenpogjhpeoaaDoor.Incl Go.Proofs.YtpgenpogjhpeoaaDoor.Subs Go.Proofs.YtpgenpogjhpeoaaDoor.RowsP Go.Proofs.YtpgenpogjhpeoaaDoor.Joint Go.Proofs.YtpgenpogjhpeoaaDoor.RefIncl0 Go.Proofs.YtpgenpogjhpeoaaDoor.AheadM Go.Proofs.YtpgenpogjhpeoaaDoor.AheadT

/-- What it leaves. -/
def AhPost (w : World) (Z : Ah) (e : Ending) (w' : World) : Prop := ∃ A c xs, e = .returned (.tuple #[.agg (cells8 Z.fr).toArray, .agg (cells8 Z.sr).toArray, .slice A (Z.ft.length + Z.st.length) c]) ∧ Reads w' 1 A (Z.ft.length + Z.st.length) xs ∧ Tx w' xs (Z.ft ++ Z.st) ∧ Below w.heap.size w w'
/-- .. and the texts are a row of its own. -/
def AhOwn (w : World) (Z : Ah) (e : Ending) (w' : World) : Prop := ∃ A c xs, e = .returned (.tuple #[.agg (cells8 Z.fr).toArray, .agg (cells8 Z.sr).toArray, .slice A (Z.ft.length + Z.st.length) c]) ∧ w'.ownsRow w.heap.size 27 1 (.slice A (Z.ft.length + Z.st.length) c) (Z.ft.length + Z.st.length) xs ∧ Tx w' xs (Z.ft ++ Z.st) ∧ Below w.heap.size w w'
theorem AhOwn.post {w : World} {Z : Ah} {e : Ending} {w' : World} (h : AhOwn w Z e w') : AhPost w Z e w' := by
  obtain ⟨A, c, xs, h1, h2, h3, h4⟩ := h
  obtain ⟨A9, c9, e9, -, -, -, hR9, -⟩ := Append.Own.reads h2
  injection e9 with e91 e92 e93
  subst e91
  exact ⟨A, c, xs, h1, hR9, h3, h4⟩
set_option maxRecDepth 100000 in
set_option maxHeartbeats 4000000 in
theorem ahead_own (s : Int) (old size : Nat) (h1 : 1 ≤ old) (h2 : old < size) (hs : size ≤ 1099511627776) (root : Text) (hrt : root.length = 32) (ds : List Text) (A : Option Addr) (n c : Nat) (hn : (partsOf old size).length = n) (w : World) (hB : Base w) (hr : RdD w A n ds) :
    Calls Tryd.prog 70 #[.int .i64 s, .int .i64 (old : Int), .int .i64 (size : Int), .agg (cells8 root).toArray, .slice A n c] w (AhOwn w (aheadOf s old size root ds)) := by
  obtain ⟨i0, ii, iz0, iz1, iz2⟩ := info_partsN infoT
  have hn41 : Hid (n ≤ 41) := by show _ ≤ _; rw [← hn, partsOf_len (by omega)]; exact betw_le (by omega) hs
  obtain ⟨hlow, -, -⟩ := parts_low h1 h2
  rw [hn] at hlow
  obtain ⟨low, hlo⟩ : ∃ low, lowOf old = low := ⟨_, rfl⟩
  rw [hlo] at hlow
  obtain ⟨P, hP⟩ : ∃ P, ((partsOf old size).map (bh old)).zip ds = P := ⟨_, rfl⟩
  obtain ⟨x0, hx0⟩ : ∃ x0, (if powB old then root else ds.getD 0 []) = x0 := ⟨_, rfl⟩
  have hZ : aheadOf s old size root ds = aheadS s x0 low P n := by unfold aheadOf; rw [hP, hlo, hx0, hr.1]
  rw [hZ]
  clear hZ
  have hPl : P.length = n := by rw [← hP, List.length_zip, List.length_map, hn, hr.1]; omega
  have hPd : ∀ p ∈ P, p.2.length = 32 := fun p hp => by rw [← hP] at hp; exact hr.2.1 _ (List.of_mem_zip (show (p.1, p.2) ∈ _ from hp)).2
  obtain ⟨d0, hd0⟩ : ∃ d0, ds[0]? = some d0 := ⟨_, List.getElem?_eq_getElem (by have := hr.1; omega)⟩
  have hx0l : x0.length = 32 := by
    rw [← hx0]
    split
    · exact hrt
    · have := hr.2.1.at_ hd0
      simpa [List.getD, hd0] using this
  have hok : Hid (∀ j, low ≤ j → j ≤ n → (aheadS s x0 low P j).Ok (j - low)) := fun j h1 h2 => by
    have := aheadS_ok (s := s) (low := low) hx0l hPd (j - low) (by omega)
    rwa [show low + (j - low) = j by omega] at this
  have hPj : Hid (∀ j p d, (partsOf old size)[j]? = some p → ds[j]? = some d → P[j]? = some (bh old p, d)) := fun j p d h1 h2 => by
    rw [← hP]
    exact List.getElem?_zip_eq_some.2 ⟨by rw [List.getElem?_map, h1]; rfl, h2⟩
  obtain ⟨ps, hps⟩ : ∃ ps, partsOf old size = ps := ⟨_, rfl⟩
  have hPt := Lib.hid (fun w' => parts_any old size (by omega) hs w')
  rw [hps] at hPt hPj hn
  have hpw := and_pred h1
  have hai := and_i64 old h1 (by omega)
  have hb0 : Hid (Below w.heap.size w (((w.alloc (.cells (cells8 root).toArray 23)).alloc (.cells Z32 23)).alloc (.cells Z32 23))) := ((Below.heap_below w _).alloc (by simp) _).alloc (by simp; omega) _
  have hz0 : Hid ((((w.alloc (.cells (cells8 root).toArray 23)).alloc (.cells Z32 23)).alloc (.cells Z32 23)).heap.size = w.heap.size + 3) := by show _ = _; simp
  have hz2 : ((w.alloc (.cells (cells8 root).toArray 23)).alloc (.cells Z32 23)).heap.size = w.heap.size + 2 := by simp
  have hz1 : (w.alloc (.cells (cells8 root).toArray 23)).heap.size = w.heap.size + 1 := by simp
  have hR0 : Hid (Blk (((w.alloc (.cells (cells8 root).toArray 23)).alloc (.cells Z32 23)).alloc (.cells Z32 23)) w.heap.size 23 (cells8 root).toArray) := ((Blk.new w _ _).alloc _).alloc _
  have hA0 : Hid (Blk (((w.alloc (.cells (cells8 root).toArray 23)).alloc (.cells Z32 23)).alloc (.cells Z32 23)) (w.heap.size + 1) 23 Z32) := by
    have := (Blk.new (w.alloc (.cells (cells8 root).toArray 23)) 23 Z32).alloc (.cells Z32 23)
    rwa [hz1] at this
  have hE0 : Hid (Blk (((w.alloc (.cells (cells8 root).toArray 23)).alloc (.cells Z32 23)).alloc (.cells Z32 23)) (w.heap.size + 2) 23 Z32) := by
    have := Blk.new ((w.alloc (.cells (cells8 root).toArray 23)).alloc (.cells Z32 23)) 23 Z32
    rwa [hz2] at this
  have Fr := Lib.hid (fit (x := root) hrt)
  have Fx := Lib.hid (fit (x := x0) hx0l)
  have hBs := Lib.hid (fun w' (hb : Below w.heap.size w w') => hB.below hb hB.1)
  have hgb : Hid (0 < w.heap.size) := hB.1
  have hlw := Lib.hid hlo
  have hx0h := Lib.hid hx0
  have hd0h := Lib.hid hd0
  replace hr := Lib.hid hr
  replace hn := Lib.hid hn
  replace hlow := Lib.hid hlow
  have hob : Hid (1 ≤ old ∧ old ≤ 1099511627776) := by show _ ∧ _; omega
  have hx0lh := Lib.hid hx0l
  clear hs hrt hB hx0 hx0l hd0 hlo hz1 hz2 hP hPl hPd hps h1 h2
  go_enter Tryd.func70, Tryd.ntmps70
  go_wp2_with fail
  change Calls _ _ _ (((w.alloc (.cells (cells8 root).toArray 23)).alloc (.cells Z32 23)).alloc (.cells Z32 23)) _
  generalize (((w.alloc (.cells (cells8 root).toArray 23)).alloc (.cells Z32 23)).alloc (.cells Z32 23)) = w0 at *
  refine (hPt.out _).mono ?_
  rintro e w3 ⟨v, rfl, hO, hk1⟩
  rw [hn.out] at hO
  obtain ⟨Ap, cp, rfl, -, -, -, hPr, hApB⟩ := Append.Own.reads hO
  have hb3 : Hid (Below w.heap.size w w3) := hb0.out.trans (hk1.mono hb0.out.size)
  have hR3 : Hid (Blk w3 w.heap.size 23 (cells8 root).toArray) := (hk1.block _ hR0.out.lt).trans hR0.out
  have hA3 : Hid (Blk w3 (w.heap.size + 1) 23 Z32) := (hk1.block _ hA0.out.lt).trans hA0.out
  have hE3 : Hid (Blk w3 (w.heap.size + 2) 23 Z32) := (hk1.block _ hE0.out.lt).trans hE0.out
  have hs3 : Hid (w.heap.size + 3 ≤ w3.heap.size) := by have := hk1.size; have := hz0.out; show _ ≤ _; omega
  replace hPr := Lib.hid hPr
  clear hO hk1 hb0 hR0 hA0 hE0 hz0 hPt hApB
  go_wp2_with fail
  obtain ⟨w4, hw4⟩ : ∃ w4, Hid (w4 = (w3.alloc (.cells #[.int .i64 s, .slice none 0 0] 109)).alloc (.cells #[.int .i64 s, .slice none 0 0] 109)) := ⟨_, rfl⟩
  have hb4 : Hid (Below w3.heap.size w3 w4) := by show Below _ _ _; rw [hw4.out]; exact (Below.heap_below w3 _).alloc (by simp) _
  have hW4 : Hid (Blk w4 w3.heap.size 109 #[.int .i64 s, .slice none 0 0]) := by show Blk _ _ _ _; rw [hw4.out]; exact heap_alloc2_old w3 _ _
  have hI4 : Hid (Blk w4 (w3.heap.size + 1) 109 #[.int .i64 s, .slice none 0 0]) := by show Blk _ _ _ _; rw [hw4.out]; exact heap_alloc2_new w3 _ _
  have hs4 : Hid (w4.heap.size = w3.heap.size + 2) := by show _ = _; rw [hw4.out]; simp
  have hR4 : Hid (Blk w4 w.heap.size 23 (cells8 root).toArray) := (hb4.out.block _ hR3.out.lt).trans hR3.out
  change (Code.region _ _ _).wp _ _ _ ((w3.alloc (.cells #[.int .i64 s, .slice none 0 0] 109)).alloc (.cells #[.int .i64 s, .slice none 0 0] 109))
  rw [← hw4.out]
  clear hw4 hR3
  go_cut [16, 17, 18] from 29 to 30 (fun v u z wr => ∃ m16 m17 : Nat, v = .pointer (some ⟨m16, 0, none⟩) ∧ u = .pointer (some ⟨m17, 0, none⟩) ∧ z = .int .i64 0 ∧ Hid (m16 ≠ m17) ∧ Hid (w4.heap.size ≤ m16) ∧ Hid (w4.heap.size ≤ m17) ∧ Hid (Blk wr m16 23 (cells8 root).toArray) ∧ Hid (Blk wr m17 23 (cells8 root).toArray) ∧ Hid (Below w4.heap.size w4 wr))
  case first =>
    have s0 : Hid (Below w4.heap.size w4 w4.drew) := (Below.refl _ _).drew
    refine held_start (fun w' => Below w4.heap.size w4 w') 7 rfl (by kernel_rfl) ?_
    refine held_take (i := 0) (v := .agg ((cells8 root).toArray)) rfl (by kernel_rfl) (by kernel_rfl) (by kernel_rfl) (fun _ _ _ h => h) s0.out (by rfl) (fun w' hw' => exec_row 23 (.tmp 8) rfl (w.heap.size) rfl 23 ((cells8 root).toArray) (0, 0) _ ((hw'.block _ hR4.out.lt).trans hR4.out) Tryd.underlying23 rfl Fr.out.size) ?_
    (intro K hK; go_simp; refine hK _ ?_; clear hK K)
    refine held_take (i := 1) (v := .agg ((cells8 root).toArray)) rfl (by kernel_rfl) (by kernel_rfl) (by kernel_rfl) (fun _ _ _ h => h) s0.out (by rfl) (fun w' hw' => exec_row 23 (.tmp 8) rfl (w.heap.size) rfl 23 ((cells8 root).toArray) (0, 0) _ ((hw'.block _ hR4.out.lt).trans hR4.out) Tryd.underlying23 rfl Fr.out.size) ?_
    (intro K hK; go_simp; refine hK _ ?_; clear hK K)
    refine held_two (i := 2) (j := 3) rfl rfl (by kernel_rfl) (by rfl) (by rfl) (fun K hK => ?_) (fun K hK => ?_)
    · have h5 : Hid (Below w4.heap.size w4 (w4.drew.alloc (.cells Z32 23))) := s0.out.alloc s0.out.size _
      have bA : Hid (Blk (w4.drew.alloc (.cells Z32 23)) w4.drew.heap.size 23 Z32) := Blk.new _ _ _
      go_simp
      refine hK _ _ h5.out ?_
      clear hK K
      refine held_only (i := 3) rfl (by kernel_rfl) (by rfl) (fun K hK => ?_)
      have h6 : Hid (Below w4.heap.size w4 ((w4.drew.alloc (.cells Z32 23)).alloc (.cells Z32 23))) := h5.out.alloc h5.out.size _
      have bB : Hid (Blk ((w4.drew.alloc (.cells Z32 23)).alloc (.cells Z32 23)) (w4.drew.alloc (.cells Z32 23)).heap.size 23 Z32) := Blk.new _ _ _
      go_simp
      refine hK _ _ h6.out ?_
      clear hK K
      have hzA : Hid ((w4.drew.alloc (.cells Z32 23)).heap.size = w4.heap.size + 1) := by show _ = _; simp
      replace bA : Hid (Blk ((w4.drew.alloc (.cells Z32 23)).alloc (.cells Z32 23)) w4.heap.size 23 Z32) := bA.out.alloc _
      replace bB : Hid (Blk ((w4.drew.alloc (.cells Z32 23)).alloc (.cells Z32 23)) (w4.heap.size + 1) 23 Z32) := by have := bB.out; rw [hzA.out] at this; exact this
      refine held_only (i := 4) rfl (by kernel_rfl) (by rfl) (fun K hK => ?_)
      refine wp_store_whole 23 (.tmp 16) (.tmp 29) rfl (w4.heap.size) ((cells8 root).toArray) rfl rfl 23 Z32 bA.out Fr.out.size Fr.out.zero Fr.out.one ?_
      intro w7 q7 k7
      have h7 : Hid (Below w4.heap.size w4 w7) := h6.out.trans (Kept.below_of k7 (by omega) h6.out.size)
      have o7 : Hid (Blk w7 (w4.heap.size + 1) 23 Z32) := bB.out.kept k7 (by omega)
      go_simp
      refine hK _ _ h7.out ?_
      clear hK K
      refine held_only (i := 5) rfl (by kernel_rfl) (by rfl) (fun K hK => ?_)
      refine wp_store_whole 23 (.tmp 17) (.tmp 30) rfl (w4.heap.size + 1) ((cells8 root).toArray) rfl rfl 23 Z32 o7.out Fr.out.size Fr.out.zero Fr.out.one ?_
      intro w8 q8 k8
      have h8 : Hid (Below w4.heap.size w4 w8) := h7.out.trans (Kept.below_of k8 (by omega) h7.out.size)
      have o8 : Hid (Blk w8 (w4.heap.size) 23 (cells8 root).toArray) := q7.kept k8 (by omega)
      go_simp
      refine hK _ _ h8.out ?_
      clear hK K
      refine held_take (i := 6) (v := .int .i64 0) rfl (by kernel_rfl) (by kernel_rfl) (by kernel_rfl) (fun _ _ _ h => h) h8.out (by rfl) (fun w' hw' => by first | go_simp | rfl) ?_
      (intro K hK; go_simp; refine hK _ ?_; clear hK K)
      refine held_end (by kernel_rfl) ?_
      go_wp2_with fail
      go_meet
      case rel => exact ⟨w4.heap.size, w4.heap.size + 1, rfl, rfl, rfl, (by show _ ≠ _; omega), (by show _ ≤ _; omega), (by show _ ≤ _; omega), o8.out, q8, h8.out⟩
    · have h5 : Hid (Below w4.heap.size w4 (w4.drew.alloc (.cells Z32 23))) := s0.out.alloc s0.out.size _
      have bA : Hid (Blk (w4.drew.alloc (.cells Z32 23)) w4.drew.heap.size 23 Z32) := Blk.new _ _ _
      go_simp
      refine hK _ _ h5.out ?_
      clear hK K
      refine held_only (i := 2) rfl (by kernel_rfl) (by rfl) (fun K hK => ?_)
      have h6 : Hid (Below w4.heap.size w4 ((w4.drew.alloc (.cells Z32 23)).alloc (.cells Z32 23))) := h5.out.alloc h5.out.size _
      have bB : Hid (Blk ((w4.drew.alloc (.cells Z32 23)).alloc (.cells Z32 23)) (w4.drew.alloc (.cells Z32 23)).heap.size 23 Z32) := Blk.new _ _ _
      go_simp
      refine hK _ _ h6.out ?_
      clear hK K
      have hzA : Hid ((w4.drew.alloc (.cells Z32 23)).heap.size = w4.heap.size + 1) := by show _ = _; simp
      replace bA : Hid (Blk ((w4.drew.alloc (.cells Z32 23)).alloc (.cells Z32 23)) w4.heap.size 23 Z32) := bA.out.alloc _
      replace bB : Hid (Blk ((w4.drew.alloc (.cells Z32 23)).alloc (.cells Z32 23)) (w4.heap.size + 1) 23 Z32) := by have := bB.out; rw [hzA.out] at this; exact this
      refine held_only (i := 4) rfl (by kernel_rfl) (by rfl) (fun K hK => ?_)
      refine wp_store_whole 23 (.tmp 16) (.tmp 29) rfl (w4.heap.size + 1) ((cells8 root).toArray) rfl rfl 23 Z32 bB.out Fr.out.size Fr.out.zero Fr.out.one ?_
      intro w7 q7 k7
      have h7 : Hid (Below w4.heap.size w4 w7) := h6.out.trans (Kept.below_of k7 (by omega) h6.out.size)
      have o7 : Hid (Blk w7 (w4.heap.size) 23 Z32) := bA.out.kept k7 (by omega)
      go_simp
      refine hK _ _ h7.out ?_
      clear hK K
      refine held_only (i := 5) rfl (by kernel_rfl) (by rfl) (fun K hK => ?_)
      refine wp_store_whole 23 (.tmp 17) (.tmp 30) rfl (w4.heap.size) ((cells8 root).toArray) rfl rfl 23 Z32 o7.out Fr.out.size Fr.out.zero Fr.out.one ?_
      intro w8 q8 k8
      have h8 : Hid (Below w4.heap.size w4 w8) := h7.out.trans (Kept.below_of k8 (by omega) h7.out.size)
      have o8 : Hid (Blk w8 (w4.heap.size + 1) 23 (cells8 root).toArray) := q7.kept k8 (by omega)
      go_simp
      refine hK _ _ h8.out ?_
      clear hK K
      refine held_take (i := 6) (v := .int .i64 0) rfl (by kernel_rfl) (by kernel_rfl) (by kernel_rfl) (fun _ _ _ h => h) h8.out (by rfl) (fun w' hw' => by first | go_simp | rfl) ?_
      (intro K hK; go_simp; refine hK _ ?_; clear hK K)
      refine held_end (by kernel_rfl) ?_
      go_wp2_with fail
      go_meet
      case rel => exact ⟨w4.heap.size + 1, w4.heap.size, rfl, rfl, rfl, (by show _ ≠ _; omega), (by show _ ≤ _; omega), (by show _ ≤ _; omega), o8.out, q8, h8.out⟩
  case rest =>
    obtain ⟨m16, m17, rfl, rfl, rfl, hne, hl16, hl17, hM16, hM17, hk5⟩ := hcut
    obtain ⟨w5, rfl⟩ : ∃ w5 : World, w5 = wc := ⟨_, rfl⟩
    have b1 : (0 : Int) ≤ (old : Int) := by omega
    have b2 : (old : Int) ≤ 1099511627776 := by have := hob.out; omega
    have b3 : (1 : Int) ≤ (old : Int) := by have := hob.out; omega
    obtain ⟨an, han⟩ : ∃ an, old &&& (old - 1) = an := ⟨_, rfl⟩
    rw [han] at hai hpw
    replace hpw := Lib.hid hpw
    clear han
    go_upto_if 35 with fail
    clear b1 b2 b3
    try clear hai
    go_cut [18] from 31 to 41 (fun v wr => v = .int .i64 (low : Int) ∧ Hid (Blk wr m16 23 (cells8 x0).toArray) ∧ Hid (Blk wr m17 23 (cells8 x0).toArray) ∧ Hid (Kept (fun k => k = m16 ∨ k = m17) w5 wr))
    case first =>
      by_cases hp : powB old = true
      · have hand := hpw.2 hp
        have hl0 : low = 0 := by rw [← hlw.out]; unfold lowOf; rw [if_pos hp]
        have hxr : root = x0 := by rw [← hx0h.out, if_pos hp]
        subst hl0 hxr
        clear hp hpw
        go_wp2_with fail
        go_meet
        case rel => exact ⟨rfl, hM16.out, hM17.out, Kept.refl _ _⟩
      · have hand : ¬ an = 0 := fun e => hp (hpw.out.1 e)
        have ha1 : ((an : Int) == 0) = false := beq_eq_false_iff_ne.2 (by omega)
        have hl0 : low = 1 := by rw [← hlw.out]; unfold lowOf; rw [if_neg hp]
        have hxd : d0 = x0 := by
          have h := hx0h.out
          rw [if_neg hp] at h
          rw [← h]
          simp [List.getD, hd0h.out]
        subst hl0 hxd
        have hn1 : (0 : Int) < (n : Int) := by have := hlow.out; omega
        obtain ⟨b, o, rfl, hbb, hdc0⟩ := hr.out.at_ hd0h.out
        have hbw5 : Hid (Below w.heap.size w w5) := (hb3.out.trans (hb4.out.mono hb3.out.size)).trans (hk5.out.mono (by have := hb3.out.size; have := hb4.out.size; omega))
        have hdc : Hid (∀ w', Below w5.heap.size w5 w' → ∀ k v, (cells8 d0)[k]? = some v → w'.cell? ⟨b, o + k, none⟩ = some v) := fun w' hb k v hv => by
          have := ((hbw5.out.trans (hb.mono hbw5.out.size)).cell (p := ⟨b, o + 0 * 32 + k, none⟩) hbb).trans (hdc0 k v hv)
          simpa using this
        have hbbh := Lib.hid hbb
        have hn0 : ¬ n = 0 := by omega
        clear hp hpw hdc0 hbb
        go_wp2_with fail
        have hbq : Hid (b < w.heap.size) := hbbh.out
        have hdk : Hid (∀ w', Kept (fun k => k = m16 ∨ k = m17) w5 w' → ∀ k v, (cells8 d0)[k]? = some v → w'.cell? ⟨b, o + k, none⟩ = some v) := fun w' hk k v hv => (hk.cell (p := ⟨b, o + k, none⟩) (by have := hbq.out; have := hbw5.out.size; show b < _; omega) (fun h => by have := hbq.out; have := hl16.out; have := hl17.out; have := hb3.out.size; have := hb4.out.size; rcases h with h | h <;> (have h : b = _ := h; omega))).trans (hdc.out w5 (Below.refl _ _) k v hv)
        have s0 : Hid (Kept (fun k => k = m16 ∨ k = m17) w5 w5.drew) := (Kept.refl _ _).drew
        refine held_start (fun w' => Kept (fun k => k = m16 ∨ k = m17) w5 w') 9 rfl (by kernel_rfl) ?_
        refine held_take (i := 0) (v := .slice (some ⟨b, o, none⟩) n c) rfl (by kernel_rfl) (by kernel_rfl) (by kernel_rfl) (fun _ _ _ h => h) s0.out (by rfl) (fun w' hw' => run_mv (.tmp 4) rfl w') ?_
        (intro K hK; go_simp; refine hK _ ?_; clear hK K)
        refine held_take (i := 1) (v := .pointer (some ⟨b, o, none⟩)) rfl (by kernel_rfl) (by kernel_rfl) (by kernel_rfl) (fun _ _ _ h => h) s0.out (by rfl) (fun w' hw' => by go_simp) ?_
        (intro K hK; go_simp; refine hK _ ?_; clear hK K)
        refine held_take (i := 2) (v := .agg (cells8 d0).toArray) rfl (by kernel_rfl) (by kernel_rfl) (by kernel_rfl) (fun _ _ _ h => h) s0.out (by rfl) (fun w' hw' => exec_part 23 (.tmp 37) rfl (b) (o) rfl (cells8 d0) _ (hdk.out w' hw') Tryd.underlying23 rfl Fx.out.part) ?_
        (intro K hK; go_simp; refine hK _ ?_; clear hK K)
        refine held_take (i := 3) (v := .slice (some ⟨b, o, none⟩) n c) rfl (by kernel_rfl) (by kernel_rfl) (by kernel_rfl) (fun _ _ _ h => h) s0.out (by rfl) (fun w' hw' => run_mv (.tmp 4) rfl w') ?_
        (intro K hK; go_simp; refine hK _ ?_; clear hK K)
        refine held_take (i := 4) (v := .pointer (some ⟨b, o, none⟩)) rfl (by kernel_rfl) (by kernel_rfl) (by kernel_rfl) (fun _ _ _ h => h) s0.out (by rfl) (fun w' hw' => by go_simp) ?_
        (intro K hK; go_simp; refine hK _ ?_; clear hK K)
        refine held_take (i := 5) (v := .agg (cells8 d0).toArray) rfl (by kernel_rfl) (by kernel_rfl) (by kernel_rfl) (fun _ _ _ h => h) s0.out (by rfl) (fun w' hw' => exec_part 23 (.tmp 40) rfl (b) (o) rfl (cells8 d0) _ (hdk.out w' hw') Tryd.underlying23 rfl Fx.out.part) ?_
        (intro K hK; go_simp; refine hK _ ?_; clear hK K)
        refine held_only (i := 6) rfl (by kernel_rfl) (by rfl) (fun K hK => ?_)
        refine wp_store_whole 23 (.tmp 16) (.tmp 38) rfl (m16) ((cells8 d0).toArray) rfl rfl 23 (cells8 root).toArray hM16.out Fx.out.size (Fx.out.same root (by have := Fr.out.part; rw [← cells8_len]; have h2 := size31; rw [h2] at this; simpa using this.symm)) Fx.out.one ?_
        intro w7 q7 k7
        have h7 : Hid (Kept (fun k => k = m16 ∨ k = m17) w5 w7) := s0.out.trans k7 (fun i _ h => .inl h)
        have o7 : Hid (Blk w7 m17 23 (cells8 root).toArray) := Blk.kept (w := w5.drew) hM17.out k7 (fun h => hne.out (Eq.symm h))
        go_simp
        refine hK _ _ h7.out ?_
        clear hK K
        refine held_only (i := 7) rfl (by kernel_rfl) (by rfl) (fun K hK => ?_)
        refine wp_store_whole 23 (.tmp 17) (.tmp 41) rfl (m17) ((cells8 d0).toArray) rfl rfl 23 (cells8 root).toArray o7.out Fx.out.size (Fx.out.same root (by have := Fr.out.part; rw [← cells8_len]; have h2 := size31; rw [h2] at this; simpa using this.symm)) Fx.out.one ?_
        intro w8 q8 k8
        have h8 : Hid (Kept (fun k => k = m16 ∨ k = m17) w5 w8) := h7.out.trans k8 (fun i _ h => .inr h)
        have o8 : Hid (Blk w8 m16 23 (cells8 d0).toArray) := q7.kept k8 (fun h => hne.out h)
        go_simp
        refine hK _ _ h8.out ?_
        clear hK K
        refine held_take (i := 8) (v := .int .i64 1) rfl (by kernel_rfl) (by kernel_rfl) (by kernel_rfl) (fun _ _ _ h => h) h8.out (by rfl) (fun w' hw' => by first | go_simp | rfl) ?_
        (intro K hK; go_simp; refine hK _ ?_; clear hK K)
        refine held_end (by kernel_rfl) ?_
        go_wp2_with fail
        go_meet
        case rel => exact ⟨rfl, o8.out, q8, h8.out⟩
    case rest =>
      obtain ⟨rfl, hX16, hX17, hk6⟩ := hcut
      clear hpw hM16 hM17 hd0h hx0h hR4
      have hb6 : Hid (Below w3.heap.size w3 wc) := Kept.toBelow (hb4.out.trans (hk5.out.mono hb4.out.size)) hk6.out (fun k h => by have := hl16.out; have := hl17.out; have := hs4.out; rcases h with h | h <;> omega) (by have := hb4.out.size; have := hk5.out.size; omega)
      have hW6 : Hid (Blk wc w3.heap.size 109 #[.int .i64 s, .slice none 0 0]) := Blk.kept (w := w5) (show Blk w5 _ _ _ from (hk5.out.block _ hW4.out.lt).trans hW4.out) hk6.out (fun h => by have := hl16.out; have := hl17.out; have := hs4.out; rcases h with h | h <;> omega)
      have hI6 : Hid (Blk wc (w3.heap.size + 1) 109 #[.int .i64 s, .slice none 0 0]) := Blk.kept (w := w5) (show Blk w5 _ _ _ from (hk5.out.block _ hI4.out.lt).trans hI4.out) hk6.out (fun h => by have := hl16.out; have := hl17.out; have := hs4.out; rcases h with h | h <;> omega)
      have hlt : Hid (w3.heap.size < wc.heap.size ∧ w3.heap.size + 1 < wc.heap.size ∧ m16 < wc.heap.size ∧ m17 < wc.heap.size) := ⟨hW6.out.lt, hI6.out.lt, hX16.out.lt, hX17.out.lt⟩
      have hA0 : Hid (AhAt wc wc w3.heap.size (w3.heap.size + 1) none none m16 m17 s (aheadS s x0 low P low).fr (aheadS s x0 low P low).sr (aheadS s x0 low P low).ft (aheadS s x0 low P low).st) := by
        show AhAt _ _ _ _ _ _ _ _ _ _ _ _ _
        rw [aheadS_low]
        have e1 : ClAt wc w3.heap.size none s [] := ⟨_, [], hW6.out, World.ownsRow_nil _ _ _ _, rfl, (fun k e => by cases e), fun i q h => by simp at h⟩
        have e2 : ClAt wc (w3.heap.size + 1) none s [] := ⟨_, [], hI6.out, World.ownsRow_nil _ _ _ _, rfl, (fun k e => by cases e), fun i q h => by simp at h⟩
        exact ⟨hX16.out, hX17.out, e1, e2, (fun k e => by cases e), (fun k e => by cases e), (fun k e => by cases e), fun _ => rfl, fun _ => rfl, Kept.refl _ _⟩
      have hdis : Hid (w3.heap.size ≠ m16 ∧ w3.heap.size ≠ m17 ∧ w3.heap.size + 1 ≠ m16 ∧ w3.heap.size + 1 ≠ m17 ∧ m16 ≠ m17 ∧ w3.heap.size ≤ m16 ∧ w3.heap.size ≤ m17) := by have := hl16.out; have := hl17.out; have := hs4.out; have := hne.out; show _ ∧ _; omega
      obtain ⟨w6, rfl⟩ : ∃ w6 : World, w6 = wc := ⟨_, rfl⟩
      clear hW4 hI4 hW6 hI6 hX16 hX17 hk5 hk6 hl16 hl17 hne hs4 hb4
      go_wp2_with fail
      go_loopw [19] (fun v wr => ∃ (j : Nat) (r1 r2 : Option Nat), v = .int .i64 (j : Int) ∧ Hid (low ≤ j ∧ j ≤ n) ∧ Hid (AhAt w6 wr w3.heap.size (w3.heap.size + 1) r1 r2 m16 m17 s (aheadS s x0 low P j).fr (aheadS s x0 low P j).sr (aheadS s x0 low P j).ft (aheadS s x0 low P j).st)) (fun v _ => (n - intOf v).toNat)
      case atStart => exact ⟨low, none, none, rfl, ⟨Nat.le_refl _, by have := hlow.out; omega⟩, hA0.out⟩
      case round =>
        clear hA0
        obtain ⟨j, r1, r2, rfl, hj, hI⟩ := hrel
        have hbw : Hid (Below w3.heap.size w3 wr) := Kept.toBelow hb6.out hI.out.kept (fun k h => by have := hdis.out; rcases h with h | h | h | h <;> omega) hb6.out.size
        have hbW : Hid (Below w.heap.size w wr) := hb3.out.trans (hbw.out.mono hb3.out.size)
        have hZok := Lib.hid (hok.out j hj.out.1 hj.out.2)
        by_cases hlt2 : j < n
        · obtain ⟨p, hp⟩ : ∃ p, ps[j]? = some p := ⟨_, List.getElem?_eq_getElem (by rw [hn.out]; exact hlt2)⟩
          obtain ⟨d, hd⟩ : ∃ d, ds[j]? = some d := ⟨_, List.getElem?_eq_getElem (by rw [hr.out.1]; exact hlt2)⟩
          have hst := Lib.hid (aheadS_succ (s := s) (x := x0) hj.out.1 (hPj.out j p d hp hd))
          have hZok2 := Lib.hid (hok.out (j + 1) (by have := hj.out.1; omega) hlt2)
          have hdl := Lib.hid (hr.out.2.1.at_ hd)
          have Fd := Lib.hid (fit (x := d) hdl.out)
          obtain ⟨Z, hZe⟩ : ∃ Z, Hid (aheadS s x0 low P j = Z) := ⟨_, Lib.hid rfl⟩
          obtain ⟨Y, hYe⟩ : ∃ Y, Hid (aheadS s x0 low P (j + 1) = Y) := ⟨_, Lib.hid rfl⟩
          rw [hZe.out] at hI hst hZok
          rw [hYe.out] at hst hZok2
          obtain ⟨bp, op, rfl, hbp, hpc0⟩ := hPr.out.at_ (by omega)
          have hpc : wr.cell? ⟨bp, op + j * 2, none⟩ = some (.int .i64 (p.1 : Int)) := by
            have h1 := flatP_at ps [] j p hp 0 (.int .i64 (p.1 : Int)) rfl
            rw [List.append_nil, List.getElem?_toArray] at h1
            have h2 := hpc0 _ _ h1
            rw [Nat.add_zero] at h2
            exact (hbw.out.cell (p := ⟨bp, op + j * 2, none⟩) hbp).trans h2
          obtain ⟨b, o, rfl, hbb, hdc0⟩ := hr.out.at_ hd
          have hdc : Hid (∀ w', Below w.heap.size w w' → ∀ k v, (cells8 d)[k]? = some v → w'.cell? ⟨b, o + j * 32 + k, none⟩ = some v) := fun w' hb k v hv => (hb.cell (p := ⟨b, o + j * 32 + k, none⟩) hbb).trans (hdc0 k v hv)
          have hjn : Hid (j + 1 ≤ n) := hlt2
          have z1 : (0 : Int) ≤ (j : Int) := by omega
          have z2 : (j : Int) < (n : Int) := by omega
          have z3 : (n : Int) ≤ 41 := by have := hn41.out; omega
          have Fa := Lib.hid (fit (x := Z.fr) hZok.out.fl)
          have Fb := Lib.hid (fit (x := Z.sr) hZok.out.sl)
          clear hlt2 hp hd hpc0 hdc0 hbb hbp
          by_cases hside : old ≤ p.1
          · have hY : Hid (Y = ⟨Z.fr, ndOf s Z.sr d, Z.ft, Z.st ++ [kb 1 :: (Z.sr ++ d)]⟩) := by show _ = _; rw [hst.out, ahead1, if_pos (by simp [bh, hside])]
            obtain ⟨zb, hzb⟩ : ∃ z, Hid (ndOf s Z.sr d = z) := ⟨_, Lib.hid rfl⟩
            have Fzb := Lib.hid (fit (x := zb) (by rw [← hzb.out]; exact ndOf_len s _ _))
            rw [hzb.out] at hY
            have hq65 : Hid (∀ q ∈ Z.st ++ [kb 1 :: (Z.sr ++ d)], q.length = 65) := by have := hZok2.out.st; rw [hY.out] at this; exact this
            have zt : (old : Int) ≤ (p.1 : Int) := by omega
            clear hside hst
            go_wp2_with fail
            refine wp_region_class_tail 6 (Class wr) (by kernel_rfl) (by kernel_rfl) (Class.mk_ ((Below.refl _ _).drew)) ?_
            refine wpQuiet_move rfl (.tmp 15) rfl ?_
            (intro K hK; go_simp; refine hK _ ?_; clear hK K)
            refine wpQuiet_load_row rfl 23 (.tmp 17) rfl m17 rfl 23 ((cells8 Z.sr).toArray) (0, 0) _ (fun w' hw' => (hw'.below.block _ hI.out.lf2.lt).trans hI.out.lf2) Tryd.underlying23 rfl Fb.out.size ?_
            (intro K hK; go_simp; refine hK _ ?_; clear hK K)
            refine wpQuiet_move rfl (.tmp 4) rfl ?_
            (intro K hK; go_simp; refine hK _ ?_; clear hK K)
            refine wpQuiet_move rfl (.tmp 19) rfl ?_
            (intro K hK; go_simp; refine hK _ ?_; clear hK K)
            refine wpQuiet_val (v := .pointer (some ⟨b, o + j * 32, none⟩)) rfl (fun w' hw' => by go_simp) ?_
            (intro K hK; go_simp; refine hK _ ?_; clear hK K)
            refine wpQuiet_load_part rfl 23 (.tmp 60) rfl b (o + j * 32) rfl (cells8 d) _ (fun w' hw' => hdc.out w' (hbW.out.trans (hw'.below.mono hbW.out.size))) Tryd.underlying23 rfl Fd.out.part ?_
            (intro K hK; go_simp; refine hK _ ?_; clear hK K)
            refine wpQuiet_nil ?_
            intro u7 hu7
            have hbu7 : Hid (Below w.heap.size w u7) := hbW.out.trans (hu7.below.mono hbW.out.size)
            simp only [List.drop]
            go_wp2_with fail
            refine (node_walk (w3.heap.size + 1) r2 s Z.st Z.sr d hZok.out.sl hdl.out u7 (hBs.out _ hbu7.out) (by have := hgb.out; have := hs3.out; omega) (ClAtM.kept hI.out.cl2 (Kept.of_below hu7.below) (fun h => h) (fun _ _ h => h)) (by have := hZok.out.sk; have := hn41.out; have := hjn.out; omega)).mono ?_
            rw [hzb.out]
            rintro e y7 ⟨rfl, hC7⟩
            obtain ⟨hB7, rn7, hN7⟩ := AhAt.step (z := zb) hI.out.swap hu7.below hC7 hq65.out hZok.out.ft hZok.out.sl (by omega) hdis.out.2.2.2.1 hdis.out.2.2.1 hdis.out.2.1 (fun e => hdis.out.2.2.2.2.1 e.symm) ⟨hlt.out.2.1, hlt.out.1, hlt.out.2.2.2, hlt.out.2.2.1⟩
            replace hB7 := Lib.hid hB7
            replace hN7 := Lib.hid hN7.swap
            have hq7 := Lib.hid (Fzb.out.same Z.sr hZok.out.sl)
            clear hC7
            go_wp2_with ((with_reducible change wpList _ _ _ ({ dst := none, op := Op.store 23 _ _, type := _, pos := _, after := _, guard := _ } :: _) _ _); refine wpList_store_row (o := ⟨none, _, _, _, _, _⟩) rfl 23 (.tmp 17) (.tmp 62) rfl (m17) ((cells8 zb).toArray) rfl rfl 23 ((cells8 Z.sr).toArray) hB7.out Fzb.out.size hq7.out Fzb.out.one ?_)
            go_roundw
            case rel => exact ⟨j + 1, r1, rn7, by go_num, ⟨by have := hj.out.1; omega, hjn.out⟩, (by show AhAt _ _ _ _ _ _ _ _ _ _ _ _ _; rw [hYe.out, hY.out]; exact hN7.out)⟩
            case measure => (have := hjn.out; simp [intOf]; omega)
          · have hY : Hid (Y = ⟨ndOf s d Z.fr, ndOf s d Z.sr, Z.ft ++ [kb 1 :: (d ++ Z.fr)], Z.st ++ [kb 1 :: (d ++ Z.sr)]⟩) := by show _ = _; rw [hst.out, ahead1, if_neg (by simp [bh]; omega)]
            obtain ⟨za, hza⟩ : ∃ z, Hid (ndOf s d Z.fr = z) := ⟨_, Lib.hid rfl⟩
            have Fza := Lib.hid (fit (x := za) (by rw [← hza.out]; exact ndOf_len s _ _))
            obtain ⟨zb, hzb⟩ : ∃ z, Hid (ndOf s d Z.sr = z) := ⟨_, Lib.hid rfl⟩
            have Fzb := Lib.hid (fit (x := zb) (by rw [← hzb.out]; exact ndOf_len s _ _))
            have hzal : Hid (za.length = 32) := by show _ = _; rw [← hza.out]; exact ndOf_len s _ _
            rw [hza.out, hzb.out] at hY
            have hq65 : Hid (∀ q ∈ Z.st ++ [kb 1 :: (d ++ Z.sr)], q.length = 65) := by have := hZok2.out.st; rw [hY.out] at this; exact this
            have hf65 : Hid (∀ q ∈ Z.ft ++ [kb 1 :: (d ++ Z.fr)], q.length = 65) := by have := hZok2.out.ft; rw [hY.out] at this; exact this
            have zt : ¬ ((old : Int) ≤ (p.1 : Int)) := by omega
            clear hside hst
            go_wp2_with fail
            refine wp_region_class_tail 6 (Class wr) (by kernel_rfl) (by kernel_rfl) (Class.mk_ ((Below.refl _ _).drew)) ?_
            refine wpQuiet_move rfl (.tmp 14) rfl ?_
            (intro K hK; go_simp; refine hK _ ?_; clear hK K)
            refine wpQuiet_move rfl (.tmp 4) rfl ?_
            (intro K hK; go_simp; refine hK _ ?_; clear hK K)
            refine wpQuiet_move rfl (.tmp 19) rfl ?_
            (intro K hK; go_simp; refine hK _ ?_; clear hK K)
            refine wpQuiet_val (v := .pointer (some ⟨b, o + j * 32, none⟩)) rfl (fun w' hw' => by go_simp) ?_
            (intro K hK; go_simp; refine hK _ ?_; clear hK K)
            refine wpQuiet_load_part rfl 23 (.tmp 66) rfl b (o + j * 32) rfl (cells8 d) _ (fun w' hw' => hdc.out w' (hbW.out.trans (hw'.below.mono hbW.out.size))) Tryd.underlying23 rfl Fd.out.part ?_
            (intro K hK; go_simp; refine hK _ ?_; clear hK K)
            refine wpQuiet_load_row rfl 23 (.tmp 16) rfl m16 rfl 23 ((cells8 Z.fr).toArray) (0, 0) _ (fun w' hw' => (hw'.below.block _ hI.out.lf1.lt).trans hI.out.lf1) Tryd.underlying23 rfl Fa.out.size ?_
            (intro K hK; go_simp; refine hK _ ?_; clear hK K)
            refine wpQuiet_nil ?_
            intro u7 hu7
            have hbu7 : Hid (Below w.heap.size w u7) := hbW.out.trans (hu7.below.mono hbW.out.size)
            simp only [List.drop]
            go_wp2_with fail
            refine (node_walk w3.heap.size r1 s Z.ft d Z.fr hdl.out hZok.out.fl u7 (hBs.out _ hbu7.out) (by have := hgb.out; have := hs3.out; omega) (ClAtM.kept hI.out.cl1 (Kept.of_below hu7.below) (fun h => h) (fun _ _ h => h)) (by have := hZok.out.fk; have := hn41.out; have := hjn.out; omega)).mono ?_
            rw [hza.out]
            rintro e y7 ⟨rfl, hC7⟩
            obtain ⟨hB7, rn7, hN7⟩ := AhAt.step (z := za) hI.out hu7.below hC7 hf65.out hZok.out.st hZok.out.fl (by omega) hdis.out.1 hdis.out.2.1 hdis.out.2.2.1 hdis.out.2.2.2.2.1 hlt.out
            replace hB7 := Lib.hid hB7
            replace hN7 := Lib.hid hN7
            have hq7 := Lib.hid (Fza.out.same Z.fr hZok.out.fl)
            clear hC7
            go_wp2_with ((with_reducible change wpList _ _ _ ({ dst := none, op := Op.store 23 _ _, type := _, pos := _, after := _, guard := _ } :: _) _ _); refine wpList_store_row (o := ⟨none, _, _, _, _, _⟩) rfl 23 (.tmp 16) (.tmp 69) rfl (m16) ((cells8 za).toArray) rfl rfl 23 ((cells8 Z.fr).toArray) hB7.out Fza.out.size hq7.out Fza.out.one ?_)
            generalize y7.setRow m16 (cells8 za).toArray = y8 at *
            have hbw8 : Hid (Below w3.heap.size w3 y8) := Kept.toBelow hb6.out hN7.out.kept (fun k h => by have := hdis.out; rcases h with h | h | h | h <;> omega) hb6.out.size
            have hbW8 : Hid (Below w.heap.size w y8) := hb3.out.trans (hbw8.out.mono hb3.out.size)
            clear hB7 hq7 hI hbw hbW hu7 hbu7
            refine wp_region_class_tail 6 (Class y8) (by kernel_rfl) (by kernel_rfl) (Class.mk_ ((Below.refl _ _).drew)) ?_
            refine wpQuiet_move rfl (.tmp 15) rfl ?_
            (intro K hK; go_simp; refine hK _ ?_; clear hK K)
            refine wpQuiet_move rfl (.tmp 4) rfl ?_
            (intro K hK; go_simp; refine hK _ ?_; clear hK K)
            refine wpQuiet_move rfl (.tmp 19) rfl ?_
            (intro K hK; go_simp; refine hK _ ?_; clear hK K)
            refine wpQuiet_val (v := .pointer (some ⟨b, o + j * 32, none⟩)) rfl (fun w' hw' => by go_simp) ?_
            (intro K hK; go_simp; refine hK _ ?_; clear hK K)
            refine wpQuiet_load_part rfl 23 (.tmp 73) rfl b (o + j * 32) rfl (cells8 d) _ (fun w' hw' => hdc.out w' (hbW8.out.trans (hw'.below.mono hbW8.out.size))) Tryd.underlying23 rfl Fd.out.part ?_
            (intro K hK; go_simp; refine hK _ ?_; clear hK K)
            refine wpQuiet_load_row rfl 23 (.tmp 17) rfl m17 rfl 23 ((cells8 Z.sr).toArray) (0, 0) _ (fun w' hw' => (hw'.below.block _ hN7.out.lf2.lt).trans hN7.out.lf2) Tryd.underlying23 rfl Fb.out.size ?_
            (intro K hK; go_simp; refine hK _ ?_; clear hK K)
            refine wpQuiet_nil ?_
            intro u9 hu9
            have hbu9 : Hid (Below w.heap.size w u9) := hbW8.out.trans (hu9.below.mono hbW8.out.size)
            simp only [List.drop]
            go_wp2_with fail
            refine (node_walk (w3.heap.size + 1) r2 s Z.st d Z.sr hdl.out hZok.out.sl u9 (hBs.out _ hbu9.out) (by have := hgb.out; have := hs3.out; omega) (ClAtM.kept hN7.out.cl2 (Kept.of_below hu9.below) (fun h => h) (fun _ _ h => h)) (by have := hZok.out.sk; have := hn41.out; have := hjn.out; omega)).mono ?_
            rw [hzb.out]
            rintro e y9 ⟨rfl, hC9⟩
            obtain ⟨hB9, rn9, hN9⟩ := AhAt.step (z := zb) hN7.out.swap hu9.below hC9 hq65.out hf65.out hZok.out.sl (by omega) hdis.out.2.2.2.1 hdis.out.2.2.1 hdis.out.2.1 (fun e => hdis.out.2.2.2.2.1 e.symm) ⟨hlt.out.2.1, hlt.out.1, hlt.out.2.2.2, hlt.out.2.2.1⟩
            replace hB9 := Lib.hid hB9
            replace hN9 := Lib.hid hN9.swap
            have hq9 := Lib.hid (Fzb.out.same Z.sr hZok.out.sl)
            clear hC9
            go_wp2_with ((with_reducible change wpList _ _ _ ({ dst := none, op := Op.store 23 _ _, type := _, pos := _, after := _, guard := _ } :: _) _ _); refine wpList_store_row (o := ⟨none, _, _, _, _, _⟩) rfl 23 (.tmp 17) (.tmp 76) rfl (m17) ((cells8 zb).toArray) rfl rfl 23 ((cells8 Z.sr).toArray) hB9.out Fzb.out.size hq9.out Fzb.out.one ?_)
            go_roundw
            case rel => exact ⟨j + 1, rn7, rn9, by go_num, ⟨by have := hj.out.1; omega, hjn.out⟩, (by show AhAt _ _ _ _ _ _ _ _ _ _ _ _ _; rw [hYe.out, hY.out]; exact hN9.out)⟩
            case measure => (have := hjn.out; simp [intOf]; omega)
        · obtain rfl : j = n := by have := hj.out; omega
          have z2 : ¬ ((j : Int) < (j : Int)) := by omega
          obtain ⟨Z, hZe⟩ : ∃ Z, aheadS s x0 low P j = Z := ⟨_, rfl⟩
          rw [hZe] at hI hZok ⊢
          have Fa := Lib.hid (fit (x := Z.fr) hZok.out.fl)
          have Fb := Lib.hid (fit (x := Z.sr) hZok.out.sl)
          have hAr : Hid (Blk wr (w.heap.size + 1) 23 Z32) := (hbw.out.block _ hA3.out.lt).trans hA3.out
          have hEr : Hid (Blk wr (w.heap.size + 2) 23 Z32) := (hbw.out.block _ hE3.out.lt).trans hE3.out
          obtain ⟨v1, xs1, cb1, co1, cv1, cn1, cx1⟩ := hI.out.cl1
          obtain ⟨v2, xs2, cb2, co2, cv2, cn2, cx2⟩ := hI.out.cl2
          obtain ⟨A1, c1, rfl, -⟩ := Append.Own.reads co1
          obtain ⟨A2, c2, rfl, -, -, hnil2, hrd2, -⟩ := Append.Own.reads co2
          obtain ⟨S, hS⟩ : ∃ S : Nat → Prop, Hid (S = fun k => some k = r1 ∨ k = w.heap.size + 1 ∨ k = w.heap.size + 2) := ⟨_, rfl⟩
          have hr1 : Hid (∀ k, some k = r1 → w6.heap.size ≤ k) := fun k e => hI.out.n1 k e.symm
          have hw6s : Hid (w.heap.size + 3 ≤ w6.heap.size) := by have := hs3.out; have := hb6.out.size; show _ ≤ _; omega
          have hSf : Hid (∀ g, S g → (∃ t cs, Blk wr g t cs ∧ cs.size < 65) ∨ (∃ u, wr.cell? ⟨g, 0, none⟩ = some u ∧ ∀ n, u ≠ .int .u8 n)) := fun g hg => by
            rw [hS.out] at hg
            rcases hg with hg | rfl | rfl
            · exact .inr (ClAt.front hI.out.cl1 hI.out.e1 g (.inr hg))
            · exact .inl ⟨_, _, hAr.out, by simp [Z32]⟩
            · exact .inl ⟨_, _, hEr.out, by simp [Z32]⟩
          have hnS : Hid (∀ k, w.heap.size + 3 ≤ k → k < w6.heap.size → ¬ S k) := fun k h1 h2 h => by
            rw [hS.out] at h
            rcases h with h | h | h
            · have := hr1.out k h; omega
            · omega
            · omega
          have hx65 := Lib.hid (And.intro hZok.out.ft hZok.out.st)
          obtain ⟨n1, hn1⟩ : ∃ n1, Z.ft.length = n1 := ⟨_, rfl⟩
          obtain ⟨n2, hn2⟩ : ∃ n2, Z.st.length = n2 := ⟨_, rfl⟩
          have hk1 : Hid (n1 ≤ 41 ∧ n2 ≤ 41) := by have := hZok.out.fk; have := hZok.out.sk; have := hn41.out; show _ ∧ _; omega
          rw [hn1] at co1
          rw [hn2] at co2 hrd2 hnil2
          have hn1h := Lib.hid hn1
          have hn2h := Lib.hid hn2
          have hL1 : Hid (∀ w', Kept S wr w' → Blk w' m16 23 (cells8 Z.fr).toArray) := fun w' h => hI.out.lf1.kept h (hnS.out m16 (by have := hdis.out; have := hs3.out; omega) hlt.out.2.2.1)
          have hL2 : Hid (∀ w', Kept S wr w' → Blk w' m17 23 (cells8 Z.sr).toArray) := fun w' h => hI.out.lf2.kept h (hnS.out m17 (by have := hdis.out; have := hs3.out; omega) hlt.out.2.2.2)
          have hL3 : Hid (∀ w', Kept S wr w' → w'.cell? ⟨w3.heap.size, 1, none⟩ = some (.slice A1 n1 c1)) := fun w' h => by
            have h2 : Blk w' w3.heap.size 109 #[.int .i64 s, .slice A1 Z.ft.length c1] := cb1.kept h (hnS.out _ (by have := hs3.out; omega) hlt.out.1)
            rw [hn1] at h2
            exact h2.cell 1
          have hL4 : Hid (∀ w', Kept S wr w' → w'.cell? ⟨w3.heap.size + 1, 1, none⟩ = some (.slice A2 n2 c2)) := fun w' h => by
            have h2 : Blk w' (w3.heap.size + 1) 109 #[.int .i64 s, .slice A2 Z.st.length c2] := cb2.kept h (hnS.out _ (by have := hs3.out; omega) hlt.out.2.1)
            rw [hn2] at h2
            exact h2.cell 1
          have hv1 : Hid ((Value.slice A1 n1 c1).ownBlock = r1) := by rw [hn1] at cv1; exact cv1
          have hone2 : Hid (∀ u ∈ xs2, u.oneCell' = true) := fun u hu => by
            obtain ⟨i, hi, rfl⟩ := List.getElem_of_mem hu
            have hl : xs2.length = n2 := by simpa using hrd2.1
            obtain ⟨q, hq⟩ : ∃ q, Z.st[i]? = some q := ⟨_, List.getElem?_eq_getElem (by omega)⟩
            obtain ⟨g, cq, a1, -⟩ := cx2 i q hq
            rw [List.getElem?_eq_getElem hi] at a1
            rw [Option.some.inj a1]
            rfl
          have hxl1 : Hid (xs1.length = Z.ft.length) := by show _ = _; have := co1.1; rw [hn1]; simpa using this
          replace co1 := Lib.hid co1
          replace hrd2 := Lib.hid hrd2
          replace hnil2 := Lib.hid hnil2
          replace cx1 := Lib.hid cx1
          replace cx2 := Lib.hid cx2
          clear co2 cb1 cb2 cv1 cv2 cn1 cn2 hn1 hn2
          go_wp2_with fail
          have s0 : Hid (Kept S wr wr.drew) := (Kept.refl _ _).drew
          refine held_start (fun w' => Kept S wr w') 14 rfl (by kernel_rfl) ?_
          refine held_take (i := 0) (v := .agg ((cells8 Z.fr).toArray)) rfl (by kernel_rfl) (by kernel_rfl) (by kernel_rfl) (fun _ _ _ h => h) s0.out (by rfl) (fun w' hw' => exec_row 23 (.tmp 16) rfl (m16) rfl 23 ((cells8 Z.fr).toArray) (0, 0) _ (hL1.out w' hw') Tryd.underlying23 rfl Fa.out.size) ?_
          (intro K hK; go_simp; refine hK _ ?_; clear hK K)
          refine held_take (i := 1) (v := .agg ((cells8 Z.sr).toArray)) rfl (by kernel_rfl) (by kernel_rfl) (by kernel_rfl) (fun _ _ _ h => h) s0.out (by rfl) (fun w' hw' => exec_row 23 (.tmp 17) rfl (m17) rfl 23 ((cells8 Z.sr).toArray) (0, 0) _ (hL2.out w' hw') Tryd.underlying23 rfl Fb.out.size) ?_
          (intro K hK; go_simp; refine hK _ ?_; clear hK K)
          refine held_take (i := 2) (v := .pointer (some ⟨w3.heap.size, 0, none⟩)) rfl (by kernel_rfl) (by kernel_rfl) (by kernel_rfl) (fun _ _ _ h => h) s0.out (by rfl) (fun w' hw' => run_mv (.tmp 14) rfl w') ?_
          (intro K hK; go_simp; refine hK _ ?_; clear hK K)
          refine held_take (i := 3) (v := .pointer (some ⟨w3.heap.size, 0, none⟩)) rfl (by kernel_rfl) (by kernel_rfl) (by kernel_rfl) (fun _ _ _ h => h) s0.out (by rfl) (fun w' hw' => by go_simp) ?_
          (intro K hK; go_simp; refine hK _ ?_; clear hK K)
          refine held_take (i := 4) (v := .pointer (some ⟨w3.heap.size, 1, none⟩)) rfl (by kernel_rfl) (by kernel_rfl) (by kernel_rfl) (fun _ _ _ h => h) s0.out (by rfl) (fun w' hw' => by go_simp) ?_
          (intro K hK; go_simp; refine hK _ ?_; clear hK K)
          refine held_take (i := 5) (v := .slice A1 n1 c1) rfl (by kernel_rfl) (by kernel_rfl) (by kernel_rfl) (fun _ _ _ h => h) s0.out (by rfl) (fun w' hw' => by have h := hL3.out w' hw'; go_simp) ?_
          (intro K hK; go_simp; refine hK _ ?_; clear hK K)
          refine held_take (i := 6) (v := .pointer (some ⟨w3.heap.size + 1, 0, none⟩)) rfl (by kernel_rfl) (by kernel_rfl) (by kernel_rfl) (fun _ _ _ h => h) s0.out (by rfl) (fun w' hw' => run_mv (.tmp 15) rfl w') ?_
          (intro K hK; go_simp; refine hK _ ?_; clear hK K)
          refine held_take (i := 7) (v := .pointer (some ⟨w3.heap.size + 1, 0, none⟩)) rfl (by kernel_rfl) (by kernel_rfl) (by kernel_rfl) (fun _ _ _ h => h) s0.out (by rfl) (fun w' hw' => by go_simp) ?_
          (intro K hK; go_simp; refine hK _ ?_; clear hK K)
          refine held_take (i := 8) (v := .pointer (some ⟨w3.heap.size + 1, 1, none⟩)) rfl (by kernel_rfl) (by kernel_rfl) (by kernel_rfl) (fun _ _ _ h => h) s0.out (by rfl) (fun w' hw' => by go_simp) ?_
          (intro K hK; go_simp; refine hK _ ?_; clear hK K)
          refine held_take (i := 9) (v := .slice A2 n2 c2) rfl (by kernel_rfl) (by kernel_rfl) (by kernel_rfl) (fun _ _ _ h => h) s0.out (by rfl) (fun w' hw' => by have h := hL4.out w' hw'; go_simp) ?_
          (intro K hK; go_simp; refine hK _ ?_; clear hK K)
          refine held_only (i := 10) rfl (by kernel_rfl) (by rfl) (fun K hK => ?_)
          refine wp_append_src _ (.tmp 82) (.tmp 86) 24 rfl 0 27 i0 (.slice none 0 0) 1 24 Tryd.underlying24 ii iz0 iz1 iz2 rfl (by decide) (.slice A1 n1 c1) n1 xs1 rfl co1.out A2 n2 c2 xs2 rfl hrd2.out hnil2.out hone2.out (by have := hk1.out; unfold maxLen; omega) (by have := hk1.out; omega) (Nat.zero_le _) ?_
          intro v8 w8 hG
          obtain ⟨A8, c8, rfl, -⟩ := Append.Own.reads hG.own
          have h8 : Hid (Kept S wr w8) := (Kept.refl S wr).drew.grown hG.grow (fun k e => .inl (by rw [hS.out]; exact .inl (by rw [← hv1.out, e])))
          have hat : Hid (∀ k, (Value.slice A8 (n1 + n2) c8).ownBlock = some k → w6.heap.size ≤ k) := fun k e => by
            rcases hG.at_ with h | h
            · rw [h] at e; exact hr1.out k (by rw [← hv1.out, e])
            · rw [h] at e; have h9 : wr.heap.size = k := Option.some.inj e; have := hI.out.kept.size; omega
          have hA8 : Hid (Blk w8 (w.heap.size + 1) 23 Z32) := Blk.grown (w := wr.drew) hAr.out hG.grow (fun e => by have h := hr1.out _ (e.trans hv1.out); have := hw6s.out; omega)
          have hE8 : Hid (Blk w8 (w.heap.size + 2) 23 Z32) := Blk.grown (w := wr.drew) hEr.out hG.grow (fun e => by have h := hr1.out _ (e.trans hv1.out); have := hw6s.out; omega)
          replace hG := Lib.hid hG
          go_simp
          refine hK _ _ h8.out ?_
          clear hK K
          refine held_only (i := 11) rfl (by kernel_rfl) (by rfl) (fun K hK => ?_)
          refine wp_store_whole 23 (.tmp 10) (.tmp 77) rfl (w.heap.size + 1) ((cells8 Z.fr).toArray) rfl rfl 23 Z32 hA8.out Fa.out.size Fa.out.zero Fa.out.one ?_
          intro w9 q9 k9
          have h9 : Hid (Kept S wr w9) := h8.out.trans k9 (fun i _ h => by rw [hS.out]; exact .inr (.inl h))
          go_simp
          refine hK _ _ h9.out ?_
          clear hK K
          refine held_only (i := 12) rfl (by kernel_rfl) (by rfl) (fun K hK => ?_)
          refine wp_store_whole 23 (.tmp 11) (.tmp 78) rfl (w.heap.size + 2) ((cells8 Z.sr).toArray) rfl rfl 23 Z32 (hE8.out.kept k9 (by omega)) Fb.out.size Fb.out.zero Fb.out.one ?_
          intro w10 q10 k10
          have h10 : Hid (Kept S wr w10) := h9.out.trans k10 (fun i _ h => by rw [hS.out]; exact .inr (.inr h))
          go_simp
          refine hK _ _ h10.out ?_
          clear hK K
          refine held_take (i := 13) (v := .slice A8 (n1 + n2) c8) rfl (by kernel_rfl) (by kernel_rfl) (by kernel_rfl) (fun _ _ _ h => h) h10.out (by rfl) (fun w' hw' => by first | go_simp | rfl) ?_
          (intro K hK; go_simp; refine hK _ ?_; clear hK K)
          refine held_end (by kernel_rfl) ?_
          have hQ1 : Hid (Blk w10 (w.heap.size + 1) 23 (cells8 Z.fr).toArray) := Blk.kept q9 k10 (by omega)
          have hQ2 : Hid (Blk w10 (w.heap.size + 2) 23 (cells8 Z.sr).toArray) := q10
          have hO10 : w10.ownsRow 0 27 1 (.slice A8 (n1 + n2) c8) (n1 + n2) (xs1 ++ xs2) := own_kept (own_kept hG.out.own k9 (fun k e h => by have := hat.out k e; have := hw6s.out; omega)) k10 (fun k e h => by have := hat.out k e; have := hw6s.out; omega)
          have hO11 : Hid (w10.ownsRow w.heap.size 27 1 (.slice A8 (n1 + n2) c8) (n1 + n2) (xs1 ++ xs2)) := Go.Proofs.YtpgenpogjhpeoaaDoor.RowsT.own_up hO10 (fun k e => by have := hat.out k e; have := hw6s.out; omega)
          have hT9 : Hid (Tx w10 (xs1 ++ xs2) (Z.ft ++ Z.st)) := (Txs.toTx cx1.out hx65.out.1 h10.out hSf.out).append (Txs.toTx cx2.out hx65.out.2 h10.out hSf.out) hxl1.out
          have hfin : Hid (Below w.heap.size w w10) := Kept.toBelow hbW.out h10.out (fun k h => by rw [hS.out] at h; rcases h with h | h | h; (have := hr1.out k h; have := hw6s.out; omega); omega; omega) hbW.out.size
          clear hG hO10
          go_wp2_with fail
          refine bodyPost_ret (results_ccr rfl _ _ (w.heap.size + 1) (w.heap.size + 2) 23 23 (cells8 Z.fr).toArray (cells8 Z.sr).toArray (0, 0) (0, 0) _ rfl hQ1.out rfl hQ2.out Tryd.underlying23 rfl Fa.out.size Fb.out.size) rfl ?_
          show AhOwn w _ _ _
          try rw [hZe]
          exact ⟨A8, c8, xs1 ++ xs2, by rw [hn1h.out, hn2h.out]; rfl, by rw [hn1h.out, hn2h.out]; exact hO11.out, hT9.out, hfin.out⟩
theorem ahead_any (s : Int) (old size : Nat) (h1 : 1 ≤ old) (h2 : old < size) (hs : size ≤ 1099511627776) (root : Text) (hrt : root.length = 32) (ds : List Text) (A : Option Addr) (n c : Nat) (hn : (partsOf old size).length = n) (w : World) (hB : Base w) (hr : RdD w A n ds) :
    Calls Tryd.prog 70 #[.int .i64 s, .int .i64 (old : Int), .int .i64 (size : Int), .agg (cells8 root).toArray, .slice A n c] w (AhPost w (aheadOf s old size root ds)) :=
  (ahead_own s old size h1 h2 hs root hrt ds A n c hn w hB hr).mono fun _ _ h => h.post
end Go.Proofs.YtpgenpogjhpeoaaDoor.Ahead

namespace Go.Proofs.YtpgenpogjhpeoaaDoor.AheadX
open Go Go.RowKit Go.Proofs.YtpgenpogjhpeoaaDoor Go.Proofs.YtpgenpogjhpeoaaDoor.Digest Go.Proofs.YtpgenpogjhpeoaaDoor.Mem Go.Proofs.YtpgenpogjhpeoaaDoor.Sha Go.Proofs.YtpgenpogjhpeoaaDoor.ShaWalk Go.Proofs.YtpgenpogjhpeoaaDoor.Bytes Go.Proofs.YtpgenpogjhpeoaaDoor.Append Go.Proofs.YtpgenpogjhpeoaaDoor.HashMem Go.Proofs.YtpgenpogjhpeoaaDoor.DigestMem Go.Proofs.YtpgenpogjhpeoaaDoor.DigestTop Go.Proofs.YtpgenpogjhpeoaaDoor.QuietTail Go.Proofs.YtpgenpogjhpeoaaDoor.Grown Go.Proofs.YtpgenpogjhpeoaaDoor.Chain Go.Proofs.YtpgenpogjhpeoaaDoor.TreeMath Go.Proofs.YtpgenpogjhpeoaaDoor.TreeMem Go.Proofs.YtpgenpogjhpeoaaDoor.TreeRoot Go.Proofs.YtpgenpogjhpeoaaDoor.Held Go.Proofs.YtpgenpogjhpeoaaDoor.Guard Go.Proofs.YtpgenpogjhpeoaaDoor.Book Go.Proofs.YtpgenpogjhpeoaaDoor.Node Go.Proofs.YtpgenpogjhpeoaaDoor.NodeW Go.Proofs.YtpgenpogjhpeoaaDoor.WayP Go.Proofs.YtpgenpogjhpeoaaDoor.RevP Go.Proofs.YtpgenpogjhpeoaaDoor.TreeRefRoot Go.Proofs.YtpgenpogjhpeoaaDoor.Climb Go.Proofs.YtpgenpogjhpeoaaDoor.Incl Go.Proofs.YtpgenpogjhpeoaaDoor.Subs Go.Proofs.YtpgenpogjhpeoaaDoor.RowsP Go.Proofs.YtpgenpogjhpeoaaDoor.Joint Go.Proofs.YtpgenpogjhpeoaaDoor.RefIncl0 Go.Proofs.YtpgenpogjhpeoaaDoor.AheadM Go.Proofs.YtpgenpogjhpeoaaDoor.AheadT Go.Proofs.YtpgenpogjhpeoaaDoor.Ahead Go.Proofs.YtpgenpogjhpeoaaDoor.Guard2 Go.Proofs.YtpgenpogjhpeoaaDoor.Want

theorem _root_.Go.Proofs.YtpgenpogjhpeoaaDoor.Mem.Blk.onX {w w' : World} {g : Nat} {t : TypeId} {cs : Array Value} (h : Blk w g t cs) (hb : Below w.heap.size w w') : Blk w' g t cs := (hb.block g h.lt).trans h
set_option maxRecDepth 100000 in
set_option maxHeartbeats 4000000 in
theorem aheadx_any (s : Int) (old size : Nat) (h1 : 1 ≤ old) (h2 : old < size) (hs : size ≤ 1099511627776) (root : Text) (hrt : root.length = 32) (ds : List Text) (A : Option Addr) (n c : Nat) (hn : (partsOf old size).length = n) (w : World) (hB : Base w) (hr : RdD w A n ds) (Z : Ah) (hZ : aheadOf s old size root ds = Z) (hfr : Z.fr.length = 32) (hsr : Z.sr.length = 32) :
    Calls Tryd.prog 26 #[.int .i64 s, .int .i64 (old : Int), .int .i64 (size : Int), .agg (cells8 root).toArray, .slice A n c] w fun e w' => ∃ A' c' xs, e = .returned (.tuple #[.agg (cells8 Z.fr).toArray, .agg (cells8 Z.sr).toArray, .slice A' (Z.ft.length + Z.st.length) c', .int .i64 0]) ∧ w'.ownsRow w.heap.size 27 1 (.slice A' (Z.ft.length + Z.st.length) c') (Z.ft.length + Z.st.length) xs ∧ Tx w' xs (Z.ft ++ Z.st) ∧ Below w.heap.size w w' := by
  have hj : joinsB (old : Int) (size : Int) = true := by
    have a1 : (0 : Int) ≤ old := by omega
    have a2 : (old : Int) ≤ size := by omega
    have a3 : (size : Int) ≤ 1099511627776 := by omega
    simp [joinsB, a1, a2, a3]
  have hSz : Hid (∀ w', Calls Tryd.prog 67 #[.int .i64 (old : Int), .int .i64 (size : Int)] w' fun e w'' => e = .returned (.bool true) ∧ w' = w'') := fun w' => by have := sizes_any old size w'; rwa [hj] at this
  have hPt := Lib.hid (fun w' => parts_any old size (by omega) hs w')
  have hnh := Lib.hid hn
  have hAh := Lib.hid (fun w' (hb : Below w.heap.size w w') => ahead_own s old size h1 h2 hs root hrt ds A n c hn w' (hB.below hb hB.1) (hr.below hb))
  rw [hZ] at hAh
  have y1 : ((old : Int) == 0) = false := beq_eq_false_iff_ne.2 (by omega)
  have y2 : ((old : Int) == (size : Int)) = false := beq_eq_false_iff_ne.2 (by omega)
  have F0 := Lib.hid (fit (x := root) hrt)
  have Fa := Lib.hid (fit (x := Z.fr) hfr)
  have Fb := Lib.hid (fit (x := Z.sr) hsr)
  obtain ⟨k, hk⟩ : ∃ k, Z.ft.length + Z.st.length = k := ⟨_, rfl⟩
  unfold AhOwn at hAh
  rw [hk] at hAh ⊢
  obtain ⟨fr, hfre⟩ : ∃ x, Z.fr = x := ⟨_, rfl⟩
  obtain ⟨sr, hsre⟩ : ∃ x, Z.sr = x := ⟨_, rfl⟩
  obtain ⟨tx, htx⟩ : ∃ x, Z.ft ++ Z.st = x := ⟨_, rfl⟩
  rw [hfre, hsre, htx] at hAh
  rw [hfre] at Fa ⊢
  rw [hsre] at Fb ⊢
  rw [htx]
  have hb : Hid (Below w.heap.size w (((w.alloc (.cells (cells8 root).toArray 23)).alloc (.cells Z32 23)).alloc (.cells Z32 23))) := ((Below.heap_below w _).alloc (by simp) _).alloc (by simp; omega) _
  have hR : Hid (Blk (((w.alloc (.cells (cells8 root).toArray 23)).alloc (.cells Z32 23)).alloc (.cells Z32 23)) w.heap.size 23 (cells8 root).toArray) := ((Blk.new w _ _).alloc _).alloc _
  have hP : Hid (Blk (((w.alloc (.cells (cells8 root).toArray 23)).alloc (.cells Z32 23)).alloc (.cells Z32 23)) (w.heap.size + 1) 23 Z32) := by
    have := (Blk.new (w.alloc (.cells (cells8 root).toArray 23)) 23 Z32).alloc (.cells Z32 23)
    rwa [show (w.alloc (.cells (cells8 root).toArray 23)).heap.size = w.heap.size + 1 by simp] at this
  have hQ : Hid (Blk (((w.alloc (.cells (cells8 root).toArray 23)).alloc (.cells Z32 23)).alloc (.cells Z32 23)) (w.heap.size + 2) 23 Z32) := by
    have := heap_alloc2_new (w.alloc (.cells (cells8 root).toArray 23)) (.cells Z32 23) (.cells Z32 23)
    rwa [show (w.alloc (.cells (cells8 root).toArray 23)).heap.size = w.heap.size + 1 by simp] at this
  have hz : Hid ((((w.alloc (.cells (cells8 root).toArray 23)).alloc (.cells Z32 23)).alloc (.cells Z32 23)).heap.size = w.heap.size + 3) := by show _ = _; simp
  clear hj h1 h2 hs hrt hB hr hn hZ hfr hsr hk hfre hsre htx
  go_enter Tryd.func26, Tryd.ntmps26
  go_wp2_with (first
    | (go_at_call 67; refine (hSz.out _).mono ?_; rintro e w1 ⟨rfl, rfl⟩; clear hSz)
    | (go_at_call 68; refine (hPt.out _).mono ?_; rintro e w4 ⟨v, rfl, hO, kk⟩; rw [hnh.out] at hO; obtain ⟨Av, cv, rfl, -⟩ := Append.Own.reads hO; have hR4 := Lib.hid (hR.out.onX kk); have hP4 := Lib.hid (hP.out.onX kk); have hQ4 := Lib.hid (hQ.out.onX kk); have hb4 : Hid (Below w.heap.size w w4) := hb.out.trans (kk.mono hb.out.size); have hz4 : Hid (w.heap.size + 3 ≤ w4.heap.size) := Nat.le_trans (Nat.le_of_eq hz.out.symm) kk.size; clear hPt hO kk hR hP hQ hb)
    | ((with_reducible change wpList _ _ _ ({ dst := some 45, op := _, type := _, pos := _, after := _, guard := _ } :: _) _ _); refine wpList_load_row (o := ⟨some 45, _, _, _, _, _⟩) rfl 23 (.tmp 8) rfl (w.heap.size) rfl 23 ((cells8 root).toArray) (0, 0) _ hR4.out Tryd.underlying23 rfl F0.out.size ?_)
    | (go_at_call 70; refine (hAh.out _ hb4.out).mono ?_; rintro e w5 ⟨A5, c5, xs5, rfl, hO5, hT5, kk⟩; replace hO5 := Lib.hid (Go.Proofs.YtpgenpogjhpeoaaDoor.RowsT.own_down hO5 hb4.out.size); replace hT5 := Lib.hid hT5; have hP5 := Lib.hid (hP4.out.onX kk); have hQ5 := Lib.hid (hQ4.out.onX kk); have hb5 : Hid (Below w.heap.size w w5) := hb4.out.trans (kk.mono hb4.out.size); have hz5 : Hid (w.heap.size + 3 ≤ w5.heap.size) := Nat.le_trans hz4.out kk.size; clear hAh kk hR4 hP4 hQ4 hb4 hz4)
    | ((with_reducible change wpList _ _ _ ({ dst := none, op := Op.store 23 (.tmp 14) _, type := _, pos := _, after := _, guard := _ } :: _) _ _); refine wpList_store_whole (o := ⟨none, _, _, _, _, _⟩) rfl 23 (.tmp 14) (.tmp 48) rfl (w5.heap.size) ((cells8 fr).toArray) rfl rfl 23 (Z32) ((Blk.new w5 _ _).alloc _) Fa.out.size Fa.out.zero Fa.out.one ?_; intro w6 hX6 kk; have hY6 : Hid (Blk w6 (w5.heap.size + 1) 23 Z32) := Blk.kept (heap_alloc2_new w5 _ _) kk (by omega); have k56 : Hid (Below w5.heap.size w5 w6) := ((Below.heap_below w5 _).alloc (by simp) _).trans (Kept.below_of kk (Nat.le_refl _) (by simp; omega)); replace hX6 := Lib.hid hX6; clear kk)
    | ((with_reducible change wpList _ _ _ ({ dst := none, op := Op.store 23 (.tmp 15) _, type := _, pos := _, after := _, guard := _ } :: _) _ _); refine wpList_store_whole (o := ⟨none, _, _, _, _, _⟩) rfl 23 (.tmp 15) (.tmp 49) rfl (w5.heap.size + 1) ((cells8 sr).toArray) rfl rfl 23 (Z32) hY6.out Fb.out.size Fb.out.zero Fb.out.one ?_; intro w7 hY7 kk; have hX7 := Lib.hid (hX6.out.kept kk (by omega)); have k57 : Below w5.heap.size w5 w7 := k56.out.trans (Kept.below_of kk (by omega) k56.out.size); have hP7 := Lib.hid (hP5.out.onX k57); have hQ7 := Lib.hid (hQ5.out.onX k57); have hb7 : Hid (Below w.heap.size w w7) := hb5.out.trans (k57.mono hb5.out.size); have hO7 := Lib.hid (Go.Proofs.YtpgenpogjhpeoaaDoor.Own.own_below hO5.out k57); have hT7 := Lib.hid (hT5.out.below k57); replace hY7 := Lib.hid hY7; clear kk k57 k56 hX6 hY6 hP5 hQ5 hb5 hO5 hT5))
  have hX : Hid (∀ w', Kept (fun k => k = w.heap.size + 1 ∨ k = w.heap.size + 2) w7 w' → Blk w' w5.heap.size 23 (cells8 fr).toArray) := fun w' h => hX7.out.kept h (by have := hz5.out; omega)
  have hY : Hid (∀ w', Kept (fun k => k = w.heap.size + 1 ∨ k = w.heap.size + 2) w7 w' → Blk w' (w5.heap.size + 1) 23 (cells8 sr).toArray) := fun w' h => hY7.out.kept h (by have := hz5.out; omega)
  have s0 : Hid (Kept (fun k => k = w.heap.size + 1 ∨ k = w.heap.size + 2) w7 w7.drew) := (Kept.refl _ _).drew
  refine held_start (fun w' => Kept (fun k => k = w.heap.size + 1 ∨ k = w.heap.size + 2) w7 w') 7 rfl (by kernel_rfl) ?_
  refine held_take (i := 0) (v := .agg ((cells8 fr).toArray)) rfl (by kernel_rfl) (by kernel_rfl) (by kernel_rfl) (fun _ _ _ h => h) s0.out (by rfl) (fun w' hw' => exec_row 23 (.tmp 14) rfl (w5.heap.size) rfl 23 ((cells8 fr).toArray) (0, 0) _ (hX.out w' hw') Tryd.underlying23 rfl Fa.out.size) ?_
  (intro K hK; go_simp; refine hK _ ?_; clear hK K)
  refine held_take (i := 1) (v := .agg ((cells8 sr).toArray)) rfl (by kernel_rfl) (by kernel_rfl) (by kernel_rfl) (fun _ _ _ h => h) s0.out (by rfl) (fun w' hw' => exec_row 23 (.tmp 15) rfl (w5.heap.size + 1) rfl 23 ((cells8 sr).toArray) (0, 0) _ (hY.out w' hw') Tryd.underlying23 rfl Fb.out.size) ?_
  (intro K hK; go_simp; refine hK _ ?_; clear hK K)
  refine held_take (i := 2) (v := .slice A5 k c5) rfl (by kernel_rfl) (by kernel_rfl) (by kernel_rfl) (fun _ _ _ h => h) s0.out (by rfl) (fun w' hw' => by first | go_simp | rfl) ?_
  (intro K hK; go_simp; refine hK _ ?_; clear hK K)
  refine held_only (i := 3) rfl (by kernel_rfl) (by rfl) (fun K hK => ?_)
  refine wp_store_whole 23 (.tmp 10) (.tmp 51) rfl (w.heap.size + 1) ((cells8 fr).toArray) rfl rfl 23 Z32 hP7.out Fa.out.size Fa.out.zero Fa.out.one ?_
  intro w8 q8 k8
  have h8 : Hid (Kept (fun k => k = w.heap.size + 1 ∨ k = w.heap.size + 2) w7 w8) := s0.out.trans k8 (fun i _ h => .inl h)
  have hQ8 : Hid (Blk w8 (w.heap.size + 2) 23 Z32) := Blk.kept (w := w7.drew) hQ7.out k8 (by omega)
  go_simp
  refine hK _ _ h8.out ?_
  clear hK K
  refine held_only (i := 4) rfl (by kernel_rfl) (by rfl) (fun K hK => ?_)
  refine wp_store_whole 23 (.tmp 11) (.tmp 52) rfl (w.heap.size + 2) ((cells8 sr).toArray) rfl rfl 23 Z32 hQ8.out Fb.out.size Fb.out.zero Fb.out.one ?_
  intro w9 q9 k9
  have h9 : Hid (Kept (fun k => k = w.heap.size + 1 ∨ k = w.heap.size + 2) w7 w9) := h8.out.trans k9 (fun i _ h => .inr h)
  have q10 : Hid (Blk w9 (w.heap.size + 1) 23 (cells8 fr).toArray) := Blk.kept q8 k9 (by omega)
  go_simp
  refine hK _ _ h9.out ?_
  clear hK K
  refine held_take (i := 5) (v := .slice A5 k c5) rfl (by kernel_rfl) (by kernel_rfl) (by kernel_rfl) (fun _ _ _ h => h) h9.out (by rfl) (fun w' hw' => by first | go_simp | rfl) ?_
  (intro K hK; go_simp; refine hK _ ?_; clear hK K)
  refine held_take (i := 6) (v := .int .i64 0) rfl (by kernel_rfl) (by kernel_rfl) (by kernel_rfl) (fun _ _ _ h => h) h9.out (by rfl) (fun w' hw' => by first | go_simp | rfl) ?_
  (intro K hK; go_simp; refine hK _ ?_; clear hK K)
  refine held_end (by kernel_rfl) ?_
  have hT9 : Tx w9 xs5 tx := Go.Proofs.YtpgenpogjhpeoaaDoor.RowsT.Tx.small hT7.out h9.out (fun g h => by
    rcases h with rfl | rfl
    · exact ⟨_, _, hP7.out, by decide⟩
    · exact ⟨_, _, hQ7.out, by decide⟩)
  have hO9 : w9.ownsRow w.heap.size 27 1 (.slice A5 k c5) k xs5 := Go.Proofs.YtpgenpogjhpeoaaDoor.RowsT.own_keepT hO7.out h9.out (fun g h => by
    rcases h with rfl | rfl
    · exact ⟨_, _, hP7.out, by decide⟩
    · exact ⟨_, _, hQ7.out, by decide⟩)
  have hb9 : Below w.heap.size w w9 := Kept.toBelow hb7.out h9.out (fun k h => by rcases h with h | h <;> omega) hb7.out.size
  go_wp2_with fail
  refine bodyPost_ret (results_ccrr rfl _ _ (w.heap.size + 1) (w.heap.size + 2) 23 23 (cells8 fr).toArray (cells8 sr).toArray (0, 0) (0, 0) _ rfl q10.out rfl q9 Tryd.underlying23 rfl Fa.out.size Fb.out.size) rfl ?_
  exact ⟨A5, c5, xs5, rfl, hO9, hT9, hb9⟩
end Go.Proofs.YtpgenpogjhpeoaaDoor.AheadX

namespace Go.Proofs.YtpgenpogjhpeoaaDoor.Climbs
open Go Go.RowKit Go.Proofs.YtpgenpogjhpeoaaDoor Go.Proofs.YtpgenpogjhpeoaaDoor.Digest Go.Proofs.YtpgenpogjhpeoaaDoor.Mem Go.Proofs.YtpgenpogjhpeoaaDoor.Sha Go.Proofs.YtpgenpogjhpeoaaDoor.ShaWalk Go.Proofs.YtpgenpogjhpeoaaDoor.Bytes Go.Proofs.YtpgenpogjhpeoaaDoor.HashMem Go.Proofs.YtpgenpogjhpeoaaDoor.DigestMem Go.Proofs.YtpgenpogjhpeoaaDoor.DigestTop Go.Proofs.YtpgenpogjhpeoaaDoor.RefTop Go.Proofs.YtpgenpogjhpeoaaDoor.QuietTail Go.Proofs.YtpgenpogjhpeoaaDoor.Grown Go.Proofs.YtpgenpogjhpeoaaDoor.Chain Go.Proofs.YtpgenpogjhpeoaaDoor.TreeMath Go.Proofs.YtpgenpogjhpeoaaDoor.TreeMem Go.Proofs.YtpgenpogjhpeoaaDoor.TreeRoot Go.Proofs.YtpgenpogjhpeoaaDoor.Append Go.Proofs.YtpgenpogjhpeoaaDoor.Book Go.Proofs.YtpgenpogjhpeoaaDoor.TreeRefRoot Go.Proofs.YtpgenpogjhpeoaaDoor.Held Go.Proofs.YtpgenpogjhpeoaaDoor.DigestText Go.Proofs.YtpgenpogjhpeoaaDoor.Node Go.Proofs.YtpgenpogjhpeoaaDoor.NodeW Go.Proofs.YtpgenpogjhpeoaaDoor.Sides Go.Proofs.YtpgenpogjhpeoaaDoor.Way Go.Proofs.YtpgenpogjhpeoaaDoor.WayP Go.Proofs.YtpgenpogjhpeoaaDoor.Climb Go.Proofs.YtpgenpogjhpeoaaDoor.Incl Go.Proofs.YtpgenpogjhpeoaaDoor.InclAny Go.Proofs.YtpgenpogjhpeoaaDoor.Include

set_option maxRecDepth 100000 in
set_option maxHeartbeats 1000000 in
theorem climb_own (s size i : Int) (leaf : Text) (hl : leaf.length = 32) (ds : List Text) (A : Option Addr) (n c : Nat) (hn : n < 4503599627370496) (w : World) (hBs : Base w) (hr : RdD w A n ds) :
    Calls Tryd.prog 22 #[.int .i64 s, .int .i64 size, .int .i64 i, .agg (cells8 leaf).toArray, .slice A n c] w fun e w' => ∃ v xs r gc, e = .returned (.tuple #[v, .int .i64 (inclOf s size i leaf [] ds).2.1]) ∧ w'.ownsRow 0 27 1 v (inclOf s size i leaf [] ds).2.2.length xs ∧ Txs (fun _ => False) w' gc r xs (inclOf s size i leaf [] ds).2.2 ∧ Below w.heap.size w w' ∧ ∀ k, v.ownBlock = some k → w.heap.size ≤ k := by
  have hb3 : Hid (Below w.heap.size w ((w.alloc (.cells (cells8 leaf).toArray 23)).alloc (.cells #[.int .i64 s, .slice none 0 0] 109))) := (Below.heap_below w _).alloc (by simp) _
  have hz3 : Hid (((w.alloc (.cells (cells8 leaf).toArray 23)).alloc (.cells #[.int .i64 s, .slice none 0 0] 109)).heap.size = w.heap.size + 2) := by show _ = _; simp
  have hL3 : Hid (Blk ((w.alloc (.cells (cells8 leaf).toArray 23)).alloc (.cells #[.int .i64 s, .slice none 0 0] 109)) w.heap.size 23 (cells8 leaf).toArray) := (Blk.new w 23 (cells8 leaf).toArray).alloc _
  have hC3 : ClAt ((w.alloc (.cells (cells8 leaf).toArray 23)).alloc (.cells #[.int .i64 s, .slice none 0 0] 109)) (w.heap.size + 1) none s [] := by
    have := Blk.new (w.alloc (.cells (cells8 leaf).toArray 23)) 109 #[.int .i64 s, .slice none 0 0]
    rw [show (w.alloc (.cells (cells8 leaf).toArray 23)).heap.size = w.heap.size + 1 by simp] at this
    exact ClAt.new this
  have hT := Lib.hid (incl_any (w.heap.size + 1) none s [] size i leaf hl ds A n c ((w.alloc (.cells (cells8 leaf).toArray 23)).alloc (.cells #[.int .i64 s, .slice none 0 0] 109)) (hBs.below hb3.out hBs.1) (by have := hBs.1; omega) hC3 (fun q h => by cases h) (by have := hn; simp) (hr.below hb3.out) (fun h0 b o e => by
    obtain ⟨b', o', e', h', -⟩ := hr.2.2.at_ (by omega)
    rw [e] at e'
    have e' := Option.some.inj e'
    injection e' with e1
    exact ⟨by omega, fun h => by cases h⟩))
  obtain ⟨x, hx⟩ : ∃ x, inclOf s size i leaf [] ds = x := ⟨_, rfl⟩
  have F := Lib.hid (fit (x := x.1) (by rw [← hx]; exact inclOf_len _ _ _ _ _ _ hl))
  have Fl := Lib.hid (fit (x := leaf) hl)
  rw [hx] at hT ⊢
  clear hC3 hBs hn hr hl
  go_enter Tryd.func22, Tryd.ntmps22
  go_wp2_with ((with_reducible change wpList _ _ _ ({ dst := some 22, op := _, type := _, pos := _, after := _, guard := _ } :: _) _ _); refine wpList_load_row (o := ⟨some 22, _, _, _, _, _⟩) rfl 23 (.tmp 8) rfl (w.heap.size) rfl 23 ((cells8 leaf).toArray) (0, 0) _ hL3.out Tryd.underlying23 rfl Fl.out.size ?_)
  refine hT.out.mono ?_
  rintro e w4 ⟨rfl, r', hC4, hk, -⟩
  have hb4 : Hid (Below w.heap.size w w4) := ⟨hk.os.trans hb3.out.os, hk.tape.trans hb3.out.tape, hk.output.trans hb3.out.output, Nat.le_trans hb3.out.size hk.size, fun k h => (hk.block k (by have := hz3.out; omega) (fun e => by rcases e with e | e; omega; cases e)).trans (hb3.out.block k h)⟩
  clear hT hk
  replace hC4 := Lib.hid hC4
  go_wp2_with ((with_reducible change wpList _ _ _ ({ dst := none, op := Op.store 23 (.tmp 13) _, type := _, pos := _, after := _, guard := _ } :: _) _ _); refine wpList_store_whole (o := ⟨none, _, _, _, _, _⟩) rfl 23 (.tmp 13) (.tmp 25) rfl (w4.heap.size) ((cells8 x.1).toArray) rfl rfl 23 (Z32) (Blk.new w4 _ _) F.out.size F.out.zero F.out.one ?_; intro w5 hB5 hk5; have hb45 : Below w4.heap.size w4 w5 := (Below.heap_below w4 _).trans (Bytes.Kept.below_of hk5 (Nat.le_refl _) (by simp)); have hC5 : ClAt w5 (w.heap.size + 1) r' s x.2.2 := ClAtM.kept hC4.out (Kept.of_below hb45) (fun h => h) (fun _ _ h => h); obtain ⟨v4, xs4, hBc, hO5, hv5, hr5, hX5⟩ := hC5; have hA5 : Hid (∀ k, v4.ownBlock = some k → w.heap.size ≤ k) := (fun k e => by have := (hr5 k (by rw [← hv5]; exact e)).1; omega); clear hv5 hr5; have e1 : w5.cell? ⟨w.heap.size + 1, 1, none⟩ = some v4 := hBc.cell 1; replace hO5 := Lib.hid hO5; replace hX5 := Lib.hid hX5; have hb5 := Lib.hid (hb4.out.trans (hb45.mono hb4.out.size)); clear hBc hk5 hB5 hb45)
  go_ret2
  exact ⟨v4, xs4, r', w.heap.size + 1, rfl, hO5.out, hX5.out, hb5.out, hA5.out⟩
theorem climb_any (s size i : Int) (leaf : Text) (hl : leaf.length = 32) (ds : List Text) (A : Option Addr) (n c : Nat) (hn : n < 4503599627370496) (w : World) (hBs : Base w) (hr : RdD w A n ds) :
    Calls Tryd.prog 22 #[.int .i64 s, .int .i64 size, .int .i64 i, .agg (cells8 leaf).toArray, .slice A n c] w fun e w' => ∃ v xs r gc, e = .returned (.tuple #[v, .int .i64 (inclOf s size i leaf [] ds).2.1]) ∧ w'.ownsRow 0 27 1 v (inclOf s size i leaf [] ds).2.2.length xs ∧ Txs (fun _ => False) w' gc r xs (inclOf s size i leaf [] ds).2.2 ∧ Below w.heap.size w w' :=
  (climb_own s size i leaf hl ds A n c hn w hBs hr).mono fun _ _ ⟨v, xs, r, gc, h1, h2, h3, h4, _⟩ => ⟨v, xs, r, gc, h1, h2, h3, h4⟩
end Go.Proofs.YtpgenpogjhpeoaaDoor.Climbs

namespace Go.Proofs.YtpgenpogjhpeoaaDoor.ThirdP
open Go Go.RowKit Go.Proofs.YtpgenpogjhpeoaaDoor Go.Proofs.YtpgenpogjhpeoaaDoor.Sha Go.Proofs.YtpgenpogjhpeoaaDoor.DigestMem Go.Proofs.YtpgenpogjhpeoaaDoor.Bytes Go.Proofs.YtpgenpogjhpeoaaDoor.TreeMath Go.Proofs.YtpgenpogjhpeoaaDoor.Sides Go.Proofs.YtpgenpogjhpeoaaDoor.TreeMem Go.Proofs.YtpgenpogjhpeoaaDoor.TreeRoot Go.Proofs.YtpgenpogjhpeoaaDoor.Subs Go.Proofs.YtpgenpogjhpeoaaDoor.RowsP Go.Proofs.YtpgenpogjhpeoaaDoor.Climb Go.Proofs.YtpgenpogjhpeoaaDoor.AheadM Go.Proofs.YtpgenpogjhpeoaaDoor.AheadT Go.Proofs.YtpgenpogjhpeoaaDoor.TwiceP

theorem same_text {s : Int} {T : List Text} (hT : ¬ TwiceP.Met s T) {a b : Text} (ha : a ∈ T) (hb : b ∈ T) (h : sumOf s a = sumOf s b) : a = b :=
  Classical.byContradiction fun hne => hT ⟨a, b, ha, hb, hne, h⟩
/-- From a leaf up to a sum, in a tree of a size; all that is summed is among T. -/
inductive Path (s : Int) (T : List Text) : Nat → Nat → Text → Text → Prop
  | stop {n i : Nat} {x : Text} : n ≤ 1 → Path s T n i x x
  | left {n i : Nat} {x c d : Text} : 2 ≤ n → i < half n → Path s T (half n) i x c → c.length = 32 → (kb 1 :: (c ++ d)) ∈ T → Path s T n i x (ndOf s c d)
  | right {n i : Nat} {x c d : Text} : 2 ≤ n → half n ≤ i → Path s T (n - half n) (i - half n) x c → d.length = 32 → (kb 1 :: (d ++ c)) ∈ T → Path s T n i x (ndOf s d c)
theorem path_inv {s : Int} {T : List Text} {n i : Nat} {x r : Text} (h : Path s T n i x r) : (n ≤ 1 ∧ x = r) ∨ (2 ≤ n ∧ i < half n ∧ ∃ c d, Path s T (half n) i x c ∧ c.length = 32 ∧ (kb 1 :: (c ++ d)) ∈ T ∧ r = ndOf s c d) ∨
    (2 ≤ n ∧ half n ≤ i ∧ ∃ c d, Path s T (n - half n) (i - half n) x c ∧ d.length = 32 ∧ (kb 1 :: (d ++ c)) ∈ T ∧ r = ndOf s d c) := by
  cases h with
  | stop h => exact .inl ⟨h, rfl⟩
  | left h1 h2 h3 h4 h5 => exact .inr (.inl ⟨h1, h2, _, _, h3, h4, h5, rfl⟩)
  | right h1 h2 h3 h4 h5 => exact .inr (.inr ⟨h1, h2, _, _, h3, h4, h5, rfl⟩)
theorem node_inj {s : Int} {T : List Text} (hT : ¬ TwiceP.Met s T) {a b c d : Text} (ha : a.length = 32) (hc : c.length = 32) (h1 : (kb 1 :: (a ++ b)) ∈ T) (h2 : (kb 1 :: (c ++ d)) ∈ T) (h : ndOf s a b = ndOf s c d) : a = c ∧ b = d :=
  pair_inj ha hc (same_text hT h1 h2 h)
theorem path_one {s : Int} {T : List Text} (hT : ¬ TwiceP.Met s T) {n i : Nat} {x r : Text} (h : Path s T n i x r) : ∀ y, Path s T n i y r → x = y := by
  induction h with
  | stop h1 =>
    intro y hy
    rcases path_inv hy with ⟨-, h⟩ | ⟨h2, -⟩ | ⟨h2, -⟩
    · exact h.symm
    · omega
    · omega
  | left h1 h2 h3 h4 h5 ih =>
    intro y hy
    rcases path_inv hy with ⟨h, -⟩ | ⟨-, -, c', d', p, l, m, e⟩ | ⟨-, h, -⟩
    · omega
    · obtain ⟨rfl, -⟩ := node_inj hT h4 l h5 m e
      exact ih y p
    · omega
  | right h1 h2 h3 h4 h5 ih =>
    intro y hy
    rcases path_inv hy with ⟨h, -⟩ | ⟨-, h, -⟩ | ⟨-, -, c', d', p, l, m, e⟩
    · omega
    · omega
    · obtain ⟨-, rfl⟩ := node_inj hT h4 l h5 m e
      exact ih y p
/-- The two roots that a proof leads to, from the last spot of the older size up. -/
inductive Ahd (s : Int) (T : List Text) (x : Text) : Nat → Nat → Text → Text → Prop
  | same {n : Nat} : Ahd s T x n n x x
  | left {m n : Nat} {f r d : Text} : m < n → m ≤ half n → Ahd s T x m (half n) f r → r.length = 32 → (kb 1 :: (r ++ d)) ∈ T → Ahd s T x m n f (ndOf s r d)
  | right {m n : Nat} {f r d : Text} : m < n → half n < m → Ahd s T x (m - half n) (n - half n) f r → d.length = 32 → (kb 1 :: (d ++ f)) ∈ T → (kb 1 :: (d ++ r)) ∈ T → Ahd s T x m n (ndOf s d f) (ndOf s d r)
theorem half_eq {m n : Nat} (h1 : half n < m) (h2 : m ≤ n) (h3 : 2 ≤ n) : half m = half n := by
  have hp := half_pos n
  have a1 := half_lt (n := m) (by omega)
  have a2 := half_ge m
  have b1 := half_lt (n := n) h3
  have b2 := half_ge n
  obtain ⟨a, ha⟩ : ∃ a, half m = 2 ^ a := ⟨_, half_log⟩
  obtain ⟨b, hb⟩ : ∃ b, half n = 2 ^ b := ⟨_, half_log⟩
  rw [ha, hb]
  have e1 : a < b + 1 := by
    rcases Nat.lt_or_ge a (b + 1) with h | h
    · exact h
    · have := Nat.pow_le_pow_right (show 0 < 2 by omega) h
      rw [Nat.pow_succ] at this
      omega
  have e2 : b < a + 1 := by
    rcases Nat.lt_or_ge b (a + 1) with h | h
    · exact h
    · have := Nat.pow_le_pow_right (show 0 < 2 by omega) h
      rw [Nat.pow_succ] at this
      omega
  rw [show a = b by omega]
theorem third {s : Int} {T : List Text} (hT : ¬ TwiceP.Met s T) {x : Text} {m n : Nat} {f r : Text} (h : Ahd s T x m n f r) : ∀ (i : Nat) (y z : Text), i < m → Path s T m i y f → Path s T n i z r → y = z := by
  induction h with
  | same => intro i y z _ p q; exact path_one hT p z q
  | left h1 h2 hA l1 mm ih =>
    intro i y z hi p q
    rcases path_inv q with ⟨h, -⟩ | ⟨-, -, c, d', q', l, m', e⟩ | ⟨-, h, -⟩
    · omega
    · obtain ⟨rfl, -⟩ := node_inj hT l1 l mm m' e
      exact ih i y z hi p q'
    · omega
  | @right m n f r d h1 h2 hA l1 m1 m2 ih =>
    intro i y z hi p q
    have hp := half_pos n
    have hk := half_eq h2 (Nat.le_of_lt h1) (by omega)
    rcases path_inv p with ⟨h, -⟩ | ⟨-, h3, c, d', p', l, m', e⟩ | ⟨-, h3, c, d', p', l, m', e⟩
    · omega
    · rcases path_inv q with ⟨h, -⟩ | ⟨-, -, c2, d2, q', l2, m2', e2⟩ | ⟨-, h, -⟩
      · omega
      · obtain ⟨rfl, -⟩ := node_inj hT l1 l m1 m' e
        obtain ⟨rfl, -⟩ := node_inj hT l1 l2 m2 m2' e2
        rw [hk] at p'
        exact path_one hT p' z q'
      · omega
    · rcases path_inv q with ⟨h, -⟩ | ⟨-, h, -⟩ | ⟨-, -, c2, d2, q', l2, m2', e2⟩
      · omega
      · omega
      · obtain ⟨-, rfl⟩ := node_inj hT l1 l m1 m' e
        obtain ⟨-, rfl⟩ := node_inj hT l1 l2 m2 m2' e2
        rw [hk] at p'
        exact ih (i - half n) y z (by omega) p' q'

/-! ### What climbs tell -/
theorem climb_snoc (s : Int) (st : Text × List Text) (L : List (Bool × Text)) (p : Bool × Text) : climbN s st (L ++ [p]) (L.length + 1) = climb1 s (climbN s st L L.length) p := by
  rw [climbN_succ (p := p) (by simp)]
  unfold climbN
  rw [List.take_append_of_le_length (Nat.le_refl _)]
theorem snoc_of {α : Type} {l : List α} {k : Nat} (h : l.length = k + 1) : ∃ l' a, l = l' ++ [a] ∧ l'.length = k := by
  have hne : l ≠ [] := fun e => by rw [e] at h; cases h
  exact ⟨l.dropLast, l.getLast hne, (List.dropLast_concat_getLast hne).symm, by rw [List.length_dropLast]; omega⟩
theorem climb_path (s : Int) (T : List Text) : ∀ (k n i : Nat) (x : Text) (ws : List Text), n ≤ k → i < n → x.length = 32 → Digs ws → (sides n i).length = ws.length → (∀ q ∈ (climbN s (x, []) ((sides n i).zip ws) ws.length).2, q ∈ T) → Path s T n i x (climbN s (x, []) ((sides n i).zip ws) ws.length).1
  | 0, n, i, x, ws, hk, hi, _, _, _, _ => by omega
  | k + 1, n, i, x, ws, hk, hi, hx, hd, hl, hT => by
    rcases Nat.lt_or_ge n 2 with h2 | h2
    · obtain rfl : n = 1 := by omega
      obtain rfl : i = 0 := by omega
      have e : sides 1 0 = [] := rfl
      rw [e] at hl
      have hw : ws = [] := List.length_eq_zero_iff.1 hl.symm
      subst hw
      rw [e]
      exact .stop (Nat.le_refl _)
    · have hlt := half_lt h2
      have hp := half_pos n
      rcases Nat.lt_or_ge i (half n) with h3 | h3
      · have e : sides n i = sides (half n) i ++ [true] := sides_left h2 h3
        rw [e, List.length_append] at hl
        obtain ⟨ws', d, rfl, hl'⟩ := snoc_of (k := (sides (half n) i).length) hl.symm
        have hz : (sides n i).zip (ws' ++ [d]) = (sides (half n) i).zip ws' ++ [(true, d)] := by rw [e, List.zip_append hl'.symm]; rfl
        have hzl : ((sides (half n) i).zip ws').length = ws'.length := by rw [List.length_zip]; omega
        have hd' : Digs ws' := fun q h => hd q (List.mem_append_left _ h)
        have hdl : d.length = 32 := hd d (by simp)
        rw [hz, List.length_append, ← hzl] at hT ⊢
        rw [show ([d] : List Text).length = 1 from rfl, climb_snoc, hzl] at hT ⊢
        have hcl := (climbN_len (s := s) (st := (x, [])) (l := (sides (half n) i).zip ws') hx ws'.length (by omega)).1
        have ih := climb_path s T k (half n) i x ws' (by omega) h3 hx hd' hl'.symm (fun q h => hT q (List.mem_append_left _ h))
        exact .left h2 h3 ih hcl (hT _ (List.mem_append_right _ (by simp)))
      · have e : sides n i = sides (n - half n) (i - half n) ++ [false] := sides_right h2 h3 hi
        rw [e, List.length_append] at hl
        obtain ⟨ws', d, rfl, hl'⟩ := snoc_of (k := (sides (n - half n) (i - half n)).length) hl.symm
        have hz : (sides n i).zip (ws' ++ [d]) = (sides (n - half n) (i - half n)).zip ws' ++ [(false, d)] := by rw [e, List.zip_append hl'.symm]; rfl
        have hzl : ((sides (n - half n) (i - half n)).zip ws').length = ws'.length := by rw [List.length_zip]; omega
        have hd' : Digs ws' := fun q h => hd q (List.mem_append_left _ h)
        have hdl : d.length = 32 := hd d (by simp)
        rw [hz, List.length_append, ← hzl] at hT ⊢
        rw [show ([d] : List Text).length = 1 from rfl, climb_snoc, hzl] at hT ⊢
        have ih := climb_path s T k (n - half n) (i - half n) x ws' (by omega) (by omega) hx hd' hl'.symm (fun q h => hT q (List.mem_append_left _ h))
        exact .right h2 h3 ih hdl (hT _ (List.mem_append_right _ (by simp)))
def aheadL (s : Int) (x : Text) (L : List (Bool × Text)) : Ah := L.foldl (ahead1 s) ⟨x, x, [], []⟩
theorem aheadL_snoc (s : Int) (x : Text) (L : List (Bool × Text)) (p : Bool × Text) : aheadL s x (L ++ [p]) = ahead1 s (aheadL s x L) p := by
  unfold aheadL
  rw [List.foldl_append]
  rfl
theorem ndOf32 (s : Int) (a b : Text) : (ndOf s a b).length = 32 := ndOf_len s a b
theorem aheadL_sr {s : Int} {x : Text} (hx : x.length = 32) : ∀ L : List (Bool × Text), (aheadL s x L).sr.length = 32 := fun L => by
  rcases List.eq_nil_or_concat L with rfl | ⟨L', p, rfl⟩
  · exact hx
  · rw [List.concat_eq_append, aheadL_snoc]
    unfold ahead1
    split <;> exact ndOf_len _ _ _
theorem ahead_ahd (s : Int) (T : List Text) (x : Text) (hx : x.length = 32) : ∀ (k m n : Nat) (es : List Text), n ≤ k → 1 ≤ m → m ≤ n → Digs es → (dirs m n).length = es.length → (∀ q ∈ (aheadL s x ((dirs m n).zip es)).ft, q ∈ T) → (∀ q ∈ (aheadL s x ((dirs m n).zip es)).st, q ∈ T) →
    Ahd s T x m n (aheadL s x ((dirs m n).zip es)).fr (aheadL s x ((dirs m n).zip es)).sr
  | 0, m, n, es, hk, h1, h2, _, _, _, _ => by omega
  | k + 1, m, n, es, hk, h1, h2, hd, hl, hF, hS => by
    rcases Nat.lt_or_ge m n with h3 | h3
    · have hlt := half_lt (n := n) (by omega)
      have hp := half_pos n
      rcases Nat.lt_or_ge (half n) m with h4 | h4
      · have e : dirs m n = dirs (m - half n) (n - half n) ++ [false] := dirs_right h3 h4
        rw [e, List.length_append] at hl
        obtain ⟨es', d, rfl, hl'⟩ := snoc_of (k := (dirs (m - half n) (n - half n)).length) hl.symm
        have hz : (dirs m n).zip (es' ++ [d]) = (dirs (m - half n) (n - half n)).zip es' ++ [(false, d)] := by rw [e, List.zip_append hl'.symm]; rfl
        have hd' : Digs es' := fun q h => hd q (List.mem_append_left _ h)
        have hdl : d.length = 32 := hd d (by simp)
        rw [hz, aheadL_snoc] at hF hS ⊢
        exact .right h3 h4 (ahead_ahd s T x hx k (m - half n) (n - half n) es' (by omega) (by omega) (by omega) hd' hl'.symm (fun q h => hF q (List.mem_append_left _ h)) (fun q h => hS q (List.mem_append_left _ h))) hdl (hF _ (List.mem_append_right _ (by simp))) (hS _ (List.mem_append_right _ (by simp)))
      · have e : dirs m n = dirs m (half n) ++ [true] := dirs_left h1 h3 h4
        rw [e, List.length_append] at hl
        obtain ⟨es', d, rfl, hl'⟩ := snoc_of (k := (dirs m (half n)).length) hl.symm
        have hz : (dirs m n).zip (es' ++ [d]) = (dirs m (half n)).zip es' ++ [(true, d)] := by rw [e, List.zip_append hl'.symm]; rfl
        have hd' : Digs es' := fun q h => hd q (List.mem_append_left _ h)
        have hsr := aheadL_sr (s := s) hx ((dirs m (half n)).zip es')
        rw [hz, aheadL_snoc] at hF hS ⊢
        exact .left h3 h4 (ahead_ahd s T x hx k m (half n) es' (by omega) h1 h4 hd' hl'.symm (fun q h => hF q h) (fun q h => hS q (List.mem_append_left _ h))) hsr (hS _ (List.mem_append_right _ (by simp)))
    · obtain rfl : m = n := by omega
      rw [dirs_same h1]
      exact .same
theorem drop_zip_ {α β : Type} : ∀ (k : Nat) (l : List α) (m : List β), (l.zip m).drop k = (l.drop k).zip (m.drop k)
  | 0, _, _ => rfl
  | _ + 1, [], _ => by simp
  | _ + 1, _ :: _, [] => by simp
  | k + 1, _ :: l, _ :: m => drop_zip_ k l m
theorem aheadOf_L {s : Int} {o z : Nat} {r : Text} {ds : List Text} (h1 : 1 ≤ o) (h2 : o < z) (hn : betw o z = ds.length) : (dirs o z).length = (ds.drop (lowOf o)).length ∧ aheadOf s o z r ds = aheadL s (if powB o then r else ds.getD 0 []) ((dirs o z).zip (ds.drop (lowOf o))) := by
  obtain ⟨hlow, hll, hdr⟩ := parts_low h1 h2
  have hpl := partsOf_len (Nat.le_of_lt h2)
  have hz : (((partsOf o z).map (bh o)).zip ds).length = ds.length := by rw [List.length_zip, List.length_map]; omega
  refine ⟨by rw [← hdr, List.length_drop, List.length_drop, List.length_map]; omega, ?_⟩
  unfold aheadOf aheadS aheadL
  rw [List.take_of_length_le (by omega), drop_zip_, hdr]
theorem third_met {s : Int} {o z : Nat} {i : Nat} {x y : Text} {ws xs ds : List Text} {r0 : Text} (h1 : 1 ≤ o) (h2 : o < z) (hi : i < o) (hx : x.length = 32) (hy : y.length = 32) (h0 : r0.length = 32) (hw : Digs ws) (hxs : Digs xs) (hd : Digs ds) (hn : betw o z = ds.length)
    (lw : (sides o i).length = ws.length) (lx : (sides z i).length = xs.length)
    (e0 : (climbN s (x, []) ((sides o i).zip ws) ws.length).1 = (aheadOf s o z r0 ds).fr) (e1 : (climbN s (y, []) ((sides z i).zip xs) xs.length).1 = (aheadOf s o z r0 ds).sr) (hne : x ≠ y) :
    TwiceP.Met s (((climbN s (x, []) ((sides o i).zip ws) ws.length).2 ++ (climbN s (y, []) ((sides z i).zip xs) xs.length).2) ++ ((aheadOf s o z r0 ds).ft ++ (aheadOf s o z r0 ds).st)) := by
  apply Classical.byContradiction
  intro hT
  obtain ⟨hl, hL⟩ := aheadOf_L (s := s) (r := r0) h1 h2 hn
  have hb : 1 ≤ ds.length → (ds.getD 0 []).length = 32 := fun h => by
    obtain ⟨d, hd0⟩ : ∃ d, ds[0]? = some d := ⟨_, List.getElem?_eq_getElem (by omega)⟩
    have := hd.at_ hd0
    simpa [List.getD, hd0] using this
  obtain ⟨hlow, -, -⟩ := parts_low h1 h2
  have hpl := partsOf_len (Nat.le_of_lt h2)
  have hx32 : (if powB o then r0 else ds.getD 0 []).length = 32 := by
    split
    · exact h0
    · exact hb (by omega)
  obtain ⟨T, hTe⟩ : ∃ T, ((climbN s (x, []) ((sides o i).zip ws) ws.length).2 ++ (climbN s (y, []) ((sides z i).zip xs) xs.length).2) ++ ((aheadOf s o z r0 ds).ft ++ (aheadOf s o z r0 ds).st) = T := ⟨_, rfl⟩
  rw [hTe] at hT
  have p1 := climb_path s T o o i x ws (Nat.le_refl _) hi hx hw lw (fun q h => by rw [← hTe]; exact List.mem_append_left _ (List.mem_append_left _ h))
  have p2 := climb_path s T z z i y xs (Nat.le_refl _) (by omega) hy hxs lx (fun q h => by rw [← hTe]; exact List.mem_append_left _ (List.mem_append_right _ h))
  have a := ahead_ahd s T _ hx32 z o z (ds.drop (lowOf o)) (Nat.le_refl _) h1 (Nat.le_of_lt h2) (fun q h => hd q (List.mem_of_mem_drop h)) hl
    (fun q h => by rw [← hL] at h; rw [← hTe]; exact List.mem_append_right _ (List.mem_append_left _ h)) (fun q h => by rw [← hL] at h; rw [← hTe]; exact List.mem_append_right _ (List.mem_append_right _ h))
  rw [← hL] at a
  rw [e0] at p1
  rw [e1] at p2
  exact hne (third hT a i x y hi p1 p2)
end Go.Proofs.YtpgenpogjhpeoaaDoor.ThirdP
