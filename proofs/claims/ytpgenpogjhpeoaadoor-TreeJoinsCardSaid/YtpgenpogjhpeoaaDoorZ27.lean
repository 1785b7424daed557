/-
  Texts of the claim, put into one file: Ahead, Agree.
-/
import Derived.Test.YtpgenpogjhpeoaaDoorZ25
import Derived.Test.YtpgenpogjhpeoaaDoorZ14

namespace Go.Proofs.YtpgenpogjhpeoaaDoor.Ahead
open Go Go.RowKit Go.Proofs.YtpgenpogjhpeoaaDoor Go.Proofs.YtpgenpogjhpeoaaDoor.Digest Go.Proofs.YtpgenpogjhpeoaaDoor.Mem Go.Proofs.YtpgenpogjhpeoaaDoor.Sha Go.Proofs.YtpgenpogjhpeoaaDoor.ShaWalk Go.Proofs.YtpgenpogjhpeoaaDoor.Bytes Go.Proofs.YtpgenpogjhpeoaaDoor.Append Go.Proofs.YtpgenpogjhpeoaaDoor.HashMem Go.Proofs.YtpgenpogjhpeoaaDoor.DigestMem Go.Proofs.YtpgenpogjhpeoaaDoor.DigestTop Go.Proofs.YtpgenpogjhpeoaaDoor.QuietTail Go.Proofs.YtpgenpogjhpeoaaDoor.Grown Go.Proofs.YtpgenpogjhpeoaaDoor.Chain Go.Proofs.YtpgenpogjhpeoaaDoor.TreeMath Go.Proofs.YtpgenpogjhpeoaaDoor.TreeMem Go.Proofs.YtpgenpogjhpeoaaDoor.TreeRoot Go.Proofs.YtpgenpogjhpeoaaDoor.Held Go.Proofs.YtpgenpogjhpeoaaDoor.Guard Go.Proofs.YtpgenpogjhpeoaaDoor.Book Go.Proofs.YtpgenpogjhpeoaaDoor.Node Go.Proofs.YtpgenpogjhpeoaaDoor.NodeW Go.Proofs.YtpgenpogjhpeoaaDoor.WayP Go.Proofs.YtpgenpogjhpeoaaDoor.RevP Go.Proofs.YtpgenpogjhpeoaaDoor.TreeRefRoot Go.Proofs.YtpgenpogjhpeoaaDoor.Climb Go.Proofs.YtpgenpogjhpeoaaDoor.Incl Go.Proofs.YtpgenpogjhpeoaaDoor.Subs Go.Proofs.YtpgenpogjhpeoaaDoor.RowsP Go.Proofs.YtpgenpogjhpeoaaDoor.Joint Go.Proofs.YtpgenpogjhpeoaaDoor.RefIncl0 Go.Proofs.YtpgenpogjhpeoaaDoor.AheadM Go.Proofs.YtpgenpogjhpeoaaDoor.AheadT

/-- What it leaves. -/
def AhPost (w : World) (Z : Ah) (e : Ending) (w' : World) : Prop := ∃ A c xs, e = .returned (.tuple #[.agg (cells8 Z.fr).toArray, .agg (cells8 Z.sr).toArray, .slice A (Z.ft.length + Z.st.length) c]) ∧ Reads w' 1 A (Z.ft.length + Z.st.length) xs ∧ Tx w' xs (Z.ft ++ Z.st) ∧ Below w.heap.size w w'
/-- .. and the texts are a row of its own. -/
def AhOwn (w : World) (Z : Ah) (e : Ending) (w' : World) : Prop := ∃ A c xs, e = .returned (.tuple #[.agg (cells8 Z.fr).toArray, .agg (cells8 Z.sr).toArray, .slice A (Z.ft.length + Z.st.length) c]) ∧ w'.ownsRow w.heap.size 27 1 (.slice A (Z.ft.length + Z.st.length) c) (Z.ft.length + Z.st.length) xs ∧ Tx w' xs (Z.ft ++ Z.st) ∧ Below w.heap.size w w'
theorem AhOwn.post {w : World} {Z : Ah} {e : Ending} {w' : World} (h : AhOwn w Z e w') : AhPost w Z e w' := by
  obtain ⟨A, c, xs, h1, h2, h3, h4⟩ := h
  obtain ⟨A9, c9, e9, -, -, -, hR9, -⟩ := Append.Own.reads h2
  injection e9 with e91 e92 e93
  subst e91
  exact ⟨A, c, xs, h1, hR9, h3, h4⟩
set_option maxRecDepth 100000 in
set_option maxHeartbeats 4000000 in
theorem ahead_own (s : Int) (old size : Nat) (h1 : 1 ≤ old) (h2 : old < size) (hs : size ≤ 1099511627776) (root : Text) (hrt : root.length = 32) (ds : List Text) (A : Option Addr) (n c : Nat) (hn : (partsOf old size).length = n) (w : World) (hB : Base w) (hr : RdD w A n ds) :
    Calls Tryd.prog 70 #[.int .i64 s, .int .i64 (old : Int), .int .i64 (size : Int), .agg (cells8 root).toArray, .slice A n c] w (AhOwn w (aheadOf s old size root ds)) := by
  obtain ⟨i0, ii, iz0, iz1, iz2⟩ := info_partsN infoT
  have hn41 : Hid (n ≤ 41) := by show _ ≤ _; rw [← hn, partsOf_len (by omega)]; exact betw_le (by omega) hs
  obtain ⟨hlow, -, -⟩ := parts_low h1 h2
  rw [hn] at hlow
  obtain ⟨low, hlo⟩ : ∃ low, lowOf old = low := ⟨_, rfl⟩
  rw [hlo] at hlow
  obtain ⟨P, hP⟩ : ∃ P, ((partsOf old size).map (bh old)).zip ds = P := ⟨_, rfl⟩
  obtain ⟨x0, hx0⟩ : ∃ x0, (if powB old then root else ds.getD 0 []) = x0 := ⟨_, rfl⟩
  have hZ : aheadOf s old size root ds = aheadS s x0 low P n := by unfold aheadOf; rw [hP, hlo, hx0, hr.1]
  rw [hZ]
  clear hZ
  have hPl : P.length = n := by rw [← hP, List.length_zip, List.length_map, hn, hr.1]; omega
  have hPd : ∀ p ∈ P, p.2.length = 32 := fun p hp => by rw [← hP] at hp; exact hr.2.1 _ (List.of_mem_zip (show (p.1, p.2) ∈ _ from hp)).2
  obtain ⟨d0, hd0⟩ : ∃ d0, ds[0]? = some d0 := ⟨_, List.getElem?_eq_getElem (by have := hr.1; omega)⟩
  have hx0l : x0.length = 32 := by
    rw [← hx0]
    split
    · exact hrt
    · have := hr.2.1.at_ hd0
      simpa [List.getD, hd0] using this
  have hok : Hid (∀ j, low ≤ j → j ≤ n → (aheadS s x0 low P j).Ok (j - low)) := fun j h1 h2 => by
    have := aheadS_ok (s := s) (low := low) hx0l hPd (j - low) (by omega)
    rwa [show low + (j - low) = j by omega] at this
  have hPj : Hid (∀ j p d, (partsOf old size)[j]? = some p → ds[j]? = some d → P[j]? = some (bh old p, d)) := fun j p d h1 h2 => by
    rw [← hP]
    exact List.getElem?_zip_eq_some.2 ⟨by rw [List.getElem?_map, h1]; rfl, h2⟩
  obtain ⟨ps, hps⟩ : ∃ ps, partsOf old size = ps := ⟨_, rfl⟩
  have hPt := Lib.hid (fun w' => parts_any old size (by omega) hs w')
  rw [hps] at hPt hPj hn
  have hpw := and_pred h1
  have hai := and_i64 old h1 (by omega)
  have hb0 : Hid (Below w.heap.size w (((w.alloc (.cells (cells8 root).toArray 23)).alloc (.cells Z32 23)).alloc (.cells Z32 23))) := ((Below.heap_below w _).alloc (by simp) _).alloc (by simp; omega) _
  have hz0 : Hid ((((w.alloc (.cells (cells8 root).toArray 23)).alloc (.cells Z32 23)).alloc (.cells Z32 23)).heap.size = w.heap.size + 3) := by show _ = _; simp
  have hz2 : ((w.alloc (.cells (cells8 root).toArray 23)).alloc (.cells Z32 23)).heap.size = w.heap.size + 2 := by simp
  have hz1 : (w.alloc (.cells (cells8 root).toArray 23)).heap.size = w.heap.size + 1 := by simp
  have hR0 : Hid (Blk (((w.alloc (.cells (cells8 root).toArray 23)).alloc (.cells Z32 23)).alloc (.cells Z32 23)) w.heap.size 23 (cells8 root).toArray) := ((Blk.new w _ _).alloc _).alloc _
  have hA0 : Hid (Blk (((w.alloc (.cells (cells8 root).toArray 23)).alloc (.cells Z32 23)).alloc (.cells Z32 23)) (w.heap.size + 1) 23 Z32) := by
    have := (Blk.new (w.alloc (.cells (cells8 root).toArray 23)) 23 Z32).alloc (.cells Z32 23)
    rwa [hz1] at this
  have hE0 : Hid (Blk (((w.alloc (.cells (cells8 root).toArray 23)).alloc (.cells Z32 23)).alloc (.cells Z32 23)) (w.heap.size + 2) 23 Z32) := by
    have := Blk.new ((w.alloc (.cells (cells8 root).toArray 23)).alloc (.cells Z32 23)) 23 Z32
    rwa [hz2] at this
  have Fr := Lib.hid (fit (x := root) hrt)
  have Fx := Lib.hid (fit (x := x0) hx0l)
  have hBs := Lib.hid (fun w' (hb : Below w.heap.size w w') => hB.below hb hB.1)
  have hgb : Hid (0 < w.heap.size) := hB.1
  have hlw := Lib.hid hlo
  have hx0h := Lib.hid hx0
  have hd0h := Lib.hid hd0
  replace hr := Lib.hid hr
  replace hn := Lib.hid hn
  replace hlow := Lib.hid hlow
  have hob : Hid (1 ≤ old ∧ old ≤ 1099511627776) := by show _ ∧ _; omega
  have hx0lh := Lib.hid hx0l
  clear hs hrt hB hx0 hx0l hd0 hlo hz1 hz2 hP hPl hPd hps h1 h2
  go_enter Tryd.func70, Tryd.ntmps70
  go_wp2_with fail
  change Calls _ _ _ (((w.alloc (.cells (cells8 root).toArray 23)).alloc (.cells Z32 23)).alloc (.cells Z32 23)) _
  generalize (((w.alloc (.cells (cells8 root).toArray 23)).alloc (.cells Z32 23)).alloc (.cells Z32 23)) = w0 at *
  refine (hPt.out _).mono ?_
  rintro e w3 ⟨v, rfl, hO, hk1⟩
  rw [hn.out] at hO
  obtain ⟨Ap, cp, rfl, -, -, -, hPr, hApB⟩ := Append.Own.reads hO
  have hb3 : Hid (Below w.heap.size w w3) := hb0.out.trans (hk1.mono hb0.out.size)
  have hR3 : Hid (Blk w3 w.heap.size 23 (cells8 root).toArray) := (hk1.block _ hR0.out.lt).trans hR0.out
  have hA3 : Hid (Blk w3 (w.heap.size + 1) 23 Z32) := (hk1.block _ hA0.out.lt).trans hA0.out
  have hE3 : Hid (Blk w3 (w.heap.size + 2) 23 Z32) := (hk1.block _ hE0.out.lt).trans hE0.out
  have hs3 : Hid (w.heap.size + 3 ≤ w3.heap.size) := by have := hk1.size; have := hz0.out; show _ ≤ _; omega
  replace hPr := Lib.hid hPr
  clear hO hk1 hb0 hR0 hA0 hE0 hz0 hPt hApB
  go_wp2_with fail
  obtain ⟨w4, hw4⟩ : ∃ w4, Hid (w4 = (w3.alloc (.cells #[.int .i64 s, .slice none 0 0] 109)).alloc (.cells #[.int .i64 s, .slice none 0 0] 109)) := ⟨_, rfl⟩
  have hb4 : Hid (Below w3.heap.size w3 w4) := by show Below _ _ _; rw [hw4.out]; exact (Below.heap_below w3 _).alloc (by simp) _
  have hW4 : Hid (Blk w4 w3.heap.size 109 #[.int .i64 s, .slice none 0 0]) := by show Blk _ _ _ _; rw [hw4.out]; exact heap_alloc2_old w3 _ _
  have hI4 : Hid (Blk w4 (w3.heap.size + 1) 109 #[.int .i64 s, .slice none 0 0]) := by show Blk _ _ _ _; rw [hw4.out]; exact heap_alloc2_new w3 _ _
  have hs4 : Hid (w4.heap.size = w3.heap.size + 2) := by show _ = _; rw [hw4.out]; simp
  have hR4 : Hid (Blk w4 w.heap.size 23 (cells8 root).toArray) := (hb4.out.block _ hR3.out.lt).trans hR3.out
  change (Code.region _ _ _).wp _ _ _ ((w3.alloc (.cells #[.int .i64 s, .slice none 0 0] 109)).alloc (.cells #[.int .i64 s, .slice none 0 0] 109))
  rw [← hw4.out]
  clear hw4 hR3
  go_cut [16, 17, 18] from 29 to 30 (fun v u z wr => ∃ m16 m17 : Nat, v = .pointer (some ⟨m16, 0, none⟩) ∧ u = .pointer (some ⟨m17, 0, none⟩) ∧ z = .int .i64 0 ∧ Hid (m16 ≠ m17) ∧ Hid (w4.heap.size ≤ m16) ∧ Hid (w4.heap.size ≤ m17) ∧ Hid (Blk wr m16 23 (cells8 root).toArray) ∧ Hid (Blk wr m17 23 (cells8 root).toArray) ∧ Hid (Below w4.heap.size w4 wr))
  case first =>
    have s0 : Hid (Below w4.heap.size w4 w4.drew) := (Below.refl _ _).drew
    refine held_start (fun w' => Below w4.heap.size w4 w') 7 rfl (by kernel_rfl) ?_
    refine held_take (i := 0) (v := .agg ((cells8 root).toArray)) rfl (by kernel_rfl) (by kernel_rfl) (by kernel_rfl) (fun _ _ _ h => h) s0.out (by rfl) (fun w' hw' => exec_row 23 (.tmp 8) rfl (w.heap.size) rfl 23 ((cells8 root).toArray) (0, 0) _ ((hw'.block _ hR4.out.lt).trans hR4.out) Tryd.underlying23 rfl Fr.out.size) ?_
    (intro K hK; go_simp; refine hK _ ?_; clear hK K)
    refine held_take (i := 1) (v := .agg ((cells8 root).toArray)) rfl (by kernel_rfl) (by kernel_rfl) (by kernel_rfl) (fun _ _ _ h => h) s0.out (by rfl) (fun w' hw' => exec_row 23 (.tmp 8) rfl (w.heap.size) rfl 23 ((cells8 root).toArray) (0, 0) _ ((hw'.block _ hR4.out.lt).trans hR4.out) Tryd.underlying23 rfl Fr.out.size) ?_
    (intro K hK; go_simp; refine hK _ ?_; clear hK K)
    refine held_two (i := 2) (j := 3) rfl rfl (by kernel_rfl) (by rfl) (by rfl) (fun K hK => ?_) (fun K hK => ?_)
    · have h5 : Hid (Below w4.heap.size w4 (w4.drew.alloc (.cells Z32 23))) := s0.out.alloc s0.out.size _
      have bA : Hid (Blk (w4.drew.alloc (.cells Z32 23)) w4.drew.heap.size 23 Z32) := Blk.new _ _ _
      go_simp
      refine hK _ _ h5.out ?_
      clear hK K
      refine held_only (i := 3) rfl (by kernel_rfl) (by rfl) (fun K hK => ?_)
      have h6 : Hid (Below w4.heap.size w4 ((w4.drew.alloc (.cells Z32 23)).alloc (.cells Z32 23))) := h5.out.alloc h5.out.size _
      have bB : Hid (Blk ((w4.drew.alloc (.cells Z32 23)).alloc (.cells Z32 23)) (w4.drew.alloc (.cells Z32 23)).heap.size 23 Z32) := Blk.new _ _ _
      go_simp
      refine hK _ _ h6.out ?_
      clear hK K
      have hzA : Hid ((w4.drew.alloc (.cells Z32 23)).heap.size = w4.heap.size + 1) := by show _ = _; simp
      replace bA : Hid (Blk ((w4.drew.alloc (.cells Z32 23)).alloc (.cells Z32 23)) w4.heap.size 23 Z32) := bA.out.alloc _
      replace bB : Hid (Blk ((w4.drew.alloc (.cells Z32 23)).alloc (.cells Z32 23)) (w4.heap.size + 1) 23 Z32) := by have := bB.out; rw [hzA.out] at this; exact this
      refine held_only (i := 4) rfl (by kernel_rfl) (by rfl) (fun K hK => ?_)
      refine wp_store_whole 23 (.tmp 16) (.tmp 29) rfl (w4.heap.size) ((cells8 root).toArray) rfl rfl 23 Z32 bA.out Fr.out.size Fr.out.zero Fr.out.one ?_
      intro w7 q7 k7
      have h7 : Hid (Below w4.heap.size w4 w7) := h6.out.trans (Kept.below_of k7 (by omega) h6.out.size)
      have o7 : Hid (Blk w7 (w4.heap.size + 1) 23 Z32) := bB.out.kept k7 (by omega)
      go_simp
      refine hK _ _ h7.out ?_
      clear hK K
      refine held_only (i := 5) rfl (by kernel_rfl) (by rfl) (fun K hK => ?_)
      refine wp_store_whole 23 (.tmp 17) (.tmp 30) rfl (w4.heap.size + 1) ((cells8 root).toArray) rfl rfl 23 Z32 o7.out Fr.out.size Fr.out.zero Fr.out.one ?_
      intro w8 q8 k8
      have h8 : Hid (Below w4.heap.size w4 w8) := h7.out.trans (Kept.below_of k8 (by omega) h7.out.size)
      have o8 : Hid (Blk w8 (w4.heap.size) 23 (cells8 root).toArray) := q7.kept k8 (by omega)
      go_simp
      refine hK _ _ h8.out ?_
      clear hK K
      refine held_take (i := 6) (v := .int .i64 0) rfl (by kernel_rfl) (by kernel_rfl) (by kernel_rfl) (fun _ _ _ h => h) h8.out (by rfl) (fun w' hw' => by first | go_simp | rfl) ?_
      (intro K hK; go_simp; refine hK _ ?_; clear hK K)
      refine held_end (by kernel_rfl) ?_
      go_wp2_with fail
      go_meet
      case rel => exact ⟨w4.heap.size, w4.heap.size + 1, rfl, rfl, rfl, (by show _ ≠ _; omega), (by show _ ≤ _; omega), (by show _ ≤ _; omega), o8.out, q8, h8.out⟩
    · have h5 : Hid (Below w4.heap.size w4 (w4.drew.alloc (.cells Z32 23))) := s0.out.alloc s0.out.size _
      have bA : Hid (Blk (w4.drew.alloc (.cells Z32 23)) w4.drew.heap.size 23 Z32) := Blk.new _ _ _
      go_simp
      refine hK _ _ h5.out ?_
      clear hK K
      refine held_only (i := 2) rfl (by kernel_rfl) (by rfl) (fun K hK => ?_)
      have h6 : Hid (Below w4.heap.size w4 ((w4.drew.alloc (.cells Z32 23)).alloc (.cells Z32 23))) := h5.out.alloc h5.out.size _
      have bB : Hid (Blk ((w4.drew.alloc (.cells Z32 23)).alloc (.cells Z32 23)) (w4.drew.alloc (.cells Z32 23)).heap.size 23 Z32) := Blk.new _ _ _
      go_simp
      refine hK _ _ h6.out ?_
      clear hK K
      have hzA : Hid ((w4.drew.alloc (.cells Z32 23)).heap.size = w4.heap.size + 1) := by show _ = _; simp
      replace bA : Hid (Blk ((w4.drew.alloc (.cells Z32 23)).alloc (.cells Z32 23)) w4.heap.size 23 Z32) := bA.out.alloc _
      replace bB : Hid (Blk ((w4.drew.alloc (.cells Z32 23)).alloc (.cells Z32 23)) (w4.heap.size + 1) 23 Z32) := by have := bB.out; rw [hzA.out] at this; exact this
      refine held_only (i := 4) rfl (by kernel_rfl) (by rfl) (fun K hK => ?_)
      refine wp_store_whole 23 (.tmp 16) (.tmp 29) rfl (w4.heap.size + 1) ((cells8 root).toArray) rfl rfl 23 Z32 bB.out Fr.out.size Fr.out.zero Fr.out.one ?_
      intro w7 q7 k7
      have h7 : Hid (Below w4.heap.size w4 w7) := h6.out.trans (Kept.below_of k7 (by omega) h6.out.size)
      have o7 : Hid (Blk w7 (w4.heap.size) 23 Z32) := bA.out.kept k7 (by omega)
      go_simp
      refine hK _ _ h7.out ?_
      clear hK K
      refine held_only (i := 5) rfl (by kernel_rfl) (by rfl) (fun K hK => ?_)
      refine wp_store_whole 23 (.tmp 17) (.tmp 30) rfl (w4.heap.size) ((cells8 root).toArray) rfl rfl 23 Z32 o7.out Fr.out.size Fr.out.zero Fr.out.one ?_
      intro w8 q8 k8
      have h8 : Hid (Below w4.heap.size w4 w8) := h7.out.trans (Kept.below_of k8 (by omega) h7.out.size)
      have o8 : Hid (Blk w8 (w4.heap.size + 1) 23 (cells8 root).toArray) := q7.kept k8 (by omega)
      go_simp
      refine hK _ _ h8.out ?_
      clear hK K
      refine held_take (i := 6) (v := .int .i64 0) rfl (by kernel_rfl) (by kernel_rfl) (by kernel_rfl) (fun _ _ _ h => h) h8.out (by rfl) (fun w' hw' => by first | go_simp | rfl) ?_
      (intro K hK; go_simp; refine hK _ ?_; clear hK K)
      refine held_end (by kernel_rfl) ?_
      go_wp2_with fail
      go_meet
      case rel => exact ⟨w4.heap.size + 1, w4.heap.size, rfl, rfl, rfl, (by show _ ≠ _; omega), (by show _ ≤ _; omega), (by show _ ≤ _; omega), o8.out, q8, h8.out⟩
  case rest =>
    obtain ⟨m16, m17, rfl, rfl, rfl, hne, hl16, hl17, hM16, hM17, hk5⟩ := hcut
    obtain ⟨w5, rfl⟩ : ∃ w5 : World, w5 = wc := ⟨_, rfl⟩
    have b1 : (0 : Int) ≤ (old : Int) := by omega
    have b2 : (old : Int) ≤ 1099511627776 := by have := hob.out; omega
    have b3 : (1 : Int) ≤ (old : Int) := by have := hob.out; omega
    obtain ⟨an, han⟩ : ∃ an, old &&& (old - 1) = an := ⟨_, rfl⟩
    rw [han] at hai hpw
    replace hpw := Lib.hid hpw
    clear han
    go_upto_if 35 with fail
    clear b1 b2 b3
    try clear hai
    go_cut [18] from 31 to 41 (fun v wr => v = .int .i64 (low : Int) ∧ Hid (Blk wr m16 23 (cells8 x0).toArray) ∧ Hid (Blk wr m17 23 (cells8 x0).toArray) ∧ Hid (Kept (fun k => k = m16 ∨ k = m17) w5 wr))
    case first =>
      by_cases hp : powB old = true
      · have hand := hpw.2 hp
        have hl0 : low = 0 := by rw [← hlw.out]; unfold lowOf; rw [if_pos hp]
        have hxr : root = x0 := by rw [← hx0h.out, if_pos hp]
        subst hl0 hxr
        clear hp hpw
        go_wp2_with fail
        go_meet
        case rel => exact ⟨rfl, hM16.out, hM17.out, Kept.refl _ _⟩
      · have hand : ¬ an = 0 := fun e => hp (hpw.out.1 e)
        have ha1 : ((an : Int) == 0) = false := beq_eq_false_iff_ne.2 (by omega)
        have hl0 : low = 1 := by rw [← hlw.out]; unfold lowOf; rw [if_neg hp]
        have hxd : d0 = x0 := by
          have h := hx0h.out
          rw [if_neg hp] at h
          rw [← h]
          simp [List.getD, hd0h.out]
        subst hl0 hxd
        have hn1 : (0 : Int) < (n : Int) := by have := hlow.out; omega
        obtain ⟨b, o, rfl, hbb, hdc0⟩ := hr.out.at_ hd0h.out
        have hbw5 : Hid (Below w.heap.size w w5) := (hb3.out.trans (hb4.out.mono hb3.out.size)).trans (hk5.out.mono (by have := hb3.out.size; have := hb4.out.size; omega))
        have hdc : Hid (∀ w', Below w5.heap.size w5 w' → ∀ k v, (cells8 d0)[k]? = some v → w'.cell? ⟨b, o + k, none⟩ = some v) := fun w' hb k v hv => by
          have := ((hbw5.out.trans (hb.mono hbw5.out.size)).cell (p := ⟨b, o + 0 * 32 + k, none⟩) hbb).trans (hdc0 k v hv)
          simpa using this
        have hbbh := Lib.hid hbb
        have hn0 : ¬ n = 0 := by omega
        clear hp hpw hdc0 hbb
        go_wp2_with fail
        have hbq : Hid (b < w.heap.size) := hbbh.out
        have hdk : Hid (∀ w', Kept (fun k => k = m16 ∨ k = m17) w5 w' → ∀ k v, (cells8 d0)[k]? = some v → w'.cell? ⟨b, o + k, none⟩ = some v) := fun w' hk k v hv => (hk.cell (p := ⟨b, o + k, none⟩) (by have := hbq.out; have := hbw5.out.size; show b < _; omega) (fun h => by have := hbq.out; have := hl16.out; have := hl17.out; have := hb3.out.size; have := hb4.out.size; rcases h with h | h <;> (have h : b = _ := h; omega))).trans (hdc.out w5 (Below.refl _ _) k v hv)
        have s0 : Hid (Kept (fun k => k = m16 ∨ k = m17) w5 w5.drew) := (Kept.refl _ _).drew
        refine held_start (fun w' => Kept (fun k => k = m16 ∨ k = m17) w5 w') 9 rfl (by kernel_rfl) ?_
        refine held_take (i := 0) (v := .slice (some ⟨b, o, none⟩) n c) rfl (by kernel_rfl) (by kernel_rfl) (by kernel_rfl) (fun _ _ _ h => h) s0.out (by rfl) (fun w' hw' => run_mv (.tmp 4) rfl w') ?_
        (intro K hK; go_simp; refine hK _ ?_; clear hK K)
        refine held_take (i := 1) (v := .pointer (some ⟨b, o, none⟩)) rfl (by kernel_rfl) (by kernel_rfl) (by kernel_rfl) (fun _ _ _ h => h) s0.out (by rfl) (fun w' hw' => by go_simp) ?_
        (intro K hK; go_simp; refine hK _ ?_; clear hK K)
        refine held_take (i := 2) (v := .agg (cells8 d0).toArray) rfl (by kernel_rfl) (by kernel_rfl) (by kernel_rfl) (fun _ _ _ h => h) s0.out (by rfl) (fun w' hw' => exec_part 23 (.tmp 37) rfl (b) (o) rfl (cells8 d0) _ (hdk.out w' hw') Tryd.underlying23 rfl Fx.out.part) ?_
        (intro K hK; go_simp; refine hK _ ?_; clear hK K)
        refine held_take (i := 3) (v := .slice (some ⟨b, o, none⟩) n c) rfl (by kernel_rfl) (by kernel_rfl) (by kernel_rfl) (fun _ _ _ h => h) s0.out (by rfl) (fun w' hw' => run_mv (.tmp 4) rfl w') ?_
        (intro K hK; go_simp; refine hK _ ?_; clear hK K)
        refine held_take (i := 4) (v := .pointer (some ⟨b, o, none⟩)) rfl (by kernel_rfl) (by kernel_rfl) (by kernel_rfl) (fun _ _ _ h => h) s0.out (by rfl) (fun w' hw' => by go_simp) ?_
        (intro K hK; go_simp; refine hK _ ?_; clear hK K)
        refine held_take (i := 5) (v := .agg (cells8 d0).toArray) rfl (by kernel_rfl) (by kernel_rfl) (by kernel_rfl) (fun _ _ _ h => h) s0.out (by rfl) (fun w' hw' => exec_part 23 (.tmp 40) rfl (b) (o) rfl (cells8 d0) _ (hdk.out w' hw') Tryd.underlying23 rfl Fx.out.part) ?_
        (intro K hK; go_simp; refine hK _ ?_; clear hK K)
        refine held_only (i := 6) rfl (by kernel_rfl) (by rfl) (fun K hK => ?_)
        refine wp_store_whole 23 (.tmp 16) (.tmp 38) rfl (m16) ((cells8 d0).toArray) rfl rfl 23 (cells8 root).toArray hM16.out Fx.out.size (Fx.out.same root (by have := Fr.out.part; rw [← cells8_len]; have h2 := size31; rw [h2] at this; simpa using this.symm)) Fx.out.one ?_
        intro w7 q7 k7
        have h7 : Hid (Kept (fun k => k = m16 ∨ k = m17) w5 w7) := s0.out.trans k7 (fun i _ h => .inl h)
        have o7 : Hid (Blk w7 m17 23 (cells8 root).toArray) := Blk.kept (w := w5.drew) hM17.out k7 (fun h => hne.out (Eq.symm h))
        go_simp
        refine hK _ _ h7.out ?_
        clear hK K
        refine held_only (i := 7) rfl (by kernel_rfl) (by rfl) (fun K hK => ?_)
        refine wp_store_whole 23 (.tmp 17) (.tmp 41) rfl (m17) ((cells8 d0).toArray) rfl rfl 23 (cells8 root).toArray o7.out Fx.out.size (Fx.out.same root (by have := Fr.out.part; rw [← cells8_len]; have h2 := size31; rw [h2] at this; simpa using this.symm)) Fx.out.one ?_
        intro w8 q8 k8
        have h8 : Hid (Kept (fun k => k = m16 ∨ k = m17) w5 w8) := h7.out.trans k8 (fun i _ h => .inr h)
        have o8 : Hid (Blk w8 m16 23 (cells8 d0).toArray) := q7.kept k8 (fun h => hne.out h)
        go_simp
        refine hK _ _ h8.out ?_
        clear hK K
        refine held_take (i := 8) (v := .int .i64 1) rfl (by kernel_rfl) (by kernel_rfl) (by kernel_rfl) (fun _ _ _ h => h) h8.out (by rfl) (fun w' hw' => by first | go_simp | rfl) ?_
        (intro K hK; go_simp; refine hK _ ?_; clear hK K)
        refine held_end (by kernel_rfl) ?_
        go_wp2_with fail
        go_meet
        case rel => exact ⟨rfl, o8.out, q8, h8.out⟩
    case rest =>
      obtain ⟨rfl, hX16, hX17, hk6⟩ := hcut
      clear hpw hM16 hM17 hd0h hx0h hR4
      have hb6 : Hid (Below w3.heap.size w3 wc) := Kept.toBelow (hb4.out.trans (hk5.out.mono hb4.out.size)) hk6.out (fun k h => by have := hl16.out; have := hl17.out; have := hs4.out; rcases h with h | h <;> omega) (by have := hb4.out.size; have := hk5.out.size; omega)
      have hW6 : Hid (Blk wc w3.heap.size 109 #[.int .i64 s, .slice none 0 0]) := Blk.kept (w := w5) (show Blk w5 _ _ _ from (hk5.out.block _ hW4.out.lt).trans hW4.out) hk6.out (fun h => by have := hl16.out; have := hl17.out; have := hs4.out; rcases h with h | h <;> omega)
      have hI6 : Hid (Blk wc (w3.heap.size + 1) 109 #[.int .i64 s, .slice none 0 0]) := Blk.kept (w := w5) (show Blk w5 _ _ _ from (hk5.out.block _ hI4.out.lt).trans hI4.out) hk6.out (fun h => by have := hl16.out; have := hl17.out; have := hs4.out; rcases h with h | h <;> omega)
      have hlt : Hid (w3.heap.size < wc.heap.size ∧ w3.heap.size + 1 < wc.heap.size ∧ m16 < wc.heap.size ∧ m17 < wc.heap.size) := ⟨hW6.out.lt, hI6.out.lt, hX16.out.lt, hX17.out.lt⟩
      have hA0 : Hid (AhAt wc wc w3.heap.size (w3.heap.size + 1) none none m16 m17 s (aheadS s x0 low P low).fr (aheadS s x0 low P low).sr (aheadS s x0 low P low).ft (aheadS s x0 low P low).st) := by
        show AhAt _ _ _ _ _ _ _ _ _ _ _ _ _
        rw [aheadS_low]
        have e1 : ClAt wc w3.heap.size none s [] := ⟨_, [], hW6.out, World.ownsRow_nil _ _ _ _, rfl, (fun k e => by cases e), fun i q h => by simp at h⟩
        have e2 : ClAt wc (w3.heap.size + 1) none s [] := ⟨_, [], hI6.out, World.ownsRow_nil _ _ _ _, rfl, (fun k e => by cases e), fun i q h => by simp at h⟩
        exact ⟨hX16.out, hX17.out, e1, e2, (fun k e => by cases e), (fun k e => by cases e), (fun k e => by cases e), fun _ => rfl, fun _ => rfl, Kept.refl _ _⟩
      have hdis : Hid (w3.heap.size ≠ m16 ∧ w3.heap.size ≠ m17 ∧ w3.heap.size + 1 ≠ m16 ∧ w3.heap.size + 1 ≠ m17 ∧ m16 ≠ m17 ∧ w3.heap.size ≤ m16 ∧ w3.heap.size ≤ m17) := by have := hl16.out; have := hl17.out; have := hs4.out; have := hne.out; show _ ∧ _; omega
      obtain ⟨w6, rfl⟩ : ∃ w6 : World, w6 = wc := ⟨_, rfl⟩
      clear hW4 hI4 hW6 hI6 hX16 hX17 hk5 hk6 hl16 hl17 hne hs4 hb4
      go_wp2_with fail
      go_loopw [19] (fun v wr => ∃ (j : Nat) (r1 r2 : Option Nat), v = .int .i64 (j : Int) ∧ Hid (low ≤ j ∧ j ≤ n) ∧ Hid (AhAt w6 wr w3.heap.size (w3.heap.size + 1) r1 r2 m16 m17 s (aheadS s x0 low P j).fr (aheadS s x0 low P j).sr (aheadS s x0 low P j).ft (aheadS s x0 low P j).st)) (fun v _ => (n - intOf v).toNat)
      case atStart => exact ⟨low, none, none, rfl, ⟨Nat.le_refl _, by have := hlow.out; omega⟩, hA0.out⟩
      case round =>
        clear hA0
        obtain ⟨j, r1, r2, rfl, hj, hI⟩ := hrel
        have hbw : Hid (Below w3.heap.size w3 wr) := Kept.toBelow hb6.out hI.out.kept (fun k h => by have := hdis.out; rcases h with h | h | h | h <;> omega) hb6.out.size
        have hbW : Hid (Below w.heap.size w wr) := hb3.out.trans (hbw.out.mono hb3.out.size)
        have hZok := Lib.hid (hok.out j hj.out.1 hj.out.2)
        by_cases hlt2 : j < n
        · obtain ⟨p, hp⟩ : ∃ p, ps[j]? = some p := ⟨_, List.getElem?_eq_getElem (by rw [hn.out]; exact hlt2)⟩
          obtain ⟨d, hd⟩ : ∃ d, ds[j]? = some d := ⟨_, List.getElem?_eq_getElem (by rw [hr.out.1]; exact hlt2)⟩
          have hst := Lib.hid (aheadS_succ (s := s) (x := x0) hj.out.1 (hPj.out j p d hp hd))
          have hZok2 := Lib.hid (hok.out (j + 1) (by have := hj.out.1; omega) hlt2)
          have hdl := Lib.hid (hr.out.2.1.at_ hd)
          have Fd := Lib.hid (fit (x := d) hdl.out)
          obtain ⟨Z, hZe⟩ : ∃ Z, Hid (aheadS s x0 low P j = Z) := ⟨_, Lib.hid rfl⟩
          obtain ⟨Y, hYe⟩ : ∃ Y, Hid (aheadS s x0 low P (j + 1) = Y) := ⟨_, Lib.hid rfl⟩
          rw [hZe.out] at hI hst hZok
          rw [hYe.out] at hst hZok2
          obtain ⟨bp, op, rfl, hbp, hpc0⟩ := hPr.out.at_ (by omega)
          have hpc : wr.cell? ⟨bp, op + j * 2, none⟩ = some (.int .i64 (p.1 : Int)) := by
            have h1 := flatP_at ps [] j p hp 0 (.int .i64 (p.1 : Int)) rfl
            rw [List.append_nil, List.getElem?_toArray] at h1
            have h2 := hpc0 _ _ h1
            rw [Nat.add_zero] at h2
            exact (hbw.out.cell (p := ⟨bp, op + j * 2, none⟩) hbp).trans h2
          obtain ⟨b, o, rfl, hbb, hdc0⟩ := hr.out.at_ hd
          have hdc : Hid (∀ w', Below w.heap.size w w' → ∀ k v, (cells8 d)[k]? = some v → w'.cell? ⟨b, o + j * 32 + k, none⟩ = some v) := fun w' hb k v hv => (hb.cell (p := ⟨b, o + j * 32 + k, none⟩) hbb).trans (hdc0 k v hv)
          have hjn : Hid (j + 1 ≤ n) := hlt2
          have z1 : (0 : Int) ≤ (j : Int) := by omega
          have z2 : (j : Int) < (n : Int) := by omega
          have z3 : (n : Int) ≤ 41 := by have := hn41.out; omega
          have Fa := Lib.hid (fit (x := Z.fr) hZok.out.fl)
          have Fb := Lib.hid (fit (x := Z.sr) hZok.out.sl)
          clear hlt2 hp hd hpc0 hdc0 hbb hbp
          by_cases hside : old ≤ p.1
          · have hY : Hid (Y = ⟨Z.fr, ndOf s Z.sr d, Z.ft, Z.st ++ [kb 1 :: (Z.sr ++ d)]⟩) := by show _ = _; rw [hst.out, ahead1, if_pos (by simp [bh, hside])]
            obtain ⟨zb, hzb⟩ : ∃ z, Hid (ndOf s Z.sr d = z) := ⟨_, Lib.hid rfl⟩
            have Fzb := Lib.hid (fit (x := zb) (by rw [← hzb.out]; exact ndOf_len s _ _))
            rw [hzb.out] at hY
            have hq65 : Hid (∀ q ∈ Z.st ++ [kb 1 :: (Z.sr ++ d)], q.length = 65) := by have := hZok2.out.st; rw [hY.out] at this; exact this
            have zt : (old : Int) ≤ (p.1 : Int) := by omega
            clear hside hst
            go_wp2_with fail
            refine wp_region_class_tail 6 (Class wr) (by kernel_rfl) (by kernel_rfl) (Class.mk_ ((Below.refl _ _).drew)) ?_
            refine wpQuiet_move rfl (.tmp 15) rfl ?_
            (intro K hK; go_simp; refine hK _ ?_; clear hK K)
            refine wpQuiet_load_row rfl 23 (.tmp 17) rfl m17 rfl 23 ((cells8 Z.sr).toArray) (0, 0) _ (fun w' hw' => (hw'.below.block _ hI.out.lf2.lt).trans hI.out.lf2) Tryd.underlying23 rfl Fb.out.size ?_
            (intro K hK; go_simp; refine hK _ ?_; clear hK K)
            refine wpQuiet_move rfl (.tmp 4) rfl ?_
            (intro K hK; go_simp; refine hK _ ?_; clear hK K)
            refine wpQuiet_move rfl (.tmp 19) rfl ?_
            (intro K hK; go_simp; refine hK _ ?_; clear hK K)
            refine wpQuiet_val (v := .pointer (some ⟨b, o + j * 32, none⟩)) rfl (fun w' hw' => by go_simp) ?_
            (intro K hK; go_simp; refine hK _ ?_; clear hK K)
            refine wpQuiet_load_part rfl 23 (.tmp 60) rfl b (o + j * 32) rfl (cells8 d) _ (fun w' hw' => hdc.out w' (hbW.out.trans (hw'.below.mono hbW.out.size))) Tryd.underlying23 rfl Fd.out.part ?_
            (intro K hK; go_simp; refine hK _ ?_; clear hK K)
            refine wpQuiet_nil ?_
            intro u7 hu7
            have hbu7 : Hid (Below w.heap.size w u7) := hbW.out.trans (hu7.below.mono hbW.out.size)
            simp only [List.drop]
            go_wp2_with fail
            refine (node_walk (w3.heap.size + 1) r2 s Z.st Z.sr d hZok.out.sl hdl.out u7 (hBs.out _ hbu7.out) (by have := hgb.out; have := hs3.out; omega) (ClAtM.kept hI.out.cl2 (Kept.of_below hu7.below) (fun h => h) (fun _ _ h => h)) (by have := hZok.out.sk; have := hn41.out; have := hjn.out; omega)).mono ?_
            rw [hzb.out]
            rintro e y7 ⟨rfl, hC7⟩
            obtain ⟨hB7, rn7, hN7⟩ := AhAt.step (z := zb) hI.out.swap hu7.below hC7 hq65.out hZok.out.ft hZok.out.sl (by omega) hdis.out.2.2.2.1 hdis.out.2.2.1 hdis.out.2.1 (fun e => hdis.out.2.2.2.2.1 e.symm) ⟨hlt.out.2.1, hlt.out.1, hlt.out.2.2.2, hlt.out.2.2.1⟩
            replace hB7 := Lib.hid hB7
            replace hN7 := Lib.hid hN7.swap
            have hq7 := Lib.hid (Fzb.out.same Z.sr hZok.out.sl)
            clear hC7
            go_wp2_with ((with_reducible change wpList _ _ _ ({ dst := none, op := Op.store 23 _ _, type := _, pos := _, after := _, guard := _ } :: _) _ _); refine wpList_store_row (o := ⟨none, _, _, _, _, _⟩) rfl 23 (.tmp 17) (.tmp 62) rfl (m17) ((cells8 zb).toArray) rfl rfl 23 ((cells8 Z.sr).toArray) hB7.out Fzb.out.size hq7.out Fzb.out.one ?_)
            go_roundw
            case rel => exact ⟨j + 1, r1, rn7, by go_num, ⟨by have := hj.out.1; omega, hjn.out⟩, (by show AhAt _ _ _ _ _ _ _ _ _ _ _ _ _; rw [hYe.out, hY.out]; exact hN7.out)⟩
            case measure => (have := hjn.out; simp [intOf]; omega)
          · have hY : Hid (Y = ⟨ndOf s d Z.fr, ndOf s d Z.sr, Z.ft ++ [kb 1 :: (d ++ Z.fr)], Z.st ++ [kb 1 :: (d ++ Z.sr)]⟩) := by show _ = _; rw [hst.out, ahead1, if_neg (by simp [bh]; omega)]
            obtain ⟨za, hza⟩ : ∃ z, Hid (ndOf s d Z.fr = z) := ⟨_, Lib.hid rfl⟩
            have Fza := Lib.hid (fit (x := za) (by rw [← hza.out]; exact ndOf_len s _ _))
            obtain ⟨zb, hzb⟩ : ∃ z, Hid (ndOf s d Z.sr = z) := ⟨_, Lib.hid rfl⟩
            have Fzb := Lib.hid (fit (x := zb) (by rw [← hzb.out]; exact ndOf_len s _ _))
            have hzal : Hid (za.length = 32) := by show _ = _; rw [← hza.out]; exact ndOf_len s _ _
            rw [hza.out, hzb.out] at hY
            have hq65 : Hid (∀ q ∈ Z.st ++ [kb 1 :: (d ++ Z.sr)], q.length = 65) := by have := hZok2.out.st; rw [hY.out] at this; exact this
            have hf65 : Hid (∀ q ∈ Z.ft ++ [kb 1 :: (d ++ Z.fr)], q.length = 65) := by have := hZok2.out.ft; rw [hY.out] at this; exact this
            have zt : ¬ ((old : Int) ≤ (p.1 : Int)) := by omega
            clear hside hst
            go_wp2_with fail
            refine wp_region_class_tail 6 (Class wr) (by kernel_rfl) (by kernel_rfl) (Class.mk_ ((Below.refl _ _).drew)) ?_
            refine wpQuiet_move rfl (.tmp 14) rfl ?_
            (intro K hK; go_simp; refine hK _ ?_; clear hK K)
            refine wpQuiet_move rfl (.tmp 4) rfl ?_
            (intro K hK; go_simp; refine hK _ ?_; clear hK K)
            refine wpQuiet_move rfl (.tmp 19) rfl ?_
            (intro K hK; go_simp; refine hK _ ?_; clear hK K)
            refine wpQuiet_val (v := .pointer (some ⟨b, o + j * 32, none⟩)) rfl (fun w' hw' => by go_simp) ?_
            (intro K hK; go_simp; refine hK _ ?_; clear hK K)
            refine wpQuiet_load_part rfl 23 (.tmp 66) rfl b (o + j * 32) rfl (cells8 d) _ (fun w' hw' => hdc.out w' (hbW.out.trans (hw'.below.mono hbW.out.size))) Tryd.underlying23 rfl Fd.out.part ?_
            (intro K hK; go_simp; refine hK _ ?_; clear hK K)
            refine wpQuiet_load_row rfl 23 (.tmp 16) rfl m16 rfl 23 ((cells8 Z.fr).toArray) (0, 0) _ (fun w' hw' => (hw'.below.block _ hI.out.lf1.lt).trans hI.out.lf1) Tryd.underlying23 rfl Fa.out.size ?_
            (intro K hK; go_simp; refine hK _ ?_; clear hK K)
            refine wpQuiet_nil ?_
            intro u7 hu7
            have hbu7 : Hid (Below w.heap.size w u7) := hbW.out.trans (hu7.below.mono hbW.out.size)
            simp only [List.drop]
            go_wp2_with fail
            refine (node_walk w3.heap.size r1 s Z.ft d Z.fr hdl.out hZok.out.fl u7 (hBs.out _ hbu7.out) (by have := hgb.out; have := hs3.out; omega) (ClAtM.kept hI.out.cl1 (Kept.of_below hu7.below) (fun h => h) (fun _ _ h => h)) (by have := hZok.out.fk; have := hn41.out; have := hjn.out; omega)).mono ?_
            rw [hza.out]
            rintro e y7 ⟨rfl, hC7⟩
            obtain ⟨hB7, rn7, hN7⟩ := AhAt.step (z := za) hI.out hu7.below hC7 hf65.out hZok.out.st hZok.out.fl (by omega) hdis.out.1 hdis.out.2.1 hdis.out.2.2.1 hdis.out.2.2.2.2.1 hlt.out
            replace hB7 := Lib.hid hB7
            replace hN7 := Lib.hid hN7
            have hq7 := Lib.hid (Fza.out.same Z.fr hZok.out.fl)
            clear hC7
            go_wp2_with ((with_reducible change wpList _ _ _ ({ dst := none, op := Op.store 23 _ _, type := _, pos := _, after := _, guard := _ } :: _) _ _); refine wpList_store_row (o := ⟨none, _, _, _, _, _⟩) rfl 23 (.tmp 16) (.tmp 69) rfl (m16) ((cells8 za).toArray) rfl rfl 23 ((cells8 Z.fr).toArray) hB7.out Fza.out.size hq7.out Fza.out.one ?_)
            generalize y7.setRow m16 (cells8 za).toArray = y8 at *
            have hbw8 : Hid (Below w3.heap.size w3 y8) := Kept.toBelow hb6.out hN7.out.kept (fun k h => by have := hdis.out; rcases h with h | h | h | h <;> omega) hb6.out.size
            have hbW8 : Hid (Below w.heap.size w y8) := hb3.out.trans (hbw8.out.mono hb3.out.size)
            clear hB7 hq7 hI hbw hbW hu7 hbu7
            refine wp_region_class_tail 6 (Class y8) (by kernel_rfl) (by kernel_rfl) (Class.mk_ ((Below.refl _ _).drew)) ?_
            refine wpQuiet_move rfl (.tmp 15) rfl ?_
            (intro K hK; go_simp; refine hK _ ?_; clear hK K)
            refine wpQuiet_move rfl (.tmp 4) rfl ?_
            (intro K hK; go_simp; refine hK _ ?_; clear hK K)
            refine wpQuiet_move rfl (.tmp 19) rfl ?_
            (intro K hK; go_simp; refine hK _ ?_; clear hK K)
            refine wpQuiet_val (v := .pointer (some ⟨b, o + j * 32, none⟩)) rfl (fun w' hw' => by go_simp) ?_
            (intro K hK; go_simp; refine hK _ ?_; clear hK K)
            refine wpQuiet_load_part rfl 23 (.tmp 73) rfl b (o + j * 32) rfl (cells8 d) _ (fun w' hw' => hdc.out w' (hbW8.out.trans (hw'.below.mono hbW8.out.size))) Tryd.underlying23 rfl Fd.out.part ?_
            (intro K hK; go_simp; refine hK _ ?_; clear hK K)
            refine wpQuiet_load_row rfl 23 (.tmp 17) rfl m17 rfl 23 ((cells8 Z.sr).toArray) (0, 0) _ (fun w' hw' => (hw'.below.block _ hN7.out.lf2.lt).trans hN7.out.lf2) Tryd.underlying23 rfl Fb.out.size ?_
            (intro K hK; go_simp; refine hK _ ?_; clear hK K)
            refine wpQuiet_nil ?_
            intro u9 hu9
            have hbu9 : Hid (Below w.heap.size w u9) := hbW8.out.trans (hu9.below.mono hbW8.out.size)
            simp only [List.drop]
            go_wp2_with fail
            refine (node_walk (w3.heap.size + 1) r2 s Z.st d Z.sr hdl.out hZok.out.sl u9 (hBs.out _ hbu9.out) (by have := hgb.out; have := hs3.out; omega) (ClAtM.kept hN7.out.cl2 (Kept.of_below hu9.below) (fun h => h) (fun _ _ h => h)) (by have := hZok.out.sk; have := hn41.out; have := hjn.out; omega)).mono ?_
            rw [hzb.out]
            rintro e y9 ⟨rfl, hC9⟩
            obtain ⟨hB9, rn9, hN9⟩ := AhAt.step (z := zb) hN7.out.swap hu9.below hC9 hq65.out hf65.out hZok.out.sl (by omega) hdis.out.2.2.2.1 hdis.out.2.2.1 hdis.out.2.1 (fun e => hdis.out.2.2.2.2.1 e.symm) ⟨hlt.out.2.1, hlt.out.1, hlt.out.2.2.2, hlt.out.2.2.1⟩
            replace hB9 := Lib.hid hB9
            replace hN9 := Lib.hid hN9.swap
            have hq9 := Lib.hid (Fzb.out.same Z.sr hZok.out.sl)
            clear hC9
            go_wp2_with ((with_reducible change wpList _ _ _ ({ dst := none, op := Op.store 23 _ _, type := _, pos := _, after := _, guard := _ } :: _) _ _); refine wpList_store_row (o := ⟨none, _, _, _, _, _⟩) rfl 23 (.tmp 17) (.tmp 76) rfl (m17) ((cells8 zb).toArray) rfl rfl 23 ((cells8 Z.sr).toArray) hB9.out Fzb.out.size hq9.out Fzb.out.one ?_)
            go_roundw
            case rel => exact ⟨j + 1, rn7, rn9, by go_num, ⟨by have := hj.out.1; omega, hjn.out⟩, (by show AhAt _ _ _ _ _ _ _ _ _ _ _ _ _; rw [hYe.out, hY.out]; exact hN9.out)⟩
            case measure => (have := hjn.out; simp [intOf]; omega)
        · obtain rfl : j = n := by have := hj.out; omega
          have z2 : ¬ ((j : Int) < (j : Int)) := by omega
          obtain ⟨Z, hZe⟩ : ∃ Z, aheadS s x0 low P j = Z := ⟨_, rfl⟩
          rw [hZe] at hI hZok ⊢
          have Fa := Lib.hid (fit (x := Z.fr) hZok.out.fl)
          have Fb := Lib.hid (fit (x := Z.sr) hZok.out.sl)
          have hAr : Hid (Blk wr (w.heap.size + 1) 23 Z32) := (hbw.out.block _ hA3.out.lt).trans hA3.out
          have hEr : Hid (Blk wr (w.heap.size + 2) 23 Z32) := (hbw.out.block _ hE3.out.lt).trans hE3.out
          obtain ⟨v1, xs1, cb1, co1, cv1, cn1, cx1⟩ := hI.out.cl1
          obtain ⟨v2, xs2, cb2, co2, cv2, cn2, cx2⟩ := hI.out.cl2
          obtain ⟨A1, c1, rfl, -⟩ := Append.Own.reads co1
          obtain ⟨A2, c2, rfl, -, -, hnil2, hrd2, -⟩ := Append.Own.reads co2
          obtain ⟨S, hS⟩ : ∃ S : Nat → Prop, Hid (S = fun k => some k = r1 ∨ k = w.heap.size + 1 ∨ k = w.heap.size + 2) := ⟨_, rfl⟩
          have hr1 : Hid (∀ k, some k = r1 → w6.heap.size ≤ k) := fun k e => hI.out.n1 k e.symm
          have hw6s : Hid (w.heap.size + 3 ≤ w6.heap.size) := by have := hs3.out; have := hb6.out.size; show _ ≤ _; omega
          have hSf : Hid (∀ g, S g → (∃ t cs, Blk wr g t cs ∧ cs.size < 65) ∨ (∃ u, wr.cell? ⟨g, 0, none⟩ = some u ∧ ∀ n, u ≠ .int .u8 n)) := fun g hg => by
            rw [hS.out] at hg
            rcases hg with hg | rfl | rfl
            · exact .inr (ClAt.front hI.out.cl1 hI.out.e1 g (.inr hg))
            · exact .inl ⟨_, _, hAr.out, by simp [Z32]⟩
            · exact .inl ⟨_, _, hEr.out, by simp [Z32]⟩
          have hnS : Hid (∀ k, w.heap.size + 3 ≤ k → k < w6.heap.size → ¬ S k) := fun k h1 h2 h => by
            rw [hS.out] at h
            rcases h with h | h | h
            · have := hr1.out k h; omega
            · omega
            · omega
          have hx65 := Lib.hid (And.intro hZok.out.ft hZok.out.st)
          obtain ⟨n1, hn1⟩ : ∃ n1, Z.ft.length = n1 := ⟨_, rfl⟩
          obtain ⟨n2, hn2⟩ : ∃ n2, Z.st.length = n2 := ⟨_, rfl⟩
          have hk1 : Hid (n1 ≤ 41 ∧ n2 ≤ 41) := by have := hZok.out.fk; have := hZok.out.sk; have := hn41.out; show _ ∧ _; omega
          rw [hn1] at co1
          rw [hn2] at co2 hrd2 hnil2
          have hn1h := Lib.hid hn1
          have hn2h := Lib.hid hn2
          have hL1 : Hid (∀ w', Kept S wr w' → Blk w' m16 23 (cells8 Z.fr).toArray) := fun w' h => hI.out.lf1.kept h (hnS.out m16 (by have := hdis.out; have := hs3.out; omega) hlt.out.2.2.1)
          have hL2 : Hid (∀ w', Kept S wr w' → Blk w' m17 23 (cells8 Z.sr).toArray) := fun w' h => hI.out.lf2.kept h (hnS.out m17 (by have := hdis.out; have := hs3.out; omega) hlt.out.2.2.2)
          have hL3 : Hid (∀ w', Kept S wr w' → w'.cell? ⟨w3.heap.size, 1, none⟩ = some (.slice A1 n1 c1)) := fun w' h => by
            have h2 : Blk w' w3.heap.size 109 #[.int .i64 s, .slice A1 Z.ft.length c1] := cb1.kept h (hnS.out _ (by have := hs3.out; omega) hlt.out.1)
            rw [hn1] at h2
            exact h2.cell 1
          have hL4 : Hid (∀ w', Kept S wr w' → w'.cell? ⟨w3.heap.size + 1, 1, none⟩ = some (.slice A2 n2 c2)) := fun w' h => by
            have h2 : Blk w' (w3.heap.size + 1) 109 #[.int .i64 s, .slice A2 Z.st.length c2] := cb2.kept h (hnS.out _ (by have := hs3.out; omega) hlt.out.2.1)
            rw [hn2] at h2
            exact h2.cell 1
          have hv1 : Hid ((Value.slice A1 n1 c1).ownBlock = r1) := by rw [hn1] at cv1; exact cv1
          have hone2 : Hid (∀ u ∈ xs2, u.oneCell' = true) := fun u hu => by
            obtain ⟨i, hi, rfl⟩ := List.getElem_of_mem hu
            have hl : xs2.length = n2 := by simpa using hrd2.1
            obtain ⟨q, hq⟩ : ∃ q, Z.st[i]? = some q := ⟨_, List.getElem?_eq_getElem (by omega)⟩
            obtain ⟨g, cq, a1, -⟩ := cx2 i q hq
            rw [List.getElem?_eq_getElem hi] at a1
            rw [Option.some.inj a1]
            rfl
          have hxl1 : Hid (xs1.length = Z.ft.length) := by show _ = _; have := co1.1; rw [hn1]; simpa using this
          replace co1 := Lib.hid co1
          replace hrd2 := Lib.hid hrd2
          replace hnil2 := Lib.hid hnil2
          replace cx1 := Lib.hid cx1
          replace cx2 := Lib.hid cx2
          clear co2 cb1 cb2 cv1 cv2 cn1 cn2 hn1 hn2
          go_wp2_with fail
          have s0 : Hid (Kept S wr wr.drew) := (Kept.refl _ _).drew
          refine held_start (fun w' => Kept S wr w') 14 rfl (by kernel_rfl) ?_
          refine held_take (i := 0) (v := .agg ((cells8 Z.fr).toArray)) rfl (by kernel_rfl) (by kernel_rfl) (by kernel_rfl) (fun _ _ _ h => h) s0.out (by rfl) (fun w' hw' => exec_row 23 (.tmp 16) rfl (m16) rfl 23 ((cells8 Z.fr).toArray) (0, 0) _ (hL1.out w' hw') Tryd.underlying23 rfl Fa.out.size) ?_
          (intro K hK; go_simp; refine hK _ ?_; clear hK K)
          refine held_take (i := 1) (v := .agg ((cells8 Z.sr).toArray)) rfl (by kernel_rfl) (by kernel_rfl) (by kernel_rfl) (fun _ _ _ h => h) s0.out (by rfl) (fun w' hw' => exec_row 23 (.tmp 17) rfl (m17) rfl 23 ((cells8 Z.sr).toArray) (0, 0) _ (hL2.out w' hw') Tryd.underlying23 rfl Fb.out.size) ?_
          (intro K hK; go_simp; refine hK _ ?_; clear hK K)
          refine held_take (i := 2) (v := .pointer (some ⟨w3.heap.size, 0, none⟩)) rfl (by kernel_rfl) (by kernel_rfl) (by kernel_rfl) (fun _ _ _ h => h) s0.out (by rfl) (fun w' hw' => run_mv (.tmp 14) rfl w') ?_
          (intro K hK; go_simp; refine hK _ ?_; clear hK K)
          refine held_take (i := 3) (v := .pointer (some ⟨w3.heap.size, 0, none⟩)) rfl (by kernel_rfl) (by kernel_rfl) (by kernel_rfl) (fun _ _ _ h => h) s0.out (by rfl) (fun w' hw' => by go_simp) ?_
          (intro K hK; go_simp; refine hK _ ?_; clear hK K)
          refine held_take (i := 4) (v := .pointer (some ⟨w3.heap.size, 1, none⟩)) rfl (by kernel_rfl) (by kernel_rfl) (by kernel_rfl) (fun _ _ _ h => h) s0.out (by rfl) (fun w' hw' => by go_simp) ?_
          (intro K hK; go_simp; refine hK _ ?_; clear hK K)
          refine held_take (i := 5) (v := .slice A1 n1 c1) rfl (by kernel_rfl) (by kernel_rfl) (by kernel_rfl) (fun _ _ _ h => h) s0.out (by rfl) (fun w' hw' => by have h := hL3.out w' hw'; go_simp) ?_
          (intro K hK; go_simp; refine hK _ ?_; clear hK K)
          refine held_take (i := 6) (v := .pointer (some ⟨w3.heap.size + 1, 0, none⟩)) rfl (by kernel_rfl) (by kernel_rfl) (by kernel_rfl) (fun _ _ _ h => h) s0.out (by rfl) (fun w' hw' => run_mv (.tmp 15) rfl w') ?_
          (intro K hK; go_simp; refine hK _ ?_; clear hK K)
          refine held_take (i := 7) (v := .pointer (some ⟨w3.heap.size + 1, 0, none⟩)) rfl (by kernel_rfl) (by kernel_rfl) (by kernel_rfl) (fun _ _ _ h => h) s0.out (by rfl) (fun w' hw' => by go_simp) ?_
          (intro K hK; go_simp; refine hK _ ?_; clear hK K)
          refine held_take (i := 8) (v := .pointer (some ⟨w3.heap.size + 1, 1, none⟩)) rfl (by kernel_rfl) (by kernel_rfl) (by kernel_rfl) (fun _ _ _ h => h) s0.out (by rfl) (fun w' hw' => by go_simp) ?_
          (intro K hK; go_simp; refine hK _ ?_; clear hK K)
          refine held_take (i := 9) (v := .slice A2 n2 c2) rfl (by kernel_rfl) (by kernel_rfl) (by kernel_rfl) (fun _ _ _ h => h) s0.out (by rfl) (fun w' hw' => by have h := hL4.out w' hw'; go_simp) ?_
          (intro K hK; go_simp; refine hK _ ?_; clear hK K)
          refine held_only (i := 10) rfl (by kernel_rfl) (by rfl) (fun K hK => ?_)
          refine wp_append_src _ (.tmp 82) (.tmp 86) 24 rfl 0 27 i0 (.slice none 0 0) 1 24 Tryd.underlying24 ii iz0 iz1 iz2 rfl (by decide) (.slice A1 n1 c1) n1 xs1 rfl co1.out A2 n2 c2 xs2 rfl hrd2.out hnil2.out hone2.out (by have := hk1.out; unfold maxLen; omega) (by have := hk1.out; omega) (Nat.zero_le _) ?_
          intro v8 w8 hG
          obtain ⟨A8, c8, rfl, -⟩ := Append.Own.reads hG.own
          have h8 : Hid (Kept S wr w8) := (Kept.refl S wr).drew.grown hG.grow (fun k e => .inl (by rw [hS.out]; exact .inl (by rw [← hv1.out, e])))
          have hat : Hid (∀ k, (Value.slice A8 (n1 + n2) c8).ownBlock = some k → w6.heap.size ≤ k) := fun k e => by
            rcases hG.at_ with h | h
            · rw [h] at e; exact hr1.out k (by rw [← hv1.out, e])
            · rw [h] at e; have h9 : wr.heap.size = k := Option.some.inj e; have := hI.out.kept.size; omega
          have hA8 : Hid (Blk w8 (w.heap.size + 1) 23 Z32) := Blk.grown (w := wr.drew) hAr.out hG.grow (fun e => by have h := hr1.out _ (e.trans hv1.out); have := hw6s.out; omega)
          have hE8 : Hid (Blk w8 (w.heap.size + 2) 23 Z32) := Blk.grown (w := wr.drew) hEr.out hG.grow (fun e => by have h := hr1.out _ (e.trans hv1.out); have := hw6s.out; omega)
          replace hG := Lib.hid hG
          go_simp
          refine hK _ _ h8.out ?_
          clear hK K
          refine held_only (i := 11) rfl (by kernel_rfl) (by rfl) (fun K hK => ?_)
          refine wp_store_whole 23 (.tmp 10) (.tmp 77) rfl (w.heap.size + 1) ((cells8 Z.fr).toArray) rfl rfl 23 Z32 hA8.out Fa.out.size Fa.out.zero Fa.out.one ?_
          intro w9 q9 k9
          have h9 : Hid (Kept S wr w9) := h8.out.trans k9 (fun i _ h => by rw [hS.out]; exact .inr (.inl h))
          go_simp
          refine hK _ _ h9.out ?_
          clear hK K
          refine held_only (i := 12) rfl (by kernel_rfl) (by rfl) (fun K hK => ?_)
          refine wp_store_whole 23 (.tmp 11) (.tmp 78) rfl (w.heap.size + 2) ((cells8 Z.sr).toArray) rfl rfl 23 Z32 (hE8.out.kept k9 (by omega)) Fb.out.size Fb.out.zero Fb.out.one ?_
          intro w10 q10 k10
          have h10 : Hid (Kept S wr w10) := h9.out.trans k10 (fun i _ h => by rw [hS.out]; exact .inr (.inr h))
          go_simp
          refine hK _ _ h10.out ?_
          clear hK K
          refine held_take (i := 13) (v := .slice A8 (n1 + n2) c8) rfl (by kernel_rfl) (by kernel_rfl) (by kernel_rfl) (fun _ _ _ h => h) h10.out (by rfl) (fun w' hw' => by first | go_simp | rfl) ?_
          (intro K hK; go_simp; refine hK _ ?_; clear hK K)
          refine held_end (by kernel_rfl) ?_
          have hQ1 : Hid (Blk w10 (w.heap.size + 1) 23 (cells8 Z.fr).toArray) := Blk.kept q9 k10 (by omega)
          have hQ2 : Hid (Blk w10 (w.heap.size + 2) 23 (cells8 Z.sr).toArray) := q10
          have hO10 : w10.ownsRow 0 27 1 (.slice A8 (n1 + n2) c8) (n1 + n2) (xs1 ++ xs2) := own_kept (own_kept hG.out.own k9 (fun k e h => by have := hat.out k e; have := hw6s.out; omega)) k10 (fun k e h => by have := hat.out k e; have := hw6s.out; omega)
          have hO11 : Hid (w10.ownsRow w.heap.size 27 1 (.slice A8 (n1 + n2) c8) (n1 + n2) (xs1 ++ xs2)) := Go.Proofs.YtpgenpogjhpeoaaDoor.RowsT.own_up hO10 (fun k e => by have := hat.out k e; have := hw6s.out; omega)
          have hT9 : Hid (Tx w10 (xs1 ++ xs2) (Z.ft ++ Z.st)) := (Txs.toTx cx1.out hx65.out.1 h10.out hSf.out).append (Txs.toTx cx2.out hx65.out.2 h10.out hSf.out) hxl1.out
          have hfin : Hid (Below w.heap.size w w10) := Kept.toBelow hbW.out h10.out (fun k h => by rw [hS.out] at h; rcases h with h | h | h; (have := hr1.out k h; have := hw6s.out; omega); omega; omega) hbW.out.size
          clear hG hO10
          go_wp2_with fail
          refine bodyPost_ret (results_ccr rfl _ _ (w.heap.size + 1) (w.heap.size + 2) 23 23 (cells8 Z.fr).toArray (cells8 Z.sr).toArray (0, 0) (0, 0) _ rfl hQ1.out rfl hQ2.out Tryd.underlying23 rfl Fa.out.size Fb.out.size) rfl ?_
          show AhOwn w _ _ _
          try rw [hZe]
          exact ⟨A8, c8, xs1 ++ xs2, by rw [hn1h.out, hn2h.out]; rfl, by rw [hn1h.out, hn2h.out]; exact hO11.out, hT9.out, hfin.out⟩
theorem ahead_any (s : Int) (old size : Nat) (h1 : 1 ≤ old) (h2 : old < size) (hs : size ≤ 1099511627776) (root : Text) (hrt : root.length = 32) (ds : List Text) (A : Option Addr) (n c : Nat) (hn : (partsOf old size).length = n) (w : World) (hB : Base w) (hr : RdD w A n ds) :
    Calls Tryd.prog 70 #[.int .i64 s, .int .i64 (old : Int), .int .i64 (size : Int), .agg (cells8 root).toArray, .slice A n c] w (AhPost w (aheadOf s old size root ds)) :=
  (ahead_own s old size h1 h2 hs root hrt ds A n c hn w hB hr).mono fun _ _ h => h.post
end Go.Proofs.YtpgenpogjhpeoaaDoor.Ahead

namespace Go.Proofs.YtpgenpogjhpeoaaDoor.Agree
open Go Go.RowKit Go.Proofs.YtpgenpogjhpeoaaDoor Go.Proofs.YtpgenpogjhpeoaaDoor.Digest Go.Proofs.YtpgenpogjhpeoaaDoor.Mem Go.Proofs.YtpgenpogjhpeoaaDoor.Sha Go.Proofs.YtpgenpogjhpeoaaDoor.Bytes Go.Proofs.YtpgenpogjhpeoaaDoor.Append Go.Proofs.YtpgenpogjhpeoaaDoor.HashMem Go.Proofs.YtpgenpogjhpeoaaDoor.DigestMem Go.Proofs.YtpgenpogjhpeoaaDoor.DigestTop Go.Proofs.YtpgenpogjhpeoaaDoor.DigEq Go.Proofs.YtpgenpogjhpeoaaDoor.QuietTail Go.Proofs.YtpgenpogjhpeoaaDoor.Grown Go.Proofs.YtpgenpogjhpeoaaDoor.TreeMath Go.Proofs.YtpgenpogjhpeoaaDoor.TreeMem Go.Proofs.YtpgenpogjhpeoaaDoor.TreeRoot Go.Proofs.YtpgenpogjhpeoaaDoor.Held Go.Proofs.YtpgenpogjhpeoaaDoor.Guard Go.Proofs.YtpgenpogjhpeoaaDoor.Book Go.Proofs.YtpgenpogjhpeoaaDoor.Subs Go.Proofs.YtpgenpogjhpeoaaDoor.RowsP Go.Proofs.YtpgenpogjhpeoaaDoor.Joint Go.Proofs.YtpgenpogjhpeoaaDoor.AheadM Go.Proofs.YtpgenpogjhpeoaaDoor.AheadT Go.Proofs.YtpgenpogjhpeoaaDoor.Ahead

theorem _root_.Go.Proofs.YtpgenpogjhpeoaaDoor.Mem.Blk.onA {w w' : World} {g : Nat} {t : TypeId} {cs : Array Value} (h : Blk w g t cs) (hb : Below w.heap.size w w') : Blk w' g t cs := (hb.block g h.lt).trans h
/-- To which old root, to which new one the digests lead. -/
def agA (s : Int) (old size : Nat) (r0 : Text) (ds : List Text) : Text := if old = 0 then noneOf s else if old = size then r0 else (aheadOf s old size r0 ds).fr
def agB (s : Int) (old size : Nat) (r0 r1 : Text) (ds : List Text) : Text := if old = size then r0 else if old = 0 then r1 else (aheadOf s old size r0 ds).sr
/-- The answer. -/
def agreeOf (s : Int) (old size : Int) (r0 r1 : Text) (ds : List Text) : Int :=
  if joinsB old size = false then 60 else if betw old.toNat size.toNat ≠ ds.length then 170
  else if agA s old.toNat size.toNat r0 ds = r0 ∧ agB s old.toNat size.toNat r0 r1 ds = r1 then 0 else 171
theorem aheadOf_ok {s : Int} {old size : Nat} {r0 : Text} {ds : List Text} (h1 : 1 ≤ old) (h2 : old < size) (h0 : r0.length = 32) (hd : Digs ds) (hn : betw old size = ds.length) : (aheadOf s old size r0 ds).fr.length = 32 ∧ (aheadOf s old size r0 ds).sr.length = 32 ∧ (∀ q ∈ (aheadOf s old size r0 ds).ft, q.length = 65) ∧ (∀ q ∈ (aheadOf s old size r0 ds).st, q.length = 65) ∧ (aheadOf s old size r0 ds).ft.length ≤ ds.length ∧ (aheadOf s old size r0 ds).st.length ≤ ds.length := by
  obtain ⟨hl, -, -⟩ := parts_low h1 h2
  have hpl := partsOf_len (Nat.le_of_lt h2)
  have hz : (((partsOf old size).map (bh old)).zip ds).length = ds.length := by rw [List.length_zip, List.length_map]; omega
  have hx : (if powB old then r0 else ds.getD 0 []).length = 32 := by
    split
    · exact h0
    · obtain ⟨d, hd0⟩ : ∃ d, ds[0]? = some d := ⟨_, List.getElem?_eq_getElem (by omega)⟩
      have := hd.at_ hd0
      simpa [List.getD, hd0] using this
  have h := aheadS_ok (s := s) (low := lowOf old) (P := ((partsOf old size).map (bh old)).zip ds) hx (fun p hp => hd _ (List.of_mem_zip (show (p.1, p.2) ∈ _ from hp)).2) (ds.length - lowOf old) (by omega)
  rw [show lowOf old + (ds.length - lowOf old) = ds.length by omega] at h
  exact ⟨h.fl, h.sl, h.ft, h.st, by have := h.fk; show (aheadS _ _ _ _ _).ft.length ≤ _; omega, by have := h.sk; show (aheadS _ _ _ _ _).st.length ≤ _; omega⟩
theorem agA_len {s : Int} {old size : Nat} {r0 : Text} {ds : List Text} (hle : old ≤ size) (h0 : r0.length = 32) (hd : Digs ds) (hn : betw old size = ds.length) : (agA s old size r0 ds).length = 32 := by
  unfold agA
  split
  · exact noneOf_len s
  · split
    · exact h0
    · exact (aheadOf_ok (by omega) (by omega) h0 hd hn).1
theorem agB_len {s : Int} {old size : Nat} {r0 r1 : Text} {ds : List Text} (hle : old ≤ size) (h0 : r0.length = 32) (h1 : r1.length = 32) (hd : Digs ds) (hn : betw old size = ds.length) : (agB s old size r0 r1 ds).length = 32 := by
  unfold agB
  split
  · exact h0
  · split
    · exact h1
    · exact (aheadOf_ok (by omega) (by omega) h0 hd hn).2.1

set_option maxRecDepth 100000 in
set_option maxHeartbeats 1000000 in
theorem agree_out (s old size : Int) (h : joinsB old size = false) (r0 r1 : Text) (A : Option Addr) (n c : Nat) (w : World) :
    Calls Tryd.prog 25 #[.int .i64 s, .int .i64 old, .int .i64 size, .agg (cells8 r0).toArray, .agg (cells8 r1).toArray, .slice A n c] w fun e w' => e = .returned (.int .i64 60) ∧ Below w.heap.size w w' := by
  have hb : Hid (Below w.heap.size w ((w.alloc (.cells (cells8 r0).toArray 23)).alloc (.cells (cells8 r1).toArray 23))) := (Below.heap_below w _).alloc (by simp) _
  replace h := Lib.hid h
  go_enter Tryd.func25, Tryd.ntmps25
  go_wp2_with fail
  refine (sizes_any old size _).mono ?_
  rw [h.out]
  rintro e w1 ⟨rfl, rfl⟩
  go_wp2_with fail
  go_ret
  exact ⟨rfl, hb.out⟩

set_option maxRecDepth 100000 in
set_option maxHeartbeats 4000000 in
theorem agree_in (s : Int) (old size : Nat) (hle : old ≤ size) (hs : size ≤ 1099511627776) (r0 r1 : Text) (h0 : r0.length = 32) (h1 : r1.length = 32) (ds : List Text) (A : Option Addr) (n c : Nat) (w : World) (hB : Base w) (hr : RdD w A n ds) :
    Calls Tryd.prog 25 #[.int .i64 s, .int .i64 (old : Int), .int .i64 (size : Int), .agg (cells8 r0).toArray, .agg (cells8 r1).toArray, .slice A n c] w fun e w' => e = .returned (.int .i64 (agreeOf s old size r0 r1 ds)) ∧ Below w.heap.size w w' := by
  have hj : joinsB (old : Int) (size : Int) = true := by
    have a1 : (0 : Int) ≤ old := by omega
    have a2 : (old : Int) ≤ size := by omega
    have a3 : (size : Int) ≤ 1099511627776 := by omega
    simp [joinsB, a1, a2, a3]
  have hSz : Hid (∀ w', Calls Tryd.prog 67 #[.int .i64 (old : Int), .int .i64 (size : Int)] w' fun e w'' => e = .returned (.bool true) ∧ w' = w'') := fun w' => by have := sizes_any old size w'; rwa [hj] at this
  have hPt := Lib.hid (fun w' => parts_any old size hle hs w')
  have hpl := partsOf_len hle
  obtain ⟨m, hm⟩ : ∃ m, betw old size = m := ⟨_, rfl⟩
  have hans : agreeOf s old size r0 r1 ds = if m ≠ n then 170 else if agA s old size r0 ds = r0 ∧ agB s old size r0 r1 ds = r1 then 0 else 171 := by
    unfold agreeOf
    rw [if_neg (by rw [hj]; decide), Int.toNat_natCast, Int.toNat_natCast, hm, hr.1]
  obtain ⟨ans, han⟩ : ∃ a, agreeOf s old size r0 r1 ds = a := ⟨_, rfl⟩
  rw [han] at hans ⊢
  obtain ⟨w0, hw0⟩ : ∃ w0, Hid (w0 = (w.alloc (.cells (cells8 r0).toArray 23)).alloc (.cells (cells8 r1).toArray 23)) := ⟨_, rfl⟩
  have hb0 : Hid (Below w.heap.size w w0) := by show Below _ _ _; rw [hw0.out]; exact (Below.heap_below w _).alloc (by simp) _
  have hX0 : Hid (Blk w0 w.heap.size 23 (cells8 r0).toArray) := by show Blk _ _ _ _; rw [hw0.out]; exact heap_alloc2_old w _ _
  have hY0 : Hid (Blk w0 (w.heap.size + 1) 23 (cells8 r1).toArray) := by show Blk _ _ _ _; rw [hw0.out]; exact heap_alloc2_new w _ _
  have F0 := Lib.hid (fit (x := r0) h0)
  have F1 := Lib.hid (fit (x := r1) h1)
  have hBs := Lib.hid (fun w' (hb : Below w.heap.size w w') => hB.below hb hB.1)
  have g1 : (0 : Int) ≤ (old : Int) := by omega
  have g2 : (old : Int) ≤ 1099511627776 := by omega
  have g3 : (0 : Int) ≤ (size : Int) := by omega
  have g4 : (size : Int) ≤ 1099511627776 := by omega
  have hpm : Hid ((partsOf old size).length = m) := by show _ = _; rw [hpl, hm]
  by_cases hmn : m = n
  · rw [if_neg (fun h => h hmn)] at hans
    have hn : betw old size = ds.length := by rw [hm, hmn, hr.1]
    subst hmn
    have hal := agA_len (s := s) hle h0 hr.2.1 hn
    have hbl := agB_len (s := s) (r1 := r1) hle h0 h1 hr.2.1 hn
    have hva : Hid (∀ w', Below w.heap.size w w' → 1 ≤ old → old < size → Calls Tryd.prog 70 #[.int .i64 s, .int .i64 (old : Int), .int .i64 (size : Int), .agg (cells8 r0).toArray, .slice A m c] w' (AhPost w' (aheadOf s old size r0 ds))) := fun w' hb e1 e2 => ahead_any s old size e1 e2 hs r0 h0 ds A m c hpm.out w' (hBs.out w' hb) (hr.below hb)
    have hA0 : Hid (old = 0 → agA s old size r0 ds = noneOf s) := fun h => if_pos h
    have hA1 : Hid (old ≠ 0 → old = size → agA s old size r0 ds = r0) := fun h k => by unfold agA; rw [if_neg h, if_pos k]
    have hA2 : Hid (old ≠ 0 → old ≠ size → agA s old size r0 ds = (aheadOf s old size r0 ds).fr) := fun h k => by unfold agA; rw [if_neg h, if_neg k]
    have hB1 : Hid (old = size → agB s old size r0 r1 ds = r0) := fun h => if_pos h
    have hB0 : Hid (old ≠ size → old = 0 → agB s old size r0 r1 ds = r1) := fun h k => by unfold agB; rw [if_neg h, if_pos k]
    have hB2 : Hid (old ≠ size → old ≠ 0 → agB s old size r0 r1 ds = (aheadOf s old size r0 ds).sr) := fun h k => by unfold agB; rw [if_neg h, if_neg k]
    obtain ⟨va, hvA⟩ : ∃ v, agA s old size r0 ds = v := ⟨_, rfl⟩
    obtain ⟨vb, hvB⟩ : ∃ v, agB s old size r0 r1 ds = v := ⟨_, rfl⟩
    rw [hvA] at hans hal hA0 hA1 hA2
    rw [hvB] at hans hbl hB0 hB1 hB2
    have Fa := Lib.hid (fit (x := va) hal)
    have Fb := Lib.hid (fit (x := vb) hbl)
    have hqa := Lib.hid (fun w => equal_dig va r0 hal h0 w)
    have hqb := Lib.hid (fun w => equal_dig vb r1 hbl h1 w)
    have hNo := Lib.hid (fun w' (hb : Below w.heap.size w w') => nothing_any s w' (hBs.out w' hb))
    have e1 : ((m : Int) == (m : Int)) = true := beq_self_eq_true _
    have l0 := Lib.hid h0
    have l1 := Lib.hid h1
    replace hans := Lib.hid hans
    replace hle := Lib.hid hle
    clear hj hB hr hs h0 h1 hpl hm han hn hal hbl hvA hvB
    go_enter Tryd.func25, Tryd.ntmps25
    go_wp2_with fail
    change Calls _ _ _ ((w.alloc (.cells (cells8 r0).toArray 23)).alloc (.cells (cells8 r1).toArray 23)) _
    rw [← hw0.out]
    clear hw0
    refine (hSz.out _).mono ?_
    rintro e w1 ⟨rfl, rfl⟩
    go_wp2_with fail
    refine (hPt.out _).mono ?_
    rintro e w4 ⟨v, rfl, hO, hk1⟩
    rw [hpm.out] at hO
    obtain ⟨Ap, cp, rfl, -⟩ := Append.Own.reads hO
    have hb4 : Hid (Below w.heap.size w w4) := hb0.out.trans (hk1.mono hb0.out.size)
    have hX4 : Hid (Blk w4 w.heap.size 23 (cells8 r0).toArray) := Blk.onA hX0.out hk1
    have hY4 : Hid (Blk w4 (w.heap.size + 1) 23 (cells8 r1).toArray) := Blk.onA hY0.out hk1
    clear hO hk1 hb0 hX0 hY0 hSz hPt hpm
    go_wp2_with fail
    go_cut [13, 14] from 26 to 27 (fun v u wr => ∃ m13 m14 : Nat, v = .pointer (some ⟨m13, 0, none⟩) ∧ u = .pointer (some ⟨m14, 0, none⟩) ∧ Hid (m13 ≠ m14) ∧ Hid (w4.heap.size ≤ m13) ∧ Hid (w4.heap.size ≤ m14) ∧ Hid (Blk wr m13 23 (cells8 r0).toArray) ∧ Hid (Blk wr m14 23 (cells8 r1).toArray) ∧ Hid (Below w4.heap.size w4 wr))
    case first =>
      have s0 : Hid (Below w4.heap.size w4 w4.drew) := (Below.refl _ _).drew
      refine held_start (fun w' => Below w4.heap.size w4 w') 6 rfl (by kernel_rfl) ?_
      refine held_take (i := 0) (v := .agg ((cells8 r0).toArray)) rfl (by kernel_rfl) (by kernel_rfl) (by kernel_rfl) (fun _ _ _ h => h) s0.out (by rfl) (fun w' hw' => exec_row 23 (.tmp 9) rfl (w.heap.size) rfl 23 ((cells8 r0).toArray) (0, 0) _ ((hw'.block _ hX4.out.lt).trans hX4.out) Tryd.underlying23 rfl F0.out.size) ?_
      (intro K hK; go_simp; refine hK _ ?_; clear hK K)
      refine held_take (i := 1) (v := .agg ((cells8 r1).toArray)) rfl (by kernel_rfl) (by kernel_rfl) (by kernel_rfl) (fun _ _ _ h => h) s0.out (by rfl) (fun w' hw' => exec_row 23 (.tmp 10) rfl ((w.heap.size + 1)) rfl 23 ((cells8 r1).toArray) (0, 0) _ ((hw'.block _ hY4.out.lt).trans hY4.out) Tryd.underlying23 rfl F1.out.size) ?_
      (intro K hK; go_simp; refine hK _ ?_; clear hK K)
      refine held_two (i := 2) (j := 3) rfl rfl (by kernel_rfl) (by rfl) (by rfl) (fun K hK => ?_) (fun K hK => ?_)
      · have h5 : Hid (Below w4.heap.size w4 (w4.drew.alloc (.cells Z32 23))) := s0.out.alloc s0.out.size _
        have bA : Hid (Blk (w4.drew.alloc (.cells Z32 23)) w4.drew.heap.size 23 Z32) := Blk.new _ _ _
        go_simp
        refine hK _ _ h5.out ?_
        clear hK K
        refine held_only (i := 3) rfl (by kernel_rfl) (by rfl) (fun K hK => ?_)
        have h6 : Hid (Below w4.heap.size w4 ((w4.drew.alloc (.cells Z32 23)).alloc (.cells Z32 23))) := h5.out.alloc h5.out.size _
        have bB : Hid (Blk ((w4.drew.alloc (.cells Z32 23)).alloc (.cells Z32 23)) (w4.drew.alloc (.cells Z32 23)).heap.size 23 Z32) := Blk.new _ _ _
        go_simp
        refine hK _ _ h6.out ?_
        clear hK K
        have hzA : Hid ((w4.drew.alloc (.cells Z32 23)).heap.size = w4.heap.size + 1) := by show _ = _; simp
        replace bA : Hid (Blk ((w4.drew.alloc (.cells Z32 23)).alloc (.cells Z32 23)) w4.heap.size 23 Z32) := bA.out.alloc _
        replace bB : Hid (Blk ((w4.drew.alloc (.cells Z32 23)).alloc (.cells Z32 23)) (w4.heap.size + 1) 23 Z32) := by have := bB.out; rw [hzA.out] at this; exact this
        refine held_only (i := 4) rfl (by kernel_rfl) (by rfl) (fun K hK => ?_)
        refine wp_store_whole 23 (.tmp 13) (.tmp 26) rfl (w4.heap.size) ((cells8 r0).toArray) rfl rfl 23 Z32 bA.out F0.out.size F0.out.zero F0.out.one ?_
        intro w7 q7 k7
        have h7 : Hid (Below w4.heap.size w4 w7) := h6.out.trans (Kept.below_of k7 (by omega) h6.out.size)
        have o7 : Hid (Blk w7 (w4.heap.size + 1) 23 Z32) := bB.out.kept k7 (by omega)
        go_simp
        refine hK _ _ h7.out ?_
        clear hK K
        refine held_only (i := 5) rfl (by kernel_rfl) (by rfl) (fun K hK => ?_)
        refine wp_store_whole 23 (.tmp 14) (.tmp 27) rfl (w4.heap.size + 1) ((cells8 r1).toArray) rfl rfl 23 Z32 o7.out F1.out.size F1.out.zero F1.out.one ?_
        intro w8 q8 k8
        have h8 : Hid (Below w4.heap.size w4 w8) := h7.out.trans (Kept.below_of k8 (by omega) h7.out.size)
        have o8 : Hid (Blk w8 (w4.heap.size) 23 (cells8 r0).toArray) := q7.kept k8 (by omega)
        go_simp
        refine hK _ _ h8.out ?_
        clear hK K
        refine held_end (by kernel_rfl) ?_
        go_wp2_with fail
        go_meet
        case rel => exact ⟨w4.heap.size, w4.heap.size + 1, rfl, rfl, (by show _ ≠ _; omega), (by show _ ≤ _; omega), (by show _ ≤ _; omega), o8.out, q8, h8.out⟩
      · have h5 : Hid (Below w4.heap.size w4 (w4.drew.alloc (.cells Z32 23))) := s0.out.alloc s0.out.size _
        have bA : Hid (Blk (w4.drew.alloc (.cells Z32 23)) w4.drew.heap.size 23 Z32) := Blk.new _ _ _
        go_simp
        refine hK _ _ h5.out ?_
        clear hK K
        refine held_only (i := 2) rfl (by kernel_rfl) (by rfl) (fun K hK => ?_)
        have h6 : Hid (Below w4.heap.size w4 ((w4.drew.alloc (.cells Z32 23)).alloc (.cells Z32 23))) := h5.out.alloc h5.out.size _
        have bB : Hid (Blk ((w4.drew.alloc (.cells Z32 23)).alloc (.cells Z32 23)) (w4.drew.alloc (.cells Z32 23)).heap.size 23 Z32) := Blk.new _ _ _
        go_simp
        refine hK _ _ h6.out ?_
        clear hK K
        have hzA : Hid ((w4.drew.alloc (.cells Z32 23)).heap.size = w4.heap.size + 1) := by show _ = _; simp
        replace bA : Hid (Blk ((w4.drew.alloc (.cells Z32 23)).alloc (.cells Z32 23)) w4.heap.size 23 Z32) := bA.out.alloc _
        replace bB : Hid (Blk ((w4.drew.alloc (.cells Z32 23)).alloc (.cells Z32 23)) (w4.heap.size + 1) 23 Z32) := by have := bB.out; rw [hzA.out] at this; exact this
        refine held_only (i := 4) rfl (by kernel_rfl) (by rfl) (fun K hK => ?_)
        refine wp_store_whole 23 (.tmp 13) (.tmp 26) rfl (w4.heap.size + 1) ((cells8 r0).toArray) rfl rfl 23 Z32 bB.out F0.out.size F0.out.zero F0.out.one ?_
        intro w7 q7 k7
        have h7 : Hid (Below w4.heap.size w4 w7) := h6.out.trans (Kept.below_of k7 (by omega) h6.out.size)
        have o7 : Hid (Blk w7 (w4.heap.size) 23 Z32) := bA.out.kept k7 (by omega)
        go_simp
        refine hK _ _ h7.out ?_
        clear hK K
        refine held_only (i := 5) rfl (by kernel_rfl) (by rfl) (fun K hK => ?_)
        refine wp_store_whole 23 (.tmp 14) (.tmp 27) rfl (w4.heap.size) ((cells8 r1).toArray) rfl rfl 23 Z32 o7.out F1.out.size F1.out.zero F1.out.one ?_
        intro w8 q8 k8
        have h8 : Hid (Below w4.heap.size w4 w8) := h7.out.trans (Kept.below_of k8 (by omega) h7.out.size)
        have o8 : Hid (Blk w8 (w4.heap.size + 1) 23 (cells8 r0).toArray) := q7.kept k8 (by omega)
        go_simp
        refine hK _ _ h8.out ?_
        clear hK K
        refine held_end (by kernel_rfl) ?_
        go_wp2_with fail
        go_meet
        case rel => exact ⟨w4.heap.size + 1, w4.heap.size, rfl, rfl, (by show _ ≠ _; omega), (by show _ ≤ _; omega), (by show _ ≤ _; omega), o8.out, q8, h8.out⟩
    case rest =>
      obtain ⟨m13, m14, rfl, rfl, hne, hl13, hl14, hM13, hM14, hk5⟩ := hcut
      obtain ⟨w5, rfl⟩ : ∃ w5 : World, w5 = wc := ⟨_, rfl⟩
      have hb5 : Hid (Below w.heap.size w w5) := hb4.out.trans (hk5.out.mono hb4.out.size)
      have hX5 : Hid (Blk w5 w.heap.size 23 (cells8 r0).toArray) := Blk.onA hX4.out hk5.out
      have hY5 : Hid (Blk w5 (w.heap.size + 1) 23 (cells8 r1).toArray) := Blk.onA hY4.out hk5.out
      have hd : Hid (m13 ≠ m14 ∧ w.heap.size + 1 < m13 ∧ w.heap.size + 1 < m14) := by have := hne.out; have := hl13.out; have := hl14.out; have := hY4.out.lt; show _ ∧ _; omega
      clear hne hl13 hl14 hk5 hb4 hX4 hY4 e1
      by_cases ho : old = 0
      · have t1 : ((old : Int) == 0) = true := by rw [ho]; rfl
        have t0 : old = 0 := ho
        by_cases hz : size = 0
        · have t2 : ¬ ((0 : Int) < (size : Int)) := by omega
          have t3 : ((old : Int) == (size : Int)) = true := beq_iff_eq.2 (by omega)
          have t4 : ((size : Int) == 0) = true := by rw [hz]; rfl
          have hbe : r0 = vb := (hB1.out (by omega)).symm
          have hae : noneOf s = va := (hA0.out ho).symm
          have hM5 := hM13
          have hN5 := hM14
          replace hae := Lib.hid hae
          subst hbe
          clear hA0 hA1 hA2 hB0 hB1 hB2 ho hz hM13 hM14
          by_cases hv1 : va = r0
          · by_cases hv2 : r0 = r1
            · have qa : ∀ w, (Op.equalIn 10000 23 (.agg (cells8 va).toArray) (.agg (cells8 r0).toArray)).run Tryd.prog w = .ok true w := fun w => by rw [hqa.out w, decide_eq_true hv1]
              have qb : ∀ w, (Op.equalIn 10000 23 (.agg (cells8 r0).toArray) (.agg (cells8 r1).toArray)).run Tryd.prog w = .ok true w := fun w => by rw [hqb.out w, decide_eq_true hv2]
              have ha : ans = 0 := by rw [hans.out, if_pos ⟨hv1, hv2⟩]
              clear hv1 hv2
              go_wp2_with (first
                | ((with_reducible change wpList _ _ _ ({ dst := some 51, op := _, type := _, pos := _, after := _, guard := _ } :: _) _ _); refine wpList_load_row (o := ⟨some 51, _, _, _, _, _⟩) rfl 23 (.tmp 9) rfl (w.heap.size) rfl 23 ((cells8 r0).toArray) (0, 0) _ hX5.out Tryd.underlying23 rfl F0.out.size ?_)
                | ((with_reducible change wpList _ _ _ ({ dst := none, op := Op.store 23 (.tmp 14) _, type := _, pos := _, after := _, guard := _ } :: _) _ _); refine wpList_store_whole (o := ⟨none, _, _, _, _, _⟩) rfl 23 (.tmp 14) (.tmp 51) rfl (m14) ((cells8 r0).toArray) rfl rfl 23 ((cells8 r1).toArray) hN5.out F0.out.size (F0.out.same r1 l1.out) F0.out.one ?_; intro w6 q6 k6; have hN6 : Hid (Blk w6 m14 23 (cells8 r0).toArray) := q6; have hX6 : Hid (Blk w6 w.heap.size 23 (cells8 r0).toArray) := hX5.out.kept k6 (by have := hd.out; omega); have hY6 : Hid (Blk w6 (w.heap.size + 1) 23 (cells8 r1).toArray) := hY5.out.kept k6 (by have := hd.out; omega); have hb6 : Hid (Below w.heap.size w w6) := hb5.out.trans (Kept.below_of k6 (by have := hd.out; omega) hb5.out.size); have hM6 : Hid (Blk w6 m13 23 (cells8 r0).toArray) := hM5.out.kept k6 (by have := hd.out; omega); clear q6 k6)
                | (go_at_call 69; refine (hNo.out _ hb6.out).mono ?_; rw [show cutTo (sum []) (clampN s) = va from hae.out]; rintro e w7 ⟨rfl, kk7⟩; have hX7 : Hid (Blk w7 w.heap.size 23 (cells8 r0).toArray) := Blk.onA hX6.out kk7; have hY7 : Hid (Blk w7 (w.heap.size + 1) 23 (cells8 r1).toArray) := Blk.onA hY6.out kk7; have hb7 : Hid (Below w.heap.size w w7) := hb6.out.trans (kk7.mono hb6.out.size); have hM7 : Hid (Blk w7 m13 23 (cells8 r0).toArray) := Blk.onA hM6.out kk7; have hN7 : Hid (Blk w7 m14 23 (cells8 r0).toArray) := Blk.onA hN6.out kk7; clear kk7)
                | ((with_reducible change wpList _ _ _ ({ dst := none, op := Op.store 23 (.tmp 13) _, type := _, pos := _, after := _, guard := _ } :: _) _ _); refine wpList_store_whole (o := ⟨none, _, _, _, _, _⟩) rfl 23 (.tmp 13) (.tmp 55) rfl (m13) ((cells8 va).toArray) rfl rfl 23 ((cells8 r0).toArray) hM7.out Fa.out.size (Fa.out.same r0 l0.out) Fa.out.one ?_; intro w8 q8 k8; have hM8 : Hid (Blk w8 m13 23 (cells8 va).toArray) := q8; have hX8 : Hid (Blk w8 w.heap.size 23 (cells8 r0).toArray) := hX7.out.kept k8 (by have := hd.out; omega); have hY8 : Hid (Blk w8 (w.heap.size + 1) 23 (cells8 r1).toArray) := hY7.out.kept k8 (by have := hd.out; omega); have hb8 : Hid (Below w.heap.size w w8) := hb7.out.trans (Kept.below_of k8 (by have := hd.out; omega) hb7.out.size); have hN8 : Hid (Blk w8 m14 23 (cells8 r0).toArray) := hN7.out.kept k8 (by have := hd.out; omega); clear q8 k8)
                | ((with_reducible change wpList _ _ _ ({ dst := some 56, op := _, type := _, pos := _, after := _, guard := _ } :: _) _ _); refine wpList_load_row (o := ⟨some 56, _, _, _, _, _⟩) rfl 23 (.tmp 13) rfl (m13) rfl 23 ((cells8 va).toArray) (0, 0) _ hM8.out Tryd.underlying23 rfl Fa.out.size ?_)
                | ((with_reducible change wpList _ _ _ ({ dst := some 57, op := _, type := _, pos := _, after := _, guard := _ } :: _) _ _); refine wpList_load_row (o := ⟨some 57, _, _, _, _, _⟩) rfl 23 (.tmp 9) rfl (w.heap.size) rfl 23 ((cells8 r0).toArray) (0, 0) _ hX8.out Tryd.underlying23 rfl F0.out.size ?_)
                | ((with_reducible change wpList _ _ _ ({ dst := some 60, op := _, type := _, pos := _, after := _, guard := _ } :: _) _ _); refine wpList_load_rowG (o := ⟨some 60, _, _, _, _, _⟩) rfl 23 (.tmp 14) rfl (m14) rfl 23 ((cells8 r0).toArray) (0, 0) _ hN8.out Tryd.underlying23 rfl F0.out.size ?_)
                | ((with_reducible change wpList _ _ _ ({ dst := some 61, op := _, type := _, pos := _, after := _, guard := _ } :: _) _ _); refine wpList_load_rowG (o := ⟨some 61, _, _, _, _, _⟩) rfl 23 (.tmp 10) rfl (w.heap.size + 1) rfl 23 ((cells8 r1).toArray) (0, 0) _ hY8.out Tryd.underlying23 rfl F1.out.size ?_))
              go_ret
              exact ⟨by first | (rw [ha]; rfl) | rfl, hb8.out⟩
            · have qa : ∀ w, (Op.equalIn 10000 23 (.agg (cells8 va).toArray) (.agg (cells8 r0).toArray)).run Tryd.prog w = .ok true w := fun w => by rw [hqa.out w, decide_eq_true hv1]
              have qb : ∀ w, (Op.equalIn 10000 23 (.agg (cells8 r0).toArray) (.agg (cells8 r1).toArray)).run Tryd.prog w = .ok false w := fun w => by rw [hqb.out w, decide_eq_false hv2]
              have ha : ans = 171 := by rw [hans.out, if_neg (fun h => hv2 h.2)]
              clear hv1 hv2
              go_wp2_with (first
                | ((with_reducible change wpList _ _ _ ({ dst := some 51, op := _, type := _, pos := _, after := _, guard := _ } :: _) _ _); refine wpList_load_row (o := ⟨some 51, _, _, _, _, _⟩) rfl 23 (.tmp 9) rfl (w.heap.size) rfl 23 ((cells8 r0).toArray) (0, 0) _ hX5.out Tryd.underlying23 rfl F0.out.size ?_)
                | ((with_reducible change wpList _ _ _ ({ dst := none, op := Op.store 23 (.tmp 14) _, type := _, pos := _, after := _, guard := _ } :: _) _ _); refine wpList_store_whole (o := ⟨none, _, _, _, _, _⟩) rfl 23 (.tmp 14) (.tmp 51) rfl (m14) ((cells8 r0).toArray) rfl rfl 23 ((cells8 r1).toArray) hN5.out F0.out.size (F0.out.same r1 l1.out) F0.out.one ?_; intro w6 q6 k6; have hN6 : Hid (Blk w6 m14 23 (cells8 r0).toArray) := q6; have hX6 : Hid (Blk w6 w.heap.size 23 (cells8 r0).toArray) := hX5.out.kept k6 (by have := hd.out; omega); have hY6 : Hid (Blk w6 (w.heap.size + 1) 23 (cells8 r1).toArray) := hY5.out.kept k6 (by have := hd.out; omega); have hb6 : Hid (Below w.heap.size w w6) := hb5.out.trans (Kept.below_of k6 (by have := hd.out; omega) hb5.out.size); have hM6 : Hid (Blk w6 m13 23 (cells8 r0).toArray) := hM5.out.kept k6 (by have := hd.out; omega); clear q6 k6)
                | (go_at_call 69; refine (hNo.out _ hb6.out).mono ?_; rw [show cutTo (sum []) (clampN s) = va from hae.out]; rintro e w7 ⟨rfl, kk7⟩; have hX7 : Hid (Blk w7 w.heap.size 23 (cells8 r0).toArray) := Blk.onA hX6.out kk7; have hY7 : Hid (Blk w7 (w.heap.size + 1) 23 (cells8 r1).toArray) := Blk.onA hY6.out kk7; have hb7 : Hid (Below w.heap.size w w7) := hb6.out.trans (kk7.mono hb6.out.size); have hM7 : Hid (Blk w7 m13 23 (cells8 r0).toArray) := Blk.onA hM6.out kk7; have hN7 : Hid (Blk w7 m14 23 (cells8 r0).toArray) := Blk.onA hN6.out kk7; clear kk7)
                | ((with_reducible change wpList _ _ _ ({ dst := none, op := Op.store 23 (.tmp 13) _, type := _, pos := _, after := _, guard := _ } :: _) _ _); refine wpList_store_whole (o := ⟨none, _, _, _, _, _⟩) rfl 23 (.tmp 13) (.tmp 55) rfl (m13) ((cells8 va).toArray) rfl rfl 23 ((cells8 r0).toArray) hM7.out Fa.out.size (Fa.out.same r0 l0.out) Fa.out.one ?_; intro w8 q8 k8; have hM8 : Hid (Blk w8 m13 23 (cells8 va).toArray) := q8; have hX8 : Hid (Blk w8 w.heap.size 23 (cells8 r0).toArray) := hX7.out.kept k8 (by have := hd.out; omega); have hY8 : Hid (Blk w8 (w.heap.size + 1) 23 (cells8 r1).toArray) := hY7.out.kept k8 (by have := hd.out; omega); have hb8 : Hid (Below w.heap.size w w8) := hb7.out.trans (Kept.below_of k8 (by have := hd.out; omega) hb7.out.size); have hN8 : Hid (Blk w8 m14 23 (cells8 r0).toArray) := hN7.out.kept k8 (by have := hd.out; omega); clear q8 k8)
                | ((with_reducible change wpList _ _ _ ({ dst := some 56, op := _, type := _, pos := _, after := _, guard := _ } :: _) _ _); refine wpList_load_row (o := ⟨some 56, _, _, _, _, _⟩) rfl 23 (.tmp 13) rfl (m13) rfl 23 ((cells8 va).toArray) (0, 0) _ hM8.out Tryd.underlying23 rfl Fa.out.size ?_)
                | ((with_reducible change wpList _ _ _ ({ dst := some 57, op := _, type := _, pos := _, after := _, guard := _ } :: _) _ _); refine wpList_load_row (o := ⟨some 57, _, _, _, _, _⟩) rfl 23 (.tmp 9) rfl (w.heap.size) rfl 23 ((cells8 r0).toArray) (0, 0) _ hX8.out Tryd.underlying23 rfl F0.out.size ?_)
                | ((with_reducible change wpList _ _ _ ({ dst := some 60, op := _, type := _, pos := _, after := _, guard := _ } :: _) _ _); refine wpList_load_rowG (o := ⟨some 60, _, _, _, _, _⟩) rfl 23 (.tmp 14) rfl (m14) rfl 23 ((cells8 r0).toArray) (0, 0) _ hN8.out Tryd.underlying23 rfl F0.out.size ?_)
                | ((with_reducible change wpList _ _ _ ({ dst := some 61, op := _, type := _, pos := _, after := _, guard := _ } :: _) _ _); refine wpList_load_rowG (o := ⟨some 61, _, _, _, _, _⟩) rfl 23 (.tmp 10) rfl (w.heap.size + 1) rfl 23 ((cells8 r1).toArray) (0, 0) _ hY8.out Tryd.underlying23 rfl F1.out.size ?_))
              go_ret
              exact ⟨by first | (rw [ha]; rfl) | rfl, hb8.out⟩
          · have qa : ∀ w, (Op.equalIn 10000 23 (.agg (cells8 va).toArray) (.agg (cells8 r0).toArray)).run Tryd.prog w = .ok false w := fun w => by rw [hqa.out w, decide_eq_false hv1]
            have ha : ans = 171 := by rw [hans.out, if_neg (fun h => hv1 h.1)]
            clear hv1
            go_wp2_with (first
              | ((with_reducible change wpList _ _ _ ({ dst := some 51, op := _, type := _, pos := _, after := _, guard := _ } :: _) _ _); refine wpList_load_row (o := ⟨some 51, _, _, _, _, _⟩) rfl 23 (.tmp 9) rfl (w.heap.size) rfl 23 ((cells8 r0).toArray) (0, 0) _ hX5.out Tryd.underlying23 rfl F0.out.size ?_)
              | ((with_reducible change wpList _ _ _ ({ dst := none, op := Op.store 23 (.tmp 14) _, type := _, pos := _, after := _, guard := _ } :: _) _ _); refine wpList_store_whole (o := ⟨none, _, _, _, _, _⟩) rfl 23 (.tmp 14) (.tmp 51) rfl (m14) ((cells8 r0).toArray) rfl rfl 23 ((cells8 r1).toArray) hN5.out F0.out.size (F0.out.same r1 l1.out) F0.out.one ?_; intro w6 q6 k6; have hN6 : Hid (Blk w6 m14 23 (cells8 r0).toArray) := q6; have hX6 : Hid (Blk w6 w.heap.size 23 (cells8 r0).toArray) := hX5.out.kept k6 (by have := hd.out; omega); have hY6 : Hid (Blk w6 (w.heap.size + 1) 23 (cells8 r1).toArray) := hY5.out.kept k6 (by have := hd.out; omega); have hb6 : Hid (Below w.heap.size w w6) := hb5.out.trans (Kept.below_of k6 (by have := hd.out; omega) hb5.out.size); have hM6 : Hid (Blk w6 m13 23 (cells8 r0).toArray) := hM5.out.kept k6 (by have := hd.out; omega); clear q6 k6)
              | (go_at_call 69; refine (hNo.out _ hb6.out).mono ?_; rw [show cutTo (sum []) (clampN s) = va from hae.out]; rintro e w7 ⟨rfl, kk7⟩; have hX7 : Hid (Blk w7 w.heap.size 23 (cells8 r0).toArray) := Blk.onA hX6.out kk7; have hY7 : Hid (Blk w7 (w.heap.size + 1) 23 (cells8 r1).toArray) := Blk.onA hY6.out kk7; have hb7 : Hid (Below w.heap.size w w7) := hb6.out.trans (kk7.mono hb6.out.size); have hM7 : Hid (Blk w7 m13 23 (cells8 r0).toArray) := Blk.onA hM6.out kk7; have hN7 : Hid (Blk w7 m14 23 (cells8 r0).toArray) := Blk.onA hN6.out kk7; clear kk7)
              | ((with_reducible change wpList _ _ _ ({ dst := none, op := Op.store 23 (.tmp 13) _, type := _, pos := _, after := _, guard := _ } :: _) _ _); refine wpList_store_whole (o := ⟨none, _, _, _, _, _⟩) rfl 23 (.tmp 13) (.tmp 55) rfl (m13) ((cells8 va).toArray) rfl rfl 23 ((cells8 r0).toArray) hM7.out Fa.out.size (Fa.out.same r0 l0.out) Fa.out.one ?_; intro w8 q8 k8; have hM8 : Hid (Blk w8 m13 23 (cells8 va).toArray) := q8; have hX8 : Hid (Blk w8 w.heap.size 23 (cells8 r0).toArray) := hX7.out.kept k8 (by have := hd.out; omega); have hY8 : Hid (Blk w8 (w.heap.size + 1) 23 (cells8 r1).toArray) := hY7.out.kept k8 (by have := hd.out; omega); have hb8 : Hid (Below w.heap.size w w8) := hb7.out.trans (Kept.below_of k8 (by have := hd.out; omega) hb7.out.size); have hN8 : Hid (Blk w8 m14 23 (cells8 r0).toArray) := hN7.out.kept k8 (by have := hd.out; omega); clear q8 k8)
              | ((with_reducible change wpList _ _ _ ({ dst := some 56, op := _, type := _, pos := _, after := _, guard := _ } :: _) _ _); refine wpList_load_row (o := ⟨some 56, _, _, _, _, _⟩) rfl 23 (.tmp 13) rfl (m13) rfl 23 ((cells8 va).toArray) (0, 0) _ hM8.out Tryd.underlying23 rfl Fa.out.size ?_)
              | ((with_reducible change wpList _ _ _ ({ dst := some 57, op := _, type := _, pos := _, after := _, guard := _ } :: _) _ _); refine wpList_load_row (o := ⟨some 57, _, _, _, _, _⟩) rfl 23 (.tmp 9) rfl (w.heap.size) rfl 23 ((cells8 r0).toArray) (0, 0) _ hX8.out Tryd.underlying23 rfl F0.out.size ?_)
              | ((with_reducible change wpList _ _ _ ({ dst := some 60, op := _, type := _, pos := _, after := _, guard := _ } :: _) _ _); refine wpList_load_rowG (o := ⟨some 60, _, _, _, _, _⟩) rfl 23 (.tmp 14) rfl (m14) rfl 23 ((cells8 r0).toArray) (0, 0) _ hN8.out Tryd.underlying23 rfl F0.out.size ?_)
              | ((with_reducible change wpList _ _ _ ({ dst := some 61, op := _, type := _, pos := _, after := _, guard := _ } :: _) _ _); refine wpList_load_rowG (o := ⟨some 61, _, _, _, _, _⟩) rfl 23 (.tmp 10) rfl (w.heap.size + 1) rfl 23 ((cells8 r1).toArray) (0, 0) _ hY8.out Tryd.underlying23 rfl F1.out.size ?_))
            go_ret
            exact ⟨by first | (rw [ha]; rfl) | rfl, hb8.out⟩
        · have t2 : (0 : Int) < (size : Int) := by omega
          have hbe : r1 = vb := (hB0.out (by omega) ho).symm
          have hae : noneOf s = va := (hA0.out ho).symm
          have hM5 := hM13
          have hN5 := hM14
          replace hae := Lib.hid hae
          subst hbe
          clear hA0 hA1 hA2 hB0 hB1 hB2 ho hz hM13 hM14
          by_cases hv1 : va = r0
          · by_cases hv2 : r1 = r1
            · have qa : ∀ w, (Op.equalIn 10000 23 (.agg (cells8 va).toArray) (.agg (cells8 r0).toArray)).run Tryd.prog w = .ok true w := fun w => by rw [hqa.out w, decide_eq_true hv1]
              have qb : ∀ w, (Op.equalIn 10000 23 (.agg (cells8 r1).toArray) (.agg (cells8 r1).toArray)).run Tryd.prog w = .ok true w := fun w => by rw [hqb.out w, decide_eq_true hv2]
              have ha : ans = 0 := by rw [hans.out, if_pos ⟨hv1, hv2⟩]
              clear hv1 hv2
              go_wp2_with (first
                | (go_at_call 69; refine (hNo.out _ hb5.out).mono ?_; rw [show cutTo (sum []) (clampN s) = va from hae.out]; rintro e w6 ⟨rfl, kk6⟩; have hX6 : Hid (Blk w6 w.heap.size 23 (cells8 r0).toArray) := Blk.onA hX5.out kk6; have hY6 : Hid (Blk w6 (w.heap.size + 1) 23 (cells8 r1).toArray) := Blk.onA hY5.out kk6; have hb6 : Hid (Below w.heap.size w w6) := hb5.out.trans (kk6.mono hb5.out.size); have hM6 : Hid (Blk w6 m13 23 (cells8 r0).toArray) := Blk.onA hM5.out kk6; have hN6 : Hid (Blk w6 m14 23 (cells8 r1).toArray) := Blk.onA hN5.out kk6; clear kk6)
                | ((with_reducible change wpList _ _ _ ({ dst := none, op := Op.store 23 (.tmp 13) _, type := _, pos := _, after := _, guard := _ } :: _) _ _); refine wpList_store_whole (o := ⟨none, _, _, _, _, _⟩) rfl 23 (.tmp 13) (.tmp 46) rfl (m13) ((cells8 va).toArray) rfl rfl 23 ((cells8 r0).toArray) hM6.out Fa.out.size (Fa.out.same r0 l0.out) Fa.out.one ?_; intro w7 q7 k7; have hM7 : Hid (Blk w7 m13 23 (cells8 va).toArray) := q7; have hX7 : Hid (Blk w7 w.heap.size 23 (cells8 r0).toArray) := hX6.out.kept k7 (by have := hd.out; omega); have hY7 : Hid (Blk w7 (w.heap.size + 1) 23 (cells8 r1).toArray) := hY6.out.kept k7 (by have := hd.out; omega); have hb7 : Hid (Below w.heap.size w w7) := hb6.out.trans (Kept.below_of k7 (by have := hd.out; omega) hb6.out.size); have hN7 : Hid (Blk w7 m14 23 (cells8 r1).toArray) := hN6.out.kept k7 (by have := hd.out; omega); clear q7 k7)
                | ((with_reducible change wpList _ _ _ ({ dst := some 56, op := _, type := _, pos := _, after := _, guard := _ } :: _) _ _); refine wpList_load_row (o := ⟨some 56, _, _, _, _, _⟩) rfl 23 (.tmp 13) rfl (m13) rfl 23 ((cells8 va).toArray) (0, 0) _ hM7.out Tryd.underlying23 rfl Fa.out.size ?_)
                | ((with_reducible change wpList _ _ _ ({ dst := some 57, op := _, type := _, pos := _, after := _, guard := _ } :: _) _ _); refine wpList_load_row (o := ⟨some 57, _, _, _, _, _⟩) rfl 23 (.tmp 9) rfl (w.heap.size) rfl 23 ((cells8 r0).toArray) (0, 0) _ hX7.out Tryd.underlying23 rfl F0.out.size ?_)
                | ((with_reducible change wpList _ _ _ ({ dst := some 60, op := _, type := _, pos := _, after := _, guard := _ } :: _) _ _); refine wpList_load_rowG (o := ⟨some 60, _, _, _, _, _⟩) rfl 23 (.tmp 14) rfl (m14) rfl 23 ((cells8 r1).toArray) (0, 0) _ hN7.out Tryd.underlying23 rfl F1.out.size ?_)
                | ((with_reducible change wpList _ _ _ ({ dst := some 61, op := _, type := _, pos := _, after := _, guard := _ } :: _) _ _); refine wpList_load_rowG (o := ⟨some 61, _, _, _, _, _⟩) rfl 23 (.tmp 10) rfl (w.heap.size + 1) rfl 23 ((cells8 r1).toArray) (0, 0) _ hY7.out Tryd.underlying23 rfl F1.out.size ?_))
              go_ret
              exact ⟨by first | (rw [ha]; rfl) | rfl, hb7.out⟩
            · have qa : ∀ w, (Op.equalIn 10000 23 (.agg (cells8 va).toArray) (.agg (cells8 r0).toArray)).run Tryd.prog w = .ok true w := fun w => by rw [hqa.out w, decide_eq_true hv1]
              have qb : ∀ w, (Op.equalIn 10000 23 (.agg (cells8 r1).toArray) (.agg (cells8 r1).toArray)).run Tryd.prog w = .ok false w := fun w => by rw [hqb.out w, decide_eq_false hv2]
              have ha : ans = 171 := by rw [hans.out, if_neg (fun h => hv2 h.2)]
              clear hv1 hv2
              go_wp2_with (first
                | (go_at_call 69; refine (hNo.out _ hb5.out).mono ?_; rw [show cutTo (sum []) (clampN s) = va from hae.out]; rintro e w6 ⟨rfl, kk6⟩; have hX6 : Hid (Blk w6 w.heap.size 23 (cells8 r0).toArray) := Blk.onA hX5.out kk6; have hY6 : Hid (Blk w6 (w.heap.size + 1) 23 (cells8 r1).toArray) := Blk.onA hY5.out kk6; have hb6 : Hid (Below w.heap.size w w6) := hb5.out.trans (kk6.mono hb5.out.size); have hM6 : Hid (Blk w6 m13 23 (cells8 r0).toArray) := Blk.onA hM5.out kk6; have hN6 : Hid (Blk w6 m14 23 (cells8 r1).toArray) := Blk.onA hN5.out kk6; clear kk6)
                | ((with_reducible change wpList _ _ _ ({ dst := none, op := Op.store 23 (.tmp 13) _, type := _, pos := _, after := _, guard := _ } :: _) _ _); refine wpList_store_whole (o := ⟨none, _, _, _, _, _⟩) rfl 23 (.tmp 13) (.tmp 46) rfl (m13) ((cells8 va).toArray) rfl rfl 23 ((cells8 r0).toArray) hM6.out Fa.out.size (Fa.out.same r0 l0.out) Fa.out.one ?_; intro w7 q7 k7; have hM7 : Hid (Blk w7 m13 23 (cells8 va).toArray) := q7; have hX7 : Hid (Blk w7 w.heap.size 23 (cells8 r0).toArray) := hX6.out.kept k7 (by have := hd.out; omega); have hY7 : Hid (Blk w7 (w.heap.size + 1) 23 (cells8 r1).toArray) := hY6.out.kept k7 (by have := hd.out; omega); have hb7 : Hid (Below w.heap.size w w7) := hb6.out.trans (Kept.below_of k7 (by have := hd.out; omega) hb6.out.size); have hN7 : Hid (Blk w7 m14 23 (cells8 r1).toArray) := hN6.out.kept k7 (by have := hd.out; omega); clear q7 k7)
                | ((with_reducible change wpList _ _ _ ({ dst := some 56, op := _, type := _, pos := _, after := _, guard := _ } :: _) _ _); refine wpList_load_row (o := ⟨some 56, _, _, _, _, _⟩) rfl 23 (.tmp 13) rfl (m13) rfl 23 ((cells8 va).toArray) (0, 0) _ hM7.out Tryd.underlying23 rfl Fa.out.size ?_)
                | ((with_reducible change wpList _ _ _ ({ dst := some 57, op := _, type := _, pos := _, after := _, guard := _ } :: _) _ _); refine wpList_load_row (o := ⟨some 57, _, _, _, _, _⟩) rfl 23 (.tmp 9) rfl (w.heap.size) rfl 23 ((cells8 r0).toArray) (0, 0) _ hX7.out Tryd.underlying23 rfl F0.out.size ?_)
                | ((with_reducible change wpList _ _ _ ({ dst := some 60, op := _, type := _, pos := _, after := _, guard := _ } :: _) _ _); refine wpList_load_rowG (o := ⟨some 60, _, _, _, _, _⟩) rfl 23 (.tmp 14) rfl (m14) rfl 23 ((cells8 r1).toArray) (0, 0) _ hN7.out Tryd.underlying23 rfl F1.out.size ?_)
                | ((with_reducible change wpList _ _ _ ({ dst := some 61, op := _, type := _, pos := _, after := _, guard := _ } :: _) _ _); refine wpList_load_rowG (o := ⟨some 61, _, _, _, _, _⟩) rfl 23 (.tmp 10) rfl (w.heap.size + 1) rfl 23 ((cells8 r1).toArray) (0, 0) _ hY7.out Tryd.underlying23 rfl F1.out.size ?_))
              go_ret
              exact ⟨by first | (rw [ha]; rfl) | rfl, hb7.out⟩
          · have qa : ∀ w, (Op.equalIn 10000 23 (.agg (cells8 va).toArray) (.agg (cells8 r0).toArray)).run Tryd.prog w = .ok false w := fun w => by rw [hqa.out w, decide_eq_false hv1]
            have ha : ans = 171 := by rw [hans.out, if_neg (fun h => hv1 h.1)]
            clear hv1
            go_wp2_with (first
              | (go_at_call 69; refine (hNo.out _ hb5.out).mono ?_; rw [show cutTo (sum []) (clampN s) = va from hae.out]; rintro e w6 ⟨rfl, kk6⟩; have hX6 : Hid (Blk w6 w.heap.size 23 (cells8 r0).toArray) := Blk.onA hX5.out kk6; have hY6 : Hid (Blk w6 (w.heap.size + 1) 23 (cells8 r1).toArray) := Blk.onA hY5.out kk6; have hb6 : Hid (Below w.heap.size w w6) := hb5.out.trans (kk6.mono hb5.out.size); have hM6 : Hid (Blk w6 m13 23 (cells8 r0).toArray) := Blk.onA hM5.out kk6; have hN6 : Hid (Blk w6 m14 23 (cells8 r1).toArray) := Blk.onA hN5.out kk6; clear kk6)
              | ((with_reducible change wpList _ _ _ ({ dst := none, op := Op.store 23 (.tmp 13) _, type := _, pos := _, after := _, guard := _ } :: _) _ _); refine wpList_store_whole (o := ⟨none, _, _, _, _, _⟩) rfl 23 (.tmp 13) (.tmp 46) rfl (m13) ((cells8 va).toArray) rfl rfl 23 ((cells8 r0).toArray) hM6.out Fa.out.size (Fa.out.same r0 l0.out) Fa.out.one ?_; intro w7 q7 k7; have hM7 : Hid (Blk w7 m13 23 (cells8 va).toArray) := q7; have hX7 : Hid (Blk w7 w.heap.size 23 (cells8 r0).toArray) := hX6.out.kept k7 (by have := hd.out; omega); have hY7 : Hid (Blk w7 (w.heap.size + 1) 23 (cells8 r1).toArray) := hY6.out.kept k7 (by have := hd.out; omega); have hb7 : Hid (Below w.heap.size w w7) := hb6.out.trans (Kept.below_of k7 (by have := hd.out; omega) hb6.out.size); have hN7 : Hid (Blk w7 m14 23 (cells8 r1).toArray) := hN6.out.kept k7 (by have := hd.out; omega); clear q7 k7)
              | ((with_reducible change wpList _ _ _ ({ dst := some 56, op := _, type := _, pos := _, after := _, guard := _ } :: _) _ _); refine wpList_load_row (o := ⟨some 56, _, _, _, _, _⟩) rfl 23 (.tmp 13) rfl (m13) rfl 23 ((cells8 va).toArray) (0, 0) _ hM7.out Tryd.underlying23 rfl Fa.out.size ?_)
              | ((with_reducible change wpList _ _ _ ({ dst := some 57, op := _, type := _, pos := _, after := _, guard := _ } :: _) _ _); refine wpList_load_row (o := ⟨some 57, _, _, _, _, _⟩) rfl 23 (.tmp 9) rfl (w.heap.size) rfl 23 ((cells8 r0).toArray) (0, 0) _ hX7.out Tryd.underlying23 rfl F0.out.size ?_)
              | ((with_reducible change wpList _ _ _ ({ dst := some 60, op := _, type := _, pos := _, after := _, guard := _ } :: _) _ _); refine wpList_load_rowG (o := ⟨some 60, _, _, _, _, _⟩) rfl 23 (.tmp 14) rfl (m14) rfl 23 ((cells8 r1).toArray) (0, 0) _ hN7.out Tryd.underlying23 rfl F1.out.size ?_)
              | ((with_reducible change wpList _ _ _ ({ dst := some 61, op := _, type := _, pos := _, after := _, guard := _ } :: _) _ _); refine wpList_load_rowG (o := ⟨some 61, _, _, _, _, _⟩) rfl 23 (.tmp 10) rfl (w.heap.size + 1) rfl 23 ((cells8 r1).toArray) (0, 0) _ hY7.out Tryd.underlying23 rfl F1.out.size ?_))
            go_ret
            exact ⟨by first | (rw [ha]; rfl) | rfl, hb7.out⟩
      · have t1 : ((old : Int) == 0) = false := beq_eq_false_iff_ne.2 (by omega)
        have t0 : ¬ old = 0 := ho
        by_cases hz : old = size
        · have t3 : ((old : Int) == (size : Int)) = true := beq_iff_eq.2 (by omega)
          have t4 : ((size : Int) == 0) = false := beq_eq_false_iff_ne.2 (by omega)
          have t5 : ¬ size = 0 := by omega
          have hbe : r0 = vb := (hB1.out hz).symm
          have hae : r0 = va := (hA1.out ho hz).symm
          have hM5 := hM13
          have hN5 := hM14
          subst hbe
          subst hae
          clear hA0 hA1 hA2 hB0 hB1 hB2 ho hz hM13 hM14
          by_cases hv1 : r0 = r0
          · by_cases hv2 : r0 = r1
            · have qa : ∀ w, (Op.equalIn 10000 23 (.agg (cells8 r0).toArray) (.agg (cells8 r0).toArray)).run Tryd.prog w = .ok true w := fun w => by rw [hqa.out w, decide_eq_true hv1]
              have qb : ∀ w, (Op.equalIn 10000 23 (.agg (cells8 r0).toArray) (.agg (cells8 r1).toArray)).run Tryd.prog w = .ok true w := fun w => by rw [hqb.out w, decide_eq_true hv2]
              have ha : ans = 0 := by rw [hans.out, if_pos ⟨hv1, hv2⟩]
              clear hv1 hv2
              go_wp2_with (first
                | ((with_reducible change wpList _ _ _ ({ dst := some 51, op := _, type := _, pos := _, after := _, guard := _ } :: _) _ _); refine wpList_load_row (o := ⟨some 51, _, _, _, _, _⟩) rfl 23 (.tmp 9) rfl (w.heap.size) rfl 23 ((cells8 r0).toArray) (0, 0) _ hX5.out Tryd.underlying23 rfl F0.out.size ?_)
                | ((with_reducible change wpList _ _ _ ({ dst := none, op := Op.store 23 (.tmp 14) _, type := _, pos := _, after := _, guard := _ } :: _) _ _); refine wpList_store_whole (o := ⟨none, _, _, _, _, _⟩) rfl 23 (.tmp 14) (.tmp 51) rfl (m14) ((cells8 r0).toArray) rfl rfl 23 ((cells8 r1).toArray) hN5.out F0.out.size (F0.out.same r1 l1.out) F0.out.one ?_; intro w6 q6 k6; have hN6 : Hid (Blk w6 m14 23 (cells8 r0).toArray) := q6; have hX6 : Hid (Blk w6 w.heap.size 23 (cells8 r0).toArray) := hX5.out.kept k6 (by have := hd.out; omega); have hY6 : Hid (Blk w6 (w.heap.size + 1) 23 (cells8 r1).toArray) := hY5.out.kept k6 (by have := hd.out; omega); have hb6 : Hid (Below w.heap.size w w6) := hb5.out.trans (Kept.below_of k6 (by have := hd.out; omega) hb5.out.size); have hM6 : Hid (Blk w6 m13 23 (cells8 r0).toArray) := hM5.out.kept k6 (by have := hd.out; omega); clear q6 k6)
                | ((with_reducible change wpList _ _ _ ({ dst := some 56, op := _, type := _, pos := _, after := _, guard := _ } :: _) _ _); refine wpList_load_row (o := ⟨some 56, _, _, _, _, _⟩) rfl 23 (.tmp 13) rfl (m13) rfl 23 ((cells8 r0).toArray) (0, 0) _ hM6.out Tryd.underlying23 rfl F0.out.size ?_)
                | ((with_reducible change wpList _ _ _ ({ dst := some 57, op := _, type := _, pos := _, after := _, guard := _ } :: _) _ _); refine wpList_load_row (o := ⟨some 57, _, _, _, _, _⟩) rfl 23 (.tmp 9) rfl (w.heap.size) rfl 23 ((cells8 r0).toArray) (0, 0) _ hX6.out Tryd.underlying23 rfl F0.out.size ?_)
                | ((with_reducible change wpList _ _ _ ({ dst := some 60, op := _, type := _, pos := _, after := _, guard := _ } :: _) _ _); refine wpList_load_rowG (o := ⟨some 60, _, _, _, _, _⟩) rfl 23 (.tmp 14) rfl (m14) rfl 23 ((cells8 r0).toArray) (0, 0) _ hN6.out Tryd.underlying23 rfl F0.out.size ?_)
                | ((with_reducible change wpList _ _ _ ({ dst := some 61, op := _, type := _, pos := _, after := _, guard := _ } :: _) _ _); refine wpList_load_rowG (o := ⟨some 61, _, _, _, _, _⟩) rfl 23 (.tmp 10) rfl (w.heap.size + 1) rfl 23 ((cells8 r1).toArray) (0, 0) _ hY6.out Tryd.underlying23 rfl F1.out.size ?_))
              go_ret
              exact ⟨by first | (rw [ha]; rfl) | rfl, hb6.out⟩
            · have qa : ∀ w, (Op.equalIn 10000 23 (.agg (cells8 r0).toArray) (.agg (cells8 r0).toArray)).run Tryd.prog w = .ok true w := fun w => by rw [hqa.out w, decide_eq_true hv1]
              have qb : ∀ w, (Op.equalIn 10000 23 (.agg (cells8 r0).toArray) (.agg (cells8 r1).toArray)).run Tryd.prog w = .ok false w := fun w => by rw [hqb.out w, decide_eq_false hv2]
              have ha : ans = 171 := by rw [hans.out, if_neg (fun h => hv2 h.2)]
              clear hv1 hv2
              go_wp2_with (first
                | ((with_reducible change wpList _ _ _ ({ dst := some 51, op := _, type := _, pos := _, after := _, guard := _ } :: _) _ _); refine wpList_load_row (o := ⟨some 51, _, _, _, _, _⟩) rfl 23 (.tmp 9) rfl (w.heap.size) rfl 23 ((cells8 r0).toArray) (0, 0) _ hX5.out Tryd.underlying23 rfl F0.out.size ?_)
                | ((with_reducible change wpList _ _ _ ({ dst := none, op := Op.store 23 (.tmp 14) _, type := _, pos := _, after := _, guard := _ } :: _) _ _); refine wpList_store_whole (o := ⟨none, _, _, _, _, _⟩) rfl 23 (.tmp 14) (.tmp 51) rfl (m14) ((cells8 r0).toArray) rfl rfl 23 ((cells8 r1).toArray) hN5.out F0.out.size (F0.out.same r1 l1.out) F0.out.one ?_; intro w6 q6 k6; have hN6 : Hid (Blk w6 m14 23 (cells8 r0).toArray) := q6; have hX6 : Hid (Blk w6 w.heap.size 23 (cells8 r0).toArray) := hX5.out.kept k6 (by have := hd.out; omega); have hY6 : Hid (Blk w6 (w.heap.size + 1) 23 (cells8 r1).toArray) := hY5.out.kept k6 (by have := hd.out; omega); have hb6 : Hid (Below w.heap.size w w6) := hb5.out.trans (Kept.below_of k6 (by have := hd.out; omega) hb5.out.size); have hM6 : Hid (Blk w6 m13 23 (cells8 r0).toArray) := hM5.out.kept k6 (by have := hd.out; omega); clear q6 k6)
                | ((with_reducible change wpList _ _ _ ({ dst := some 56, op := _, type := _, pos := _, after := _, guard := _ } :: _) _ _); refine wpList_load_row (o := ⟨some 56, _, _, _, _, _⟩) rfl 23 (.tmp 13) rfl (m13) rfl 23 ((cells8 r0).toArray) (0, 0) _ hM6.out Tryd.underlying23 rfl F0.out.size ?_)
                | ((with_reducible change wpList _ _ _ ({ dst := some 57, op := _, type := _, pos := _, after := _, guard := _ } :: _) _ _); refine wpList_load_row (o := ⟨some 57, _, _, _, _, _⟩) rfl 23 (.tmp 9) rfl (w.heap.size) rfl 23 ((cells8 r0).toArray) (0, 0) _ hX6.out Tryd.underlying23 rfl F0.out.size ?_)
                | ((with_reducible change wpList _ _ _ ({ dst := some 60, op := _, type := _, pos := _, after := _, guard := _ } :: _) _ _); refine wpList_load_rowG (o := ⟨some 60, _, _, _, _, _⟩) rfl 23 (.tmp 14) rfl (m14) rfl 23 ((cells8 r0).toArray) (0, 0) _ hN6.out Tryd.underlying23 rfl F0.out.size ?_)
                | ((with_reducible change wpList _ _ _ ({ dst := some 61, op := _, type := _, pos := _, after := _, guard := _ } :: _) _ _); refine wpList_load_rowG (o := ⟨some 61, _, _, _, _, _⟩) rfl 23 (.tmp 10) rfl (w.heap.size + 1) rfl 23 ((cells8 r1).toArray) (0, 0) _ hY6.out Tryd.underlying23 rfl F1.out.size ?_))
              go_ret
              exact ⟨by first | (rw [ha]; rfl) | rfl, hb6.out⟩
          · have qa : ∀ w, (Op.equalIn 10000 23 (.agg (cells8 r0).toArray) (.agg (cells8 r0).toArray)).run Tryd.prog w = .ok false w := fun w => by rw [hqa.out w, decide_eq_false hv1]
            have ha : ans = 171 := by rw [hans.out, if_neg (fun h => hv1 h.1)]
            clear hv1
            go_wp2_with (first
              | ((with_reducible change wpList _ _ _ ({ dst := some 51, op := _, type := _, pos := _, after := _, guard := _ } :: _) _ _); refine wpList_load_row (o := ⟨some 51, _, _, _, _, _⟩) rfl 23 (.tmp 9) rfl (w.heap.size) rfl 23 ((cells8 r0).toArray) (0, 0) _ hX5.out Tryd.underlying23 rfl F0.out.size ?_)
              | ((with_reducible change wpList _ _ _ ({ dst := none, op := Op.store 23 (.tmp 14) _, type := _, pos := _, after := _, guard := _ } :: _) _ _); refine wpList_store_whole (o := ⟨none, _, _, _, _, _⟩) rfl 23 (.tmp 14) (.tmp 51) rfl (m14) ((cells8 r0).toArray) rfl rfl 23 ((cells8 r1).toArray) hN5.out F0.out.size (F0.out.same r1 l1.out) F0.out.one ?_; intro w6 q6 k6; have hN6 : Hid (Blk w6 m14 23 (cells8 r0).toArray) := q6; have hX6 : Hid (Blk w6 w.heap.size 23 (cells8 r0).toArray) := hX5.out.kept k6 (by have := hd.out; omega); have hY6 : Hid (Blk w6 (w.heap.size + 1) 23 (cells8 r1).toArray) := hY5.out.kept k6 (by have := hd.out; omega); have hb6 : Hid (Below w.heap.size w w6) := hb5.out.trans (Kept.below_of k6 (by have := hd.out; omega) hb5.out.size); have hM6 : Hid (Blk w6 m13 23 (cells8 r0).toArray) := hM5.out.kept k6 (by have := hd.out; omega); clear q6 k6)
              | ((with_reducible change wpList _ _ _ ({ dst := some 56, op := _, type := _, pos := _, after := _, guard := _ } :: _) _ _); refine wpList_load_row (o := ⟨some 56, _, _, _, _, _⟩) rfl 23 (.tmp 13) rfl (m13) rfl 23 ((cells8 r0).toArray) (0, 0) _ hM6.out Tryd.underlying23 rfl F0.out.size ?_)
              | ((with_reducible change wpList _ _ _ ({ dst := some 57, op := _, type := _, pos := _, after := _, guard := _ } :: _) _ _); refine wpList_load_row (o := ⟨some 57, _, _, _, _, _⟩) rfl 23 (.tmp 9) rfl (w.heap.size) rfl 23 ((cells8 r0).toArray) (0, 0) _ hX6.out Tryd.underlying23 rfl F0.out.size ?_)
              | ((with_reducible change wpList _ _ _ ({ dst := some 60, op := _, type := _, pos := _, after := _, guard := _ } :: _) _ _); refine wpList_load_rowG (o := ⟨some 60, _, _, _, _, _⟩) rfl 23 (.tmp 14) rfl (m14) rfl 23 ((cells8 r0).toArray) (0, 0) _ hN6.out Tryd.underlying23 rfl F0.out.size ?_)
              | ((with_reducible change wpList _ _ _ ({ dst := some 61, op := _, type := _, pos := _, after := _, guard := _ } :: _) _ _); refine wpList_load_rowG (o := ⟨some 61, _, _, _, _, _⟩) rfl 23 (.tmp 10) rfl (w.heap.size + 1) rfl 23 ((cells8 r1).toArray) (0, 0) _ hY6.out Tryd.underlying23 rfl F1.out.size ?_))
            go_ret
            exact ⟨by first | (rw [ha]; rfl) | rfl, hb6.out⟩
        · have t3 : ((old : Int) == (size : Int)) = false := beq_eq_false_iff_ne.2 (by omega)
          have t5 : ¬ old = size := hz
          have hbe : (aheadOf s old size r0 ds).sr = vb := (hB2.out hz ho).symm
          have hae : (aheadOf s old size r0 ds).fr = va := (hA2.out ho hz).symm
          have hAhead : Hid (∀ w', Below w.heap.size w w' → Calls Tryd.prog 70 #[.int .i64 s, .int .i64 (old : Int), .int .i64 (size : Int), .agg (cells8 r0).toArray, .slice A m c] w' (fun e w'' => ∃ A9 n9 c9, e = .returned (.tuple #[.agg (cells8 va).toArray, .agg (cells8 vb).toArray, .slice A9 n9 c9]) ∧ Below w'.heap.size w' w'')) := fun w' hb => by
            refine (hva.out w' hb (by omega) (by have := hle.out; omega)).mono ?_
            rintro e w'' ⟨A9, c9, xs, rfl, -, -, hk⟩
            rw [hae, hbe]
            exact ⟨A9, _, c9, rfl, hk⟩
          have hM5 := hM13
          have hN5 := hM14
          clear hA0 hA1 hA2 hB0 hB1 hB2 ho hz hM13 hM14 hae hbe hva
          by_cases hv1 : va = r0
          · by_cases hv2 : vb = r1
            · have qa : ∀ w, (Op.equalIn 10000 23 (.agg (cells8 va).toArray) (.agg (cells8 r0).toArray)).run Tryd.prog w = .ok true w := fun w => by rw [hqa.out w, decide_eq_true hv1]
              have qb : ∀ w, (Op.equalIn 10000 23 (.agg (cells8 vb).toArray) (.agg (cells8 r1).toArray)).run Tryd.prog w = .ok true w := fun w => by rw [hqb.out w, decide_eq_true hv2]
              have ha : ans = 0 := by rw [hans.out, if_pos ⟨hv1, hv2⟩]
              clear hv1 hv2
              go_wp2_with (first
                | ((with_reducible change wpList _ _ _ ({ dst := some 32, op := _, type := _, pos := _, after := _, guard := _ } :: _) _ _); refine wpList_load_row (o := ⟨some 32, _, _, _, _, _⟩) rfl 23 (.tmp 9) rfl (w.heap.size) rfl 23 ((cells8 r0).toArray) (0, 0) _ hX5.out Tryd.underlying23 rfl F0.out.size ?_)
                | (go_at_call 70; refine (hAhead.out _ hb5.out).mono ?_; rintro e w6 ⟨A9, n9, c9, rfl, kk6⟩; have hX6 : Hid (Blk w6 w.heap.size 23 (cells8 r0).toArray) := Blk.onA hX5.out kk6; have hY6 : Hid (Blk w6 (w.heap.size + 1) 23 (cells8 r1).toArray) := Blk.onA hY5.out kk6; have hb6 : Hid (Below w.heap.size w w6) := hb5.out.trans (kk6.mono hb5.out.size); have hM6 : Hid (Blk w6 m13 23 (cells8 r0).toArray) := Blk.onA hM5.out kk6; have hN6 : Hid (Blk w6 m14 23 (cells8 r1).toArray) := Blk.onA hN5.out kk6; clear kk6)
                | ((with_reducible change wpList _ _ _ ({ dst := none, op := Op.store 23 (.tmp 13) _, type := _, pos := _, after := _, guard := _ } :: _) _ _); refine wpList_store_whole (o := ⟨none, _, _, _, _, _⟩) rfl 23 (.tmp 13) (.tmp 35) rfl (m13) ((cells8 va).toArray) rfl rfl 23 ((cells8 r0).toArray) hM6.out Fa.out.size (Fa.out.same r0 l0.out) Fa.out.one ?_; intro w7 q7 k7; have hM7 : Hid (Blk w7 m13 23 (cells8 va).toArray) := q7; have hX7 : Hid (Blk w7 w.heap.size 23 (cells8 r0).toArray) := hX6.out.kept k7 (by have := hd.out; omega); have hY7 : Hid (Blk w7 (w.heap.size + 1) 23 (cells8 r1).toArray) := hY6.out.kept k7 (by have := hd.out; omega); have hb7 : Hid (Below w.heap.size w w7) := hb6.out.trans (Kept.below_of k7 (by have := hd.out; omega) hb6.out.size); have hN7 : Hid (Blk w7 m14 23 (cells8 r1).toArray) := hN6.out.kept k7 (by have := hd.out; omega); clear q7 k7)
                | ((with_reducible change wpList _ _ _ ({ dst := none, op := Op.store 23 (.tmp 14) _, type := _, pos := _, after := _, guard := _ } :: _) _ _); refine wpList_store_whole (o := ⟨none, _, _, _, _, _⟩) rfl 23 (.tmp 14) (.tmp 36) rfl (m14) ((cells8 vb).toArray) rfl rfl 23 ((cells8 r1).toArray) hN7.out Fb.out.size (Fb.out.same r1 l1.out) Fb.out.one ?_; intro w8 q8 k8; have hN8 : Hid (Blk w8 m14 23 (cells8 vb).toArray) := q8; have hX8 : Hid (Blk w8 w.heap.size 23 (cells8 r0).toArray) := hX7.out.kept k8 (by have := hd.out; omega); have hY8 : Hid (Blk w8 (w.heap.size + 1) 23 (cells8 r1).toArray) := hY7.out.kept k8 (by have := hd.out; omega); have hb8 : Hid (Below w.heap.size w w8) := hb7.out.trans (Kept.below_of k8 (by have := hd.out; omega) hb7.out.size); have hM8 : Hid (Blk w8 m13 23 (cells8 va).toArray) := hM7.out.kept k8 (by have := hd.out; omega); clear q8 k8)
                | ((with_reducible change wpList _ _ _ ({ dst := some 56, op := _, type := _, pos := _, after := _, guard := _ } :: _) _ _); refine wpList_load_row (o := ⟨some 56, _, _, _, _, _⟩) rfl 23 (.tmp 13) rfl (m13) rfl 23 ((cells8 va).toArray) (0, 0) _ hM8.out Tryd.underlying23 rfl Fa.out.size ?_)
                | ((with_reducible change wpList _ _ _ ({ dst := some 57, op := _, type := _, pos := _, after := _, guard := _ } :: _) _ _); refine wpList_load_row (o := ⟨some 57, _, _, _, _, _⟩) rfl 23 (.tmp 9) rfl (w.heap.size) rfl 23 ((cells8 r0).toArray) (0, 0) _ hX8.out Tryd.underlying23 rfl F0.out.size ?_)
                | ((with_reducible change wpList _ _ _ ({ dst := some 60, op := _, type := _, pos := _, after := _, guard := _ } :: _) _ _); refine wpList_load_rowG (o := ⟨some 60, _, _, _, _, _⟩) rfl 23 (.tmp 14) rfl (m14) rfl 23 ((cells8 vb).toArray) (0, 0) _ hN8.out Tryd.underlying23 rfl Fb.out.size ?_)
                | ((with_reducible change wpList _ _ _ ({ dst := some 61, op := _, type := _, pos := _, after := _, guard := _ } :: _) _ _); refine wpList_load_rowG (o := ⟨some 61, _, _, _, _, _⟩) rfl 23 (.tmp 10) rfl (w.heap.size + 1) rfl 23 ((cells8 r1).toArray) (0, 0) _ hY8.out Tryd.underlying23 rfl F1.out.size ?_))
              go_ret
              exact ⟨by first | (rw [ha]; rfl) | rfl, hb8.out⟩
            · have qa : ∀ w, (Op.equalIn 10000 23 (.agg (cells8 va).toArray) (.agg (cells8 r0).toArray)).run Tryd.prog w = .ok true w := fun w => by rw [hqa.out w, decide_eq_true hv1]
              have qb : ∀ w, (Op.equalIn 10000 23 (.agg (cells8 vb).toArray) (.agg (cells8 r1).toArray)).run Tryd.prog w = .ok false w := fun w => by rw [hqb.out w, decide_eq_false hv2]
              have ha : ans = 171 := by rw [hans.out, if_neg (fun h => hv2 h.2)]
              clear hv1 hv2
              go_wp2_with (first
                | ((with_reducible change wpList _ _ _ ({ dst := some 32, op := _, type := _, pos := _, after := _, guard := _ } :: _) _ _); refine wpList_load_row (o := ⟨some 32, _, _, _, _, _⟩) rfl 23 (.tmp 9) rfl (w.heap.size) rfl 23 ((cells8 r0).toArray) (0, 0) _ hX5.out Tryd.underlying23 rfl F0.out.size ?_)
                | (go_at_call 70; refine (hAhead.out _ hb5.out).mono ?_; rintro e w6 ⟨A9, n9, c9, rfl, kk6⟩; have hX6 : Hid (Blk w6 w.heap.size 23 (cells8 r0).toArray) := Blk.onA hX5.out kk6; have hY6 : Hid (Blk w6 (w.heap.size + 1) 23 (cells8 r1).toArray) := Blk.onA hY5.out kk6; have hb6 : Hid (Below w.heap.size w w6) := hb5.out.trans (kk6.mono hb5.out.size); have hM6 : Hid (Blk w6 m13 23 (cells8 r0).toArray) := Blk.onA hM5.out kk6; have hN6 : Hid (Blk w6 m14 23 (cells8 r1).toArray) := Blk.onA hN5.out kk6; clear kk6)
                | ((with_reducible change wpList _ _ _ ({ dst := none, op := Op.store 23 (.tmp 13) _, type := _, pos := _, after := _, guard := _ } :: _) _ _); refine wpList_store_whole (o := ⟨none, _, _, _, _, _⟩) rfl 23 (.tmp 13) (.tmp 35) rfl (m13) ((cells8 va).toArray) rfl rfl 23 ((cells8 r0).toArray) hM6.out Fa.out.size (Fa.out.same r0 l0.out) Fa.out.one ?_; intro w7 q7 k7; have hM7 : Hid (Blk w7 m13 23 (cells8 va).toArray) := q7; have hX7 : Hid (Blk w7 w.heap.size 23 (cells8 r0).toArray) := hX6.out.kept k7 (by have := hd.out; omega); have hY7 : Hid (Blk w7 (w.heap.size + 1) 23 (cells8 r1).toArray) := hY6.out.kept k7 (by have := hd.out; omega); have hb7 : Hid (Below w.heap.size w w7) := hb6.out.trans (Kept.below_of k7 (by have := hd.out; omega) hb6.out.size); have hN7 : Hid (Blk w7 m14 23 (cells8 r1).toArray) := hN6.out.kept k7 (by have := hd.out; omega); clear q7 k7)
                | ((with_reducible change wpList _ _ _ ({ dst := none, op := Op.store 23 (.tmp 14) _, type := _, pos := _, after := _, guard := _ } :: _) _ _); refine wpList_store_whole (o := ⟨none, _, _, _, _, _⟩) rfl 23 (.tmp 14) (.tmp 36) rfl (m14) ((cells8 vb).toArray) rfl rfl 23 ((cells8 r1).toArray) hN7.out Fb.out.size (Fb.out.same r1 l1.out) Fb.out.one ?_; intro w8 q8 k8; have hN8 : Hid (Blk w8 m14 23 (cells8 vb).toArray) := q8; have hX8 : Hid (Blk w8 w.heap.size 23 (cells8 r0).toArray) := hX7.out.kept k8 (by have := hd.out; omega); have hY8 : Hid (Blk w8 (w.heap.size + 1) 23 (cells8 r1).toArray) := hY7.out.kept k8 (by have := hd.out; omega); have hb8 : Hid (Below w.heap.size w w8) := hb7.out.trans (Kept.below_of k8 (by have := hd.out; omega) hb7.out.size); have hM8 : Hid (Blk w8 m13 23 (cells8 va).toArray) := hM7.out.kept k8 (by have := hd.out; omega); clear q8 k8)
                | ((with_reducible change wpList _ _ _ ({ dst := some 56, op := _, type := _, pos := _, after := _, guard := _ } :: _) _ _); refine wpList_load_row (o := ⟨some 56, _, _, _, _, _⟩) rfl 23 (.tmp 13) rfl (m13) rfl 23 ((cells8 va).toArray) (0, 0) _ hM8.out Tryd.underlying23 rfl Fa.out.size ?_)
                | ((with_reducible change wpList _ _ _ ({ dst := some 57, op := _, type := _, pos := _, after := _, guard := _ } :: _) _ _); refine wpList_load_row (o := ⟨some 57, _, _, _, _, _⟩) rfl 23 (.tmp 9) rfl (w.heap.size) rfl 23 ((cells8 r0).toArray) (0, 0) _ hX8.out Tryd.underlying23 rfl F0.out.size ?_)
                | ((with_reducible change wpList _ _ _ ({ dst := some 60, op := _, type := _, pos := _, after := _, guard := _ } :: _) _ _); refine wpList_load_rowG (o := ⟨some 60, _, _, _, _, _⟩) rfl 23 (.tmp 14) rfl (m14) rfl 23 ((cells8 vb).toArray) (0, 0) _ hN8.out Tryd.underlying23 rfl Fb.out.size ?_)
                | ((with_reducible change wpList _ _ _ ({ dst := some 61, op := _, type := _, pos := _, after := _, guard := _ } :: _) _ _); refine wpList_load_rowG (o := ⟨some 61, _, _, _, _, _⟩) rfl 23 (.tmp 10) rfl (w.heap.size + 1) rfl 23 ((cells8 r1).toArray) (0, 0) _ hY8.out Tryd.underlying23 rfl F1.out.size ?_))
              go_ret
              exact ⟨by first | (rw [ha]; rfl) | rfl, hb8.out⟩
          · have qa : ∀ w, (Op.equalIn 10000 23 (.agg (cells8 va).toArray) (.agg (cells8 r0).toArray)).run Tryd.prog w = .ok false w := fun w => by rw [hqa.out w, decide_eq_false hv1]
            have ha : ans = 171 := by rw [hans.out, if_neg (fun h => hv1 h.1)]
            clear hv1
            go_wp2_with (first
              | ((with_reducible change wpList _ _ _ ({ dst := some 32, op := _, type := _, pos := _, after := _, guard := _ } :: _) _ _); refine wpList_load_row (o := ⟨some 32, _, _, _, _, _⟩) rfl 23 (.tmp 9) rfl (w.heap.size) rfl 23 ((cells8 r0).toArray) (0, 0) _ hX5.out Tryd.underlying23 rfl F0.out.size ?_)
              | (go_at_call 70; refine (hAhead.out _ hb5.out).mono ?_; rintro e w6 ⟨A9, n9, c9, rfl, kk6⟩; have hX6 : Hid (Blk w6 w.heap.size 23 (cells8 r0).toArray) := Blk.onA hX5.out kk6; have hY6 : Hid (Blk w6 (w.heap.size + 1) 23 (cells8 r1).toArray) := Blk.onA hY5.out kk6; have hb6 : Hid (Below w.heap.size w w6) := hb5.out.trans (kk6.mono hb5.out.size); have hM6 : Hid (Blk w6 m13 23 (cells8 r0).toArray) := Blk.onA hM5.out kk6; have hN6 : Hid (Blk w6 m14 23 (cells8 r1).toArray) := Blk.onA hN5.out kk6; clear kk6)
              | ((with_reducible change wpList _ _ _ ({ dst := none, op := Op.store 23 (.tmp 13) _, type := _, pos := _, after := _, guard := _ } :: _) _ _); refine wpList_store_whole (o := ⟨none, _, _, _, _, _⟩) rfl 23 (.tmp 13) (.tmp 35) rfl (m13) ((cells8 va).toArray) rfl rfl 23 ((cells8 r0).toArray) hM6.out Fa.out.size (Fa.out.same r0 l0.out) Fa.out.one ?_; intro w7 q7 k7; have hM7 : Hid (Blk w7 m13 23 (cells8 va).toArray) := q7; have hX7 : Hid (Blk w7 w.heap.size 23 (cells8 r0).toArray) := hX6.out.kept k7 (by have := hd.out; omega); have hY7 : Hid (Blk w7 (w.heap.size + 1) 23 (cells8 r1).toArray) := hY6.out.kept k7 (by have := hd.out; omega); have hb7 : Hid (Below w.heap.size w w7) := hb6.out.trans (Kept.below_of k7 (by have := hd.out; omega) hb6.out.size); have hN7 : Hid (Blk w7 m14 23 (cells8 r1).toArray) := hN6.out.kept k7 (by have := hd.out; omega); clear q7 k7)
              | ((with_reducible change wpList _ _ _ ({ dst := none, op := Op.store 23 (.tmp 14) _, type := _, pos := _, after := _, guard := _ } :: _) _ _); refine wpList_store_whole (o := ⟨none, _, _, _, _, _⟩) rfl 23 (.tmp 14) (.tmp 36) rfl (m14) ((cells8 vb).toArray) rfl rfl 23 ((cells8 r1).toArray) hN7.out Fb.out.size (Fb.out.same r1 l1.out) Fb.out.one ?_; intro w8 q8 k8; have hN8 : Hid (Blk w8 m14 23 (cells8 vb).toArray) := q8; have hX8 : Hid (Blk w8 w.heap.size 23 (cells8 r0).toArray) := hX7.out.kept k8 (by have := hd.out; omega); have hY8 : Hid (Blk w8 (w.heap.size + 1) 23 (cells8 r1).toArray) := hY7.out.kept k8 (by have := hd.out; omega); have hb8 : Hid (Below w.heap.size w w8) := hb7.out.trans (Kept.below_of k8 (by have := hd.out; omega) hb7.out.size); have hM8 : Hid (Blk w8 m13 23 (cells8 va).toArray) := hM7.out.kept k8 (by have := hd.out; omega); clear q8 k8)
              | ((with_reducible change wpList _ _ _ ({ dst := some 56, op := _, type := _, pos := _, after := _, guard := _ } :: _) _ _); refine wpList_load_row (o := ⟨some 56, _, _, _, _, _⟩) rfl 23 (.tmp 13) rfl (m13) rfl 23 ((cells8 va).toArray) (0, 0) _ hM8.out Tryd.underlying23 rfl Fa.out.size ?_)
              | ((with_reducible change wpList _ _ _ ({ dst := some 57, op := _, type := _, pos := _, after := _, guard := _ } :: _) _ _); refine wpList_load_row (o := ⟨some 57, _, _, _, _, _⟩) rfl 23 (.tmp 9) rfl (w.heap.size) rfl 23 ((cells8 r0).toArray) (0, 0) _ hX8.out Tryd.underlying23 rfl F0.out.size ?_)
              | ((with_reducible change wpList _ _ _ ({ dst := some 60, op := _, type := _, pos := _, after := _, guard := _ } :: _) _ _); refine wpList_load_rowG (o := ⟨some 60, _, _, _, _, _⟩) rfl 23 (.tmp 14) rfl (m14) rfl 23 ((cells8 vb).toArray) (0, 0) _ hN8.out Tryd.underlying23 rfl Fb.out.size ?_)
              | ((with_reducible change wpList _ _ _ ({ dst := some 61, op := _, type := _, pos := _, after := _, guard := _ } :: _) _ _); refine wpList_load_rowG (o := ⟨some 61, _, _, _, _, _⟩) rfl 23 (.tmp 10) rfl (w.heap.size + 1) rfl 23 ((cells8 r1).toArray) (0, 0) _ hY8.out Tryd.underlying23 rfl F1.out.size ?_))
            go_ret
            exact ⟨by first | (rw [ha]; rfl) | rfl, hb8.out⟩
  · rw [if_pos hmn] at hans
    subst hans
    have e1 : ((n : Int) == (m : Int)) = false := beq_eq_false_iff_ne.2 (by omega)
    have e2 : ¬ n = m := fun e => hmn e.symm
    clear hj hB hr hs h0 h1 hpl hm han hmn
    go_enter Tryd.func25, Tryd.ntmps25
    go_wp2_with fail
    change Calls _ _ _ ((w.alloc (.cells (cells8 r0).toArray 23)).alloc (.cells (cells8 r1).toArray 23)) _
    rw [← hw0.out]
    clear hw0
    refine (hSz.out _).mono ?_
    rintro e w1 ⟨rfl, rfl⟩
    go_wp2_with fail
    refine (hPt.out _).mono ?_
    rintro e w4 ⟨v, rfl, hO, hk1⟩
    rw [hpm.out] at hO
    obtain ⟨Ap, cp, rfl, -⟩ := Append.Own.reads hO
    have hb4 : Hid (Below w.heap.size w w4) := hb0.out.trans (hk1.mono hb0.out.size)
    clear hO hk1
    go_wp2_with fail
    go_ret
    exact ⟨rfl, hb4.out⟩
theorem agree_any (s old size : Int) (r0 r1 : Text) (h0 : r0.length = 32) (h1 : r1.length = 32) (ds : List Text) (A : Option Addr) (n c : Nat) (w : World) (hB : Base w) (hr : RdD w A n ds) :
    Calls Tryd.prog 25 #[.int .i64 s, .int .i64 old, .int .i64 size, .agg (cells8 r0).toArray, .agg (cells8 r1).toArray, .slice A n c] w fun e w' => e = .returned (.int .i64 (agreeOf s old size r0 r1 ds)) ∧ Below w.heap.size w w' := by
  cases hj : joinsB old size with
  | false =>
    rw [show agreeOf s old size r0 r1 ds = 60 from if_pos hj]
    exact agree_out s old size hj r0 r1 A n c w
  | true =>
    have h2 := hj
    simp only [joinsB, Bool.and_eq_true, decide_eq_true_eq] at h2
    obtain ⟨o, rfl⟩ := Int.eq_ofNat_of_zero_le h2.1.1
    obtain ⟨z, rfl⟩ := Int.eq_ofNat_of_zero_le (show 0 ≤ size by omega)
    exact agree_in s o z (by omega) (by omega) r0 r1 h0 h1 ds A n c w hB hr
end Go.Proofs.YtpgenpogjhpeoaaDoor.Agree
