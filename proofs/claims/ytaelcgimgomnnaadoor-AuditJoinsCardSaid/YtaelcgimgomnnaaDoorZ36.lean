/-
  Texts of the claim, put into one file: RefAgree, AudJoins, AuditJoins.
-/
import Derived.Test.YtaelcgimgomnnaaDoorZ34
import Derived.Test.YtaelcgimgomnnaaDoorZ35
import Derived.Test.YtaelcgimgomnnaaDoorZ26
import Derived.Test.YtaelcgimgomnnaaDoorZ28
import Derived.Test.YtaelcgimgomnnaaDoorZ6
import Derived.Test.YtaelcgimgomnnaaDoorZ29

namespace Go.Proofs.YtaelcgimgomnnaaDoor.RefAgree
open Go Go.RowKit Go.Proofs.YtaelcgimgomnnaaDoor Go.Proofs.YtaelcgimgomnnaaDoor.Digest Go.Proofs.YtaelcgimgomnnaaDoor.Mem Go.Proofs.YtaelcgimgomnnaaDoor.Sha Go.Proofs.YtaelcgimgomnnaaDoor.ShaWalk Go.Proofs.YtaelcgimgomnnaaDoor.Bytes Go.Proofs.YtaelcgimgomnnaaDoor.Append Go.Proofs.YtaelcgimgomnnaaDoor.HashMem Go.Proofs.YtaelcgimgomnnaaDoor.DigestMem Go.Proofs.YtaelcgimgomnnaaDoor.DigestTop Go.Proofs.YtaelcgimgomnnaaDoor.RefTop Go.Proofs.YtaelcgimgomnnaaDoor.DigEq Go.Proofs.YtaelcgimgomnnaaDoor.QuietTail Go.Proofs.YtaelcgimgomnnaaDoor.Grown Go.Proofs.YtaelcgimgomnnaaDoor.TreeMath Go.Proofs.YtaelcgimgomnnaaDoor.TreeMem Go.Proofs.YtaelcgimgomnnaaDoor.TreeRoot Go.Proofs.YtaelcgimgomnnaaDoor.Held Go.Proofs.YtaelcgimgomnnaaDoor.Guard Go.Proofs.YtaelcgimgomnnaaDoor.Book Go.Proofs.YtaelcgimgomnnaaDoor.Subs Go.Proofs.YtaelcgimgomnnaaDoor.RowsP Go.Proofs.YtaelcgimgomnnaaDoor.Joint Go.Proofs.YtaelcgimgomnnaaDoor.SubRef Go.Proofs.YtaelcgimgomnnaaDoor.AheadM Go.Proofs.YtaelcgimgomnnaaDoor.AheadT Go.Proofs.YtaelcgimgomnnaaDoor.RefIncl0 Go.Proofs.YtaelcgimgomnnaaDoor.RefAhead Go.Proofs.YtaelcgimgomnnaaDoor.Agree

theorem three (old size : Int) (h : joinsB old size = false) : old < 0 ∨ (0 ≤ old ∧ size < old) ∨ (0 ≤ old ∧ old ≤ size ∧ 1099511627776 < size) := by
  simp only [joinsB, Bool.and_eq_false_iff, decide_eq_false_iff_not] at h
  omega
set_option maxRecDepth 100000 in
set_option maxHeartbeats 1000000 in
theorem refagree_out (s old size : Int) (h : joinsB old size = false) (r0 r1 : Text) (A : Option Addr) (n c : Nat) (w : World) :
    Calls Tryd.prog 77 #[.int .i64 s, .int .i64 old, .int .i64 size, .agg (cells8 r0).toArray, .agg (cells8 r1).toArray, .slice A n c] w fun e w' => e = .returned (.int .i64 60) ∧ Below w.heap.size w w' := by
  have hb : Hid (Below w.heap.size w ((w.alloc (.cells (cells8 r0).toArray 23)).alloc (.cells (cells8 r1).toArray 23))) := (Below.heap_below w _).alloc (by simp) _
  have hc := three old size h
  clear h
  rcases hc with h1 | ⟨h1, h2⟩ | ⟨h1, h2, h3⟩
  · have y1 : decide (old < 0) = true := decide_eq_true h1
    clear h1
    go_enter Tryd.func77, Tryd.ntmps77
    go_wp2_with fail
    go_ret
    exact ⟨rfl, hb.out⟩
  · have y1 : decide (old < 0) = false := decide_eq_false (by omega)
    have y2 : decide (size < old) = true := decide_eq_true h2
    clear h1 h2
    go_enter Tryd.func77, Tryd.ntmps77
    go_wp2_with fail
    go_ret
    exact ⟨rfl, hb.out⟩
  · have y1 : decide (old < 0) = false := decide_eq_false (by omega)
    have y2 : decide (size < old) = false := decide_eq_false (by omega)
    have y3 : decide (1099511627776 < size) = true := decide_eq_true h3
    clear h1 h2 h3
    go_enter Tryd.func77, Tryd.ntmps77
    go_wp2_with fail
    go_ret
    exact ⟨rfl, hb.out⟩

set_option maxRecDepth 100000 in
set_option maxHeartbeats 4000000 in
theorem refagree_in (s : Int) (hs63 : s < 9223372036854775808) (old size : Nat) (hle : old ≤ size) (hs : size ≤ 1099511627776) (r0 r1 : Text) (h0 : r0.length = 32) (h1 : r1.length = 32) (ds : List Text) (A : Option Addr) (n c : Nat) (w : World) (hr : RdD w A n ds) :
    Calls Tryd.prog 77 #[.int .i64 s, .int .i64 (old : Int), .int .i64 (size : Int), .agg (cells8 r0).toArray, .agg (cells8 r1).toArray, .slice A n c] w fun e w' => e = .returned (.int .i64 (agreeOf s old size r0 r1 ds)) ∧ Below w.heap.size w w' := by
  have hj : joinsB (old : Int) (size : Int) = true := by
    have a1 : (0 : Int) ≤ old := by omega
    have a2 : (old : Int) ≤ size := by omega
    have a3 : (size : Int) ≤ 1099511627776 := by omega
    simp [joinsB, a1, a2, a3]
  have hPt := Lib.hid (fun w' => rows_any old size hle hs w')
  have hpl := partsOf_len hle
  obtain ⟨m, hm⟩ : ∃ m, betw old size = m := ⟨_, rfl⟩
  have hans : agreeOf s old size r0 r1 ds = if m ≠ n then 170 else if agA s old size r0 ds = r0 ∧ agB s old size r0 r1 ds = r1 then 0 else 171 := by
    unfold agreeOf
    rw [if_neg (by rw [hj]; decide), Int.toNat_natCast, Int.toNat_natCast, hm, hr.1]
  obtain ⟨ans, han⟩ : ∃ a, agreeOf s old size r0 r1 ds = a := ⟨_, rfl⟩
  rw [han] at hans ⊢
  obtain ⟨w0, hw0⟩ : ∃ w0, Hid (w0 = (w.alloc (.cells (cells8 r0).toArray 23)).alloc (.cells (cells8 r1).toArray 23)) := ⟨_, rfl⟩
  have hb0 : Hid (Below w.heap.size w w0) := by show Below _ _ _; rw [hw0.out]; exact (Below.heap_below w _).alloc (by simp) _
  have hX0 : Hid (Blk w0 w.heap.size 23 (cells8 r0).toArray) := by show Blk _ _ _ _; rw [hw0.out]; exact heap_alloc2_old w _ _
  have hY0 : Hid (Blk w0 (w.heap.size + 1) 23 (cells8 r1).toArray) := by show Blk _ _ _ _; rw [hw0.out]; exact heap_alloc2_new w _ _
  have F0 := Lib.hid (fit (x := r0) h0)
  have F1 := Lib.hid (fit (x := r1) h1)
  have g1 : (0 : Int) ≤ (old : Int) := by omega
  have g3 : (0 : Int) ≤ (size : Int) := by omega
  have y1 : decide ((old : Int) < 0) = false := decide_eq_false (by omega)
  have y2 : decide (size < old) = false := decide_eq_false (by omega)
  have y3 : decide (1099511627776 < (size : Int)) = false := decide_eq_false (by omega)
  have y4 : ¬ size < old := by omega
  have hpm : Hid ((partsOf old size).length = m) := by show _ = _; rw [hpl, hm]
  by_cases hmn : m = n
  · rw [if_neg (fun h => h hmn)] at hans
    have hn : betw old size = ds.length := by rw [hm, hmn, hr.1]
    subst hmn
    have hal := agA_len (s := s) hle h0 hr.2.1 hn
    have hbl := agB_len (s := s) (r1 := r1) hle h0 h1 hr.2.1 hn
    have hva : Hid (∀ w', Below w.heap.size w w' → 1 ≤ old → old < size → Calls Tryd.prog 123 #[.int .i64 s, .int .i64 (old : Int), .int .i64 (size : Int), .agg (cells8 r0).toArray, .slice A m c] w' (RfPost w' (aheadOf s old size r0 ds))) := fun w' hb e1 e2 => refahead_any s hs63 old size e1 e2 hs r0 h0 ds A m c hm w' (hr.below hb)
    have hA0 : Hid (old = 0 → agA s old size r0 ds = noneOf s) := fun h => if_pos h
    have hA1 : Hid (old ≠ 0 → old = size → agA s old size r0 ds = r0) := fun h k => by unfold agA; rw [if_neg h, if_pos k]
    have hA2 : Hid (old ≠ 0 → old ≠ size → agA s old size r0 ds = (aheadOf s old size r0 ds).fr) := fun h k => by unfold agA; rw [if_neg h, if_neg k]
    have hB1 : Hid (old = size → agB s old size r0 r1 ds = r0) := fun h => if_pos h
    have hB0 : Hid (old ≠ size → old = 0 → agB s old size r0 r1 ds = r1) := fun h k => by unfold agB; rw [if_neg h, if_pos k]
    have hB2 : Hid (old ≠ size → old ≠ 0 → agB s old size r0 r1 ds = (aheadOf s old size r0 ds).sr) := fun h k => by unfold agB; rw [if_neg h, if_neg k]
    obtain ⟨va, hvA⟩ : ∃ v, agA s old size r0 ds = v := ⟨_, rfl⟩
    obtain ⟨vb, hvB⟩ : ∃ v, agB s old size r0 r1 ds = v := ⟨_, rfl⟩
    rw [hvA] at hans hal hA0 hA1 hA2
    rw [hvB] at hans hbl hB0 hB1 hB2
    obtain ⟨vn, hvn⟩ : ∃ v, noneOf s = v := ⟨_, rfl⟩
    have hnl : vn.length = 32 := by rw [← hvn]; exact noneOf_len s
    have hNo : Hid (∀ w', Calls Tryd.prog 122 #[.int .i64 s] w' fun e w'' => e = .returned (.agg (cells8 vn).toArray) ∧ Below w'.heap.size w' w'') := fun w' => by
      have := refnothing_any s w' hs63
      rw [show cutTo (sum []) (clampN s) = vn from hvn] at this
      exact this
    rw [hvn] at hA0
    have Fa := Lib.hid (fit (x := va) hal)
    have Fb := Lib.hid (fit (x := vb) hbl)
    have Fn := Lib.hid (fit (x := vn) hnl)
    have hqa := Lib.hid (fun w => equal_dig va r0 hal h0 w)
    have hqb := Lib.hid (fun w => equal_dig vb r1 hbl h1 w)
    have hq1 := Lib.hid (fun w => equal_dig r0 r1 h0 h1 w)
    have hq2 := Lib.hid (fun w => equal_dig r1 vn h1 hnl w)
    have hq3 := Lib.hid (fun w => equal_dig r0 vn h0 hnl w)
    have e1 : ((m : Int) == (m : Int)) = true := beq_self_eq_true _
    replace hans := Lib.hid hans
    replace hle := Lib.hid hle
    clear hj hr hs h0 h1 hpl hm han hn hal hbl hvA hvB hvn hnl hs63
    go_enter Tryd.func77, Tryd.ntmps77
    go_wp2_with fail
    change Calls _ _ _ ((w.alloc (.cells (cells8 r0).toArray 23)).alloc (.cells (cells8 r1).toArray 23)) _
    rw [← hw0.out]
    clear hw0
    refine (hPt.out _).mono ?_
    rintro e w4 ⟨v, rfl, hO, hk1⟩
    rw [hpm.out] at hO
    obtain ⟨Ap, cp, rfl, -⟩ := Append.Own.reads hO
    have hb4 : Hid (Below w.heap.size w w4) := hb0.out.trans (hk1.mono hb0.out.size)
    have hX4 : Hid (Blk w4 w.heap.size 23 (cells8 r0).toArray) := Blk.onA hX0.out hk1
    have hY4 : Hid (Blk w4 (w.heap.size + 1) 23 (cells8 r1).toArray) := Blk.onA hY0.out hk1
    clear hO hk1 hb0 hX0 hY0 hPt hpm y1 y2 y3 y4
    by_cases hz : old = size
    · have t3 : ((old : Int) == (size : Int)) = true := beq_iff_eq.2 (by omega)
      have hbe : vb = r0 := hB1.out hz
      by_cases hv1 : r0 = r1
      · have q1 : ∀ w, (Op.equalIn 10000 23 (.agg (cells8 r0).toArray) (.agg (cells8 r1).toArray)).run Tryd.prog w = .ok true w := fun w => by rw [hq1.out w, decide_eq_true hv1]
        by_cases hs0 : size = 0
        · have t4 : ((size : Int) == 0) = true := by rw [hs0]; rfl
          have ho : old = 0 := by omega
          have hae : va = vn := hA0.out ho
          by_cases hv2 : r1 = vn
          · have q2 : ∀ w, (Op.equalIn 10000 23 (.agg (cells8 r1).toArray) (.agg (cells8 vn).toArray)).run Tryd.prog w = .ok true w := fun w => by rw [hq2.out w, decide_eq_true hv2]
            have ha : ans = 0 := by rw [hans.out, if_pos ⟨by rw [hae, hv1, hv2], by rw [hbe, hv1]⟩]
            clear hv1 hv2 hae hbe
            go_wp2_with (first
              | (go_at_call 122; refine (hNo.out _).mono ?_; rintro e w5 ⟨rfl, kk5⟩; have hX5 : Hid (Blk w5 w.heap.size 23 (cells8 r0).toArray) := Blk.onA hX4.out kk5; have hY5 : Hid (Blk w5 (w.heap.size + 1) 23 (cells8 r1).toArray) := Blk.onA hY4.out kk5; have hb5 : Hid (Below w.heap.size w w5) := hb4.out.trans (kk5.mono hb4.out.size); clear kk5)
              | ((with_reducible change wpList _ _ _ ({ dst := none, op := Op.store 23 (.tmp 13) _, type := _, pos := _, after := _, guard := _ } :: _) _ _); refine wpList_store_whole (o := ⟨none, _, _, _, _, _⟩) rfl 23 (.tmp 13) (.tmp 37) rfl (w5.heap.size) ((cells8 vn).toArray) rfl rfl 23 (Z32) (Blk.new w5 _ _) Fn.out.size Fn.out.zero Fn.out.one ?_; intro w6 hN6 kk6; have k56 : Below w5.heap.size w5 w6 := kept_fresh kk6; have hX6 : Hid (Blk w6 w.heap.size 23 (cells8 r0).toArray) := Blk.onA hX5.out k56; have hY6 : Hid (Blk w6 (w.heap.size + 1) 23 (cells8 r1).toArray) := Blk.onA hY5.out k56; have hb6 : Hid (Below w.heap.size w w6) := hb5.out.trans (k56.mono hb5.out.size); replace hN6 := Lib.hid hN6; clear kk6 k56)
              | ((with_reducible change wpList _ _ _ ({ dst := some 41, op := _, type := _, pos := _, after := _, guard := _ } :: _) _ _); refine wpList_load_row (o := ⟨some 41, _, _, _, _, _⟩) rfl 23 (.tmp 9) rfl (w.heap.size) rfl 23 ((cells8 r0).toArray) (0, 0) _ hX6.out Tryd.underlying23 rfl F0.out.size ?_)
              | ((with_reducible change wpList _ _ _ ({ dst := some 42, op := _, type := _, pos := _, after := _, guard := _ } :: _) _ _); refine wpList_load_row (o := ⟨some 42, _, _, _, _, _⟩) rfl 23 (.tmp 10) rfl (w.heap.size + 1) rfl 23 ((cells8 r1).toArray) (0, 0) _ hY6.out Tryd.underlying23 rfl F1.out.size ?_)
              | ((with_reducible change wpList _ _ _ ({ dst := some 48, op := _, type := _, pos := _, after := _, guard := _ } :: _) _ _); refine wpList_load_rowG (o := ⟨some 48, _, _, _, _, _⟩) rfl 23 (.tmp 10) rfl (w.heap.size + 1) rfl 23 ((cells8 r1).toArray) (0, 0) _ hY6.out Tryd.underlying23 rfl F1.out.size ?_)
              | ((with_reducible change wpList _ _ _ ({ dst := some 49, op := _, type := _, pos := _, after := _, guard := _ } :: _) _ _); refine wpList_load_rowG (o := ⟨some 49, _, _, _, _, _⟩) rfl 23 (.tmp 13) rfl (w5.heap.size) rfl 23 ((cells8 vn).toArray) (0, 0) _ hN6.out Tryd.underlying23 rfl Fn.out.size ?_)
              | ((with_reducible change wpList _ _ _ ({ dst := some 55, op := _, type := _, pos := _, after := _, guard := _ } :: _) _ _); refine wpList_load_row (o := ⟨some 55, _, _, _, _, _⟩) rfl 23 (.tmp 9) rfl (w.heap.size) rfl 23 ((cells8 r0).toArray) (0, 0) _ hX6.out Tryd.underlying23 rfl F0.out.size ?_)
              | ((with_reducible change wpList _ _ _ ({ dst := some 56, op := _, type := _, pos := _, after := _, guard := _ } :: _) _ _); refine wpList_load_row (o := ⟨some 56, _, _, _, _, _⟩) rfl 23 (.tmp 13) rfl (w5.heap.size) rfl 23 ((cells8 vn).toArray) (0, 0) _ hN6.out Tryd.underlying23 rfl Fn.out.size ?_))
            go_ret
            exact ⟨by rw [ha]; rfl, hb6.out⟩
          · have q2 : ∀ w, (Op.equalIn 10000 23 (.agg (cells8 r1).toArray) (.agg (cells8 vn).toArray)).run Tryd.prog w = .ok false w := fun w => by rw [hq2.out w, decide_eq_false hv2]
            have ha : ans = 171 := by rw [hans.out, if_neg (fun h => hv2 (by rw [← hv1, ← h.1, hae]))]
            clear hv1 hv2 hae hbe
            go_wp2_with (first
              | (go_at_call 122; refine (hNo.out _).mono ?_; rintro e w5 ⟨rfl, kk5⟩; have hX5 : Hid (Blk w5 w.heap.size 23 (cells8 r0).toArray) := Blk.onA hX4.out kk5; have hY5 : Hid (Blk w5 (w.heap.size + 1) 23 (cells8 r1).toArray) := Blk.onA hY4.out kk5; have hb5 : Hid (Below w.heap.size w w5) := hb4.out.trans (kk5.mono hb4.out.size); clear kk5)
              | ((with_reducible change wpList _ _ _ ({ dst := none, op := Op.store 23 (.tmp 13) _, type := _, pos := _, after := _, guard := _ } :: _) _ _); refine wpList_store_whole (o := ⟨none, _, _, _, _, _⟩) rfl 23 (.tmp 13) (.tmp 37) rfl (w5.heap.size) ((cells8 vn).toArray) rfl rfl 23 (Z32) (Blk.new w5 _ _) Fn.out.size Fn.out.zero Fn.out.one ?_; intro w6 hN6 kk6; have k56 : Below w5.heap.size w5 w6 := kept_fresh kk6; have hX6 : Hid (Blk w6 w.heap.size 23 (cells8 r0).toArray) := Blk.onA hX5.out k56; have hY6 : Hid (Blk w6 (w.heap.size + 1) 23 (cells8 r1).toArray) := Blk.onA hY5.out k56; have hb6 : Hid (Below w.heap.size w w6) := hb5.out.trans (k56.mono hb5.out.size); replace hN6 := Lib.hid hN6; clear kk6 k56)
              | ((with_reducible change wpList _ _ _ ({ dst := some 41, op := _, type := _, pos := _, after := _, guard := _ } :: _) _ _); refine wpList_load_row (o := ⟨some 41, _, _, _, _, _⟩) rfl 23 (.tmp 9) rfl (w.heap.size) rfl 23 ((cells8 r0).toArray) (0, 0) _ hX6.out Tryd.underlying23 rfl F0.out.size ?_)
              | ((with_reducible change wpList _ _ _ ({ dst := some 42, op := _, type := _, pos := _, after := _, guard := _ } :: _) _ _); refine wpList_load_row (o := ⟨some 42, _, _, _, _, _⟩) rfl 23 (.tmp 10) rfl (w.heap.size + 1) rfl 23 ((cells8 r1).toArray) (0, 0) _ hY6.out Tryd.underlying23 rfl F1.out.size ?_)
              | ((with_reducible change wpList _ _ _ ({ dst := some 48, op := _, type := _, pos := _, after := _, guard := _ } :: _) _ _); refine wpList_load_rowG (o := ⟨some 48, _, _, _, _, _⟩) rfl 23 (.tmp 10) rfl (w.heap.size + 1) rfl 23 ((cells8 r1).toArray) (0, 0) _ hY6.out Tryd.underlying23 rfl F1.out.size ?_)
              | ((with_reducible change wpList _ _ _ ({ dst := some 49, op := _, type := _, pos := _, after := _, guard := _ } :: _) _ _); refine wpList_load_rowG (o := ⟨some 49, _, _, _, _, _⟩) rfl 23 (.tmp 13) rfl (w5.heap.size) rfl 23 ((cells8 vn).toArray) (0, 0) _ hN6.out Tryd.underlying23 rfl Fn.out.size ?_)
              | ((with_reducible change wpList _ _ _ ({ dst := some 55, op := _, type := _, pos := _, after := _, guard := _ } :: _) _ _); refine wpList_load_row (o := ⟨some 55, _, _, _, _, _⟩) rfl 23 (.tmp 9) rfl (w.heap.size) rfl 23 ((cells8 r0).toArray) (0, 0) _ hX6.out Tryd.underlying23 rfl F0.out.size ?_)
              | ((with_reducible change wpList _ _ _ ({ dst := some 56, op := _, type := _, pos := _, after := _, guard := _ } :: _) _ _); refine wpList_load_row (o := ⟨some 56, _, _, _, _, _⟩) rfl 23 (.tmp 13) rfl (w5.heap.size) rfl 23 ((cells8 vn).toArray) (0, 0) _ hN6.out Tryd.underlying23 rfl Fn.out.size ?_))
            go_ret
            exact ⟨by rw [ha]; rfl, hb6.out⟩
        · have t4 : ((size : Int) == 0) = false := beq_eq_false_iff_ne.2 (by omega)
          have ho : ¬ old = 0 := by omega
          have hae : va = r0 := hA1.out ho hz
          have ha : ans = 0 := by rw [hans.out, if_pos ⟨hae, by rw [hbe, hv1]⟩]
          clear hv1 hae hbe
          go_wp2_with (first
            | (go_at_call 122; refine (hNo.out _).mono ?_; rintro e w5 ⟨rfl, kk5⟩; have hX5 : Hid (Blk w5 w.heap.size 23 (cells8 r0).toArray) := Blk.onA hX4.out kk5; have hY5 : Hid (Blk w5 (w.heap.size + 1) 23 (cells8 r1).toArray) := Blk.onA hY4.out kk5; have hb5 : Hid (Below w.heap.size w w5) := hb4.out.trans (kk5.mono hb4.out.size); clear kk5)
            | ((with_reducible change wpList _ _ _ ({ dst := none, op := Op.store 23 (.tmp 13) _, type := _, pos := _, after := _, guard := _ } :: _) _ _); refine wpList_store_whole (o := ⟨none, _, _, _, _, _⟩) rfl 23 (.tmp 13) (.tmp 37) rfl (w5.heap.size) ((cells8 vn).toArray) rfl rfl 23 (Z32) (Blk.new w5 _ _) Fn.out.size Fn.out.zero Fn.out.one ?_; intro w6 hN6 kk6; have k56 : Below w5.heap.size w5 w6 := kept_fresh kk6; have hX6 : Hid (Blk w6 w.heap.size 23 (cells8 r0).toArray) := Blk.onA hX5.out k56; have hY6 : Hid (Blk w6 (w.heap.size + 1) 23 (cells8 r1).toArray) := Blk.onA hY5.out k56; have hb6 : Hid (Below w.heap.size w w6) := hb5.out.trans (k56.mono hb5.out.size); replace hN6 := Lib.hid hN6; clear kk6 k56)
            | ((with_reducible change wpList _ _ _ ({ dst := some 41, op := _, type := _, pos := _, after := _, guard := _ } :: _) _ _); refine wpList_load_row (o := ⟨some 41, _, _, _, _, _⟩) rfl 23 (.tmp 9) rfl (w.heap.size) rfl 23 ((cells8 r0).toArray) (0, 0) _ hX6.out Tryd.underlying23 rfl F0.out.size ?_)
            | ((with_reducible change wpList _ _ _ ({ dst := some 42, op := _, type := _, pos := _, after := _, guard := _ } :: _) _ _); refine wpList_load_row (o := ⟨some 42, _, _, _, _, _⟩) rfl 23 (.tmp 10) rfl (w.heap.size + 1) rfl 23 ((cells8 r1).toArray) (0, 0) _ hY6.out Tryd.underlying23 rfl F1.out.size ?_)
            | ((with_reducible change wpList _ _ _ ({ dst := some 48, op := _, type := _, pos := _, after := _, guard := _ } :: _) _ _); refine wpList_load_rowG (o := ⟨some 48, _, _, _, _, _⟩) rfl 23 (.tmp 10) rfl (w.heap.size + 1) rfl 23 ((cells8 r1).toArray) (0, 0) _ hY6.out Tryd.underlying23 rfl F1.out.size ?_)
            | ((with_reducible change wpList _ _ _ ({ dst := some 49, op := _, type := _, pos := _, after := _, guard := _ } :: _) _ _); refine wpList_load_rowG (o := ⟨some 49, _, _, _, _, _⟩) rfl 23 (.tmp 13) rfl (w5.heap.size) rfl 23 ((cells8 vn).toArray) (0, 0) _ hN6.out Tryd.underlying23 rfl Fn.out.size ?_)
            | ((with_reducible change wpList _ _ _ ({ dst := some 55, op := _, type := _, pos := _, after := _, guard := _ } :: _) _ _); refine wpList_load_row (o := ⟨some 55, _, _, _, _, _⟩) rfl 23 (.tmp 9) rfl (w.heap.size) rfl 23 ((cells8 r0).toArray) (0, 0) _ hX6.out Tryd.underlying23 rfl F0.out.size ?_)
            | ((with_reducible change wpList _ _ _ ({ dst := some 56, op := _, type := _, pos := _, after := _, guard := _ } :: _) _ _); refine wpList_load_row (o := ⟨some 56, _, _, _, _, _⟩) rfl 23 (.tmp 13) rfl (w5.heap.size) rfl 23 ((cells8 vn).toArray) (0, 0) _ hN6.out Tryd.underlying23 rfl Fn.out.size ?_))
          go_ret
          exact ⟨by rw [ha]; rfl, hb6.out⟩
      · have q1 : ∀ w, (Op.equalIn 10000 23 (.agg (cells8 r0).toArray) (.agg (cells8 r1).toArray)).run Tryd.prog w = .ok false w := fun w => by rw [hq1.out w, decide_eq_false hv1]
        have ha : ans = 171 := by rw [hans.out, if_neg (fun h => hv1 (by rw [← h.2, hbe]))]
        clear hv1 hbe
        go_wp2_with (first
          | (go_at_call 122; refine (hNo.out _).mono ?_; rintro e w5 ⟨rfl, kk5⟩; have hX5 : Hid (Blk w5 w.heap.size 23 (cells8 r0).toArray) := Blk.onA hX4.out kk5; have hY5 : Hid (Blk w5 (w.heap.size + 1) 23 (cells8 r1).toArray) := Blk.onA hY4.out kk5; have hb5 : Hid (Below w.heap.size w w5) := hb4.out.trans (kk5.mono hb4.out.size); clear kk5)
          | ((with_reducible change wpList _ _ _ ({ dst := none, op := Op.store 23 (.tmp 13) _, type := _, pos := _, after := _, guard := _ } :: _) _ _); refine wpList_store_whole (o := ⟨none, _, _, _, _, _⟩) rfl 23 (.tmp 13) (.tmp 37) rfl (w5.heap.size) ((cells8 vn).toArray) rfl rfl 23 (Z32) (Blk.new w5 _ _) Fn.out.size Fn.out.zero Fn.out.one ?_; intro w6 hN6 kk6; have k56 : Below w5.heap.size w5 w6 := kept_fresh kk6; have hX6 : Hid (Blk w6 w.heap.size 23 (cells8 r0).toArray) := Blk.onA hX5.out k56; have hY6 : Hid (Blk w6 (w.heap.size + 1) 23 (cells8 r1).toArray) := Blk.onA hY5.out k56; have hb6 : Hid (Below w.heap.size w w6) := hb5.out.trans (k56.mono hb5.out.size); replace hN6 := Lib.hid hN6; clear kk6 k56)
          | ((with_reducible change wpList _ _ _ ({ dst := some 41, op := _, type := _, pos := _, after := _, guard := _ } :: _) _ _); refine wpList_load_row (o := ⟨some 41, _, _, _, _, _⟩) rfl 23 (.tmp 9) rfl (w.heap.size) rfl 23 ((cells8 r0).toArray) (0, 0) _ hX6.out Tryd.underlying23 rfl F0.out.size ?_)
          | ((with_reducible change wpList _ _ _ ({ dst := some 42, op := _, type := _, pos := _, after := _, guard := _ } :: _) _ _); refine wpList_load_row (o := ⟨some 42, _, _, _, _, _⟩) rfl 23 (.tmp 10) rfl (w.heap.size + 1) rfl 23 ((cells8 r1).toArray) (0, 0) _ hY6.out Tryd.underlying23 rfl F1.out.size ?_)
          | ((with_reducible change wpList _ _ _ ({ dst := some 48, op := _, type := _, pos := _, after := _, guard := _ } :: _) _ _); refine wpList_load_rowG (o := ⟨some 48, _, _, _, _, _⟩) rfl 23 (.tmp 10) rfl (w.heap.size + 1) rfl 23 ((cells8 r1).toArray) (0, 0) _ hY6.out Tryd.underlying23 rfl F1.out.size ?_)
          | ((with_reducible change wpList _ _ _ ({ dst := some 49, op := _, type := _, pos := _, after := _, guard := _ } :: _) _ _); refine wpList_load_rowG (o := ⟨some 49, _, _, _, _, _⟩) rfl 23 (.tmp 13) rfl (w5.heap.size) rfl 23 ((cells8 vn).toArray) (0, 0) _ hN6.out Tryd.underlying23 rfl Fn.out.size ?_)
          | ((with_reducible change wpList _ _ _ ({ dst := some 55, op := _, type := _, pos := _, after := _, guard := _ } :: _) _ _); refine wpList_load_row (o := ⟨some 55, _, _, _, _, _⟩) rfl 23 (.tmp 9) rfl (w.heap.size) rfl 23 ((cells8 r0).toArray) (0, 0) _ hX6.out Tryd.underlying23 rfl F0.out.size ?_)
          | ((with_reducible change wpList _ _ _ ({ dst := some 56, op := _, type := _, pos := _, after := _, guard := _ } :: _) _ _); refine wpList_load_row (o := ⟨some 56, _, _, _, _, _⟩) rfl 23 (.tmp 13) rfl (w5.heap.size) rfl 23 ((cells8 vn).toArray) (0, 0) _ hN6.out Tryd.underlying23 rfl Fn.out.size ?_))
        go_ret
        exact ⟨by rw [ha]; rfl, hb6.out⟩
    · have t3 : ((old : Int) == (size : Int)) = false := beq_eq_false_iff_ne.2 (by omega)
      have t5 : ¬ old = size := hz
      by_cases ho : old = 0
      · have t1 : ((old : Int) == 0) = true := by rw [ho]; rfl
        have hae : va = vn := hA0.out ho
        have hbe : vb = r1 := hB0.out hz ho
        by_cases hv2 : r0 = vn
        · have q2 : ∀ w, (Op.equalIn 10000 23 (.agg (cells8 r0).toArray) (.agg (cells8 vn).toArray)).run Tryd.prog w = .ok true w := fun w => by rw [hq3.out w, decide_eq_true hv2]
          have ha : ans = 0 := by rw [hans.out, if_pos ⟨by rw [hae, hv2], hbe⟩]
          clear hv2 hae hbe
          go_wp2_with (first
            | (go_at_call 122; refine (hNo.out _).mono ?_; rintro e w5 ⟨rfl, kk5⟩; have hX5 : Hid (Blk w5 w.heap.size 23 (cells8 r0).toArray) := Blk.onA hX4.out kk5; have hY5 : Hid (Blk w5 (w.heap.size + 1) 23 (cells8 r1).toArray) := Blk.onA hY4.out kk5; have hb5 : Hid (Below w.heap.size w w5) := hb4.out.trans (kk5.mono hb4.out.size); clear kk5)
            | ((with_reducible change wpList _ _ _ ({ dst := none, op := Op.store 23 (.tmp 13) _, type := _, pos := _, after := _, guard := _ } :: _) _ _); refine wpList_store_whole (o := ⟨none, _, _, _, _, _⟩) rfl 23 (.tmp 13) (.tmp 37) rfl (w5.heap.size) ((cells8 vn).toArray) rfl rfl 23 (Z32) (Blk.new w5 _ _) Fn.out.size Fn.out.zero Fn.out.one ?_; intro w6 hN6 kk6; have k56 : Below w5.heap.size w5 w6 := kept_fresh kk6; have hX6 : Hid (Blk w6 w.heap.size 23 (cells8 r0).toArray) := Blk.onA hX5.out k56; have hY6 : Hid (Blk w6 (w.heap.size + 1) 23 (cells8 r1).toArray) := Blk.onA hY5.out k56; have hb6 : Hid (Below w.heap.size w w6) := hb5.out.trans (k56.mono hb5.out.size); replace hN6 := Lib.hid hN6; clear kk6 k56)
            | ((with_reducible change wpList _ _ _ ({ dst := some 41, op := _, type := _, pos := _, after := _, guard := _ } :: _) _ _); refine wpList_load_row (o := ⟨some 41, _, _, _, _, _⟩) rfl 23 (.tmp 9) rfl (w.heap.size) rfl 23 ((cells8 r0).toArray) (0, 0) _ hX6.out Tryd.underlying23 rfl F0.out.size ?_)
            | ((with_reducible change wpList _ _ _ ({ dst := some 42, op := _, type := _, pos := _, after := _, guard := _ } :: _) _ _); refine wpList_load_row (o := ⟨some 42, _, _, _, _, _⟩) rfl 23 (.tmp 10) rfl (w.heap.size + 1) rfl 23 ((cells8 r1).toArray) (0, 0) _ hY6.out Tryd.underlying23 rfl F1.out.size ?_)
            | ((with_reducible change wpList _ _ _ ({ dst := some 48, op := _, type := _, pos := _, after := _, guard := _ } :: _) _ _); refine wpList_load_rowG (o := ⟨some 48, _, _, _, _, _⟩) rfl 23 (.tmp 10) rfl (w.heap.size + 1) rfl 23 ((cells8 r1).toArray) (0, 0) _ hY6.out Tryd.underlying23 rfl F1.out.size ?_)
            | ((with_reducible change wpList _ _ _ ({ dst := some 49, op := _, type := _, pos := _, after := _, guard := _ } :: _) _ _); refine wpList_load_rowG (o := ⟨some 49, _, _, _, _, _⟩) rfl 23 (.tmp 13) rfl (w5.heap.size) rfl 23 ((cells8 vn).toArray) (0, 0) _ hN6.out Tryd.underlying23 rfl Fn.out.size ?_)
            | ((with_reducible change wpList _ _ _ ({ dst := some 55, op := _, type := _, pos := _, after := _, guard := _ } :: _) _ _); refine wpList_load_row (o := ⟨some 55, _, _, _, _, _⟩) rfl 23 (.tmp 9) rfl (w.heap.size) rfl 23 ((cells8 r0).toArray) (0, 0) _ hX6.out Tryd.underlying23 rfl F0.out.size ?_)
            | ((with_reducible change wpList _ _ _ ({ dst := some 56, op := _, type := _, pos := _, after := _, guard := _ } :: _) _ _); refine wpList_load_row (o := ⟨some 56, _, _, _, _, _⟩) rfl 23 (.tmp 13) rfl (w5.heap.size) rfl 23 ((cells8 vn).toArray) (0, 0) _ hN6.out Tryd.underlying23 rfl Fn.out.size ?_))
          go_ret
          exact ⟨by rw [ha]; rfl, hb6.out⟩
        · have q2 : ∀ w, (Op.equalIn 10000 23 (.agg (cells8 r0).toArray) (.agg (cells8 vn).toArray)).run Tryd.prog w = .ok false w := fun w => by rw [hq3.out w, decide_eq_false hv2]
          have ha : ans = 171 := by rw [hans.out, if_neg (fun h => hv2 (by rw [← h.1, hae]))]
          clear hv2 hae hbe
          go_wp2_with (first
            | (go_at_call 122; refine (hNo.out _).mono ?_; rintro e w5 ⟨rfl, kk5⟩; have hX5 : Hid (Blk w5 w.heap.size 23 (cells8 r0).toArray) := Blk.onA hX4.out kk5; have hY5 : Hid (Blk w5 (w.heap.size + 1) 23 (cells8 r1).toArray) := Blk.onA hY4.out kk5; have hb5 : Hid (Below w.heap.size w w5) := hb4.out.trans (kk5.mono hb4.out.size); clear kk5)
            | ((with_reducible change wpList _ _ _ ({ dst := none, op := Op.store 23 (.tmp 13) _, type := _, pos := _, after := _, guard := _ } :: _) _ _); refine wpList_store_whole (o := ⟨none, _, _, _, _, _⟩) rfl 23 (.tmp 13) (.tmp 37) rfl (w5.heap.size) ((cells8 vn).toArray) rfl rfl 23 (Z32) (Blk.new w5 _ _) Fn.out.size Fn.out.zero Fn.out.one ?_; intro w6 hN6 kk6; have k56 : Below w5.heap.size w5 w6 := kept_fresh kk6; have hX6 : Hid (Blk w6 w.heap.size 23 (cells8 r0).toArray) := Blk.onA hX5.out k56; have hY6 : Hid (Blk w6 (w.heap.size + 1) 23 (cells8 r1).toArray) := Blk.onA hY5.out k56; have hb6 : Hid (Below w.heap.size w w6) := hb5.out.trans (k56.mono hb5.out.size); replace hN6 := Lib.hid hN6; clear kk6 k56)
            | ((with_reducible change wpList _ _ _ ({ dst := some 41, op := _, type := _, pos := _, after := _, guard := _ } :: _) _ _); refine wpList_load_row (o := ⟨some 41, _, _, _, _, _⟩) rfl 23 (.tmp 9) rfl (w.heap.size) rfl 23 ((cells8 r0).toArray) (0, 0) _ hX6.out Tryd.underlying23 rfl F0.out.size ?_)
            | ((with_reducible change wpList _ _ _ ({ dst := some 42, op := _, type := _, pos := _, after := _, guard := _ } :: _) _ _); refine wpList_load_row (o := ⟨some 42, _, _, _, _, _⟩) rfl 23 (.tmp 10) rfl (w.heap.size + 1) rfl 23 ((cells8 r1).toArray) (0, 0) _ hY6.out Tryd.underlying23 rfl F1.out.size ?_)
            | ((with_reducible change wpList _ _ _ ({ dst := some 48, op := _, type := _, pos := _, after := _, guard := _ } :: _) _ _); refine wpList_load_rowG (o := ⟨some 48, _, _, _, _, _⟩) rfl 23 (.tmp 10) rfl (w.heap.size + 1) rfl 23 ((cells8 r1).toArray) (0, 0) _ hY6.out Tryd.underlying23 rfl F1.out.size ?_)
            | ((with_reducible change wpList _ _ _ ({ dst := some 49, op := _, type := _, pos := _, after := _, guard := _ } :: _) _ _); refine wpList_load_rowG (o := ⟨some 49, _, _, _, _, _⟩) rfl 23 (.tmp 13) rfl (w5.heap.size) rfl 23 ((cells8 vn).toArray) (0, 0) _ hN6.out Tryd.underlying23 rfl Fn.out.size ?_)
            | ((with_reducible change wpList _ _ _ ({ dst := some 55, op := _, type := _, pos := _, after := _, guard := _ } :: _) _ _); refine wpList_load_row (o := ⟨some 55, _, _, _, _, _⟩) rfl 23 (.tmp 9) rfl (w.heap.size) rfl 23 ((cells8 r0).toArray) (0, 0) _ hX6.out Tryd.underlying23 rfl F0.out.size ?_)
            | ((with_reducible change wpList _ _ _ ({ dst := some 56, op := _, type := _, pos := _, after := _, guard := _ } :: _) _ _); refine wpList_load_row (o := ⟨some 56, _, _, _, _, _⟩) rfl 23 (.tmp 13) rfl (w5.heap.size) rfl 23 ((cells8 vn).toArray) (0, 0) _ hN6.out Tryd.underlying23 rfl Fn.out.size ?_))
          go_ret
          exact ⟨by rw [ha]; rfl, hb6.out⟩
      · have t1 : ((old : Int) == 0) = false := beq_eq_false_iff_ne.2 (by omega)
        have t0 : ¬ old = 0 := ho
        have hbe : (aheadOf s old size r0 ds).sr = vb := (hB2.out hz ho).symm
        have hae : (aheadOf s old size r0 ds).fr = va := (hA2.out ho hz).symm
        have hAhead : Hid (∀ w', Below w.heap.size w w' → Calls Tryd.prog 123 #[.int .i64 s, .int .i64 (old : Int), .int .i64 (size : Int), .agg (cells8 r0).toArray, .slice A m c] w' (fun e w'' => ∃ A9 n9 c9, e = .returned (.tuple #[.agg (cells8 va).toArray, .agg (cells8 vb).toArray, .slice A9 n9 c9, .int .i64 0]) ∧ Below w'.heap.size w' w'')) := fun w' hb => by
          refine (hva.out w' hb (by omega) (by have := hle.out; omega)).mono ?_
          rintro e w'' ⟨A9, c9, xs, rfl, -, -, hk⟩
          rw [hae, hbe]
          exact ⟨A9, _, c9, rfl, hk⟩
        clear hva hae hbe
        by_cases hv1 : va = r0
        · have qa : ∀ w, (Op.equalIn 10000 23 (.agg (cells8 va).toArray) (.agg (cells8 r0).toArray)).run Tryd.prog w = .ok true w := fun w => by rw [hqa.out w, decide_eq_true hv1]
          by_cases hv2 : vb = r1
          · have qb : ∀ w, (Op.equalIn 10000 23 (.agg (cells8 vb).toArray) (.agg (cells8 r1).toArray)).run Tryd.prog w = .ok true w := fun w => by rw [hqb.out w, decide_eq_true hv2]
            have ha : ans = 0 := by rw [hans.out, if_pos ⟨hv1, hv2⟩]
            clear hv1 hv2
            go_wp2_with (first
              | (go_at_call 122; refine (hNo.out _).mono ?_; rintro e w5 ⟨rfl, kk5⟩; have hX5 : Hid (Blk w5 w.heap.size 23 (cells8 r0).toArray) := Blk.onA hX4.out kk5; have hY5 : Hid (Blk w5 (w.heap.size + 1) 23 (cells8 r1).toArray) := Blk.onA hY4.out kk5; have hb5 : Hid (Below w.heap.size w w5) := hb4.out.trans (kk5.mono hb4.out.size); clear kk5)
              | ((with_reducible change wpList _ _ _ ({ dst := none, op := Op.store 23 (.tmp 13) _, type := _, pos := _, after := _, guard := _ } :: _) _ _); refine wpList_store_whole (o := ⟨none, _, _, _, _, _⟩) rfl 23 (.tmp 13) (.tmp 37) rfl (w5.heap.size) ((cells8 vn).toArray) rfl rfl 23 (Z32) (Blk.new w5 _ _) Fn.out.size Fn.out.zero Fn.out.one ?_; intro w6 hN6 kk6; have k56 : Below w5.heap.size w5 w6 := kept_fresh kk6; have hX6 : Hid (Blk w6 w.heap.size 23 (cells8 r0).toArray) := Blk.onA hX5.out k56; have hY6 : Hid (Blk w6 (w.heap.size + 1) 23 (cells8 r1).toArray) := Blk.onA hY5.out k56; have hb6 : Hid (Below w.heap.size w w6) := hb5.out.trans (k56.mono hb5.out.size); replace hN6 := Lib.hid hN6; clear kk6 k56)
              | ((with_reducible change wpList _ _ _ ({ dst := some 62, op := _, type := _, pos := _, after := _, guard := _ } :: _) _ _); refine wpList_load_row (o := ⟨some 62, _, _, _, _, _⟩) rfl 23 (.tmp 9) rfl (w.heap.size) rfl 23 ((cells8 r0).toArray) (0, 0) _ hX6.out Tryd.underlying23 rfl F0.out.size ?_)
              | (go_at_call 123; refine (hAhead.out _ hb6.out).mono ?_; rintro e w7 ⟨A9, n9, c9, rfl, kk7⟩; have hX7 : Hid (Blk w7 w.heap.size 23 (cells8 r0).toArray) := Blk.onA hX6.out kk7; have hY7 : Hid (Blk w7 (w.heap.size + 1) 23 (cells8 r1).toArray) := Blk.onA hY6.out kk7; have hb7 : Hid (Below w.heap.size w w7) := hb6.out.trans (kk7.mono hb6.out.size); clear kk7)
              | ((with_reducible change wpList _ _ _ ({ dst := none, op := Op.store 23 (.tmp 14) _, type := _, pos := _, after := _, guard := _ } :: _) _ _); refine wpList_store_whole (o := ⟨none, _, _, _, _, _⟩) rfl 23 (.tmp 14) (.tmp 65) rfl (w7.heap.size) ((cells8 va).toArray) rfl rfl 23 (Z32) (heap_alloc2_old w7 _ _) Fa.out.size Fa.out.zero Fa.out.one ?_; intro w8 hM8 kk8; have k78 : Below w7.heap.size w7 w8 := ((Below.heap_below w7 _).alloc (by simp) _).trans (Kept.below_of kk8 (Nat.le_refl _) (by simp; omega)); have hX8 : Hid (Blk w8 w.heap.size 23 (cells8 r0).toArray) := Blk.onA hX7.out k78; have hY8 : Hid (Blk w8 (w.heap.size + 1) 23 (cells8 r1).toArray) := Blk.onA hY7.out k78; have hb8 : Hid (Below w.heap.size w w8) := hb7.out.trans (k78.mono hb7.out.size); have hN8 : Hid (Blk w8 (w7.heap.size + 1) 23 Z32) := Blk.kept (heap_alloc2_new w7 _ _) kk8 (by omega); have hlt7 := Lib.hid hY7.out.lt; replace hM8 := Lib.hid hM8; clear kk8 k78)
              | ((with_reducible change wpList _ _ _ ({ dst := none, op := Op.store 23 (.tmp 15) _, type := _, pos := _, after := _, guard := _ } :: _) _ _); refine wpList_store_whole (o := ⟨none, _, _, _, _, _⟩) rfl 23 (.tmp 15) (.tmp 66) rfl ((w7.heap.size + 1)) ((cells8 vb).toArray) rfl rfl 23 (Z32) hN8.out Fb.out.size Fb.out.zero Fb.out.one ?_; intro w9 hN9 kk9; have hX9 : Hid (Blk w9 w.heap.size 23 (cells8 r0).toArray) := hX8.out.kept kk9 (by have := hlt7.out; omega); have hY9 : Hid (Blk w9 (w.heap.size + 1) 23 (cells8 r1).toArray) := hY8.out.kept kk9 (by have := hlt7.out; omega); have hM9 : Hid (Blk w9 w7.heap.size 23 (cells8 va).toArray) := hM8.out.kept kk9 (by omega); have hb9 : Hid (Below w.heap.size w w9) := hb8.out.trans (Kept.below_of kk9 (by have := hlt7.out; omega) hb8.out.size); replace hN9 := Lib.hid hN9; clear kk9)
              | ((with_reducible change wpList _ _ _ ({ dst := some 69, op := _, type := _, pos := _, after := _, guard := _ } :: _) _ _); refine wpList_load_row (o := ⟨some 69, _, _, _, _, _⟩) rfl 23 (.tmp 14) rfl (w7.heap.size) rfl 23 ((cells8 va).toArray) (0, 0) _ hM9.out Tryd.underlying23 rfl Fa.out.size ?_)
              | ((with_reducible change wpList _ _ _ ({ dst := some 70, op := _, type := _, pos := _, after := _, guard := _ } :: _) _ _); refine wpList_load_row (o := ⟨some 70, _, _, _, _, _⟩) rfl 23 (.tmp 9) rfl (w.heap.size) rfl 23 ((cells8 r0).toArray) (0, 0) _ hX9.out Tryd.underlying23 rfl F0.out.size ?_)
              | ((with_reducible change wpList _ _ _ ({ dst := some 73, op := _, type := _, pos := _, after := _, guard := _ } :: _) _ _); refine wpList_load_rowG (o := ⟨some 73, _, _, _, _, _⟩) rfl 23 (.tmp 15) rfl (w7.heap.size + 1) rfl 23 ((cells8 vb).toArray) (0, 0) _ hN9.out Tryd.underlying23 rfl Fb.out.size ?_)
              | ((with_reducible change wpList _ _ _ ({ dst := some 74, op := _, type := _, pos := _, after := _, guard := _ } :: _) _ _); refine wpList_load_rowG (o := ⟨some 74, _, _, _, _, _⟩) rfl 23 (.tmp 10) rfl (w.heap.size + 1) rfl 23 ((cells8 r1).toArray) (0, 0) _ hY9.out Tryd.underlying23 rfl F1.out.size ?_))
            go_ret
            exact ⟨by rw [ha]; rfl, hb9.out⟩
          · have qb : ∀ w, (Op.equalIn 10000 23 (.agg (cells8 vb).toArray) (.agg (cells8 r1).toArray)).run Tryd.prog w = .ok false w := fun w => by rw [hqb.out w, decide_eq_false hv2]
            have ha : ans = 171 := by rw [hans.out, if_neg (fun h => hv2 h.2)]
            clear hv1 hv2
            go_wp2_with (first
              | (go_at_call 122; refine (hNo.out _).mono ?_; rintro e w5 ⟨rfl, kk5⟩; have hX5 : Hid (Blk w5 w.heap.size 23 (cells8 r0).toArray) := Blk.onA hX4.out kk5; have hY5 : Hid (Blk w5 (w.heap.size + 1) 23 (cells8 r1).toArray) := Blk.onA hY4.out kk5; have hb5 : Hid (Below w.heap.size w w5) := hb4.out.trans (kk5.mono hb4.out.size); clear kk5)
              | ((with_reducible change wpList _ _ _ ({ dst := none, op := Op.store 23 (.tmp 13) _, type := _, pos := _, after := _, guard := _ } :: _) _ _); refine wpList_store_whole (o := ⟨none, _, _, _, _, _⟩) rfl 23 (.tmp 13) (.tmp 37) rfl (w5.heap.size) ((cells8 vn).toArray) rfl rfl 23 (Z32) (Blk.new w5 _ _) Fn.out.size Fn.out.zero Fn.out.one ?_; intro w6 hN6 kk6; have k56 : Below w5.heap.size w5 w6 := kept_fresh kk6; have hX6 : Hid (Blk w6 w.heap.size 23 (cells8 r0).toArray) := Blk.onA hX5.out k56; have hY6 : Hid (Blk w6 (w.heap.size + 1) 23 (cells8 r1).toArray) := Blk.onA hY5.out k56; have hb6 : Hid (Below w.heap.size w w6) := hb5.out.trans (k56.mono hb5.out.size); replace hN6 := Lib.hid hN6; clear kk6 k56)
              | ((with_reducible change wpList _ _ _ ({ dst := some 62, op := _, type := _, pos := _, after := _, guard := _ } :: _) _ _); refine wpList_load_row (o := ⟨some 62, _, _, _, _, _⟩) rfl 23 (.tmp 9) rfl (w.heap.size) rfl 23 ((cells8 r0).toArray) (0, 0) _ hX6.out Tryd.underlying23 rfl F0.out.size ?_)
              | (go_at_call 123; refine (hAhead.out _ hb6.out).mono ?_; rintro e w7 ⟨A9, n9, c9, rfl, kk7⟩; have hX7 : Hid (Blk w7 w.heap.size 23 (cells8 r0).toArray) := Blk.onA hX6.out kk7; have hY7 : Hid (Blk w7 (w.heap.size + 1) 23 (cells8 r1).toArray) := Blk.onA hY6.out kk7; have hb7 : Hid (Below w.heap.size w w7) := hb6.out.trans (kk7.mono hb6.out.size); clear kk7)
              | ((with_reducible change wpList _ _ _ ({ dst := none, op := Op.store 23 (.tmp 14) _, type := _, pos := _, after := _, guard := _ } :: _) _ _); refine wpList_store_whole (o := ⟨none, _, _, _, _, _⟩) rfl 23 (.tmp 14) (.tmp 65) rfl (w7.heap.size) ((cells8 va).toArray) rfl rfl 23 (Z32) (heap_alloc2_old w7 _ _) Fa.out.size Fa.out.zero Fa.out.one ?_; intro w8 hM8 kk8; have k78 : Below w7.heap.size w7 w8 := ((Below.heap_below w7 _).alloc (by simp) _).trans (Kept.below_of kk8 (Nat.le_refl _) (by simp; omega)); have hX8 : Hid (Blk w8 w.heap.size 23 (cells8 r0).toArray) := Blk.onA hX7.out k78; have hY8 : Hid (Blk w8 (w.heap.size + 1) 23 (cells8 r1).toArray) := Blk.onA hY7.out k78; have hb8 : Hid (Below w.heap.size w w8) := hb7.out.trans (k78.mono hb7.out.size); have hN8 : Hid (Blk w8 (w7.heap.size + 1) 23 Z32) := Blk.kept (heap_alloc2_new w7 _ _) kk8 (by omega); have hlt7 := Lib.hid hY7.out.lt; replace hM8 := Lib.hid hM8; clear kk8 k78)
              | ((with_reducible change wpList _ _ _ ({ dst := none, op := Op.store 23 (.tmp 15) _, type := _, pos := _, after := _, guard := _ } :: _) _ _); refine wpList_store_whole (o := ⟨none, _, _, _, _, _⟩) rfl 23 (.tmp 15) (.tmp 66) rfl ((w7.heap.size + 1)) ((cells8 vb).toArray) rfl rfl 23 (Z32) hN8.out Fb.out.size Fb.out.zero Fb.out.one ?_; intro w9 hN9 kk9; have hX9 : Hid (Blk w9 w.heap.size 23 (cells8 r0).toArray) := hX8.out.kept kk9 (by have := hlt7.out; omega); have hY9 : Hid (Blk w9 (w.heap.size + 1) 23 (cells8 r1).toArray) := hY8.out.kept kk9 (by have := hlt7.out; omega); have hM9 : Hid (Blk w9 w7.heap.size 23 (cells8 va).toArray) := hM8.out.kept kk9 (by omega); have hb9 : Hid (Below w.heap.size w w9) := hb8.out.trans (Kept.below_of kk9 (by have := hlt7.out; omega) hb8.out.size); replace hN9 := Lib.hid hN9; clear kk9)
              | ((with_reducible change wpList _ _ _ ({ dst := some 69, op := _, type := _, pos := _, after := _, guard := _ } :: _) _ _); refine wpList_load_row (o := ⟨some 69, _, _, _, _, _⟩) rfl 23 (.tmp 14) rfl (w7.heap.size) rfl 23 ((cells8 va).toArray) (0, 0) _ hM9.out Tryd.underlying23 rfl Fa.out.size ?_)
              | ((with_reducible change wpList _ _ _ ({ dst := some 70, op := _, type := _, pos := _, after := _, guard := _ } :: _) _ _); refine wpList_load_row (o := ⟨some 70, _, _, _, _, _⟩) rfl 23 (.tmp 9) rfl (w.heap.size) rfl 23 ((cells8 r0).toArray) (0, 0) _ hX9.out Tryd.underlying23 rfl F0.out.size ?_)
              | ((with_reducible change wpList _ _ _ ({ dst := some 73, op := _, type := _, pos := _, after := _, guard := _ } :: _) _ _); refine wpList_load_rowG (o := ⟨some 73, _, _, _, _, _⟩) rfl 23 (.tmp 15) rfl (w7.heap.size + 1) rfl 23 ((cells8 vb).toArray) (0, 0) _ hN9.out Tryd.underlying23 rfl Fb.out.size ?_)
              | ((with_reducible change wpList _ _ _ ({ dst := some 74, op := _, type := _, pos := _, after := _, guard := _ } :: _) _ _); refine wpList_load_rowG (o := ⟨some 74, _, _, _, _, _⟩) rfl 23 (.tmp 10) rfl (w.heap.size + 1) rfl 23 ((cells8 r1).toArray) (0, 0) _ hY9.out Tryd.underlying23 rfl F1.out.size ?_))
            go_ret
            exact ⟨by rw [ha]; rfl, hb9.out⟩
        · have qa : ∀ w, (Op.equalIn 10000 23 (.agg (cells8 va).toArray) (.agg (cells8 r0).toArray)).run Tryd.prog w = .ok false w := fun w => by rw [hqa.out w, decide_eq_false hv1]
          have ha : ans = 171 := by rw [hans.out, if_neg (fun h => hv1 h.1)]
          clear hv1
          go_wp2_with (first
            | (go_at_call 122; refine (hNo.out _).mono ?_; rintro e w5 ⟨rfl, kk5⟩; have hX5 : Hid (Blk w5 w.heap.size 23 (cells8 r0).toArray) := Blk.onA hX4.out kk5; have hY5 : Hid (Blk w5 (w.heap.size + 1) 23 (cells8 r1).toArray) := Blk.onA hY4.out kk5; have hb5 : Hid (Below w.heap.size w w5) := hb4.out.trans (kk5.mono hb4.out.size); clear kk5)
            | ((with_reducible change wpList _ _ _ ({ dst := none, op := Op.store 23 (.tmp 13) _, type := _, pos := _, after := _, guard := _ } :: _) _ _); refine wpList_store_whole (o := ⟨none, _, _, _, _, _⟩) rfl 23 (.tmp 13) (.tmp 37) rfl (w5.heap.size) ((cells8 vn).toArray) rfl rfl 23 (Z32) (Blk.new w5 _ _) Fn.out.size Fn.out.zero Fn.out.one ?_; intro w6 hN6 kk6; have k56 : Below w5.heap.size w5 w6 := kept_fresh kk6; have hX6 : Hid (Blk w6 w.heap.size 23 (cells8 r0).toArray) := Blk.onA hX5.out k56; have hY6 : Hid (Blk w6 (w.heap.size + 1) 23 (cells8 r1).toArray) := Blk.onA hY5.out k56; have hb6 : Hid (Below w.heap.size w w6) := hb5.out.trans (k56.mono hb5.out.size); replace hN6 := Lib.hid hN6; clear kk6 k56)
            | ((with_reducible change wpList _ _ _ ({ dst := some 62, op := _, type := _, pos := _, after := _, guard := _ } :: _) _ _); refine wpList_load_row (o := ⟨some 62, _, _, _, _, _⟩) rfl 23 (.tmp 9) rfl (w.heap.size) rfl 23 ((cells8 r0).toArray) (0, 0) _ hX6.out Tryd.underlying23 rfl F0.out.size ?_)
            | (go_at_call 123; refine (hAhead.out _ hb6.out).mono ?_; rintro e w7 ⟨A9, n9, c9, rfl, kk7⟩; have hX7 : Hid (Blk w7 w.heap.size 23 (cells8 r0).toArray) := Blk.onA hX6.out kk7; have hY7 : Hid (Blk w7 (w.heap.size + 1) 23 (cells8 r1).toArray) := Blk.onA hY6.out kk7; have hb7 : Hid (Below w.heap.size w w7) := hb6.out.trans (kk7.mono hb6.out.size); clear kk7)
            | ((with_reducible change wpList _ _ _ ({ dst := none, op := Op.store 23 (.tmp 14) _, type := _, pos := _, after := _, guard := _ } :: _) _ _); refine wpList_store_whole (o := ⟨none, _, _, _, _, _⟩) rfl 23 (.tmp 14) (.tmp 65) rfl (w7.heap.size) ((cells8 va).toArray) rfl rfl 23 (Z32) (heap_alloc2_old w7 _ _) Fa.out.size Fa.out.zero Fa.out.one ?_; intro w8 hM8 kk8; have k78 : Below w7.heap.size w7 w8 := ((Below.heap_below w7 _).alloc (by simp) _).trans (Kept.below_of kk8 (Nat.le_refl _) (by simp; omega)); have hX8 : Hid (Blk w8 w.heap.size 23 (cells8 r0).toArray) := Blk.onA hX7.out k78; have hY8 : Hid (Blk w8 (w.heap.size + 1) 23 (cells8 r1).toArray) := Blk.onA hY7.out k78; have hb8 : Hid (Below w.heap.size w w8) := hb7.out.trans (k78.mono hb7.out.size); have hN8 : Hid (Blk w8 (w7.heap.size + 1) 23 Z32) := Blk.kept (heap_alloc2_new w7 _ _) kk8 (by omega); have hlt7 := Lib.hid hY7.out.lt; replace hM8 := Lib.hid hM8; clear kk8 k78)
            | ((with_reducible change wpList _ _ _ ({ dst := none, op := Op.store 23 (.tmp 15) _, type := _, pos := _, after := _, guard := _ } :: _) _ _); refine wpList_store_whole (o := ⟨none, _, _, _, _, _⟩) rfl 23 (.tmp 15) (.tmp 66) rfl ((w7.heap.size + 1)) ((cells8 vb).toArray) rfl rfl 23 (Z32) hN8.out Fb.out.size Fb.out.zero Fb.out.one ?_; intro w9 hN9 kk9; have hX9 : Hid (Blk w9 w.heap.size 23 (cells8 r0).toArray) := hX8.out.kept kk9 (by have := hlt7.out; omega); have hY9 : Hid (Blk w9 (w.heap.size + 1) 23 (cells8 r1).toArray) := hY8.out.kept kk9 (by have := hlt7.out; omega); have hM9 : Hid (Blk w9 w7.heap.size 23 (cells8 va).toArray) := hM8.out.kept kk9 (by omega); have hb9 : Hid (Below w.heap.size w w9) := hb8.out.trans (Kept.below_of kk9 (by have := hlt7.out; omega) hb8.out.size); replace hN9 := Lib.hid hN9; clear kk9)
            | ((with_reducible change wpList _ _ _ ({ dst := some 69, op := _, type := _, pos := _, after := _, guard := _ } :: _) _ _); refine wpList_load_row (o := ⟨some 69, _, _, _, _, _⟩) rfl 23 (.tmp 14) rfl (w7.heap.size) rfl 23 ((cells8 va).toArray) (0, 0) _ hM9.out Tryd.underlying23 rfl Fa.out.size ?_)
            | ((with_reducible change wpList _ _ _ ({ dst := some 70, op := _, type := _, pos := _, after := _, guard := _ } :: _) _ _); refine wpList_load_row (o := ⟨some 70, _, _, _, _, _⟩) rfl 23 (.tmp 9) rfl (w.heap.size) rfl 23 ((cells8 r0).toArray) (0, 0) _ hX9.out Tryd.underlying23 rfl F0.out.size ?_)
            | ((with_reducible change wpList _ _ _ ({ dst := some 73, op := _, type := _, pos := _, after := _, guard := _ } :: _) _ _); refine wpList_load_rowG (o := ⟨some 73, _, _, _, _, _⟩) rfl 23 (.tmp 15) rfl (w7.heap.size + 1) rfl 23 ((cells8 vb).toArray) (0, 0) _ hN9.out Tryd.underlying23 rfl Fb.out.size ?_)
            | ((with_reducible change wpList _ _ _ ({ dst := some 74, op := _, type := _, pos := _, after := _, guard := _ } :: _) _ _); refine wpList_load_rowG (o := ⟨some 74, _, _, _, _, _⟩) rfl 23 (.tmp 10) rfl (w.heap.size + 1) rfl 23 ((cells8 r1).toArray) (0, 0) _ hY9.out Tryd.underlying23 rfl F1.out.size ?_))
          go_ret
          exact ⟨by rw [ha]; rfl, hb9.out⟩
  · rw [if_pos hmn] at hans
    subst hans
    have e1 : ((n : Int) == (m : Int)) = false := beq_eq_false_iff_ne.2 (by omega)
    have e1' : ((m : Int) == (n : Int)) = false := beq_eq_false_iff_ne.2 (by omega)
    have e2 : ¬ n = m := fun e => hmn e.symm
    have e3 : ¬ m = n := hmn
    clear hj hr hs h0 h1 hpl hm han hmn
    go_enter Tryd.func77, Tryd.ntmps77
    go_wp2_with fail
    change Calls _ _ _ ((w.alloc (.cells (cells8 r0).toArray 23)).alloc (.cells (cells8 r1).toArray 23)) _
    rw [← hw0.out]
    clear hw0
    refine (hPt.out _).mono ?_
    rintro e w4 ⟨v, rfl, hO, hk1⟩
    rw [hpm.out] at hO
    obtain ⟨Ap, cp, rfl, -⟩ := Append.Own.reads hO
    have hb4 : Hid (Below w.heap.size w w4) := hb0.out.trans (hk1.mono hb0.out.size)
    clear hO hk1
    go_wp2_with fail
    go_ret
    exact ⟨rfl, hb4.out⟩
theorem refagree_any (s old size : Int) (hs63 : s < 9223372036854775808) (r0 r1 : Text) (h0 : r0.length = 32) (h1 : r1.length = 32) (ds : List Text) (A : Option Addr) (n c : Nat) (w : World) (hr : RdD w A n ds) :
    Calls Tryd.prog 77 #[.int .i64 s, .int .i64 old, .int .i64 size, .agg (cells8 r0).toArray, .agg (cells8 r1).toArray, .slice A n c] w fun e w' => e = .returned (.int .i64 (agreeOf s old size r0 r1 ds)) ∧ Below w.heap.size w w' := by
  cases hj : joinsB old size with
  | false =>
    rw [show agreeOf s old size r0 r1 ds = 60 from if_pos hj]
    exact refagree_out s old size hj r0 r1 A n c w
  | true =>
    have h2 := hj
    simp only [joinsB, Bool.and_eq_true, decide_eq_true_eq] at h2
    obtain ⟨o, rfl⟩ := Int.eq_ofNat_of_zero_le h2.1.1
    obtain ⟨z, rfl⟩ := Int.eq_ofNat_of_zero_le (show 0 ≤ size by omega)
    exact refagree_in s hs63 o z (by omega) (by omega) r0 r1 h0 h1 ds A n c w hr
end Go.Proofs.YtaelcgimgomnnaaDoor.RefAgree

namespace Go.Proofs.YtaelcgimgomnnaaDoor.AudJoins
open Go Go.RowKit Go.Proofs.YtaelcgimgomnnaaDoor Go.Proofs.YtaelcgimgomnnaaDoor.Mem Go.Proofs.YtaelcgimgomnnaaDoor.Sha Go.Proofs.YtaelcgimgomnnaaDoor.Bytes Go.Proofs.YtaelcgimgomnnaaDoor.HashMem Go.Proofs.YtaelcgimgomnnaaDoor.DigestMem Go.Proofs.YtaelcgimgomnnaaDoor.Digest Go.Proofs.YtaelcgimgomnnaaDoor.QuietTail Go.Proofs.YtaelcgimgomnnaaDoor.Grown Go.Proofs.YtaelcgimgomnnaaDoor.TreeMem Go.Proofs.YtaelcgimgomnnaaDoor.TreeRoot Go.Proofs.YtaelcgimgomnnaaDoor.Held Go.Proofs.YtaelcgimgomnnaaDoor.Guard Go.Proofs.YtaelcgimgomnnaaDoor.Subs Go.Proofs.YtaelcgimgomnnaaDoor.Agree Go.Proofs.YtaelcgimgomnnaaDoor.RefAgree Go.Proofs.YtaelcgimgomnnaaDoor.Ref17 Go.Proofs.YtaelcgimgomnnaaDoor.EncConsAny Go.Proofs.YtaelcgimgomnnaaDoor.Mem Go.Proofs.YtaelcgimgomnnaaDoor.Sha Go.Proofs.YtaelcgimgomnnaaDoor.Bytes Go.Proofs.YtaelcgimgomnnaaDoor.TreeMath Go.Proofs.YtaelcgimgomnnaaDoor.Sides Go.Proofs.YtaelcgimgomnnaaDoor.TreeMem Go.Proofs.YtaelcgimgomnnaaDoor.TreeRoot Go.Proofs.YtaelcgimgomnnaaDoor.Held Go.Proofs.YtaelcgimgomnnaaDoor.Own Go.Proofs.YtaelcgimgomnnaaDoor.ProofEnc Go.Proofs.YtaelcgimgomnnaaDoor.Ref17 Go.Proofs.YtaelcgimgomnnaaDoor.Ref17b Go.Proofs.YtaelcgimgomnnaaDoor.Subs Go.Proofs.YtaelcgimgomnnaaDoor.Betw Go.Proofs.YtaelcgimgomnnaaDoor.BetwRef Go.Proofs.YtaelcgimgomnnaaDoor.EncCons Go.Proofs.YtaelcgimgomnnaaDoor.RefCons Go.Proofs.YtaelcgimgomnnaaDoor.Book Go.Proofs.YtaelcgimgomnnaaDoor.Book2 Go.Proofs.YtaelcgimgomnnaaDoor.Within

theorem sizeK : (Tryd.prog.info? 58).map (·.size) = some 3 := by kernel_rfl
theorem oneK (x y : Int) (A : Option Addr) (n c : Nat) : ((#[Value.int .i64 x, Value.int .i64 y, Value.slice A n c] : Array Value).all fun v => v.oneCell') = true := by rw [List.all_toArray]; rfl
theorem alloc3_a (w : World) (a b c : Array Value) (t u v : TypeId) : Blk (((w.alloc (.cells a t)).alloc (.cells b u)).alloc (.cells c v)) w.heap.size t a := ((Blk.new w _ _).alloc _).alloc _
theorem alloc3_b (w : World) (a b c : Array Value) (t u v : TypeId) : Blk (((w.alloc (.cells a t)).alloc (.cells b u)).alloc (.cells c v)) (w.heap.size + 1) u b := by
  have := (Blk.new (w.alloc (.cells a t)) u b).alloc (.cells c v)
  rwa [show (w.alloc (.cells a t)).heap.size = w.heap.size + 1 by simp] at this
theorem alloc3_c (w : World) (a b c : Array Value) (t u v : TypeId) : Blk (((w.alloc (.cells a t)).alloc (.cells b u)).alloc (.cells c v)) (w.heap.size + 1 + 1) v c := by
  have := Blk.new ((w.alloc (.cells a t)).alloc (.cells b u)) v c
  rwa [show ((w.alloc (.cells a t)).alloc (.cells b u)).heap.size = w.heap.size + 1 + 1 by simp] at this
theorem alloc3_below (w : World) (a b c : Obj) : Below w.heap.size w (((w.alloc a).alloc b).alloc c) := ((Below.heap_below w _).alloc (by simp) _).alloc (by simp; omega) _
/-- What it answers whether a proof joins two roots. -/
def audJoins (s : Int) (r0 r1 : Text) (x1 x2 : Int) (ds : List Text) : Int :=
  if consWant x1 x2 ds = none ∨ withinB s ds = false then 170 else agreeOf s x1 x2 r0 r1 ds
theorem audJoins_none {s : Int} {r0 r1 : Text} {x1 x2 : Int} {ds : List Text} (h : consWant x1 x2 ds = none) : audJoins s r0 r1 x1 x2 ds = 170 := if_pos (.inl h)
theorem audJoins_wide {s : Int} {r0 r1 : Text} {x1 x2 : Int} {ds : List Text} (h : withinB s ds = false) : audJoins s r0 r1 x1 x2 ds = 170 := if_pos (.inr h)
theorem audJoins_in {s : Int} {r0 r1 : Text} {x1 x2 : Int} {ds : List Text} {b : Text} (h : consWant x1 x2 ds = some b) (h3 : withinB s ds = true) : audJoins s r0 r1 x1 x2 ds = agreeOf s x1 x2 r0 r1 ds := by
  unfold audJoins
  rw [if_neg]
  rintro (h' | h')
  · rw [h] at h'; cases h'
  · rw [h3] at h'; cases h'
theorem wantC_pos {x1 x2 : Int} {l : List Text} {b : Text} (hd : Digs l) (h : consWant x1 x2 l = some b) : 0 < b.length := by
  have := wantC_len hd h
  omega

set_option maxRecDepth 100000 in
set_option maxHeartbeats 2000000 in
theorem audJoins_any (s : Int) (r0 r1 : Text) (h0 : r0.length = 32) (h1 : r1.length = 32) (x1 x2 : Int) (ds : List Text) (A2 : Option Addr) (n c2 : Nat) (hn47 : n < 140737488355328) (w : World) (hB : Base w) (hrd : RdD w A2 n ds) :
    Calls Tryd.prog 32 #[.int .i64 s, .agg (cells8 r0).toArray, .agg (cells8 r1).toArray, .agg (inclCells x1 x2 A2 n c2)] w fun e w' => e = .returned (.int .i64 (audJoins s r0 r1 x1 x2 ds)) ∧ Below w.heap.size w w' := by
  unfold inclCells
  obtain ⟨W, hW⟩ : ∃ W, Hid (W = ((w.alloc (.cells (cells8 r0).toArray 23)).alloc (.cells (cells8 r1).toArray 23)).alloc (.cells #[Value.int .i64 x1, Value.int .i64 x2, Value.slice A2 n c2] 58)) := ⟨_, rfl⟩
  have hb1 : Hid (Below w.heap.size w W) := by show Below _ _ _; rw [hW.out]; exact alloc3_below w _ _ _
  have hX1 : Hid (Blk W w.heap.size 23 (cells8 r0).toArray) := by show Blk _ _ _ _; rw [hW.out]; exact alloc3_a w _ _ _ _ _ _
  have hY1 : Hid (Blk W (w.heap.size + 1) 23 (cells8 r1).toArray) := by show Blk _ _ _ _; rw [hW.out]; exact alloc3_b w _ _ _ _ _ _
  have hP1 : Hid (Blk W (w.heap.size + 1 + 1) 58 #[Value.int .i64 x1, Value.int .i64 x2, Value.slice A2 n c2]) := by show Blk _ _ _ _; rw [hW.out]; exact alloc3_c w _ _ _ _ _ _
  have F0 := Lib.hid (fit (x := r0) h0)
  have F1 := Lib.hid (fit (x := r1) h1)
  have hWi : Hid (∀ w', Below w.heap.size w w' → Calls Tryd.prog 54 #[.int .i64 s, .slice A2 n c2] w' fun e w'' => e = .returned (.bool (withinB s ds)) ∧ Below w'.heap.size w' w'') := fun w' hb => within_any s ds n hn47 A2 c2 w' (hrd.below hb)
  obtain ⟨ag, hag⟩ : ∃ ag, Hid (agreeOf s x1 x2 r0 r1 ds = ag) := ⟨_, Lib.hid rfl⟩
  have hAg : Hid (∀ w', Below w.heap.size w w' → Calls Tryd.prog 28 #[.int .i64 s, .int .i64 x1, .int .i64 x2, .agg (cells8 r0).toArray, .agg (cells8 r1).toArray, .slice A2 n c2] w' fun e w'' => e = .returned (.int .i64 ag) ∧ Below w'.heap.size w' w'') := fun w' hb => by
    have := agree_any s x1 x2 r0 r1 h0 h1 ds A2 n c2 w' (hB.below hb hB.1) (hrd.below hb)
    rw [hag.out] at this
    exact this
  have hsome := Lib.hid (fun b (h : consWant x1 x2 ds = some b) h3 => audJoins_in (s := s) (r0 := r0) (r1 := r1) h h3)
  rw [hag.out] at hsome
  have hnoneA := Lib.hid (fun h => audJoins_none (s := s) (r0 := r0) (r1 := r1) (x1 := x1) (x2 := x2) (ds := ds) h)
  have hwideA := Lib.hid (fun h => audJoins_wide (s := s) (r0 := r0) (r1 := r1) (x1 := x1) (x2 := x2) (ds := ds) h)
  obtain ⟨ans, hans⟩ : ∃ a, Hid (audJoins s r0 r1 x1 x2 ds = a) := ⟨_, Lib.hid rfl⟩
  rw [hans.out] at hsome hnoneA hwideA ⊢
  have hEn : Hid (∀ w', Below w.heap.size w w' → Calls Tryd.prog 75 #[.agg #[Value.int .i64 x1, Value.int .i64 x2, Value.slice A2 n c2]] w' fun e w'' => ∃ A4 c4 b err, e = .returned (.tuple #[.slice A4 b.length c4, .int .i64 err]) ∧ Reads w'' 1 A4 b.length (cells8 b) ∧ ((consWant x1 x2 ds = some b ∧ err = 0) ∨ (consWant x1 x2 ds = none ∧ b = [] ∧ err = 170)) ∧ Below w'.heap.size w' w'') := fun w' hb => encCons_any x1 x2 ds A2 n c2 w' (hrd.below hb)
  have hdg := Lib.hid hrd.2.1
  clear h0 h1 hn47 hrd hB hans
  go_enter Tryd.func32, Tryd.ntmps32
  go_wp2_with fail
  change Calls _ _ _ (((w.alloc (.cells (cells8 r0).toArray 23)).alloc (.cells (cells8 r1).toArray 23)).alloc (.cells #[Value.int .i64 x1, Value.int .i64 x2, Value.slice A2 n c2] 58)) _
  rw [← hW.out]
  clear hW
  refine (hEn.out W hb1.out).mono ?_
  rintro e w2 ⟨A4, c4, b, err, rfl, -, hbe, hk1⟩
  have hb2 : Hid (Below w.heap.size w w2) := hb1.out.trans (hk1.mono hb1.out.size)
  have hX2 : Hid (Blk w2 w.heap.size 23 (cells8 r0).toArray) := Blk.onA hX1.out hk1
  have hY2 : Hid (Blk w2 (w.heap.size + 1) 23 (cells8 r1).toArray) := Blk.onA hY1.out hk1
  have hP2 : Hid (Blk w2 (w.heap.size + 1 + 1) 58 #[Value.int .i64 x1, Value.int .i64 x2, Value.slice A2 n c2]) := Blk.onA hP1.out hk1
  clear hk1 hEn
  rcases hbe with ⟨hwt, rfl⟩ | ⟨hwt, rfl, rfl⟩
  · have hWd := Lib.hid (hWi.out w2 hb2.out)
    have hsm := Lib.hid (hsome.out b hwt)
    clear hnoneA hwt hsome
    have c2' : w2.cell? ⟨w.heap.size + 1 + 1, 2, none⟩ = some (.slice A2 n c2) := hP2.out.cell 2
    cases hwi : withinB s ds with
    | false =>
      obtain rfl := hwideA.out hwi
      rw [hwi] at hWd
      clear hwi hsm
      go_wp2_with (go_at_call 54; refine hWd.out.mono ?_; rintro e w3 ⟨rfl, hk1⟩; have hb3 : Hid (Below w.heap.size w w3) := hb2.out.trans (hk1.mono hb2.out.size); have hX3 : Hid (Blk w3 w.heap.size 23 (cells8 r0).toArray) := Blk.onA hX2.out hk1; have hY3 : Hid (Blk w3 (w.heap.size + 1) 23 (cells8 r1).toArray) := Blk.onA hY2.out hk1; have hP3 : Hid (Blk w3 (w.heap.size + 1 + 1) 58 #[Value.int .i64 x1, Value.int .i64 x2, Value.slice A2 n c2]) := Blk.onA hP2.out hk1; have d0 : w3.cell? ⟨w.heap.size + 1 + 1, 0, none⟩ = some (.int .i64 x1) := hP3.out.cell 0; have d1 : w3.cell? ⟨w.heap.size + 1 + 1, 1, none⟩ = some (.int .i64 x2) := hP3.out.cell 1; have d2 : w3.cell? ⟨w.heap.size + 1 + 1, 2, none⟩ = some (.slice A2 n c2) := hP3.out.cell 2; clear hk1)
      go_ret
      exact ⟨rfl, hb3.out⟩
    | true =>
      obtain rfl := hsm.out hwi
      rw [hwi] at hWd
      clear hwi hwideA hsm
      go_wp2_with (first
        | (go_at_call 54; refine hWd.out.mono ?_; rintro e w3 ⟨rfl, hk1⟩; have hb3 : Hid (Below w.heap.size w w3) := hb2.out.trans (hk1.mono hb2.out.size); have hX3 : Hid (Blk w3 w.heap.size 23 (cells8 r0).toArray) := Blk.onA hX2.out hk1; have hY3 : Hid (Blk w3 (w.heap.size + 1) 23 (cells8 r1).toArray) := Blk.onA hY2.out hk1; have hP3 : Hid (Blk w3 (w.heap.size + 1 + 1) 58 #[Value.int .i64 x1, Value.int .i64 x2, Value.slice A2 n c2]) := Blk.onA hP2.out hk1; have d0 : w3.cell? ⟨w.heap.size + 1 + 1, 0, none⟩ = some (.int .i64 x1) := hP3.out.cell 0; have d1 : w3.cell? ⟨w.heap.size + 1 + 1, 1, none⟩ = some (.int .i64 x2) := hP3.out.cell 1; have d2 : w3.cell? ⟨w.heap.size + 1 + 1, 2, none⟩ = some (.slice A2 n c2) := hP3.out.cell 2; clear hk1)
        | ((with_reducible change wpList _ _ _ ({ dst := some 30, op := _, type := _, pos := _, after := _, guard := _ } :: _) _ _); refine wpList_load_row (o := ⟨some 30, _, _, _, _, _⟩) rfl 23 (.tmp 5) rfl (w.heap.size) rfl 23 ((cells8 r0).toArray) (0, 0) _ hX3.out Tryd.underlying23 rfl F0.out.size ?_)
        | ((with_reducible change wpList _ _ _ ({ dst := some 31, op := _, type := _, pos := _, after := _, guard := _ } :: _) _ _); refine wpList_load_row (o := ⟨some 31, _, _, _, _, _⟩) rfl 23 (.tmp 6) rfl (w.heap.size + 1) rfl 23 ((cells8 r1).toArray) (0, 0) _ hY3.out Tryd.underlying23 rfl F1.out.size ?_)
        | (go_at_call 28; refine (hAg.out _ hb3.out).mono ?_; rintro e w4 ⟨rfl, hk1⟩; have hb4 : Hid (Below w.heap.size w w4) := hb3.out.trans (hk1.mono hb3.out.size); clear hk1))
      go_ret
      exact ⟨rfl, hb4.out⟩
  · obtain rfl := hnoneA.out hwt
    clear hwt
    go_wp2_with fail
    go_ret
    exact ⟨rfl, hb2.out⟩

set_option maxRecDepth 100000 in
set_option maxHeartbeats 2000000 in
theorem refJoins_any (s : Int) (r0 r1 : Text) (h0 : r0.length = 32) (h1 : r1.length = 32) (x1 x2 : Int) (ds : List Text) (A2 : Option Addr) (n c2 : Nat) (hn47 : n < 140737488355328) (w : World) (hs63 : s < 9223372036854775808) (hrd : RdD w A2 n ds) :
    Calls Tryd.prog 33 #[.int .i64 s, .agg (cells8 r0).toArray, .agg (cells8 r1).toArray, .agg (inclCells x1 x2 A2 n c2)] w fun e w' => e = .returned (.int .i64 (audJoins s r0 r1 x1 x2 ds)) ∧ Below w.heap.size w w' := by
  unfold inclCells
  obtain ⟨W, hW⟩ : ∃ W, Hid (W = ((w.alloc (.cells (cells8 r0).toArray 23)).alloc (.cells (cells8 r1).toArray 23)).alloc (.cells #[Value.int .i64 x1, Value.int .i64 x2, Value.slice A2 n c2] 58)) := ⟨_, rfl⟩
  have hb1 : Hid (Below w.heap.size w W) := by show Below _ _ _; rw [hW.out]; exact alloc3_below w _ _ _
  have hX1 : Hid (Blk W w.heap.size 23 (cells8 r0).toArray) := by show Blk _ _ _ _; rw [hW.out]; exact alloc3_a w _ _ _ _ _ _
  have hY1 : Hid (Blk W (w.heap.size + 1) 23 (cells8 r1).toArray) := by show Blk _ _ _ _; rw [hW.out]; exact alloc3_b w _ _ _ _ _ _
  have hP1 : Hid (Blk W (w.heap.size + 1 + 1) 58 #[Value.int .i64 x1, Value.int .i64 x2, Value.slice A2 n c2]) := by show Blk _ _ _ _; rw [hW.out]; exact alloc3_c w _ _ _ _ _ _
  have F0 := Lib.hid (fit (x := r0) h0)
  have F1 := Lib.hid (fit (x := r1) h1)
  have hWi : Hid (∀ w', Below w.heap.size w w' → Calls Tryd.prog 57 #[.int .i64 s, .slice A2 n c2] w' fun e w'' => e = .returned (.bool (withinB s ds)) ∧ Below w'.heap.size w' w'') := fun w' hb => refwithin_any s hs63 ds n hn47 A2 c2 w' (hrd.below hb)
  obtain ⟨ag, hag⟩ : ∃ ag, Hid (agreeOf s x1 x2 r0 r1 ds = ag) := ⟨_, Lib.hid rfl⟩
  have hAg : Hid (∀ w', Below w.heap.size w w' → Calls Tryd.prog 77 #[.int .i64 s, .int .i64 x1, .int .i64 x2, .agg (cells8 r0).toArray, .agg (cells8 r1).toArray, .slice A2 n c2] w' fun e w'' => e = .returned (.int .i64 ag) ∧ Below w'.heap.size w' w'') := fun w' hb => by
    have := refagree_any s x1 x2 hs63 r0 r1 h0 h1 ds A2 n c2 w' (hrd.below hb)
    rw [hag.out] at this
    exact this
  have hsome := Lib.hid (fun b (h : consWant x1 x2 ds = some b) h3 => audJoins_in (s := s) (r0 := r0) (r1 := r1) h h3)
  rw [hag.out] at hsome
  have hnoneA := Lib.hid (fun h => audJoins_none (s := s) (r0 := r0) (r1 := r1) (x1 := x1) (x2 := x2) (ds := ds) h)
  have hwideA := Lib.hid (fun h => audJoins_wide (s := s) (r0 := r0) (r1 := r1) (x1 := x1) (x2 := x2) (ds := ds) h)
  obtain ⟨ans, hans⟩ : ∃ a, Hid (audJoins s r0 r1 x1 x2 ds = a) := ⟨_, Lib.hid rfl⟩
  rw [hans.out] at hsome hnoneA hwideA ⊢
  have hEn : Hid (∀ w', Below w.heap.size w w' → Calls Tryd.prog 76 #[.agg #[Value.int .i64 x1, Value.int .i64 x2, Value.slice A2 n c2]] w' fun e w'' => ∃ A4 c4 b, e = .returned (.slice A4 b.length c4) ∧ Reads w'' 1 A4 b.length (cells8 b) ∧ (A4 = none → b.length = 0 ∧ c4 = 0) ∧ b.length ≤ c4 ∧ (consWant x1 x2 ds = some b ∨ (consWant x1 x2 ds = none ∧ A4 = none ∧ b = [])) ∧ Below w'.heap.size w' w'') := fun w' hb => refcons17_any x1 x2 ds A2 n c2 w' (hrd.below hb)
  have hdg := Lib.hid hrd.2.1
  clear h0 h1 hn47 hrd hs63 hans
  go_enter Tryd.func33, Tryd.ntmps33
  go_wp2_with fail
  change Calls _ _ _ (((w.alloc (.cells (cells8 r0).toArray 23)).alloc (.cells (cells8 r1).toArray 23)).alloc (.cells #[Value.int .i64 x1, Value.int .i64 x2, Value.slice A2 n c2] 58)) _
  rw [← hW.out]
  clear hW
  refine (hEn.out W hb1.out).mono ?_
  rintro e w2 ⟨A4, c4, b, rfl, -, hn4, -, hbe, hk1⟩
  have hb2 : Hid (Below w.heap.size w w2) := hb1.out.trans (hk1.mono hb1.out.size)
  have hX2 : Hid (Blk w2 w.heap.size 23 (cells8 r0).toArray) := Blk.onA hX1.out hk1
  have hY2 : Hid (Blk w2 (w.heap.size + 1) 23 (cells8 r1).toArray) := Blk.onA hY1.out hk1
  have hP2 : Hid (Blk w2 (w.heap.size + 1 + 1) 58 #[Value.int .i64 x1, Value.int .i64 x2, Value.slice A2 n c2]) := Blk.onA hP1.out hk1
  clear hk1 hEn
  rcases hbe with hwt | ⟨hwt, rfl, rfl⟩
  · have hbp := wantC_pos hdg.out hwt
    obtain ⟨a4, rfl⟩ : ∃ a, A4 = some a := by
      cases A4 with
      | none => have := (hn4 rfl).1; omega
      | some a => exact ⟨a, rfl⟩
    have X4 := fun w' => Lib.run_eql_slice_nil (P := Tryd.prog) w' 24 5 (some a4) b.length c4 0 0 Tryd.underlying24
    clear hn4 hbp
    have hWd := Lib.hid (hWi.out w2 hb2.out)
    have hsm := Lib.hid (hsome.out b hwt)
    clear hnoneA hwt hsome
    have c2' : w2.cell? ⟨w.heap.size + 1 + 1, 2, none⟩ = some (.slice A2 n c2) := hP2.out.cell 2
    cases hwi : withinB s ds with
    | false =>
      obtain rfl := hwideA.out hwi
      rw [hwi] at hWd
      clear hwi hsm
      go_wp2_with (go_at_call 57; refine hWd.out.mono ?_; rintro e w3 ⟨rfl, hk1⟩; have hb3 : Hid (Below w.heap.size w w3) := hb2.out.trans (hk1.mono hb2.out.size); have hX3 : Hid (Blk w3 w.heap.size 23 (cells8 r0).toArray) := Blk.onA hX2.out hk1; have hY3 : Hid (Blk w3 (w.heap.size + 1) 23 (cells8 r1).toArray) := Blk.onA hY2.out hk1; have hP3 : Hid (Blk w3 (w.heap.size + 1 + 1) 58 #[Value.int .i64 x1, Value.int .i64 x2, Value.slice A2 n c2]) := Blk.onA hP2.out hk1; have d0 : w3.cell? ⟨w.heap.size + 1 + 1, 0, none⟩ = some (.int .i64 x1) := hP3.out.cell 0; have d1 : w3.cell? ⟨w.heap.size + 1 + 1, 1, none⟩ = some (.int .i64 x2) := hP3.out.cell 1; have d2 : w3.cell? ⟨w.heap.size + 1 + 1, 2, none⟩ = some (.slice A2 n c2) := hP3.out.cell 2; clear hk1)
      go_ret
      exact ⟨rfl, hb3.out⟩
    | true =>
      obtain rfl := hsm.out hwi
      rw [hwi] at hWd
      clear hwi hwideA hsm
      go_wp2_with (first
        | (go_at_call 57; refine hWd.out.mono ?_; rintro e w3 ⟨rfl, hk1⟩; have hb3 : Hid (Below w.heap.size w w3) := hb2.out.trans (hk1.mono hb2.out.size); have hX3 : Hid (Blk w3 w.heap.size 23 (cells8 r0).toArray) := Blk.onA hX2.out hk1; have hY3 : Hid (Blk w3 (w.heap.size + 1) 23 (cells8 r1).toArray) := Blk.onA hY2.out hk1; have hP3 : Hid (Blk w3 (w.heap.size + 1 + 1) 58 #[Value.int .i64 x1, Value.int .i64 x2, Value.slice A2 n c2]) := Blk.onA hP2.out hk1; have d0 : w3.cell? ⟨w.heap.size + 1 + 1, 0, none⟩ = some (.int .i64 x1) := hP3.out.cell 0; have d1 : w3.cell? ⟨w.heap.size + 1 + 1, 1, none⟩ = some (.int .i64 x2) := hP3.out.cell 1; have d2 : w3.cell? ⟨w.heap.size + 1 + 1, 2, none⟩ = some (.slice A2 n c2) := hP3.out.cell 2; clear hk1)
        | ((with_reducible change wpList _ _ _ ({ dst := some 24, op := _, type := _, pos := _, after := _, guard := _ } :: _) _ _); refine wpList_load_row (o := ⟨some 24, _, _, _, _, _⟩) rfl 23 (.tmp 5) rfl (w.heap.size) rfl 23 ((cells8 r0).toArray) (0, 0) _ hX3.out Tryd.underlying23 rfl F0.out.size ?_)
        | ((with_reducible change wpList _ _ _ ({ dst := some 25, op := _, type := _, pos := _, after := _, guard := _ } :: _) _ _); refine wpList_load_row (o := ⟨some 25, _, _, _, _, _⟩) rfl 23 (.tmp 6) rfl (w.heap.size + 1) rfl 23 ((cells8 r1).toArray) (0, 0) _ hY3.out Tryd.underlying23 rfl F1.out.size ?_)
        | (go_at_call 77; refine (hAg.out _ hb3.out).mono ?_; rintro e w4 ⟨rfl, hk1⟩; have hb4 : Hid (Below w.heap.size w w4) := hb3.out.trans (hk1.mono hb3.out.size); clear hk1))
      go_ret
      exact ⟨rfl, hb4.out⟩
  · have X4 := fun w' => Lib.run_eql_slice_nil (P := Tryd.prog) w' 24 5 none 0 c4 0 0 Tryd.underlying24
    obtain rfl := hnoneA.out hwt
    clear hwt hn4
    go_wp2_with fail
    go_ret
    exact ⟨rfl, hb2.out⟩

end Go.Proofs.YtaelcgimgomnnaaDoor.AudJoins

namespace Go.Proofs.YtaelcgimgomnnaaDoor.AuditJoins
open Go Go.RowKit Go.Proofs.YtaelcgimgomnnaaDoor Go.Proofs.YtaelcgimgomnnaaDoor.Mem Go.Proofs.YtaelcgimgomnnaaDoor.Sha Go.Proofs.YtaelcgimgomnnaaDoor.Bytes Go.Proofs.YtaelcgimgomnnaaDoor.HashMem Go.Proofs.YtaelcgimgomnnaaDoor.DigestMem Go.Proofs.YtaelcgimgomnnaaDoor.Digest Go.Proofs.YtaelcgimgomnnaaDoor.QuietTail Go.Proofs.YtaelcgimgomnnaaDoor.Grown Go.Proofs.YtaelcgimgomnnaaDoor.Chain Go.Proofs.YtaelcgimgomnnaaDoor.TreeMem Go.Proofs.YtaelcgimgomnnaaDoor.TreeRoot Go.Proofs.YtaelcgimgomnnaaDoor.Held Go.Proofs.YtaelcgimgomnnaaDoor.Guard Go.Proofs.YtaelcgimgomnnaaDoor.Agree Go.Proofs.YtaelcgimgomnnaaDoor.Ref17 Go.Proofs.YtaelcgimgomnnaaDoor.Book Go.Proofs.YtaelcgimgomnnaaDoor.Book2 Go.Proofs.YtaelcgimgomnnaaDoor.Law20 Go.Proofs.YtaelcgimgomnnaaDoor.AudJoins

structure FitT (T : TypeId) (Z cs : Array Value) : Prop where
  size : (Tryd.prog.info? T).map (·.size) = some cs.size
  zero : Z.size = cs.size
  one : cs.all (fun v => v.oneCell') = true
theorem fitK (x y : Int) (A : Option Addr) (n c : Nat) : FitT 58 #[Value.int .i64 0, Value.int .i64 0, Value.slice none 0 0] #[Value.int .i64 x, Value.int .i64 y, Value.slice A n c] := ⟨sizeK, rfl, oneK _ _ _ _ _⟩

set_option maxRecDepth 100000 in
set_option maxHeartbeats 4000000 in
theorem auditJoins_any (s : Int) (hs63 : s < 9223372036854775808) (r0 r1 : Text) (h0 : r0.length = 32) (h1 : r1.length = 32) (x1 x2 : Int) (es : List Text) (m : Nat) (A2 : Option Addr) (c2 : Nat) (hmc : m ≤ c2) (w : World) (hB : Base w) (hrd : RdD w A2 m es) :
    Calls Tryd.prog 7 #[.int .i64 s, .agg (cells8 r0).toArray, .agg (cells8 r1).toArray, .agg (inclCells x1 x2 A2 m c2)] w fun e w' => e = .returned (.bool true) ∧ Below w.heap.size w w' := by
  unfold inclCells
  obtain ⟨n, hn⟩ : ∃ n, min m 300 = n := ⟨_, rfl⟩
  obtain ⟨ds, hds⟩ : ∃ ds, es.take n = ds := ⟨_, rfl⟩
  have hrn : RdD w A2 n ds := by rw [← hds]; exact hrd.take_ n (by omega)
  have hn300 : n ≤ 300 := by omega
  have hF : Hid (∀ w', Calls Tryd.prog 12 #[.slice A2 m c2, .int .i64 300] w' fun e w'' => e = .returned (.slice A2 n c2) ∧ w' = w'') := fun w' => by
    have := few20_any A2 m c2 hmc w'
    rwa [hn] at this
  have hRo := Lib.hid (fun w' (hb : Below w.heap.size w w') => roomyD_any ds n (by omega) A2 c2 mk0 mk0_len w' (hrn.below hb))
  have hMK : Hid (∀ w', Calls Tryd.prog 15 #[] w' fun e w'' => e = .returned (.agg (cells8 mk0).toArray) ∧ Below w'.heap.size w' w'') := stranger20_any
  have hIt := Lib.hid (fun w' g (hg : RowD w' g (ds ++ List.replicate 80 mk0)) (hb : Below w.heap.size w w') => intactD_any ds n (by omega) g A2 c2 mk0 mk0_len w' (hrn.below hb) hg)
  have hG0 := Lib.hid (fun w' g (hg : RowD w' g (ds ++ List.replicate 80 mk0)) => (by
    have := (hg.rd (hrn.2.1.append_ (Digs.rep 80 mk0_len))).take_ n (by simp [hrn.1])
    rwa [List.take_append_of_le_length (by rw [hrn.1]; exact Nat.le_refl _), List.take_of_length_le (by rw [hrn.1]; exact Nat.le_refl _)] at this : RdD w' (some ⟨g, 0, none⟩) n ds))
  have hS := Lib.hid (fun (g : Nat) => run_headD (A := some ⟨g, 0, none⟩) (n := n + 80) (c := n + 80) (k := n) (by omega) (n : Int) rfl)
  obtain ⟨an, han⟩ : ∃ a, Hid (audJoins s r0 r1 x1 x2 ds = a) := ⟨_, Lib.hid rfl⟩
  have hA : Hid (∀ g w', Below w.heap.size w w' → RowD w' g (ds ++ List.replicate 80 mk0) → Calls Tryd.prog 32 #[.int .i64 s, .agg (cells8 r0).toArray, .agg (cells8 r1).toArray, .agg #[Value.int .i64 x1, Value.int .i64 x2, Value.slice (some ⟨g, 0, none⟩) n (n + 80)]] w' fun e w'' => e = .returned (.int .i64 an) ∧ Below w'.heap.size w' w'') := fun g w' hb hg => by
    have := audJoins_any s r0 r1 h0 h1 x1 x2 ds (some ⟨g, 0, none⟩) n (n + 80) (by omega) w' (hB.below hb hB.1) (hG0.out w' g hg)
    rwa [han.out] at this
  have hRf : Hid (∀ w', Below w.heap.size w w' → Calls Tryd.prog 33 #[.int .i64 s, .agg (cells8 r0).toArray, .agg (cells8 r1).toArray, .agg #[Value.int .i64 x1, Value.int .i64 x2, Value.slice A2 n c2]] w' fun e w'' => e = .returned (.int .i64 an) ∧ Below w'.heap.size w' w'') := fun w' hb => by
    have := refJoins_any s r0 r1 h0 h1 x1 x2 ds A2 n c2 (by omega) w' hs63 (hrn.below hb)
    rwa [han.out] at this
  have F0 := Lib.hid (fit (x := r0) h0)
  have F1 := Lib.hid (fit (x := r1) h1)
  have q1 : (an == an) = true := beq_self_eq_true _
  have hb1 : Hid (Below w.heap.size w (((w.alloc (.cells (cells8 r0).toArray 23)).alloc (.cells (cells8 r1).toArray 23)).alloc (.cells #[Value.int .i64 x1, Value.int .i64 x2, Value.slice A2 n c2] 58))) := alloc3_below w _ _ _
  have hX1 : Hid (Blk (((w.alloc (.cells (cells8 r0).toArray 23)).alloc (.cells (cells8 r1).toArray 23)).alloc (.cells #[Value.int .i64 x1, Value.int .i64 x2, Value.slice A2 n c2] 58)) w.heap.size 23 (cells8 r0).toArray) := alloc3_a w _ _ _ _ _ _
  have hY1 : Hid (Blk (((w.alloc (.cells (cells8 r0).toArray 23)).alloc (.cells (cells8 r1).toArray 23)).alloc (.cells #[Value.int .i64 x1, Value.int .i64 x2, Value.slice A2 n c2] 58)) (w.heap.size + 1) 23 (cells8 r1).toArray) := alloc3_b w _ _ _ _ _ _
  have hP1 : Hid (Blk (((w.alloc (.cells (cells8 r0).toArray 23)).alloc (.cells (cells8 r1).toArray 23)).alloc (.cells #[Value.int .i64 x1, Value.int .i64 x2, Value.slice A2 n c2] 58)) (w.heap.size + 1 + 1) 58 #[Value.int .i64 x1, Value.int .i64 x2, Value.slice A2 n c2]) := alloc3_c w _ _ _ _ _ _
  clear hs63 h0 h1 hmc hB hrd hrn hn300 hn hds han hG0
  go_enter Tryd.func7, Tryd.ntmps7
  go_wp2_with fail
  refine (hF.out _).mono ?_
  rintro e w0 ⟨rfl, rfl⟩
  clear hF
  go_wp2_with fail
  generalize (((w.alloc (.cells (cells8 r0).toArray 23)).alloc (.cells (cells8 r1).toArray 23)).alloc (.cells #[Value.int .i64 x1, Value.int .i64 x2, Value.slice A2 n c2] 58)) = w2 at *
  have hb2 := hb1
  have hX2 := hX1
  have hY2 := hY1
  have hP2 := hP1
  clear hb1 hX1 hY1 hP1
  have s0 : Hid (Below w2.heap.size w2 w2.drew) := (Below.refl _ _).drew
  refine held_start (fun w' => Below w2.heap.size w2 w') 5 rfl (by kernel_rfl) ?_
  refine held_take (i := 0) (v := .pointer (some ⟨w.heap.size + 1 + 1, 2, none⟩)) rfl (by kernel_rfl) (by kernel_rfl) (by kernel_rfl) (fun _ _ _ h => h) s0.out (by rfl) (fun w' hw' => by go_simp) ?_
  (intro K hK; go_simp; refine hK _ ?_; clear hK K)
  refine held_take (i := 1) (v := .slice A2 n c2) rfl (by kernel_rfl) (by kernel_rfl) (by kernel_rfl) (fun _ _ _ h => h) s0.out (by rfl) (fun w' hw' => by have h := (Blk.onA hP2.out hw').cell 2; go_simp) ?_
  (intro K hK; go_simp; refine hK _ ?_; clear hK K)
  refine held_only (i := 2) rfl (by kernel_rfl) (by rfl) (fun K hK => ?_)
  refine wp_fn (R := fun v w'' => v = .agg (cells8 mk0).toArray ∧ Below w2.heap.size w2 w'') (args := #[]) _ _ rfl rfl Tryd.func15 (by kernel_rfl) (by kernel_rfl) ((hMK.out _).mono fun e w'' ⟨he, hb⟩ => ⟨_, he, rfl, s0.out.trans hb⟩) ?_
  rintro qq w4 ⟨rfl, h4⟩
  replace h4 := Lib.hid h4
  go_simp
  refine hK _ _ h4.out ?_
  clear hK K
  refine held_only (i := 3) rfl (by kernel_rfl) (by rfl) (fun K hK => ?_)
  refine wp_fn (R := fun v w'' => ∃ g, v = .slice (some ⟨g, 0, none⟩) (n + 80) (n + 80) ∧ RowD w'' g (ds ++ List.replicate 80 mk0) ∧ Below w2.heap.size w2 w'') (args := #[.slice A2 n c2, .agg (cells8 mk0).toArray]) _ _ rfl rfl Tryd.func14 (by kernel_rfl) (by kernel_rfl) ((hRo.out w4 (hb2.out.trans (h4.out.mono hb2.out.size))).mono fun e w'' ⟨g, he, _, hg, hk⟩ => ⟨_, he, g, rfl, hg, h4.out.trans (hk.mono h4.out.size)⟩) ?_
  rintro qq w5 ⟨g, rfl, hG, h5⟩
  replace hG := Lib.hid hG
  replace h5 := Lib.hid h5
  go_simp
  refine hK _ _ h5.out ?_
  clear hK K
  refine held_take (i := 4) (v := .slice (some ⟨g, 0, none⟩) (n + 80) (n + 80)) rfl (by kernel_rfl) (by kernel_rfl) (by kernel_rfl) (fun _ _ _ h => h) h5.out (by rfl) (fun w' hw' => by first | go_simp | rfl) ?_
  (intro K hK; go_simp; refine hK _ ?_; clear hK K)
  refine held_end (by kernel_rfl) ?_
  have hb5 : Hid (Below w.heap.size w w5) := hb2.out.trans (h5.out.mono hb2.out.size)
  have hX5 : Hid (Blk w5 w.heap.size 23 (cells8 r0).toArray) := Blk.onA hX2.out h5.out
  have hY5 : Hid (Blk w5 (w.heap.size + 1) 23 (cells8 r1).toArray) := Blk.onA hY2.out h5.out
  have hP5 : Hid (Blk w5 (w.heap.size + 1 + 1) 58 #[Value.int .i64 x1, Value.int .i64 x2, Value.slice A2 n c2]) := Blk.onA hP2.out h5.out
  have hSg := hS.out g
  clear h5 h4 hb2 hX2 hY2 hP2 hRo hS
  go_wp2_with fail
  have FI := Lib.hid (fitK x1 x2 (some ⟨g, 0, none⟩) n (n + 80))
  go_cut [10] from 19 to 28 (fun v wr => ∃ m : Nat, v = .pointer (some ⟨m, 0, none⟩) ∧ Hid (Blk wr m 58 #[Value.int .i64 x1, Value.int .i64 x2, Value.slice (some ⟨g, 0, none⟩) n (n + 80)]) ∧ Hid (Below w5.heap.size w5 wr))
  case first =>
    have s0 : Hid (Below w5.heap.size w5 w5.drew) := (Below.refl _ _).drew
    refine held_start (fun w' => Below w5.heap.size w5 w') 12 rfl (by kernel_rfl) ?_
    refine held_take (i := 0) (v := .pointer (some ⟨w.heap.size + 1 + 1, 0, none⟩)) rfl (by kernel_rfl) (by kernel_rfl) (by kernel_rfl) (fun _ _ _ h => h) s0.out (by rfl) (fun w' hw' => by go_simp) ?_
    (intro K hK; go_simp; refine hK _ ?_; clear hK K)
    refine held_take (i := 1) (v := .int .i64 x1) rfl (by kernel_rfl) (by kernel_rfl) (by kernel_rfl) (fun _ _ _ h => h) s0.out (by rfl) (fun w' hw' => by have h := (Blk.onA hP5.out hw').cell 0; go_simp) ?_
    (intro K hK; go_simp; refine hK _ ?_; clear hK K)
    refine held_take (i := 2) (v := .pointer (some ⟨w.heap.size + 1 + 1, 1, none⟩)) rfl (by kernel_rfl) (by kernel_rfl) (by kernel_rfl) (fun _ _ _ h => h) s0.out (by rfl) (fun w' hw' => by go_simp) ?_
    (intro K hK; go_simp; refine hK _ ?_; clear hK K)
    refine held_take (i := 3) (v := .int .i64 x2) rfl (by kernel_rfl) (by kernel_rfl) (by kernel_rfl) (fun _ _ _ h => h) s0.out (by rfl) (fun w' hw' => by have h := (Blk.onA hP5.out hw').cell 1; go_simp) ?_
    (intro K hK; go_simp; refine hK _ ?_; clear hK K)
    refine held_take (i := 4) (v := .slice (some ⟨g, 0, none⟩) (n + 80) (n + 80)) rfl (by kernel_rfl) (by kernel_rfl) (by kernel_rfl) (fun _ _ _ h => h) s0.out (by rfl) (fun w' hw' => run_mv (.tmp 9) rfl w') ?_
    (intro K hK; go_simp; refine hK _ ?_; clear hK K)
    refine held_take (i := 5) (v := .pointer (some ⟨w.heap.size + 1 + 1, 2, none⟩)) rfl (by kernel_rfl) (by kernel_rfl) (by kernel_rfl) (fun _ _ _ h => h) s0.out (by rfl) (fun w' hw' => by go_simp) ?_
    (intro K hK; go_simp; refine hK _ ?_; clear hK K)
    refine held_take (i := 6) (v := .slice A2 n c2) rfl (by kernel_rfl) (by kernel_rfl) (by kernel_rfl) (fun _ _ _ h => h) s0.out (by rfl) (fun w' hw' => by have h := (Blk.onA hP5.out hw').cell 2; go_simp) ?_
    (intro K hK; go_simp; refine hK _ ?_; clear hK K)
    refine held_take (i := 7) (v := .int .i64 (n : Int)) rfl (by kernel_rfl) (by kernel_rfl) (by kernel_rfl) (fun _ _ _ h => h) s0.out (by rfl) (fun w' hw' => by go_simp) ?_
    (intro K hK; go_simp; refine hK _ ?_; clear hK K)
    refine held_take (i := 8) (v := .slice (some ⟨g, 0, none⟩) n (n + 80)) rfl (by kernel_rfl) (by kernel_rfl) (by kernel_rfl) (fun _ _ _ h => h) s0.out (by rfl) (fun w' hw' => by have h := hSg w'; go_simp) ?_
    (intro K hK; go_simp; refine hK _ ?_; clear hK K)
    refine held_take (i := 9) (v := .agg #[Value.int .i64 x1, Value.int .i64 x2, Value.slice (some ⟨g, 0, none⟩) n (n + 80)]) rfl (by kernel_rfl) (by kernel_rfl) (by kernel_rfl) (fun _ _ _ h => h) s0.out (by rfl) (fun w' hw' => by go_simp) ?_
    (intro K hK; go_simp; refine hK _ ?_; clear hK K)
    refine held_only (i := 10) rfl (by kernel_rfl) (by rfl) (fun K hK => ?_)
    have h5 := Lib.hid (s0.out.alloc s0.out.size (.cells #[Value.int .i64 0, Value.int .i64 0, Value.slice none 0 0] 58))
    have bb : Hid (Blk (w5.drew.alloc (.cells #[Value.int .i64 0, Value.int .i64 0, Value.slice none 0 0] 58)) w5.heap.size 58 #[Value.int .i64 0, Value.int .i64 0, Value.slice none 0 0]) := Blk.new _ _ _
    go_simp
    refine hK _ _ h5.out ?_
    clear hK K
    refine held_only (i := 11) rfl (by kernel_rfl) (by rfl) (fun K hK => ?_)
    refine wp_store_whole 58 (.tmp 10) (.tmp 28) rfl (w5.heap.size) (#[Value.int .i64 x1, Value.int .i64 x2, Value.slice (some ⟨g, 0, none⟩) n (n + 80)]) rfl rfl 58 (#[Value.int .i64 0, Value.int .i64 0, Value.slice none 0 0]) (bb.out) FI.out.size FI.out.zero FI.out.one ?_
    intro w99 B9 k9
    have b9 : Hid (Below w5.heap.size w5 w99) := h5.out.trans (Kept.below_of k9 (s0.out.size) h5.out.size)
    go_simp
    refine hK _ _ b9.out ?_
    clear hK K
    refine held_end (by kernel_rfl) ?_
    go_wp2_with fail
    go_meet
    case rel => exact ⟨_, rfl, B9, b9.out⟩
  case rest =>
    obtain ⟨mq, rfl, hQ, hk6⟩ := hcut
    have hb6 : Hid (Below w.heap.size w wc) := hb5.out.trans (hk6.out.mono hb5.out.size)
    have hX6 : Hid (Blk wc w.heap.size 23 (cells8 r0).toArray) := Blk.onA hX5.out hk6.out
    have hY6 : Hid (Blk wc (w.heap.size + 1) 23 (cells8 r1).toArray) := Blk.onA hY5.out hk6.out
    have hP6 : Hid (Blk wc (w.heap.size + 1 + 1) 58 #[Value.int .i64 x1, Value.int .i64 x2, Value.slice A2 n c2]) := Blk.onA hP5.out hk6.out
    have hG6 : Hid (RowD wc g (ds ++ List.replicate 80 mk0)) := hG.out.below hk6.out
    clear hk6 hb5 hX5 hY5 hP5 hG
    go_wp2_with fail
    refine wp_region_class (Class wc) (by kernel_rfl) (by kernel_rfl) (Class.mk_ ((Below.refl _ _).drew)) ?_
    refine wpQuiet_move rfl (.tmp 0) rfl ?_
    (intro K hK; go_simp; refine hK _ ?_; clear hK K)
    refine wpQuiet_load_row rfl 23 (.tmp 5) rfl w.heap.size rfl 23 ((cells8 r0).toArray) (0, 0) _ (fun w' hw' => (hw'.below.block _ hX6.out.lt).trans hX6.out) Tryd.underlying23 rfl F0.out.size ?_
    (intro K hK; go_simp; refine hK _ ?_; clear hK K)
    refine wpQuiet_load_row rfl 23 (.tmp 6) rfl (w.heap.size + 1) rfl 23 ((cells8 r1).toArray) (0, 0) _ (fun w' hw' => (hw'.below.block _ hY6.out.lt).trans hY6.out) Tryd.underlying23 rfl F1.out.size ?_
    (intro K hK; go_simp; refine hK _ ?_; clear hK K)
    refine wpQuiet_load_row rfl 58 (.tmp 10) rfl mq rfl 58 (#[Value.int .i64 x1, Value.int .i64 x2, Value.slice (some ⟨g, 0, none⟩) n (n + 80)]) (0, 0) _ (fun w' hw' => (hw'.below.block _ hQ.out.lt).trans hQ.out) Tryd.underlying58 rfl sizeK ?_
    (intro K hK; go_simp; refine hK _ ?_; clear hK K)
    refine wpQuiet_fn (v := .int .i64 an) (args := #[.int .i64 s, .agg (cells8 r0).toArray, .agg (cells8 r1).toArray, .agg #[Value.int .i64 x1, Value.int .i64 x2, Value.slice (some ⟨g, 0, none⟩) n (n + 80)]]) rfl _ _ rfl rfl Tryd.func32 (by kernel_rfl) (by kernel_rfl) (fun w' hw' => (hA.out g w' (hb6.out.trans (hw'.below.mono hb6.out.size)) (hG6.out.below hw'.below)).mono (fun e w'' ⟨he, hb⟩ => ⟨he, hw'.next hb⟩)) ?_
    (intro K hK; go_simp; refine hK _ ?_; clear hK K)
    refine wpQuiet_move rfl (.tmp 0) rfl ?_
    (intro K hK; go_simp; refine hK _ ?_; clear hK K)
    refine wpQuiet_load_row rfl 23 (.tmp 5) rfl w.heap.size rfl 23 ((cells8 r0).toArray) (0, 0) _ (fun w' hw' => (hw'.below.block _ hX6.out.lt).trans hX6.out) Tryd.underlying23 rfl F0.out.size ?_
    (intro K hK; go_simp; refine hK _ ?_; clear hK K)
    refine wpQuiet_load_row rfl 23 (.tmp 6) rfl (w.heap.size + 1) rfl 23 ((cells8 r1).toArray) (0, 0) _ (fun w' hw' => (hw'.below.block _ hY6.out.lt).trans hY6.out) Tryd.underlying23 rfl F1.out.size ?_
    (intro K hK; go_simp; refine hK _ ?_; clear hK K)
    refine wpQuiet_load_row rfl 58 (.tmp 7) rfl (w.heap.size + 1 + 1) rfl 58 (#[Value.int .i64 x1, Value.int .i64 x2, Value.slice A2 n c2]) (0, 0) _ (fun w' hw' => (hw'.below.block _ hP6.out.lt).trans hP6.out) Tryd.underlying58 rfl sizeK ?_
    (intro K hK; go_simp; refine hK _ ?_; clear hK K)
    refine wpQuiet_fn (v := .int .i64 an) (args := #[.int .i64 s, .agg (cells8 r0).toArray, .agg (cells8 r1).toArray, .agg #[Value.int .i64 x1, Value.int .i64 x2, Value.slice A2 n c2]]) rfl _ _ rfl rfl Tryd.func33 (by kernel_rfl) (by kernel_rfl) (fun w' hw' => (hRf.out w' (hb6.out.trans (hw'.below.mono hb6.out.size))).mono (fun e w'' ⟨he, hb⟩ => ⟨he, hw'.next hb⟩)) ?_
    (intro K hK; go_simp; refine hK _ ?_; clear hK K)
    refine wpQuiet_val (v := .bool true) rfl (fun w' hw' => by go_simp) ?_
    (intro K hK; go_simp; refine hK _ ?_; clear hK K)
    refine wpQuiet_val (v := .bool true) rfl (fun w' hw' => by go_simp) ?_
    (intro K hK; go_simp; refine hK _ ?_; clear hK K)
    refine wpQuiet_move rfl (.tmp 9) rfl ?_
    (intro K hK; go_simp; refine hK _ ?_; clear hK K)
    refine wpQuiet_val (v := .pointer (some ⟨w.heap.size + 1 + 1, 2, none⟩)) rfl (fun w' hw' => by go_simp) ?_
    (intro K hK; go_simp; refine hK _ ?_; clear hK K)
    refine wpQuiet_val (v := .slice A2 n c2) rfl (fun w' hw' => by have h := (Blk.onA hP6.out hw'.below).cell 2; go_simp) ?_
    (intro K hK; go_simp; refine hK _ ?_; clear hK K)
    refine wpQuiet_fn (v := .agg (cells8 mk0).toArray) (args := #[]) rfl _ _ rfl rfl Tryd.func15 (by kernel_rfl) (by kernel_rfl) (fun w' hw' => (hMK.out w').mono (fun e w'' ⟨he, hb⟩ => ⟨he, hw'.next hb⟩)) ?_
    (intro K hK; go_simp; refine hK _ ?_; clear hK K)
    refine wpQuiet_fn (v := .bool true) (args := #[.slice (some ⟨g, 0, none⟩) (n + 80) (n + 80), .slice A2 n c2, .agg (cells8 mk0).toArray]) rfl _ _ rfl rfl Tryd.func22 (by kernel_rfl) (by kernel_rfl) (fun w' hw' => (hIt.out w' g (hG6.out.below hw'.below) (hb6.out.trans (hw'.below.mono hb6.out.size))).mono (fun e w'' ⟨he, hb⟩ => ⟨he, hw'.next hb⟩)) ?_
    (intro K hK; go_simp; refine hK _ ?_; clear hK K)
    refine wpQuiet_val (v := .bool true) rfl (fun w' hw' => by go_simp) ?_
    (intro K hK; go_simp; refine hK _ ?_; clear hK K)
    refine wpQuiet_val (v := .bool true) rfl (fun w' hw' => by go_simp) ?_
    (intro K hK; go_simp; refine hK _ ?_; clear hK K)
    refine wpQuiet_nil ?_
    intro w7 hw7
    have hb7 : Hid (Below w.heap.size w w7) := hb6.out.trans (hw7.below.mono hb6.out.size)
    go_wp2_with fail
    go_ret
    exact ⟨rfl, hb7.out⟩
end Go.Proofs.YtaelcgimgomnnaaDoor.AuditJoins
