/-
  Texts of the claim, put into one file: Reader4, Reader5, Reader6.
-/
import Derived.Test.YtgldkfaiofkhbaaDoorZ14
import Derived.Test.YtgldkfaiofkhbaaDoorZ8

namespace Go.Proofs.YtgldkfaiofkhbaaDoor.Reader4
open Go Go.RowKit Go.Proofs.YtgldkfaiofkhbaaDoor Go.Proofs.YtgldkfaiofkhbaaDoor.Mem Go.Proofs.YtgldkfaiofkhbaaDoor.Sha Go.Proofs.YtgldkfaiofkhbaaDoor.Bytes Go.Proofs.YtgldkfaiofkhbaaDoor.QuietTail Go.Proofs.YtgldkfaiofkhbaaDoor.TreeMem Go.Proofs.YtgldkfaiofkhbaaDoor.TreeRoot Go.Proofs.YtgldkfaiofkhbaaDoor.Book Go.Proofs.YtgldkfaiofkhbaaDoor.Reader Go.Proofs.YtgldkfaiofkhbaaDoor.Reader2 Go.Proofs.YtgldkfaiofkhbaaDoor.Reader3

/-- The i-th piece of 32 bytes. -/
def chunk (q : Text) (i : Nat) : Text := (q.drop (32 * i)).take 32
def chunks (q : Text) (n : Nat) : List Text := (List.range n).map (chunk q)
theorem chunks_len (q : Text) (n : Nat) : (chunks q n).length = n := by simp [chunks]
theorem chunks_succ (q : Text) (n : Nat) : chunks q (n + 1) = chunks q n ++ [chunk q n] := by simp [chunks, List.range_succ]
theorem chunk_len {q : Text} {i : Nat} (h : 32 * i + 32 ≤ q.length) : (chunk q i).length = 32 := by unfold chunk; rw [List.length_take, List.length_drop]; omega
theorem chunks_digs (q : Text) : ∀ n, 32 * n ≤ q.length → Digs (chunks q n)
  | 0, _ => fun d h => by simp [chunks] at h
  | n + 1, h => by
    rw [chunks_succ]
    exact (chunks_digs q n (by omega)).append_ (Digs.one (chunk_len (by omega)))
/-- The list while it is read. -/
def readL (q : Text) (n i : Nat) : List Text := chunks q i ++ List.replicate (n - i) zt
theorem readL_zero (q : Text) (n : Nat) : readL q n 0 = List.replicate n zt := by simp [readL, chunks]
theorem readL_done (q : Text) (n : Nat) : readL q n n = chunks q n := by simp [readL]
theorem readL_len (q : Text) (n i : Nat) (h : i ≤ n) : (readL q n i).length = n := by simp [readL, chunks_len]; omega
theorem readL_digs (q : Text) (n i : Nat) (h : 32 * i ≤ q.length) : Digs (readL q n i) := (chunks_digs q i h).append_ (Digs.rep _ rfl)
theorem readL_step (q : Text) (n i : Nat) (h : i < n) : (readL q n i).set i (chunk q i) = readL q n (i + 1) := by
  unfold readL
  rw [show n - i = (n - (i + 1)) + 1 by omega, List.replicate_succ, List.set_append_right _ _ (by rw [chunks_len]; exact Nat.le_refl _), chunks_len, Nat.sub_self, chunks_succ, List.set_cons_zero, List.append_assoc]
  rfl

theorem sub_in {a b L : Nat} (h : a - b = L) (hb : b ≤ a) (ha : a < 140737488355328) : IntKind.i64.wrap ((a : Int) - (b : Int)) = (L : Int) ∧ wrap64 ((a : Int) - (b : Int)) = (L : Int) := by
  have e : (a : Int) - (b : Int) = (L : Int) := by omega
  rw [e]
  exact ⟨IntWalk.i64_in _ (by omega), IntWalk.wrap64_in _ (by omega)⟩
theorem quo_in {a b L LL : Nat} (h : a - b = L) (hl : L / 32 = LL) (ha : a < 140737488355328) : (L : Int).tdiv 32 = (LL : Int) ∧ wrap64 ((L : Int) / 32) = (LL : Int) := by
  have e : (L : Int) / 32 = (LL : Int) := by omega
  refine ⟨by rw [Int.tdiv_eq_ediv_of_nonneg (by omega), e], ?_⟩
  rw [e]
  exact IntWalk.wrap64_in _ (by omega)
theorem wrap_in {a b L LL : Nat} (h : a - b = L) (hl : L / 32 = LL) (ha : a < 140737488355328) : wrap64 (LL : Int) = (LL : Int) := IntWalk.wrap64_in _ (by omega)
theorem too_few {a b L LL n : Nat} (h : a - b = L) (hl : L / 32 = LL) (hb : b ≤ a) (h2 : a < b + 32 * n) : LL < n := by omega
theorem enough {a b L LL n : Nat} (h : a - b = L) (hl : L / 32 = LL) (h2 : b + 32 * n ≤ a) : ¬ LL < n := by omega
set_option maxRecDepth 100000 in
set_option maxHeartbeats 1000000 in
theorem digestsR_no (q : Text) (hq : q.length < 140737488355328) (g need n : Nat) (hn : n ≤ 1099511627776) (A : Option Addr) (c : Nat) (w : World) (h : Rd w g q A c need) (h1 : need ≤ q.length) (h2 : q.length < need + 32 * n) :
    Calls Tryd.prog 67 #[.pointer (some ⟨g, 0, none⟩), .int .i64 (n : Int)] w fun e w' => e = .returned (.slice none 0 0) ∧ Rd w' g q A c (need + 32 * n) ∧ Kept (· = g) w w' := by
  obtain ⟨at_, why, hb, hr, hnil, hA, hc, hat, hyes, hno⟩ := h
  obtain ⟨rfl, rfl⟩ := hyes h1
  have g0 : w.cell? ⟨g, 0, none⟩ = some (.slice A q.length c) := by rw [hb.cell 0]; rfl
  have g1 : w.cell? ⟨g, 1, none⟩ = some (.int .i64 (at_ : Int)) := by rw [hb.cell 1]; rfl
  have g2 : w.cell? ⟨g, 2, none⟩ = some (.int .i64 0) := by rw [hb.cell 2]; rfl
  have hgl : g < w.heap.size := hb.lt
  have hbh := Lib.hid hb
  have hrh := Lib.hid hr
  obtain ⟨L, hL⟩ : ∃ L, Hid (q.length - at_ = L) := ⟨_, Lib.hid rfl⟩
  obtain ⟨LL, hLL⟩ : ∃ LL, Hid (L / 32 = LL) := ⟨_, Lib.hid rfl⟩
  have z1 := (sub_in hL.out h1 hq).1
  have z1' := (sub_in hL.out h1 hq).2
  have z2 := (quo_in hL.out hLL.out hq).1
  have z5 := (quo_in hL.out hLL.out hq).2
  have z6 : 0 ≤ (L : Int) := by omega
  have z7 := wrap_in hL.out hLL.out hq
  have z3 : decide (LL < n) = true := decide_eq_true (too_few hL.out hLL.out h1 h2)
  have z4 : decide ((n : Int) < 0) = false := decide_eq_false (by omega)
  have hneed : Hid (q.length < at_ + 32 * n) := h2
  have hat' : Hid (at_ ≤ q.length) := h1
  have hnn := Lib.hid hnil
  have hAA := Lib.hid hA
  have hcc := Lib.hid hc
  have hF := Lib.hid (fun (w' : World) (hb : Blk w' g 186 #[.slice A q.length c, .int .i64 ((at_ : Nat) : Int), .int .i64 0]) => refuse_first g (.slice A q.length c) ((at_ : Nat) : Int) w' hb)
  clear hb hr hnil hA hc hat hyes hno h1 h2 hq hn
  go_enter Tryd.func67, Tryd.ntmps67
  go_wp2_with fail
  go_quiet (fail)
  go_wp2_with fail
  have hB3 : Blk ((w.alloc (.cells Z32 23)).drewN nq) g 186 #[.slice A q.length c, .int .i64 ((at_ : Nat) : Int), .int .i64 0] := (hbh.out.alloc _).drewN nq
  have hR3 : Reads ((w.alloc (.cells Z32 23)).drewN nq) 1 A q.length (cells8 q) := (hrh.out.alloc _).drewN nq
  have hres := Rd.fail hB3 hR3 hnn.out hAA.out hcc.out hat'.out hneed.out
  have hkk := ((((Kept.refl (· = g) w).alloc (.cells Z32 23)).drewN nq).trans hres.2 (fun _ _ h => h))
  have hF3 := Lib.hid (hF.out _ hB3)
  have hfin := Lib.hid (And.intro hres.1 hkk)
  clear hB3 hR3 hres hkk hF
  refine hF3.out.mono ?_
  rintro e w4 ⟨rfl, rfl⟩
  go_wp2_with fail
  go_ret
  exact ⟨rfl, hfin.out.1, hfin.out.2⟩

set_option maxRecDepth 100000 in
set_option maxHeartbeats 1000000 in
theorem digestsR_yes (q : Text) (hq : q.length < 140737488355328) (g need n : Nat) (hn : n ≤ 1099511627776) (A : Option Addr) (c : Nat) (w : World) (h : Rd w g q A c need) (h2 : need + 32 * n ≤ q.length) :
    Calls Tryd.prog 67 #[.pointer (some ⟨g, 0, none⟩), .int .i64 (n : Int)] w fun e w' => ∃ gl, e = .returned (.slice (some ⟨gl, 0, none⟩) n n) ∧ RdD w' (some ⟨gl, 0, none⟩) n (chunks (q.drop need) n) ∧ w.heap.size ≤ gl ∧ Rd w' g q A c (need + 32 * n) ∧ Kept (· = g) w w' := by
  obtain ⟨i0, ii, iz0, iz1, iz2⟩ := info_partsN info32
  have hRd0 := Lib.hid h
  obtain ⟨at_, why, hb, hr, hnil, hA, hc, hat, hyes, hno⟩ := h
  obtain ⟨rfl, rfl⟩ := hyes (by omega)
  have g0 : w.cell? ⟨g, 0, none⟩ = some (.slice A q.length c) := by rw [hb.cell 0]; rfl
  have g1 : w.cell? ⟨g, 1, none⟩ = some (.int .i64 (at_ : Int)) := by rw [hb.cell 1]; rfl
  have g2 : w.cell? ⟨g, 2, none⟩ = some (.int .i64 0) := by rw [hb.cell 2]; rfl
  have hgl : g < w.heap.size := hb.lt
  obtain ⟨L, hL⟩ : ∃ L, Hid (q.length - at_ = L) := ⟨_, Lib.hid rfl⟩
  obtain ⟨LL, hLL⟩ : ∃ LL, Hid (L / 32 = LL) := ⟨_, Lib.hid rfl⟩
  have z1 := (sub_in hL.out hat hq).1
  have z1' := (sub_in hL.out hat hq).2
  have z2 := (quo_in hL.out hLL.out hq).1
  have z5 := (quo_in hL.out hLL.out hq).2
  have z6 : 0 ≤ (L : Int) := by omega
  have z7 := wrap_in hL.out hLL.out hq
  have z3 : decide (LL < n) = false := decide_eq_false (enough hL.out hLL.out h2)
  have z4 : decide ((n : Int) < 0) = false := decide_eq_false (by omega)
  have b2 : Hid (i0.bytes * n ≤ 281474976710656) := by show _ ≤ _; rw [iz2]; omega
  have b3 : Hid (n ≤ maxLen) := by show _ ≤ _; unfold maxLen; omega
  have hneed : Hid (at_ + 32 * n ≤ q.length) := h2
  have hqq := Lib.hid hq
  have hn47 : (n : Int) ≤ 1099511627776 := by omega
  have hn0 : (0 : Int) ≤ (n : Int) := by omega
  have hdl : Hid (32 * n ≤ (q.drop at_).length) := by show _ ≤ _; rw [List.length_drop]; omega
  clear hb hr hnil hA hc hat hyes hno h2 hq hn
  go_enter Tryd.func67, Tryd.ntmps67
  go_wp2_with fail
  go_quiet (fail)
  generalize hw1 : ((w.alloc (.cells Z32 23)).drewN nq) = w1
  have hb1 : Hid (Below w.heap.size w w1) := by show Below _ _ _; rw [← hw1]; exact below_drawn (Below.heap_below w _) nq
  have hR1 : Hid (Rd w1 g q A c at_) := hRd0.out.below hb1.out
  unfold Z32 at hw1
  rw [hw1]
  clear hw1 z1 z1' z2 z5 z6 z7 g0 g1 g2 hRd0
  go_wp2_with (at_make; refine wpList_make_full _ rfl (.tmp 32) (.tmp 32) 42 rfl w1.heap.size 23 i0 (.agg Z32) 32 Tryd.underlying42 ii iz0 iz1 .i64 .i64 (n : Int) (n : Int) n rfl rfl (by omega) (by omega) b2.out b3.out (Nat.le_refl _) ?_; intro w2 hown hgrow; rw [made32, ← flatMap_zero] at hown; have hG2 : Hid (RowD w2 w1.heap.size (List.replicate n zt)) := ownBlkN hown; have hb2 : Hid (Below w1.heap.size w1 w2) := (Below.refl _ _).grown hgrow (Nat.le_refl _) (fun _ e => by cases e); have hR2 : Hid (Rd w2 g q A c at_) := hR1.out.below hb2.out; clear hown hgrow)
  have hk2 : Hid (Kept (· = g) w w2) := by show Kept _ _ _; exact (Kept.of_below hb1.out).trans (T := (· = g)) (Kept.of_below hb2.out) (fun _ _ h => h)
  have hgl2 : Hid (g < w1.heap.size) := hR1.out.lt
  have hwl : Hid (w.heap.size ≤ w1.heap.size) := hb1.out.size
  have hold : Hid (∀ a, 0 < q.length → A = some a → a.block < w1.heap.size) := fun a h0 ea => hR1.out.old h0 a ea
  clear hb1 hb2 hR1 b2 b3 z3 z4 hgl
  go_loopw [36] (fun v wr => ∃ i : Nat, v = .int .i64 (i : Int) ∧ i ≤ n ∧ Hid (RowD wr w1.heap.size (readL (q.drop at_) n i)) ∧ Hid (Rd wr g q A c (at_ + 32 * i)) ∧ Hid (Kept (· = g) w wr)) (fun v _ => n - (intOf v).toNat)
  case atStart => exact ⟨0, rfl, Nat.zero_le _, by rw [readL_zero]; exact hG2.out, hR2.out, hk2.out⟩
  case round =>
    clear hG2 hR2 hk2
    obtain ⟨i, rfl, hin, hG, hR, hK⟩ := hrel
    have hi0 : (0 : Int) ≤ (i : Int) := by omega
    have hi47 : (i : Int) ≤ 1099511627776 := by omega
    by_cases hlt : i < n
    · have hz : (i : Int) < (n : Int) := by omega
      have hT := Lib.hid (digest_any q hqq.out g (at_ + 32 * i) A c wr hR.out)
      have hstep := Lib.hid (readL_step (q.drop at_) n i hlt)
      have hdg := Lib.hid (readL_digs (q.drop at_) n i (by have := hdl.out; omega))
      have hll := Lib.hid (readL_len (q.drop at_) n i hin)
      have hil : Hid (i < n) := hlt
      have hfit : Hid (at_ + 32 * i + 32 ≤ q.length) := by have := hneed.out; show _ ≤ _; omega
      clear hlt
      go_wp2_with (first
        | (go_at_call 79; refine hT.out.mono ?_; rintro e w3 ⟨d, rfl, hdlen, hd, hR3, hk3⟩; obtain rfl : d = chunk (q.drop at_) i := (by rw [hd hfit.out]; unfold chunk; rw [List.drop_drop]); have Fd := Lib.hid (fit (x := chunk (q.drop at_) i) hdlen); have hG3 : Hid (RowD w3 w1.heap.size (readL (q.drop at_) n i)) := Blk.kept hG.out hk3 (by have := hgl2.out; omega); have hK3 := Lib.hid (hK.out.trans hk3 (fun _ _ h => h)); replace hR3 : Hid (Rd w3 g q A c (at_ + 32 * (i + 1))) := (by show Rd _ _ _ _ _ _; rw [show at_ + 32 * (i + 1) = at_ + 32 * i + 32 by omega]; exact hR3); have hsz : Hid (i * 32 + (cells8 (chunk (q.drop at_) i)).toArray.size ≤ ((readL (q.drop at_) n i).flatMap cells8).toArray.size) := (by show _ ≤ _; rw [List.size_toArray, List.size_toArray, cells8_len, hdlen, flatMap_len _ hdg.out, hll.out]; have := hil.out; omega); have hset : Hid ((((readL (q.drop at_) n i).flatMap cells8).toArray.toList.take (i * 32) ++ (cells8 (chunk (q.drop at_) i)).toArray.toList ++ ((readL (q.drop at_) n i).flatMap cells8).toArray.toList.drop (i * 32 + (cells8 (chunk (q.drop at_) i)).toArray.size)).toArray = ((readL (q.drop at_) n (i + 1)).flatMap cells8).toArray) := (by show _ = _; rw [List.toList_toArray, List.toList_toArray, List.size_toArray, cells8_len, hdlen, flatMap_set _ hdg.out i (by rw [hll.out]; exact hil.out), hstep.out]); clear hd hk3 hT hdlen)
        | ((with_reducible change wpList _ _ _ ({ dst := none, op := Op.store 23 _ _, type := _, pos := _, after := _, guard := _ } :: _) _ _); refine wpList_store_part (o := ⟨none, _, _, _, _, _⟩) rfl 23 (.tmp 43) (.tmp 42) rfl w1.heap.size (i * 32) (cells8 (chunk (q.drop at_) i)).toArray rfl rfl 23 _ hG3.out Fd.out.size hsz.out Fd.out.one ?_; rw [hset.out]))
      have hS : Hid (Kept (· = w1.heap.size) w3 (w3.setRow w1.heap.size ((readL (q.drop at_) n (i + 1)).flatMap cells8).toArray)) := Bytes.Kept.setRow (S := (· = w1.heap.size)) (Kept.refl _ w3) rfl _
      go_roundw
      case rel => exact ⟨i + 1, by go_num, hil.out, setRow_heap _ _ _ _ _ _ hG3.out, hR3.out.keptOff hS.out (by have := hgl2.out; omega) (fun h0 a ea e => by have := hold.out a h0 ea; omega), hK3.out.trans hS.out (fun i h1 h2 => by have := hwl.out; omega)⟩
      case measure => (have := hil.out; simp [intOf]; omega)
    · obtain rfl : i = n := by omega
      have hz : ¬ ((i : Int) < (i : Int)) := by omega
      have hfin : Hid (RdD wr (some ⟨w1.heap.size, 0, none⟩) i (chunks (q.drop at_) i)) := by
        have h1 : RowD wr w1.heap.size (chunks (q.drop at_) i) := by have := hG.out; rwa [readL_done] at this
        have := h1.rd (chunks_digs _ _ hdl.out)
        rwa [chunks_len] at this
      clear hlt
      go_wp2_with fail
      go_ret
      exact ⟨_, rfl, hfin.out, hwl.out, hR.out, hK.out⟩
end Go.Proofs.YtgldkfaiofkhbaaDoor.Reader4

namespace Go.Proofs.YtgldkfaiofkhbaaDoor.Reader5
open Go Go.RowKit Go.Proofs.YtgldkfaiofkhbaaDoor Go.Proofs.YtgldkfaiofkhbaaDoor.Mem Go.Proofs.YtgldkfaiofkhbaaDoor.Sha Go.Proofs.YtgldkfaiofkhbaaDoor.Bytes Go.Proofs.YtgldkfaiofkhbaaDoor.QuietTail Go.Proofs.YtgldkfaiofkhbaaDoor.TreeMem Go.Proofs.YtgldkfaiofkhbaaDoor.TreeRoot Go.Proofs.YtgldkfaiofkhbaaDoor.Book Go.Proofs.YtgldkfaiofkhbaaDoor.Reader Go.Proofs.YtgldkfaiofkhbaaDoor.Reader2 Go.Proofs.YtgldkfaiofkhbaaDoor.Reader3 Go.Proofs.YtgldkfaiofkhbaaDoor.Reader4

theorem Rd.past {w : World} {g need need' c : Nat} {q : Text} {A : Option Addr} (h : Rd w g q A c need) (h1 : q.length < need) (h2 : q.length < need') : Rd w g q A c need' := by
  obtain ⟨at_, why, hb, hr, hnil, hA, hc, hat, hyes, hno⟩ := h
  exact ⟨at_, why, hb, hr, hnil, hA, hc, hat, fun h => by omega, fun _ => hno h1⟩
set_option maxRecDepth 100000 in
set_option maxHeartbeats 1000000 in
theorem digestsR_out (q : Text) (g need n : Nat) (A : Option Addr) (c : Nat) (w : World) (h : Rd w g q A c need) (h1 : q.length < need) :
    Calls Tryd.prog 67 #[.pointer (some ⟨g, 0, none⟩), .int .i64 (n : Int)] w fun e w' => e = .returned (.slice none 0 0) ∧ Rd w' g q A c (need + 32 * n) ∧ Kept (· = g) w w' := by
  have hR := Lib.hid ((Rd.past h h1 (show q.length < need + 32 * n by omega)).alloc (.cells Z32 23))
  obtain ⟨at_, why, hb, hr, hnil, hA, hc, hat, hyes, hno⟩ := h
  have g2 : w.cell? ⟨g, 2, none⟩ = some (.int .i64 8) := by rw [hb.cell 2, hno h1]; rfl
  have hgl : g < w.heap.size := hb.lt
  clear hb hr hnil hA hc hat hyes hno h1
  go_enter Tryd.func67, Tryd.ntmps67
  go_wp2_with fail
  go_ret
  exact ⟨rfl, hR.out, (Kept.refl (· = g) w).alloc _⟩
end Go.Proofs.YtgldkfaiofkhbaaDoor.Reader5

namespace Go.Proofs.YtgldkfaiofkhbaaDoor.Reader6
open Go Go.RowKit Go.Proofs.YtgldkfaiofkhbaaDoor Go.Proofs.YtgldkfaiofkhbaaDoor.Mem Go.Proofs.YtgldkfaiofkhbaaDoor.Sha Go.Proofs.YtgldkfaiofkhbaaDoor.Bytes Go.Proofs.YtgldkfaiofkhbaaDoor.TreeMem Go.Proofs.YtgldkfaiofkhbaaDoor.TreeRoot Go.Proofs.YtgldkfaiofkhbaaDoor.Reader Go.Proofs.YtgldkfaiofkhbaaDoor.Reader2 Go.Proofs.YtgldkfaiofkhbaaDoor.Reader3 Go.Proofs.YtgldkfaiofkhbaaDoor.Reader4 Go.Proofs.YtgldkfaiofkhbaaDoor.Reader5

/-- What a call of Digests leaves. -/
def DigOut (w : World) (g need n : Nat) (q : Text) (A : Option Addr) (c : Nat) (e : Ending) (w' : World) : Prop :=
  ∃ A1 m ds, e = .returned (.slice A1 m m) ∧ RdD w' A1 m ds ∧ (A1 = none → m = 0 ∧ m = 0) ∧ m ≤ n ∧ (need + 32 * n ≤ q.length → m = n ∧ ds = chunks (q.drop need) n) ∧ (∀ b o x, A1 = some ⟨b, o, x⟩ → w.heap.size ≤ b) ∧ Rd w' g q A c (need + 32 * n) ∧ Kept (· = g) w w'
theorem digestsR_any (q : Text) (hq : q.length < 140737488355328) (g need n : Nat) (hn : n ≤ 1099511627776) (A : Option Addr) (c : Nat) (w : World) (h : Rd w g q A c need) :
    Calls Tryd.prog 67 #[.pointer (some ⟨g, 0, none⟩), .int .i64 (n : Int)] w (DigOut w g need n q A c) := by
  by_cases h2 : need + 32 * n ≤ q.length
  · refine (digestsR_yes q hq g need n hn A c w h h2).mono ?_
    rintro e w' ⟨gl, rfl, hL, hgl, hR, hk⟩
    exact ⟨_, n, _, rfl, hL, (fun e => by cases e), Nat.le_refl _, fun _ => ⟨rfl, rfl⟩, fun b o x e => (by injection e with e; injection e with e1; omega), hR, hk⟩
  · have fin : ∀ e w', e = Ending.returned (.slice none 0 0) ∧ Rd w' g q A c (need + 32 * n) ∧ Kept (· = g) w w' → DigOut w g need n q A c e w' := by
      rintro e w' ⟨rfl, hR, hk⟩
      exact ⟨none, 0, [], rfl, RdD.nil_ _ _, fun _ => ⟨rfl, rfl⟩, Nat.zero_le _, fun h => absurd h h2, (fun b o x e => by cases e), hR, hk⟩
    by_cases h1 : need ≤ q.length
    · exact (digestsR_no q hq g need n hn A c w h h1 (by omega)).mono fin
    · exact (digestsR_out q g need n A c w h (by omega)).mono fin
end Go.Proofs.YtgldkfaiofkhbaaDoor.Reader6
