/-
  Texts of the claim, put into one file: TreeJoins.
-/
import Derived.Test.YtpgenpogjhpeoaaDoorZ27
import Derived.Test.YtpgenpogjhpeoaaDoorZ29
import Derived.Test.YtpgenpogjhpeoaaDoorZ28
import Derived.Test.YtpgenpogjhpeoaaDoorZ26
import Derived.Test.YtpgenpogjhpeoaaDoorZ12
import Derived.Test.YtpgenpogjhpeoaaDoorZ13

namespace Go.Proofs.YtpgenpogjhpeoaaDoor.TreeJoins
open Go Go.RowKit Go.Proofs.YtpgenpogjhpeoaaDoor Go.Proofs.YtpgenpogjhpeoaaDoor.Digest Go.Proofs.YtpgenpogjhpeoaaDoor.Mem Go.Proofs.YtpgenpogjhpeoaaDoor.Sha Go.Proofs.YtpgenpogjhpeoaaDoor.ShaWalk Go.Proofs.YtpgenpogjhpeoaaDoor.Bytes Go.Proofs.YtpgenpogjhpeoaaDoor.Append Go.Proofs.YtpgenpogjhpeoaaDoor.HashMem Go.Proofs.YtpgenpogjhpeoaaDoor.DigestMem Go.Proofs.YtpgenpogjhpeoaaDoor.DigestTop Go.Proofs.YtpgenpogjhpeoaaDoor.QuietTail Go.Proofs.YtpgenpogjhpeoaaDoor.Grown Go.Proofs.YtpgenpogjhpeoaaDoor.Chain Go.Proofs.YtpgenpogjhpeoaaDoor.TreeMath Go.Proofs.YtpgenpogjhpeoaaDoor.TreeMem Go.Proofs.YtpgenpogjhpeoaaDoor.TreeRoot Go.Proofs.YtpgenpogjhpeoaaDoor.Held Go.Proofs.YtpgenpogjhpeoaaDoor.Guard Go.Proofs.YtpgenpogjhpeoaaDoor.Book Go.Proofs.YtpgenpogjhpeoaaDoor.Node Go.Proofs.YtpgenpogjhpeoaaDoor.NodeW Go.Proofs.YtpgenpogjhpeoaaDoor.WayP Go.Proofs.YtpgenpogjhpeoaaDoor.RevP Go.Proofs.YtpgenpogjhpeoaaDoor.TreeRefRoot Go.Proofs.YtpgenpogjhpeoaaDoor.Climb Go.Proofs.YtpgenpogjhpeoaaDoor.Incl Go.Proofs.YtpgenpogjhpeoaaDoor.Subs Go.Proofs.YtpgenpogjhpeoaaDoor.RowsP Go.Proofs.YtpgenpogjhpeoaaDoor.Joint Go.Proofs.YtpgenpogjhpeoaaDoor.RefIncl0 Go.Proofs.YtpgenpogjhpeoaaDoor.AheadM Go.Proofs.YtpgenpogjhpeoaaDoor.AheadT Go.Proofs.YtpgenpogjhpeoaaDoor.Ahead Go.Proofs.YtpgenpogjhpeoaaDoor.AheadX Go.Proofs.YtpgenpogjhpeoaaDoor.Agree Go.Proofs.YtpgenpogjhpeoaaDoor.Book2 Go.Proofs.YtpgenpogjhpeoaaDoor.DigEq Go.Proofs.YtpgenpogjhpeoaaDoor.RowsT Go.Proofs.YtpgenpogjhpeoaaDoor.Guard2 Go.Proofs.YtpgenpogjhpeoaaDoor.Want Go.Proofs.YtpgenpogjhpeoaaDoor.TwiceP Go.Proofs.YtpgenpogjhpeoaaDoor.ClashM Go.Proofs.YtpgenpogjhpeoaaDoor.Clash Go.Proofs.YtpgenpogjhpeoaaDoor.MetW

theorem _root_.Go.Proofs.YtpgenpogjhpeoaaDoor.Mem.Blk.onJ {w w' : World} {g : Nat} {t : TypeId} {cs : Array Value} (h : Blk w g t cs) (hb : Below w.heap.size w w') : Blk w' g t cs := (hb.block g h.lt).trans h
theorem agree_taken {s old size : Int} {r0 r1 : Text} {ds : List Text} (h : agreeOf s old size r0 r1 ds = 0) : ∃ o z : Nat, old = (o : Int) ∧ size = (z : Int) ∧ o ≤ z ∧ z ≤ 1099511627776 ∧ betw o z = ds.length ∧ agA s o z r0 ds = r0 ∧ agB s o z r0 r1 ds = r1 := by
  unfold agreeOf at h
  cases hj : joinsB old size with
  | false => rw [if_pos hj] at h; exact absurd h (by decide)
  | true =>
    rw [if_neg (by rw [hj]; decide)] at h
    simp only [joinsB, Bool.and_eq_true, decide_eq_true_eq] at hj
    obtain ⟨o, rfl⟩ := Int.eq_ofNat_of_zero_le hj.1.1
    obtain ⟨z, rfl⟩ := Int.eq_ofNat_of_zero_le (show 0 ≤ size by omega)
    rw [Int.toNat_natCast, Int.toNat_natCast] at h
    by_cases hb : betw o z ≠ ds.length
    · rw [if_pos hb] at h; exact absurd h (by decide)
    · rw [if_neg hb] at h
      by_cases hc : agA s o z r0 ds = r0 ∧ agB s o z r0 r1 ds = r1
      · exact ⟨o, z, rfl, rfl, by omega, by omega, by omega, hc.1, hc.2⟩
      · rw [if_neg hc] at h; exact absurd h (by decide)
theorem agree_in_mid {s : Int} {o z : Nat} {r0 r1 : Text} {ds : List Text} (h1 : 1 ≤ o) (h2 : o < z) (ha : agA s o z r0 ds = r0) (hb : agB s o z r0 r1 ds = r1) : (aheadOf s o z r0 ds).fr = r0 ∧ (aheadOf s o z r0 ds).sr = r1 := by
  unfold agA at ha
  unfold agB at hb
  rw [if_neg (by omega), if_neg (by omega)] at ha hb
  exact ⟨ha, hb⟩
/-- Two proofs for one new root: the same, or two texts meet. -/
theorem join_meet {s : Int} {o z : Nat} {r0 r1 root : Text} {ds es : List Text} (h1 : 1 ≤ o) (h2 : o < z) (l0 : r0.length = 32) (l1 : r1.length = 32) (hd : Digs ds) (he : Digs es) (hn : betw o z = ds.length) (hm : betw o z = es.length)
    (hf0 : (aheadOf s o z r0 ds).fr = r0) (hf1 : (aheadOf s o z r1 es).fr = r1) (hs0 : (aheadOf s o z r0 ds).sr = root) (hs1 : (aheadOf s o z r1 es).sr = root) (hne : ¬ (r0 = r1 ∧ ds = es)) : MetAt s (aheadOf s o z r0 ds).st (aheadOf s o z r1 es).st := by
  obtain ⟨hlow, -, -⟩ := parts_low h1 h2
  have hpl := partsOf_len (Nat.le_of_lt h2)
  have zd : (((partsOf o z).map (bh o)).zip ds).length = ds.length := by rw [List.length_zip, List.length_map]; omega
  have ze : (((partsOf o z).map (bh o)).zip es).length = es.length := by rw [List.length_zip, List.length_map]; omega
  have x32 : ∀ (r : Text) (l : List Text), r.length = 32 → Digs l → betw o z = l.length → (if powB o then r else l.getD 0 []).length = 32 := fun r l hr hl hbl => by
    split
    · exact hr
    · obtain ⟨d, hd0⟩ : ∃ d, l[0]? = some d := ⟨_, List.getElem?_eq_getElem (by omega)⟩
      have := hl.at_ hd0
      simpa [List.getD, hd0] using this
  have hlen : ds.length = es.length := by omega
  obtain ⟨-, hmeet⟩ := ahead_meet s (x32 r0 ds l0 hd hn) (x32 r1 es l1 he hm) (lowOf o) (P := ((partsOf o z).map (bh o)).zip ds) (Q := ((partsOf o z).map (bh o)).zip es) (fun p hp => hd _ (List.of_mem_zip (show (p.1, p.2) ∈ _ from hp)).2) (fun p hp => he _ (List.of_mem_zip (show (p.1, p.2) ∈ _ from hp)).2) (by omega) (fun j p q hp hq => by
    have e1 := List.getElem?_zip_eq_some.1 hp
    have e2 := List.getElem?_zip_eq_some.1 hq
    exact Option.some.inj (e1.1.symm.trans e2.1)) (ds.length - lowOf o) (by omega)
  rw [show lowOf o + (ds.length - lowOf o) = ds.length by omega] at hmeet
  have e0 : aheadS s (if powB o then r0 else ds.getD 0 []) (lowOf o) (((partsOf o z).map (bh o)).zip ds) ds.length = aheadOf s o z r0 ds := rfl
  have e1 : aheadS s (if powB o then r1 else es.getD 0 []) (lowOf o) (((partsOf o z).map (bh o)).zip es) ds.length = aheadOf s o z r1 es := by unfold aheadOf; rw [hlen]
  rw [e0, e1] at hmeet
  rcases hmeet (by rw [hs0, hs1]) with ⟨hx, hP⟩ | h
  · have same : ∀ j, lowOf o ≤ j → j < ds.length → ds[j]? = es[j]? := fun j hj0 hj => by
      have e3 := hP j hj0 hj
      have p1 := List.getElem?_eq_getElem (l := ds) hj
      have p2 := List.getElem?_eq_getElem (l := es) (show j < es.length by omega)
      have p0 := List.getElem?_eq_getElem (l := (partsOf o z).map (bh o)) (show j < ((partsOf o z).map (bh o)).length by rw [List.length_map]; omega)
      have q1 : (((partsOf o z).map (bh o)).zip ds)[j]? = some (((partsOf o z).map (bh o))[j]'(by rw [List.length_map]; omega), ds[j]) := List.getElem?_zip_eq_some.2 ⟨p0, p1⟩
      have q2 : (((partsOf o z).map (bh o)).zip es)[j]? = some (((partsOf o z).map (bh o))[j]'(by rw [List.length_map]; omega), es[j]'(by omega)) := List.getElem?_zip_eq_some.2 ⟨p0, p2⟩
      rw [q1, q2] at e3
      have e4 := congrArg Prod.snd (Option.some.inj e3)
      dsimp only at e4
      rw [p1, p2, e4]
    cases hpw : powB o with
    | true =>
      have hl0 : lowOf o = 0 := by unfold lowOf; rw [hpw]; rfl
      rw [hpw, if_pos rfl, if_pos rfl] at hx
      refine absurd ⟨hx, List.ext_getElem? fun j => ?_⟩ hne
      rcases Nat.lt_or_ge j ds.length with hj | hj
      · exact same j (by omega) hj
      · rw [List.getElem?_eq_none hj, List.getElem?_eq_none (by omega)]
    | false =>
      have hl0 : lowOf o = 1 := by unfold lowOf; rw [hpw]; rfl
      rw [hpw, if_neg (by decide), if_neg (by decide)] at hx
      have hde : ds = es := by
        refine List.ext_getElem? fun j => ?_
        rcases Nat.lt_or_ge j ds.length with hj | hj
        · rcases Nat.eq_zero_or_pos j with h0 | h0
          · subst h0
            have p1 := List.getElem?_eq_getElem (l := ds) hj
            have p2 := List.getElem?_eq_getElem (l := es) (show 0 < es.length by omega)
            rw [p1, p2]
            rw [List.getD_eq_getElem?_getD, List.getD_eq_getElem?_getD, p1, p2] at hx
            exact congrArg some hx
          · exact same j (by omega) hj
        · rw [List.getElem?_eq_none hj, List.getElem?_eq_none (by omega)]
      have hah : aheadOf s o z r0 ds = aheadOf s o z r1 ds := by unfold aheadOf; rw [hpw]; rfl
      refine absurd ⟨?_, hde⟩ hne
      rw [← hf0, hah, hde, hf1]
  · exact h
theorem own_oneT {w : World} {B n : Nat} {v : Value} {xs : List Value} {ts : List Text} (hO : w.ownsRow B 27 1 v n xs) (h : Tx w xs ts) (hn : ts.length = n) : ∀ u ∈ xs, u.oneCell' = true := by
  intro u hu
  obtain ⟨j, hj, rfl⟩ := List.mem_iff_getElem.1 hu
  have hl : xs.length = n := by have := hO.1; omega
  obtain ⟨-, g, c, h1, -⟩ := h j _ (List.getElem?_eq_getElem (show j < ts.length by omega))
  rw [List.getElem?_eq_getElem hj] at h1
  rw [Option.some.inj h1]
  rfl
theorem cat_join {w0 w w' : World} {n m : Nat} {v v' : Value} {xs1 xs2 : List Value} {p1 p2 : List Text} (hG : Grew w w0.heap.size 27 1 v n m xs1 xs2 v' w') (l1 : p1.length = n) (l2 : p2.length = m) (hO : w.ownsRow w0.heap.size 27 1 v n xs1) (hT : Tx w xs1 p1) (hU : Tx w xs2 p2) (hnm : 0 < m → 0 < n) (hb : Below w0.heap.size w0 w) :
    ∃ A c, v' = .slice A (n + m) c ∧ Hid (Pieces w' A (p1 ++ p2)) ∧ Hid (Below w0.heap.size w0 w') := by
  subst l1 l2
  obtain ⟨h1, h2⟩ := tx_cat hO hT hU hnm hG
  obtain ⟨A, c, e, -, -, hP⟩ := Tx.pieces h2 h1
  refine ⟨A, c, by rw [e, List.length_append], hP, hG.below hb hb.size (fun k hk => ?_)⟩
  obtain ⟨A2, c2, e2, -, -, -, -, h3⟩ := Go.Proofs.YtpgenpogjhpeoaaDoor.Append.Own.reads hO
  subst e2
  cases A2 with
  | none => cases hk
  | some a => injection hk with hk; subst hk; exact (h3 a rfl).1

set_option maxRecDepth 100000 in
set_option maxHeartbeats 4000000 in
theorem tj_e1 (s old size : Int) (x y z : Text) (hx : x.length = 32) (hy : y.length = 32) (hz : z.length = 32) (n m : Nat) (A B : Option Addr) (c d : Nat) (w : World) (k1 k2 : Int)
    (hI1 : Hid (∀ w', Below w.heap.size w w' → Calls Tryd.prog 25 #[.int .i64 s, .int .i64 old, .int .i64 size, .agg (cells8 x).toArray, .agg (cells8 z).toArray, .slice A n c] w' fun e w'' => e = .returned (.int .i64 k1) ∧ Below w'.heap.size w' w''))
    (hI2 : Hid (∀ w', Below w.heap.size w w' → Calls Tryd.prog 25 #[.int .i64 s, .int .i64 old, .int .i64 size, .agg (cells8 y).toArray, .agg (cells8 z).toArray, .slice B m d] w' fun e w'' => e = .returned (.int .i64 k2) ∧ Below w'.heap.size w' w'')) (z1 : ¬ k1 = 0) :
    Calls Tryd.prog 5 #[.int .i64 s, .int .i64 old, .int .i64 size, .agg (cells8 x).toArray, .agg (cells8 y).toArray, .agg (cells8 z).toArray, .slice A n c, .slice B m d] w fun e w' => e = .returned (.bool true) ∧ Below w.heap.size w w' := by
  have hb : Hid (Below w.heap.size w (((w.alloc (.cells (cells8 x).toArray 23)).alloc (.cells (cells8 y).toArray 23)).alloc (.cells (cells8 z).toArray 23))) := ((Below.heap_below w _).alloc (by simp) _).alloc (by simp; omega) _
  have hX : Hid (Blk (((w.alloc (.cells (cells8 x).toArray 23)).alloc (.cells (cells8 y).toArray 23)).alloc (.cells (cells8 z).toArray 23)) w.heap.size 23 (cells8 x).toArray) := ((Blk.new w _ _).alloc _).alloc _
  have hY : Hid (Blk (((w.alloc (.cells (cells8 x).toArray 23)).alloc (.cells (cells8 y).toArray 23)).alloc (.cells (cells8 z).toArray 23)) (w.heap.size + 1) 23 (cells8 y).toArray) := by
    have := (Blk.new (w.alloc (.cells (cells8 x).toArray 23)) 23 (cells8 y).toArray).alloc (.cells (cells8 z).toArray 23)
    rwa [show (w.alloc (.cells (cells8 x).toArray 23)).heap.size = w.heap.size + 1 by simp] at this
  have hV : Hid (Blk (((w.alloc (.cells (cells8 x).toArray 23)).alloc (.cells (cells8 y).toArray 23)).alloc (.cells (cells8 z).toArray 23)) (w.heap.size + 2) 23 (cells8 z).toArray) := by
    have := heap_alloc2_new (w.alloc (.cells (cells8 x).toArray 23)) (.cells (cells8 y).toArray 23) (.cells (cells8 z).toArray 23)
    rwa [show (w.alloc (.cells (cells8 x).toArray 23)).heap.size = w.heap.size + 1 by simp] at this
  have Fx := Lib.hid (fit (x := x) hx)
  have Fy := Lib.hid (fit (x := y) hy)
  have Fz := Lib.hid (fit (x := z) hz)
  have _h := hI2
  clear hx hy hz
  go_enter Tryd.func5, Tryd.ntmps5
  go_wp2_with (first
    | ((with_reducible change wpList _ _ _ ({ dst := some 28, op := _, type := _, pos := _, after := _, guard := _ } :: _) _ _); refine wpList_load_row (o := ⟨some 28, _, _, _, _, _⟩) rfl 23 (.tmp 11) rfl (w.heap.size) rfl 23 ((cells8 x).toArray) (0, 0) _ hX.out Tryd.underlying23 rfl Fx.out.size ?_)
    | ((with_reducible change wpList _ _ _ ({ dst := some 29, op := _, type := _, pos := _, after := _, guard := _ } :: _) _ _); refine wpList_load_row (o := ⟨some 29, _, _, _, _, _⟩) rfl 23 (.tmp 13) rfl (w.heap.size + 2) rfl 23 ((cells8 z).toArray) (0, 0) _ hV.out Tryd.underlying23 rfl Fz.out.size ?_)
    | (go_at_call 25; refine (hI1.out _ hb.out).mono ?_; rintro e w1 ⟨rfl, kk⟩; clear hI1; have hX1 := Lib.hid (hX.out.onJ kk); have hY1 := Lib.hid (hY.out.onJ kk); have hV1 := Lib.hid (hV.out.onJ kk); have hb1 : Hid (Below w.heap.size w w1) := hb.out.trans (kk.mono hb.out.size); clear kk hX hY hV hb)
    | ((with_reducible change wpList _ _ _ ({ dst := some 37, op := _, type := _, pos := _, after := _, guard := _ } :: _) _ _); (with_reducible refine Veil.out ?_); refine wpList_rowW (o := ⟨some 37, _, _, _, _, _⟩) rfl 23 (.tmp 12) rfl (w.heap.size + 1) rfl 23 ((cells8 y).toArray) (0, 0) _ hY1.out Tryd.underlying23 rfl Fy.out.size ?_)
    | ((with_reducible change wpList _ _ _ ({ dst := some 38, op := _, type := _, pos := _, after := _, guard := _ } :: _) _ _); (with_reducible refine Veil.out ?_); refine wpList_rowW (o := ⟨some 38, _, _, _, _, _⟩) rfl 23 (.tmp 13) rfl (w.heap.size + 2) rfl 23 ((cells8 z).toArray) (0, 0) _ hV1.out Tryd.underlying23 rfl Fz.out.size ?_)
    | (go_at_call 25; refine (hI2.out _ hb1.out).mono ?_; rintro e w2 ⟨rfl, kk⟩; clear hI2; have hX2 := Lib.hid (hX1.out.onJ kk); have hY2 := Lib.hid (hY1.out.onJ kk); have hV2 := Lib.hid (hV1.out.onJ kk); have hb2 : Hid (Below w.heap.size w w2) := hb1.out.trans (kk.mono hb1.out.size); clear kk hX1 hY1 hV1 hb1)
    | ((with_reducible change wpList _ _ _ ({ dst := some 51, op := _, type := _, pos := _, after := _, guard := _ } :: _) _ _); (with_reducible refine Veil.out ?_); refine wpList_rowW (o := ⟨some 51, _, _, _, _, _⟩) rfl 23 (.tmp 11) rfl (w.heap.size) rfl 23 ((cells8 x).toArray) (0, 0) _ hX2.out Tryd.underlying23 rfl Fx.out.size ?_)
    | ((with_reducible change wpList _ _ _ ({ dst := some 52, op := _, type := _, pos := _, after := _, guard := _ } :: _) _ _); (with_reducible refine Veil.out ?_); refine wpList_rowW (o := ⟨some 52, _, _, _, _, _⟩) rfl 23 (.tmp 12) rfl (w.heap.size + 1) rfl 23 ((cells8 y).toArray) (0, 0) _ hY2.out Tryd.underlying23 rfl Fy.out.size ?_))
  go_ret
  exact ⟨rfl, hb1.out⟩

set_option maxRecDepth 100000 in
set_option maxHeartbeats 4000000 in
theorem tj_e2 (s old size : Int) (x y z : Text) (hx : x.length = 32) (hy : y.length = 32) (hz : z.length = 32) (n m : Nat) (A B : Option Addr) (c d : Nat) (w : World) (k1 k2 : Int)
    (hI1 : Hid (∀ w', Below w.heap.size w w' → Calls Tryd.prog 25 #[.int .i64 s, .int .i64 old, .int .i64 size, .agg (cells8 x).toArray, .agg (cells8 z).toArray, .slice A n c] w' fun e w'' => e = .returned (.int .i64 k1) ∧ Below w'.heap.size w' w''))
    (hI2 : Hid (∀ w', Below w.heap.size w w' → Calls Tryd.prog 25 #[.int .i64 s, .int .i64 old, .int .i64 size, .agg (cells8 y).toArray, .agg (cells8 z).toArray, .slice B m d] w' fun e w'' => e = .returned (.int .i64 k2) ∧ Below w'.heap.size w' w'')) (z1 : k1 = 0) (z2 : ¬ k2 = 0) :
    Calls Tryd.prog 5 #[.int .i64 s, .int .i64 old, .int .i64 size, .agg (cells8 x).toArray, .agg (cells8 y).toArray, .agg (cells8 z).toArray, .slice A n c, .slice B m d] w fun e w' => e = .returned (.bool true) ∧ Below w.heap.size w w' := by
  have hb : Hid (Below w.heap.size w (((w.alloc (.cells (cells8 x).toArray 23)).alloc (.cells (cells8 y).toArray 23)).alloc (.cells (cells8 z).toArray 23))) := ((Below.heap_below w _).alloc (by simp) _).alloc (by simp; omega) _
  have hX : Hid (Blk (((w.alloc (.cells (cells8 x).toArray 23)).alloc (.cells (cells8 y).toArray 23)).alloc (.cells (cells8 z).toArray 23)) w.heap.size 23 (cells8 x).toArray) := ((Blk.new w _ _).alloc _).alloc _
  have hY : Hid (Blk (((w.alloc (.cells (cells8 x).toArray 23)).alloc (.cells (cells8 y).toArray 23)).alloc (.cells (cells8 z).toArray 23)) (w.heap.size + 1) 23 (cells8 y).toArray) := by
    have := (Blk.new (w.alloc (.cells (cells8 x).toArray 23)) 23 (cells8 y).toArray).alloc (.cells (cells8 z).toArray 23)
    rwa [show (w.alloc (.cells (cells8 x).toArray 23)).heap.size = w.heap.size + 1 by simp] at this
  have hV : Hid (Blk (((w.alloc (.cells (cells8 x).toArray 23)).alloc (.cells (cells8 y).toArray 23)).alloc (.cells (cells8 z).toArray 23)) (w.heap.size + 2) 23 (cells8 z).toArray) := by
    have := heap_alloc2_new (w.alloc (.cells (cells8 x).toArray 23)) (.cells (cells8 y).toArray 23) (.cells (cells8 z).toArray 23)
    rwa [show (w.alloc (.cells (cells8 x).toArray 23)).heap.size = w.heap.size + 1 by simp] at this
  have Fx := Lib.hid (fit (x := x) hx)
  have Fy := Lib.hid (fit (x := y) hy)
  have Fz := Lib.hid (fit (x := z) hz)
  subst z1
  clear hx hy hz
  go_enter Tryd.func5, Tryd.ntmps5
  go_wp2_with (first
    | ((with_reducible change wpList _ _ _ ({ dst := some 28, op := _, type := _, pos := _, after := _, guard := _ } :: _) _ _); refine wpList_load_row (o := ⟨some 28, _, _, _, _, _⟩) rfl 23 (.tmp 11) rfl (w.heap.size) rfl 23 ((cells8 x).toArray) (0, 0) _ hX.out Tryd.underlying23 rfl Fx.out.size ?_)
    | ((with_reducible change wpList _ _ _ ({ dst := some 29, op := _, type := _, pos := _, after := _, guard := _ } :: _) _ _); refine wpList_load_row (o := ⟨some 29, _, _, _, _, _⟩) rfl 23 (.tmp 13) rfl (w.heap.size + 2) rfl 23 ((cells8 z).toArray) (0, 0) _ hV.out Tryd.underlying23 rfl Fz.out.size ?_)
    | (go_at_call 25; refine (hI1.out _ hb.out).mono ?_; rintro e w1 ⟨rfl, kk⟩; clear hI1; have hX1 := Lib.hid (hX.out.onJ kk); have hY1 := Lib.hid (hY.out.onJ kk); have hV1 := Lib.hid (hV.out.onJ kk); have hb1 : Hid (Below w.heap.size w w1) := hb.out.trans (kk.mono hb.out.size); clear kk hX hY hV hb)
    | ((with_reducible change wpList _ _ _ ({ dst := some 37, op := _, type := _, pos := _, after := _, guard := _ } :: _) _ _); (with_reducible refine Veil.out ?_); refine wpList_rowW (o := ⟨some 37, _, _, _, _, _⟩) rfl 23 (.tmp 12) rfl (w.heap.size + 1) rfl 23 ((cells8 y).toArray) (0, 0) _ hY1.out Tryd.underlying23 rfl Fy.out.size ?_)
    | ((with_reducible change wpList _ _ _ ({ dst := some 38, op := _, type := _, pos := _, after := _, guard := _ } :: _) _ _); (with_reducible refine Veil.out ?_); refine wpList_rowW (o := ⟨some 38, _, _, _, _, _⟩) rfl 23 (.tmp 13) rfl (w.heap.size + 2) rfl 23 ((cells8 z).toArray) (0, 0) _ hV1.out Tryd.underlying23 rfl Fz.out.size ?_)
    | (go_at_call 25; refine (hI2.out _ hb1.out).mono ?_; rintro e w2 ⟨rfl, kk⟩; clear hI2; have hX2 := Lib.hid (hX1.out.onJ kk); have hY2 := Lib.hid (hY1.out.onJ kk); have hV2 := Lib.hid (hV1.out.onJ kk); have hb2 : Hid (Below w.heap.size w w2) := hb1.out.trans (kk.mono hb1.out.size); clear kk hX1 hY1 hV1 hb1)
    | ((with_reducible change wpList _ _ _ ({ dst := some 51, op := _, type := _, pos := _, after := _, guard := _ } :: _) _ _); (with_reducible refine Veil.out ?_); refine wpList_rowW (o := ⟨some 51, _, _, _, _, _⟩) rfl 23 (.tmp 11) rfl (w.heap.size) rfl 23 ((cells8 x).toArray) (0, 0) _ hX2.out Tryd.underlying23 rfl Fx.out.size ?_)
    | ((with_reducible change wpList _ _ _ ({ dst := some 52, op := _, type := _, pos := _, after := _, guard := _ } :: _) _ _); (with_reducible refine Veil.out ?_); refine wpList_rowW (o := ⟨some 52, _, _, _, _, _⟩) rfl 23 (.tmp 12) rfl (w.heap.size + 1) rfl 23 ((cells8 y).toArray) (0, 0) _ hY2.out Tryd.underlying23 rfl Fy.out.size ?_))
  go_ret
  exact ⟨rfl, hb2.out⟩

set_option maxRecDepth 100000 in
set_option maxHeartbeats 4000000 in
theorem tj_zero (s old size : Int) (x y z : Text) (hx : x.length = 32) (hy : y.length = 32) (hz : z.length = 32) (n m : Nat) (A B : Option Addr) (c d : Nat) (w : World) (k1 k2 : Int)
    (hI1 : Hid (∀ w', Below w.heap.size w w' → Calls Tryd.prog 25 #[.int .i64 s, .int .i64 old, .int .i64 size, .agg (cells8 x).toArray, .agg (cells8 z).toArray, .slice A n c] w' fun e w'' => e = .returned (.int .i64 k1) ∧ Below w'.heap.size w' w''))
    (hI2 : Hid (∀ w', Below w.heap.size w w' → Calls Tryd.prog 25 #[.int .i64 s, .int .i64 old, .int .i64 size, .agg (cells8 y).toArray, .agg (cells8 z).toArray, .slice B m d] w' fun e w'' => e = .returned (.int .i64 k2) ∧ Below w'.heap.size w' w'')) (z1 : k1 = 0) (z2 : k2 = 0) (ho : old = 0) (hoz : ¬ old = size) :
    Calls Tryd.prog 5 #[.int .i64 s, .int .i64 old, .int .i64 size, .agg (cells8 x).toArray, .agg (cells8 y).toArray, .agg (cells8 z).toArray, .slice A n c, .slice B m d] w fun e w' => e = .returned (.bool true) ∧ Below w.heap.size w w' := by
  have hb : Hid (Below w.heap.size w (((w.alloc (.cells (cells8 x).toArray 23)).alloc (.cells (cells8 y).toArray 23)).alloc (.cells (cells8 z).toArray 23))) := ((Below.heap_below w _).alloc (by simp) _).alloc (by simp; omega) _
  have hX : Hid (Blk (((w.alloc (.cells (cells8 x).toArray 23)).alloc (.cells (cells8 y).toArray 23)).alloc (.cells (cells8 z).toArray 23)) w.heap.size 23 (cells8 x).toArray) := ((Blk.new w _ _).alloc _).alloc _
  have hY : Hid (Blk (((w.alloc (.cells (cells8 x).toArray 23)).alloc (.cells (cells8 y).toArray 23)).alloc (.cells (cells8 z).toArray 23)) (w.heap.size + 1) 23 (cells8 y).toArray) := by
    have := (Blk.new (w.alloc (.cells (cells8 x).toArray 23)) 23 (cells8 y).toArray).alloc (.cells (cells8 z).toArray 23)
    rwa [show (w.alloc (.cells (cells8 x).toArray 23)).heap.size = w.heap.size + 1 by simp] at this
  have hV : Hid (Blk (((w.alloc (.cells (cells8 x).toArray 23)).alloc (.cells (cells8 y).toArray 23)).alloc (.cells (cells8 z).toArray 23)) (w.heap.size + 2) 23 (cells8 z).toArray) := by
    have := heap_alloc2_new (w.alloc (.cells (cells8 x).toArray 23)) (.cells (cells8 y).toArray 23) (.cells (cells8 z).toArray 23)
    rwa [show (w.alloc (.cells (cells8 x).toArray 23)).heap.size = w.heap.size + 1 by simp] at this
  have Fx := Lib.hid (fit (x := x) hx)
  have Fy := Lib.hid (fit (x := y) hy)
  have Fz := Lib.hid (fit (x := z) hz)
  subst z1 z2
  have y1 : (old == 0) = true := by rw [ho]; rfl
  have y2 : (old == size) = false := beq_eq_false_iff_ne.2 hoz
  have y3 : (old != size) = true := by rw [bne, y2]; rfl
  clear ho hoz
  clear hx hy hz
  go_enter Tryd.func5, Tryd.ntmps5
  go_wp2_with (first
    | ((with_reducible change wpList _ _ _ ({ dst := some 28, op := _, type := _, pos := _, after := _, guard := _ } :: _) _ _); refine wpList_load_row (o := ⟨some 28, _, _, _, _, _⟩) rfl 23 (.tmp 11) rfl (w.heap.size) rfl 23 ((cells8 x).toArray) (0, 0) _ hX.out Tryd.underlying23 rfl Fx.out.size ?_)
    | ((with_reducible change wpList _ _ _ ({ dst := some 29, op := _, type := _, pos := _, after := _, guard := _ } :: _) _ _); refine wpList_load_row (o := ⟨some 29, _, _, _, _, _⟩) rfl 23 (.tmp 13) rfl (w.heap.size + 2) rfl 23 ((cells8 z).toArray) (0, 0) _ hV.out Tryd.underlying23 rfl Fz.out.size ?_)
    | (go_at_call 25; refine (hI1.out _ hb.out).mono ?_; rintro e w1 ⟨rfl, kk⟩; clear hI1; have hX1 := Lib.hid (hX.out.onJ kk); have hY1 := Lib.hid (hY.out.onJ kk); have hV1 := Lib.hid (hV.out.onJ kk); have hb1 : Hid (Below w.heap.size w w1) := hb.out.trans (kk.mono hb.out.size); clear kk hX hY hV hb)
    | ((with_reducible change wpList _ _ _ ({ dst := some 37, op := _, type := _, pos := _, after := _, guard := _ } :: _) _ _); (with_reducible refine Veil.out ?_); refine wpList_rowW (o := ⟨some 37, _, _, _, _, _⟩) rfl 23 (.tmp 12) rfl (w.heap.size + 1) rfl 23 ((cells8 y).toArray) (0, 0) _ hY1.out Tryd.underlying23 rfl Fy.out.size ?_)
    | ((with_reducible change wpList _ _ _ ({ dst := some 38, op := _, type := _, pos := _, after := _, guard := _ } :: _) _ _); (with_reducible refine Veil.out ?_); refine wpList_rowW (o := ⟨some 38, _, _, _, _, _⟩) rfl 23 (.tmp 13) rfl (w.heap.size + 2) rfl 23 ((cells8 z).toArray) (0, 0) _ hV1.out Tryd.underlying23 rfl Fz.out.size ?_)
    | (go_at_call 25; refine (hI2.out _ hb1.out).mono ?_; rintro e w2 ⟨rfl, kk⟩; clear hI2; have hX2 := Lib.hid (hX1.out.onJ kk); have hY2 := Lib.hid (hY1.out.onJ kk); have hV2 := Lib.hid (hV1.out.onJ kk); have hb2 : Hid (Below w.heap.size w w2) := hb1.out.trans (kk.mono hb1.out.size); clear kk hX1 hY1 hV1 hb1)
    | ((with_reducible change wpList _ _ _ ({ dst := some 51, op := _, type := _, pos := _, after := _, guard := _ } :: _) _ _); (with_reducible refine Veil.out ?_); refine wpList_rowW (o := ⟨some 51, _, _, _, _, _⟩) rfl 23 (.tmp 11) rfl (w.heap.size) rfl 23 ((cells8 x).toArray) (0, 0) _ hX2.out Tryd.underlying23 rfl Fx.out.size ?_)
    | ((with_reducible change wpList _ _ _ ({ dst := some 52, op := _, type := _, pos := _, after := _, guard := _ } :: _) _ _); (with_reducible refine Veil.out ?_); refine wpList_rowW (o := ⟨some 52, _, _, _, _, _⟩) rfl 23 (.tmp 12) rfl (w.heap.size + 1) rfl 23 ((cells8 y).toArray) (0, 0) _ hY2.out Tryd.underlying23 rfl Fy.out.size ?_)
    | ((with_reducible change wpList _ _ _ ({ dst := some 64, op := _, type := _, pos := _, after := _, guard := _ } :: _) _ _); (with_reducible refine Veil.out ?_); refine wpList_rowW (o := ⟨some 64, _, _, _, _, _⟩) rfl 23 (.tmp 11) rfl (w.heap.size) rfl 23 ((cells8 x).toArray) (0, 0) _ hX2.out Tryd.underlying23 rfl Fx.out.size ?_)
    | ((with_reducible change wpList _ _ _ ({ dst := some 65, op := _, type := _, pos := _, after := _, guard := _ } :: _) _ _); (with_reducible refine Veil.out ?_); refine wpList_rowW (o := ⟨some 65, _, _, _, _, _⟩) rfl 23 (.tmp 12) rfl (w.heap.size + 1) rfl 23 ((cells8 y).toArray) (0, 0) _ hY2.out Tryd.underlying23 rfl Fy.out.size ?_))
  go_ret
  exact ⟨rfl, hb2.out⟩

set_option maxRecDepth 100000 in
set_option maxHeartbeats 4000000 in
theorem tj_same0 (s old size : Int) (x y z : Text) (hx : x.length = 32) (hy : y.length = 32) (hz : z.length = 32) (n m : Nat) (A B : Option Addr) (c d : Nat) (w : World) (k1 k2 : Int)
    (hI1 : Hid (∀ w', Below w.heap.size w w' → Calls Tryd.prog 25 #[.int .i64 s, .int .i64 old, .int .i64 size, .agg (cells8 x).toArray, .agg (cells8 z).toArray, .slice A n c] w' fun e w'' => e = .returned (.int .i64 k1) ∧ Below w'.heap.size w' w''))
    (hI2 : Hid (∀ w', Below w.heap.size w w' → Calls Tryd.prog 25 #[.int .i64 s, .int .i64 old, .int .i64 size, .agg (cells8 y).toArray, .agg (cells8 z).toArray, .slice B m d] w' fun e w'' => e = .returned (.int .i64 k2) ∧ Below w'.heap.size w' w'')) (z1 : k1 = 0) (z2 : k2 = 0) (ho : old = 0) (hoz : old = size) (hxy : x = y) :
    Calls Tryd.prog 5 #[.int .i64 s, .int .i64 old, .int .i64 size, .agg (cells8 x).toArray, .agg (cells8 y).toArray, .agg (cells8 z).toArray, .slice A n c, .slice B m d] w fun e w' => e = .returned (.bool true) ∧ Below w.heap.size w w' := by
  have hb : Hid (Below w.heap.size w (((w.alloc (.cells (cells8 x).toArray 23)).alloc (.cells (cells8 y).toArray 23)).alloc (.cells (cells8 z).toArray 23))) := ((Below.heap_below w _).alloc (by simp) _).alloc (by simp; omega) _
  have hX : Hid (Blk (((w.alloc (.cells (cells8 x).toArray 23)).alloc (.cells (cells8 y).toArray 23)).alloc (.cells (cells8 z).toArray 23)) w.heap.size 23 (cells8 x).toArray) := ((Blk.new w _ _).alloc _).alloc _
  have hY : Hid (Blk (((w.alloc (.cells (cells8 x).toArray 23)).alloc (.cells (cells8 y).toArray 23)).alloc (.cells (cells8 z).toArray 23)) (w.heap.size + 1) 23 (cells8 y).toArray) := by
    have := (Blk.new (w.alloc (.cells (cells8 x).toArray 23)) 23 (cells8 y).toArray).alloc (.cells (cells8 z).toArray 23)
    rwa [show (w.alloc (.cells (cells8 x).toArray 23)).heap.size = w.heap.size + 1 by simp] at this
  have hV : Hid (Blk (((w.alloc (.cells (cells8 x).toArray 23)).alloc (.cells (cells8 y).toArray 23)).alloc (.cells (cells8 z).toArray 23)) (w.heap.size + 2) 23 (cells8 z).toArray) := by
    have := heap_alloc2_new (w.alloc (.cells (cells8 x).toArray 23)) (.cells (cells8 y).toArray 23) (.cells (cells8 z).toArray 23)
    rwa [show (w.alloc (.cells (cells8 x).toArray 23)).heap.size = w.heap.size + 1 by simp] at this
  have Fx := Lib.hid (fit (x := x) hx)
  have Fy := Lib.hid (fit (x := y) hy)
  have Fz := Lib.hid (fit (x := z) hz)
  subst z1 z2
  have e1 := eql_dig x y hx hy
  rw [decide_eq_true hxy] at e1
  have y1 : (old == 0) = true := by rw [ho]; rfl
  have y2 : (old == size) = true := by rw [hoz]; exact beq_self_eq_true _
  have y3 : (old != size) = false := by rw [bne, y2]; rfl
  clear ho hoz hxy
  clear hx hy hz
  go_enter Tryd.func5, Tryd.ntmps5
  go_wp2_with (first
    | ((with_reducible change wpList _ _ _ ({ dst := some 28, op := _, type := _, pos := _, after := _, guard := _ } :: _) _ _); refine wpList_load_row (o := ⟨some 28, _, _, _, _, _⟩) rfl 23 (.tmp 11) rfl (w.heap.size) rfl 23 ((cells8 x).toArray) (0, 0) _ hX.out Tryd.underlying23 rfl Fx.out.size ?_)
    | ((with_reducible change wpList _ _ _ ({ dst := some 29, op := _, type := _, pos := _, after := _, guard := _ } :: _) _ _); refine wpList_load_row (o := ⟨some 29, _, _, _, _, _⟩) rfl 23 (.tmp 13) rfl (w.heap.size + 2) rfl 23 ((cells8 z).toArray) (0, 0) _ hV.out Tryd.underlying23 rfl Fz.out.size ?_)
    | (go_at_call 25; refine (hI1.out _ hb.out).mono ?_; rintro e w1 ⟨rfl, kk⟩; clear hI1; have hX1 := Lib.hid (hX.out.onJ kk); have hY1 := Lib.hid (hY.out.onJ kk); have hV1 := Lib.hid (hV.out.onJ kk); have hb1 : Hid (Below w.heap.size w w1) := hb.out.trans (kk.mono hb.out.size); clear kk hX hY hV hb)
    | ((with_reducible change wpList _ _ _ ({ dst := some 37, op := _, type := _, pos := _, after := _, guard := _ } :: _) _ _); (with_reducible refine Veil.out ?_); refine wpList_rowW (o := ⟨some 37, _, _, _, _, _⟩) rfl 23 (.tmp 12) rfl (w.heap.size + 1) rfl 23 ((cells8 y).toArray) (0, 0) _ hY1.out Tryd.underlying23 rfl Fy.out.size ?_)
    | ((with_reducible change wpList _ _ _ ({ dst := some 38, op := _, type := _, pos := _, after := _, guard := _ } :: _) _ _); (with_reducible refine Veil.out ?_); refine wpList_rowW (o := ⟨some 38, _, _, _, _, _⟩) rfl 23 (.tmp 13) rfl (w.heap.size + 2) rfl 23 ((cells8 z).toArray) (0, 0) _ hV1.out Tryd.underlying23 rfl Fz.out.size ?_)
    | (go_at_call 25; refine (hI2.out _ hb1.out).mono ?_; rintro e w2 ⟨rfl, kk⟩; clear hI2; have hX2 := Lib.hid (hX1.out.onJ kk); have hY2 := Lib.hid (hY1.out.onJ kk); have hV2 := Lib.hid (hV1.out.onJ kk); have hb2 : Hid (Below w.heap.size w w2) := hb1.out.trans (kk.mono hb1.out.size); clear kk hX1 hY1 hV1 hb1)
    | ((with_reducible change wpList _ _ _ ({ dst := some 51, op := _, type := _, pos := _, after := _, guard := _ } :: _) _ _); (with_reducible refine Veil.out ?_); refine wpList_rowW (o := ⟨some 51, _, _, _, _, _⟩) rfl 23 (.tmp 11) rfl (w.heap.size) rfl 23 ((cells8 x).toArray) (0, 0) _ hX2.out Tryd.underlying23 rfl Fx.out.size ?_)
    | ((with_reducible change wpList _ _ _ ({ dst := some 52, op := _, type := _, pos := _, after := _, guard := _ } :: _) _ _); (with_reducible refine Veil.out ?_); refine wpList_rowW (o := ⟨some 52, _, _, _, _, _⟩) rfl 23 (.tmp 12) rfl (w.heap.size + 1) rfl 23 ((cells8 y).toArray) (0, 0) _ hY2.out Tryd.underlying23 rfl Fy.out.size ?_)
    | ((with_reducible change wpList _ _ _ ({ dst := some 64, op := _, type := _, pos := _, after := _, guard := _ } :: _) _ _); (with_reducible refine Veil.out ?_); refine wpList_rowW (o := ⟨some 64, _, _, _, _, _⟩) rfl 23 (.tmp 11) rfl (w.heap.size) rfl 23 ((cells8 x).toArray) (0, 0) _ hX2.out Tryd.underlying23 rfl Fx.out.size ?_)
    | ((with_reducible change wpList _ _ _ ({ dst := some 65, op := _, type := _, pos := _, after := _, guard := _ } :: _) _ _); (with_reducible refine Veil.out ?_); refine wpList_rowW (o := ⟨some 65, _, _, _, _, _⟩) rfl 23 (.tmp 12) rfl (w.heap.size + 1) rfl 23 ((cells8 y).toArray) (0, 0) _ hY2.out Tryd.underlying23 rfl Fy.out.size ?_))
  go_ret
  exact ⟨rfl, hb2.out⟩

set_option maxRecDepth 100000 in
set_option maxHeartbeats 4000000 in
theorem tj_size (s old size : Int) (x y z : Text) (hx : x.length = 32) (hy : y.length = 32) (hz : z.length = 32) (n m : Nat) (A B : Option Addr) (c d : Nat) (w : World) (k1 k2 : Int)
    (hI1 : Hid (∀ w', Below w.heap.size w w' → Calls Tryd.prog 25 #[.int .i64 s, .int .i64 old, .int .i64 size, .agg (cells8 x).toArray, .agg (cells8 z).toArray, .slice A n c] w' fun e w'' => e = .returned (.int .i64 k1) ∧ Below w'.heap.size w' w''))
    (hI2 : Hid (∀ w', Below w.heap.size w w' → Calls Tryd.prog 25 #[.int .i64 s, .int .i64 old, .int .i64 size, .agg (cells8 y).toArray, .agg (cells8 z).toArray, .slice B m d] w' fun e w'' => e = .returned (.int .i64 k2) ∧ Below w'.heap.size w' w'')) (z1 : k1 = 0) (z2 : k2 = 0) (ho : ¬ old = 0) (hoz : old = size) (hxy : x = y) :
    Calls Tryd.prog 5 #[.int .i64 s, .int .i64 old, .int .i64 size, .agg (cells8 x).toArray, .agg (cells8 y).toArray, .agg (cells8 z).toArray, .slice A n c, .slice B m d] w fun e w' => e = .returned (.bool true) ∧ Below w.heap.size w w' := by
  have hb : Hid (Below w.heap.size w (((w.alloc (.cells (cells8 x).toArray 23)).alloc (.cells (cells8 y).toArray 23)).alloc (.cells (cells8 z).toArray 23))) := ((Below.heap_below w _).alloc (by simp) _).alloc (by simp; omega) _
  have hX : Hid (Blk (((w.alloc (.cells (cells8 x).toArray 23)).alloc (.cells (cells8 y).toArray 23)).alloc (.cells (cells8 z).toArray 23)) w.heap.size 23 (cells8 x).toArray) := ((Blk.new w _ _).alloc _).alloc _
  have hY : Hid (Blk (((w.alloc (.cells (cells8 x).toArray 23)).alloc (.cells (cells8 y).toArray 23)).alloc (.cells (cells8 z).toArray 23)) (w.heap.size + 1) 23 (cells8 y).toArray) := by
    have := (Blk.new (w.alloc (.cells (cells8 x).toArray 23)) 23 (cells8 y).toArray).alloc (.cells (cells8 z).toArray 23)
    rwa [show (w.alloc (.cells (cells8 x).toArray 23)).heap.size = w.heap.size + 1 by simp] at this
  have hV : Hid (Blk (((w.alloc (.cells (cells8 x).toArray 23)).alloc (.cells (cells8 y).toArray 23)).alloc (.cells (cells8 z).toArray 23)) (w.heap.size + 2) 23 (cells8 z).toArray) := by
    have := heap_alloc2_new (w.alloc (.cells (cells8 x).toArray 23)) (.cells (cells8 y).toArray 23) (.cells (cells8 z).toArray 23)
    rwa [show (w.alloc (.cells (cells8 x).toArray 23)).heap.size = w.heap.size + 1 by simp] at this
  have Fx := Lib.hid (fit (x := x) hx)
  have Fy := Lib.hid (fit (x := y) hy)
  have Fz := Lib.hid (fit (x := z) hz)
  subst z1 z2
  have e1 := eql_dig x y hx hy
  rw [decide_eq_true hxy] at e1
  have y1 : (old == 0) = false := beq_eq_false_iff_ne.2 ho
  have y2 : (old == size) = true := by rw [hoz]; exact beq_self_eq_true _
  have y3 : (old != size) = false := by rw [bne, y2]; rfl
  clear ho hoz hxy
  clear hx hy hz
  go_enter Tryd.func5, Tryd.ntmps5
  go_wp2_with (first
    | ((with_reducible change wpList _ _ _ ({ dst := some 28, op := _, type := _, pos := _, after := _, guard := _ } :: _) _ _); refine wpList_load_row (o := ⟨some 28, _, _, _, _, _⟩) rfl 23 (.tmp 11) rfl (w.heap.size) rfl 23 ((cells8 x).toArray) (0, 0) _ hX.out Tryd.underlying23 rfl Fx.out.size ?_)
    | ((with_reducible change wpList _ _ _ ({ dst := some 29, op := _, type := _, pos := _, after := _, guard := _ } :: _) _ _); refine wpList_load_row (o := ⟨some 29, _, _, _, _, _⟩) rfl 23 (.tmp 13) rfl (w.heap.size + 2) rfl 23 ((cells8 z).toArray) (0, 0) _ hV.out Tryd.underlying23 rfl Fz.out.size ?_)
    | (go_at_call 25; refine (hI1.out _ hb.out).mono ?_; rintro e w1 ⟨rfl, kk⟩; clear hI1; have hX1 := Lib.hid (hX.out.onJ kk); have hY1 := Lib.hid (hY.out.onJ kk); have hV1 := Lib.hid (hV.out.onJ kk); have hb1 : Hid (Below w.heap.size w w1) := hb.out.trans (kk.mono hb.out.size); clear kk hX hY hV hb)
    | ((with_reducible change wpList _ _ _ ({ dst := some 37, op := _, type := _, pos := _, after := _, guard := _ } :: _) _ _); (with_reducible refine Veil.out ?_); refine wpList_rowW (o := ⟨some 37, _, _, _, _, _⟩) rfl 23 (.tmp 12) rfl (w.heap.size + 1) rfl 23 ((cells8 y).toArray) (0, 0) _ hY1.out Tryd.underlying23 rfl Fy.out.size ?_)
    | ((with_reducible change wpList _ _ _ ({ dst := some 38, op := _, type := _, pos := _, after := _, guard := _ } :: _) _ _); (with_reducible refine Veil.out ?_); refine wpList_rowW (o := ⟨some 38, _, _, _, _, _⟩) rfl 23 (.tmp 13) rfl (w.heap.size + 2) rfl 23 ((cells8 z).toArray) (0, 0) _ hV1.out Tryd.underlying23 rfl Fz.out.size ?_)
    | (go_at_call 25; refine (hI2.out _ hb1.out).mono ?_; rintro e w2 ⟨rfl, kk⟩; clear hI2; have hX2 := Lib.hid (hX1.out.onJ kk); have hY2 := Lib.hid (hY1.out.onJ kk); have hV2 := Lib.hid (hV1.out.onJ kk); have hb2 : Hid (Below w.heap.size w w2) := hb1.out.trans (kk.mono hb1.out.size); clear kk hX1 hY1 hV1 hb1)
    | ((with_reducible change wpList _ _ _ ({ dst := some 51, op := _, type := _, pos := _, after := _, guard := _ } :: _) _ _); (with_reducible refine Veil.out ?_); refine wpList_rowW (o := ⟨some 51, _, _, _, _, _⟩) rfl 23 (.tmp 11) rfl (w.heap.size) rfl 23 ((cells8 x).toArray) (0, 0) _ hX2.out Tryd.underlying23 rfl Fx.out.size ?_)
    | ((with_reducible change wpList _ _ _ ({ dst := some 52, op := _, type := _, pos := _, after := _, guard := _ } :: _) _ _); (with_reducible refine Veil.out ?_); refine wpList_rowW (o := ⟨some 52, _, _, _, _, _⟩) rfl 23 (.tmp 12) rfl (w.heap.size + 1) rfl 23 ((cells8 y).toArray) (0, 0) _ hY2.out Tryd.underlying23 rfl Fy.out.size ?_)
    | ((with_reducible change wpList _ _ _ ({ dst := some 64, op := _, type := _, pos := _, after := _, guard := _ } :: _) _ _); (with_reducible refine Veil.out ?_); refine wpList_rowW (o := ⟨some 64, _, _, _, _, _⟩) rfl 23 (.tmp 11) rfl (w.heap.size) rfl 23 ((cells8 x).toArray) (0, 0) _ hX2.out Tryd.underlying23 rfl Fx.out.size ?_)
    | ((with_reducible change wpList _ _ _ ({ dst := some 65, op := _, type := _, pos := _, after := _, guard := _ } :: _) _ _); (with_reducible refine Veil.out ?_); refine wpList_rowW (o := ⟨some 65, _, _, _, _, _⟩) rfl 23 (.tmp 12) rfl (w.heap.size + 1) rfl 23 ((cells8 y).toArray) (0, 0) _ hY2.out Tryd.underlying23 rfl Fy.out.size ?_))
  go_ret
  exact ⟨rfl, hb2.out⟩

set_option maxRecDepth 100000 in
set_option maxHeartbeats 4000000 in
theorem tj_all (s old size : Int) (x y z : Text) (hx : x.length = 32) (hy : y.length = 32) (hz : z.length = 32) (n m : Nat) (A B : Option Addr) (c d : Nat) (w : World) (k1 k2 : Int)
    (hI1 : Hid (∀ w', Below w.heap.size w w' → Calls Tryd.prog 25 #[.int .i64 s, .int .i64 old, .int .i64 size, .agg (cells8 x).toArray, .agg (cells8 z).toArray, .slice A n c] w' fun e w'' => e = .returned (.int .i64 k1) ∧ Below w'.heap.size w' w''))
    (hI2 : Hid (∀ w', Below w.heap.size w w' → Calls Tryd.prog 25 #[.int .i64 s, .int .i64 old, .int .i64 size, .agg (cells8 y).toArray, .agg (cells8 z).toArray, .slice B m d] w' fun e w'' => e = .returned (.int .i64 k2) ∧ Below w'.heap.size w' w'')) (z1 : k1 = 0) (z2 : k2 = 0) (ho : ¬ old = 0) (hoz : ¬ old = size) (hxy : x = y) (hSm : Hid (∀ w', Below w.heap.size w w' → Calls Tryd.prog 21 #[.slice A n c, .slice B m d] w' fun e w'' => e = .returned (.bool true) ∧ Below w'.heap.size w' w'')) :
    Calls Tryd.prog 5 #[.int .i64 s, .int .i64 old, .int .i64 size, .agg (cells8 x).toArray, .agg (cells8 y).toArray, .agg (cells8 z).toArray, .slice A n c, .slice B m d] w fun e w' => e = .returned (.bool true) ∧ Below w.heap.size w w' := by
  have hb : Hid (Below w.heap.size w (((w.alloc (.cells (cells8 x).toArray 23)).alloc (.cells (cells8 y).toArray 23)).alloc (.cells (cells8 z).toArray 23))) := ((Below.heap_below w _).alloc (by simp) _).alloc (by simp; omega) _
  have hX : Hid (Blk (((w.alloc (.cells (cells8 x).toArray 23)).alloc (.cells (cells8 y).toArray 23)).alloc (.cells (cells8 z).toArray 23)) w.heap.size 23 (cells8 x).toArray) := ((Blk.new w _ _).alloc _).alloc _
  have hY : Hid (Blk (((w.alloc (.cells (cells8 x).toArray 23)).alloc (.cells (cells8 y).toArray 23)).alloc (.cells (cells8 z).toArray 23)) (w.heap.size + 1) 23 (cells8 y).toArray) := by
    have := (Blk.new (w.alloc (.cells (cells8 x).toArray 23)) 23 (cells8 y).toArray).alloc (.cells (cells8 z).toArray 23)
    rwa [show (w.alloc (.cells (cells8 x).toArray 23)).heap.size = w.heap.size + 1 by simp] at this
  have hV : Hid (Blk (((w.alloc (.cells (cells8 x).toArray 23)).alloc (.cells (cells8 y).toArray 23)).alloc (.cells (cells8 z).toArray 23)) (w.heap.size + 2) 23 (cells8 z).toArray) := by
    have := heap_alloc2_new (w.alloc (.cells (cells8 x).toArray 23)) (.cells (cells8 y).toArray 23) (.cells (cells8 z).toArray 23)
    rwa [show (w.alloc (.cells (cells8 x).toArray 23)).heap.size = w.heap.size + 1 by simp] at this
  have Fx := Lib.hid (fit (x := x) hx)
  have Fy := Lib.hid (fit (x := y) hy)
  have Fz := Lib.hid (fit (x := z) hz)
  subst z1 z2
  have y1 : (old == 0) = false := beq_eq_false_iff_ne.2 ho
  have y2 : (old == size) = false := beq_eq_false_iff_ne.2 hoz
  have y3 : (old != size) = true := by rw [bne, y2]; rfl
  have e1 := eql_dig x y hx hy
  rw [decide_eq_true hxy] at e1
  clear ho hoz hxy
  clear hx hy hz
  go_enter Tryd.func5, Tryd.ntmps5
  go_wp2_with (first
    | ((with_reducible change wpList _ _ _ ({ dst := some 28, op := _, type := _, pos := _, after := _, guard := _ } :: _) _ _); refine wpList_load_row (o := ⟨some 28, _, _, _, _, _⟩) rfl 23 (.tmp 11) rfl (w.heap.size) rfl 23 ((cells8 x).toArray) (0, 0) _ hX.out Tryd.underlying23 rfl Fx.out.size ?_)
    | ((with_reducible change wpList _ _ _ ({ dst := some 29, op := _, type := _, pos := _, after := _, guard := _ } :: _) _ _); refine wpList_load_row (o := ⟨some 29, _, _, _, _, _⟩) rfl 23 (.tmp 13) rfl (w.heap.size + 2) rfl 23 ((cells8 z).toArray) (0, 0) _ hV.out Tryd.underlying23 rfl Fz.out.size ?_)
    | (go_at_call 25; refine (hI1.out _ hb.out).mono ?_; rintro e w1 ⟨rfl, kk⟩; clear hI1; have hX1 := Lib.hid (hX.out.onJ kk); have hY1 := Lib.hid (hY.out.onJ kk); have hV1 := Lib.hid (hV.out.onJ kk); have hb1 : Hid (Below w.heap.size w w1) := hb.out.trans (kk.mono hb.out.size); clear kk hX hY hV hb)
    | ((with_reducible change wpList _ _ _ ({ dst := some 37, op := _, type := _, pos := _, after := _, guard := _ } :: _) _ _); (with_reducible refine Veil.out ?_); refine wpList_rowW (o := ⟨some 37, _, _, _, _, _⟩) rfl 23 (.tmp 12) rfl (w.heap.size + 1) rfl 23 ((cells8 y).toArray) (0, 0) _ hY1.out Tryd.underlying23 rfl Fy.out.size ?_)
    | ((with_reducible change wpList _ _ _ ({ dst := some 38, op := _, type := _, pos := _, after := _, guard := _ } :: _) _ _); (with_reducible refine Veil.out ?_); refine wpList_rowW (o := ⟨some 38, _, _, _, _, _⟩) rfl 23 (.tmp 13) rfl (w.heap.size + 2) rfl 23 ((cells8 z).toArray) (0, 0) _ hV1.out Tryd.underlying23 rfl Fz.out.size ?_)
    | (go_at_call 25; refine (hI2.out _ hb1.out).mono ?_; rintro e w2 ⟨rfl, kk⟩; clear hI2; have hX2 := Lib.hid (hX1.out.onJ kk); have hY2 := Lib.hid (hY1.out.onJ kk); have hV2 := Lib.hid (hV1.out.onJ kk); have hb2 : Hid (Below w.heap.size w w2) := hb1.out.trans (kk.mono hb1.out.size); clear kk hX1 hY1 hV1 hb1)
    | ((with_reducible change wpList _ _ _ ({ dst := some 51, op := _, type := _, pos := _, after := _, guard := _ } :: _) _ _); (with_reducible refine Veil.out ?_); refine wpList_rowW (o := ⟨some 51, _, _, _, _, _⟩) rfl 23 (.tmp 11) rfl (w.heap.size) rfl 23 ((cells8 x).toArray) (0, 0) _ hX2.out Tryd.underlying23 rfl Fx.out.size ?_)
    | ((with_reducible change wpList _ _ _ ({ dst := some 52, op := _, type := _, pos := _, after := _, guard := _ } :: _) _ _); (with_reducible refine Veil.out ?_); refine wpList_rowW (o := ⟨some 52, _, _, _, _, _⟩) rfl 23 (.tmp 12) rfl (w.heap.size + 1) rfl 23 ((cells8 y).toArray) (0, 0) _ hY2.out Tryd.underlying23 rfl Fy.out.size ?_)
    | (go_at_call 21; refine (hSm.out _ hb2.out).mono ?_; rintro e w3 ⟨rfl, kk⟩; clear hSm; have hX3 := Lib.hid (hX2.out.onJ kk); have hY3 := Lib.hid (hY2.out.onJ kk); have hV3 := Lib.hid (hV2.out.onJ kk); have hb3 : Hid (Below w.heap.size w w3) := hb2.out.trans (kk.mono hb2.out.size); clear kk hX2 hY2 hV2 hb2)
    | ((with_reducible change wpList _ _ _ ({ dst := some 64, op := _, type := _, pos := _, after := _, guard := _ } :: _) _ _); (with_reducible refine Veil.out ?_); refine wpList_rowW (o := ⟨some 64, _, _, _, _, _⟩) rfl 23 (.tmp 11) rfl (w.heap.size) rfl 23 ((cells8 x).toArray) (0, 0) _ hX3.out Tryd.underlying23 rfl Fx.out.size ?_)
    | ((with_reducible change wpList _ _ _ ({ dst := some 65, op := _, type := _, pos := _, after := _, guard := _ } :: _) _ _); (with_reducible refine Veil.out ?_); refine wpList_rowW (o := ⟨some 65, _, _, _, _, _⟩) rfl 23 (.tmp 12) rfl (w.heap.size + 1) rfl 23 ((cells8 y).toArray) (0, 0) _ hY3.out Tryd.underlying23 rfl Fy.out.size ?_))
  go_ret
  exact ⟨rfl, hb3.out⟩

set_option maxRecDepth 100000 in
set_option maxHeartbeats 4000000 in
theorem tj_ways (s old size : Int) (x y z : Text) (hx : x.length = 32) (hy : y.length = 32) (hz : z.length = 32) (n m : Nat) (A B : Option Addr) (c d : Nat) (w : World) (k1 k2 : Int)
    (hI1 : Hid (∀ w', Below w.heap.size w w' → Calls Tryd.prog 25 #[.int .i64 s, .int .i64 old, .int .i64 size, .agg (cells8 x).toArray, .agg (cells8 z).toArray, .slice A n c] w' fun e w'' => e = .returned (.int .i64 k1) ∧ Below w'.heap.size w' w''))
    (hI2 : Hid (∀ w', Below w.heap.size w w' → Calls Tryd.prog 25 #[.int .i64 s, .int .i64 old, .int .i64 size, .agg (cells8 y).toArray, .agg (cells8 z).toArray, .slice B m d] w' fun e w'' => e = .returned (.int .i64 k2) ∧ Below w'.heap.size w' w'')) (z1 : k1 = 0) (z2 : k2 = 0) (ho : ¬ old = 0) (hoz : ¬ old = size) (hxy : x = y) (hSm : Hid (∀ w', Below w.heap.size w w' → Calls Tryd.prog 21 #[.slice A n c, .slice B m d] w' fun e w'' => e = .returned (.bool false) ∧ Below w'.heap.size w' w''))
    (q1 q2 : Nat) (p1 p2 : List Text)
    (hC1 : Hid (∀ w', Below w.heap.size w w' → Calls Tryd.prog 26 #[.int .i64 s, .int .i64 old, .int .i64 size, .agg (cells8 x).toArray, .slice A n c] w' fun e w'' => ∃ A' c' xs, e = .returned (.tuple #[.agg (cells8 x).toArray, .agg (cells8 z).toArray, .slice A' q1 c', .int .i64 0]) ∧ w''.ownsRow w'.heap.size 27 1 (.slice A' q1 c') q1 xs ∧ Tx w'' xs p1 ∧ Below w'.heap.size w' w''))
    (hC2 : Hid (∀ w', Below w.heap.size w w' → Calls Tryd.prog 26 #[.int .i64 s, .int .i64 old, .int .i64 size, .agg (cells8 y).toArray, .slice B m d] w' fun e w'' => ∃ A' c' xs, e = .returned (.tuple #[.agg (cells8 y).toArray, .agg (cells8 z).toArray, .slice A' q2 c', .int .i64 0]) ∧ w''.ownsRow w'.heap.size 27 1 (.slice A' q2 c') q2 xs ∧ Tx w'' xs p2 ∧ Below w'.heap.size w' w''))
    (pl1 : p1.length = q1) (pl2 : p2.length = q2) (pt1 : ∀ q ∈ p1, q.length = 65) (pt2 : ∀ q ∈ p2, q.length = 65) (q1p : 0 < q1) (q1b : q1 ≤ 100) (q2b : q2 ≤ 100) (hBB : Hid (∀ w', Below w.heap.size w w' → Base w')) (hM : TwiceP.Met s (p1 ++ p2)) :
    Calls Tryd.prog 5 #[.int .i64 s, .int .i64 old, .int .i64 size, .agg (cells8 x).toArray, .agg (cells8 y).toArray, .agg (cells8 z).toArray, .slice A n c, .slice B m d] w fun e w' => e = .returned (.bool true) ∧ Below w.heap.size w w' := by
  have hb : Hid (Below w.heap.size w (((w.alloc (.cells (cells8 x).toArray 23)).alloc (.cells (cells8 y).toArray 23)).alloc (.cells (cells8 z).toArray 23))) := ((Below.heap_below w _).alloc (by simp) _).alloc (by simp; omega) _
  have hX : Hid (Blk (((w.alloc (.cells (cells8 x).toArray 23)).alloc (.cells (cells8 y).toArray 23)).alloc (.cells (cells8 z).toArray 23)) w.heap.size 23 (cells8 x).toArray) := ((Blk.new w _ _).alloc _).alloc _
  have hY : Hid (Blk (((w.alloc (.cells (cells8 x).toArray 23)).alloc (.cells (cells8 y).toArray 23)).alloc (.cells (cells8 z).toArray 23)) (w.heap.size + 1) 23 (cells8 y).toArray) := by
    have := (Blk.new (w.alloc (.cells (cells8 x).toArray 23)) 23 (cells8 y).toArray).alloc (.cells (cells8 z).toArray 23)
    rwa [show (w.alloc (.cells (cells8 x).toArray 23)).heap.size = w.heap.size + 1 by simp] at this
  have hV : Hid (Blk (((w.alloc (.cells (cells8 x).toArray 23)).alloc (.cells (cells8 y).toArray 23)).alloc (.cells (cells8 z).toArray 23)) (w.heap.size + 2) 23 (cells8 z).toArray) := by
    have := heap_alloc2_new (w.alloc (.cells (cells8 x).toArray 23)) (.cells (cells8 y).toArray 23) (.cells (cells8 z).toArray 23)
    rwa [show (w.alloc (.cells (cells8 x).toArray 23)).heap.size = w.heap.size + 1 by simp] at this
  have Fx := Lib.hid (fit (x := x) hx)
  have Fy := Lib.hid (fit (x := y) hy)
  have Fz := Lib.hid (fit (x := z) hz)
  subst z1 z2
  have y1 : (old == 0) = false := beq_eq_false_iff_ne.2 ho
  have y2 : (old == size) = false := beq_eq_false_iff_ne.2 hoz
  have y3 : (old != size) = true := by rw [bne, y2]; rfl
  have e0 := eql_dig x y hx hy
  rw [decide_eq_true hxy] at e0
  have e1 := eql_dig x x hx hx
  have e2 := eql_dig y y hy hy
  have e3 := eql_dig z z hz hz
  simp only [decide_true] at e1 e2 e3
  obtain ⟨i0, ii, iz0, iz1, iz2⟩ := info_partsN infoT
  clear ho hoz hxy
  clear hx hy hz
  go_enter Tryd.func5, Tryd.ntmps5
  go_wp2_with (first
    | ((with_reducible change wpList _ _ _ ({ dst := some 28, op := _, type := _, pos := _, after := _, guard := _ } :: _) _ _); refine wpList_load_row (o := ⟨some 28, _, _, _, _, _⟩) rfl 23 (.tmp 11) rfl (w.heap.size) rfl 23 ((cells8 x).toArray) (0, 0) _ hX.out Tryd.underlying23 rfl Fx.out.size ?_)
    | ((with_reducible change wpList _ _ _ ({ dst := some 29, op := _, type := _, pos := _, after := _, guard := _ } :: _) _ _); refine wpList_load_row (o := ⟨some 29, _, _, _, _, _⟩) rfl 23 (.tmp 13) rfl (w.heap.size + 2) rfl 23 ((cells8 z).toArray) (0, 0) _ hV.out Tryd.underlying23 rfl Fz.out.size ?_)
    | (go_at_call 25; refine (hI1.out _ hb.out).mono ?_; rintro e w1 ⟨rfl, kk⟩; clear hI1; have hX1 := Lib.hid (hX.out.onJ kk); have hY1 := Lib.hid (hY.out.onJ kk); have hV1 := Lib.hid (hV.out.onJ kk); have hb1 : Hid (Below w.heap.size w w1) := hb.out.trans (kk.mono hb.out.size); clear kk hX hY hV hb)
    | ((with_reducible change wpList _ _ _ ({ dst := some 37, op := _, type := _, pos := _, after := _, guard := _ } :: _) _ _); (with_reducible refine Veil.out ?_); refine wpList_rowW (o := ⟨some 37, _, _, _, _, _⟩) rfl 23 (.tmp 12) rfl (w.heap.size + 1) rfl 23 ((cells8 y).toArray) (0, 0) _ hY1.out Tryd.underlying23 rfl Fy.out.size ?_)
    | ((with_reducible change wpList _ _ _ ({ dst := some 38, op := _, type := _, pos := _, after := _, guard := _ } :: _) _ _); (with_reducible refine Veil.out ?_); refine wpList_rowW (o := ⟨some 38, _, _, _, _, _⟩) rfl 23 (.tmp 13) rfl (w.heap.size + 2) rfl 23 ((cells8 z).toArray) (0, 0) _ hV1.out Tryd.underlying23 rfl Fz.out.size ?_)
    | (go_at_call 25; refine (hI2.out _ hb1.out).mono ?_; rintro e w2 ⟨rfl, kk⟩; clear hI2; have hX2 := Lib.hid (hX1.out.onJ kk); have hY2 := Lib.hid (hY1.out.onJ kk); have hV2 := Lib.hid (hV1.out.onJ kk); have hb2 : Hid (Below w.heap.size w w2) := hb1.out.trans (kk.mono hb1.out.size); clear kk hX1 hY1 hV1 hb1)
    | ((with_reducible change wpList _ _ _ ({ dst := some 51, op := _, type := _, pos := _, after := _, guard := _ } :: _) _ _); (with_reducible refine Veil.out ?_); refine wpList_rowW (o := ⟨some 51, _, _, _, _, _⟩) rfl 23 (.tmp 11) rfl (w.heap.size) rfl 23 ((cells8 x).toArray) (0, 0) _ hX2.out Tryd.underlying23 rfl Fx.out.size ?_)
    | ((with_reducible change wpList _ _ _ ({ dst := some 52, op := _, type := _, pos := _, after := _, guard := _ } :: _) _ _); (with_reducible refine Veil.out ?_); refine wpList_rowW (o := ⟨some 52, _, _, _, _, _⟩) rfl 23 (.tmp 12) rfl (w.heap.size + 1) rfl 23 ((cells8 y).toArray) (0, 0) _ hY2.out Tryd.underlying23 rfl Fy.out.size ?_)
    | (go_at_call 21; refine (hSm.out _ hb2.out).mono ?_; rintro e w3 ⟨rfl, kk⟩; clear hSm; have hX3 := Lib.hid (hX2.out.onJ kk); have hY3 := Lib.hid (hY2.out.onJ kk); have hV3 := Lib.hid (hV2.out.onJ kk); have hb3 : Hid (Below w.heap.size w w3) := hb2.out.trans (kk.mono hb2.out.size); clear kk hX2 hY2 hV2 hb2)
    | ((with_reducible change wpList _ _ _ ({ dst := some 64, op := _, type := _, pos := _, after := _, guard := _ } :: _) _ _); (with_reducible refine Veil.out ?_); refine wpList_rowW (o := ⟨some 64, _, _, _, _, _⟩) rfl 23 (.tmp 11) rfl (w.heap.size) rfl 23 ((cells8 x).toArray) (0, 0) _ hX3.out Tryd.underlying23 rfl Fx.out.size ?_)
    | ((with_reducible change wpList _ _ _ ({ dst := some 65, op := _, type := _, pos := _, after := _, guard := _ } :: _) _ _); (with_reducible refine Veil.out ?_); refine wpList_rowW (o := ⟨some 65, _, _, _, _, _⟩) rfl 23 (.tmp 12) rfl (w.heap.size + 1) rfl 23 ((cells8 y).toArray) (0, 0) _ hY3.out Tryd.underlying23 rfl Fy.out.size ?_)
    | ((with_reducible change wpList _ _ _ ({ dst := some 72, op := _, type := _, pos := _, after := _, guard := _ } :: _) _ _); refine wpList_load_row (o := ⟨some 72, _, _, _, _, _⟩) rfl 23 (.tmp 11) rfl (w.heap.size) rfl 23 ((cells8 x).toArray) (0, 0) _ hX3.out Tryd.underlying23 rfl Fx.out.size ?_)
    | (go_at_call 26; refine (hC1.out _ hb3.out).mono ?_; rintro e w4 ⟨A4, c4, xs4, rfl, hO4, hT4, kk⟩; clear hC1; replace hO4 := Lib.hid (own_down hO4 hb3.out.size); replace hT4 := Lib.hid hT4; have hX4 := Lib.hid (hX3.out.onJ kk); have hY4 := Lib.hid (hY3.out.onJ kk); have hV4 := Lib.hid (hV3.out.onJ kk); have hb4 : Hid (Below w.heap.size w w4) := hb3.out.trans (kk.mono hb3.out.size); clear kk hX3 hY3 hV3 hb3)
    | ((with_reducible change wpList _ _ _ ({ dst := none, op := Op.store 23 (.tmp 17) _, type := _, pos := _, after := _, guard := _ } :: _) _ _); refine wpList_store_whole (o := ⟨none, _, _, _, _, _⟩) rfl 23 (.tmp 17) (.tmp 75) rfl (w4.heap.size) ((cells8 x).toArray) rfl rfl 23 (Z32) ((Blk.new w4 _ _).alloc _) Fx.out.size Fx.out.zero Fx.out.one ?_; intro w5 hP5 kq; have hQ5 : Hid (Blk w5 (w4.heap.size + 1) 23 Z32) := Blk.kept (heap_alloc2_new w4 _ _) kq (by omega); have kz : Hid (Below w4.heap.size w4 w5) := ((Below.heap_below w4 _).alloc (by simp) _).trans (Kept.below_of kq (Nat.le_refl _) (by simp; omega)); replace hP5 := Lib.hid hP5; clear kq)
    | ((with_reducible change wpList _ _ _ ({ dst := none, op := Op.store 23 (.tmp 18) _, type := _, pos := _, after := _, guard := _ } :: _) _ _); refine wpList_store_whole (o := ⟨none, _, _, _, _, _⟩) rfl 23 (.tmp 18) (.tmp 76) rfl (w4.heap.size + 1) ((cells8 z).toArray) rfl rfl 23 (Z32) hQ5.out Fz.out.size Fz.out.zero Fz.out.one ?_; intro w6 hQ6 kq; have hP6 := Lib.hid (hP5.out.kept kq (by omega)); have kk : Below w4.heap.size w4 w6 := kz.out.trans (Kept.below_of kq (by omega) kz.out.size); replace hQ6 := Lib.hid hQ6; have hO6 := Lib.hid (Go.Proofs.YtpgenpogjhpeoaaDoor.Own.own_below hO4.out kk); have hT6 := Lib.hid (hT4.out.below kk); clear kq kz hP5 hQ5 hO4 hT4; have hX6 := Lib.hid (hX4.out.onJ kk); have hY6 := Lib.hid (hY4.out.onJ kk); have hV6 := Lib.hid (hV4.out.onJ kk); have hb6 : Hid (Below w.heap.size w w6) := hb4.out.trans (kk.mono hb4.out.size); clear kk hX4 hY4 hV4 hb4)
    | ((with_reducible change wpList _ _ _ ({ dst := some 83, op := _, type := _, pos := _, after := _, guard := _ } :: _) _ _); refine wpList_load_row (o := ⟨some 83, _, _, _, _, _⟩) rfl 23 (.tmp 12) rfl (w.heap.size + 1) rfl 23 ((cells8 y).toArray) (0, 0) _ hY6.out Tryd.underlying23 rfl Fy.out.size ?_)
    | (go_at_call 26; refine (hC2.out _ hb6.out).mono ?_; rintro e w7 ⟨A7, c7, xs7, rfl, hU7, hW7, kk⟩; clear hC2; replace hU7 := Lib.hid (own_down hU7 hb6.out.size); replace hW7 := Lib.hid hW7; have hP7 := Lib.hid (hP6.out.onJ kk); have hQ7 := Lib.hid (hQ6.out.onJ kk); have hO7 := Lib.hid (Go.Proofs.YtpgenpogjhpeoaaDoor.Own.own_below hO6.out kk); have hT7 := Lib.hid (hT6.out.below kk); have hX7 := Lib.hid (hX6.out.onJ kk); have hY7 := Lib.hid (hY6.out.onJ kk); have hV7 := Lib.hid (hV6.out.onJ kk); have hb7 : Hid (Below w.heap.size w w7) := hb6.out.trans (kk.mono hb6.out.size); clear hP6 hQ6 hO6 hT6; clear kk hX6 hY6 hV6 hb6)
    | ((with_reducible change wpList _ _ _ ({ dst := none, op := Op.store 23 (.tmp 21) _, type := _, pos := _, after := _, guard := _ } :: _) _ _); refine wpList_store_whole (o := ⟨none, _, _, _, _, _⟩) rfl 23 (.tmp 21) (.tmp 86) rfl (w7.heap.size) ((cells8 y).toArray) rfl rfl 23 (Z32) ((Blk.new w7 _ _).alloc _) Fy.out.size Fy.out.zero Fy.out.one ?_; intro w8 hM8 kq; have hN8 : Hid (Blk w8 (w7.heap.size + 1) 23 Z32) := Blk.kept (heap_alloc2_new w7 _ _) kq (by omega); have kz : Hid (Below w7.heap.size w7 w8) := ((Below.heap_below w7 _).alloc (by simp) _).trans (Kept.below_of kq (Nat.le_refl _) (by simp; omega)); replace hM8 := Lib.hid hM8; clear kq)
    | ((with_reducible change wpList _ _ _ ({ dst := none, op := Op.store 23 (.tmp 22) _, type := _, pos := _, after := _, guard := _ } :: _) _ _); refine wpList_store_whole (o := ⟨none, _, _, _, _, _⟩) rfl 23 (.tmp 22) (.tmp 87) rfl (w7.heap.size + 1) ((cells8 z).toArray) rfl rfl 23 (Z32) hN8.out Fz.out.size Fz.out.zero Fz.out.one ?_; intro w9 hN9 kq; have hM9 := Lib.hid (hM8.out.kept kq (by omega)); have kk : Below w7.heap.size w7 w9 := kz.out.trans (Kept.below_of kq (by omega) kz.out.size); replace hN9 := Lib.hid hN9; have hO9 := Lib.hid (Go.Proofs.YtpgenpogjhpeoaaDoor.Own.own_below hO7.out kk); have hT9 := Lib.hid (hT7.out.below kk); have hU9 := Lib.hid (Go.Proofs.YtpgenpogjhpeoaaDoor.Own.own_below hU7.out kk); have hW9 := Lib.hid (hW7.out.below kk); have hP9 := Lib.hid (hP7.out.onJ kk); have hQ9 := Lib.hid (hQ7.out.onJ kk); obtain ⟨A3, c3, e3, -, -, hnil9, hrd9, -⟩ := Go.Proofs.YtpgenpogjhpeoaaDoor.Append.Own.reads hU9.out; injection e3 with e31 e32 e33; subst e31 e33; replace hrd9 := Lib.hid hrd9; replace hnil9 := Lib.hid hnil9; have hone9 := Lib.hid (own_oneT hU9.out hW9.out pl2); clear kq kz hM8 hN8 hO7 hT7 hU7 hW7 hP7 hQ7 e32; have hX9 := Lib.hid (hX7.out.onJ kk); have hY9 := Lib.hid (hY7.out.onJ kk); have hV9 := Lib.hid (hV7.out.onJ kk); have hb9 : Hid (Below w.heap.size w w9) := hb7.out.trans (kk.mono hb7.out.size); clear kk hX7 hY7 hV7 hb7)
    | ((with_reducible change wpList _ _ _ ({ dst := some 97, op := _, type := _, pos := _, after := _, guard := _ } :: _) _ _); (with_reducible refine Veil.out ?_); refine wpList_rowW (o := ⟨some 97, _, _, _, _, _⟩) rfl 23 (.tmp 17) rfl (w4.heap.size) rfl 23 ((cells8 x).toArray) (0, 0) _ hP9.out Tryd.underlying23 rfl Fx.out.size ?_)
    | ((with_reducible change wpList _ _ _ ({ dst := some 98, op := _, type := _, pos := _, after := _, guard := _ } :: _) _ _); (with_reducible refine Veil.out ?_); refine wpList_rowW (o := ⟨some 98, _, _, _, _, _⟩) rfl 23 (.tmp 11) rfl (w.heap.size) rfl 23 ((cells8 x).toArray) (0, 0) _ hX9.out Tryd.underlying23 rfl Fx.out.size ?_)
    | ((with_reducible change wpList _ _ _ ({ dst := some 102, op := _, type := _, pos := _, after := _, guard := _ } :: _) _ _); (with_reducible refine Veil.out ?_); refine wpList_rowW (o := ⟨some 102, _, _, _, _, _⟩) rfl 23 (.tmp 21) rfl (w7.heap.size) rfl 23 ((cells8 y).toArray) (0, 0) _ hM9.out Tryd.underlying23 rfl Fy.out.size ?_)
    | ((with_reducible change wpList _ _ _ ({ dst := some 103, op := _, type := _, pos := _, after := _, guard := _ } :: _) _ _); (with_reducible refine Veil.out ?_); refine wpList_rowW (o := ⟨some 103, _, _, _, _, _⟩) rfl 23 (.tmp 12) rfl (w.heap.size + 1) rfl 23 ((cells8 y).toArray) (0, 0) _ hY9.out Tryd.underlying23 rfl Fy.out.size ?_)
    | ((with_reducible change wpList _ _ _ ({ dst := some 107, op := _, type := _, pos := _, after := _, guard := _ } :: _) _ _); (with_reducible refine Veil.out ?_); refine wpList_rowW (o := ⟨some 107, _, _, _, _, _⟩) rfl 23 (.tmp 18) rfl (w4.heap.size + 1) rfl 23 ((cells8 z).toArray) (0, 0) _ hQ9.out Tryd.underlying23 rfl Fz.out.size ?_)
    | ((with_reducible change wpList _ _ _ ({ dst := some 108, op := _, type := _, pos := _, after := _, guard := _ } :: _) _ _); (with_reducible refine Veil.out ?_); refine wpList_rowW (o := ⟨some 108, _, _, _, _, _⟩) rfl 23 (.tmp 13) rfl (w.heap.size + 2) rfl 23 ((cells8 z).toArray) (0, 0) _ hV9.out Tryd.underlying23 rfl Fz.out.size ?_)
    | ((with_reducible change wpList _ _ _ ({ dst := some 112, op := _, type := _, pos := _, after := _, guard := _ } :: _) _ _); (with_reducible refine Veil.out ?_); refine wpList_rowW (o := ⟨some 112, _, _, _, _, _⟩) rfl 23 (.tmp 22) rfl (w7.heap.size + 1) rfl 23 ((cells8 z).toArray) (0, 0) _ hN9.out Tryd.underlying23 rfl Fz.out.size ?_)
    | ((with_reducible change wpList _ _ _ ({ dst := some 113, op := _, type := _, pos := _, after := _, guard := _ } :: _) _ _); (with_reducible refine Veil.out ?_); refine wpList_rowW (o := ⟨some 113, _, _, _, _, _⟩) rfl 23 (.tmp 13) rfl (w.heap.size + 2) rfl 23 ((cells8 z).toArray) (0, 0) _ hV9.out Tryd.underlying23 rfl Fz.out.size ?_)
    | ((with_reducible change wpList _ _ _ ({ dst := some 120, op := _, type := _, pos := _, after := _, guard := _ } :: _) _ _); (with_reducible refine Veil.out ?_); refine wpList_appendW _ (o := ⟨some 120, _, _, _, _, _⟩) rfl (.tmp 118) (.tmp 119) 24 rfl w.heap.size 27 i0 (.slice none 0 0) 1 24 Tryd.underlying24 ii iz0 iz1 iz2 rfl (by decide) (.slice A4 q1 c4) q1 xs4 rfl hO9.out A7 q2 c7 xs7 rfl hrd9.out hnil9.out hone9.out (by unfold maxLen; omega) (by omega) hb9.out.size ?_; intro v10 w10 hG; obtain ⟨A10, c10, rfl, hP10, hb10⟩ := cat_join hG pl1 pl2 hO9.out hT9.out hW9.out (fun _ => q1p) hb9.out; clear hG)
    | (go_at_call 24; refine (among_any s (p1 ++ p2) (q1 + q2) (by rw [List.length_append, pl1, pl2]) (by omega) A10 c10 w10 (hBB.out _ hb10.out) hP10.out (fun q hq => by rcases List.mem_append.1 hq with h | h; rw [pt1 q h]; decide; rw [pt2 q h]; decide) hM).mono ?_; rintro e w11 ⟨rfl, kk⟩; replace hb10 := Lib.hid (hb10.out.trans (kk.mono hb10.out.size)); clear kk))
  go_ret
  exact ⟨rfl, hb10.out⟩

set_option maxRecDepth 100000 in
set_option maxHeartbeats 4000000 in
theorem tj_roots (s old size : Int) (x y z : Text) (hx : x.length = 32) (hy : y.length = 32) (hz : z.length = 32) (n m : Nat) (A B : Option Addr) (c d : Nat) (w : World) (k1 k2 : Int)
    (hI1 : Hid (∀ w', Below w.heap.size w w' → Calls Tryd.prog 25 #[.int .i64 s, .int .i64 old, .int .i64 size, .agg (cells8 x).toArray, .agg (cells8 z).toArray, .slice A n c] w' fun e w'' => e = .returned (.int .i64 k1) ∧ Below w'.heap.size w' w''))
    (hI2 : Hid (∀ w', Below w.heap.size w w' → Calls Tryd.prog 25 #[.int .i64 s, .int .i64 old, .int .i64 size, .agg (cells8 y).toArray, .agg (cells8 z).toArray, .slice B m d] w' fun e w'' => e = .returned (.int .i64 k2) ∧ Below w'.heap.size w' w'')) (z1 : k1 = 0) (z2 : k2 = 0) (ho : ¬ old = 0) (hoz : ¬ old = size) (hxy : ¬ x = y)
    (q1 q2 : Nat) (p1 p2 : List Text)
    (hC1 : Hid (∀ w', Below w.heap.size w w' → Calls Tryd.prog 26 #[.int .i64 s, .int .i64 old, .int .i64 size, .agg (cells8 x).toArray, .slice A n c] w' fun e w'' => ∃ A' c' xs, e = .returned (.tuple #[.agg (cells8 x).toArray, .agg (cells8 z).toArray, .slice A' q1 c', .int .i64 0]) ∧ w''.ownsRow w'.heap.size 27 1 (.slice A' q1 c') q1 xs ∧ Tx w'' xs p1 ∧ Below w'.heap.size w' w''))
    (hC2 : Hid (∀ w', Below w.heap.size w w' → Calls Tryd.prog 26 #[.int .i64 s, .int .i64 old, .int .i64 size, .agg (cells8 y).toArray, .slice B m d] w' fun e w'' => ∃ A' c' xs, e = .returned (.tuple #[.agg (cells8 y).toArray, .agg (cells8 z).toArray, .slice A' q2 c', .int .i64 0]) ∧ w''.ownsRow w'.heap.size 27 1 (.slice A' q2 c') q2 xs ∧ Tx w'' xs p2 ∧ Below w'.heap.size w' w''))
    (pl1 : p1.length = q1) (pl2 : p2.length = q2) (pt1 : ∀ q ∈ p1, q.length = 65) (pt2 : ∀ q ∈ p2, q.length = 65) (q1p : 0 < q1) (q1b : q1 ≤ 100) (q2b : q2 ≤ 100) (hBB : Hid (∀ w', Below w.heap.size w w' → Base w')) (hM : TwiceP.Met s (p1 ++ p2)) :
    Calls Tryd.prog 5 #[.int .i64 s, .int .i64 old, .int .i64 size, .agg (cells8 x).toArray, .agg (cells8 y).toArray, .agg (cells8 z).toArray, .slice A n c, .slice B m d] w fun e w' => e = .returned (.bool true) ∧ Below w.heap.size w w' := by
  have hb : Hid (Below w.heap.size w (((w.alloc (.cells (cells8 x).toArray 23)).alloc (.cells (cells8 y).toArray 23)).alloc (.cells (cells8 z).toArray 23))) := ((Below.heap_below w _).alloc (by simp) _).alloc (by simp; omega) _
  have hX : Hid (Blk (((w.alloc (.cells (cells8 x).toArray 23)).alloc (.cells (cells8 y).toArray 23)).alloc (.cells (cells8 z).toArray 23)) w.heap.size 23 (cells8 x).toArray) := ((Blk.new w _ _).alloc _).alloc _
  have hY : Hid (Blk (((w.alloc (.cells (cells8 x).toArray 23)).alloc (.cells (cells8 y).toArray 23)).alloc (.cells (cells8 z).toArray 23)) (w.heap.size + 1) 23 (cells8 y).toArray) := by
    have := (Blk.new (w.alloc (.cells (cells8 x).toArray 23)) 23 (cells8 y).toArray).alloc (.cells (cells8 z).toArray 23)
    rwa [show (w.alloc (.cells (cells8 x).toArray 23)).heap.size = w.heap.size + 1 by simp] at this
  have hV : Hid (Blk (((w.alloc (.cells (cells8 x).toArray 23)).alloc (.cells (cells8 y).toArray 23)).alloc (.cells (cells8 z).toArray 23)) (w.heap.size + 2) 23 (cells8 z).toArray) := by
    have := heap_alloc2_new (w.alloc (.cells (cells8 x).toArray 23)) (.cells (cells8 y).toArray 23) (.cells (cells8 z).toArray 23)
    rwa [show (w.alloc (.cells (cells8 x).toArray 23)).heap.size = w.heap.size + 1 by simp] at this
  have Fx := Lib.hid (fit (x := x) hx)
  have Fy := Lib.hid (fit (x := y) hy)
  have Fz := Lib.hid (fit (x := z) hz)
  subst z1 z2
  have y1 : (old == 0) = false := beq_eq_false_iff_ne.2 ho
  have y2 : (old == size) = false := beq_eq_false_iff_ne.2 hoz
  have y3 : (old != size) = true := by rw [bne, y2]; rfl
  have e0 := eql_dig x y hx hy
  rw [decide_eq_false hxy] at e0
  have e1 := eql_dig x x hx hx
  have e2 := eql_dig y y hy hy
  have e3 := eql_dig z z hz hz
  simp only [decide_true] at e1 e2 e3
  obtain ⟨i0, ii, iz0, iz1, iz2⟩ := info_partsN infoT
  clear ho hoz hxy
  clear hx hy hz
  go_enter Tryd.func5, Tryd.ntmps5
  go_wp2_with (first
    | ((with_reducible change wpList _ _ _ ({ dst := some 28, op := _, type := _, pos := _, after := _, guard := _ } :: _) _ _); refine wpList_load_row (o := ⟨some 28, _, _, _, _, _⟩) rfl 23 (.tmp 11) rfl (w.heap.size) rfl 23 ((cells8 x).toArray) (0, 0) _ hX.out Tryd.underlying23 rfl Fx.out.size ?_)
    | ((with_reducible change wpList _ _ _ ({ dst := some 29, op := _, type := _, pos := _, after := _, guard := _ } :: _) _ _); refine wpList_load_row (o := ⟨some 29, _, _, _, _, _⟩) rfl 23 (.tmp 13) rfl (w.heap.size + 2) rfl 23 ((cells8 z).toArray) (0, 0) _ hV.out Tryd.underlying23 rfl Fz.out.size ?_)
    | (go_at_call 25; refine (hI1.out _ hb.out).mono ?_; rintro e w1 ⟨rfl, kk⟩; clear hI1; have hX1 := Lib.hid (hX.out.onJ kk); have hY1 := Lib.hid (hY.out.onJ kk); have hV1 := Lib.hid (hV.out.onJ kk); have hb1 : Hid (Below w.heap.size w w1) := hb.out.trans (kk.mono hb.out.size); clear kk hX hY hV hb)
    | ((with_reducible change wpList _ _ _ ({ dst := some 37, op := _, type := _, pos := _, after := _, guard := _ } :: _) _ _); (with_reducible refine Veil.out ?_); refine wpList_rowW (o := ⟨some 37, _, _, _, _, _⟩) rfl 23 (.tmp 12) rfl (w.heap.size + 1) rfl 23 ((cells8 y).toArray) (0, 0) _ hY1.out Tryd.underlying23 rfl Fy.out.size ?_)
    | ((with_reducible change wpList _ _ _ ({ dst := some 38, op := _, type := _, pos := _, after := _, guard := _ } :: _) _ _); (with_reducible refine Veil.out ?_); refine wpList_rowW (o := ⟨some 38, _, _, _, _, _⟩) rfl 23 (.tmp 13) rfl (w.heap.size + 2) rfl 23 ((cells8 z).toArray) (0, 0) _ hV1.out Tryd.underlying23 rfl Fz.out.size ?_)
    | (go_at_call 25; refine (hI2.out _ hb1.out).mono ?_; rintro e w2 ⟨rfl, kk⟩; clear hI2; have hX2 := Lib.hid (hX1.out.onJ kk); have hY2 := Lib.hid (hY1.out.onJ kk); have hV2 := Lib.hid (hV1.out.onJ kk); have hb2 : Hid (Below w.heap.size w w2) := hb1.out.trans (kk.mono hb1.out.size); clear kk hX1 hY1 hV1 hb1)
    | ((with_reducible change wpList _ _ _ ({ dst := some 51, op := _, type := _, pos := _, after := _, guard := _ } :: _) _ _); (with_reducible refine Veil.out ?_); refine wpList_rowW (o := ⟨some 51, _, _, _, _, _⟩) rfl 23 (.tmp 11) rfl (w.heap.size) rfl 23 ((cells8 x).toArray) (0, 0) _ hX2.out Tryd.underlying23 rfl Fx.out.size ?_)
    | ((with_reducible change wpList _ _ _ ({ dst := some 52, op := _, type := _, pos := _, after := _, guard := _ } :: _) _ _); (with_reducible refine Veil.out ?_); refine wpList_rowW (o := ⟨some 52, _, _, _, _, _⟩) rfl 23 (.tmp 12) rfl (w.heap.size + 1) rfl 23 ((cells8 y).toArray) (0, 0) _ hY2.out Tryd.underlying23 rfl Fy.out.size ?_)
    | ((with_reducible change wpList _ _ _ ({ dst := some 64, op := _, type := _, pos := _, after := _, guard := _ } :: _) _ _); (with_reducible refine Veil.out ?_); refine wpList_rowW (o := ⟨some 64, _, _, _, _, _⟩) rfl 23 (.tmp 11) rfl (w.heap.size) rfl 23 ((cells8 x).toArray) (0, 0) _ hX2.out Tryd.underlying23 rfl Fx.out.size ?_)
    | ((with_reducible change wpList _ _ _ ({ dst := some 65, op := _, type := _, pos := _, after := _, guard := _ } :: _) _ _); (with_reducible refine Veil.out ?_); refine wpList_rowW (o := ⟨some 65, _, _, _, _, _⟩) rfl 23 (.tmp 12) rfl (w.heap.size + 1) rfl 23 ((cells8 y).toArray) (0, 0) _ hY2.out Tryd.underlying23 rfl Fy.out.size ?_)
    | ((with_reducible change wpList _ _ _ ({ dst := some 72, op := _, type := _, pos := _, after := _, guard := _ } :: _) _ _); refine wpList_load_row (o := ⟨some 72, _, _, _, _, _⟩) rfl 23 (.tmp 11) rfl (w.heap.size) rfl 23 ((cells8 x).toArray) (0, 0) _ hX2.out Tryd.underlying23 rfl Fx.out.size ?_)
    | (go_at_call 26; refine (hC1.out _ hb2.out).mono ?_; rintro e w4 ⟨A4, c4, xs4, rfl, hO4, hT4, kk⟩; clear hC1; replace hO4 := Lib.hid (own_down hO4 hb2.out.size); replace hT4 := Lib.hid hT4; have hX4 := Lib.hid (hX2.out.onJ kk); have hY4 := Lib.hid (hY2.out.onJ kk); have hV4 := Lib.hid (hV2.out.onJ kk); have hb4 : Hid (Below w.heap.size w w4) := hb2.out.trans (kk.mono hb2.out.size); clear kk hX2 hY2 hV2 hb2)
    | ((with_reducible change wpList _ _ _ ({ dst := none, op := Op.store 23 (.tmp 17) _, type := _, pos := _, after := _, guard := _ } :: _) _ _); refine wpList_store_whole (o := ⟨none, _, _, _, _, _⟩) rfl 23 (.tmp 17) (.tmp 75) rfl (w4.heap.size) ((cells8 x).toArray) rfl rfl 23 (Z32) ((Blk.new w4 _ _).alloc _) Fx.out.size Fx.out.zero Fx.out.one ?_; intro w5 hP5 kq; have hQ5 : Hid (Blk w5 (w4.heap.size + 1) 23 Z32) := Blk.kept (heap_alloc2_new w4 _ _) kq (by omega); have kz : Hid (Below w4.heap.size w4 w5) := ((Below.heap_below w4 _).alloc (by simp) _).trans (Kept.below_of kq (Nat.le_refl _) (by simp; omega)); replace hP5 := Lib.hid hP5; clear kq)
    | ((with_reducible change wpList _ _ _ ({ dst := none, op := Op.store 23 (.tmp 18) _, type := _, pos := _, after := _, guard := _ } :: _) _ _); refine wpList_store_whole (o := ⟨none, _, _, _, _, _⟩) rfl 23 (.tmp 18) (.tmp 76) rfl (w4.heap.size + 1) ((cells8 z).toArray) rfl rfl 23 (Z32) hQ5.out Fz.out.size Fz.out.zero Fz.out.one ?_; intro w6 hQ6 kq; have hP6 := Lib.hid (hP5.out.kept kq (by omega)); have kk : Below w4.heap.size w4 w6 := kz.out.trans (Kept.below_of kq (by omega) kz.out.size); replace hQ6 := Lib.hid hQ6; have hO6 := Lib.hid (Go.Proofs.YtpgenpogjhpeoaaDoor.Own.own_below hO4.out kk); have hT6 := Lib.hid (hT4.out.below kk); clear kq kz hP5 hQ5 hO4 hT4; have hX6 := Lib.hid (hX4.out.onJ kk); have hY6 := Lib.hid (hY4.out.onJ kk); have hV6 := Lib.hid (hV4.out.onJ kk); have hb6 : Hid (Below w.heap.size w w6) := hb4.out.trans (kk.mono hb4.out.size); clear kk hX4 hY4 hV4 hb4)
    | ((with_reducible change wpList _ _ _ ({ dst := some 83, op := _, type := _, pos := _, after := _, guard := _ } :: _) _ _); refine wpList_load_row (o := ⟨some 83, _, _, _, _, _⟩) rfl 23 (.tmp 12) rfl (w.heap.size + 1) rfl 23 ((cells8 y).toArray) (0, 0) _ hY6.out Tryd.underlying23 rfl Fy.out.size ?_)
    | (go_at_call 26; refine (hC2.out _ hb6.out).mono ?_; rintro e w7 ⟨A7, c7, xs7, rfl, hU7, hW7, kk⟩; clear hC2; replace hU7 := Lib.hid (own_down hU7 hb6.out.size); replace hW7 := Lib.hid hW7; have hP7 := Lib.hid (hP6.out.onJ kk); have hQ7 := Lib.hid (hQ6.out.onJ kk); have hO7 := Lib.hid (Go.Proofs.YtpgenpogjhpeoaaDoor.Own.own_below hO6.out kk); have hT7 := Lib.hid (hT6.out.below kk); have hX7 := Lib.hid (hX6.out.onJ kk); have hY7 := Lib.hid (hY6.out.onJ kk); have hV7 := Lib.hid (hV6.out.onJ kk); have hb7 : Hid (Below w.heap.size w w7) := hb6.out.trans (kk.mono hb6.out.size); clear hP6 hQ6 hO6 hT6; clear kk hX6 hY6 hV6 hb6)
    | ((with_reducible change wpList _ _ _ ({ dst := none, op := Op.store 23 (.tmp 21) _, type := _, pos := _, after := _, guard := _ } :: _) _ _); refine wpList_store_whole (o := ⟨none, _, _, _, _, _⟩) rfl 23 (.tmp 21) (.tmp 86) rfl (w7.heap.size) ((cells8 y).toArray) rfl rfl 23 (Z32) ((Blk.new w7 _ _).alloc _) Fy.out.size Fy.out.zero Fy.out.one ?_; intro w8 hM8 kq; have hN8 : Hid (Blk w8 (w7.heap.size + 1) 23 Z32) := Blk.kept (heap_alloc2_new w7 _ _) kq (by omega); have kz : Hid (Below w7.heap.size w7 w8) := ((Below.heap_below w7 _).alloc (by simp) _).trans (Kept.below_of kq (Nat.le_refl _) (by simp; omega)); replace hM8 := Lib.hid hM8; clear kq)
    | ((with_reducible change wpList _ _ _ ({ dst := none, op := Op.store 23 (.tmp 22) _, type := _, pos := _, after := _, guard := _ } :: _) _ _); refine wpList_store_whole (o := ⟨none, _, _, _, _, _⟩) rfl 23 (.tmp 22) (.tmp 87) rfl (w7.heap.size + 1) ((cells8 z).toArray) rfl rfl 23 (Z32) hN8.out Fz.out.size Fz.out.zero Fz.out.one ?_; intro w9 hN9 kq; have hM9 := Lib.hid (hM8.out.kept kq (by omega)); have kk : Below w7.heap.size w7 w9 := kz.out.trans (Kept.below_of kq (by omega) kz.out.size); replace hN9 := Lib.hid hN9; have hO9 := Lib.hid (Go.Proofs.YtpgenpogjhpeoaaDoor.Own.own_below hO7.out kk); have hT9 := Lib.hid (hT7.out.below kk); have hU9 := Lib.hid (Go.Proofs.YtpgenpogjhpeoaaDoor.Own.own_below hU7.out kk); have hW9 := Lib.hid (hW7.out.below kk); have hP9 := Lib.hid (hP7.out.onJ kk); have hQ9 := Lib.hid (hQ7.out.onJ kk); obtain ⟨A3, c3, e3, -, -, hnil9, hrd9, -⟩ := Go.Proofs.YtpgenpogjhpeoaaDoor.Append.Own.reads hU9.out; injection e3 with e31 e32 e33; subst e31 e33; replace hrd9 := Lib.hid hrd9; replace hnil9 := Lib.hid hnil9; have hone9 := Lib.hid (own_oneT hU9.out hW9.out pl2); clear kq kz hM8 hN8 hO7 hT7 hU7 hW7 hP7 hQ7 e32; have hX9 := Lib.hid (hX7.out.onJ kk); have hY9 := Lib.hid (hY7.out.onJ kk); have hV9 := Lib.hid (hV7.out.onJ kk); have hb9 : Hid (Below w.heap.size w w9) := hb7.out.trans (kk.mono hb7.out.size); clear kk hX7 hY7 hV7 hb7)
    | ((with_reducible change wpList _ _ _ ({ dst := some 97, op := _, type := _, pos := _, after := _, guard := _ } :: _) _ _); (with_reducible refine Veil.out ?_); refine wpList_rowW (o := ⟨some 97, _, _, _, _, _⟩) rfl 23 (.tmp 17) rfl (w4.heap.size) rfl 23 ((cells8 x).toArray) (0, 0) _ hP9.out Tryd.underlying23 rfl Fx.out.size ?_)
    | ((with_reducible change wpList _ _ _ ({ dst := some 98, op := _, type := _, pos := _, after := _, guard := _ } :: _) _ _); (with_reducible refine Veil.out ?_); refine wpList_rowW (o := ⟨some 98, _, _, _, _, _⟩) rfl 23 (.tmp 11) rfl (w.heap.size) rfl 23 ((cells8 x).toArray) (0, 0) _ hX9.out Tryd.underlying23 rfl Fx.out.size ?_)
    | ((with_reducible change wpList _ _ _ ({ dst := some 102, op := _, type := _, pos := _, after := _, guard := _ } :: _) _ _); (with_reducible refine Veil.out ?_); refine wpList_rowW (o := ⟨some 102, _, _, _, _, _⟩) rfl 23 (.tmp 21) rfl (w7.heap.size) rfl 23 ((cells8 y).toArray) (0, 0) _ hM9.out Tryd.underlying23 rfl Fy.out.size ?_)
    | ((with_reducible change wpList _ _ _ ({ dst := some 103, op := _, type := _, pos := _, after := _, guard := _ } :: _) _ _); (with_reducible refine Veil.out ?_); refine wpList_rowW (o := ⟨some 103, _, _, _, _, _⟩) rfl 23 (.tmp 12) rfl (w.heap.size + 1) rfl 23 ((cells8 y).toArray) (0, 0) _ hY9.out Tryd.underlying23 rfl Fy.out.size ?_)
    | ((with_reducible change wpList _ _ _ ({ dst := some 107, op := _, type := _, pos := _, after := _, guard := _ } :: _) _ _); (with_reducible refine Veil.out ?_); refine wpList_rowW (o := ⟨some 107, _, _, _, _, _⟩) rfl 23 (.tmp 18) rfl (w4.heap.size + 1) rfl 23 ((cells8 z).toArray) (0, 0) _ hQ9.out Tryd.underlying23 rfl Fz.out.size ?_)
    | ((with_reducible change wpList _ _ _ ({ dst := some 108, op := _, type := _, pos := _, after := _, guard := _ } :: _) _ _); (with_reducible refine Veil.out ?_); refine wpList_rowW (o := ⟨some 108, _, _, _, _, _⟩) rfl 23 (.tmp 13) rfl (w.heap.size + 2) rfl 23 ((cells8 z).toArray) (0, 0) _ hV9.out Tryd.underlying23 rfl Fz.out.size ?_)
    | ((with_reducible change wpList _ _ _ ({ dst := some 112, op := _, type := _, pos := _, after := _, guard := _ } :: _) _ _); (with_reducible refine Veil.out ?_); refine wpList_rowW (o := ⟨some 112, _, _, _, _, _⟩) rfl 23 (.tmp 22) rfl (w7.heap.size + 1) rfl 23 ((cells8 z).toArray) (0, 0) _ hN9.out Tryd.underlying23 rfl Fz.out.size ?_)
    | ((with_reducible change wpList _ _ _ ({ dst := some 113, op := _, type := _, pos := _, after := _, guard := _ } :: _) _ _); (with_reducible refine Veil.out ?_); refine wpList_rowW (o := ⟨some 113, _, _, _, _, _⟩) rfl 23 (.tmp 13) rfl (w.heap.size + 2) rfl 23 ((cells8 z).toArray) (0, 0) _ hV9.out Tryd.underlying23 rfl Fz.out.size ?_)
    | ((with_reducible change wpList _ _ _ ({ dst := some 120, op := _, type := _, pos := _, after := _, guard := _ } :: _) _ _); (with_reducible refine Veil.out ?_); refine wpList_appendW _ (o := ⟨some 120, _, _, _, _, _⟩) rfl (.tmp 118) (.tmp 119) 24 rfl w.heap.size 27 i0 (.slice none 0 0) 1 24 Tryd.underlying24 ii iz0 iz1 iz2 rfl (by decide) (.slice A4 q1 c4) q1 xs4 rfl hO9.out A7 q2 c7 xs7 rfl hrd9.out hnil9.out hone9.out (by unfold maxLen; omega) (by omega) hb9.out.size ?_; intro v10 w10 hG; obtain ⟨A10, c10, rfl, hP10, hb10⟩ := cat_join hG pl1 pl2 hO9.out hT9.out hW9.out (fun _ => q1p) hb9.out; clear hG)
    | (go_at_call 24; refine (among_any s (p1 ++ p2) (q1 + q2) (by rw [List.length_append, pl1, pl2]) (by omega) A10 c10 w10 (hBB.out _ hb10.out) hP10.out (fun q hq => by rcases List.mem_append.1 hq with h | h; rw [pt1 q h]; decide; rw [pt2 q h]; decide) hM).mono ?_; rintro e w11 ⟨rfl, kk⟩; replace hb10 := Lib.hid (hb10.out.trans (kk.mono hb10.out.size)); clear kk))
  go_ret
  exact ⟨rfl, hb10.out⟩

theorem treeJoins_any (s old size : Int) (x y z : Text) (hx : x.length = 32) (hy : y.length = 32) (hz : z.length = 32) (ds es : List Text) (n m : Nat) (A B : Option Addr) (c d : Nat) (hn : n < 140737488355328) (w : World) (hBs : Base w) (hrd : RdD w A n ds) (hre : RdD w B m es) :
    Calls Tryd.prog 5 #[.int .i64 s, .int .i64 old, .int .i64 size, .agg (cells8 x).toArray, .agg (cells8 y).toArray, .agg (cells8 z).toArray, .slice A n c, .slice B m d] w fun e w' => e = .returned (.bool true) ∧ Below w.heap.size w w' := by
  have hI1 := Lib.hid (fun w' (hb : Below w.heap.size w w') => agree_any s old size x z hx hz ds A n c w' (hBs.below hb hBs.1) (hrd.below hb))
  have hI2 := Lib.hid (fun w' (hb : Below w.heap.size w w') => agree_any s old size y z hy hz es B m d w' (hBs.below hb hBs.1) (hre.below hb))
  have hSm := Lib.hid (fun w' (hb : Below w.heap.size w w') => sameD_any n m hn ds es A B c d w' (hrd.below hb) (hre.below hb))
  have hBB := Lib.hid (fun w' (hb : Below w.heap.size w w') => hBs.below hb hBs.1)
  by_cases z1 : agreeOf s old size x z ds = 0
  · by_cases z2 : agreeOf s old size y z es = 0
    · obtain ⟨o, q, rfl, rfl, hoq, hq40, hbn, ha, hb⟩ := agree_taken z1
      obtain ⟨o', q', e1, e2, -, -, hbm, ha', hb'⟩ := agree_taken z2
      obtain rfl : o = o' := by omega
      obtain rfl : q = q' := by omega
      clear e1 e2
      by_cases ho : (o : Int) = 0
      · have ho2 : o = 0 := by omega
        by_cases hoz : (o : Int) = (q : Int)
        · have hxy : x = y := by
            unfold agA at ha ha'
            rw [if_pos ho2] at ha ha'
            rw [← ha, ← ha']
          exact tj_same0 s o q x y z hx hy hz n m A B c d w _ _ hI1 hI2 z1 z2 ho hoz hxy
        · exact tj_zero s o q x y z hx hy hz n m A B c d w _ _ hI1 hI2 z1 z2 ho hoz
      · by_cases hoz : (o : Int) = (q : Int)
        · have hxy : x = y := by
            unfold agB at hb hb'
            rw [if_pos (by omega)] at hb hb'
            rw [hb, hb']
          exact tj_size s o q x y z hx hy hz n m A B c d w _ _ hI1 hI2 z1 z2 ho hoz hxy
        · have h1 : 1 ≤ o := by omega
          have h2 : o < q := by omega
          obtain ⟨f1, s1⟩ := agree_in_mid h1 h2 ha hb
          obtain ⟨f2, s2⟩ := agree_in_mid h1 h2 ha' hb'
          obtain ⟨-, -, a3, a4, a5, a6⟩ := aheadOf_ok (s := s) h1 h2 hx hrd.2.1 hbn
          obtain ⟨-, -, b3, b4, b5, b6⟩ := aheadOf_ok (s := s) h1 h2 hy hre.2.1 hbm
          have h41 := betw_le (Nat.le_of_lt h2) hq40
          have hpl := partsOf_len (Nat.le_of_lt h2)
          have hC1 := Lib.hid (fun w' (hb : Below w.heap.size w w') => aheadx_any s o q h1 h2 hq40 x hx ds A n c (by rw [hpl, hbn]; exact hrd.1) w' (hBs.below hb hBs.1) (hrd.below hb) _ rfl (by rw [f1]; exact hx) (by rw [s1]; exact hz))
          have hC2 := Lib.hid (fun w' (hb : Below w.heap.size w w') => aheadx_any s o q h1 h2 hq40 y hy es B m d (by rw [hpl, hbm]; exact hre.1) w' (hBs.below hb hBs.1) (hre.below hb) _ rfl (by rw [f2]; exact hy) (by rw [s2]; exact hz))
          rw [f1, s1] at hC1
          rw [f2, s2] at hC2
          have hlen : ∀ p ∈ (aheadOf s o q x ds).ft ++ (aheadOf s o q x ds).st, p.length = 65 := fun p hp => (List.mem_append.1 hp).elim (a3 p) (a4 p)
          have hlen2 : ∀ p ∈ (aheadOf s o q y es).ft ++ (aheadOf s o q y es).st, p.length = 65 := fun p hp => (List.mem_append.1 hp).elim (b3 p) (b4 p)
          have key : ¬ (x = y ∧ ds = es) → TwiceP.Met s (((aheadOf s o q x ds).ft ++ (aheadOf s o q x ds).st) ++ ((aheadOf s o q y es).ft ++ (aheadOf s o q y es).st)) ∧ 0 < (aheadOf s o q x ds).ft.length + (aheadOf s o q x ds).st.length := fun hne => by
            have hM := join_meet h1 h2 hx hy hrd.2.1 hre.2.1 hbn hbm f1 f2 s1 s2 hne
            refine ⟨hM.met.mono (fun p hp => ?_), ?_⟩
            · rcases List.mem_append.1 hp with h | h
              · exact List.mem_append_left _ (List.mem_append_right _ h)
              · exact List.mem_append_right _ (List.mem_append_right _ h)
            · obtain ⟨j, p, _, hp, _⟩ := hM
              have := (List.getElem?_eq_some_iff.1 hp).1
              omega
          by_cases hxy : x = y
          · by_cases hde : ds = es
            · rw [decide_eq_true hde] at hSm
              exact tj_all s o q x y z hx hy hz n m A B c d w _ _ hI1 hI2 z1 z2 ho hoz hxy hSm
            · rw [decide_eq_false hde] at hSm
              obtain ⟨hM, hp⟩ := key (fun h => hde h.2)
              exact tj_ways s o q x y z hx hy hz n m A B c d w _ _ hI1 hI2 z1 z2 ho hoz hxy hSm _ _ _ _ hC1 hC2 (by rw [List.length_append]) (by rw [List.length_append]) hlen hlen2 hp (by omega) (by omega) hBB hM
          · obtain ⟨hM, hp⟩ := key (fun h => hxy h.1)
            exact tj_roots s o q x y z hx hy hz n m A B c d w _ _ hI1 hI2 z1 z2 ho hoz hxy _ _ _ _ hC1 hC2 (by rw [List.length_append]) (by rw [List.length_append]) hlen hlen2 hp (by omega) (by omega) hBB hM
    · exact tj_e2 s old size x y z hx hy hz n m A B c d w _ _ hI1 hI2 z1 z2
  · exact tj_e1 s old size x y z hx hy hz n m A B c d w _ _ hI1 hI2 z1
end Go.Proofs.YtpgenpogjhpeoaaDoor.TreeJoins
