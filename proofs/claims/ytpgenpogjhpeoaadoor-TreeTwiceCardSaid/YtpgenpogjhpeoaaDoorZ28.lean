/-
  Texts of the claim, put into one file: TreeTwice.
-/
import Derived.Test.YtpgenpogjhpeoaaDoorZ25
import Derived.Test.YtpgenpogjhpeoaaDoorZ26
import Derived.Test.YtpgenpogjhpeoaaDoorZ27
import Derived.Test.YtpgenpogjhpeoaaDoorZ14
import Derived.Test.YtpgenpogjhpeoaaDoorZ9

namespace Go.Proofs.YtpgenpogjhpeoaaDoor.TreeTwice
open Go Go.RowKit Go.Proofs.YtpgenpogjhpeoaaDoor Go.Proofs.YtpgenpogjhpeoaaDoor.Digest Go.Proofs.YtpgenpogjhpeoaaDoor.Mem Go.Proofs.YtpgenpogjhpeoaaDoor.Sha Go.Proofs.YtpgenpogjhpeoaaDoor.ShaWalk Go.Proofs.YtpgenpogjhpeoaaDoor.Bytes Go.Proofs.YtpgenpogjhpeoaaDoor.HashMem Go.Proofs.YtpgenpogjhpeoaaDoor.DigestMem Go.Proofs.YtpgenpogjhpeoaaDoor.DigestTop Go.Proofs.YtpgenpogjhpeoaaDoor.RefTop Go.Proofs.YtpgenpogjhpeoaaDoor.QuietTail Go.Proofs.YtpgenpogjhpeoaaDoor.Grown Go.Proofs.YtpgenpogjhpeoaaDoor.Chain Go.Proofs.YtpgenpogjhpeoaaDoor.TreeMath Go.Proofs.YtpgenpogjhpeoaaDoor.TreeMem Go.Proofs.YtpgenpogjhpeoaaDoor.TreeRoot Go.Proofs.YtpgenpogjhpeoaaDoor.Append Go.Proofs.YtpgenpogjhpeoaaDoor.Own Go.Proofs.YtpgenpogjhpeoaaDoor.Book Go.Proofs.YtpgenpogjhpeoaaDoor.Book2 Go.Proofs.YtpgenpogjhpeoaaDoor.DigEq Go.Proofs.YtpgenpogjhpeoaaDoor.TreeRefRoot Go.Proofs.YtpgenpogjhpeoaaDoor.Held Go.Proofs.YtpgenpogjhpeoaaDoor.Node Go.Proofs.YtpgenpogjhpeoaaDoor.Sides Go.Proofs.YtpgenpogjhpeoaaDoor.WayP Go.Proofs.YtpgenpogjhpeoaaDoor.Climb Go.Proofs.YtpgenpogjhpeoaaDoor.Incl Go.Proofs.YtpgenpogjhpeoaaDoor.InclAny Go.Proofs.YtpgenpogjhpeoaaDoor.Include Go.Proofs.YtpgenpogjhpeoaaDoor.Climbs Go.Proofs.YtpgenpogjhpeoaaDoor.Texts Go.Proofs.YtpgenpogjhpeoaaDoor.AheadT Go.Proofs.YtpgenpogjhpeoaaDoor.RowsT Go.Proofs.YtpgenpogjhpeoaaDoor.Guard Go.Proofs.YtpgenpogjhpeoaaDoor.Guard2 Go.Proofs.YtpgenpogjhpeoaaDoor.Want Go.Proofs.YtpgenpogjhpeoaaDoor.TwiceP Go.Proofs.YtpgenpogjhpeoaaDoor.ClashM Go.Proofs.YtpgenpogjhpeoaaDoor.Clash Go.Proofs.YtpgenpogjhpeoaaDoor.MetW

theorem _root_.Go.Proofs.YtpgenpogjhpeoaaDoor.Mem.Blk.onW {w w' : World} {g : Nat} {t : TypeId} {cs : Array Value} (h : Blk w g t cs) (hb : Below w.heap.size w w') : Blk w' g t cs := (hb.block g h.lt).trans h
/-- A climb that is taken: as many texts as digests, each of 65 bytes; few of them. -/
theorem incl_taken {s size i : Int} {leaf : Text} {ds : List Text} (hl : leaf.length = 32) (hd : Digs ds) (h : (inclOf s size i leaf [] ds).2.1 = 0) :
    ds.length ≤ 40 ∧ (sides size.toNat i.toNat).length = ds.length ∧ inclOf s size i leaf [] ds = ((climbN s (leaf, []) ((sides size.toNat i.toNat).zip ds) ds.length).1, 0, (climbN s (leaf, []) ((sides size.toNat i.toNat).zip ds) ds.length).2) ∧ (inclOf s size i leaf [] ds).2.2.length = ds.length ∧ ∀ q ∈ (inclOf s size i leaf [] ds).2.2, q.length = 65 := by
  have hin : insideB size i = true := by
    cases hin : insideB size i with
    | true => rfl
    | false =>
      unfold inclOf at h
      rw [if_pos hin] at h
      exact absurd h (by decide)
  have hif : ¬ insideB size i = false := by rw [hin]; decide
  unfold inclOf at h ⊢
  rw [if_neg hif] at h ⊢
  obtain ⟨h1, h2, h3, h4⟩ := insideB_true hin
  by_cases hn : (sides size.toNat i.toNat).length ≠ ds.length
  · rw [if_pos hn] at h; exact absurd h (by decide)
  · rw [if_neg hn] at h ⊢
    have hn : (sides size.toNat i.toNat).length = ds.length := by omega
    have h40 : (2 : Nat) ^ 40 = 1099511627776 := by decide
    have hs := sides_len (n := size.toNat) (j := i.toNat) (L := 40) (by omega) (by omega)
    have hz : ((sides size.toNat i.toNat).zip ds).length = ds.length := by rw [List.length_zip]; omega
    refine ⟨by omega, hn, rfl, ?_, ?_⟩
    · rw [show _ = _ from (climbN_len (s := s) (st := (leaf, [])) (l := (sides size.toNat i.toNat).zip ds) hl ds.length (by omega)).2]; simp
    · exact climbN_long hl (fun q h => by cases h) (fun p hp => hd _ (List.of_mem_zip (show (p.1, p.2) ∈ _ from hp)).2) ds.length (by omega)
/-- Two that are taken and lead to one sum: the same, or two texts meet. -/
theorem incl_meet {s size i : Int} {x y : Text} {ds es : List Text} (hx : x.length = 32) (hy : y.length = 32) (hd : Digs ds) (he : Digs es) (h1 : (inclOf s size i x [] ds).2.1 = 0) (h2 : (inclOf s size i y [] es).2.1 = 0) (h : (inclOf s size i x [] ds).1 = (inclOf s size i y [] es).1)
    (hne : ¬ (x = y ∧ ds = es)) : MetAt s (inclOf s size i x [] ds).2.2 (inclOf s size i y [] es).2.2 := by
  obtain ⟨-, a1, a2, -⟩ := incl_taken hx hd h1
  obtain ⟨-, b1, b2, -⟩ := incl_taken hy he h2
  have hl : ds.length = es.length := by omega
  rw [a2, b2] at h ⊢
  have z1 : ((sides size.toNat i.toNat).zip ds).length = ds.length := by rw [List.length_zip]; omega
  have z2 : ((sides size.toNat i.toNat).zip es).length = es.length := by rw [List.length_zip]; omega
  rw [← hl] at h ⊢
  rcases climb_meet s hx hy (P := (sides size.toNat i.toNat).zip ds) (Q := (sides size.toNat i.toNat).zip es) (fun p hp => hd _ (List.of_mem_zip (show (p.1, p.2) ∈ _ from hp)).2) (fun p hp => he _ (List.of_mem_zip (show (p.1, p.2) ∈ _ from hp)).2) (by omega) (fun j p q hp hq => by
    have e1 := List.getElem?_zip_eq_some.1 hp
    have e2 := List.getElem?_zip_eq_some.1 hq
    exact Option.some.inj (e1.1.symm.trans e2.1)) ds.length (by omega) h with ⟨e1, e2⟩ | h3
  · refine absurd ⟨e1, List.ext_getElem? fun j => ?_⟩ hne
    rcases Nat.lt_or_ge j ds.length with hj | hj
    · have e3 := e2 j hj
      have p1 := List.getElem?_eq_getElem (l := ds) hj
      have p2 := List.getElem?_eq_getElem (l := es) (show j < es.length by omega)
      have p0 := List.getElem?_eq_getElem (l := sides size.toNat i.toNat) (show j < (sides size.toNat i.toNat).length by omega)
      have q1 : ((sides size.toNat i.toNat).zip ds)[j]? = some ((sides size.toNat i.toNat)[j]'(by omega), ds[j]) := List.getElem?_zip_eq_some.2 ⟨p0, p1⟩
      have q2 : ((sides size.toNat i.toNat).zip es)[j]? = some ((sides size.toNat i.toNat)[j]'(by omega), es[j]'(by omega)) := List.getElem?_zip_eq_some.2 ⟨p0, p2⟩
      rw [q1, q2] at e3
      have e4 := congrArg Prod.snd (Option.some.inj e3)
      dsimp only at e4
      rw [p1, p2, e4]
    · rw [List.getElem?_eq_none hj, List.getElem?_eq_none (by omega)]
  · exact h3

/-- Each cell of a row of texts is one cell. -/
theorem own_one {w : World} {B n : Nat} {v : Value} {xs : List Value} {ts : List Text} (hO : w.ownsRow B 27 1 v n xs) (h : Tx w xs ts) (hn : ts.length = n) : ∀ u ∈ xs, u.oneCell' = true := by
  intro u hu
  obtain ⟨j, hj, rfl⟩ := List.mem_iff_getElem.1 hu
  have hl : xs.length = n := by have := hO.1; omega
  obtain ⟨-, g, c, h1, -⟩ := h j _ (List.getElem?_eq_getElem (show j < ts.length by omega))
  rw [List.getElem?_eq_getElem hj] at h1
  rw [Option.some.inj h1]
  rfl
theorem met_twice (s : Int) (p1 p2 : List Text) (n m : Nat) (l1 : p1.length = n) (l2 : p2.length = m) (n40 : n ≤ 40) (m40 : m ≤ 40) (A1 A2 : Option Addr) (c1 c2 : Nat) (w : World) (hB : Base w) (xs1 xs2 : List Value) (b1 b2 : Nat) (hO : w.ownsRow b1 27 1 (.slice A1 n c1) n xs1) (hV : w.ownsRow b2 27 1 (.slice A2 m c2) m xs2)
    (hT : Tx w xs1 p1) (hU : Tx w xs2 p2) (t1 : ∀ q ∈ p1, q.length = 65) (t2 : ∀ q ∈ p2, q.length = 65) (hM : MetAt s p1 p2) :
    Calls Tryd.prog 23 #[.int .i64 s, .slice A1 n c1, .slice A2 m c2] w fun e w' => e = .returned (.bool true) ∧ Below w.heap.size w w' := by
  subst l1 l2
  obtain ⟨A, c, e, -, -, hP⟩ := Tx.pieces hO hT
  injection e with e1 e2 e3
  subst e1
  obtain ⟨A, c, e, -, -, hQ⟩ := Tx.pieces hV hU
  injection e with e1 e2 e3
  subst e1
  exact met_any s p1 p2 _ _ rfl rfl (by omega) _ _ c1 c2 w hB hP hQ (fun q h => by rw [t1 q h]; decide) (fun q h => by rw [t2 q h]; decide) hM
theorem cat_twice {w0 w w' : World} {n m : Nat} {v v' : Value} {xs1 xs2 : List Value} {p1 p2 : List Text} (hG : Grew w w0.heap.size 27 1 v n m xs1 xs2 v' w') (l1 : p1.length = n) (l2 : p2.length = m) (hO : w.ownsRow w0.heap.size 27 1 v n xs1) (hT : Tx w xs1 p1) (hU : Tx w xs2 p2) (hnm : 0 < m → 0 < n) (hb : Below w0.heap.size w0 w) :
    ∃ A c, v' = .slice A (n + m) c ∧ Hid (Pieces w' A (p1 ++ p2)) ∧ Hid (Below w0.heap.size w0 w') := by
  subst l1 l2
  obtain ⟨h1, h2⟩ := tx_cat hO hT hU hnm hG
  obtain ⟨A, c, e, -, -, hP⟩ := Tx.pieces h2 h1
  refine ⟨A, c, by rw [e, List.length_append], hP, hG.below hb hb.size (fun k hk => ?_)⟩
  obtain ⟨A2, c2, e2, -, -, -, -, h3⟩ := Go.Proofs.YtpgenpogjhpeoaaDoor.Append.Own.reads hO
  subst e2
  cases A2 with
  | none => cases hk
  | some a => injection hk with hk; subst hk; exact (h3 a rfl).1

set_option maxRecDepth 100000 in
set_option maxHeartbeats 4000000 in
theorem tw_e1 (s size i : Int) (x y : Text) (hx : x.length = 32) (hy : y.length = 32) (n m : Nat) (A B : Option Addr) (c d : Nat) (w : World) (r1 r2 : Text) (k1 k2 : Int) (hl1 : r1.length = 32) (hl2 : r2.length = 32)
    (hI1 : Hid (∀ w', Below w.heap.size w w' → Calls Tryd.prog 20 #[.int .i64 s, .int .i64 size, .int .i64 i, .agg (cells8 x).toArray, .slice A n c] w' fun e w'' => e = .returned (.tuple #[.agg (cells8 r1).toArray, .int .i64 k1]) ∧ Below w'.heap.size w' w''))
    (hI2 : Hid (∀ w', Below w.heap.size w w' → Calls Tryd.prog 20 #[.int .i64 s, .int .i64 size, .int .i64 i, .agg (cells8 y).toArray, .slice B m d] w' fun e w'' => e = .returned (.tuple #[.agg (cells8 r2).toArray, .int .i64 k2]) ∧ Below w'.heap.size w' w'')) (z1 : ¬ k1 = 0) :
    Calls Tryd.prog 4 #[.int .i64 s, .int .i64 size, .int .i64 i, .agg (cells8 x).toArray, .agg (cells8 y).toArray, .slice A n c, .slice B m d] w fun e w' => e = .returned (.bool true) ∧ Below w.heap.size w w' := by
  have hb : Hid (Below w.heap.size w ((w.alloc (.cells (cells8 x).toArray 23)).alloc (.cells (cells8 y).toArray 23))) := (Below.heap_below w _).alloc (by simp) _
  have hX : Hid (Blk ((w.alloc (.cells (cells8 x).toArray 23)).alloc (.cells (cells8 y).toArray 23)) w.heap.size 23 (cells8 x).toArray) := (Blk.new w _ _).alloc _
  have hY : Hid (Blk ((w.alloc (.cells (cells8 x).toArray 23)).alloc (.cells (cells8 y).toArray 23)) (w.heap.size + 1) 23 (cells8 y).toArray) := by
    have := Blk.new (w.alloc (.cells (cells8 x).toArray 23)) 23 (cells8 y).toArray
    rwa [show (w.alloc (.cells (cells8 x).toArray 23)).heap.size = w.heap.size + 1 by simp] at this
  have Fx := Lib.hid (fit (x := x) hx)
  have Fy := Lib.hid (fit (x := y) hy)
  have F1 := Lib.hid (fit (x := r1) hl1)
  have F2 := Lib.hid (fit (x := r2) hl2)
  clear hx hy hl1 hl2
  go_enter Tryd.func4, Tryd.ntmps4
  go_wp2_with (first
    | ((with_reducible change wpList _ _ _ ({ dst := some 25, op := _, type := _, pos := _, after := _, guard := _ } :: _) _ _); refine wpList_load_row (o := ⟨some 25, _, _, _, _, _⟩) rfl 23 (.tmp 10) rfl (w.heap.size) rfl 23 ((cells8 x).toArray) (0, 0) _ hX.out Tryd.underlying23 rfl Fx.out.size ?_)
    | (go_at_call 20; refine (hI1.out _ hb.out).mono ?_; rintro e w1 ⟨rfl, kk⟩; clear hI1; have hX1 := Lib.hid (hX.out.onW kk); have hY1 := Lib.hid (hY.out.onW kk); have hb1 : Hid (Below w.heap.size w w1) := hb.out.trans (kk.mono hb.out.size); clear kk hX hY hb)
    | ((with_reducible change wpList _ _ _ ({ dst := none, op := Op.store 23 (.tmp 15) _, type := _, pos := _, after := _, guard := _ } :: _) _ _); refine wpList_store_whole (o := ⟨none, _, _, _, _, _⟩) rfl 23 (.tmp 15) (.tmp 28) rfl (w1.heap.size) ((cells8 r1).toArray) rfl rfl 23 (Z32) (Blk.new w1 _ _) F1.out.size F1.out.zero F1.out.one ?_; intro w2 hP2 kk; have kb := kept_fresh kk; have hX2 := Lib.hid (hX1.out.onW kb); have hY2 := Lib.hid (hY1.out.onW kb); have hb2 : Hid (Below w.heap.size w w2) := hb1.out.trans (kb.mono hb1.out.size); replace hP2 := Lib.hid hP2; clear kk kb hX1 hY1 hb1)
    | ((with_reducible change wpList _ _ _ ({ dst := some 34, op := _, type := _, pos := _, after := _, guard := _ } :: _) _ _); refine wpList_load_row (o := ⟨some 34, _, _, _, _, _⟩) rfl 23 (.tmp 11) rfl (w.heap.size + 1) rfl 23 ((cells8 y).toArray) (0, 0) _ hY2.out Tryd.underlying23 rfl Fy.out.size ?_)
    | (go_at_call 20; refine (hI2.out _ hb2.out).mono ?_; rintro e w3 ⟨rfl, kk⟩; clear hI2; have hX3 := Lib.hid (hX2.out.onW kk); have hY3 := Lib.hid (hY2.out.onW kk); have hP3 := Lib.hid (hP2.out.onW kk); have hb3 : Hid (Below w.heap.size w w3) := hb2.out.trans (kk.mono hb2.out.size); clear kk hX2 hY2 hP2 hb2)
    | ((with_reducible change wpList _ _ _ ({ dst := none, op := Op.store 23 (.tmp 17) _, type := _, pos := _, after := _, guard := _ } :: _) _ _); refine wpList_store_whole (o := ⟨none, _, _, _, _, _⟩) rfl 23 (.tmp 17) (.tmp 37) rfl (w3.heap.size) ((cells8 r2).toArray) rfl rfl 23 (Z32) (Blk.new w3 _ _) F2.out.size F2.out.zero F2.out.one ?_; intro w4 hQ4 kk; have kb := kept_fresh kk; have hX4 := Lib.hid (hX3.out.onW kb); have hY4 := Lib.hid (hY3.out.onW kb); have hP4 := Lib.hid (hP3.out.onW kb); have hb4 : Hid (Below w.heap.size w w4) := hb3.out.trans (kb.mono hb3.out.size); replace hQ4 := Lib.hid hQ4; clear kk kb hX3 hY3 hP3 hb3)
    | ((with_reducible change wpList _ _ _ ({ dst := some 46, op := _, type := _, pos := _, after := _, guard := _ } :: _) _ _); (with_reducible refine Veil.out ?_); refine wpList_rowW (o := ⟨some 46, _, _, _, _, _⟩) rfl 23 (.tmp 15) rfl (w1.heap.size) rfl 23 ((cells8 r1).toArray) (0, 0) _ hP4.out Tryd.underlying23 rfl F1.out.size ?_)
    | ((with_reducible change wpList _ _ _ ({ dst := some 47, op := _, type := _, pos := _, after := _, guard := _ } :: _) _ _); (with_reducible refine Veil.out ?_); refine wpList_rowW (o := ⟨some 47, _, _, _, _, _⟩) rfl 23 (.tmp 17) rfl (w3.heap.size) rfl 23 ((cells8 r2).toArray) (0, 0) _ hQ4.out Tryd.underlying23 rfl F2.out.size ?_)
    | ((with_reducible change wpList _ _ _ ({ dst := some 51, op := _, type := _, pos := _, after := _, guard := _ } :: _) _ _); (with_reducible refine Veil.out ?_); refine wpList_rowW (o := ⟨some 51, _, _, _, _, _⟩) rfl 23 (.tmp 10) rfl (w.heap.size) rfl 23 ((cells8 x).toArray) (0, 0) _ hX4.out Tryd.underlying23 rfl Fx.out.size ?_)
    | ((with_reducible change wpList _ _ _ ({ dst := some 52, op := _, type := _, pos := _, after := _, guard := _ } :: _) _ _); (with_reducible refine Veil.out ?_); refine wpList_rowW (o := ⟨some 52, _, _, _, _, _⟩) rfl 23 (.tmp 11) rfl (w.heap.size + 1) rfl 23 ((cells8 y).toArray) (0, 0) _ hY4.out Tryd.underlying23 rfl Fy.out.size ?_)
    | (go_at_call 21; refine (hSm.out _ hb4.out).mono ?_; rintro e w5 ⟨rfl, kk⟩; clear hSm; have hX5 := Lib.hid (hX4.out.onW kk); have hY5 := Lib.hid (hY4.out.onW kk); have hb5 : Hid (Below w.heap.size w w5) := hb4.out.trans (kk.mono hb4.out.size); clear kk hX4 hY4 hP4 hQ4))
  go_ret
  exact ⟨rfl, hb4.out⟩

set_option maxRecDepth 100000 in
set_option maxHeartbeats 4000000 in
theorem tw_e2 (s size i : Int) (x y : Text) (hx : x.length = 32) (hy : y.length = 32) (n m : Nat) (A B : Option Addr) (c d : Nat) (w : World) (r1 r2 : Text) (k1 k2 : Int) (hl1 : r1.length = 32) (hl2 : r2.length = 32)
    (hI1 : Hid (∀ w', Below w.heap.size w w' → Calls Tryd.prog 20 #[.int .i64 s, .int .i64 size, .int .i64 i, .agg (cells8 x).toArray, .slice A n c] w' fun e w'' => e = .returned (.tuple #[.agg (cells8 r1).toArray, .int .i64 k1]) ∧ Below w'.heap.size w' w''))
    (hI2 : Hid (∀ w', Below w.heap.size w w' → Calls Tryd.prog 20 #[.int .i64 s, .int .i64 size, .int .i64 i, .agg (cells8 y).toArray, .slice B m d] w' fun e w'' => e = .returned (.tuple #[.agg (cells8 r2).toArray, .int .i64 k2]) ∧ Below w'.heap.size w' w'')) (z1 : k1 = 0) (z2 : ¬ k2 = 0) :
    Calls Tryd.prog 4 #[.int .i64 s, .int .i64 size, .int .i64 i, .agg (cells8 x).toArray, .agg (cells8 y).toArray, .slice A n c, .slice B m d] w fun e w' => e = .returned (.bool true) ∧ Below w.heap.size w w' := by
  have hb : Hid (Below w.heap.size w ((w.alloc (.cells (cells8 x).toArray 23)).alloc (.cells (cells8 y).toArray 23))) := (Below.heap_below w _).alloc (by simp) _
  have hX : Hid (Blk ((w.alloc (.cells (cells8 x).toArray 23)).alloc (.cells (cells8 y).toArray 23)) w.heap.size 23 (cells8 x).toArray) := (Blk.new w _ _).alloc _
  have hY : Hid (Blk ((w.alloc (.cells (cells8 x).toArray 23)).alloc (.cells (cells8 y).toArray 23)) (w.heap.size + 1) 23 (cells8 y).toArray) := by
    have := Blk.new (w.alloc (.cells (cells8 x).toArray 23)) 23 (cells8 y).toArray
    rwa [show (w.alloc (.cells (cells8 x).toArray 23)).heap.size = w.heap.size + 1 by simp] at this
  have Fx := Lib.hid (fit (x := x) hx)
  have Fy := Lib.hid (fit (x := y) hy)
  have F1 := Lib.hid (fit (x := r1) hl1)
  have F2 := Lib.hid (fit (x := r2) hl2)
  subst z1
  clear hx hy hl1 hl2
  go_enter Tryd.func4, Tryd.ntmps4
  go_wp2_with (first
    | ((with_reducible change wpList _ _ _ ({ dst := some 25, op := _, type := _, pos := _, after := _, guard := _ } :: _) _ _); refine wpList_load_row (o := ⟨some 25, _, _, _, _, _⟩) rfl 23 (.tmp 10) rfl (w.heap.size) rfl 23 ((cells8 x).toArray) (0, 0) _ hX.out Tryd.underlying23 rfl Fx.out.size ?_)
    | (go_at_call 20; refine (hI1.out _ hb.out).mono ?_; rintro e w1 ⟨rfl, kk⟩; clear hI1; have hX1 := Lib.hid (hX.out.onW kk); have hY1 := Lib.hid (hY.out.onW kk); have hb1 : Hid (Below w.heap.size w w1) := hb.out.trans (kk.mono hb.out.size); clear kk hX hY hb)
    | ((with_reducible change wpList _ _ _ ({ dst := none, op := Op.store 23 (.tmp 15) _, type := _, pos := _, after := _, guard := _ } :: _) _ _); refine wpList_store_whole (o := ⟨none, _, _, _, _, _⟩) rfl 23 (.tmp 15) (.tmp 28) rfl (w1.heap.size) ((cells8 r1).toArray) rfl rfl 23 (Z32) (Blk.new w1 _ _) F1.out.size F1.out.zero F1.out.one ?_; intro w2 hP2 kk; have kb := kept_fresh kk; have hX2 := Lib.hid (hX1.out.onW kb); have hY2 := Lib.hid (hY1.out.onW kb); have hb2 : Hid (Below w.heap.size w w2) := hb1.out.trans (kb.mono hb1.out.size); replace hP2 := Lib.hid hP2; clear kk kb hX1 hY1 hb1)
    | ((with_reducible change wpList _ _ _ ({ dst := some 34, op := _, type := _, pos := _, after := _, guard := _ } :: _) _ _); refine wpList_load_row (o := ⟨some 34, _, _, _, _, _⟩) rfl 23 (.tmp 11) rfl (w.heap.size + 1) rfl 23 ((cells8 y).toArray) (0, 0) _ hY2.out Tryd.underlying23 rfl Fy.out.size ?_)
    | (go_at_call 20; refine (hI2.out _ hb2.out).mono ?_; rintro e w3 ⟨rfl, kk⟩; clear hI2; have hX3 := Lib.hid (hX2.out.onW kk); have hY3 := Lib.hid (hY2.out.onW kk); have hP3 := Lib.hid (hP2.out.onW kk); have hb3 : Hid (Below w.heap.size w w3) := hb2.out.trans (kk.mono hb2.out.size); clear kk hX2 hY2 hP2 hb2)
    | ((with_reducible change wpList _ _ _ ({ dst := none, op := Op.store 23 (.tmp 17) _, type := _, pos := _, after := _, guard := _ } :: _) _ _); refine wpList_store_whole (o := ⟨none, _, _, _, _, _⟩) rfl 23 (.tmp 17) (.tmp 37) rfl (w3.heap.size) ((cells8 r2).toArray) rfl rfl 23 (Z32) (Blk.new w3 _ _) F2.out.size F2.out.zero F2.out.one ?_; intro w4 hQ4 kk; have kb := kept_fresh kk; have hX4 := Lib.hid (hX3.out.onW kb); have hY4 := Lib.hid (hY3.out.onW kb); have hP4 := Lib.hid (hP3.out.onW kb); have hb4 : Hid (Below w.heap.size w w4) := hb3.out.trans (kb.mono hb3.out.size); replace hQ4 := Lib.hid hQ4; clear kk kb hX3 hY3 hP3 hb3)
    | ((with_reducible change wpList _ _ _ ({ dst := some 46, op := _, type := _, pos := _, after := _, guard := _ } :: _) _ _); (with_reducible refine Veil.out ?_); refine wpList_rowW (o := ⟨some 46, _, _, _, _, _⟩) rfl 23 (.tmp 15) rfl (w1.heap.size) rfl 23 ((cells8 r1).toArray) (0, 0) _ hP4.out Tryd.underlying23 rfl F1.out.size ?_)
    | ((with_reducible change wpList _ _ _ ({ dst := some 47, op := _, type := _, pos := _, after := _, guard := _ } :: _) _ _); (with_reducible refine Veil.out ?_); refine wpList_rowW (o := ⟨some 47, _, _, _, _, _⟩) rfl 23 (.tmp 17) rfl (w3.heap.size) rfl 23 ((cells8 r2).toArray) (0, 0) _ hQ4.out Tryd.underlying23 rfl F2.out.size ?_)
    | ((with_reducible change wpList _ _ _ ({ dst := some 51, op := _, type := _, pos := _, after := _, guard := _ } :: _) _ _); (with_reducible refine Veil.out ?_); refine wpList_rowW (o := ⟨some 51, _, _, _, _, _⟩) rfl 23 (.tmp 10) rfl (w.heap.size) rfl 23 ((cells8 x).toArray) (0, 0) _ hX4.out Tryd.underlying23 rfl Fx.out.size ?_)
    | ((with_reducible change wpList _ _ _ ({ dst := some 52, op := _, type := _, pos := _, after := _, guard := _ } :: _) _ _); (with_reducible refine Veil.out ?_); refine wpList_rowW (o := ⟨some 52, _, _, _, _, _⟩) rfl 23 (.tmp 11) rfl (w.heap.size + 1) rfl 23 ((cells8 y).toArray) (0, 0) _ hY4.out Tryd.underlying23 rfl Fy.out.size ?_)
    | (go_at_call 21; refine (hSm.out _ hb4.out).mono ?_; rintro e w5 ⟨rfl, kk⟩; clear hSm; have hX5 := Lib.hid (hX4.out.onW kk); have hY5 := Lib.hid (hY4.out.onW kk); have hb5 : Hid (Below w.heap.size w w5) := hb4.out.trans (kk.mono hb4.out.size); clear kk hX4 hY4 hP4 hQ4))
  go_ret
  exact ⟨rfl, hb4.out⟩

set_option maxRecDepth 100000 in
set_option maxHeartbeats 4000000 in
theorem tw_ne (s size i : Int) (x y : Text) (hx : x.length = 32) (hy : y.length = 32) (n m : Nat) (A B : Option Addr) (c d : Nat) (w : World) (r1 r2 : Text) (k1 k2 : Int) (hl1 : r1.length = 32) (hl2 : r2.length = 32)
    (hI1 : Hid (∀ w', Below w.heap.size w w' → Calls Tryd.prog 20 #[.int .i64 s, .int .i64 size, .int .i64 i, .agg (cells8 x).toArray, .slice A n c] w' fun e w'' => e = .returned (.tuple #[.agg (cells8 r1).toArray, .int .i64 k1]) ∧ Below w'.heap.size w' w''))
    (hI2 : Hid (∀ w', Below w.heap.size w w' → Calls Tryd.prog 20 #[.int .i64 s, .int .i64 size, .int .i64 i, .agg (cells8 y).toArray, .slice B m d] w' fun e w'' => e = .returned (.tuple #[.agg (cells8 r2).toArray, .int .i64 k2]) ∧ Below w'.heap.size w' w'')) (z1 : k1 = 0) (z2 : k2 = 0) (hr : ¬ r1 = r2) :
    Calls Tryd.prog 4 #[.int .i64 s, .int .i64 size, .int .i64 i, .agg (cells8 x).toArray, .agg (cells8 y).toArray, .slice A n c, .slice B m d] w fun e w' => e = .returned (.bool true) ∧ Below w.heap.size w w' := by
  have hb : Hid (Below w.heap.size w ((w.alloc (.cells (cells8 x).toArray 23)).alloc (.cells (cells8 y).toArray 23))) := (Below.heap_below w _).alloc (by simp) _
  have hX : Hid (Blk ((w.alloc (.cells (cells8 x).toArray 23)).alloc (.cells (cells8 y).toArray 23)) w.heap.size 23 (cells8 x).toArray) := (Blk.new w _ _).alloc _
  have hY : Hid (Blk ((w.alloc (.cells (cells8 x).toArray 23)).alloc (.cells (cells8 y).toArray 23)) (w.heap.size + 1) 23 (cells8 y).toArray) := by
    have := Blk.new (w.alloc (.cells (cells8 x).toArray 23)) 23 (cells8 y).toArray
    rwa [show (w.alloc (.cells (cells8 x).toArray 23)).heap.size = w.heap.size + 1 by simp] at this
  have Fx := Lib.hid (fit (x := x) hx)
  have Fy := Lib.hid (fit (x := y) hy)
  have F1 := Lib.hid (fit (x := r1) hl1)
  have F2 := Lib.hid (fit (x := r2) hl2)
  subst z1 z2
  have hq1 := neq_dig r1 r2 hl1 hl2
  rw [decide_eq_false hr] at hq1
  simp only [Bool.not_false] at hq1
  clear hr hx hy hl1 hl2
  go_enter Tryd.func4, Tryd.ntmps4
  go_wp2_with (first
    | ((with_reducible change wpList _ _ _ ({ dst := some 25, op := _, type := _, pos := _, after := _, guard := _ } :: _) _ _); refine wpList_load_row (o := ⟨some 25, _, _, _, _, _⟩) rfl 23 (.tmp 10) rfl (w.heap.size) rfl 23 ((cells8 x).toArray) (0, 0) _ hX.out Tryd.underlying23 rfl Fx.out.size ?_)
    | (go_at_call 20; refine (hI1.out _ hb.out).mono ?_; rintro e w1 ⟨rfl, kk⟩; clear hI1; have hX1 := Lib.hid (hX.out.onW kk); have hY1 := Lib.hid (hY.out.onW kk); have hb1 : Hid (Below w.heap.size w w1) := hb.out.trans (kk.mono hb.out.size); clear kk hX hY hb)
    | ((with_reducible change wpList _ _ _ ({ dst := none, op := Op.store 23 (.tmp 15) _, type := _, pos := _, after := _, guard := _ } :: _) _ _); refine wpList_store_whole (o := ⟨none, _, _, _, _, _⟩) rfl 23 (.tmp 15) (.tmp 28) rfl (w1.heap.size) ((cells8 r1).toArray) rfl rfl 23 (Z32) (Blk.new w1 _ _) F1.out.size F1.out.zero F1.out.one ?_; intro w2 hP2 kk; have kb := kept_fresh kk; have hX2 := Lib.hid (hX1.out.onW kb); have hY2 := Lib.hid (hY1.out.onW kb); have hb2 : Hid (Below w.heap.size w w2) := hb1.out.trans (kb.mono hb1.out.size); replace hP2 := Lib.hid hP2; clear kk kb hX1 hY1 hb1)
    | ((with_reducible change wpList _ _ _ ({ dst := some 34, op := _, type := _, pos := _, after := _, guard := _ } :: _) _ _); refine wpList_load_row (o := ⟨some 34, _, _, _, _, _⟩) rfl 23 (.tmp 11) rfl (w.heap.size + 1) rfl 23 ((cells8 y).toArray) (0, 0) _ hY2.out Tryd.underlying23 rfl Fy.out.size ?_)
    | (go_at_call 20; refine (hI2.out _ hb2.out).mono ?_; rintro e w3 ⟨rfl, kk⟩; clear hI2; have hX3 := Lib.hid (hX2.out.onW kk); have hY3 := Lib.hid (hY2.out.onW kk); have hP3 := Lib.hid (hP2.out.onW kk); have hb3 : Hid (Below w.heap.size w w3) := hb2.out.trans (kk.mono hb2.out.size); clear kk hX2 hY2 hP2 hb2)
    | ((with_reducible change wpList _ _ _ ({ dst := none, op := Op.store 23 (.tmp 17) _, type := _, pos := _, after := _, guard := _ } :: _) _ _); refine wpList_store_whole (o := ⟨none, _, _, _, _, _⟩) rfl 23 (.tmp 17) (.tmp 37) rfl (w3.heap.size) ((cells8 r2).toArray) rfl rfl 23 (Z32) (Blk.new w3 _ _) F2.out.size F2.out.zero F2.out.one ?_; intro w4 hQ4 kk; have kb := kept_fresh kk; have hX4 := Lib.hid (hX3.out.onW kb); have hY4 := Lib.hid (hY3.out.onW kb); have hP4 := Lib.hid (hP3.out.onW kb); have hb4 : Hid (Below w.heap.size w w4) := hb3.out.trans (kb.mono hb3.out.size); replace hQ4 := Lib.hid hQ4; clear kk kb hX3 hY3 hP3 hb3)
    | ((with_reducible change wpList _ _ _ ({ dst := some 46, op := _, type := _, pos := _, after := _, guard := _ } :: _) _ _); (with_reducible refine Veil.out ?_); refine wpList_rowW (o := ⟨some 46, _, _, _, _, _⟩) rfl 23 (.tmp 15) rfl (w1.heap.size) rfl 23 ((cells8 r1).toArray) (0, 0) _ hP4.out Tryd.underlying23 rfl F1.out.size ?_)
    | ((with_reducible change wpList _ _ _ ({ dst := some 47, op := _, type := _, pos := _, after := _, guard := _ } :: _) _ _); (with_reducible refine Veil.out ?_); refine wpList_rowW (o := ⟨some 47, _, _, _, _, _⟩) rfl 23 (.tmp 17) rfl (w3.heap.size) rfl 23 ((cells8 r2).toArray) (0, 0) _ hQ4.out Tryd.underlying23 rfl F2.out.size ?_)
    | ((with_reducible change wpList _ _ _ ({ dst := some 51, op := _, type := _, pos := _, after := _, guard := _ } :: _) _ _); (with_reducible refine Veil.out ?_); refine wpList_rowW (o := ⟨some 51, _, _, _, _, _⟩) rfl 23 (.tmp 10) rfl (w.heap.size) rfl 23 ((cells8 x).toArray) (0, 0) _ hX4.out Tryd.underlying23 rfl Fx.out.size ?_)
    | ((with_reducible change wpList _ _ _ ({ dst := some 52, op := _, type := _, pos := _, after := _, guard := _ } :: _) _ _); (with_reducible refine Veil.out ?_); refine wpList_rowW (o := ⟨some 52, _, _, _, _, _⟩) rfl 23 (.tmp 11) rfl (w.heap.size + 1) rfl 23 ((cells8 y).toArray) (0, 0) _ hY4.out Tryd.underlying23 rfl Fy.out.size ?_)
    | (go_at_call 21; refine (hSm.out _ hb4.out).mono ?_; rintro e w5 ⟨rfl, kk⟩; clear hSm; have hX5 := Lib.hid (hX4.out.onW kk); have hY5 := Lib.hid (hY4.out.onW kk); have hb5 : Hid (Below w.heap.size w w5) := hb4.out.trans (kk.mono hb4.out.size); clear kk hX4 hY4 hP4 hQ4))
  go_ret
  exact ⟨rfl, hb4.out⟩

set_option maxRecDepth 100000 in
set_option maxHeartbeats 4000000 in
theorem tw_same (s size i : Int) (x y : Text) (hx : x.length = 32) (hy : y.length = 32) (n m : Nat) (A B : Option Addr) (c d : Nat) (w : World) (r1 r2 : Text) (k1 k2 : Int) (hl1 : r1.length = 32) (hl2 : r2.length = 32)
    (hI1 : Hid (∀ w', Below w.heap.size w w' → Calls Tryd.prog 20 #[.int .i64 s, .int .i64 size, .int .i64 i, .agg (cells8 x).toArray, .slice A n c] w' fun e w'' => e = .returned (.tuple #[.agg (cells8 r1).toArray, .int .i64 k1]) ∧ Below w'.heap.size w' w''))
    (hI2 : Hid (∀ w', Below w.heap.size w w' → Calls Tryd.prog 20 #[.int .i64 s, .int .i64 size, .int .i64 i, .agg (cells8 y).toArray, .slice B m d] w' fun e w'' => e = .returned (.tuple #[.agg (cells8 r2).toArray, .int .i64 k2]) ∧ Below w'.heap.size w' w'')) (z1 : k1 = 0) (z2 : k2 = 0) (hr : r1 = r2) (hxy : x = y) (hSm : Hid (∀ w', Below w.heap.size w w' → Calls Tryd.prog 21 #[.slice A n c, .slice B m d] w' fun e w'' => e = .returned (.bool true) ∧ Below w'.heap.size w' w'')) :
    Calls Tryd.prog 4 #[.int .i64 s, .int .i64 size, .int .i64 i, .agg (cells8 x).toArray, .agg (cells8 y).toArray, .slice A n c, .slice B m d] w fun e w' => e = .returned (.bool true) ∧ Below w.heap.size w w' := by
  have hb : Hid (Below w.heap.size w ((w.alloc (.cells (cells8 x).toArray 23)).alloc (.cells (cells8 y).toArray 23))) := (Below.heap_below w _).alloc (by simp) _
  have hX : Hid (Blk ((w.alloc (.cells (cells8 x).toArray 23)).alloc (.cells (cells8 y).toArray 23)) w.heap.size 23 (cells8 x).toArray) := (Blk.new w _ _).alloc _
  have hY : Hid (Blk ((w.alloc (.cells (cells8 x).toArray 23)).alloc (.cells (cells8 y).toArray 23)) (w.heap.size + 1) 23 (cells8 y).toArray) := by
    have := Blk.new (w.alloc (.cells (cells8 x).toArray 23)) 23 (cells8 y).toArray
    rwa [show (w.alloc (.cells (cells8 x).toArray 23)).heap.size = w.heap.size + 1 by simp] at this
  have Fx := Lib.hid (fit (x := x) hx)
  have Fy := Lib.hid (fit (x := y) hy)
  have F1 := Lib.hid (fit (x := r1) hl1)
  have F2 := Lib.hid (fit (x := r2) hl2)
  subst z1 z2
  have hq1 := neq_dig r1 r2 hl1 hl2
  have hq2 := eql_dig x y hx hy
  rw [decide_eq_true hr] at hq1
  rw [decide_eq_true hxy] at hq2
  simp only [Bool.not_true] at hq1
  clear hr hxy hx hy hl1 hl2
  go_enter Tryd.func4, Tryd.ntmps4
  go_wp2_with (first
    | ((with_reducible change wpList _ _ _ ({ dst := some 25, op := _, type := _, pos := _, after := _, guard := _ } :: _) _ _); refine wpList_load_row (o := ⟨some 25, _, _, _, _, _⟩) rfl 23 (.tmp 10) rfl (w.heap.size) rfl 23 ((cells8 x).toArray) (0, 0) _ hX.out Tryd.underlying23 rfl Fx.out.size ?_)
    | (go_at_call 20; refine (hI1.out _ hb.out).mono ?_; rintro e w1 ⟨rfl, kk⟩; clear hI1; have hX1 := Lib.hid (hX.out.onW kk); have hY1 := Lib.hid (hY.out.onW kk); have hb1 : Hid (Below w.heap.size w w1) := hb.out.trans (kk.mono hb.out.size); clear kk hX hY hb)
    | ((with_reducible change wpList _ _ _ ({ dst := none, op := Op.store 23 (.tmp 15) _, type := _, pos := _, after := _, guard := _ } :: _) _ _); refine wpList_store_whole (o := ⟨none, _, _, _, _, _⟩) rfl 23 (.tmp 15) (.tmp 28) rfl (w1.heap.size) ((cells8 r1).toArray) rfl rfl 23 (Z32) (Blk.new w1 _ _) F1.out.size F1.out.zero F1.out.one ?_; intro w2 hP2 kk; have kb := kept_fresh kk; have hX2 := Lib.hid (hX1.out.onW kb); have hY2 := Lib.hid (hY1.out.onW kb); have hb2 : Hid (Below w.heap.size w w2) := hb1.out.trans (kb.mono hb1.out.size); replace hP2 := Lib.hid hP2; clear kk kb hX1 hY1 hb1)
    | ((with_reducible change wpList _ _ _ ({ dst := some 34, op := _, type := _, pos := _, after := _, guard := _ } :: _) _ _); refine wpList_load_row (o := ⟨some 34, _, _, _, _, _⟩) rfl 23 (.tmp 11) rfl (w.heap.size + 1) rfl 23 ((cells8 y).toArray) (0, 0) _ hY2.out Tryd.underlying23 rfl Fy.out.size ?_)
    | (go_at_call 20; refine (hI2.out _ hb2.out).mono ?_; rintro e w3 ⟨rfl, kk⟩; clear hI2; have hX3 := Lib.hid (hX2.out.onW kk); have hY3 := Lib.hid (hY2.out.onW kk); have hP3 := Lib.hid (hP2.out.onW kk); have hb3 : Hid (Below w.heap.size w w3) := hb2.out.trans (kk.mono hb2.out.size); clear kk hX2 hY2 hP2 hb2)
    | ((with_reducible change wpList _ _ _ ({ dst := none, op := Op.store 23 (.tmp 17) _, type := _, pos := _, after := _, guard := _ } :: _) _ _); refine wpList_store_whole (o := ⟨none, _, _, _, _, _⟩) rfl 23 (.tmp 17) (.tmp 37) rfl (w3.heap.size) ((cells8 r2).toArray) rfl rfl 23 (Z32) (Blk.new w3 _ _) F2.out.size F2.out.zero F2.out.one ?_; intro w4 hQ4 kk; have kb := kept_fresh kk; have hX4 := Lib.hid (hX3.out.onW kb); have hY4 := Lib.hid (hY3.out.onW kb); have hP4 := Lib.hid (hP3.out.onW kb); have hb4 : Hid (Below w.heap.size w w4) := hb3.out.trans (kb.mono hb3.out.size); replace hQ4 := Lib.hid hQ4; clear kk kb hX3 hY3 hP3 hb3)
    | ((with_reducible change wpList _ _ _ ({ dst := some 46, op := _, type := _, pos := _, after := _, guard := _ } :: _) _ _); (with_reducible refine Veil.out ?_); refine wpList_rowW (o := ⟨some 46, _, _, _, _, _⟩) rfl 23 (.tmp 15) rfl (w1.heap.size) rfl 23 ((cells8 r1).toArray) (0, 0) _ hP4.out Tryd.underlying23 rfl F1.out.size ?_)
    | ((with_reducible change wpList _ _ _ ({ dst := some 47, op := _, type := _, pos := _, after := _, guard := _ } :: _) _ _); (with_reducible refine Veil.out ?_); refine wpList_rowW (o := ⟨some 47, _, _, _, _, _⟩) rfl 23 (.tmp 17) rfl (w3.heap.size) rfl 23 ((cells8 r2).toArray) (0, 0) _ hQ4.out Tryd.underlying23 rfl F2.out.size ?_)
    | ((with_reducible change wpList _ _ _ ({ dst := some 51, op := _, type := _, pos := _, after := _, guard := _ } :: _) _ _); (with_reducible refine Veil.out ?_); refine wpList_rowW (o := ⟨some 51, _, _, _, _, _⟩) rfl 23 (.tmp 10) rfl (w.heap.size) rfl 23 ((cells8 x).toArray) (0, 0) _ hX4.out Tryd.underlying23 rfl Fx.out.size ?_)
    | ((with_reducible change wpList _ _ _ ({ dst := some 52, op := _, type := _, pos := _, after := _, guard := _ } :: _) _ _); (with_reducible refine Veil.out ?_); refine wpList_rowW (o := ⟨some 52, _, _, _, _, _⟩) rfl 23 (.tmp 11) rfl (w.heap.size + 1) rfl 23 ((cells8 y).toArray) (0, 0) _ hY4.out Tryd.underlying23 rfl Fy.out.size ?_)
    | (go_at_call 21; refine (hSm.out _ hb4.out).mono ?_; rintro e w5 ⟨rfl, kk⟩; clear hSm; have hX5 := Lib.hid (hX4.out.onW kk); have hY5 := Lib.hid (hY4.out.onW kk); have hb5 : Hid (Below w.heap.size w w5) := hb4.out.trans (kk.mono hb4.out.size); clear kk hX4 hY4 hP4 hQ4))
  go_ret
  exact ⟨rfl, hb5.out⟩

set_option maxRecDepth 100000 in
set_option maxHeartbeats 4000000 in
theorem tw_ways (s size i : Int) (x y : Text) (hx : x.length = 32) (hy : y.length = 32) (n m : Nat) (A B : Option Addr) (c d : Nat) (w : World) (r1 r2 : Text) (k1 k2 : Int) (hl1 : r1.length = 32) (hl2 : r2.length = 32)
    (hI1 : Hid (∀ w', Below w.heap.size w w' → Calls Tryd.prog 20 #[.int .i64 s, .int .i64 size, .int .i64 i, .agg (cells8 x).toArray, .slice A n c] w' fun e w'' => e = .returned (.tuple #[.agg (cells8 r1).toArray, .int .i64 k1]) ∧ Below w'.heap.size w' w''))
    (hI2 : Hid (∀ w', Below w.heap.size w w' → Calls Tryd.prog 20 #[.int .i64 s, .int .i64 size, .int .i64 i, .agg (cells8 y).toArray, .slice B m d] w' fun e w'' => e = .returned (.tuple #[.agg (cells8 r2).toArray, .int .i64 k2]) ∧ Below w'.heap.size w' w'')) (z1 : k1 = 0) (z2 : k2 = 0) (hr : r1 = r2) (hxy : x = y) (hSm : Hid (∀ w', Below w.heap.size w w' → Calls Tryd.prog 21 #[.slice A n c, .slice B m d] w' fun e w'' => e = .returned (.bool false) ∧ Below w'.heap.size w' w''))
    (p1 p2 : List Text) (hC1 : Hid (∀ w', Below w.heap.size w w' → Calls Tryd.prog 22 #[.int .i64 s, .int .i64 size, .int .i64 i, .agg (cells8 x).toArray, .slice A n c] w' fun e w'' => ∃ v xs r gc, e = .returned (.tuple #[v, .int .i64 k1]) ∧ w''.ownsRow 0 27 1 v p1.length xs ∧ Txs (fun _ => False) w'' gc r xs p1 ∧ Below w'.heap.size w' w'' ∧ ∀ k, v.ownBlock = some k → w'.heap.size ≤ k))
    (hC2 : Hid (∀ w', Below w.heap.size w w' → Calls Tryd.prog 22 #[.int .i64 s, .int .i64 size, .int .i64 i, .agg (cells8 y).toArray, .slice B m d] w' fun e w'' => ∃ v xs r gc, e = .returned (.tuple #[v, .int .i64 k2]) ∧ w''.ownsRow 0 27 1 v p2.length xs ∧ Txs (fun _ => False) w'' gc r xs p2 ∧ Below w'.heap.size w' w'' ∧ ∀ k, v.ownBlock = some k → w'.heap.size ≤ k))
    (pl1 : p1.length = n) (pl2 : p2.length = m) (pt1 : ∀ q ∈ p1, q.length = 65) (pt2 : ∀ q ∈ p2, q.length = 65) (n40 : n ≤ 40) (m40 : m ≤ 40) (hBB : Hid (∀ w', Below w.heap.size w w' → Base w')) (hnm : 0 < m → 0 < n) (hM : MetAt s p1 p2) :
    Calls Tryd.prog 4 #[.int .i64 s, .int .i64 size, .int .i64 i, .agg (cells8 x).toArray, .agg (cells8 y).toArray, .slice A n c, .slice B m d] w fun e w' => e = .returned (.bool true) ∧ Below w.heap.size w w' := by
  have hb : Hid (Below w.heap.size w ((w.alloc (.cells (cells8 x).toArray 23)).alloc (.cells (cells8 y).toArray 23))) := (Below.heap_below w _).alloc (by simp) _
  have hX : Hid (Blk ((w.alloc (.cells (cells8 x).toArray 23)).alloc (.cells (cells8 y).toArray 23)) w.heap.size 23 (cells8 x).toArray) := (Blk.new w _ _).alloc _
  have hY : Hid (Blk ((w.alloc (.cells (cells8 x).toArray 23)).alloc (.cells (cells8 y).toArray 23)) (w.heap.size + 1) 23 (cells8 y).toArray) := by
    have := Blk.new (w.alloc (.cells (cells8 x).toArray 23)) 23 (cells8 y).toArray
    rwa [show (w.alloc (.cells (cells8 x).toArray 23)).heap.size = w.heap.size + 1 by simp] at this
  have Fx := Lib.hid (fit (x := x) hx)
  have Fy := Lib.hid (fit (x := y) hy)
  have F1 := Lib.hid (fit (x := r1) hl1)
  have F2 := Lib.hid (fit (x := r2) hl2)
  subst z1 z2
  have hq1 := neq_dig r1 r2 hl1 hl2
  have hq2 := eql_dig x y hx hy
  rw [decide_eq_true hr] at hq1
  rw [decide_eq_true hxy] at hq2
  simp only [Bool.not_true] at hq1
  obtain ⟨i0, ii, iz0, iz1, iz2⟩ := info_partsN infoT
  clear hr hxy hx hy hl1 hl2
  go_enter Tryd.func4, Tryd.ntmps4
  go_wp2_with (first
    | ((with_reducible change wpList _ _ _ ({ dst := some 25, op := _, type := _, pos := _, after := _, guard := _ } :: _) _ _); refine wpList_load_row (o := ⟨some 25, _, _, _, _, _⟩) rfl 23 (.tmp 10) rfl (w.heap.size) rfl 23 ((cells8 x).toArray) (0, 0) _ hX.out Tryd.underlying23 rfl Fx.out.size ?_)
    | (go_at_call 20; refine (hI1.out _ hb.out).mono ?_; rintro e w1 ⟨rfl, kk⟩; clear hI1; have hX1 := Lib.hid (hX.out.onW kk); have hY1 := Lib.hid (hY.out.onW kk); have hb1 : Hid (Below w.heap.size w w1) := hb.out.trans (kk.mono hb.out.size); clear kk hX hY hb)
    | ((with_reducible change wpList _ _ _ ({ dst := none, op := Op.store 23 (.tmp 15) _, type := _, pos := _, after := _, guard := _ } :: _) _ _); refine wpList_store_whole (o := ⟨none, _, _, _, _, _⟩) rfl 23 (.tmp 15) (.tmp 28) rfl (w1.heap.size) ((cells8 r1).toArray) rfl rfl 23 (Z32) (Blk.new w1 _ _) F1.out.size F1.out.zero F1.out.one ?_; intro w2 hP2 kk; have kb := kept_fresh kk; have hX2 := Lib.hid (hX1.out.onW kb); have hY2 := Lib.hid (hY1.out.onW kb); have hb2 : Hid (Below w.heap.size w w2) := hb1.out.trans (kb.mono hb1.out.size); replace hP2 := Lib.hid hP2; clear kk kb hX1 hY1 hb1)
    | ((with_reducible change wpList _ _ _ ({ dst := some 34, op := _, type := _, pos := _, after := _, guard := _ } :: _) _ _); refine wpList_load_row (o := ⟨some 34, _, _, _, _, _⟩) rfl 23 (.tmp 11) rfl (w.heap.size + 1) rfl 23 ((cells8 y).toArray) (0, 0) _ hY2.out Tryd.underlying23 rfl Fy.out.size ?_)
    | (go_at_call 20; refine (hI2.out _ hb2.out).mono ?_; rintro e w3 ⟨rfl, kk⟩; clear hI2; have hX3 := Lib.hid (hX2.out.onW kk); have hY3 := Lib.hid (hY2.out.onW kk); have hP3 := Lib.hid (hP2.out.onW kk); have hb3 : Hid (Below w.heap.size w w3) := hb2.out.trans (kk.mono hb2.out.size); clear kk hX2 hY2 hP2 hb2)
    | ((with_reducible change wpList _ _ _ ({ dst := none, op := Op.store 23 (.tmp 17) _, type := _, pos := _, after := _, guard := _ } :: _) _ _); refine wpList_store_whole (o := ⟨none, _, _, _, _, _⟩) rfl 23 (.tmp 17) (.tmp 37) rfl (w3.heap.size) ((cells8 r2).toArray) rfl rfl 23 (Z32) (Blk.new w3 _ _) F2.out.size F2.out.zero F2.out.one ?_; intro w4 hQ4 kk; have kb := kept_fresh kk; have hX4 := Lib.hid (hX3.out.onW kb); have hY4 := Lib.hid (hY3.out.onW kb); have hP4 := Lib.hid (hP3.out.onW kb); have hb4 : Hid (Below w.heap.size w w4) := hb3.out.trans (kb.mono hb3.out.size); replace hQ4 := Lib.hid hQ4; clear kk kb hX3 hY3 hP3 hb3)
    | ((with_reducible change wpList _ _ _ ({ dst := some 46, op := _, type := _, pos := _, after := _, guard := _ } :: _) _ _); (with_reducible refine Veil.out ?_); refine wpList_rowW (o := ⟨some 46, _, _, _, _, _⟩) rfl 23 (.tmp 15) rfl (w1.heap.size) rfl 23 ((cells8 r1).toArray) (0, 0) _ hP4.out Tryd.underlying23 rfl F1.out.size ?_)
    | ((with_reducible change wpList _ _ _ ({ dst := some 47, op := _, type := _, pos := _, after := _, guard := _ } :: _) _ _); (with_reducible refine Veil.out ?_); refine wpList_rowW (o := ⟨some 47, _, _, _, _, _⟩) rfl 23 (.tmp 17) rfl (w3.heap.size) rfl 23 ((cells8 r2).toArray) (0, 0) _ hQ4.out Tryd.underlying23 rfl F2.out.size ?_)
    | ((with_reducible change wpList _ _ _ ({ dst := some 51, op := _, type := _, pos := _, after := _, guard := _ } :: _) _ _); (with_reducible refine Veil.out ?_); refine wpList_rowW (o := ⟨some 51, _, _, _, _, _⟩) rfl 23 (.tmp 10) rfl (w.heap.size) rfl 23 ((cells8 x).toArray) (0, 0) _ hX4.out Tryd.underlying23 rfl Fx.out.size ?_)
    | ((with_reducible change wpList _ _ _ ({ dst := some 52, op := _, type := _, pos := _, after := _, guard := _ } :: _) _ _); (with_reducible refine Veil.out ?_); refine wpList_rowW (o := ⟨some 52, _, _, _, _, _⟩) rfl 23 (.tmp 11) rfl (w.heap.size + 1) rfl 23 ((cells8 y).toArray) (0, 0) _ hY4.out Tryd.underlying23 rfl Fy.out.size ?_)
    | (go_at_call 21; refine (hSm.out _ hb4.out).mono ?_; rintro e w5 ⟨rfl, kk⟩; clear hSm; have hX5 := Lib.hid (hX4.out.onW kk); have hY5 := Lib.hid (hY4.out.onW kk); have hb5 : Hid (Below w.heap.size w w5) := hb4.out.trans (kk.mono hb4.out.size); clear kk hX4 hY4 hP4 hQ4)
    | ((with_reducible change wpList _ _ _ ({ dst := some 64, op := _, type := _, pos := _, after := _, guard := _ } :: _) _ _); refine wpList_load_row (o := ⟨some 64, _, _, _, _, _⟩) rfl 23 (.tmp 10) rfl (w.heap.size) rfl 23 ((cells8 x).toArray) (0, 0) _ hX5.out Tryd.underlying23 rfl Fx.out.size ?_)
    | (go_at_call 22; refine (hC1.out _ hb5.out).mono ?_; rintro e w6 ⟨v1, xs1, rr1, gc1, rfl, hO1, hT1, kk, ha1⟩; clear hC1; have hY6 := Lib.hid (hY5.out.onW kk); have hb6 : Hid (Below w.heap.size w w6) := hb5.out.trans (kk.mono hb5.out.size); rw [pl1] at hO1; obtain ⟨A1, c1, rfl, hc1, -⟩ := Go.Proofs.YtpgenpogjhpeoaaDoor.Append.Own.reads hO1; have hO6 := Lib.hid (own_up hO1 (fun k e => Nat.le_trans hb5.out.size (ha1 k e))); have hT6 := Lib.hid (Txs.tx hT1 pt1); clear hO1 hT1 ha1 kk)
    | ((with_reducible change wpList _ _ _ ({ dst := some 73, op := _, type := _, pos := _, after := _, guard := _ } :: _) _ _); refine wpList_load_row (o := ⟨some 73, _, _, _, _, _⟩) rfl 23 (.tmp 11) rfl (w.heap.size + 1) rfl 23 ((cells8 y).toArray) (0, 0) _ hY6.out Tryd.underlying23 rfl Fy.out.size ?_)
    | (go_at_call 22; refine (hC2.out _ hb6.out).mono ?_; rintro e w7 ⟨v2, xs2, rr2, gc2, rfl, hO2, hT2, kk, ha2⟩; clear hC2; have hb7 : Hid (Below w.heap.size w w7) := hb6.out.trans (kk.mono hb6.out.size); rw [pl2] at hO2; obtain ⟨A2, c2, rfl, hc2, -, hnil2, hrd2, -⟩ := Go.Proofs.YtpgenpogjhpeoaaDoor.Append.Own.reads hO2; have hO7 := Lib.hid (Go.Proofs.YtpgenpogjhpeoaaDoor.Own.own_below hO6.out kk); have hT7 := Lib.hid (hT6.out.below kk); have hU7 := Lib.hid (Txs.tx hT2 pt2); have hV7 := Lib.hid hO2; clear hO2 hT2 ha2 kk hnil2 hrd2)
    | (go_at_call 23; refine (met_twice s p1 p2 n m pl1 pl2 n40 m40 A1 A2 c1 c2 w7 (hBB.out _ hb7.out) xs1 xs2 _ _ hO7.out hV7.out hT7.out hU7.out pt1 pt2 hM).mono ?_; rintro e w8 ⟨rfl, kk⟩; have hb8 : Hid (Below w.heap.size w w8) := hb7.out.trans (kk.mono hb7.out.size); have hO8 := Lib.hid (Go.Proofs.YtpgenpogjhpeoaaDoor.Own.own_below hO7.out kk); have hV8 := Lib.hid (Go.Proofs.YtpgenpogjhpeoaaDoor.Own.own_below hV7.out kk); have hT8 := Lib.hid (hT7.out.below kk); have hU8 := Lib.hid (hU7.out.below kk); obtain ⟨A3, c3, e3, -, -, hnil3, hrd3, -⟩ := Go.Proofs.YtpgenpogjhpeoaaDoor.Append.Own.reads hV8.out; injection e3 with e31 e32 e33; subst e31 e33; replace hrd3 := Lib.hid hrd3; replace hnil3 := Lib.hid hnil3; have hone := Lib.hid (own_one hV8.out hU8.out pl2); clear kk e32)
    | ((with_reducible change wpList _ _ _ ({ dst := some 108, op := _, type := _, pos := _, after := _, guard := _ } :: _) _ _); refine wpList_append_src _ (o := ⟨some 108, _, _, _, _, _⟩) rfl (.tmp 106) (.tmp 107) 24 rfl w.heap.size 27 i0 (.slice none 0 0) 1 24 Tryd.underlying24 ii iz0 iz1 iz2 rfl (by decide) (.slice A1 n c1) n xs1 rfl hO8.out A2 m c2 xs2 rfl hrd3.out hnil3.out hone.out (by unfold maxLen; omega) (by omega) hb8.out.size ?_; intro v9 w9 hG; obtain ⟨A9, c9, rfl, hP9, hb9⟩ := cat_twice hG pl1 pl2 hO8.out hT8.out hU8.out (by omega) hb8.out; clear hG)
    | (go_at_call 24; refine (among_any s (p1 ++ p2) (n + m) (by rw [List.length_append, pl1, pl2]) (by omega) A9 c9 w9 (hBB.out _ hb9.out) hP9.out (fun q hq => by rcases List.mem_append.1 hq with h | h; rw [pt1 q h]; decide; rw [pt2 q h]; decide) hM.met).mono ?_; rintro e w10 ⟨rfl, kk⟩; replace hb9 := Lib.hid (hb9.out.trans (kk.mono hb9.out.size)); clear kk))
  go_ret
  exact ⟨rfl, hb9.out⟩

set_option maxRecDepth 100000 in
set_option maxHeartbeats 4000000 in
theorem tw_leaf (s size i : Int) (x y : Text) (hx : x.length = 32) (hy : y.length = 32) (n m : Nat) (A B : Option Addr) (c d : Nat) (w : World) (r1 r2 : Text) (k1 k2 : Int) (hl1 : r1.length = 32) (hl2 : r2.length = 32)
    (hI1 : Hid (∀ w', Below w.heap.size w w' → Calls Tryd.prog 20 #[.int .i64 s, .int .i64 size, .int .i64 i, .agg (cells8 x).toArray, .slice A n c] w' fun e w'' => e = .returned (.tuple #[.agg (cells8 r1).toArray, .int .i64 k1]) ∧ Below w'.heap.size w' w''))
    (hI2 : Hid (∀ w', Below w.heap.size w w' → Calls Tryd.prog 20 #[.int .i64 s, .int .i64 size, .int .i64 i, .agg (cells8 y).toArray, .slice B m d] w' fun e w'' => e = .returned (.tuple #[.agg (cells8 r2).toArray, .int .i64 k2]) ∧ Below w'.heap.size w' w'')) (z1 : k1 = 0) (z2 : k2 = 0) (hr : r1 = r2) (hxy : ¬ x = y)
    (p1 p2 : List Text) (hC1 : Hid (∀ w', Below w.heap.size w w' → Calls Tryd.prog 22 #[.int .i64 s, .int .i64 size, .int .i64 i, .agg (cells8 x).toArray, .slice A n c] w' fun e w'' => ∃ v xs r gc, e = .returned (.tuple #[v, .int .i64 k1]) ∧ w''.ownsRow 0 27 1 v p1.length xs ∧ Txs (fun _ => False) w'' gc r xs p1 ∧ Below w'.heap.size w' w'' ∧ ∀ k, v.ownBlock = some k → w'.heap.size ≤ k))
    (hC2 : Hid (∀ w', Below w.heap.size w w' → Calls Tryd.prog 22 #[.int .i64 s, .int .i64 size, .int .i64 i, .agg (cells8 y).toArray, .slice B m d] w' fun e w'' => ∃ v xs r gc, e = .returned (.tuple #[v, .int .i64 k2]) ∧ w''.ownsRow 0 27 1 v p2.length xs ∧ Txs (fun _ => False) w'' gc r xs p2 ∧ Below w'.heap.size w' w'' ∧ ∀ k, v.ownBlock = some k → w'.heap.size ≤ k))
    (pl1 : p1.length = n) (pl2 : p2.length = m) (pt1 : ∀ q ∈ p1, q.length = 65) (pt2 : ∀ q ∈ p2, q.length = 65) (n40 : n ≤ 40) (m40 : m ≤ 40) (hBB : Hid (∀ w', Below w.heap.size w w' → Base w')) (hnm : 0 < m → 0 < n) (hM : MetAt s p1 p2) :
    Calls Tryd.prog 4 #[.int .i64 s, .int .i64 size, .int .i64 i, .agg (cells8 x).toArray, .agg (cells8 y).toArray, .slice A n c, .slice B m d] w fun e w' => e = .returned (.bool true) ∧ Below w.heap.size w w' := by
  have hb : Hid (Below w.heap.size w ((w.alloc (.cells (cells8 x).toArray 23)).alloc (.cells (cells8 y).toArray 23))) := (Below.heap_below w _).alloc (by simp) _
  have hX : Hid (Blk ((w.alloc (.cells (cells8 x).toArray 23)).alloc (.cells (cells8 y).toArray 23)) w.heap.size 23 (cells8 x).toArray) := (Blk.new w _ _).alloc _
  have hY : Hid (Blk ((w.alloc (.cells (cells8 x).toArray 23)).alloc (.cells (cells8 y).toArray 23)) (w.heap.size + 1) 23 (cells8 y).toArray) := by
    have := Blk.new (w.alloc (.cells (cells8 x).toArray 23)) 23 (cells8 y).toArray
    rwa [show (w.alloc (.cells (cells8 x).toArray 23)).heap.size = w.heap.size + 1 by simp] at this
  have Fx := Lib.hid (fit (x := x) hx)
  have Fy := Lib.hid (fit (x := y) hy)
  have F1 := Lib.hid (fit (x := r1) hl1)
  have F2 := Lib.hid (fit (x := r2) hl2)
  subst z1 z2
  have hq1 := neq_dig r1 r2 hl1 hl2
  have hq2 := eql_dig x y hx hy
  rw [decide_eq_true hr] at hq1
  rw [decide_eq_false hxy] at hq2
  simp only [Bool.not_true] at hq1
  obtain ⟨i0, ii, iz0, iz1, iz2⟩ := info_partsN infoT
  clear hr hxy hx hy hl1 hl2
  go_enter Tryd.func4, Tryd.ntmps4
  go_wp2_with (first
    | ((with_reducible change wpList _ _ _ ({ dst := some 25, op := _, type := _, pos := _, after := _, guard := _ } :: _) _ _); refine wpList_load_row (o := ⟨some 25, _, _, _, _, _⟩) rfl 23 (.tmp 10) rfl (w.heap.size) rfl 23 ((cells8 x).toArray) (0, 0) _ hX.out Tryd.underlying23 rfl Fx.out.size ?_)
    | (go_at_call 20; refine (hI1.out _ hb.out).mono ?_; rintro e w1 ⟨rfl, kk⟩; clear hI1; have hX1 := Lib.hid (hX.out.onW kk); have hY1 := Lib.hid (hY.out.onW kk); have hb1 : Hid (Below w.heap.size w w1) := hb.out.trans (kk.mono hb.out.size); clear kk hX hY hb)
    | ((with_reducible change wpList _ _ _ ({ dst := none, op := Op.store 23 (.tmp 15) _, type := _, pos := _, after := _, guard := _ } :: _) _ _); refine wpList_store_whole (o := ⟨none, _, _, _, _, _⟩) rfl 23 (.tmp 15) (.tmp 28) rfl (w1.heap.size) ((cells8 r1).toArray) rfl rfl 23 (Z32) (Blk.new w1 _ _) F1.out.size F1.out.zero F1.out.one ?_; intro w2 hP2 kk; have kb := kept_fresh kk; have hX2 := Lib.hid (hX1.out.onW kb); have hY2 := Lib.hid (hY1.out.onW kb); have hb2 : Hid (Below w.heap.size w w2) := hb1.out.trans (kb.mono hb1.out.size); replace hP2 := Lib.hid hP2; clear kk kb hX1 hY1 hb1)
    | ((with_reducible change wpList _ _ _ ({ dst := some 34, op := _, type := _, pos := _, after := _, guard := _ } :: _) _ _); refine wpList_load_row (o := ⟨some 34, _, _, _, _, _⟩) rfl 23 (.tmp 11) rfl (w.heap.size + 1) rfl 23 ((cells8 y).toArray) (0, 0) _ hY2.out Tryd.underlying23 rfl Fy.out.size ?_)
    | (go_at_call 20; refine (hI2.out _ hb2.out).mono ?_; rintro e w3 ⟨rfl, kk⟩; clear hI2; have hX3 := Lib.hid (hX2.out.onW kk); have hY3 := Lib.hid (hY2.out.onW kk); have hP3 := Lib.hid (hP2.out.onW kk); have hb3 : Hid (Below w.heap.size w w3) := hb2.out.trans (kk.mono hb2.out.size); clear kk hX2 hY2 hP2 hb2)
    | ((with_reducible change wpList _ _ _ ({ dst := none, op := Op.store 23 (.tmp 17) _, type := _, pos := _, after := _, guard := _ } :: _) _ _); refine wpList_store_whole (o := ⟨none, _, _, _, _, _⟩) rfl 23 (.tmp 17) (.tmp 37) rfl (w3.heap.size) ((cells8 r2).toArray) rfl rfl 23 (Z32) (Blk.new w3 _ _) F2.out.size F2.out.zero F2.out.one ?_; intro w4 hQ4 kk; have kb := kept_fresh kk; have hX4 := Lib.hid (hX3.out.onW kb); have hY4 := Lib.hid (hY3.out.onW kb); have hP4 := Lib.hid (hP3.out.onW kb); have hb4 : Hid (Below w.heap.size w w4) := hb3.out.trans (kb.mono hb3.out.size); replace hQ4 := Lib.hid hQ4; clear kk kb hX3 hY3 hP3 hb3)
    | ((with_reducible change wpList _ _ _ ({ dst := some 46, op := _, type := _, pos := _, after := _, guard := _ } :: _) _ _); (with_reducible refine Veil.out ?_); refine wpList_rowW (o := ⟨some 46, _, _, _, _, _⟩) rfl 23 (.tmp 15) rfl (w1.heap.size) rfl 23 ((cells8 r1).toArray) (0, 0) _ hP4.out Tryd.underlying23 rfl F1.out.size ?_)
    | ((with_reducible change wpList _ _ _ ({ dst := some 47, op := _, type := _, pos := _, after := _, guard := _ } :: _) _ _); (with_reducible refine Veil.out ?_); refine wpList_rowW (o := ⟨some 47, _, _, _, _, _⟩) rfl 23 (.tmp 17) rfl (w3.heap.size) rfl 23 ((cells8 r2).toArray) (0, 0) _ hQ4.out Tryd.underlying23 rfl F2.out.size ?_)
    | ((with_reducible change wpList _ _ _ ({ dst := some 51, op := _, type := _, pos := _, after := _, guard := _ } :: _) _ _); (with_reducible refine Veil.out ?_); refine wpList_rowW (o := ⟨some 51, _, _, _, _, _⟩) rfl 23 (.tmp 10) rfl (w.heap.size) rfl 23 ((cells8 x).toArray) (0, 0) _ hX4.out Tryd.underlying23 rfl Fx.out.size ?_)
    | ((with_reducible change wpList _ _ _ ({ dst := some 52, op := _, type := _, pos := _, after := _, guard := _ } :: _) _ _); (with_reducible refine Veil.out ?_); refine wpList_rowW (o := ⟨some 52, _, _, _, _, _⟩) rfl 23 (.tmp 11) rfl (w.heap.size + 1) rfl 23 ((cells8 y).toArray) (0, 0) _ hY4.out Tryd.underlying23 rfl Fy.out.size ?_)
    | ((with_reducible change wpList _ _ _ ({ dst := some 64, op := _, type := _, pos := _, after := _, guard := _ } :: _) _ _); refine wpList_load_row (o := ⟨some 64, _, _, _, _, _⟩) rfl 23 (.tmp 10) rfl (w.heap.size) rfl 23 ((cells8 x).toArray) (0, 0) _ hX4.out Tryd.underlying23 rfl Fx.out.size ?_)
    | (go_at_call 22; refine (hC1.out _ hb4.out).mono ?_; rintro e w6 ⟨v1, xs1, rr1, gc1, rfl, hO1, hT1, kk, ha1⟩; clear hC1; have hY6 := Lib.hid (hY4.out.onW kk); have hb6 : Hid (Below w.heap.size w w6) := hb4.out.trans (kk.mono hb4.out.size); rw [pl1] at hO1; obtain ⟨A1, c1, rfl, hc1, -⟩ := Go.Proofs.YtpgenpogjhpeoaaDoor.Append.Own.reads hO1; have hO6 := Lib.hid (own_up hO1 (fun k e => Nat.le_trans hb4.out.size (ha1 k e))); have hT6 := Lib.hid (Txs.tx hT1 pt1); clear hO1 hT1 ha1 kk)
    | ((with_reducible change wpList _ _ _ ({ dst := some 73, op := _, type := _, pos := _, after := _, guard := _ } :: _) _ _); refine wpList_load_row (o := ⟨some 73, _, _, _, _, _⟩) rfl 23 (.tmp 11) rfl (w.heap.size + 1) rfl 23 ((cells8 y).toArray) (0, 0) _ hY6.out Tryd.underlying23 rfl Fy.out.size ?_)
    | (go_at_call 22; refine (hC2.out _ hb6.out).mono ?_; rintro e w7 ⟨v2, xs2, rr2, gc2, rfl, hO2, hT2, kk, ha2⟩; clear hC2; have hb7 : Hid (Below w.heap.size w w7) := hb6.out.trans (kk.mono hb6.out.size); rw [pl2] at hO2; obtain ⟨A2, c2, rfl, hc2, -, hnil2, hrd2, -⟩ := Go.Proofs.YtpgenpogjhpeoaaDoor.Append.Own.reads hO2; have hO7 := Lib.hid (Go.Proofs.YtpgenpogjhpeoaaDoor.Own.own_below hO6.out kk); have hT7 := Lib.hid (hT6.out.below kk); have hU7 := Lib.hid (Txs.tx hT2 pt2); have hV7 := Lib.hid hO2; clear hO2 hT2 ha2 kk hnil2 hrd2)
    | (go_at_call 23; refine (met_twice s p1 p2 n m pl1 pl2 n40 m40 A1 A2 c1 c2 w7 (hBB.out _ hb7.out) xs1 xs2 _ _ hO7.out hV7.out hT7.out hU7.out pt1 pt2 hM).mono ?_; rintro e w8 ⟨rfl, kk⟩; have hb8 : Hid (Below w.heap.size w w8) := hb7.out.trans (kk.mono hb7.out.size); have hO8 := Lib.hid (Go.Proofs.YtpgenpogjhpeoaaDoor.Own.own_below hO7.out kk); have hV8 := Lib.hid (Go.Proofs.YtpgenpogjhpeoaaDoor.Own.own_below hV7.out kk); have hT8 := Lib.hid (hT7.out.below kk); have hU8 := Lib.hid (hU7.out.below kk); obtain ⟨A3, c3, e3, -, -, hnil3, hrd3, -⟩ := Go.Proofs.YtpgenpogjhpeoaaDoor.Append.Own.reads hV8.out; injection e3 with e31 e32 e33; subst e31 e33; replace hrd3 := Lib.hid hrd3; replace hnil3 := Lib.hid hnil3; have hone := Lib.hid (own_one hV8.out hU8.out pl2); clear kk e32)
    | ((with_reducible change wpList _ _ _ ({ dst := some 108, op := _, type := _, pos := _, after := _, guard := _ } :: _) _ _); refine wpList_append_src _ (o := ⟨some 108, _, _, _, _, _⟩) rfl (.tmp 106) (.tmp 107) 24 rfl w.heap.size 27 i0 (.slice none 0 0) 1 24 Tryd.underlying24 ii iz0 iz1 iz2 rfl (by decide) (.slice A1 n c1) n xs1 rfl hO8.out A2 m c2 xs2 rfl hrd3.out hnil3.out hone.out (by unfold maxLen; omega) (by omega) hb8.out.size ?_; intro v9 w9 hG; obtain ⟨A9, c9, rfl, hP9, hb9⟩ := cat_twice hG pl1 pl2 hO8.out hT8.out hU8.out (by omega) hb8.out; clear hG)
    | (go_at_call 24; refine (among_any s (p1 ++ p2) (n + m) (by rw [List.length_append, pl1, pl2]) (by omega) A9 c9 w9 (hBB.out _ hb9.out) hP9.out (fun q hq => by rcases List.mem_append.1 hq with h | h; rw [pt1 q h]; decide; rw [pt2 q h]; decide) hM.met).mono ?_; rintro e w10 ⟨rfl, kk⟩; replace hb9 := Lib.hid (hb9.out.trans (kk.mono hb9.out.size)); clear kk))
  go_ret
  exact ⟨rfl, hb9.out⟩

theorem treeTwice_any (s size i : Int) (x y : Text) (hx : x.length = 32) (hy : y.length = 32) (ds es : List Text) (n m : Nat) (A B : Option Addr) (c d : Nat) (hn : n < 140737488355328) (hm : m < 140737488355328) (w : World) (hBs : Base w) (hrd : RdD w A n ds) (hre : RdD w B m es) :
    Calls Tryd.prog 4 #[.int .i64 s, .int .i64 size, .int .i64 i, .agg (cells8 x).toArray, .agg (cells8 y).toArray, .slice A n c, .slice B m d] w fun e w' => e = .returned (.bool true) ∧ Below w.heap.size w w' := by
  have hI1 := Lib.hid (fun w' (hb : Below w.heap.size w w') => include_any s size i x hx ds A n c (by omega) w' (hBs.below hb hBs.1) (hrd.below hb))
  have hI2 := Lib.hid (fun w' (hb : Below w.heap.size w w') => include_any s size i y hy es B m d (by omega) w' (hBs.below hb hBs.1) (hre.below hb))
  have hC1 := Lib.hid (fun w' (hb : Below w.heap.size w w') => climb_own s size i x hx ds A n c (by omega) w' (hBs.below hb hBs.1) (hrd.below hb))
  have hC2 := Lib.hid (fun w' (hb : Below w.heap.size w w') => climb_own s size i y hy es B m d (by omega) w' (hBs.below hb hBs.1) (hre.below hb))
  have hSm := Lib.hid (fun w' (hb : Below w.heap.size w w') => sameD_any n m hn ds es A B c d w' (hrd.below hb) (hre.below hb))
  have hl1 := inclOf_len s size i x [] ds hx
  have hl2 := inclOf_len s size i y [] es hy
  have hBB := Lib.hid (fun w' (hb : Below w.heap.size w w') => hBs.below hb hBs.1)
  by_cases z1 : (inclOf s size i x [] ds).2.1 = 0
  · by_cases z2 : (inclOf s size i y [] es).2.1 = 0
    · by_cases hr : (inclOf s size i x [] ds).1 = (inclOf s size i y [] es).1
      · obtain ⟨n40, na, -, pl1, pt1⟩ := incl_taken hx hrd.2.1 z1
        obtain ⟨m40, ma, -, pl2, pt2⟩ := incl_taken hy hre.2.1 z2
        rw [hrd.1] at n40 na pl1
        rw [hre.1] at m40 ma pl2
        by_cases hxy : x = y
        · by_cases hde : ds = es
          · rw [decide_eq_true hde] at hSm
            exact tw_same s size i x y hx hy n m A B c d w _ _ _ _ hl1 hl2 hI1 hI2 z1 z2 hr hxy hSm
          · rw [decide_eq_false hde] at hSm
            exact tw_ways s size i x y hx hy n m A B c d w _ _ _ _ hl1 hl2 hI1 hI2 z1 z2 hr hxy hSm _ _ hC1 hC2 pl1 pl2 pt1 pt2 n40 m40 hBB (by omega) (incl_meet hx hy hrd.2.1 hre.2.1 z1 z2 hr (fun h => hde h.2))
        · exact tw_leaf s size i x y hx hy n m A B c d w _ _ _ _ hl1 hl2 hI1 hI2 z1 z2 hr hxy _ _ hC1 hC2 pl1 pl2 pt1 pt2 n40 m40 hBB (by omega) (incl_meet hx hy hrd.2.1 hre.2.1 z1 z2 hr (fun h => hxy h.1))
      · exact tw_ne s size i x y hx hy n m A B c d w _ _ _ _ hl1 hl2 hI1 hI2 z1 z2 hr
    · exact tw_e2 s size i x y hx hy n m A B c d w _ _ _ _ hl1 hl2 hI1 hI2 z1 z2
  · exact tw_e1 s size i x y hx hy n m A B c d w _ _ _ _ hl1 hl2 hI1 hI2 z1
end Go.Proofs.YtpgenpogjhpeoaaDoor.TreeTwice
