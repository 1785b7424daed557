/-
  Texts of the claim, put into one file: TreeThird.
-/
import Derived.Test.YtpgenpogjhpeoaaDoorZ31
import Derived.Test.YtpgenpogjhpeoaaDoorZ28
import Derived.Test.YtpgenpogjhpeoaaDoorZ27
import Derived.Test.YtpgenpogjhpeoaaDoorZ30
import Derived.Test.YtpgenpogjhpeoaaDoorZ24
import Derived.Test.YtpgenpogjhpeoaaDoorZ22

namespace Go.Proofs.YtpgenpogjhpeoaaDoor.TreeThird
open Go Go.RowKit Go.Proofs.YtpgenpogjhpeoaaDoor Go.Proofs.YtpgenpogjhpeoaaDoor.Digest Go.Proofs.YtpgenpogjhpeoaaDoor.Mem Go.Proofs.YtpgenpogjhpeoaaDoor.Sha Go.Proofs.YtpgenpogjhpeoaaDoor.ShaWalk Go.Proofs.YtpgenpogjhpeoaaDoor.Bytes Go.Proofs.YtpgenpogjhpeoaaDoor.Append Go.Proofs.YtpgenpogjhpeoaaDoor.HashMem Go.Proofs.YtpgenpogjhpeoaaDoor.DigestMem Go.Proofs.YtpgenpogjhpeoaaDoor.DigestTop Go.Proofs.YtpgenpogjhpeoaaDoor.QuietTail Go.Proofs.YtpgenpogjhpeoaaDoor.Grown Go.Proofs.YtpgenpogjhpeoaaDoor.Chain Go.Proofs.YtpgenpogjhpeoaaDoor.TreeMath Go.Proofs.YtpgenpogjhpeoaaDoor.TreeMem Go.Proofs.YtpgenpogjhpeoaaDoor.TreeRoot Go.Proofs.YtpgenpogjhpeoaaDoor.Held Go.Proofs.YtpgenpogjhpeoaaDoor.Guard Go.Proofs.YtpgenpogjhpeoaaDoor.Book Go.Proofs.YtpgenpogjhpeoaaDoor.Node Go.Proofs.YtpgenpogjhpeoaaDoor.NodeW Go.Proofs.YtpgenpogjhpeoaaDoor.WayP Go.Proofs.YtpgenpogjhpeoaaDoor.RevP Go.Proofs.YtpgenpogjhpeoaaDoor.TreeRefRoot Go.Proofs.YtpgenpogjhpeoaaDoor.Climb Go.Proofs.YtpgenpogjhpeoaaDoor.Incl Go.Proofs.YtpgenpogjhpeoaaDoor.Subs Go.Proofs.YtpgenpogjhpeoaaDoor.RowsP Go.Proofs.YtpgenpogjhpeoaaDoor.Joint Go.Proofs.YtpgenpogjhpeoaaDoor.RefIncl0 Go.Proofs.YtpgenpogjhpeoaaDoor.AheadM Go.Proofs.YtpgenpogjhpeoaaDoor.AheadT Go.Proofs.YtpgenpogjhpeoaaDoor.RefTop Go.Proofs.YtpgenpogjhpeoaaDoor.Sides Go.Proofs.YtpgenpogjhpeoaaDoor.InclAny Go.Proofs.YtpgenpogjhpeoaaDoor.Include Go.Proofs.YtpgenpogjhpeoaaDoor.Climbs Go.Proofs.YtpgenpogjhpeoaaDoor.Climb0 Go.Proofs.YtpgenpogjhpeoaaDoor.Ahead Go.Proofs.YtpgenpogjhpeoaaDoor.AheadX Go.Proofs.YtpgenpogjhpeoaaDoor.Agree Go.Proofs.YtpgenpogjhpeoaaDoor.Book2 Go.Proofs.YtpgenpogjhpeoaaDoor.DigEq Go.Proofs.YtpgenpogjhpeoaaDoor.RowsT Go.Proofs.YtpgenpogjhpeoaaDoor.Guard2 Go.Proofs.YtpgenpogjhpeoaaDoor.Want Go.Proofs.YtpgenpogjhpeoaaDoor.TwiceP Go.Proofs.YtpgenpogjhpeoaaDoor.ThirdP Go.Proofs.YtpgenpogjhpeoaaDoor.ClashM Go.Proofs.YtpgenpogjhpeoaaDoor.Clash Go.Proofs.YtpgenpogjhpeoaaDoor.MetW Go.Proofs.YtpgenpogjhpeoaaDoor.TreeTwice Go.Proofs.YtpgenpogjhpeoaaDoor.TreeJoins

theorem _root_.Go.Proofs.YtpgenpogjhpeoaaDoor.Mem.Blk.onT {w w' : World} {g : Nat} {t : TypeId} {cs : Array Value} (h : Blk w g t cs) (hb : Below w.heap.size w w') : Blk w' g t cs := (hb.block g h.lt).trans h
theorem new_rd (w : World) (ds : List Text) (hd : Digs ds) (n : Nat) (hn : ds.length = n) : RdD (w.alloc (.cells (ds.flatMap cells8).toArray 23)) (some ⟨w.heap.size, 0, none⟩) n ds :=
  ⟨hn, hd, Blk.reads (Blk.new w 23 (ds.flatMap cells8).toArray) 0 _ (by rw [flatMap_len _ hd, hn]) (fun j u hu => by rw [Nat.zero_add, List.getElem?_toArray]; exact hu)⟩
theorem wp_buildD {o : Oper} {a : Act} {w : World} {K : Act → World → Prop} {Q : Exit → Act → World → Prop} (n : Nat) (parts : Array (Nat × Operand)) (ho : o.op = .buildSlice 29 n parts) (ds : List Text) (hd : Digs ds) (hn : ds.length = n) (hpos : 0 < n) (hsm : n ≤ 1000)
    (hparts : (parts.toList.map fun (i, x) => (i, a.eval x)) = (((ds.map cells8).map fun v => Value.agg v.toArray).zipIdx 0).map fun x => (x.2, x.1))
    (h : ∀ w' g, RdD w' (some ⟨g, 0, none⟩) n ds → Below w.heap.size w w' → K (a.put o.dst (.slice (some ⟨g, 0, none⟩) n n)) w') : o.wp Tryd.prog a w K Q :=
  wp_buildAggs 29 23 n parts ho 32 (by decide) (ds.map cells8) Tryd.underlying29 size31 zero31 (by rw [List.length_map, hn]) hpos (by omega) (fun v hv => by
    obtain ⟨d, hd2, rfl⟩ := List.mem_map.1 hv
    rw [cells8_len, hd d hd2]) hparts (by
    have e : (ds.map cells8).flatten = ds.flatMap cells8 := by rw [List.flatMap_def]
    rw [e]
    exact h _ _ (new_rd w ds hd n hn) (Below.heap_below w _))
theorem wpList_buildD {ops : Array Oper} {rest : List Oper} {o : Oper} {a : Act} {w : World} {Q : Exit → Act → World → Prop} (hgd : o.guard = none) (n : Nat) (parts : Array (Nat × Operand)) (ho : o.op = .buildSlice 29 n parts) (ds : List Text) (hd : Digs ds) (hn : ds.length = n) (hpos : 0 < n) (hsm : n ≤ 1000)
    (hparts : (parts.toList.map fun (i, x) => (i, a.eval x)) = (((ds.map cells8).map fun v => Value.agg v.toArray).zipIdx 0).map fun x => (x.2, x.1))
    (h : ∀ w' g, RdD w' (some ⟨g, 0, none⟩) n ds → Below w.heap.size w w' → wpList Tryd.prog ops Q rest (a.put o.dst (.slice (some ⟨g, 0, none⟩) n n)) w') : wpList Tryd.prog ops Q (o :: rest) a w :=
  wpList_plain hgd fun _ hK => wp_buildD n parts ho ds hd hn hpos hsm hparts fun w' g h1 h2 => hK _ _ (h w' g h1 h2)
theorem incl_two (s : Int) (x y : Text) : (inclOf s 2 0 x [] [y]).1 = ndOf s x y ∧ (inclOf s 2 0 x [] [y]).2.1 = 0 := ⟨rfl, rfl⟩
theorem root_two_ (s : Int) (x y : Text) : rootOf s [x, y] = ndOf s x y := by
  unfold rootOf
  rw [root_two (nd := ndOf s) (e := noneOf s) [x, y] (by simp)]
  rfl
theorem cat2 {w0 w w' : World} {n m : Nat} {v v' : Value} {xs1 xs2 : List Value} {p1 p2 : List Text} (hG : Grew w w0.heap.size 27 1 v n m xs1 xs2 v' w') (l1 : p1.length = n) (l2 : p2.length = m) (hO : w.ownsRow w0.heap.size 27 1 v n xs1) (hT : Tx w xs1 p1) (hU : Tx w xs2 p2) (h0 : n = 0 → v.ownBlock = none) (hb : Below w0.heap.size w0 w) :
    ∃ A c, v' = .slice A (n + m) c ∧ Hid (w'.ownsRow w0.heap.size 27 1 (.slice A (n + m) c) (n + m) (xs1 ++ xs2)) ∧ Hid (Tx w' (xs1 ++ xs2) (p1 ++ p2)) ∧ Hid (Below w0.heap.size w0 w') := by
  obtain ⟨h1, h2⟩ := tx_cat2 l1 l2 hO hT hU h0 hG
  obtain ⟨A, c, e, -⟩ := Go.Proofs.YtpgenpogjhpeoaaDoor.Append.Own.reads h2
  subst e
  refine ⟨A, c, rfl, h2, h1, hG.below hb hb.size (fun k hk => ?_)⟩
  obtain ⟨A2, c2, e2, -, -, -, -, h3⟩ := Go.Proofs.YtpgenpogjhpeoaaDoor.Append.Own.reads hO
  subst e2
  cases A2 with
  | none => cases hk
  | some a => injection hk with hk; subst hk; exact (h3 a rfl).1
theorem pieces_of {w : World} {B n : Nat} {A : Option Addr} {c : Nat} {xs : List Value} {ts : List Text} (hO : w.ownsRow B 27 1 (.slice A n c) n xs) (hT : Tx w xs ts) (hn : ts.length = n) : Pieces w A ts := by
  subst hn
  obtain ⟨A2, c2, e, -, -, hP⟩ := Tx.pieces hO hT
  injection e with e1 e2 e3
  subst e1
  exact hP

theorem _root_.Go.Proofs.YtpgenpogjhpeoaaDoor.Mem.Blk.grownO {w w' : World} {g B n m : Nat} {cs : Array Value} {v v' : Value} {xs ys : List Value} (h : Blk w g 23 cs) (hO : w.ownsRow B 27 1 v n xs) (hG : Grew w B 27 1 v n m xs ys v' w') : Blk w' g 23 cs := by
  refine (hG.grow.block g (Blk.lt h) (fun e => ?_)).trans h
  rcases hO.2 with ⟨rfl, -⟩ | ⟨g2, cap, cur, rfl, -, h3, -⟩
  · cases e
  · injection e with e
    subst e
    have h5 := (show w.heap[g]? = _ from h).symm.trans h3
    injection h5 with h5
    injection h5 with _ h6
    exact absurd h6 (by decide)

set_option maxRecDepth 100000 in
set_option maxHeartbeats 8000000 in
theorem tt_old (s old size i : Int) (r0 r1 x y : Text) (h0 : r0.length = 32) (h1 : r1.length = 32) (hx : x.length = 32) (hy : y.length = 32) (n m k : Nat) (A B C : Option Addr) (c d f : Nat) (w : World) (nd a1 a2 : Text) (hnl : nd.length = 32) (hl1 : a1.length = 32) (hl2 : a2.length = 32) (k0 k1 k2 : Int)
    (hI0 : Hid (∀ w' g, Below w.heap.size w w' → RdD w' (some ⟨g, 0, none⟩) 1 [y] → Calls Tryd.prog 20 #[.int .i64 s, .int .i64 2, .int .i64 0, .agg (cells8 x).toArray, .slice (some ⟨g, 0, none⟩) 1 1] w' fun e w'' => e = .returned (.tuple #[.agg (cells8 nd).toArray, .int .i64 0]) ∧ Below w'.heap.size w' w''))
    (hNd : Hid (∀ w', Calls Tryd.prog 51 #[.int .i64 s, .agg (cells8 x).toArray, .agg (cells8 y).toArray] w' fun e w'' => e = .returned (.agg (cells8 nd).toArray) ∧ Below w'.heap.size w' w''))
    (hRt : Hid (∀ w' g, Below w.heap.size w w' → RdD w' (some ⟨g, 0, none⟩) 2 [x, y] → Calls Tryd.prog 52 #[.int .i64 s, .slice (some ⟨g, 0, none⟩) 2 2] w' fun e w'' => e = .returned (.agg (cells8 nd).toArray) ∧ Below w'.heap.size w' w''))
    (hAg : Hid (∀ w', Below w.heap.size w w' → Calls Tryd.prog 25 #[.int .i64 s, .int .i64 old, .int .i64 size, .agg (cells8 r0).toArray, .agg (cells8 r1).toArray, .slice A n c] w' fun e w'' => e = .returned (.int .i64 k0) ∧ Below w'.heap.size w' w''))
    (hI1 : Hid (∀ w', Below w.heap.size w w' → Calls Tryd.prog 20 #[.int .i64 s, .int .i64 old, .int .i64 i, .agg (cells8 x).toArray, .slice B m d] w' fun e w'' => e = .returned (.tuple #[.agg (cells8 a1).toArray, .int .i64 k1]) ∧ Below w'.heap.size w' w''))
    (hI2 : Hid (∀ w', Below w.heap.size w w' → Calls Tryd.prog 20 #[.int .i64 s, .int .i64 size, .int .i64 i, .agg (cells8 y).toArray, .slice C k f] w' fun e w'' => e = .returned (.tuple #[.agg (cells8 a2).toArray, .int .i64 k2]) ∧ Below w'.heap.size w' w'')) (z : old < 1) :
    Calls Tryd.prog 11 #[.int .i64 s, .int .i64 old, .int .i64 size, .int .i64 i, .agg (cells8 r0).toArray, .agg (cells8 r1).toArray, .slice A n c, .agg (cells8 x).toArray, .slice B m d, .agg (cells8 y).toArray, .slice C k f] w fun e w' => e = .returned (.bool true) ∧ Below w.heap.size w w' := by
  have hb : Hid (Below w.heap.size w ((((w.alloc (.cells (cells8 r0).toArray 23)).alloc (.cells (cells8 r1).toArray 23)).alloc (.cells (cells8 x).toArray 23)).alloc (.cells (cells8 y).toArray 23))) := (((Below.heap_below w _).alloc (by simp) _).alloc (by simp; omega) _).alloc (by simp; omega) _
  have hR : Hid (Blk ((((w.alloc (.cells (cells8 r0).toArray 23)).alloc (.cells (cells8 r1).toArray 23)).alloc (.cells (cells8 x).toArray 23)).alloc (.cells (cells8 y).toArray 23)) w.heap.size 23 (cells8 r0).toArray) := (((Blk.new w _ _).alloc _).alloc _).alloc _
  have hS : Hid (Blk ((((w.alloc (.cells (cells8 r0).toArray 23)).alloc (.cells (cells8 r1).toArray 23)).alloc (.cells (cells8 x).toArray 23)).alloc (.cells (cells8 y).toArray 23)) (w.heap.size + 1) 23 (cells8 r1).toArray) := by
    have := ((Blk.new (w.alloc (.cells (cells8 r0).toArray 23)) 23 (cells8 r1).toArray).alloc (.cells (cells8 x).toArray 23)).alloc (.cells (cells8 y).toArray 23)
    rwa [show (w.alloc (.cells (cells8 r0).toArray 23)).heap.size = w.heap.size + 1 by simp] at this
  have hX : Hid (Blk ((((w.alloc (.cells (cells8 r0).toArray 23)).alloc (.cells (cells8 r1).toArray 23)).alloc (.cells (cells8 x).toArray 23)).alloc (.cells (cells8 y).toArray 23)) (w.heap.size + 2) 23 (cells8 x).toArray) := by
    have := (heap_alloc2_new (w.alloc (.cells (cells8 r0).toArray 23)) (.cells (cells8 r1).toArray 23) (.cells (cells8 x).toArray 23)).trans rfl
    have := Blk.alloc (t := 23) (cs := (cells8 x).toArray) this (.cells (cells8 y).toArray 23)
    rwa [show (w.alloc (.cells (cells8 r0).toArray 23)).heap.size = w.heap.size + 1 by simp] at this
  have hY : Hid (Blk ((((w.alloc (.cells (cells8 r0).toArray 23)).alloc (.cells (cells8 r1).toArray 23)).alloc (.cells (cells8 x).toArray 23)).alloc (.cells (cells8 y).toArray 23)) (w.heap.size + 3) 23 (cells8 y).toArray) := by
    have := heap_alloc2_new ((w.alloc (.cells (cells8 r0).toArray 23)).alloc (.cells (cells8 r1).toArray 23)) (.cells (cells8 x).toArray 23) (.cells (cells8 y).toArray 23)
    rwa [show ((w.alloc (.cells (cells8 r0).toArray 23)).alloc (.cells (cells8 r1).toArray 23)).heap.size = w.heap.size + 2 by simp] at this
  have Fr := Lib.hid (fit (x := r0) h0)
  have Fs := Lib.hid (fit (x := r1) h1)
  have Fx := Lib.hid (fit (x := x) hx)
  have Fy := Lib.hid (fit (x := y) hy)
  have Fn := Lib.hid (fit (x := nd) hnl)
  have F1 := Lib.hid (fit (x := a1) hl1)
  have F2 := Lib.hid (fit (x := a2) hl2)
  have hnn : Hid (∀ w', (binOp .neq 23 (.agg (cells8 nd).toArray) (.agg (cells8 nd).toArray)).run Tryd.prog w' = .ok (.bool false) w') := fun w' => (neq_dig nd nd hnl hnl w').trans (by simp)
  have hy1 : Hid (Digs [y]) := by show Digs _; intro q hq; obtain rfl := List.mem_singleton.1 hq; exact hy
  have hxy2 : Hid (Digs [x, y]) := by show Digs _; intro q hq; rcases List.mem_cons.1 hq with rfl | hq; exact hx; obtain rfl := List.mem_singleton.1 hq; exact hy
  have _h := hAg
  have _h := hI1
  have _h := hI2
  clear h0 h1 hx hy hnl hl1 hl2
  go_enter Tryd.func11, Tryd.ntmps11
  go_wp2_with (first
    | ((with_reducible change wpList _ _ _ ({ dst := some 40, op := _, type := _, pos := _, after := _, guard := _ } :: _) _ _); refine wpList_load_row (o := ⟨some 40, _, _, _, _, _⟩) rfl 23 (.tmp 18) rfl (w.heap.size + 2) rfl 23 ((cells8 x).toArray) (0, 0) _ hX.out Tryd.underlying23 rfl Fx.out.size ?_)
    | ((with_reducible change wpList _ _ _ ({ dst := some 41, op := _, type := _, pos := _, after := _, guard := _ } :: _) _ _); refine wpList_load_row (o := ⟨some 41, _, _, _, _, _⟩) rfl 23 (.tmp 20) rfl (w.heap.size + 3) rfl 23 ((cells8 y).toArray) (0, 0) _ hY.out Tryd.underlying23 rfl Fy.out.size ?_)
    | ((with_reducible change wpList _ _ _ ({ dst := some 42, op := _, type := _, pos := _, after := _, guard := _ } :: _) _ _); refine wpList_buildD (o := ⟨some 42, _, _, _, _, _⟩) rfl 1 _ rfl [y] hy1.out rfl (by decide) (by decide) rfl ?_; intro w1 g1 hB1 kk; have hR1 := Lib.hid (hR.out.onT kk); have hS1 := Lib.hid (hS.out.onT kk); have hX1 := Lib.hid (hX.out.onT kk); have hY1 := Lib.hid (hY.out.onT kk); have hb1 : Hid (Below w.heap.size w w1) := hb.out.trans (kk.mono hb.out.size); clear kk hR hS hX hY hb)
    | (go_at_call 20; refine (hI0.out _ g1 hb1.out hB1).mono ?_; rintro e w2 ⟨rfl, kk⟩; clear hI0 hB1; have hR2 := Lib.hid (hR1.out.onT kk); have hS2 := Lib.hid (hS1.out.onT kk); have hX2 := Lib.hid (hX1.out.onT kk); have hY2 := Lib.hid (hY1.out.onT kk); have hb2 : Hid (Below w.heap.size w w2) := hb1.out.trans (kk.mono hb1.out.size); clear kk hR1 hS1 hX1 hY1 hb1)
    | ((with_reducible change wpList _ _ _ ({ dst := none, op := Op.store 23 (.tmp 23) _, type := _, pos := _, after := _, guard := _ } :: _) _ _); refine wpList_store_whole (o := ⟨none, _, _, _, _, _⟩) rfl 23 (.tmp 23) (.tmp 44) rfl (w2.heap.size) ((cells8 nd).toArray) rfl rfl 23 (Z32) (Blk.new w2 _ _) Fn.out.size Fn.out.zero Fn.out.one ?_; intro w3 hN3 kq; have kk := kept_fresh kq; replace hN3 := Lib.hid hN3; clear kq; have hR3 := Lib.hid (hR2.out.onT kk); have hS3 := Lib.hid (hS2.out.onT kk); have hX3 := Lib.hid (hX2.out.onT kk); have hY3 := Lib.hid (hY2.out.onT kk); have hb3 : Hid (Below w.heap.size w w3) := hb2.out.trans (kk.mono hb2.out.size); clear kk hR2 hS2 hX2 hY2 hb2))
  have s0 : Hid (Below w3.heap.size w3 w3.drew) := (Below.refl _ _).drew
  refine held_start (fun w' => Below w3.heap.size w3 w') 19 rfl (by kernel_rfl) ?_
  refine held_take (i := 0) (v := .int .i64 0) rfl (by kernel_rfl) (by kernel_rfl) (by kernel_rfl) (fun _ _ _ h => h) s0.out (by rfl) (fun w' hw' => run_mv (.tmp 24) rfl w') ?_
  (intro K hK; go_simp; refine hK _ ?_; clear hK K)
  refine held_take (i := 1) (v := .bool false) rfl (by kernel_rfl) (by kernel_rfl) (by kernel_rfl) (fun _ _ _ h => h) s0.out (by rfl) (fun w' hw' => by go_simp) ?_
  (intro K hK; go_simp; refine hK _ ?_; clear hK K)
  refine held_take (i := 2) (v := .bool false) rfl (by kernel_rfl) (by kernel_rfl) (by kernel_rfl) (fun _ _ _ h => h) s0.out (by rfl) (fun w' hw' => by go_simp) ?_
  (intro K hK; go_simp; refine hK _ ?_; clear hK K)
  refine held_take (i := 3) (v := .agg ((cells8 nd).toArray)) rfl (by kernel_rfl) (by kernel_rfl) (by kernel_rfl) (fun _ _ _ h => h) s0.out (by rfl) (fun w' hw' => exec_row 23 (.tmp 23) rfl (w2.heap.size) rfl 23 ((cells8 nd).toArray) (0, 0) _ (hN3.out.onT hw') Tryd.underlying23 rfl Fn.out.size) ?_
  (intro K hK; go_simp; refine hK _ ?_; clear hK K)
  refine held_take (i := 4) (v := .int .i64 s) rfl (by kernel_rfl) (by kernel_rfl) (by kernel_rfl) (fun _ _ _ h => h) s0.out (by rfl) (fun w' hw' => run_mv (.tmp 0) rfl w') ?_
  (intro K hK; go_simp; refine hK _ ?_; clear hK K)
  refine held_take (i := 5) (v := .agg ((cells8 x).toArray)) rfl (by kernel_rfl) (by kernel_rfl) (by kernel_rfl) (fun _ _ _ h => h) s0.out (by rfl) (fun w' hw' => exec_row 23 (.tmp 18) rfl (w.heap.size + 2) rfl 23 ((cells8 x).toArray) (0, 0) _ (hX3.out.onT hw') Tryd.underlying23 rfl Fx.out.size) ?_
  (intro K hK; go_simp; refine hK _ ?_; clear hK K)
  refine held_take (i := 6) (v := .agg ((cells8 y).toArray)) rfl (by kernel_rfl) (by kernel_rfl) (by kernel_rfl) (fun _ _ _ h => h) s0.out (by rfl) (fun w' hw' => exec_row 23 (.tmp 20) rfl (w.heap.size + 3) rfl 23 ((cells8 y).toArray) (0, 0) _ (hY3.out.onT hw') Tryd.underlying23 rfl Fy.out.size) ?_
  (intro K hK; go_simp; refine hK _ ?_; clear hK K)
  refine held_only (i := 7) rfl (by kernel_rfl) (by rfl) (fun K hK => ?_)
  refine wp_fn (R := fun v w'' => v = .agg (cells8 nd).toArray ∧ Below w3.heap.size w3 w'') (args := #[.int .i64 s, .agg (cells8 x).toArray, .agg (cells8 y).toArray]) _ _ rfl rfl Tryd.func51 (by kernel_rfl) (by kernel_rfl) ((hNd.out _).mono fun e w'' ⟨he, hb⟩ => ⟨_, he, rfl, s0.out.trans (hb.mono s0.out.size)⟩) ?_
  rintro v1 w4 ⟨rfl, h4⟩
  replace h4 := Lib.hid h4
  go_simp
  refine hK _ _ h4.out ?_
  clear hK K
  refine held_take (i := 8) (v := .bool false) rfl (by kernel_rfl) (by kernel_rfl) (by kernel_rfl) (fun _ _ _ h => h) h4.out (by rfl) (fun w' hw' => run_cmp rfl rfl rfl qD (hnn.out w')) ?_
  (intro K hK; go_simp; refine hK _ ?_; clear hK K)
  refine held_take (i := 9) (v := .bool false) rfl (by kernel_rfl) (by kernel_rfl) (by kernel_rfl) (fun _ _ _ h => h) h4.out (by rfl) (fun w' hw' => by go_simp) ?_
  (intro K hK; go_simp; refine hK _ ?_; clear hK K)
  refine held_take (i := 10) (v := .bool false) rfl (by kernel_rfl) (by kernel_rfl) (by kernel_rfl) (fun _ _ _ h => h) h4.out (by rfl) (fun w' hw' => by go_simp) ?_
  (intro K hK; go_simp; refine hK _ ?_; clear hK K)
  refine held_take (i := 11) (v := .agg ((cells8 nd).toArray)) rfl (by kernel_rfl) (by kernel_rfl) (by kernel_rfl) (fun _ _ _ h => h) h4.out (by rfl) (fun w' hw' => exec_row 23 (.tmp 23) rfl (w2.heap.size) rfl 23 ((cells8 nd).toArray) (0, 0) _ (hN3.out.onT hw') Tryd.underlying23 rfl Fn.out.size) ?_
  (intro K hK; go_simp; refine hK _ ?_; clear hK K)
  refine held_take (i := 12) (v := .int .i64 s) rfl (by kernel_rfl) (by kernel_rfl) (by kernel_rfl) (fun _ _ _ h => h) h4.out (by rfl) (fun w' hw' => run_mv (.tmp 0) rfl w') ?_
  (intro K hK; go_simp; refine hK _ ?_; clear hK K)
  refine held_take (i := 13) (v := .agg ((cells8 x).toArray)) rfl (by kernel_rfl) (by kernel_rfl) (by kernel_rfl) (fun _ _ _ h => h) h4.out (by rfl) (fun w' hw' => exec_row 23 (.tmp 18) rfl (w.heap.size + 2) rfl 23 ((cells8 x).toArray) (0, 0) _ (hX3.out.onT hw') Tryd.underlying23 rfl Fx.out.size) ?_
  (intro K hK; go_simp; refine hK _ ?_; clear hK K)
  refine held_take (i := 14) (v := .agg ((cells8 y).toArray)) rfl (by kernel_rfl) (by kernel_rfl) (by kernel_rfl) (fun _ _ _ h => h) h4.out (by rfl) (fun w' hw' => exec_row 23 (.tmp 20) rfl (w.heap.size + 3) rfl 23 ((cells8 y).toArray) (0, 0) _ (hY3.out.onT hw') Tryd.underlying23 rfl Fy.out.size) ?_
  (intro K hK; go_simp; refine hK _ ?_; clear hK K)
  refine held_only (i := 15) rfl (by kernel_rfl) (by rfl) (fun K hK => ?_)
  refine wp_buildD 2 _ rfl [x, y] hxy2.out rfl (by decide) (by decide) rfl ?_
  intro w5 g5 hR5 kk
  have h5 : Hid (Below w3.heap.size w3 w5) := h4.out.trans (kk.mono h4.out.size)
  replace hR5 := Lib.hid hR5
  clear kk
  go_simp
  refine hK _ _ h5.out ?_
  clear hK K
  refine held_only (i := 16) rfl (by kernel_rfl) (by rfl) (fun K hK => ?_)
  refine wp_fn (R := fun v w'' => v = .agg (cells8 nd).toArray ∧ Below w3.heap.size w3 w'') (args := #[.int .i64 s, .slice (some ⟨g5, 0, none⟩) 2 2]) _ _ rfl rfl Tryd.func52 (by kernel_rfl) (by kernel_rfl) ((hRt.out _ g5 (hb3.out.trans (h5.out.mono hb3.out.size)) hR5.out).mono fun e w'' ⟨he, hb⟩ => ⟨_, he, rfl, h5.out.trans (hb.mono h5.out.size)⟩) ?_
  rintro v1 w6 ⟨rfl, h6⟩
  replace h6 := Lib.hid h6
  go_simp
  refine hK _ _ h6.out ?_
  clear hK K
  refine held_take (i := 17) (v := .bool false) rfl (by kernel_rfl) (by kernel_rfl) (by kernel_rfl) (fun _ _ _ h => h) h6.out (by rfl) (fun w' hw' => run_cmp rfl rfl rfl qD (hnn.out w')) ?_
  (intro K hK; go_simp; refine hK _ ?_; clear hK K)
  refine held_take (i := 18) (v := .bool false) rfl (by kernel_rfl) (by kernel_rfl) (by kernel_rfl) (fun _ _ _ h => h) h6.out (by rfl) (fun w' hw' => by go_simp) ?_
  (intro K hK; go_simp; refine hK _ ?_; clear hK K)
  refine held_end (by kernel_rfl) ?_
  have kk := h6.out
  clear hR5 h5 h4 s0 h6 hNd hRt hN3 hnn hy1 hxy2
  have hR6 := Lib.hid (hR3.out.onT kk)
  have hS6 := Lib.hid (hS3.out.onT kk)
  have hX6 := Lib.hid (hX3.out.onT kk)
  have hY6 := Lib.hid (hY3.out.onT kk)
  have hb6 : Hid (Below w.heap.size w w6) := hb3.out.trans (kk.mono hb3.out.size)
  clear kk hR3 hS3 hX3 hY3 hb3
  go_wp2_with (first
    | ((with_reducible change wpList _ _ _ ({ dst := some 71, op := _, type := _, pos := _, after := _, guard := _ } :: _) _ _); (with_reducible refine Veil.out ?_); refine wpList_rowW (o := ⟨some 71, _, _, _, _, _⟩) rfl 23 (.tmp 15) rfl (w.heap.size) rfl 23 ((cells8 r0).toArray) (0, 0) _ hR6.out Tryd.underlying23 rfl Fr.out.size ?_)
    | ((with_reducible change wpList _ _ _ ({ dst := some 72, op := _, type := _, pos := _, after := _, guard := _ } :: _) _ _); (with_reducible refine Veil.out ?_); refine wpList_rowW (o := ⟨some 72, _, _, _, _, _⟩) rfl 23 (.tmp 16) rfl (w.heap.size + 1) rfl 23 ((cells8 r1).toArray) (0, 0) _ hS6.out Tryd.underlying23 rfl Fs.out.size ?_)
    | (go_at_call 25; refine (hAg.out _ hb6.out).mono ?_; rintro e w7 ⟨rfl, kk⟩; clear hAg; have hR7 := Lib.hid (hR6.out.onT kk); have hS7 := Lib.hid (hS6.out.onT kk); have hX7 := Lib.hid (hX6.out.onT kk); have hY7 := Lib.hid (hY6.out.onT kk); have hb7 : Hid (Below w.heap.size w w7) := hb6.out.trans (kk.mono hb6.out.size); clear kk hR6 hS6 hX6 hY6 hb6))
  go_ret
  exact ⟨rfl, hb6.out⟩

set_option maxRecDepth 100000 in
set_option maxHeartbeats 8000000 in
theorem tt_e0 (s old size i : Int) (r0 r1 x y : Text) (h0 : r0.length = 32) (h1 : r1.length = 32) (hx : x.length = 32) (hy : y.length = 32) (n m k : Nat) (A B C : Option Addr) (c d f : Nat) (w : World) (nd a1 a2 : Text) (hnl : nd.length = 32) (hl1 : a1.length = 32) (hl2 : a2.length = 32) (k0 k1 k2 : Int)
    (hI0 : Hid (∀ w' g, Below w.heap.size w w' → RdD w' (some ⟨g, 0, none⟩) 1 [y] → Calls Tryd.prog 20 #[.int .i64 s, .int .i64 2, .int .i64 0, .agg (cells8 x).toArray, .slice (some ⟨g, 0, none⟩) 1 1] w' fun e w'' => e = .returned (.tuple #[.agg (cells8 nd).toArray, .int .i64 0]) ∧ Below w'.heap.size w' w''))
    (hNd : Hid (∀ w', Calls Tryd.prog 51 #[.int .i64 s, .agg (cells8 x).toArray, .agg (cells8 y).toArray] w' fun e w'' => e = .returned (.agg (cells8 nd).toArray) ∧ Below w'.heap.size w' w''))
    (hRt : Hid (∀ w' g, Below w.heap.size w w' → RdD w' (some ⟨g, 0, none⟩) 2 [x, y] → Calls Tryd.prog 52 #[.int .i64 s, .slice (some ⟨g, 0, none⟩) 2 2] w' fun e w'' => e = .returned (.agg (cells8 nd).toArray) ∧ Below w'.heap.size w' w''))
    (hAg : Hid (∀ w', Below w.heap.size w w' → Calls Tryd.prog 25 #[.int .i64 s, .int .i64 old, .int .i64 size, .agg (cells8 r0).toArray, .agg (cells8 r1).toArray, .slice A n c] w' fun e w'' => e = .returned (.int .i64 k0) ∧ Below w'.heap.size w' w''))
    (hI1 : Hid (∀ w', Below w.heap.size w w' → Calls Tryd.prog 20 #[.int .i64 s, .int .i64 old, .int .i64 i, .agg (cells8 x).toArray, .slice B m d] w' fun e w'' => e = .returned (.tuple #[.agg (cells8 a1).toArray, .int .i64 k1]) ∧ Below w'.heap.size w' w''))
    (hI2 : Hid (∀ w', Below w.heap.size w w' → Calls Tryd.prog 20 #[.int .i64 s, .int .i64 size, .int .i64 i, .agg (cells8 y).toArray, .slice C k f] w' fun e w'' => e = .returned (.tuple #[.agg (cells8 a2).toArray, .int .i64 k2]) ∧ Below w'.heap.size w' w'')) (z : ¬ old < 1) (z0 : ¬ k0 = 0) :
    Calls Tryd.prog 11 #[.int .i64 s, .int .i64 old, .int .i64 size, .int .i64 i, .agg (cells8 r0).toArray, .agg (cells8 r1).toArray, .slice A n c, .agg (cells8 x).toArray, .slice B m d, .agg (cells8 y).toArray, .slice C k f] w fun e w' => e = .returned (.bool true) ∧ Below w.heap.size w w' := by
  have hb : Hid (Below w.heap.size w ((((w.alloc (.cells (cells8 r0).toArray 23)).alloc (.cells (cells8 r1).toArray 23)).alloc (.cells (cells8 x).toArray 23)).alloc (.cells (cells8 y).toArray 23))) := (((Below.heap_below w _).alloc (by simp) _).alloc (by simp; omega) _).alloc (by simp; omega) _
  have hR : Hid (Blk ((((w.alloc (.cells (cells8 r0).toArray 23)).alloc (.cells (cells8 r1).toArray 23)).alloc (.cells (cells8 x).toArray 23)).alloc (.cells (cells8 y).toArray 23)) w.heap.size 23 (cells8 r0).toArray) := (((Blk.new w _ _).alloc _).alloc _).alloc _
  have hS : Hid (Blk ((((w.alloc (.cells (cells8 r0).toArray 23)).alloc (.cells (cells8 r1).toArray 23)).alloc (.cells (cells8 x).toArray 23)).alloc (.cells (cells8 y).toArray 23)) (w.heap.size + 1) 23 (cells8 r1).toArray) := by
    have := ((Blk.new (w.alloc (.cells (cells8 r0).toArray 23)) 23 (cells8 r1).toArray).alloc (.cells (cells8 x).toArray 23)).alloc (.cells (cells8 y).toArray 23)
    rwa [show (w.alloc (.cells (cells8 r0).toArray 23)).heap.size = w.heap.size + 1 by simp] at this
  have hX : Hid (Blk ((((w.alloc (.cells (cells8 r0).toArray 23)).alloc (.cells (cells8 r1).toArray 23)).alloc (.cells (cells8 x).toArray 23)).alloc (.cells (cells8 y).toArray 23)) (w.heap.size + 2) 23 (cells8 x).toArray) := by
    have := (heap_alloc2_new (w.alloc (.cells (cells8 r0).toArray 23)) (.cells (cells8 r1).toArray 23) (.cells (cells8 x).toArray 23)).trans rfl
    have := Blk.alloc (t := 23) (cs := (cells8 x).toArray) this (.cells (cells8 y).toArray 23)
    rwa [show (w.alloc (.cells (cells8 r0).toArray 23)).heap.size = w.heap.size + 1 by simp] at this
  have hY : Hid (Blk ((((w.alloc (.cells (cells8 r0).toArray 23)).alloc (.cells (cells8 r1).toArray 23)).alloc (.cells (cells8 x).toArray 23)).alloc (.cells (cells8 y).toArray 23)) (w.heap.size + 3) 23 (cells8 y).toArray) := by
    have := heap_alloc2_new ((w.alloc (.cells (cells8 r0).toArray 23)).alloc (.cells (cells8 r1).toArray 23)) (.cells (cells8 x).toArray 23) (.cells (cells8 y).toArray 23)
    rwa [show ((w.alloc (.cells (cells8 r0).toArray 23)).alloc (.cells (cells8 r1).toArray 23)).heap.size = w.heap.size + 2 by simp] at this
  have Fr := Lib.hid (fit (x := r0) h0)
  have Fs := Lib.hid (fit (x := r1) h1)
  have Fx := Lib.hid (fit (x := x) hx)
  have Fy := Lib.hid (fit (x := y) hy)
  have Fn := Lib.hid (fit (x := nd) hnl)
  have F1 := Lib.hid (fit (x := a1) hl1)
  have F2 := Lib.hid (fit (x := a2) hl2)
  have hnn : Hid (∀ w', (binOp .neq 23 (.agg (cells8 nd).toArray) (.agg (cells8 nd).toArray)).run Tryd.prog w' = .ok (.bool false) w') := fun w' => (neq_dig nd nd hnl hnl w').trans (by simp)
  have hy1 : Hid (Digs [y]) := by show Digs _; intro q hq; obtain rfl := List.mem_singleton.1 hq; exact hy
  have hxy2 : Hid (Digs [x, y]) := by show Digs _; intro q hq; rcases List.mem_cons.1 hq with rfl | hq; exact hx; obtain rfl := List.mem_singleton.1 hq; exact hy
  have _h := hI1
  have _h := hI2
  clear h0 h1 hx hy hnl hl1 hl2
  have yz : (old < 1) = False := eq_false z
  clear z
  go_enter Tryd.func11, Tryd.ntmps11
  go_wp2_with (first
    | ((with_reducible change wpList _ _ _ ({ dst := some 40, op := _, type := _, pos := _, after := _, guard := _ } :: _) _ _); refine wpList_load_row (o := ⟨some 40, _, _, _, _, _⟩) rfl 23 (.tmp 18) rfl (w.heap.size + 2) rfl 23 ((cells8 x).toArray) (0, 0) _ hX.out Tryd.underlying23 rfl Fx.out.size ?_)
    | ((with_reducible change wpList _ _ _ ({ dst := some 41, op := _, type := _, pos := _, after := _, guard := _ } :: _) _ _); refine wpList_load_row (o := ⟨some 41, _, _, _, _, _⟩) rfl 23 (.tmp 20) rfl (w.heap.size + 3) rfl 23 ((cells8 y).toArray) (0, 0) _ hY.out Tryd.underlying23 rfl Fy.out.size ?_)
    | ((with_reducible change wpList _ _ _ ({ dst := some 42, op := _, type := _, pos := _, after := _, guard := _ } :: _) _ _); refine wpList_buildD (o := ⟨some 42, _, _, _, _, _⟩) rfl 1 _ rfl [y] hy1.out rfl (by decide) (by decide) rfl ?_; intro w1 g1 hB1 kk; have hR1 := Lib.hid (hR.out.onT kk); have hS1 := Lib.hid (hS.out.onT kk); have hX1 := Lib.hid (hX.out.onT kk); have hY1 := Lib.hid (hY.out.onT kk); have hb1 : Hid (Below w.heap.size w w1) := hb.out.trans (kk.mono hb.out.size); clear kk hR hS hX hY hb)
    | (go_at_call 20; refine (hI0.out _ g1 hb1.out hB1).mono ?_; rintro e w2 ⟨rfl, kk⟩; clear hI0 hB1; have hR2 := Lib.hid (hR1.out.onT kk); have hS2 := Lib.hid (hS1.out.onT kk); have hX2 := Lib.hid (hX1.out.onT kk); have hY2 := Lib.hid (hY1.out.onT kk); have hb2 : Hid (Below w.heap.size w w2) := hb1.out.trans (kk.mono hb1.out.size); clear kk hR1 hS1 hX1 hY1 hb1)
    | ((with_reducible change wpList _ _ _ ({ dst := none, op := Op.store 23 (.tmp 23) _, type := _, pos := _, after := _, guard := _ } :: _) _ _); refine wpList_store_whole (o := ⟨none, _, _, _, _, _⟩) rfl 23 (.tmp 23) (.tmp 44) rfl (w2.heap.size) ((cells8 nd).toArray) rfl rfl 23 (Z32) (Blk.new w2 _ _) Fn.out.size Fn.out.zero Fn.out.one ?_; intro w3 hN3 kq; have kk := kept_fresh kq; replace hN3 := Lib.hid hN3; clear kq; have hR3 := Lib.hid (hR2.out.onT kk); have hS3 := Lib.hid (hS2.out.onT kk); have hX3 := Lib.hid (hX2.out.onT kk); have hY3 := Lib.hid (hY2.out.onT kk); have hb3 : Hid (Below w.heap.size w w3) := hb2.out.trans (kk.mono hb2.out.size); clear kk hR2 hS2 hX2 hY2 hb2))
  have s0 : Hid (Below w3.heap.size w3 w3.drew) := (Below.refl _ _).drew
  refine held_start (fun w' => Below w3.heap.size w3 w') 19 rfl (by kernel_rfl) ?_
  refine held_take (i := 0) (v := .int .i64 0) rfl (by kernel_rfl) (by kernel_rfl) (by kernel_rfl) (fun _ _ _ h => h) s0.out (by rfl) (fun w' hw' => run_mv (.tmp 24) rfl w') ?_
  (intro K hK; go_simp; refine hK _ ?_; clear hK K)
  refine held_take (i := 1) (v := .bool false) rfl (by kernel_rfl) (by kernel_rfl) (by kernel_rfl) (fun _ _ _ h => h) s0.out (by rfl) (fun w' hw' => by go_simp) ?_
  (intro K hK; go_simp; refine hK _ ?_; clear hK K)
  refine held_take (i := 2) (v := .bool false) rfl (by kernel_rfl) (by kernel_rfl) (by kernel_rfl) (fun _ _ _ h => h) s0.out (by rfl) (fun w' hw' => by go_simp) ?_
  (intro K hK; go_simp; refine hK _ ?_; clear hK K)
  refine held_take (i := 3) (v := .agg ((cells8 nd).toArray)) rfl (by kernel_rfl) (by kernel_rfl) (by kernel_rfl) (fun _ _ _ h => h) s0.out (by rfl) (fun w' hw' => exec_row 23 (.tmp 23) rfl (w2.heap.size) rfl 23 ((cells8 nd).toArray) (0, 0) _ (hN3.out.onT hw') Tryd.underlying23 rfl Fn.out.size) ?_
  (intro K hK; go_simp; refine hK _ ?_; clear hK K)
  refine held_take (i := 4) (v := .int .i64 s) rfl (by kernel_rfl) (by kernel_rfl) (by kernel_rfl) (fun _ _ _ h => h) s0.out (by rfl) (fun w' hw' => run_mv (.tmp 0) rfl w') ?_
  (intro K hK; go_simp; refine hK _ ?_; clear hK K)
  refine held_take (i := 5) (v := .agg ((cells8 x).toArray)) rfl (by kernel_rfl) (by kernel_rfl) (by kernel_rfl) (fun _ _ _ h => h) s0.out (by rfl) (fun w' hw' => exec_row 23 (.tmp 18) rfl (w.heap.size + 2) rfl 23 ((cells8 x).toArray) (0, 0) _ (hX3.out.onT hw') Tryd.underlying23 rfl Fx.out.size) ?_
  (intro K hK; go_simp; refine hK _ ?_; clear hK K)
  refine held_take (i := 6) (v := .agg ((cells8 y).toArray)) rfl (by kernel_rfl) (by kernel_rfl) (by kernel_rfl) (fun _ _ _ h => h) s0.out (by rfl) (fun w' hw' => exec_row 23 (.tmp 20) rfl (w.heap.size + 3) rfl 23 ((cells8 y).toArray) (0, 0) _ (hY3.out.onT hw') Tryd.underlying23 rfl Fy.out.size) ?_
  (intro K hK; go_simp; refine hK _ ?_; clear hK K)
  refine held_only (i := 7) rfl (by kernel_rfl) (by rfl) (fun K hK => ?_)
  refine wp_fn (R := fun v w'' => v = .agg (cells8 nd).toArray ∧ Below w3.heap.size w3 w'') (args := #[.int .i64 s, .agg (cells8 x).toArray, .agg (cells8 y).toArray]) _ _ rfl rfl Tryd.func51 (by kernel_rfl) (by kernel_rfl) ((hNd.out _).mono fun e w'' ⟨he, hb⟩ => ⟨_, he, rfl, s0.out.trans (hb.mono s0.out.size)⟩) ?_
  rintro v1 w4 ⟨rfl, h4⟩
  replace h4 := Lib.hid h4
  go_simp
  refine hK _ _ h4.out ?_
  clear hK K
  refine held_take (i := 8) (v := .bool false) rfl (by kernel_rfl) (by kernel_rfl) (by kernel_rfl) (fun _ _ _ h => h) h4.out (by rfl) (fun w' hw' => run_cmp rfl rfl rfl qD (hnn.out w')) ?_
  (intro K hK; go_simp; refine hK _ ?_; clear hK K)
  refine held_take (i := 9) (v := .bool false) rfl (by kernel_rfl) (by kernel_rfl) (by kernel_rfl) (fun _ _ _ h => h) h4.out (by rfl) (fun w' hw' => by go_simp) ?_
  (intro K hK; go_simp; refine hK _ ?_; clear hK K)
  refine held_take (i := 10) (v := .bool false) rfl (by kernel_rfl) (by kernel_rfl) (by kernel_rfl) (fun _ _ _ h => h) h4.out (by rfl) (fun w' hw' => by go_simp) ?_
  (intro K hK; go_simp; refine hK _ ?_; clear hK K)
  refine held_take (i := 11) (v := .agg ((cells8 nd).toArray)) rfl (by kernel_rfl) (by kernel_rfl) (by kernel_rfl) (fun _ _ _ h => h) h4.out (by rfl) (fun w' hw' => exec_row 23 (.tmp 23) rfl (w2.heap.size) rfl 23 ((cells8 nd).toArray) (0, 0) _ (hN3.out.onT hw') Tryd.underlying23 rfl Fn.out.size) ?_
  (intro K hK; go_simp; refine hK _ ?_; clear hK K)
  refine held_take (i := 12) (v := .int .i64 s) rfl (by kernel_rfl) (by kernel_rfl) (by kernel_rfl) (fun _ _ _ h => h) h4.out (by rfl) (fun w' hw' => run_mv (.tmp 0) rfl w') ?_
  (intro K hK; go_simp; refine hK _ ?_; clear hK K)
  refine held_take (i := 13) (v := .agg ((cells8 x).toArray)) rfl (by kernel_rfl) (by kernel_rfl) (by kernel_rfl) (fun _ _ _ h => h) h4.out (by rfl) (fun w' hw' => exec_row 23 (.tmp 18) rfl (w.heap.size + 2) rfl 23 ((cells8 x).toArray) (0, 0) _ (hX3.out.onT hw') Tryd.underlying23 rfl Fx.out.size) ?_
  (intro K hK; go_simp; refine hK _ ?_; clear hK K)
  refine held_take (i := 14) (v := .agg ((cells8 y).toArray)) rfl (by kernel_rfl) (by kernel_rfl) (by kernel_rfl) (fun _ _ _ h => h) h4.out (by rfl) (fun w' hw' => exec_row 23 (.tmp 20) rfl (w.heap.size + 3) rfl 23 ((cells8 y).toArray) (0, 0) _ (hY3.out.onT hw') Tryd.underlying23 rfl Fy.out.size) ?_
  (intro K hK; go_simp; refine hK _ ?_; clear hK K)
  refine held_only (i := 15) rfl (by kernel_rfl) (by rfl) (fun K hK => ?_)
  refine wp_buildD 2 _ rfl [x, y] hxy2.out rfl (by decide) (by decide) rfl ?_
  intro w5 g5 hR5 kk
  have h5 : Hid (Below w3.heap.size w3 w5) := h4.out.trans (kk.mono h4.out.size)
  replace hR5 := Lib.hid hR5
  clear kk
  go_simp
  refine hK _ _ h5.out ?_
  clear hK K
  refine held_only (i := 16) rfl (by kernel_rfl) (by rfl) (fun K hK => ?_)
  refine wp_fn (R := fun v w'' => v = .agg (cells8 nd).toArray ∧ Below w3.heap.size w3 w'') (args := #[.int .i64 s, .slice (some ⟨g5, 0, none⟩) 2 2]) _ _ rfl rfl Tryd.func52 (by kernel_rfl) (by kernel_rfl) ((hRt.out _ g5 (hb3.out.trans (h5.out.mono hb3.out.size)) hR5.out).mono fun e w'' ⟨he, hb⟩ => ⟨_, he, rfl, h5.out.trans (hb.mono h5.out.size)⟩) ?_
  rintro v1 w6 ⟨rfl, h6⟩
  replace h6 := Lib.hid h6
  go_simp
  refine hK _ _ h6.out ?_
  clear hK K
  refine held_take (i := 17) (v := .bool false) rfl (by kernel_rfl) (by kernel_rfl) (by kernel_rfl) (fun _ _ _ h => h) h6.out (by rfl) (fun w' hw' => run_cmp rfl rfl rfl qD (hnn.out w')) ?_
  (intro K hK; go_simp; refine hK _ ?_; clear hK K)
  refine held_take (i := 18) (v := .bool false) rfl (by kernel_rfl) (by kernel_rfl) (by kernel_rfl) (fun _ _ _ h => h) h6.out (by rfl) (fun w' hw' => by go_simp) ?_
  (intro K hK; go_simp; refine hK _ ?_; clear hK K)
  refine held_end (by kernel_rfl) ?_
  have kk := h6.out
  clear hR5 h5 h4 s0 h6 hNd hRt hN3 hnn hy1 hxy2
  have hR6 := Lib.hid (hR3.out.onT kk)
  have hS6 := Lib.hid (hS3.out.onT kk)
  have hX6 := Lib.hid (hX3.out.onT kk)
  have hY6 := Lib.hid (hY3.out.onT kk)
  have hb6 : Hid (Below w.heap.size w w6) := hb3.out.trans (kk.mono hb3.out.size)
  clear kk hR3 hS3 hX3 hY3 hb3
  go_wp2_with (first
    | ((with_reducible change wpList _ _ _ ({ dst := some 71, op := _, type := _, pos := _, after := _, guard := _ } :: _) _ _); (with_reducible refine Veil.out ?_); refine wpList_rowW (o := ⟨some 71, _, _, _, _, _⟩) rfl 23 (.tmp 15) rfl (w.heap.size) rfl 23 ((cells8 r0).toArray) (0, 0) _ hR6.out Tryd.underlying23 rfl Fr.out.size ?_)
    | ((with_reducible change wpList _ _ _ ({ dst := some 72, op := _, type := _, pos := _, after := _, guard := _ } :: _) _ _); (with_reducible refine Veil.out ?_); refine wpList_rowW (o := ⟨some 72, _, _, _, _, _⟩) rfl 23 (.tmp 16) rfl (w.heap.size + 1) rfl 23 ((cells8 r1).toArray) (0, 0) _ hS6.out Tryd.underlying23 rfl Fs.out.size ?_)
    | (go_at_call 25; refine (hAg.out _ hb6.out).mono ?_; rintro e w7 ⟨rfl, kk⟩; clear hAg; have hR7 := Lib.hid (hR6.out.onT kk); have hS7 := Lib.hid (hS6.out.onT kk); have hX7 := Lib.hid (hX6.out.onT kk); have hY7 := Lib.hid (hY6.out.onT kk); have hb7 : Hid (Below w.heap.size w w7) := hb6.out.trans (kk.mono hb6.out.size); clear kk hR6 hS6 hX6 hY6 hb6))
  go_ret
  exact ⟨rfl, hb7.out⟩

set_option maxRecDepth 100000 in
set_option maxHeartbeats 8000000 in
theorem tt_e1 (s old size i : Int) (r0 r1 x y : Text) (h0 : r0.length = 32) (h1 : r1.length = 32) (hx : x.length = 32) (hy : y.length = 32) (n m k : Nat) (A B C : Option Addr) (c d f : Nat) (w : World) (nd a1 a2 : Text) (hnl : nd.length = 32) (hl1 : a1.length = 32) (hl2 : a2.length = 32) (k0 k1 k2 : Int)
    (hI0 : Hid (∀ w' g, Below w.heap.size w w' → RdD w' (some ⟨g, 0, none⟩) 1 [y] → Calls Tryd.prog 20 #[.int .i64 s, .int .i64 2, .int .i64 0, .agg (cells8 x).toArray, .slice (some ⟨g, 0, none⟩) 1 1] w' fun e w'' => e = .returned (.tuple #[.agg (cells8 nd).toArray, .int .i64 0]) ∧ Below w'.heap.size w' w''))
    (hNd : Hid (∀ w', Calls Tryd.prog 51 #[.int .i64 s, .agg (cells8 x).toArray, .agg (cells8 y).toArray] w' fun e w'' => e = .returned (.agg (cells8 nd).toArray) ∧ Below w'.heap.size w' w''))
    (hRt : Hid (∀ w' g, Below w.heap.size w w' → RdD w' (some ⟨g, 0, none⟩) 2 [x, y] → Calls Tryd.prog 52 #[.int .i64 s, .slice (some ⟨g, 0, none⟩) 2 2] w' fun e w'' => e = .returned (.agg (cells8 nd).toArray) ∧ Below w'.heap.size w' w''))
    (hAg : Hid (∀ w', Below w.heap.size w w' → Calls Tryd.prog 25 #[.int .i64 s, .int .i64 old, .int .i64 size, .agg (cells8 r0).toArray, .agg (cells8 r1).toArray, .slice A n c] w' fun e w'' => e = .returned (.int .i64 k0) ∧ Below w'.heap.size w' w''))
    (hI1 : Hid (∀ w', Below w.heap.size w w' → Calls Tryd.prog 20 #[.int .i64 s, .int .i64 old, .int .i64 i, .agg (cells8 x).toArray, .slice B m d] w' fun e w'' => e = .returned (.tuple #[.agg (cells8 a1).toArray, .int .i64 k1]) ∧ Below w'.heap.size w' w''))
    (hI2 : Hid (∀ w', Below w.heap.size w w' → Calls Tryd.prog 20 #[.int .i64 s, .int .i64 size, .int .i64 i, .agg (cells8 y).toArray, .slice C k f] w' fun e w'' => e = .returned (.tuple #[.agg (cells8 a2).toArray, .int .i64 k2]) ∧ Below w'.heap.size w' w'')) (z : ¬ old < 1) (z0 : k0 = 0) (z1 : ¬ k1 = 0) :
    Calls Tryd.prog 11 #[.int .i64 s, .int .i64 old, .int .i64 size, .int .i64 i, .agg (cells8 r0).toArray, .agg (cells8 r1).toArray, .slice A n c, .agg (cells8 x).toArray, .slice B m d, .agg (cells8 y).toArray, .slice C k f] w fun e w' => e = .returned (.bool true) ∧ Below w.heap.size w w' := by
  have hb : Hid (Below w.heap.size w ((((w.alloc (.cells (cells8 r0).toArray 23)).alloc (.cells (cells8 r1).toArray 23)).alloc (.cells (cells8 x).toArray 23)).alloc (.cells (cells8 y).toArray 23))) := (((Below.heap_below w _).alloc (by simp) _).alloc (by simp; omega) _).alloc (by simp; omega) _
  have hR : Hid (Blk ((((w.alloc (.cells (cells8 r0).toArray 23)).alloc (.cells (cells8 r1).toArray 23)).alloc (.cells (cells8 x).toArray 23)).alloc (.cells (cells8 y).toArray 23)) w.heap.size 23 (cells8 r0).toArray) := (((Blk.new w _ _).alloc _).alloc _).alloc _
  have hS : Hid (Blk ((((w.alloc (.cells (cells8 r0).toArray 23)).alloc (.cells (cells8 r1).toArray 23)).alloc (.cells (cells8 x).toArray 23)).alloc (.cells (cells8 y).toArray 23)) (w.heap.size + 1) 23 (cells8 r1).toArray) := by
    have := ((Blk.new (w.alloc (.cells (cells8 r0).toArray 23)) 23 (cells8 r1).toArray).alloc (.cells (cells8 x).toArray 23)).alloc (.cells (cells8 y).toArray 23)
    rwa [show (w.alloc (.cells (cells8 r0).toArray 23)).heap.size = w.heap.size + 1 by simp] at this
  have hX : Hid (Blk ((((w.alloc (.cells (cells8 r0).toArray 23)).alloc (.cells (cells8 r1).toArray 23)).alloc (.cells (cells8 x).toArray 23)).alloc (.cells (cells8 y).toArray 23)) (w.heap.size + 2) 23 (cells8 x).toArray) := by
    have := (heap_alloc2_new (w.alloc (.cells (cells8 r0).toArray 23)) (.cells (cells8 r1).toArray 23) (.cells (cells8 x).toArray 23)).trans rfl
    have := Blk.alloc (t := 23) (cs := (cells8 x).toArray) this (.cells (cells8 y).toArray 23)
    rwa [show (w.alloc (.cells (cells8 r0).toArray 23)).heap.size = w.heap.size + 1 by simp] at this
  have hY : Hid (Blk ((((w.alloc (.cells (cells8 r0).toArray 23)).alloc (.cells (cells8 r1).toArray 23)).alloc (.cells (cells8 x).toArray 23)).alloc (.cells (cells8 y).toArray 23)) (w.heap.size + 3) 23 (cells8 y).toArray) := by
    have := heap_alloc2_new ((w.alloc (.cells (cells8 r0).toArray 23)).alloc (.cells (cells8 r1).toArray 23)) (.cells (cells8 x).toArray 23) (.cells (cells8 y).toArray 23)
    rwa [show ((w.alloc (.cells (cells8 r0).toArray 23)).alloc (.cells (cells8 r1).toArray 23)).heap.size = w.heap.size + 2 by simp] at this
  have Fr := Lib.hid (fit (x := r0) h0)
  have Fs := Lib.hid (fit (x := r1) h1)
  have Fx := Lib.hid (fit (x := x) hx)
  have Fy := Lib.hid (fit (x := y) hy)
  have Fn := Lib.hid (fit (x := nd) hnl)
  have F1 := Lib.hid (fit (x := a1) hl1)
  have F2 := Lib.hid (fit (x := a2) hl2)
  have hnn : Hid (∀ w', (binOp .neq 23 (.agg (cells8 nd).toArray) (.agg (cells8 nd).toArray)).run Tryd.prog w' = .ok (.bool false) w') := fun w' => (neq_dig nd nd hnl hnl w').trans (by simp)
  have hy1 : Hid (Digs [y]) := by show Digs _; intro q hq; obtain rfl := List.mem_singleton.1 hq; exact hy
  have hxy2 : Hid (Digs [x, y]) := by show Digs _; intro q hq; rcases List.mem_cons.1 hq with rfl | hq; exact hx; obtain rfl := List.mem_singleton.1 hq; exact hy
  subst z0
  have _h := hI2
  clear h0 h1 hx hy hnl hl1 hl2
  have yz : (old < 1) = False := eq_false z
  clear z
  go_enter Tryd.func11, Tryd.ntmps11
  go_wp2_with (first
    | ((with_reducible change wpList _ _ _ ({ dst := some 40, op := _, type := _, pos := _, after := _, guard := _ } :: _) _ _); refine wpList_load_row (o := ⟨some 40, _, _, _, _, _⟩) rfl 23 (.tmp 18) rfl (w.heap.size + 2) rfl 23 ((cells8 x).toArray) (0, 0) _ hX.out Tryd.underlying23 rfl Fx.out.size ?_)
    | ((with_reducible change wpList _ _ _ ({ dst := some 41, op := _, type := _, pos := _, after := _, guard := _ } :: _) _ _); refine wpList_load_row (o := ⟨some 41, _, _, _, _, _⟩) rfl 23 (.tmp 20) rfl (w.heap.size + 3) rfl 23 ((cells8 y).toArray) (0, 0) _ hY.out Tryd.underlying23 rfl Fy.out.size ?_)
    | ((with_reducible change wpList _ _ _ ({ dst := some 42, op := _, type := _, pos := _, after := _, guard := _ } :: _) _ _); refine wpList_buildD (o := ⟨some 42, _, _, _, _, _⟩) rfl 1 _ rfl [y] hy1.out rfl (by decide) (by decide) rfl ?_; intro w1 g1 hB1 kk; have hR1 := Lib.hid (hR.out.onT kk); have hS1 := Lib.hid (hS.out.onT kk); have hX1 := Lib.hid (hX.out.onT kk); have hY1 := Lib.hid (hY.out.onT kk); have hb1 : Hid (Below w.heap.size w w1) := hb.out.trans (kk.mono hb.out.size); clear kk hR hS hX hY hb)
    | (go_at_call 20; refine (hI0.out _ g1 hb1.out hB1).mono ?_; rintro e w2 ⟨rfl, kk⟩; clear hI0 hB1; have hR2 := Lib.hid (hR1.out.onT kk); have hS2 := Lib.hid (hS1.out.onT kk); have hX2 := Lib.hid (hX1.out.onT kk); have hY2 := Lib.hid (hY1.out.onT kk); have hb2 : Hid (Below w.heap.size w w2) := hb1.out.trans (kk.mono hb1.out.size); clear kk hR1 hS1 hX1 hY1 hb1)
    | ((with_reducible change wpList _ _ _ ({ dst := none, op := Op.store 23 (.tmp 23) _, type := _, pos := _, after := _, guard := _ } :: _) _ _); refine wpList_store_whole (o := ⟨none, _, _, _, _, _⟩) rfl 23 (.tmp 23) (.tmp 44) rfl (w2.heap.size) ((cells8 nd).toArray) rfl rfl 23 (Z32) (Blk.new w2 _ _) Fn.out.size Fn.out.zero Fn.out.one ?_; intro w3 hN3 kq; have kk := kept_fresh kq; replace hN3 := Lib.hid hN3; clear kq; have hR3 := Lib.hid (hR2.out.onT kk); have hS3 := Lib.hid (hS2.out.onT kk); have hX3 := Lib.hid (hX2.out.onT kk); have hY3 := Lib.hid (hY2.out.onT kk); have hb3 : Hid (Below w.heap.size w w3) := hb2.out.trans (kk.mono hb2.out.size); clear kk hR2 hS2 hX2 hY2 hb2))
  have s0 : Hid (Below w3.heap.size w3 w3.drew) := (Below.refl _ _).drew
  refine held_start (fun w' => Below w3.heap.size w3 w') 19 rfl (by kernel_rfl) ?_
  refine held_take (i := 0) (v := .int .i64 0) rfl (by kernel_rfl) (by kernel_rfl) (by kernel_rfl) (fun _ _ _ h => h) s0.out (by rfl) (fun w' hw' => run_mv (.tmp 24) rfl w') ?_
  (intro K hK; go_simp; refine hK _ ?_; clear hK K)
  refine held_take (i := 1) (v := .bool false) rfl (by kernel_rfl) (by kernel_rfl) (by kernel_rfl) (fun _ _ _ h => h) s0.out (by rfl) (fun w' hw' => by go_simp) ?_
  (intro K hK; go_simp; refine hK _ ?_; clear hK K)
  refine held_take (i := 2) (v := .bool false) rfl (by kernel_rfl) (by kernel_rfl) (by kernel_rfl) (fun _ _ _ h => h) s0.out (by rfl) (fun w' hw' => by go_simp) ?_
  (intro K hK; go_simp; refine hK _ ?_; clear hK K)
  refine held_take (i := 3) (v := .agg ((cells8 nd).toArray)) rfl (by kernel_rfl) (by kernel_rfl) (by kernel_rfl) (fun _ _ _ h => h) s0.out (by rfl) (fun w' hw' => exec_row 23 (.tmp 23) rfl (w2.heap.size) rfl 23 ((cells8 nd).toArray) (0, 0) _ (hN3.out.onT hw') Tryd.underlying23 rfl Fn.out.size) ?_
  (intro K hK; go_simp; refine hK _ ?_; clear hK K)
  refine held_take (i := 4) (v := .int .i64 s) rfl (by kernel_rfl) (by kernel_rfl) (by kernel_rfl) (fun _ _ _ h => h) s0.out (by rfl) (fun w' hw' => run_mv (.tmp 0) rfl w') ?_
  (intro K hK; go_simp; refine hK _ ?_; clear hK K)
  refine held_take (i := 5) (v := .agg ((cells8 x).toArray)) rfl (by kernel_rfl) (by kernel_rfl) (by kernel_rfl) (fun _ _ _ h => h) s0.out (by rfl) (fun w' hw' => exec_row 23 (.tmp 18) rfl (w.heap.size + 2) rfl 23 ((cells8 x).toArray) (0, 0) _ (hX3.out.onT hw') Tryd.underlying23 rfl Fx.out.size) ?_
  (intro K hK; go_simp; refine hK _ ?_; clear hK K)
  refine held_take (i := 6) (v := .agg ((cells8 y).toArray)) rfl (by kernel_rfl) (by kernel_rfl) (by kernel_rfl) (fun _ _ _ h => h) s0.out (by rfl) (fun w' hw' => exec_row 23 (.tmp 20) rfl (w.heap.size + 3) rfl 23 ((cells8 y).toArray) (0, 0) _ (hY3.out.onT hw') Tryd.underlying23 rfl Fy.out.size) ?_
  (intro K hK; go_simp; refine hK _ ?_; clear hK K)
  refine held_only (i := 7) rfl (by kernel_rfl) (by rfl) (fun K hK => ?_)
  refine wp_fn (R := fun v w'' => v = .agg (cells8 nd).toArray ∧ Below w3.heap.size w3 w'') (args := #[.int .i64 s, .agg (cells8 x).toArray, .agg (cells8 y).toArray]) _ _ rfl rfl Tryd.func51 (by kernel_rfl) (by kernel_rfl) ((hNd.out _).mono fun e w'' ⟨he, hb⟩ => ⟨_, he, rfl, s0.out.trans (hb.mono s0.out.size)⟩) ?_
  rintro v1 w4 ⟨rfl, h4⟩
  replace h4 := Lib.hid h4
  go_simp
  refine hK _ _ h4.out ?_
  clear hK K
  refine held_take (i := 8) (v := .bool false) rfl (by kernel_rfl) (by kernel_rfl) (by kernel_rfl) (fun _ _ _ h => h) h4.out (by rfl) (fun w' hw' => run_cmp rfl rfl rfl qD (hnn.out w')) ?_
  (intro K hK; go_simp; refine hK _ ?_; clear hK K)
  refine held_take (i := 9) (v := .bool false) rfl (by kernel_rfl) (by kernel_rfl) (by kernel_rfl) (fun _ _ _ h => h) h4.out (by rfl) (fun w' hw' => by go_simp) ?_
  (intro K hK; go_simp; refine hK _ ?_; clear hK K)
  refine held_take (i := 10) (v := .bool false) rfl (by kernel_rfl) (by kernel_rfl) (by kernel_rfl) (fun _ _ _ h => h) h4.out (by rfl) (fun w' hw' => by go_simp) ?_
  (intro K hK; go_simp; refine hK _ ?_; clear hK K)
  refine held_take (i := 11) (v := .agg ((cells8 nd).toArray)) rfl (by kernel_rfl) (by kernel_rfl) (by kernel_rfl) (fun _ _ _ h => h) h4.out (by rfl) (fun w' hw' => exec_row 23 (.tmp 23) rfl (w2.heap.size) rfl 23 ((cells8 nd).toArray) (0, 0) _ (hN3.out.onT hw') Tryd.underlying23 rfl Fn.out.size) ?_
  (intro K hK; go_simp; refine hK _ ?_; clear hK K)
  refine held_take (i := 12) (v := .int .i64 s) rfl (by kernel_rfl) (by kernel_rfl) (by kernel_rfl) (fun _ _ _ h => h) h4.out (by rfl) (fun w' hw' => run_mv (.tmp 0) rfl w') ?_
  (intro K hK; go_simp; refine hK _ ?_; clear hK K)
  refine held_take (i := 13) (v := .agg ((cells8 x).toArray)) rfl (by kernel_rfl) (by kernel_rfl) (by kernel_rfl) (fun _ _ _ h => h) h4.out (by rfl) (fun w' hw' => exec_row 23 (.tmp 18) rfl (w.heap.size + 2) rfl 23 ((cells8 x).toArray) (0, 0) _ (hX3.out.onT hw') Tryd.underlying23 rfl Fx.out.size) ?_
  (intro K hK; go_simp; refine hK _ ?_; clear hK K)
  refine held_take (i := 14) (v := .agg ((cells8 y).toArray)) rfl (by kernel_rfl) (by kernel_rfl) (by kernel_rfl) (fun _ _ _ h => h) h4.out (by rfl) (fun w' hw' => exec_row 23 (.tmp 20) rfl (w.heap.size + 3) rfl 23 ((cells8 y).toArray) (0, 0) _ (hY3.out.onT hw') Tryd.underlying23 rfl Fy.out.size) ?_
  (intro K hK; go_simp; refine hK _ ?_; clear hK K)
  refine held_only (i := 15) rfl (by kernel_rfl) (by rfl) (fun K hK => ?_)
  refine wp_buildD 2 _ rfl [x, y] hxy2.out rfl (by decide) (by decide) rfl ?_
  intro w5 g5 hR5 kk
  have h5 : Hid (Below w3.heap.size w3 w5) := h4.out.trans (kk.mono h4.out.size)
  replace hR5 := Lib.hid hR5
  clear kk
  go_simp
  refine hK _ _ h5.out ?_
  clear hK K
  refine held_only (i := 16) rfl (by kernel_rfl) (by rfl) (fun K hK => ?_)
  refine wp_fn (R := fun v w'' => v = .agg (cells8 nd).toArray ∧ Below w3.heap.size w3 w'') (args := #[.int .i64 s, .slice (some ⟨g5, 0, none⟩) 2 2]) _ _ rfl rfl Tryd.func52 (by kernel_rfl) (by kernel_rfl) ((hRt.out _ g5 (hb3.out.trans (h5.out.mono hb3.out.size)) hR5.out).mono fun e w'' ⟨he, hb⟩ => ⟨_, he, rfl, h5.out.trans (hb.mono h5.out.size)⟩) ?_
  rintro v1 w6 ⟨rfl, h6⟩
  replace h6 := Lib.hid h6
  go_simp
  refine hK _ _ h6.out ?_
  clear hK K
  refine held_take (i := 17) (v := .bool false) rfl (by kernel_rfl) (by kernel_rfl) (by kernel_rfl) (fun _ _ _ h => h) h6.out (by rfl) (fun w' hw' => run_cmp rfl rfl rfl qD (hnn.out w')) ?_
  (intro K hK; go_simp; refine hK _ ?_; clear hK K)
  refine held_take (i := 18) (v := .bool false) rfl (by kernel_rfl) (by kernel_rfl) (by kernel_rfl) (fun _ _ _ h => h) h6.out (by rfl) (fun w' hw' => by go_simp) ?_
  (intro K hK; go_simp; refine hK _ ?_; clear hK K)
  refine held_end (by kernel_rfl) ?_
  have kk := h6.out
  clear hR5 h5 h4 s0 h6 hNd hRt hN3 hnn hy1 hxy2
  have hR6 := Lib.hid (hR3.out.onT kk)
  have hS6 := Lib.hid (hS3.out.onT kk)
  have hX6 := Lib.hid (hX3.out.onT kk)
  have hY6 := Lib.hid (hY3.out.onT kk)
  have hb6 : Hid (Below w.heap.size w w6) := hb3.out.trans (kk.mono hb3.out.size)
  clear kk hR3 hS3 hX3 hY3 hb3
  go_wp2_with (first
    | ((with_reducible change wpList _ _ _ ({ dst := some 71, op := _, type := _, pos := _, after := _, guard := _ } :: _) _ _); (with_reducible refine Veil.out ?_); refine wpList_rowW (o := ⟨some 71, _, _, _, _, _⟩) rfl 23 (.tmp 15) rfl (w.heap.size) rfl 23 ((cells8 r0).toArray) (0, 0) _ hR6.out Tryd.underlying23 rfl Fr.out.size ?_)
    | ((with_reducible change wpList _ _ _ ({ dst := some 72, op := _, type := _, pos := _, after := _, guard := _ } :: _) _ _); (with_reducible refine Veil.out ?_); refine wpList_rowW (o := ⟨some 72, _, _, _, _, _⟩) rfl 23 (.tmp 16) rfl (w.heap.size + 1) rfl 23 ((cells8 r1).toArray) (0, 0) _ hS6.out Tryd.underlying23 rfl Fs.out.size ?_)
    | (go_at_call 25; refine (hAg.out _ hb6.out).mono ?_; rintro e w7 ⟨rfl, kk⟩; clear hAg; have hR7 := Lib.hid (hR6.out.onT kk); have hS7 := Lib.hid (hS6.out.onT kk); have hX7 := Lib.hid (hX6.out.onT kk); have hY7 := Lib.hid (hY6.out.onT kk); have hb7 : Hid (Below w.heap.size w w7) := hb6.out.trans (kk.mono hb6.out.size); clear kk hR6 hS6 hX6 hY6 hb6)
    | ((with_reducible change wpList _ _ _ ({ dst := some 81, op := _, type := _, pos := _, after := _, guard := _ } :: _) _ _); refine wpList_load_row (o := ⟨some 81, _, _, _, _, _⟩) rfl 23 (.tmp 18) rfl (w.heap.size + 2) rfl 23 ((cells8 x).toArray) (0, 0) _ hX7.out Tryd.underlying23 rfl Fx.out.size ?_)
    | (go_at_call 20; refine (hI1.out _ hb7.out).mono ?_; rintro e w8 ⟨rfl, kk⟩; clear hI1; have hR8 := Lib.hid (hR7.out.onT kk); have hS8 := Lib.hid (hS7.out.onT kk); have hX8 := Lib.hid (hX7.out.onT kk); have hY8 := Lib.hid (hY7.out.onT kk); have hb8 : Hid (Below w.heap.size w w8) := hb7.out.trans (kk.mono hb7.out.size); clear kk hR7 hS7 hX7 hY7 hb7)
    | ((with_reducible change wpList _ _ _ ({ dst := none, op := Op.store 23 (.tmp 25) _, type := _, pos := _, after := _, guard := _ } :: _) _ _); refine wpList_store_whole (o := ⟨none, _, _, _, _, _⟩) rfl 23 (.tmp 25) (.tmp 84) rfl (w8.heap.size) ((cells8 a1).toArray) rfl rfl 23 (Z32) (Blk.new w8 _ _) F1.out.size F1.out.zero F1.out.one ?_; intro w9 hP9 kq; have kk := kept_fresh kq; replace hP9 := Lib.hid hP9; clear kq; have hR9 := Lib.hid (hR8.out.onT kk); have hS9 := Lib.hid (hS8.out.onT kk); have hX9 := Lib.hid (hX8.out.onT kk); have hY9 := Lib.hid (hY8.out.onT kk); have hb9 : Hid (Below w.heap.size w w9) := hb8.out.trans (kk.mono hb8.out.size); clear kk hR8 hS8 hX8 hY8 hb8)
    | ((with_reducible change wpList _ _ _ ({ dst := some 90, op := _, type := _, pos := _, after := _, guard := _ } :: _) _ _); refine wpList_load_row (o := ⟨some 90, _, _, _, _, _⟩) rfl 23 (.tmp 20) rfl (w.heap.size + 3) rfl 23 ((cells8 y).toArray) (0, 0) _ hY9.out Tryd.underlying23 rfl Fy.out.size ?_)
    | (go_at_call 20; refine (hI2.out _ hb9.out).mono ?_; rintro e w10 ⟨rfl, kk⟩; clear hI2; have hR10 := Lib.hid (hR9.out.onT kk); have hS10 := Lib.hid (hS9.out.onT kk); have hX10 := Lib.hid (hX9.out.onT kk); have hY10 := Lib.hid (hY9.out.onT kk); have hP10 := Lib.hid (hP9.out.onT kk); have hb10 : Hid (Below w.heap.size w w10) := hb9.out.trans (kk.mono hb9.out.size); clear kk hR9 hS9 hX9 hY9 hP9 hb9)
    | ((with_reducible change wpList _ _ _ ({ dst := none, op := Op.store 23 (.tmp 27) _, type := _, pos := _, after := _, guard := _ } :: _) _ _); refine wpList_store_whole (o := ⟨none, _, _, _, _, _⟩) rfl 23 (.tmp 27) (.tmp 93) rfl (w10.heap.size) ((cells8 a2).toArray) rfl rfl 23 (Z32) (Blk.new w10 _ _) F2.out.size F2.out.zero F2.out.one ?_; intro w11 hQ11 kq; have kk := kept_fresh kq; replace hQ11 := Lib.hid hQ11; clear kq; have hR11 := Lib.hid (hR10.out.onT kk); have hS11 := Lib.hid (hS10.out.onT kk); have hX11 := Lib.hid (hX10.out.onT kk); have hY11 := Lib.hid (hY10.out.onT kk); have hP11 := Lib.hid (hP10.out.onT kk); have hb11 : Hid (Below w.heap.size w w11) := hb10.out.trans (kk.mono hb10.out.size); clear kk hR10 hS10 hX10 hY10 hP10 hb10)
    | ((with_reducible change wpList _ _ _ ({ dst := some 102, op := _, type := _, pos := _, after := _, guard := _ } :: _) _ _); (with_reducible refine Veil.out ?_); refine wpList_rowW (o := ⟨some 102, _, _, _, _, _⟩) rfl 23 (.tmp 25) rfl (w8.heap.size) rfl 23 ((cells8 a1).toArray) (0, 0) _ hP11.out Tryd.underlying23 rfl F1.out.size ?_)
    | ((with_reducible change wpList _ _ _ ({ dst := some 103, op := _, type := _, pos := _, after := _, guard := _ } :: _) _ _); (with_reducible refine Veil.out ?_); refine wpList_rowW (o := ⟨some 103, _, _, _, _, _⟩) rfl 23 (.tmp 15) rfl (w.heap.size) rfl 23 ((cells8 r0).toArray) (0, 0) _ hR11.out Tryd.underlying23 rfl Fr.out.size ?_)
    | ((with_reducible change wpList _ _ _ ({ dst := some 107, op := _, type := _, pos := _, after := _, guard := _ } :: _) _ _); (with_reducible refine Veil.out ?_); refine wpList_rowW (o := ⟨some 107, _, _, _, _, _⟩) rfl 23 (.tmp 27) rfl (w10.heap.size) rfl 23 ((cells8 a2).toArray) (0, 0) _ hQ11.out Tryd.underlying23 rfl F2.out.size ?_)
    | ((with_reducible change wpList _ _ _ ({ dst := some 108, op := _, type := _, pos := _, after := _, guard := _ } :: _) _ _); (with_reducible refine Veil.out ?_); refine wpList_rowW (o := ⟨some 108, _, _, _, _, _⟩) rfl 23 (.tmp 16) rfl (w.heap.size + 1) rfl 23 ((cells8 r1).toArray) (0, 0) _ hS11.out Tryd.underlying23 rfl Fs.out.size ?_)
    | ((with_reducible change wpList _ _ _ ({ dst := some 112, op := _, type := _, pos := _, after := _, guard := _ } :: _) _ _); (with_reducible refine Veil.out ?_); refine wpList_rowW (o := ⟨some 112, _, _, _, _, _⟩) rfl 23 (.tmp 18) rfl (w.heap.size + 2) rfl 23 ((cells8 x).toArray) (0, 0) _ hX11.out Tryd.underlying23 rfl Fx.out.size ?_)
    | ((with_reducible change wpList _ _ _ ({ dst := some 113, op := _, type := _, pos := _, after := _, guard := _ } :: _) _ _); (with_reducible refine Veil.out ?_); refine wpList_rowW (o := ⟨some 113, _, _, _, _, _⟩) rfl 23 (.tmp 20) rfl (w.heap.size + 3) rfl 23 ((cells8 y).toArray) (0, 0) _ hY11.out Tryd.underlying23 rfl Fy.out.size ?_))
  go_ret
  exact ⟨rfl, hb11.out⟩

set_option maxRecDepth 100000 in
set_option maxHeartbeats 8000000 in
theorem tt_e2 (s old size i : Int) (r0 r1 x y : Text) (h0 : r0.length = 32) (h1 : r1.length = 32) (hx : x.length = 32) (hy : y.length = 32) (n m k : Nat) (A B C : Option Addr) (c d f : Nat) (w : World) (nd a1 a2 : Text) (hnl : nd.length = 32) (hl1 : a1.length = 32) (hl2 : a2.length = 32) (k0 k1 k2 : Int)
    (hI0 : Hid (∀ w' g, Below w.heap.size w w' → RdD w' (some ⟨g, 0, none⟩) 1 [y] → Calls Tryd.prog 20 #[.int .i64 s, .int .i64 2, .int .i64 0, .agg (cells8 x).toArray, .slice (some ⟨g, 0, none⟩) 1 1] w' fun e w'' => e = .returned (.tuple #[.agg (cells8 nd).toArray, .int .i64 0]) ∧ Below w'.heap.size w' w''))
    (hNd : Hid (∀ w', Calls Tryd.prog 51 #[.int .i64 s, .agg (cells8 x).toArray, .agg (cells8 y).toArray] w' fun e w'' => e = .returned (.agg (cells8 nd).toArray) ∧ Below w'.heap.size w' w''))
    (hRt : Hid (∀ w' g, Below w.heap.size w w' → RdD w' (some ⟨g, 0, none⟩) 2 [x, y] → Calls Tryd.prog 52 #[.int .i64 s, .slice (some ⟨g, 0, none⟩) 2 2] w' fun e w'' => e = .returned (.agg (cells8 nd).toArray) ∧ Below w'.heap.size w' w''))
    (hAg : Hid (∀ w', Below w.heap.size w w' → Calls Tryd.prog 25 #[.int .i64 s, .int .i64 old, .int .i64 size, .agg (cells8 r0).toArray, .agg (cells8 r1).toArray, .slice A n c] w' fun e w'' => e = .returned (.int .i64 k0) ∧ Below w'.heap.size w' w''))
    (hI1 : Hid (∀ w', Below w.heap.size w w' → Calls Tryd.prog 20 #[.int .i64 s, .int .i64 old, .int .i64 i, .agg (cells8 x).toArray, .slice B m d] w' fun e w'' => e = .returned (.tuple #[.agg (cells8 a1).toArray, .int .i64 k1]) ∧ Below w'.heap.size w' w''))
    (hI2 : Hid (∀ w', Below w.heap.size w w' → Calls Tryd.prog 20 #[.int .i64 s, .int .i64 size, .int .i64 i, .agg (cells8 y).toArray, .slice C k f] w' fun e w'' => e = .returned (.tuple #[.agg (cells8 a2).toArray, .int .i64 k2]) ∧ Below w'.heap.size w' w'')) (z : ¬ old < 1) (z0 : k0 = 0) (z1 : k1 = 0) (z2 : ¬ k2 = 0) :
    Calls Tryd.prog 11 #[.int .i64 s, .int .i64 old, .int .i64 size, .int .i64 i, .agg (cells8 r0).toArray, .agg (cells8 r1).toArray, .slice A n c, .agg (cells8 x).toArray, .slice B m d, .agg (cells8 y).toArray, .slice C k f] w fun e w' => e = .returned (.bool true) ∧ Below w.heap.size w w' := by
  have hb : Hid (Below w.heap.size w ((((w.alloc (.cells (cells8 r0).toArray 23)).alloc (.cells (cells8 r1).toArray 23)).alloc (.cells (cells8 x).toArray 23)).alloc (.cells (cells8 y).toArray 23))) := (((Below.heap_below w _).alloc (by simp) _).alloc (by simp; omega) _).alloc (by simp; omega) _
  have hR : Hid (Blk ((((w.alloc (.cells (cells8 r0).toArray 23)).alloc (.cells (cells8 r1).toArray 23)).alloc (.cells (cells8 x).toArray 23)).alloc (.cells (cells8 y).toArray 23)) w.heap.size 23 (cells8 r0).toArray) := (((Blk.new w _ _).alloc _).alloc _).alloc _
  have hS : Hid (Blk ((((w.alloc (.cells (cells8 r0).toArray 23)).alloc (.cells (cells8 r1).toArray 23)).alloc (.cells (cells8 x).toArray 23)).alloc (.cells (cells8 y).toArray 23)) (w.heap.size + 1) 23 (cells8 r1).toArray) := by
    have := ((Blk.new (w.alloc (.cells (cells8 r0).toArray 23)) 23 (cells8 r1).toArray).alloc (.cells (cells8 x).toArray 23)).alloc (.cells (cells8 y).toArray 23)
    rwa [show (w.alloc (.cells (cells8 r0).toArray 23)).heap.size = w.heap.size + 1 by simp] at this
  have hX : Hid (Blk ((((w.alloc (.cells (cells8 r0).toArray 23)).alloc (.cells (cells8 r1).toArray 23)).alloc (.cells (cells8 x).toArray 23)).alloc (.cells (cells8 y).toArray 23)) (w.heap.size + 2) 23 (cells8 x).toArray) := by
    have := (heap_alloc2_new (w.alloc (.cells (cells8 r0).toArray 23)) (.cells (cells8 r1).toArray 23) (.cells (cells8 x).toArray 23)).trans rfl
    have := Blk.alloc (t := 23) (cs := (cells8 x).toArray) this (.cells (cells8 y).toArray 23)
    rwa [show (w.alloc (.cells (cells8 r0).toArray 23)).heap.size = w.heap.size + 1 by simp] at this
  have hY : Hid (Blk ((((w.alloc (.cells (cells8 r0).toArray 23)).alloc (.cells (cells8 r1).toArray 23)).alloc (.cells (cells8 x).toArray 23)).alloc (.cells (cells8 y).toArray 23)) (w.heap.size + 3) 23 (cells8 y).toArray) := by
    have := heap_alloc2_new ((w.alloc (.cells (cells8 r0).toArray 23)).alloc (.cells (cells8 r1).toArray 23)) (.cells (cells8 x).toArray 23) (.cells (cells8 y).toArray 23)
    rwa [show ((w.alloc (.cells (cells8 r0).toArray 23)).alloc (.cells (cells8 r1).toArray 23)).heap.size = w.heap.size + 2 by simp] at this
  have Fr := Lib.hid (fit (x := r0) h0)
  have Fs := Lib.hid (fit (x := r1) h1)
  have Fx := Lib.hid (fit (x := x) hx)
  have Fy := Lib.hid (fit (x := y) hy)
  have Fn := Lib.hid (fit (x := nd) hnl)
  have F1 := Lib.hid (fit (x := a1) hl1)
  have F2 := Lib.hid (fit (x := a2) hl2)
  have hnn : Hid (∀ w', (binOp .neq 23 (.agg (cells8 nd).toArray) (.agg (cells8 nd).toArray)).run Tryd.prog w' = .ok (.bool false) w') := fun w' => (neq_dig nd nd hnl hnl w').trans (by simp)
  have hy1 : Hid (Digs [y]) := by show Digs _; intro q hq; obtain rfl := List.mem_singleton.1 hq; exact hy
  have hxy2 : Hid (Digs [x, y]) := by show Digs _; intro q hq; rcases List.mem_cons.1 hq with rfl | hq; exact hx; obtain rfl := List.mem_singleton.1 hq; exact hy
  subst z0 z1
  clear h0 h1 hx hy hnl hl1 hl2
  have yz : (old < 1) = False := eq_false z
  clear z
  go_enter Tryd.func11, Tryd.ntmps11
  go_wp2_with (first
    | ((with_reducible change wpList _ _ _ ({ dst := some 40, op := _, type := _, pos := _, after := _, guard := _ } :: _) _ _); refine wpList_load_row (o := ⟨some 40, _, _, _, _, _⟩) rfl 23 (.tmp 18) rfl (w.heap.size + 2) rfl 23 ((cells8 x).toArray) (0, 0) _ hX.out Tryd.underlying23 rfl Fx.out.size ?_)
    | ((with_reducible change wpList _ _ _ ({ dst := some 41, op := _, type := _, pos := _, after := _, guard := _ } :: _) _ _); refine wpList_load_row (o := ⟨some 41, _, _, _, _, _⟩) rfl 23 (.tmp 20) rfl (w.heap.size + 3) rfl 23 ((cells8 y).toArray) (0, 0) _ hY.out Tryd.underlying23 rfl Fy.out.size ?_)
    | ((with_reducible change wpList _ _ _ ({ dst := some 42, op := _, type := _, pos := _, after := _, guard := _ } :: _) _ _); refine wpList_buildD (o := ⟨some 42, _, _, _, _, _⟩) rfl 1 _ rfl [y] hy1.out rfl (by decide) (by decide) rfl ?_; intro w1 g1 hB1 kk; have hR1 := Lib.hid (hR.out.onT kk); have hS1 := Lib.hid (hS.out.onT kk); have hX1 := Lib.hid (hX.out.onT kk); have hY1 := Lib.hid (hY.out.onT kk); have hb1 : Hid (Below w.heap.size w w1) := hb.out.trans (kk.mono hb.out.size); clear kk hR hS hX hY hb)
    | (go_at_call 20; refine (hI0.out _ g1 hb1.out hB1).mono ?_; rintro e w2 ⟨rfl, kk⟩; clear hI0 hB1; have hR2 := Lib.hid (hR1.out.onT kk); have hS2 := Lib.hid (hS1.out.onT kk); have hX2 := Lib.hid (hX1.out.onT kk); have hY2 := Lib.hid (hY1.out.onT kk); have hb2 : Hid (Below w.heap.size w w2) := hb1.out.trans (kk.mono hb1.out.size); clear kk hR1 hS1 hX1 hY1 hb1)
    | ((with_reducible change wpList _ _ _ ({ dst := none, op := Op.store 23 (.tmp 23) _, type := _, pos := _, after := _, guard := _ } :: _) _ _); refine wpList_store_whole (o := ⟨none, _, _, _, _, _⟩) rfl 23 (.tmp 23) (.tmp 44) rfl (w2.heap.size) ((cells8 nd).toArray) rfl rfl 23 (Z32) (Blk.new w2 _ _) Fn.out.size Fn.out.zero Fn.out.one ?_; intro w3 hN3 kq; have kk := kept_fresh kq; replace hN3 := Lib.hid hN3; clear kq; have hR3 := Lib.hid (hR2.out.onT kk); have hS3 := Lib.hid (hS2.out.onT kk); have hX3 := Lib.hid (hX2.out.onT kk); have hY3 := Lib.hid (hY2.out.onT kk); have hb3 : Hid (Below w.heap.size w w3) := hb2.out.trans (kk.mono hb2.out.size); clear kk hR2 hS2 hX2 hY2 hb2))
  have s0 : Hid (Below w3.heap.size w3 w3.drew) := (Below.refl _ _).drew
  refine held_start (fun w' => Below w3.heap.size w3 w') 19 rfl (by kernel_rfl) ?_
  refine held_take (i := 0) (v := .int .i64 0) rfl (by kernel_rfl) (by kernel_rfl) (by kernel_rfl) (fun _ _ _ h => h) s0.out (by rfl) (fun w' hw' => run_mv (.tmp 24) rfl w') ?_
  (intro K hK; go_simp; refine hK _ ?_; clear hK K)
  refine held_take (i := 1) (v := .bool false) rfl (by kernel_rfl) (by kernel_rfl) (by kernel_rfl) (fun _ _ _ h => h) s0.out (by rfl) (fun w' hw' => by go_simp) ?_
  (intro K hK; go_simp; refine hK _ ?_; clear hK K)
  refine held_take (i := 2) (v := .bool false) rfl (by kernel_rfl) (by kernel_rfl) (by kernel_rfl) (fun _ _ _ h => h) s0.out (by rfl) (fun w' hw' => by go_simp) ?_
  (intro K hK; go_simp; refine hK _ ?_; clear hK K)
  refine held_take (i := 3) (v := .agg ((cells8 nd).toArray)) rfl (by kernel_rfl) (by kernel_rfl) (by kernel_rfl) (fun _ _ _ h => h) s0.out (by rfl) (fun w' hw' => exec_row 23 (.tmp 23) rfl (w2.heap.size) rfl 23 ((cells8 nd).toArray) (0, 0) _ (hN3.out.onT hw') Tryd.underlying23 rfl Fn.out.size) ?_
  (intro K hK; go_simp; refine hK _ ?_; clear hK K)
  refine held_take (i := 4) (v := .int .i64 s) rfl (by kernel_rfl) (by kernel_rfl) (by kernel_rfl) (fun _ _ _ h => h) s0.out (by rfl) (fun w' hw' => run_mv (.tmp 0) rfl w') ?_
  (intro K hK; go_simp; refine hK _ ?_; clear hK K)
  refine held_take (i := 5) (v := .agg ((cells8 x).toArray)) rfl (by kernel_rfl) (by kernel_rfl) (by kernel_rfl) (fun _ _ _ h => h) s0.out (by rfl) (fun w' hw' => exec_row 23 (.tmp 18) rfl (w.heap.size + 2) rfl 23 ((cells8 x).toArray) (0, 0) _ (hX3.out.onT hw') Tryd.underlying23 rfl Fx.out.size) ?_
  (intro K hK; go_simp; refine hK _ ?_; clear hK K)
  refine held_take (i := 6) (v := .agg ((cells8 y).toArray)) rfl (by kernel_rfl) (by kernel_rfl) (by kernel_rfl) (fun _ _ _ h => h) s0.out (by rfl) (fun w' hw' => exec_row 23 (.tmp 20) rfl (w.heap.size + 3) rfl 23 ((cells8 y).toArray) (0, 0) _ (hY3.out.onT hw') Tryd.underlying23 rfl Fy.out.size) ?_
  (intro K hK; go_simp; refine hK _ ?_; clear hK K)
  refine held_only (i := 7) rfl (by kernel_rfl) (by rfl) (fun K hK => ?_)
  refine wp_fn (R := fun v w'' => v = .agg (cells8 nd).toArray ∧ Below w3.heap.size w3 w'') (args := #[.int .i64 s, .agg (cells8 x).toArray, .agg (cells8 y).toArray]) _ _ rfl rfl Tryd.func51 (by kernel_rfl) (by kernel_rfl) ((hNd.out _).mono fun e w'' ⟨he, hb⟩ => ⟨_, he, rfl, s0.out.trans (hb.mono s0.out.size)⟩) ?_
  rintro v1 w4 ⟨rfl, h4⟩
  replace h4 := Lib.hid h4
  go_simp
  refine hK _ _ h4.out ?_
  clear hK K
  refine held_take (i := 8) (v := .bool false) rfl (by kernel_rfl) (by kernel_rfl) (by kernel_rfl) (fun _ _ _ h => h) h4.out (by rfl) (fun w' hw' => run_cmp rfl rfl rfl qD (hnn.out w')) ?_
  (intro K hK; go_simp; refine hK _ ?_; clear hK K)
  refine held_take (i := 9) (v := .bool false) rfl (by kernel_rfl) (by kernel_rfl) (by kernel_rfl) (fun _ _ _ h => h) h4.out (by rfl) (fun w' hw' => by go_simp) ?_
  (intro K hK; go_simp; refine hK _ ?_; clear hK K)
  refine held_take (i := 10) (v := .bool false) rfl (by kernel_rfl) (by kernel_rfl) (by kernel_rfl) (fun _ _ _ h => h) h4.out (by rfl) (fun w' hw' => by go_simp) ?_
  (intro K hK; go_simp; refine hK _ ?_; clear hK K)
  refine held_take (i := 11) (v := .agg ((cells8 nd).toArray)) rfl (by kernel_rfl) (by kernel_rfl) (by kernel_rfl) (fun _ _ _ h => h) h4.out (by rfl) (fun w' hw' => exec_row 23 (.tmp 23) rfl (w2.heap.size) rfl 23 ((cells8 nd).toArray) (0, 0) _ (hN3.out.onT hw') Tryd.underlying23 rfl Fn.out.size) ?_
  (intro K hK; go_simp; refine hK _ ?_; clear hK K)
  refine held_take (i := 12) (v := .int .i64 s) rfl (by kernel_rfl) (by kernel_rfl) (by kernel_rfl) (fun _ _ _ h => h) h4.out (by rfl) (fun w' hw' => run_mv (.tmp 0) rfl w') ?_
  (intro K hK; go_simp; refine hK _ ?_; clear hK K)
  refine held_take (i := 13) (v := .agg ((cells8 x).toArray)) rfl (by kernel_rfl) (by kernel_rfl) (by kernel_rfl) (fun _ _ _ h => h) h4.out (by rfl) (fun w' hw' => exec_row 23 (.tmp 18) rfl (w.heap.size + 2) rfl 23 ((cells8 x).toArray) (0, 0) _ (hX3.out.onT hw') Tryd.underlying23 rfl Fx.out.size) ?_
  (intro K hK; go_simp; refine hK _ ?_; clear hK K)
  refine held_take (i := 14) (v := .agg ((cells8 y).toArray)) rfl (by kernel_rfl) (by kernel_rfl) (by kernel_rfl) (fun _ _ _ h => h) h4.out (by rfl) (fun w' hw' => exec_row 23 (.tmp 20) rfl (w.heap.size + 3) rfl 23 ((cells8 y).toArray) (0, 0) _ (hY3.out.onT hw') Tryd.underlying23 rfl Fy.out.size) ?_
  (intro K hK; go_simp; refine hK _ ?_; clear hK K)
  refine held_only (i := 15) rfl (by kernel_rfl) (by rfl) (fun K hK => ?_)
  refine wp_buildD 2 _ rfl [x, y] hxy2.out rfl (by decide) (by decide) rfl ?_
  intro w5 g5 hR5 kk
  have h5 : Hid (Below w3.heap.size w3 w5) := h4.out.trans (kk.mono h4.out.size)
  replace hR5 := Lib.hid hR5
  clear kk
  go_simp
  refine hK _ _ h5.out ?_
  clear hK K
  refine held_only (i := 16) rfl (by kernel_rfl) (by rfl) (fun K hK => ?_)
  refine wp_fn (R := fun v w'' => v = .agg (cells8 nd).toArray ∧ Below w3.heap.size w3 w'') (args := #[.int .i64 s, .slice (some ⟨g5, 0, none⟩) 2 2]) _ _ rfl rfl Tryd.func52 (by kernel_rfl) (by kernel_rfl) ((hRt.out _ g5 (hb3.out.trans (h5.out.mono hb3.out.size)) hR5.out).mono fun e w'' ⟨he, hb⟩ => ⟨_, he, rfl, h5.out.trans (hb.mono h5.out.size)⟩) ?_
  rintro v1 w6 ⟨rfl, h6⟩
  replace h6 := Lib.hid h6
  go_simp
  refine hK _ _ h6.out ?_
  clear hK K
  refine held_take (i := 17) (v := .bool false) rfl (by kernel_rfl) (by kernel_rfl) (by kernel_rfl) (fun _ _ _ h => h) h6.out (by rfl) (fun w' hw' => run_cmp rfl rfl rfl qD (hnn.out w')) ?_
  (intro K hK; go_simp; refine hK _ ?_; clear hK K)
  refine held_take (i := 18) (v := .bool false) rfl (by kernel_rfl) (by kernel_rfl) (by kernel_rfl) (fun _ _ _ h => h) h6.out (by rfl) (fun w' hw' => by go_simp) ?_
  (intro K hK; go_simp; refine hK _ ?_; clear hK K)
  refine held_end (by kernel_rfl) ?_
  have kk := h6.out
  clear hR5 h5 h4 s0 h6 hNd hRt hN3 hnn hy1 hxy2
  have hR6 := Lib.hid (hR3.out.onT kk)
  have hS6 := Lib.hid (hS3.out.onT kk)
  have hX6 := Lib.hid (hX3.out.onT kk)
  have hY6 := Lib.hid (hY3.out.onT kk)
  have hb6 : Hid (Below w.heap.size w w6) := hb3.out.trans (kk.mono hb3.out.size)
  clear kk hR3 hS3 hX3 hY3 hb3
  go_wp2_with (first
    | ((with_reducible change wpList _ _ _ ({ dst := some 71, op := _, type := _, pos := _, after := _, guard := _ } :: _) _ _); (with_reducible refine Veil.out ?_); refine wpList_rowW (o := ⟨some 71, _, _, _, _, _⟩) rfl 23 (.tmp 15) rfl (w.heap.size) rfl 23 ((cells8 r0).toArray) (0, 0) _ hR6.out Tryd.underlying23 rfl Fr.out.size ?_)
    | ((with_reducible change wpList _ _ _ ({ dst := some 72, op := _, type := _, pos := _, after := _, guard := _ } :: _) _ _); (with_reducible refine Veil.out ?_); refine wpList_rowW (o := ⟨some 72, _, _, _, _, _⟩) rfl 23 (.tmp 16) rfl (w.heap.size + 1) rfl 23 ((cells8 r1).toArray) (0, 0) _ hS6.out Tryd.underlying23 rfl Fs.out.size ?_)
    | (go_at_call 25; refine (hAg.out _ hb6.out).mono ?_; rintro e w7 ⟨rfl, kk⟩; clear hAg; have hR7 := Lib.hid (hR6.out.onT kk); have hS7 := Lib.hid (hS6.out.onT kk); have hX7 := Lib.hid (hX6.out.onT kk); have hY7 := Lib.hid (hY6.out.onT kk); have hb7 : Hid (Below w.heap.size w w7) := hb6.out.trans (kk.mono hb6.out.size); clear kk hR6 hS6 hX6 hY6 hb6)
    | ((with_reducible change wpList _ _ _ ({ dst := some 81, op := _, type := _, pos := _, after := _, guard := _ } :: _) _ _); refine wpList_load_row (o := ⟨some 81, _, _, _, _, _⟩) rfl 23 (.tmp 18) rfl (w.heap.size + 2) rfl 23 ((cells8 x).toArray) (0, 0) _ hX7.out Tryd.underlying23 rfl Fx.out.size ?_)
    | (go_at_call 20; refine (hI1.out _ hb7.out).mono ?_; rintro e w8 ⟨rfl, kk⟩; clear hI1; have hR8 := Lib.hid (hR7.out.onT kk); have hS8 := Lib.hid (hS7.out.onT kk); have hX8 := Lib.hid (hX7.out.onT kk); have hY8 := Lib.hid (hY7.out.onT kk); have hb8 : Hid (Below w.heap.size w w8) := hb7.out.trans (kk.mono hb7.out.size); clear kk hR7 hS7 hX7 hY7 hb7)
    | ((with_reducible change wpList _ _ _ ({ dst := none, op := Op.store 23 (.tmp 25) _, type := _, pos := _, after := _, guard := _ } :: _) _ _); refine wpList_store_whole (o := ⟨none, _, _, _, _, _⟩) rfl 23 (.tmp 25) (.tmp 84) rfl (w8.heap.size) ((cells8 a1).toArray) rfl rfl 23 (Z32) (Blk.new w8 _ _) F1.out.size F1.out.zero F1.out.one ?_; intro w9 hP9 kq; have kk := kept_fresh kq; replace hP9 := Lib.hid hP9; clear kq; have hR9 := Lib.hid (hR8.out.onT kk); have hS9 := Lib.hid (hS8.out.onT kk); have hX9 := Lib.hid (hX8.out.onT kk); have hY9 := Lib.hid (hY8.out.onT kk); have hb9 : Hid (Below w.heap.size w w9) := hb8.out.trans (kk.mono hb8.out.size); clear kk hR8 hS8 hX8 hY8 hb8)
    | ((with_reducible change wpList _ _ _ ({ dst := some 90, op := _, type := _, pos := _, after := _, guard := _ } :: _) _ _); refine wpList_load_row (o := ⟨some 90, _, _, _, _, _⟩) rfl 23 (.tmp 20) rfl (w.heap.size + 3) rfl 23 ((cells8 y).toArray) (0, 0) _ hY9.out Tryd.underlying23 rfl Fy.out.size ?_)
    | (go_at_call 20; refine (hI2.out _ hb9.out).mono ?_; rintro e w10 ⟨rfl, kk⟩; clear hI2; have hR10 := Lib.hid (hR9.out.onT kk); have hS10 := Lib.hid (hS9.out.onT kk); have hX10 := Lib.hid (hX9.out.onT kk); have hY10 := Lib.hid (hY9.out.onT kk); have hP10 := Lib.hid (hP9.out.onT kk); have hb10 : Hid (Below w.heap.size w w10) := hb9.out.trans (kk.mono hb9.out.size); clear kk hR9 hS9 hX9 hY9 hP9 hb9)
    | ((with_reducible change wpList _ _ _ ({ dst := none, op := Op.store 23 (.tmp 27) _, type := _, pos := _, after := _, guard := _ } :: _) _ _); refine wpList_store_whole (o := ⟨none, _, _, _, _, _⟩) rfl 23 (.tmp 27) (.tmp 93) rfl (w10.heap.size) ((cells8 a2).toArray) rfl rfl 23 (Z32) (Blk.new w10 _ _) F2.out.size F2.out.zero F2.out.one ?_; intro w11 hQ11 kq; have kk := kept_fresh kq; replace hQ11 := Lib.hid hQ11; clear kq; have hR11 := Lib.hid (hR10.out.onT kk); have hS11 := Lib.hid (hS10.out.onT kk); have hX11 := Lib.hid (hX10.out.onT kk); have hY11 := Lib.hid (hY10.out.onT kk); have hP11 := Lib.hid (hP10.out.onT kk); have hb11 : Hid (Below w.heap.size w w11) := hb10.out.trans (kk.mono hb10.out.size); clear kk hR10 hS10 hX10 hY10 hP10 hb10)
    | ((with_reducible change wpList _ _ _ ({ dst := some 102, op := _, type := _, pos := _, after := _, guard := _ } :: _) _ _); (with_reducible refine Veil.out ?_); refine wpList_rowW (o := ⟨some 102, _, _, _, _, _⟩) rfl 23 (.tmp 25) rfl (w8.heap.size) rfl 23 ((cells8 a1).toArray) (0, 0) _ hP11.out Tryd.underlying23 rfl F1.out.size ?_)
    | ((with_reducible change wpList _ _ _ ({ dst := some 103, op := _, type := _, pos := _, after := _, guard := _ } :: _) _ _); (with_reducible refine Veil.out ?_); refine wpList_rowW (o := ⟨some 103, _, _, _, _, _⟩) rfl 23 (.tmp 15) rfl (w.heap.size) rfl 23 ((cells8 r0).toArray) (0, 0) _ hR11.out Tryd.underlying23 rfl Fr.out.size ?_)
    | ((with_reducible change wpList _ _ _ ({ dst := some 107, op := _, type := _, pos := _, after := _, guard := _ } :: _) _ _); (with_reducible refine Veil.out ?_); refine wpList_rowW (o := ⟨some 107, _, _, _, _, _⟩) rfl 23 (.tmp 27) rfl (w10.heap.size) rfl 23 ((cells8 a2).toArray) (0, 0) _ hQ11.out Tryd.underlying23 rfl F2.out.size ?_)
    | ((with_reducible change wpList _ _ _ ({ dst := some 108, op := _, type := _, pos := _, after := _, guard := _ } :: _) _ _); (with_reducible refine Veil.out ?_); refine wpList_rowW (o := ⟨some 108, _, _, _, _, _⟩) rfl 23 (.tmp 16) rfl (w.heap.size + 1) rfl 23 ((cells8 r1).toArray) (0, 0) _ hS11.out Tryd.underlying23 rfl Fs.out.size ?_)
    | ((with_reducible change wpList _ _ _ ({ dst := some 112, op := _, type := _, pos := _, after := _, guard := _ } :: _) _ _); (with_reducible refine Veil.out ?_); refine wpList_rowW (o := ⟨some 112, _, _, _, _, _⟩) rfl 23 (.tmp 18) rfl (w.heap.size + 2) rfl 23 ((cells8 x).toArray) (0, 0) _ hX11.out Tryd.underlying23 rfl Fx.out.size ?_)
    | ((with_reducible change wpList _ _ _ ({ dst := some 113, op := _, type := _, pos := _, after := _, guard := _ } :: _) _ _); (with_reducible refine Veil.out ?_); refine wpList_rowW (o := ⟨some 113, _, _, _, _, _⟩) rfl 23 (.tmp 20) rfl (w.heap.size + 3) rfl 23 ((cells8 y).toArray) (0, 0) _ hY11.out Tryd.underlying23 rfl Fy.out.size ?_))
  go_ret
  exact ⟨rfl, hb11.out⟩

set_option maxRecDepth 100000 in
set_option maxHeartbeats 8000000 in
theorem tt_a1 (s old size i : Int) (r0 r1 x y : Text) (h0 : r0.length = 32) (h1 : r1.length = 32) (hx : x.length = 32) (hy : y.length = 32) (n m k : Nat) (A B C : Option Addr) (c d f : Nat) (w : World) (nd a1 a2 : Text) (hnl : nd.length = 32) (hl1 : a1.length = 32) (hl2 : a2.length = 32) (k0 k1 k2 : Int)
    (hI0 : Hid (∀ w' g, Below w.heap.size w w' → RdD w' (some ⟨g, 0, none⟩) 1 [y] → Calls Tryd.prog 20 #[.int .i64 s, .int .i64 2, .int .i64 0, .agg (cells8 x).toArray, .slice (some ⟨g, 0, none⟩) 1 1] w' fun e w'' => e = .returned (.tuple #[.agg (cells8 nd).toArray, .int .i64 0]) ∧ Below w'.heap.size w' w''))
    (hNd : Hid (∀ w', Calls Tryd.prog 51 #[.int .i64 s, .agg (cells8 x).toArray, .agg (cells8 y).toArray] w' fun e w'' => e = .returned (.agg (cells8 nd).toArray) ∧ Below w'.heap.size w' w''))
    (hRt : Hid (∀ w' g, Below w.heap.size w w' → RdD w' (some ⟨g, 0, none⟩) 2 [x, y] → Calls Tryd.prog 52 #[.int .i64 s, .slice (some ⟨g, 0, none⟩) 2 2] w' fun e w'' => e = .returned (.agg (cells8 nd).toArray) ∧ Below w'.heap.size w' w''))
    (hAg : Hid (∀ w', Below w.heap.size w w' → Calls Tryd.prog 25 #[.int .i64 s, .int .i64 old, .int .i64 size, .agg (cells8 r0).toArray, .agg (cells8 r1).toArray, .slice A n c] w' fun e w'' => e = .returned (.int .i64 k0) ∧ Below w'.heap.size w' w''))
    (hI1 : Hid (∀ w', Below w.heap.size w w' → Calls Tryd.prog 20 #[.int .i64 s, .int .i64 old, .int .i64 i, .agg (cells8 x).toArray, .slice B m d] w' fun e w'' => e = .returned (.tuple #[.agg (cells8 a1).toArray, .int .i64 k1]) ∧ Below w'.heap.size w' w''))
    (hI2 : Hid (∀ w', Below w.heap.size w w' → Calls Tryd.prog 20 #[.int .i64 s, .int .i64 size, .int .i64 i, .agg (cells8 y).toArray, .slice C k f] w' fun e w'' => e = .returned (.tuple #[.agg (cells8 a2).toArray, .int .i64 k2]) ∧ Below w'.heap.size w' w'')) (z : ¬ old < 1) (z0 : k0 = 0) (z1 : k1 = 0) (z2 : k2 = 0) (za : ¬ a1 = r0) :
    Calls Tryd.prog 11 #[.int .i64 s, .int .i64 old, .int .i64 size, .int .i64 i, .agg (cells8 r0).toArray, .agg (cells8 r1).toArray, .slice A n c, .agg (cells8 x).toArray, .slice B m d, .agg (cells8 y).toArray, .slice C k f] w fun e w' => e = .returned (.bool true) ∧ Below w.heap.size w w' := by
  have hb : Hid (Below w.heap.size w ((((w.alloc (.cells (cells8 r0).toArray 23)).alloc (.cells (cells8 r1).toArray 23)).alloc (.cells (cells8 x).toArray 23)).alloc (.cells (cells8 y).toArray 23))) := (((Below.heap_below w _).alloc (by simp) _).alloc (by simp; omega) _).alloc (by simp; omega) _
  have hR : Hid (Blk ((((w.alloc (.cells (cells8 r0).toArray 23)).alloc (.cells (cells8 r1).toArray 23)).alloc (.cells (cells8 x).toArray 23)).alloc (.cells (cells8 y).toArray 23)) w.heap.size 23 (cells8 r0).toArray) := (((Blk.new w _ _).alloc _).alloc _).alloc _
  have hS : Hid (Blk ((((w.alloc (.cells (cells8 r0).toArray 23)).alloc (.cells (cells8 r1).toArray 23)).alloc (.cells (cells8 x).toArray 23)).alloc (.cells (cells8 y).toArray 23)) (w.heap.size + 1) 23 (cells8 r1).toArray) := by
    have := ((Blk.new (w.alloc (.cells (cells8 r0).toArray 23)) 23 (cells8 r1).toArray).alloc (.cells (cells8 x).toArray 23)).alloc (.cells (cells8 y).toArray 23)
    rwa [show (w.alloc (.cells (cells8 r0).toArray 23)).heap.size = w.heap.size + 1 by simp] at this
  have hX : Hid (Blk ((((w.alloc (.cells (cells8 r0).toArray 23)).alloc (.cells (cells8 r1).toArray 23)).alloc (.cells (cells8 x).toArray 23)).alloc (.cells (cells8 y).toArray 23)) (w.heap.size + 2) 23 (cells8 x).toArray) := by
    have := (heap_alloc2_new (w.alloc (.cells (cells8 r0).toArray 23)) (.cells (cells8 r1).toArray 23) (.cells (cells8 x).toArray 23)).trans rfl
    have := Blk.alloc (t := 23) (cs := (cells8 x).toArray) this (.cells (cells8 y).toArray 23)
    rwa [show (w.alloc (.cells (cells8 r0).toArray 23)).heap.size = w.heap.size + 1 by simp] at this
  have hY : Hid (Blk ((((w.alloc (.cells (cells8 r0).toArray 23)).alloc (.cells (cells8 r1).toArray 23)).alloc (.cells (cells8 x).toArray 23)).alloc (.cells (cells8 y).toArray 23)) (w.heap.size + 3) 23 (cells8 y).toArray) := by
    have := heap_alloc2_new ((w.alloc (.cells (cells8 r0).toArray 23)).alloc (.cells (cells8 r1).toArray 23)) (.cells (cells8 x).toArray 23) (.cells (cells8 y).toArray 23)
    rwa [show ((w.alloc (.cells (cells8 r0).toArray 23)).alloc (.cells (cells8 r1).toArray 23)).heap.size = w.heap.size + 2 by simp] at this
  have Fr := Lib.hid (fit (x := r0) h0)
  have Fs := Lib.hid (fit (x := r1) h1)
  have Fx := Lib.hid (fit (x := x) hx)
  have Fy := Lib.hid (fit (x := y) hy)
  have Fn := Lib.hid (fit (x := nd) hnl)
  have F1 := Lib.hid (fit (x := a1) hl1)
  have F2 := Lib.hid (fit (x := a2) hl2)
  have hnn : Hid (∀ w', (binOp .neq 23 (.agg (cells8 nd).toArray) (.agg (cells8 nd).toArray)).run Tryd.prog w' = .ok (.bool false) w') := fun w' => (neq_dig nd nd hnl hnl w').trans (by simp)
  have hy1 : Hid (Digs [y]) := by show Digs _; intro q hq; obtain rfl := List.mem_singleton.1 hq; exact hy
  have hxy2 : Hid (Digs [x, y]) := by show Digs _; intro q hq; rcases List.mem_cons.1 hq with rfl | hq; exact hx; obtain rfl := List.mem_singleton.1 hq; exact hy
  subst z0 z1 z2
  have q1 := neq_dig a1 r0 hl1 h0
  rw [decide_eq_false za] at q1
  simp only [Bool.not_false] at q1
  clear za
  clear h0 h1 hx hy hnl hl1 hl2
  have yz : (old < 1) = False := eq_false z
  clear z
  go_enter Tryd.func11, Tryd.ntmps11
  go_wp2_with (first
    | ((with_reducible change wpList _ _ _ ({ dst := some 40, op := _, type := _, pos := _, after := _, guard := _ } :: _) _ _); refine wpList_load_row (o := ⟨some 40, _, _, _, _, _⟩) rfl 23 (.tmp 18) rfl (w.heap.size + 2) rfl 23 ((cells8 x).toArray) (0, 0) _ hX.out Tryd.underlying23 rfl Fx.out.size ?_)
    | ((with_reducible change wpList _ _ _ ({ dst := some 41, op := _, type := _, pos := _, after := _, guard := _ } :: _) _ _); refine wpList_load_row (o := ⟨some 41, _, _, _, _, _⟩) rfl 23 (.tmp 20) rfl (w.heap.size + 3) rfl 23 ((cells8 y).toArray) (0, 0) _ hY.out Tryd.underlying23 rfl Fy.out.size ?_)
    | ((with_reducible change wpList _ _ _ ({ dst := some 42, op := _, type := _, pos := _, after := _, guard := _ } :: _) _ _); refine wpList_buildD (o := ⟨some 42, _, _, _, _, _⟩) rfl 1 _ rfl [y] hy1.out rfl (by decide) (by decide) rfl ?_; intro w1 g1 hB1 kk; have hR1 := Lib.hid (hR.out.onT kk); have hS1 := Lib.hid (hS.out.onT kk); have hX1 := Lib.hid (hX.out.onT kk); have hY1 := Lib.hid (hY.out.onT kk); have hb1 : Hid (Below w.heap.size w w1) := hb.out.trans (kk.mono hb.out.size); clear kk hR hS hX hY hb)
    | (go_at_call 20; refine (hI0.out _ g1 hb1.out hB1).mono ?_; rintro e w2 ⟨rfl, kk⟩; clear hI0 hB1; have hR2 := Lib.hid (hR1.out.onT kk); have hS2 := Lib.hid (hS1.out.onT kk); have hX2 := Lib.hid (hX1.out.onT kk); have hY2 := Lib.hid (hY1.out.onT kk); have hb2 : Hid (Below w.heap.size w w2) := hb1.out.trans (kk.mono hb1.out.size); clear kk hR1 hS1 hX1 hY1 hb1)
    | ((with_reducible change wpList _ _ _ ({ dst := none, op := Op.store 23 (.tmp 23) _, type := _, pos := _, after := _, guard := _ } :: _) _ _); refine wpList_store_whole (o := ⟨none, _, _, _, _, _⟩) rfl 23 (.tmp 23) (.tmp 44) rfl (w2.heap.size) ((cells8 nd).toArray) rfl rfl 23 (Z32) (Blk.new w2 _ _) Fn.out.size Fn.out.zero Fn.out.one ?_; intro w3 hN3 kq; have kk := kept_fresh kq; replace hN3 := Lib.hid hN3; clear kq; have hR3 := Lib.hid (hR2.out.onT kk); have hS3 := Lib.hid (hS2.out.onT kk); have hX3 := Lib.hid (hX2.out.onT kk); have hY3 := Lib.hid (hY2.out.onT kk); have hb3 : Hid (Below w.heap.size w w3) := hb2.out.trans (kk.mono hb2.out.size); clear kk hR2 hS2 hX2 hY2 hb2))
  have s0 : Hid (Below w3.heap.size w3 w3.drew) := (Below.refl _ _).drew
  refine held_start (fun w' => Below w3.heap.size w3 w') 19 rfl (by kernel_rfl) ?_
  refine held_take (i := 0) (v := .int .i64 0) rfl (by kernel_rfl) (by kernel_rfl) (by kernel_rfl) (fun _ _ _ h => h) s0.out (by rfl) (fun w' hw' => run_mv (.tmp 24) rfl w') ?_
  (intro K hK; go_simp; refine hK _ ?_; clear hK K)
  refine held_take (i := 1) (v := .bool false) rfl (by kernel_rfl) (by kernel_rfl) (by kernel_rfl) (fun _ _ _ h => h) s0.out (by rfl) (fun w' hw' => by go_simp) ?_
  (intro K hK; go_simp; refine hK _ ?_; clear hK K)
  refine held_take (i := 2) (v := .bool false) rfl (by kernel_rfl) (by kernel_rfl) (by kernel_rfl) (fun _ _ _ h => h) s0.out (by rfl) (fun w' hw' => by go_simp) ?_
  (intro K hK; go_simp; refine hK _ ?_; clear hK K)
  refine held_take (i := 3) (v := .agg ((cells8 nd).toArray)) rfl (by kernel_rfl) (by kernel_rfl) (by kernel_rfl) (fun _ _ _ h => h) s0.out (by rfl) (fun w' hw' => exec_row 23 (.tmp 23) rfl (w2.heap.size) rfl 23 ((cells8 nd).toArray) (0, 0) _ (hN3.out.onT hw') Tryd.underlying23 rfl Fn.out.size) ?_
  (intro K hK; go_simp; refine hK _ ?_; clear hK K)
  refine held_take (i := 4) (v := .int .i64 s) rfl (by kernel_rfl) (by kernel_rfl) (by kernel_rfl) (fun _ _ _ h => h) s0.out (by rfl) (fun w' hw' => run_mv (.tmp 0) rfl w') ?_
  (intro K hK; go_simp; refine hK _ ?_; clear hK K)
  refine held_take (i := 5) (v := .agg ((cells8 x).toArray)) rfl (by kernel_rfl) (by kernel_rfl) (by kernel_rfl) (fun _ _ _ h => h) s0.out (by rfl) (fun w' hw' => exec_row 23 (.tmp 18) rfl (w.heap.size + 2) rfl 23 ((cells8 x).toArray) (0, 0) _ (hX3.out.onT hw') Tryd.underlying23 rfl Fx.out.size) ?_
  (intro K hK; go_simp; refine hK _ ?_; clear hK K)
  refine held_take (i := 6) (v := .agg ((cells8 y).toArray)) rfl (by kernel_rfl) (by kernel_rfl) (by kernel_rfl) (fun _ _ _ h => h) s0.out (by rfl) (fun w' hw' => exec_row 23 (.tmp 20) rfl (w.heap.size + 3) rfl 23 ((cells8 y).toArray) (0, 0) _ (hY3.out.onT hw') Tryd.underlying23 rfl Fy.out.size) ?_
  (intro K hK; go_simp; refine hK _ ?_; clear hK K)
  refine held_only (i := 7) rfl (by kernel_rfl) (by rfl) (fun K hK => ?_)
  refine wp_fn (R := fun v w'' => v = .agg (cells8 nd).toArray ∧ Below w3.heap.size w3 w'') (args := #[.int .i64 s, .agg (cells8 x).toArray, .agg (cells8 y).toArray]) _ _ rfl rfl Tryd.func51 (by kernel_rfl) (by kernel_rfl) ((hNd.out _).mono fun e w'' ⟨he, hb⟩ => ⟨_, he, rfl, s0.out.trans (hb.mono s0.out.size)⟩) ?_
  rintro v1 w4 ⟨rfl, h4⟩
  replace h4 := Lib.hid h4
  go_simp
  refine hK _ _ h4.out ?_
  clear hK K
  refine held_take (i := 8) (v := .bool false) rfl (by kernel_rfl) (by kernel_rfl) (by kernel_rfl) (fun _ _ _ h => h) h4.out (by rfl) (fun w' hw' => run_cmp rfl rfl rfl qD (hnn.out w')) ?_
  (intro K hK; go_simp; refine hK _ ?_; clear hK K)
  refine held_take (i := 9) (v := .bool false) rfl (by kernel_rfl) (by kernel_rfl) (by kernel_rfl) (fun _ _ _ h => h) h4.out (by rfl) (fun w' hw' => by go_simp) ?_
  (intro K hK; go_simp; refine hK _ ?_; clear hK K)
  refine held_take (i := 10) (v := .bool false) rfl (by kernel_rfl) (by kernel_rfl) (by kernel_rfl) (fun _ _ _ h => h) h4.out (by rfl) (fun w' hw' => by go_simp) ?_
  (intro K hK; go_simp; refine hK _ ?_; clear hK K)
  refine held_take (i := 11) (v := .agg ((cells8 nd).toArray)) rfl (by kernel_rfl) (by kernel_rfl) (by kernel_rfl) (fun _ _ _ h => h) h4.out (by rfl) (fun w' hw' => exec_row 23 (.tmp 23) rfl (w2.heap.size) rfl 23 ((cells8 nd).toArray) (0, 0) _ (hN3.out.onT hw') Tryd.underlying23 rfl Fn.out.size) ?_
  (intro K hK; go_simp; refine hK _ ?_; clear hK K)
  refine held_take (i := 12) (v := .int .i64 s) rfl (by kernel_rfl) (by kernel_rfl) (by kernel_rfl) (fun _ _ _ h => h) h4.out (by rfl) (fun w' hw' => run_mv (.tmp 0) rfl w') ?_
  (intro K hK; go_simp; refine hK _ ?_; clear hK K)
  refine held_take (i := 13) (v := .agg ((cells8 x).toArray)) rfl (by kernel_rfl) (by kernel_rfl) (by kernel_rfl) (fun _ _ _ h => h) h4.out (by rfl) (fun w' hw' => exec_row 23 (.tmp 18) rfl (w.heap.size + 2) rfl 23 ((cells8 x).toArray) (0, 0) _ (hX3.out.onT hw') Tryd.underlying23 rfl Fx.out.size) ?_
  (intro K hK; go_simp; refine hK _ ?_; clear hK K)
  refine held_take (i := 14) (v := .agg ((cells8 y).toArray)) rfl (by kernel_rfl) (by kernel_rfl) (by kernel_rfl) (fun _ _ _ h => h) h4.out (by rfl) (fun w' hw' => exec_row 23 (.tmp 20) rfl (w.heap.size + 3) rfl 23 ((cells8 y).toArray) (0, 0) _ (hY3.out.onT hw') Tryd.underlying23 rfl Fy.out.size) ?_
  (intro K hK; go_simp; refine hK _ ?_; clear hK K)
  refine held_only (i := 15) rfl (by kernel_rfl) (by rfl) (fun K hK => ?_)
  refine wp_buildD 2 _ rfl [x, y] hxy2.out rfl (by decide) (by decide) rfl ?_
  intro w5 g5 hR5 kk
  have h5 : Hid (Below w3.heap.size w3 w5) := h4.out.trans (kk.mono h4.out.size)
  replace hR5 := Lib.hid hR5
  clear kk
  go_simp
  refine hK _ _ h5.out ?_
  clear hK K
  refine held_only (i := 16) rfl (by kernel_rfl) (by rfl) (fun K hK => ?_)
  refine wp_fn (R := fun v w'' => v = .agg (cells8 nd).toArray ∧ Below w3.heap.size w3 w'') (args := #[.int .i64 s, .slice (some ⟨g5, 0, none⟩) 2 2]) _ _ rfl rfl Tryd.func52 (by kernel_rfl) (by kernel_rfl) ((hRt.out _ g5 (hb3.out.trans (h5.out.mono hb3.out.size)) hR5.out).mono fun e w'' ⟨he, hb⟩ => ⟨_, he, rfl, h5.out.trans (hb.mono h5.out.size)⟩) ?_
  rintro v1 w6 ⟨rfl, h6⟩
  replace h6 := Lib.hid h6
  go_simp
  refine hK _ _ h6.out ?_
  clear hK K
  refine held_take (i := 17) (v := .bool false) rfl (by kernel_rfl) (by kernel_rfl) (by kernel_rfl) (fun _ _ _ h => h) h6.out (by rfl) (fun w' hw' => run_cmp rfl rfl rfl qD (hnn.out w')) ?_
  (intro K hK; go_simp; refine hK _ ?_; clear hK K)
  refine held_take (i := 18) (v := .bool false) rfl (by kernel_rfl) (by kernel_rfl) (by kernel_rfl) (fun _ _ _ h => h) h6.out (by rfl) (fun w' hw' => by go_simp) ?_
  (intro K hK; go_simp; refine hK _ ?_; clear hK K)
  refine held_end (by kernel_rfl) ?_
  have kk := h6.out
  clear hR5 h5 h4 s0 h6 hNd hRt hN3 hnn hy1 hxy2
  have hR6 := Lib.hid (hR3.out.onT kk)
  have hS6 := Lib.hid (hS3.out.onT kk)
  have hX6 := Lib.hid (hX3.out.onT kk)
  have hY6 := Lib.hid (hY3.out.onT kk)
  have hb6 : Hid (Below w.heap.size w w6) := hb3.out.trans (kk.mono hb3.out.size)
  clear kk hR3 hS3 hX3 hY3 hb3
  go_wp2_with (first
    | ((with_reducible change wpList _ _ _ ({ dst := some 71, op := _, type := _, pos := _, after := _, guard := _ } :: _) _ _); (with_reducible refine Veil.out ?_); refine wpList_rowW (o := ⟨some 71, _, _, _, _, _⟩) rfl 23 (.tmp 15) rfl (w.heap.size) rfl 23 ((cells8 r0).toArray) (0, 0) _ hR6.out Tryd.underlying23 rfl Fr.out.size ?_)
    | ((with_reducible change wpList _ _ _ ({ dst := some 72, op := _, type := _, pos := _, after := _, guard := _ } :: _) _ _); (with_reducible refine Veil.out ?_); refine wpList_rowW (o := ⟨some 72, _, _, _, _, _⟩) rfl 23 (.tmp 16) rfl (w.heap.size + 1) rfl 23 ((cells8 r1).toArray) (0, 0) _ hS6.out Tryd.underlying23 rfl Fs.out.size ?_)
    | (go_at_call 25; refine (hAg.out _ hb6.out).mono ?_; rintro e w7 ⟨rfl, kk⟩; clear hAg; have hR7 := Lib.hid (hR6.out.onT kk); have hS7 := Lib.hid (hS6.out.onT kk); have hX7 := Lib.hid (hX6.out.onT kk); have hY7 := Lib.hid (hY6.out.onT kk); have hb7 : Hid (Below w.heap.size w w7) := hb6.out.trans (kk.mono hb6.out.size); clear kk hR6 hS6 hX6 hY6 hb6)
    | ((with_reducible change wpList _ _ _ ({ dst := some 81, op := _, type := _, pos := _, after := _, guard := _ } :: _) _ _); refine wpList_load_row (o := ⟨some 81, _, _, _, _, _⟩) rfl 23 (.tmp 18) rfl (w.heap.size + 2) rfl 23 ((cells8 x).toArray) (0, 0) _ hX7.out Tryd.underlying23 rfl Fx.out.size ?_)
    | (go_at_call 20; refine (hI1.out _ hb7.out).mono ?_; rintro e w8 ⟨rfl, kk⟩; clear hI1; have hR8 := Lib.hid (hR7.out.onT kk); have hS8 := Lib.hid (hS7.out.onT kk); have hX8 := Lib.hid (hX7.out.onT kk); have hY8 := Lib.hid (hY7.out.onT kk); have hb8 : Hid (Below w.heap.size w w8) := hb7.out.trans (kk.mono hb7.out.size); clear kk hR7 hS7 hX7 hY7 hb7)
    | ((with_reducible change wpList _ _ _ ({ dst := none, op := Op.store 23 (.tmp 25) _, type := _, pos := _, after := _, guard := _ } :: _) _ _); refine wpList_store_whole (o := ⟨none, _, _, _, _, _⟩) rfl 23 (.tmp 25) (.tmp 84) rfl (w8.heap.size) ((cells8 a1).toArray) rfl rfl 23 (Z32) (Blk.new w8 _ _) F1.out.size F1.out.zero F1.out.one ?_; intro w9 hP9 kq; have kk := kept_fresh kq; replace hP9 := Lib.hid hP9; clear kq; have hR9 := Lib.hid (hR8.out.onT kk); have hS9 := Lib.hid (hS8.out.onT kk); have hX9 := Lib.hid (hX8.out.onT kk); have hY9 := Lib.hid (hY8.out.onT kk); have hb9 : Hid (Below w.heap.size w w9) := hb8.out.trans (kk.mono hb8.out.size); clear kk hR8 hS8 hX8 hY8 hb8)
    | ((with_reducible change wpList _ _ _ ({ dst := some 90, op := _, type := _, pos := _, after := _, guard := _ } :: _) _ _); refine wpList_load_row (o := ⟨some 90, _, _, _, _, _⟩) rfl 23 (.tmp 20) rfl (w.heap.size + 3) rfl 23 ((cells8 y).toArray) (0, 0) _ hY9.out Tryd.underlying23 rfl Fy.out.size ?_)
    | (go_at_call 20; refine (hI2.out _ hb9.out).mono ?_; rintro e w10 ⟨rfl, kk⟩; clear hI2; have hR10 := Lib.hid (hR9.out.onT kk); have hS10 := Lib.hid (hS9.out.onT kk); have hX10 := Lib.hid (hX9.out.onT kk); have hY10 := Lib.hid (hY9.out.onT kk); have hP10 := Lib.hid (hP9.out.onT kk); have hb10 : Hid (Below w.heap.size w w10) := hb9.out.trans (kk.mono hb9.out.size); clear kk hR9 hS9 hX9 hY9 hP9 hb9)
    | ((with_reducible change wpList _ _ _ ({ dst := none, op := Op.store 23 (.tmp 27) _, type := _, pos := _, after := _, guard := _ } :: _) _ _); refine wpList_store_whole (o := ⟨none, _, _, _, _, _⟩) rfl 23 (.tmp 27) (.tmp 93) rfl (w10.heap.size) ((cells8 a2).toArray) rfl rfl 23 (Z32) (Blk.new w10 _ _) F2.out.size F2.out.zero F2.out.one ?_; intro w11 hQ11 kq; have kk := kept_fresh kq; replace hQ11 := Lib.hid hQ11; clear kq; have hR11 := Lib.hid (hR10.out.onT kk); have hS11 := Lib.hid (hS10.out.onT kk); have hX11 := Lib.hid (hX10.out.onT kk); have hY11 := Lib.hid (hY10.out.onT kk); have hP11 := Lib.hid (hP10.out.onT kk); have hb11 : Hid (Below w.heap.size w w11) := hb10.out.trans (kk.mono hb10.out.size); clear kk hR10 hS10 hX10 hY10 hP10 hb10)
    | ((with_reducible change wpList _ _ _ ({ dst := some 102, op := _, type := _, pos := _, after := _, guard := _ } :: _) _ _); (with_reducible refine Veil.out ?_); refine wpList_rowW (o := ⟨some 102, _, _, _, _, _⟩) rfl 23 (.tmp 25) rfl (w8.heap.size) rfl 23 ((cells8 a1).toArray) (0, 0) _ hP11.out Tryd.underlying23 rfl F1.out.size ?_)
    | ((with_reducible change wpList _ _ _ ({ dst := some 103, op := _, type := _, pos := _, after := _, guard := _ } :: _) _ _); (with_reducible refine Veil.out ?_); refine wpList_rowW (o := ⟨some 103, _, _, _, _, _⟩) rfl 23 (.tmp 15) rfl (w.heap.size) rfl 23 ((cells8 r0).toArray) (0, 0) _ hR11.out Tryd.underlying23 rfl Fr.out.size ?_)
    | ((with_reducible change wpList _ _ _ ({ dst := some 107, op := _, type := _, pos := _, after := _, guard := _ } :: _) _ _); (with_reducible refine Veil.out ?_); refine wpList_rowW (o := ⟨some 107, _, _, _, _, _⟩) rfl 23 (.tmp 27) rfl (w10.heap.size) rfl 23 ((cells8 a2).toArray) (0, 0) _ hQ11.out Tryd.underlying23 rfl F2.out.size ?_)
    | ((with_reducible change wpList _ _ _ ({ dst := some 108, op := _, type := _, pos := _, after := _, guard := _ } :: _) _ _); (with_reducible refine Veil.out ?_); refine wpList_rowW (o := ⟨some 108, _, _, _, _, _⟩) rfl 23 (.tmp 16) rfl (w.heap.size + 1) rfl 23 ((cells8 r1).toArray) (0, 0) _ hS11.out Tryd.underlying23 rfl Fs.out.size ?_)
    | ((with_reducible change wpList _ _ _ ({ dst := some 112, op := _, type := _, pos := _, after := _, guard := _ } :: _) _ _); (with_reducible refine Veil.out ?_); refine wpList_rowW (o := ⟨some 112, _, _, _, _, _⟩) rfl 23 (.tmp 18) rfl (w.heap.size + 2) rfl 23 ((cells8 x).toArray) (0, 0) _ hX11.out Tryd.underlying23 rfl Fx.out.size ?_)
    | ((with_reducible change wpList _ _ _ ({ dst := some 113, op := _, type := _, pos := _, after := _, guard := _ } :: _) _ _); (with_reducible refine Veil.out ?_); refine wpList_rowW (o := ⟨some 113, _, _, _, _, _⟩) rfl 23 (.tmp 20) rfl (w.heap.size + 3) rfl 23 ((cells8 y).toArray) (0, 0) _ hY11.out Tryd.underlying23 rfl Fy.out.size ?_))
  go_ret
  exact ⟨rfl, hb11.out⟩

set_option maxRecDepth 100000 in
set_option maxHeartbeats 8000000 in
theorem tt_a2 (s old size i : Int) (r0 r1 x y : Text) (h0 : r0.length = 32) (h1 : r1.length = 32) (hx : x.length = 32) (hy : y.length = 32) (n m k : Nat) (A B C : Option Addr) (c d f : Nat) (w : World) (nd a1 a2 : Text) (hnl : nd.length = 32) (hl1 : a1.length = 32) (hl2 : a2.length = 32) (k0 k1 k2 : Int)
    (hI0 : Hid (∀ w' g, Below w.heap.size w w' → RdD w' (some ⟨g, 0, none⟩) 1 [y] → Calls Tryd.prog 20 #[.int .i64 s, .int .i64 2, .int .i64 0, .agg (cells8 x).toArray, .slice (some ⟨g, 0, none⟩) 1 1] w' fun e w'' => e = .returned (.tuple #[.agg (cells8 nd).toArray, .int .i64 0]) ∧ Below w'.heap.size w' w''))
    (hNd : Hid (∀ w', Calls Tryd.prog 51 #[.int .i64 s, .agg (cells8 x).toArray, .agg (cells8 y).toArray] w' fun e w'' => e = .returned (.agg (cells8 nd).toArray) ∧ Below w'.heap.size w' w''))
    (hRt : Hid (∀ w' g, Below w.heap.size w w' → RdD w' (some ⟨g, 0, none⟩) 2 [x, y] → Calls Tryd.prog 52 #[.int .i64 s, .slice (some ⟨g, 0, none⟩) 2 2] w' fun e w'' => e = .returned (.agg (cells8 nd).toArray) ∧ Below w'.heap.size w' w''))
    (hAg : Hid (∀ w', Below w.heap.size w w' → Calls Tryd.prog 25 #[.int .i64 s, .int .i64 old, .int .i64 size, .agg (cells8 r0).toArray, .agg (cells8 r1).toArray, .slice A n c] w' fun e w'' => e = .returned (.int .i64 k0) ∧ Below w'.heap.size w' w''))
    (hI1 : Hid (∀ w', Below w.heap.size w w' → Calls Tryd.prog 20 #[.int .i64 s, .int .i64 old, .int .i64 i, .agg (cells8 x).toArray, .slice B m d] w' fun e w'' => e = .returned (.tuple #[.agg (cells8 a1).toArray, .int .i64 k1]) ∧ Below w'.heap.size w' w''))
    (hI2 : Hid (∀ w', Below w.heap.size w w' → Calls Tryd.prog 20 #[.int .i64 s, .int .i64 size, .int .i64 i, .agg (cells8 y).toArray, .slice C k f] w' fun e w'' => e = .returned (.tuple #[.agg (cells8 a2).toArray, .int .i64 k2]) ∧ Below w'.heap.size w' w'')) (z : ¬ old < 1) (z0 : k0 = 0) (z1 : k1 = 0) (z2 : k2 = 0) (za : a1 = r0) (zb : ¬ a2 = r1) :
    Calls Tryd.prog 11 #[.int .i64 s, .int .i64 old, .int .i64 size, .int .i64 i, .agg (cells8 r0).toArray, .agg (cells8 r1).toArray, .slice A n c, .agg (cells8 x).toArray, .slice B m d, .agg (cells8 y).toArray, .slice C k f] w fun e w' => e = .returned (.bool true) ∧ Below w.heap.size w w' := by
  have hb : Hid (Below w.heap.size w ((((w.alloc (.cells (cells8 r0).toArray 23)).alloc (.cells (cells8 r1).toArray 23)).alloc (.cells (cells8 x).toArray 23)).alloc (.cells (cells8 y).toArray 23))) := (((Below.heap_below w _).alloc (by simp) _).alloc (by simp; omega) _).alloc (by simp; omega) _
  have hR : Hid (Blk ((((w.alloc (.cells (cells8 r0).toArray 23)).alloc (.cells (cells8 r1).toArray 23)).alloc (.cells (cells8 x).toArray 23)).alloc (.cells (cells8 y).toArray 23)) w.heap.size 23 (cells8 r0).toArray) := (((Blk.new w _ _).alloc _).alloc _).alloc _
  have hS : Hid (Blk ((((w.alloc (.cells (cells8 r0).toArray 23)).alloc (.cells (cells8 r1).toArray 23)).alloc (.cells (cells8 x).toArray 23)).alloc (.cells (cells8 y).toArray 23)) (w.heap.size + 1) 23 (cells8 r1).toArray) := by
    have := ((Blk.new (w.alloc (.cells (cells8 r0).toArray 23)) 23 (cells8 r1).toArray).alloc (.cells (cells8 x).toArray 23)).alloc (.cells (cells8 y).toArray 23)
    rwa [show (w.alloc (.cells (cells8 r0).toArray 23)).heap.size = w.heap.size + 1 by simp] at this
  have hX : Hid (Blk ((((w.alloc (.cells (cells8 r0).toArray 23)).alloc (.cells (cells8 r1).toArray 23)).alloc (.cells (cells8 x).toArray 23)).alloc (.cells (cells8 y).toArray 23)) (w.heap.size + 2) 23 (cells8 x).toArray) := by
    have := (heap_alloc2_new (w.alloc (.cells (cells8 r0).toArray 23)) (.cells (cells8 r1).toArray 23) (.cells (cells8 x).toArray 23)).trans rfl
    have := Blk.alloc (t := 23) (cs := (cells8 x).toArray) this (.cells (cells8 y).toArray 23)
    rwa [show (w.alloc (.cells (cells8 r0).toArray 23)).heap.size = w.heap.size + 1 by simp] at this
  have hY : Hid (Blk ((((w.alloc (.cells (cells8 r0).toArray 23)).alloc (.cells (cells8 r1).toArray 23)).alloc (.cells (cells8 x).toArray 23)).alloc (.cells (cells8 y).toArray 23)) (w.heap.size + 3) 23 (cells8 y).toArray) := by
    have := heap_alloc2_new ((w.alloc (.cells (cells8 r0).toArray 23)).alloc (.cells (cells8 r1).toArray 23)) (.cells (cells8 x).toArray 23) (.cells (cells8 y).toArray 23)
    rwa [show ((w.alloc (.cells (cells8 r0).toArray 23)).alloc (.cells (cells8 r1).toArray 23)).heap.size = w.heap.size + 2 by simp] at this
  have Fr := Lib.hid (fit (x := r0) h0)
  have Fs := Lib.hid (fit (x := r1) h1)
  have Fx := Lib.hid (fit (x := x) hx)
  have Fy := Lib.hid (fit (x := y) hy)
  have Fn := Lib.hid (fit (x := nd) hnl)
  have F1 := Lib.hid (fit (x := a1) hl1)
  have F2 := Lib.hid (fit (x := a2) hl2)
  have hnn : Hid (∀ w', (binOp .neq 23 (.agg (cells8 nd).toArray) (.agg (cells8 nd).toArray)).run Tryd.prog w' = .ok (.bool false) w') := fun w' => (neq_dig nd nd hnl hnl w').trans (by simp)
  have hy1 : Hid (Digs [y]) := by show Digs _; intro q hq; obtain rfl := List.mem_singleton.1 hq; exact hy
  have hxy2 : Hid (Digs [x, y]) := by show Digs _; intro q hq; rcases List.mem_cons.1 hq with rfl | hq; exact hx; obtain rfl := List.mem_singleton.1 hq; exact hy
  subst z0 z1 z2
  have q1 := neq_dig a1 r0 hl1 h0
  rw [decide_eq_true za] at q1
  simp only [Bool.not_true] at q1
  clear za
  have q2 := neq_dig a2 r1 hl2 h1
  rw [decide_eq_false zb] at q2
  simp only [Bool.not_false] at q2
  clear zb
  clear h0 h1 hx hy hnl hl1 hl2
  have yz : (old < 1) = False := eq_false z
  clear z
  go_enter Tryd.func11, Tryd.ntmps11
  go_wp2_with (first
    | ((with_reducible change wpList _ _ _ ({ dst := some 40, op := _, type := _, pos := _, after := _, guard := _ } :: _) _ _); refine wpList_load_row (o := ⟨some 40, _, _, _, _, _⟩) rfl 23 (.tmp 18) rfl (w.heap.size + 2) rfl 23 ((cells8 x).toArray) (0, 0) _ hX.out Tryd.underlying23 rfl Fx.out.size ?_)
    | ((with_reducible change wpList _ _ _ ({ dst := some 41, op := _, type := _, pos := _, after := _, guard := _ } :: _) _ _); refine wpList_load_row (o := ⟨some 41, _, _, _, _, _⟩) rfl 23 (.tmp 20) rfl (w.heap.size + 3) rfl 23 ((cells8 y).toArray) (0, 0) _ hY.out Tryd.underlying23 rfl Fy.out.size ?_)
    | ((with_reducible change wpList _ _ _ ({ dst := some 42, op := _, type := _, pos := _, after := _, guard := _ } :: _) _ _); refine wpList_buildD (o := ⟨some 42, _, _, _, _, _⟩) rfl 1 _ rfl [y] hy1.out rfl (by decide) (by decide) rfl ?_; intro w1 g1 hB1 kk; have hR1 := Lib.hid (hR.out.onT kk); have hS1 := Lib.hid (hS.out.onT kk); have hX1 := Lib.hid (hX.out.onT kk); have hY1 := Lib.hid (hY.out.onT kk); have hb1 : Hid (Below w.heap.size w w1) := hb.out.trans (kk.mono hb.out.size); clear kk hR hS hX hY hb)
    | (go_at_call 20; refine (hI0.out _ g1 hb1.out hB1).mono ?_; rintro e w2 ⟨rfl, kk⟩; clear hI0 hB1; have hR2 := Lib.hid (hR1.out.onT kk); have hS2 := Lib.hid (hS1.out.onT kk); have hX2 := Lib.hid (hX1.out.onT kk); have hY2 := Lib.hid (hY1.out.onT kk); have hb2 : Hid (Below w.heap.size w w2) := hb1.out.trans (kk.mono hb1.out.size); clear kk hR1 hS1 hX1 hY1 hb1)
    | ((with_reducible change wpList _ _ _ ({ dst := none, op := Op.store 23 (.tmp 23) _, type := _, pos := _, after := _, guard := _ } :: _) _ _); refine wpList_store_whole (o := ⟨none, _, _, _, _, _⟩) rfl 23 (.tmp 23) (.tmp 44) rfl (w2.heap.size) ((cells8 nd).toArray) rfl rfl 23 (Z32) (Blk.new w2 _ _) Fn.out.size Fn.out.zero Fn.out.one ?_; intro w3 hN3 kq; have kk := kept_fresh kq; replace hN3 := Lib.hid hN3; clear kq; have hR3 := Lib.hid (hR2.out.onT kk); have hS3 := Lib.hid (hS2.out.onT kk); have hX3 := Lib.hid (hX2.out.onT kk); have hY3 := Lib.hid (hY2.out.onT kk); have hb3 : Hid (Below w.heap.size w w3) := hb2.out.trans (kk.mono hb2.out.size); clear kk hR2 hS2 hX2 hY2 hb2))
  have s0 : Hid (Below w3.heap.size w3 w3.drew) := (Below.refl _ _).drew
  refine held_start (fun w' => Below w3.heap.size w3 w') 19 rfl (by kernel_rfl) ?_
  refine held_take (i := 0) (v := .int .i64 0) rfl (by kernel_rfl) (by kernel_rfl) (by kernel_rfl) (fun _ _ _ h => h) s0.out (by rfl) (fun w' hw' => run_mv (.tmp 24) rfl w') ?_
  (intro K hK; go_simp; refine hK _ ?_; clear hK K)
  refine held_take (i := 1) (v := .bool false) rfl (by kernel_rfl) (by kernel_rfl) (by kernel_rfl) (fun _ _ _ h => h) s0.out (by rfl) (fun w' hw' => by go_simp) ?_
  (intro K hK; go_simp; refine hK _ ?_; clear hK K)
  refine held_take (i := 2) (v := .bool false) rfl (by kernel_rfl) (by kernel_rfl) (by kernel_rfl) (fun _ _ _ h => h) s0.out (by rfl) (fun w' hw' => by go_simp) ?_
  (intro K hK; go_simp; refine hK _ ?_; clear hK K)
  refine held_take (i := 3) (v := .agg ((cells8 nd).toArray)) rfl (by kernel_rfl) (by kernel_rfl) (by kernel_rfl) (fun _ _ _ h => h) s0.out (by rfl) (fun w' hw' => exec_row 23 (.tmp 23) rfl (w2.heap.size) rfl 23 ((cells8 nd).toArray) (0, 0) _ (hN3.out.onT hw') Tryd.underlying23 rfl Fn.out.size) ?_
  (intro K hK; go_simp; refine hK _ ?_; clear hK K)
  refine held_take (i := 4) (v := .int .i64 s) rfl (by kernel_rfl) (by kernel_rfl) (by kernel_rfl) (fun _ _ _ h => h) s0.out (by rfl) (fun w' hw' => run_mv (.tmp 0) rfl w') ?_
  (intro K hK; go_simp; refine hK _ ?_; clear hK K)
  refine held_take (i := 5) (v := .agg ((cells8 x).toArray)) rfl (by kernel_rfl) (by kernel_rfl) (by kernel_rfl) (fun _ _ _ h => h) s0.out (by rfl) (fun w' hw' => exec_row 23 (.tmp 18) rfl (w.heap.size + 2) rfl 23 ((cells8 x).toArray) (0, 0) _ (hX3.out.onT hw') Tryd.underlying23 rfl Fx.out.size) ?_
  (intro K hK; go_simp; refine hK _ ?_; clear hK K)
  refine held_take (i := 6) (v := .agg ((cells8 y).toArray)) rfl (by kernel_rfl) (by kernel_rfl) (by kernel_rfl) (fun _ _ _ h => h) s0.out (by rfl) (fun w' hw' => exec_row 23 (.tmp 20) rfl (w.heap.size + 3) rfl 23 ((cells8 y).toArray) (0, 0) _ (hY3.out.onT hw') Tryd.underlying23 rfl Fy.out.size) ?_
  (intro K hK; go_simp; refine hK _ ?_; clear hK K)
  refine held_only (i := 7) rfl (by kernel_rfl) (by rfl) (fun K hK => ?_)
  refine wp_fn (R := fun v w'' => v = .agg (cells8 nd).toArray ∧ Below w3.heap.size w3 w'') (args := #[.int .i64 s, .agg (cells8 x).toArray, .agg (cells8 y).toArray]) _ _ rfl rfl Tryd.func51 (by kernel_rfl) (by kernel_rfl) ((hNd.out _).mono fun e w'' ⟨he, hb⟩ => ⟨_, he, rfl, s0.out.trans (hb.mono s0.out.size)⟩) ?_
  rintro v1 w4 ⟨rfl, h4⟩
  replace h4 := Lib.hid h4
  go_simp
  refine hK _ _ h4.out ?_
  clear hK K
  refine held_take (i := 8) (v := .bool false) rfl (by kernel_rfl) (by kernel_rfl) (by kernel_rfl) (fun _ _ _ h => h) h4.out (by rfl) (fun w' hw' => run_cmp rfl rfl rfl qD (hnn.out w')) ?_
  (intro K hK; go_simp; refine hK _ ?_; clear hK K)
  refine held_take (i := 9) (v := .bool false) rfl (by kernel_rfl) (by kernel_rfl) (by kernel_rfl) (fun _ _ _ h => h) h4.out (by rfl) (fun w' hw' => by go_simp) ?_
  (intro K hK; go_simp; refine hK _ ?_; clear hK K)
  refine held_take (i := 10) (v := .bool false) rfl (by kernel_rfl) (by kernel_rfl) (by kernel_rfl) (fun _ _ _ h => h) h4.out (by rfl) (fun w' hw' => by go_simp) ?_
  (intro K hK; go_simp; refine hK _ ?_; clear hK K)
  refine held_take (i := 11) (v := .agg ((cells8 nd).toArray)) rfl (by kernel_rfl) (by kernel_rfl) (by kernel_rfl) (fun _ _ _ h => h) h4.out (by rfl) (fun w' hw' => exec_row 23 (.tmp 23) rfl (w2.heap.size) rfl 23 ((cells8 nd).toArray) (0, 0) _ (hN3.out.onT hw') Tryd.underlying23 rfl Fn.out.size) ?_
  (intro K hK; go_simp; refine hK _ ?_; clear hK K)
  refine held_take (i := 12) (v := .int .i64 s) rfl (by kernel_rfl) (by kernel_rfl) (by kernel_rfl) (fun _ _ _ h => h) h4.out (by rfl) (fun w' hw' => run_mv (.tmp 0) rfl w') ?_
  (intro K hK; go_simp; refine hK _ ?_; clear hK K)
  refine held_take (i := 13) (v := .agg ((cells8 x).toArray)) rfl (by kernel_rfl) (by kernel_rfl) (by kernel_rfl) (fun _ _ _ h => h) h4.out (by rfl) (fun w' hw' => exec_row 23 (.tmp 18) rfl (w.heap.size + 2) rfl 23 ((cells8 x).toArray) (0, 0) _ (hX3.out.onT hw') Tryd.underlying23 rfl Fx.out.size) ?_
  (intro K hK; go_simp; refine hK _ ?_; clear hK K)
  refine held_take (i := 14) (v := .agg ((cells8 y).toArray)) rfl (by kernel_rfl) (by kernel_rfl) (by kernel_rfl) (fun _ _ _ h => h) h4.out (by rfl) (fun w' hw' => exec_row 23 (.tmp 20) rfl (w.heap.size + 3) rfl 23 ((cells8 y).toArray) (0, 0) _ (hY3.out.onT hw') Tryd.underlying23 rfl Fy.out.size) ?_
  (intro K hK; go_simp; refine hK _ ?_; clear hK K)
  refine held_only (i := 15) rfl (by kernel_rfl) (by rfl) (fun K hK => ?_)
  refine wp_buildD 2 _ rfl [x, y] hxy2.out rfl (by decide) (by decide) rfl ?_
  intro w5 g5 hR5 kk
  have h5 : Hid (Below w3.heap.size w3 w5) := h4.out.trans (kk.mono h4.out.size)
  replace hR5 := Lib.hid hR5
  clear kk
  go_simp
  refine hK _ _ h5.out ?_
  clear hK K
  refine held_only (i := 16) rfl (by kernel_rfl) (by rfl) (fun K hK => ?_)
  refine wp_fn (R := fun v w'' => v = .agg (cells8 nd).toArray ∧ Below w3.heap.size w3 w'') (args := #[.int .i64 s, .slice (some ⟨g5, 0, none⟩) 2 2]) _ _ rfl rfl Tryd.func52 (by kernel_rfl) (by kernel_rfl) ((hRt.out _ g5 (hb3.out.trans (h5.out.mono hb3.out.size)) hR5.out).mono fun e w'' ⟨he, hb⟩ => ⟨_, he, rfl, h5.out.trans (hb.mono h5.out.size)⟩) ?_
  rintro v1 w6 ⟨rfl, h6⟩
  replace h6 := Lib.hid h6
  go_simp
  refine hK _ _ h6.out ?_
  clear hK K
  refine held_take (i := 17) (v := .bool false) rfl (by kernel_rfl) (by kernel_rfl) (by kernel_rfl) (fun _ _ _ h => h) h6.out (by rfl) (fun w' hw' => run_cmp rfl rfl rfl qD (hnn.out w')) ?_
  (intro K hK; go_simp; refine hK _ ?_; clear hK K)
  refine held_take (i := 18) (v := .bool false) rfl (by kernel_rfl) (by kernel_rfl) (by kernel_rfl) (fun _ _ _ h => h) h6.out (by rfl) (fun w' hw' => by go_simp) ?_
  (intro K hK; go_simp; refine hK _ ?_; clear hK K)
  refine held_end (by kernel_rfl) ?_
  have kk := h6.out
  clear hR5 h5 h4 s0 h6 hNd hRt hN3 hnn hy1 hxy2
  have hR6 := Lib.hid (hR3.out.onT kk)
  have hS6 := Lib.hid (hS3.out.onT kk)
  have hX6 := Lib.hid (hX3.out.onT kk)
  have hY6 := Lib.hid (hY3.out.onT kk)
  have hb6 : Hid (Below w.heap.size w w6) := hb3.out.trans (kk.mono hb3.out.size)
  clear kk hR3 hS3 hX3 hY3 hb3
  go_wp2_with (first
    | ((with_reducible change wpList _ _ _ ({ dst := some 71, op := _, type := _, pos := _, after := _, guard := _ } :: _) _ _); (with_reducible refine Veil.out ?_); refine wpList_rowW (o := ⟨some 71, _, _, _, _, _⟩) rfl 23 (.tmp 15) rfl (w.heap.size) rfl 23 ((cells8 r0).toArray) (0, 0) _ hR6.out Tryd.underlying23 rfl Fr.out.size ?_)
    | ((with_reducible change wpList _ _ _ ({ dst := some 72, op := _, type := _, pos := _, after := _, guard := _ } :: _) _ _); (with_reducible refine Veil.out ?_); refine wpList_rowW (o := ⟨some 72, _, _, _, _, _⟩) rfl 23 (.tmp 16) rfl (w.heap.size + 1) rfl 23 ((cells8 r1).toArray) (0, 0) _ hS6.out Tryd.underlying23 rfl Fs.out.size ?_)
    | (go_at_call 25; refine (hAg.out _ hb6.out).mono ?_; rintro e w7 ⟨rfl, kk⟩; clear hAg; have hR7 := Lib.hid (hR6.out.onT kk); have hS7 := Lib.hid (hS6.out.onT kk); have hX7 := Lib.hid (hX6.out.onT kk); have hY7 := Lib.hid (hY6.out.onT kk); have hb7 : Hid (Below w.heap.size w w7) := hb6.out.trans (kk.mono hb6.out.size); clear kk hR6 hS6 hX6 hY6 hb6)
    | ((with_reducible change wpList _ _ _ ({ dst := some 81, op := _, type := _, pos := _, after := _, guard := _ } :: _) _ _); refine wpList_load_row (o := ⟨some 81, _, _, _, _, _⟩) rfl 23 (.tmp 18) rfl (w.heap.size + 2) rfl 23 ((cells8 x).toArray) (0, 0) _ hX7.out Tryd.underlying23 rfl Fx.out.size ?_)
    | (go_at_call 20; refine (hI1.out _ hb7.out).mono ?_; rintro e w8 ⟨rfl, kk⟩; clear hI1; have hR8 := Lib.hid (hR7.out.onT kk); have hS8 := Lib.hid (hS7.out.onT kk); have hX8 := Lib.hid (hX7.out.onT kk); have hY8 := Lib.hid (hY7.out.onT kk); have hb8 : Hid (Below w.heap.size w w8) := hb7.out.trans (kk.mono hb7.out.size); clear kk hR7 hS7 hX7 hY7 hb7)
    | ((with_reducible change wpList _ _ _ ({ dst := none, op := Op.store 23 (.tmp 25) _, type := _, pos := _, after := _, guard := _ } :: _) _ _); refine wpList_store_whole (o := ⟨none, _, _, _, _, _⟩) rfl 23 (.tmp 25) (.tmp 84) rfl (w8.heap.size) ((cells8 a1).toArray) rfl rfl 23 (Z32) (Blk.new w8 _ _) F1.out.size F1.out.zero F1.out.one ?_; intro w9 hP9 kq; have kk := kept_fresh kq; replace hP9 := Lib.hid hP9; clear kq; have hR9 := Lib.hid (hR8.out.onT kk); have hS9 := Lib.hid (hS8.out.onT kk); have hX9 := Lib.hid (hX8.out.onT kk); have hY9 := Lib.hid (hY8.out.onT kk); have hb9 : Hid (Below w.heap.size w w9) := hb8.out.trans (kk.mono hb8.out.size); clear kk hR8 hS8 hX8 hY8 hb8)
    | ((with_reducible change wpList _ _ _ ({ dst := some 90, op := _, type := _, pos := _, after := _, guard := _ } :: _) _ _); refine wpList_load_row (o := ⟨some 90, _, _, _, _, _⟩) rfl 23 (.tmp 20) rfl (w.heap.size + 3) rfl 23 ((cells8 y).toArray) (0, 0) _ hY9.out Tryd.underlying23 rfl Fy.out.size ?_)
    | (go_at_call 20; refine (hI2.out _ hb9.out).mono ?_; rintro e w10 ⟨rfl, kk⟩; clear hI2; have hR10 := Lib.hid (hR9.out.onT kk); have hS10 := Lib.hid (hS9.out.onT kk); have hX10 := Lib.hid (hX9.out.onT kk); have hY10 := Lib.hid (hY9.out.onT kk); have hP10 := Lib.hid (hP9.out.onT kk); have hb10 : Hid (Below w.heap.size w w10) := hb9.out.trans (kk.mono hb9.out.size); clear kk hR9 hS9 hX9 hY9 hP9 hb9)
    | ((with_reducible change wpList _ _ _ ({ dst := none, op := Op.store 23 (.tmp 27) _, type := _, pos := _, after := _, guard := _ } :: _) _ _); refine wpList_store_whole (o := ⟨none, _, _, _, _, _⟩) rfl 23 (.tmp 27) (.tmp 93) rfl (w10.heap.size) ((cells8 a2).toArray) rfl rfl 23 (Z32) (Blk.new w10 _ _) F2.out.size F2.out.zero F2.out.one ?_; intro w11 hQ11 kq; have kk := kept_fresh kq; replace hQ11 := Lib.hid hQ11; clear kq; have hR11 := Lib.hid (hR10.out.onT kk); have hS11 := Lib.hid (hS10.out.onT kk); have hX11 := Lib.hid (hX10.out.onT kk); have hY11 := Lib.hid (hY10.out.onT kk); have hP11 := Lib.hid (hP10.out.onT kk); have hb11 : Hid (Below w.heap.size w w11) := hb10.out.trans (kk.mono hb10.out.size); clear kk hR10 hS10 hX10 hY10 hP10 hb10)
    | ((with_reducible change wpList _ _ _ ({ dst := some 102, op := _, type := _, pos := _, after := _, guard := _ } :: _) _ _); (with_reducible refine Veil.out ?_); refine wpList_rowW (o := ⟨some 102, _, _, _, _, _⟩) rfl 23 (.tmp 25) rfl (w8.heap.size) rfl 23 ((cells8 a1).toArray) (0, 0) _ hP11.out Tryd.underlying23 rfl F1.out.size ?_)
    | ((with_reducible change wpList _ _ _ ({ dst := some 103, op := _, type := _, pos := _, after := _, guard := _ } :: _) _ _); (with_reducible refine Veil.out ?_); refine wpList_rowW (o := ⟨some 103, _, _, _, _, _⟩) rfl 23 (.tmp 15) rfl (w.heap.size) rfl 23 ((cells8 r0).toArray) (0, 0) _ hR11.out Tryd.underlying23 rfl Fr.out.size ?_)
    | ((with_reducible change wpList _ _ _ ({ dst := some 107, op := _, type := _, pos := _, after := _, guard := _ } :: _) _ _); (with_reducible refine Veil.out ?_); refine wpList_rowW (o := ⟨some 107, _, _, _, _, _⟩) rfl 23 (.tmp 27) rfl (w10.heap.size) rfl 23 ((cells8 a2).toArray) (0, 0) _ hQ11.out Tryd.underlying23 rfl F2.out.size ?_)
    | ((with_reducible change wpList _ _ _ ({ dst := some 108, op := _, type := _, pos := _, after := _, guard := _ } :: _) _ _); (with_reducible refine Veil.out ?_); refine wpList_rowW (o := ⟨some 108, _, _, _, _, _⟩) rfl 23 (.tmp 16) rfl (w.heap.size + 1) rfl 23 ((cells8 r1).toArray) (0, 0) _ hS11.out Tryd.underlying23 rfl Fs.out.size ?_)
    | ((with_reducible change wpList _ _ _ ({ dst := some 112, op := _, type := _, pos := _, after := _, guard := _ } :: _) _ _); (with_reducible refine Veil.out ?_); refine wpList_rowW (o := ⟨some 112, _, _, _, _, _⟩) rfl 23 (.tmp 18) rfl (w.heap.size + 2) rfl 23 ((cells8 x).toArray) (0, 0) _ hX11.out Tryd.underlying23 rfl Fx.out.size ?_)
    | ((with_reducible change wpList _ _ _ ({ dst := some 113, op := _, type := _, pos := _, after := _, guard := _ } :: _) _ _); (with_reducible refine Veil.out ?_); refine wpList_rowW (o := ⟨some 113, _, _, _, _, _⟩) rfl 23 (.tmp 20) rfl (w.heap.size + 3) rfl 23 ((cells8 y).toArray) (0, 0) _ hY11.out Tryd.underlying23 rfl Fy.out.size ?_))
  go_ret
  exact ⟨rfl, hb11.out⟩

set_option maxRecDepth 100000 in
set_option maxHeartbeats 8000000 in
theorem tt_xy (s old size i : Int) (r0 r1 x y : Text) (h0 : r0.length = 32) (h1 : r1.length = 32) (hx : x.length = 32) (hy : y.length = 32) (n m k : Nat) (A B C : Option Addr) (c d f : Nat) (w : World) (nd a1 a2 : Text) (hnl : nd.length = 32) (hl1 : a1.length = 32) (hl2 : a2.length = 32) (k0 k1 k2 : Int)
    (hI0 : Hid (∀ w' g, Below w.heap.size w w' → RdD w' (some ⟨g, 0, none⟩) 1 [y] → Calls Tryd.prog 20 #[.int .i64 s, .int .i64 2, .int .i64 0, .agg (cells8 x).toArray, .slice (some ⟨g, 0, none⟩) 1 1] w' fun e w'' => e = .returned (.tuple #[.agg (cells8 nd).toArray, .int .i64 0]) ∧ Below w'.heap.size w' w''))
    (hNd : Hid (∀ w', Calls Tryd.prog 51 #[.int .i64 s, .agg (cells8 x).toArray, .agg (cells8 y).toArray] w' fun e w'' => e = .returned (.agg (cells8 nd).toArray) ∧ Below w'.heap.size w' w''))
    (hRt : Hid (∀ w' g, Below w.heap.size w w' → RdD w' (some ⟨g, 0, none⟩) 2 [x, y] → Calls Tryd.prog 52 #[.int .i64 s, .slice (some ⟨g, 0, none⟩) 2 2] w' fun e w'' => e = .returned (.agg (cells8 nd).toArray) ∧ Below w'.heap.size w' w''))
    (hAg : Hid (∀ w', Below w.heap.size w w' → Calls Tryd.prog 25 #[.int .i64 s, .int .i64 old, .int .i64 size, .agg (cells8 r0).toArray, .agg (cells8 r1).toArray, .slice A n c] w' fun e w'' => e = .returned (.int .i64 k0) ∧ Below w'.heap.size w' w''))
    (hI1 : Hid (∀ w', Below w.heap.size w w' → Calls Tryd.prog 20 #[.int .i64 s, .int .i64 old, .int .i64 i, .agg (cells8 x).toArray, .slice B m d] w' fun e w'' => e = .returned (.tuple #[.agg (cells8 a1).toArray, .int .i64 k1]) ∧ Below w'.heap.size w' w''))
    (hI2 : Hid (∀ w', Below w.heap.size w w' → Calls Tryd.prog 20 #[.int .i64 s, .int .i64 size, .int .i64 i, .agg (cells8 y).toArray, .slice C k f] w' fun e w'' => e = .returned (.tuple #[.agg (cells8 a2).toArray, .int .i64 k2]) ∧ Below w'.heap.size w' w'')) (z : ¬ old < 1) (z0 : k0 = 0) (z1 : k1 = 0) (z2 : k2 = 0) (za : a1 = r0) (zb : a2 = r1) (zc : x = y) :
    Calls Tryd.prog 11 #[.int .i64 s, .int .i64 old, .int .i64 size, .int .i64 i, .agg (cells8 r0).toArray, .agg (cells8 r1).toArray, .slice A n c, .agg (cells8 x).toArray, .slice B m d, .agg (cells8 y).toArray, .slice C k f] w fun e w' => e = .returned (.bool true) ∧ Below w.heap.size w w' := by
  have hb : Hid (Below w.heap.size w ((((w.alloc (.cells (cells8 r0).toArray 23)).alloc (.cells (cells8 r1).toArray 23)).alloc (.cells (cells8 x).toArray 23)).alloc (.cells (cells8 y).toArray 23))) := (((Below.heap_below w _).alloc (by simp) _).alloc (by simp; omega) _).alloc (by simp; omega) _
  have hR : Hid (Blk ((((w.alloc (.cells (cells8 r0).toArray 23)).alloc (.cells (cells8 r1).toArray 23)).alloc (.cells (cells8 x).toArray 23)).alloc (.cells (cells8 y).toArray 23)) w.heap.size 23 (cells8 r0).toArray) := (((Blk.new w _ _).alloc _).alloc _).alloc _
  have hS : Hid (Blk ((((w.alloc (.cells (cells8 r0).toArray 23)).alloc (.cells (cells8 r1).toArray 23)).alloc (.cells (cells8 x).toArray 23)).alloc (.cells (cells8 y).toArray 23)) (w.heap.size + 1) 23 (cells8 r1).toArray) := by
    have := ((Blk.new (w.alloc (.cells (cells8 r0).toArray 23)) 23 (cells8 r1).toArray).alloc (.cells (cells8 x).toArray 23)).alloc (.cells (cells8 y).toArray 23)
    rwa [show (w.alloc (.cells (cells8 r0).toArray 23)).heap.size = w.heap.size + 1 by simp] at this
  have hX : Hid (Blk ((((w.alloc (.cells (cells8 r0).toArray 23)).alloc (.cells (cells8 r1).toArray 23)).alloc (.cells (cells8 x).toArray 23)).alloc (.cells (cells8 y).toArray 23)) (w.heap.size + 2) 23 (cells8 x).toArray) := by
    have := (heap_alloc2_new (w.alloc (.cells (cells8 r0).toArray 23)) (.cells (cells8 r1).toArray 23) (.cells (cells8 x).toArray 23)).trans rfl
    have := Blk.alloc (t := 23) (cs := (cells8 x).toArray) this (.cells (cells8 y).toArray 23)
    rwa [show (w.alloc (.cells (cells8 r0).toArray 23)).heap.size = w.heap.size + 1 by simp] at this
  have hY : Hid (Blk ((((w.alloc (.cells (cells8 r0).toArray 23)).alloc (.cells (cells8 r1).toArray 23)).alloc (.cells (cells8 x).toArray 23)).alloc (.cells (cells8 y).toArray 23)) (w.heap.size + 3) 23 (cells8 y).toArray) := by
    have := heap_alloc2_new ((w.alloc (.cells (cells8 r0).toArray 23)).alloc (.cells (cells8 r1).toArray 23)) (.cells (cells8 x).toArray 23) (.cells (cells8 y).toArray 23)
    rwa [show ((w.alloc (.cells (cells8 r0).toArray 23)).alloc (.cells (cells8 r1).toArray 23)).heap.size = w.heap.size + 2 by simp] at this
  have Fr := Lib.hid (fit (x := r0) h0)
  have Fs := Lib.hid (fit (x := r1) h1)
  have Fx := Lib.hid (fit (x := x) hx)
  have Fy := Lib.hid (fit (x := y) hy)
  have Fn := Lib.hid (fit (x := nd) hnl)
  have F1 := Lib.hid (fit (x := a1) hl1)
  have F2 := Lib.hid (fit (x := a2) hl2)
  have hnn : Hid (∀ w', (binOp .neq 23 (.agg (cells8 nd).toArray) (.agg (cells8 nd).toArray)).run Tryd.prog w' = .ok (.bool false) w') := fun w' => (neq_dig nd nd hnl hnl w').trans (by simp)
  have hy1 : Hid (Digs [y]) := by show Digs _; intro q hq; obtain rfl := List.mem_singleton.1 hq; exact hy
  have hxy2 : Hid (Digs [x, y]) := by show Digs _; intro q hq; rcases List.mem_cons.1 hq with rfl | hq; exact hx; obtain rfl := List.mem_singleton.1 hq; exact hy
  subst z0 z1 z2
  have q1 := neq_dig a1 r0 hl1 h0
  rw [decide_eq_true za] at q1
  simp only [Bool.not_true] at q1
  clear za
  have q2 := neq_dig a2 r1 hl2 h1
  rw [decide_eq_true zb] at q2
  simp only [Bool.not_true] at q2
  clear zb
  have q3 := eql_dig x y hx hy
  rw [decide_eq_true zc] at q3
  clear zc
  clear h0 h1 hx hy hnl hl1 hl2
  have yz : (old < 1) = False := eq_false z
  clear z
  go_enter Tryd.func11, Tryd.ntmps11
  go_wp2_with (first
    | ((with_reducible change wpList _ _ _ ({ dst := some 40, op := _, type := _, pos := _, after := _, guard := _ } :: _) _ _); refine wpList_load_row (o := ⟨some 40, _, _, _, _, _⟩) rfl 23 (.tmp 18) rfl (w.heap.size + 2) rfl 23 ((cells8 x).toArray) (0, 0) _ hX.out Tryd.underlying23 rfl Fx.out.size ?_)
    | ((with_reducible change wpList _ _ _ ({ dst := some 41, op := _, type := _, pos := _, after := _, guard := _ } :: _) _ _); refine wpList_load_row (o := ⟨some 41, _, _, _, _, _⟩) rfl 23 (.tmp 20) rfl (w.heap.size + 3) rfl 23 ((cells8 y).toArray) (0, 0) _ hY.out Tryd.underlying23 rfl Fy.out.size ?_)
    | ((with_reducible change wpList _ _ _ ({ dst := some 42, op := _, type := _, pos := _, after := _, guard := _ } :: _) _ _); refine wpList_buildD (o := ⟨some 42, _, _, _, _, _⟩) rfl 1 _ rfl [y] hy1.out rfl (by decide) (by decide) rfl ?_; intro w1 g1 hB1 kk; have hR1 := Lib.hid (hR.out.onT kk); have hS1 := Lib.hid (hS.out.onT kk); have hX1 := Lib.hid (hX.out.onT kk); have hY1 := Lib.hid (hY.out.onT kk); have hb1 : Hid (Below w.heap.size w w1) := hb.out.trans (kk.mono hb.out.size); clear kk hR hS hX hY hb)
    | (go_at_call 20; refine (hI0.out _ g1 hb1.out hB1).mono ?_; rintro e w2 ⟨rfl, kk⟩; clear hI0 hB1; have hR2 := Lib.hid (hR1.out.onT kk); have hS2 := Lib.hid (hS1.out.onT kk); have hX2 := Lib.hid (hX1.out.onT kk); have hY2 := Lib.hid (hY1.out.onT kk); have hb2 : Hid (Below w.heap.size w w2) := hb1.out.trans (kk.mono hb1.out.size); clear kk hR1 hS1 hX1 hY1 hb1)
    | ((with_reducible change wpList _ _ _ ({ dst := none, op := Op.store 23 (.tmp 23) _, type := _, pos := _, after := _, guard := _ } :: _) _ _); refine wpList_store_whole (o := ⟨none, _, _, _, _, _⟩) rfl 23 (.tmp 23) (.tmp 44) rfl (w2.heap.size) ((cells8 nd).toArray) rfl rfl 23 (Z32) (Blk.new w2 _ _) Fn.out.size Fn.out.zero Fn.out.one ?_; intro w3 hN3 kq; have kk := kept_fresh kq; replace hN3 := Lib.hid hN3; clear kq; have hR3 := Lib.hid (hR2.out.onT kk); have hS3 := Lib.hid (hS2.out.onT kk); have hX3 := Lib.hid (hX2.out.onT kk); have hY3 := Lib.hid (hY2.out.onT kk); have hb3 : Hid (Below w.heap.size w w3) := hb2.out.trans (kk.mono hb2.out.size); clear kk hR2 hS2 hX2 hY2 hb2))
  have s0 : Hid (Below w3.heap.size w3 w3.drew) := (Below.refl _ _).drew
  refine held_start (fun w' => Below w3.heap.size w3 w') 19 rfl (by kernel_rfl) ?_
  refine held_take (i := 0) (v := .int .i64 0) rfl (by kernel_rfl) (by kernel_rfl) (by kernel_rfl) (fun _ _ _ h => h) s0.out (by rfl) (fun w' hw' => run_mv (.tmp 24) rfl w') ?_
  (intro K hK; go_simp; refine hK _ ?_; clear hK K)
  refine held_take (i := 1) (v := .bool false) rfl (by kernel_rfl) (by kernel_rfl) (by kernel_rfl) (fun _ _ _ h => h) s0.out (by rfl) (fun w' hw' => by go_simp) ?_
  (intro K hK; go_simp; refine hK _ ?_; clear hK K)
  refine held_take (i := 2) (v := .bool false) rfl (by kernel_rfl) (by kernel_rfl) (by kernel_rfl) (fun _ _ _ h => h) s0.out (by rfl) (fun w' hw' => by go_simp) ?_
  (intro K hK; go_simp; refine hK _ ?_; clear hK K)
  refine held_take (i := 3) (v := .agg ((cells8 nd).toArray)) rfl (by kernel_rfl) (by kernel_rfl) (by kernel_rfl) (fun _ _ _ h => h) s0.out (by rfl) (fun w' hw' => exec_row 23 (.tmp 23) rfl (w2.heap.size) rfl 23 ((cells8 nd).toArray) (0, 0) _ (hN3.out.onT hw') Tryd.underlying23 rfl Fn.out.size) ?_
  (intro K hK; go_simp; refine hK _ ?_; clear hK K)
  refine held_take (i := 4) (v := .int .i64 s) rfl (by kernel_rfl) (by kernel_rfl) (by kernel_rfl) (fun _ _ _ h => h) s0.out (by rfl) (fun w' hw' => run_mv (.tmp 0) rfl w') ?_
  (intro K hK; go_simp; refine hK _ ?_; clear hK K)
  refine held_take (i := 5) (v := .agg ((cells8 x).toArray)) rfl (by kernel_rfl) (by kernel_rfl) (by kernel_rfl) (fun _ _ _ h => h) s0.out (by rfl) (fun w' hw' => exec_row 23 (.tmp 18) rfl (w.heap.size + 2) rfl 23 ((cells8 x).toArray) (0, 0) _ (hX3.out.onT hw') Tryd.underlying23 rfl Fx.out.size) ?_
  (intro K hK; go_simp; refine hK _ ?_; clear hK K)
  refine held_take (i := 6) (v := .agg ((cells8 y).toArray)) rfl (by kernel_rfl) (by kernel_rfl) (by kernel_rfl) (fun _ _ _ h => h) s0.out (by rfl) (fun w' hw' => exec_row 23 (.tmp 20) rfl (w.heap.size + 3) rfl 23 ((cells8 y).toArray) (0, 0) _ (hY3.out.onT hw') Tryd.underlying23 rfl Fy.out.size) ?_
  (intro K hK; go_simp; refine hK _ ?_; clear hK K)
  refine held_only (i := 7) rfl (by kernel_rfl) (by rfl) (fun K hK => ?_)
  refine wp_fn (R := fun v w'' => v = .agg (cells8 nd).toArray ∧ Below w3.heap.size w3 w'') (args := #[.int .i64 s, .agg (cells8 x).toArray, .agg (cells8 y).toArray]) _ _ rfl rfl Tryd.func51 (by kernel_rfl) (by kernel_rfl) ((hNd.out _).mono fun e w'' ⟨he, hb⟩ => ⟨_, he, rfl, s0.out.trans (hb.mono s0.out.size)⟩) ?_
  rintro v1 w4 ⟨rfl, h4⟩
  replace h4 := Lib.hid h4
  go_simp
  refine hK _ _ h4.out ?_
  clear hK K
  refine held_take (i := 8) (v := .bool false) rfl (by kernel_rfl) (by kernel_rfl) (by kernel_rfl) (fun _ _ _ h => h) h4.out (by rfl) (fun w' hw' => run_cmp rfl rfl rfl qD (hnn.out w')) ?_
  (intro K hK; go_simp; refine hK _ ?_; clear hK K)
  refine held_take (i := 9) (v := .bool false) rfl (by kernel_rfl) (by kernel_rfl) (by kernel_rfl) (fun _ _ _ h => h) h4.out (by rfl) (fun w' hw' => by go_simp) ?_
  (intro K hK; go_simp; refine hK _ ?_; clear hK K)
  refine held_take (i := 10) (v := .bool false) rfl (by kernel_rfl) (by kernel_rfl) (by kernel_rfl) (fun _ _ _ h => h) h4.out (by rfl) (fun w' hw' => by go_simp) ?_
  (intro K hK; go_simp; refine hK _ ?_; clear hK K)
  refine held_take (i := 11) (v := .agg ((cells8 nd).toArray)) rfl (by kernel_rfl) (by kernel_rfl) (by kernel_rfl) (fun _ _ _ h => h) h4.out (by rfl) (fun w' hw' => exec_row 23 (.tmp 23) rfl (w2.heap.size) rfl 23 ((cells8 nd).toArray) (0, 0) _ (hN3.out.onT hw') Tryd.underlying23 rfl Fn.out.size) ?_
  (intro K hK; go_simp; refine hK _ ?_; clear hK K)
  refine held_take (i := 12) (v := .int .i64 s) rfl (by kernel_rfl) (by kernel_rfl) (by kernel_rfl) (fun _ _ _ h => h) h4.out (by rfl) (fun w' hw' => run_mv (.tmp 0) rfl w') ?_
  (intro K hK; go_simp; refine hK _ ?_; clear hK K)
  refine held_take (i := 13) (v := .agg ((cells8 x).toArray)) rfl (by kernel_rfl) (by kernel_rfl) (by kernel_rfl) (fun _ _ _ h => h) h4.out (by rfl) (fun w' hw' => exec_row 23 (.tmp 18) rfl (w.heap.size + 2) rfl 23 ((cells8 x).toArray) (0, 0) _ (hX3.out.onT hw') Tryd.underlying23 rfl Fx.out.size) ?_
  (intro K hK; go_simp; refine hK _ ?_; clear hK K)
  refine held_take (i := 14) (v := .agg ((cells8 y).toArray)) rfl (by kernel_rfl) (by kernel_rfl) (by kernel_rfl) (fun _ _ _ h => h) h4.out (by rfl) (fun w' hw' => exec_row 23 (.tmp 20) rfl (w.heap.size + 3) rfl 23 ((cells8 y).toArray) (0, 0) _ (hY3.out.onT hw') Tryd.underlying23 rfl Fy.out.size) ?_
  (intro K hK; go_simp; refine hK _ ?_; clear hK K)
  refine held_only (i := 15) rfl (by kernel_rfl) (by rfl) (fun K hK => ?_)
  refine wp_buildD 2 _ rfl [x, y] hxy2.out rfl (by decide) (by decide) rfl ?_
  intro w5 g5 hR5 kk
  have h5 : Hid (Below w3.heap.size w3 w5) := h4.out.trans (kk.mono h4.out.size)
  replace hR5 := Lib.hid hR5
  clear kk
  go_simp
  refine hK _ _ h5.out ?_
  clear hK K
  refine held_only (i := 16) rfl (by kernel_rfl) (by rfl) (fun K hK => ?_)
  refine wp_fn (R := fun v w'' => v = .agg (cells8 nd).toArray ∧ Below w3.heap.size w3 w'') (args := #[.int .i64 s, .slice (some ⟨g5, 0, none⟩) 2 2]) _ _ rfl rfl Tryd.func52 (by kernel_rfl) (by kernel_rfl) ((hRt.out _ g5 (hb3.out.trans (h5.out.mono hb3.out.size)) hR5.out).mono fun e w'' ⟨he, hb⟩ => ⟨_, he, rfl, h5.out.trans (hb.mono h5.out.size)⟩) ?_
  rintro v1 w6 ⟨rfl, h6⟩
  replace h6 := Lib.hid h6
  go_simp
  refine hK _ _ h6.out ?_
  clear hK K
  refine held_take (i := 17) (v := .bool false) rfl (by kernel_rfl) (by kernel_rfl) (by kernel_rfl) (fun _ _ _ h => h) h6.out (by rfl) (fun w' hw' => run_cmp rfl rfl rfl qD (hnn.out w')) ?_
  (intro K hK; go_simp; refine hK _ ?_; clear hK K)
  refine held_take (i := 18) (v := .bool false) rfl (by kernel_rfl) (by kernel_rfl) (by kernel_rfl) (fun _ _ _ h => h) h6.out (by rfl) (fun w' hw' => by go_simp) ?_
  (intro K hK; go_simp; refine hK _ ?_; clear hK K)
  refine held_end (by kernel_rfl) ?_
  have kk := h6.out
  clear hR5 h5 h4 s0 h6 hNd hRt hN3 hnn hy1 hxy2
  have hR6 := Lib.hid (hR3.out.onT kk)
  have hS6 := Lib.hid (hS3.out.onT kk)
  have hX6 := Lib.hid (hX3.out.onT kk)
  have hY6 := Lib.hid (hY3.out.onT kk)
  have hb6 : Hid (Below w.heap.size w w6) := hb3.out.trans (kk.mono hb3.out.size)
  clear kk hR3 hS3 hX3 hY3 hb3
  go_wp2_with (first
    | ((with_reducible change wpList _ _ _ ({ dst := some 71, op := _, type := _, pos := _, after := _, guard := _ } :: _) _ _); (with_reducible refine Veil.out ?_); refine wpList_rowW (o := ⟨some 71, _, _, _, _, _⟩) rfl 23 (.tmp 15) rfl (w.heap.size) rfl 23 ((cells8 r0).toArray) (0, 0) _ hR6.out Tryd.underlying23 rfl Fr.out.size ?_)
    | ((with_reducible change wpList _ _ _ ({ dst := some 72, op := _, type := _, pos := _, after := _, guard := _ } :: _) _ _); (with_reducible refine Veil.out ?_); refine wpList_rowW (o := ⟨some 72, _, _, _, _, _⟩) rfl 23 (.tmp 16) rfl (w.heap.size + 1) rfl 23 ((cells8 r1).toArray) (0, 0) _ hS6.out Tryd.underlying23 rfl Fs.out.size ?_)
    | (go_at_call 25; refine (hAg.out _ hb6.out).mono ?_; rintro e w7 ⟨rfl, kk⟩; clear hAg; have hR7 := Lib.hid (hR6.out.onT kk); have hS7 := Lib.hid (hS6.out.onT kk); have hX7 := Lib.hid (hX6.out.onT kk); have hY7 := Lib.hid (hY6.out.onT kk); have hb7 : Hid (Below w.heap.size w w7) := hb6.out.trans (kk.mono hb6.out.size); clear kk hR6 hS6 hX6 hY6 hb6)
    | ((with_reducible change wpList _ _ _ ({ dst := some 81, op := _, type := _, pos := _, after := _, guard := _ } :: _) _ _); refine wpList_load_row (o := ⟨some 81, _, _, _, _, _⟩) rfl 23 (.tmp 18) rfl (w.heap.size + 2) rfl 23 ((cells8 x).toArray) (0, 0) _ hX7.out Tryd.underlying23 rfl Fx.out.size ?_)
    | (go_at_call 20; refine (hI1.out _ hb7.out).mono ?_; rintro e w8 ⟨rfl, kk⟩; clear hI1; have hR8 := Lib.hid (hR7.out.onT kk); have hS8 := Lib.hid (hS7.out.onT kk); have hX8 := Lib.hid (hX7.out.onT kk); have hY8 := Lib.hid (hY7.out.onT kk); have hb8 : Hid (Below w.heap.size w w8) := hb7.out.trans (kk.mono hb7.out.size); clear kk hR7 hS7 hX7 hY7 hb7)
    | ((with_reducible change wpList _ _ _ ({ dst := none, op := Op.store 23 (.tmp 25) _, type := _, pos := _, after := _, guard := _ } :: _) _ _); refine wpList_store_whole (o := ⟨none, _, _, _, _, _⟩) rfl 23 (.tmp 25) (.tmp 84) rfl (w8.heap.size) ((cells8 a1).toArray) rfl rfl 23 (Z32) (Blk.new w8 _ _) F1.out.size F1.out.zero F1.out.one ?_; intro w9 hP9 kq; have kk := kept_fresh kq; replace hP9 := Lib.hid hP9; clear kq; have hR9 := Lib.hid (hR8.out.onT kk); have hS9 := Lib.hid (hS8.out.onT kk); have hX9 := Lib.hid (hX8.out.onT kk); have hY9 := Lib.hid (hY8.out.onT kk); have hb9 : Hid (Below w.heap.size w w9) := hb8.out.trans (kk.mono hb8.out.size); clear kk hR8 hS8 hX8 hY8 hb8)
    | ((with_reducible change wpList _ _ _ ({ dst := some 90, op := _, type := _, pos := _, after := _, guard := _ } :: _) _ _); refine wpList_load_row (o := ⟨some 90, _, _, _, _, _⟩) rfl 23 (.tmp 20) rfl (w.heap.size + 3) rfl 23 ((cells8 y).toArray) (0, 0) _ hY9.out Tryd.underlying23 rfl Fy.out.size ?_)
    | (go_at_call 20; refine (hI2.out _ hb9.out).mono ?_; rintro e w10 ⟨rfl, kk⟩; clear hI2; have hR10 := Lib.hid (hR9.out.onT kk); have hS10 := Lib.hid (hS9.out.onT kk); have hX10 := Lib.hid (hX9.out.onT kk); have hY10 := Lib.hid (hY9.out.onT kk); have hP10 := Lib.hid (hP9.out.onT kk); have hb10 : Hid (Below w.heap.size w w10) := hb9.out.trans (kk.mono hb9.out.size); clear kk hR9 hS9 hX9 hY9 hP9 hb9)
    | ((with_reducible change wpList _ _ _ ({ dst := none, op := Op.store 23 (.tmp 27) _, type := _, pos := _, after := _, guard := _ } :: _) _ _); refine wpList_store_whole (o := ⟨none, _, _, _, _, _⟩) rfl 23 (.tmp 27) (.tmp 93) rfl (w10.heap.size) ((cells8 a2).toArray) rfl rfl 23 (Z32) (Blk.new w10 _ _) F2.out.size F2.out.zero F2.out.one ?_; intro w11 hQ11 kq; have kk := kept_fresh kq; replace hQ11 := Lib.hid hQ11; clear kq; have hR11 := Lib.hid (hR10.out.onT kk); have hS11 := Lib.hid (hS10.out.onT kk); have hX11 := Lib.hid (hX10.out.onT kk); have hY11 := Lib.hid (hY10.out.onT kk); have hP11 := Lib.hid (hP10.out.onT kk); have hb11 : Hid (Below w.heap.size w w11) := hb10.out.trans (kk.mono hb10.out.size); clear kk hR10 hS10 hX10 hY10 hP10 hb10)
    | ((with_reducible change wpList _ _ _ ({ dst := some 102, op := _, type := _, pos := _, after := _, guard := _ } :: _) _ _); (with_reducible refine Veil.out ?_); refine wpList_rowW (o := ⟨some 102, _, _, _, _, _⟩) rfl 23 (.tmp 25) rfl (w8.heap.size) rfl 23 ((cells8 a1).toArray) (0, 0) _ hP11.out Tryd.underlying23 rfl F1.out.size ?_)
    | ((with_reducible change wpList _ _ _ ({ dst := some 103, op := _, type := _, pos := _, after := _, guard := _ } :: _) _ _); (with_reducible refine Veil.out ?_); refine wpList_rowW (o := ⟨some 103, _, _, _, _, _⟩) rfl 23 (.tmp 15) rfl (w.heap.size) rfl 23 ((cells8 r0).toArray) (0, 0) _ hR11.out Tryd.underlying23 rfl Fr.out.size ?_)
    | ((with_reducible change wpList _ _ _ ({ dst := some 107, op := _, type := _, pos := _, after := _, guard := _ } :: _) _ _); (with_reducible refine Veil.out ?_); refine wpList_rowW (o := ⟨some 107, _, _, _, _, _⟩) rfl 23 (.tmp 27) rfl (w10.heap.size) rfl 23 ((cells8 a2).toArray) (0, 0) _ hQ11.out Tryd.underlying23 rfl F2.out.size ?_)
    | ((with_reducible change wpList _ _ _ ({ dst := some 108, op := _, type := _, pos := _, after := _, guard := _ } :: _) _ _); (with_reducible refine Veil.out ?_); refine wpList_rowW (o := ⟨some 108, _, _, _, _, _⟩) rfl 23 (.tmp 16) rfl (w.heap.size + 1) rfl 23 ((cells8 r1).toArray) (0, 0) _ hS11.out Tryd.underlying23 rfl Fs.out.size ?_)
    | ((with_reducible change wpList _ _ _ ({ dst := some 112, op := _, type := _, pos := _, after := _, guard := _ } :: _) _ _); (with_reducible refine Veil.out ?_); refine wpList_rowW (o := ⟨some 112, _, _, _, _, _⟩) rfl 23 (.tmp 18) rfl (w.heap.size + 2) rfl 23 ((cells8 x).toArray) (0, 0) _ hX11.out Tryd.underlying23 rfl Fx.out.size ?_)
    | ((with_reducible change wpList _ _ _ ({ dst := some 113, op := _, type := _, pos := _, after := _, guard := _ } :: _) _ _); (with_reducible refine Veil.out ?_); refine wpList_rowW (o := ⟨some 113, _, _, _, _, _⟩) rfl 23 (.tmp 20) rfl (w.heap.size + 3) rfl 23 ((cells8 y).toArray) (0, 0) _ hY11.out Tryd.underlying23 rfl Fy.out.size ?_))
  go_ret
  exact ⟨rfl, hb11.out⟩

set_option maxRecDepth 100000 in
set_option maxHeartbeats 8000000 in
theorem tt_eq (s old size i : Int) (r0 r1 x y : Text) (h0 : r0.length = 32) (h1 : r1.length = 32) (hx : x.length = 32) (hy : y.length = 32) (n m k : Nat) (A B C : Option Addr) (c d f : Nat) (w : World) (nd a1 a2 : Text) (hnl : nd.length = 32) (hl1 : a1.length = 32) (hl2 : a2.length = 32) (k0 k1 k2 : Int)
    (hI0 : Hid (∀ w' g, Below w.heap.size w w' → RdD w' (some ⟨g, 0, none⟩) 1 [y] → Calls Tryd.prog 20 #[.int .i64 s, .int .i64 2, .int .i64 0, .agg (cells8 x).toArray, .slice (some ⟨g, 0, none⟩) 1 1] w' fun e w'' => e = .returned (.tuple #[.agg (cells8 nd).toArray, .int .i64 0]) ∧ Below w'.heap.size w' w''))
    (hNd : Hid (∀ w', Calls Tryd.prog 51 #[.int .i64 s, .agg (cells8 x).toArray, .agg (cells8 y).toArray] w' fun e w'' => e = .returned (.agg (cells8 nd).toArray) ∧ Below w'.heap.size w' w''))
    (hRt : Hid (∀ w' g, Below w.heap.size w w' → RdD w' (some ⟨g, 0, none⟩) 2 [x, y] → Calls Tryd.prog 52 #[.int .i64 s, .slice (some ⟨g, 0, none⟩) 2 2] w' fun e w'' => e = .returned (.agg (cells8 nd).toArray) ∧ Below w'.heap.size w' w''))
    (hAg : Hid (∀ w', Below w.heap.size w w' → Calls Tryd.prog 25 #[.int .i64 s, .int .i64 old, .int .i64 size, .agg (cells8 r0).toArray, .agg (cells8 r1).toArray, .slice A n c] w' fun e w'' => e = .returned (.int .i64 k0) ∧ Below w'.heap.size w' w''))
    (hI1 : Hid (∀ w', Below w.heap.size w w' → Calls Tryd.prog 20 #[.int .i64 s, .int .i64 old, .int .i64 i, .agg (cells8 x).toArray, .slice B m d] w' fun e w'' => e = .returned (.tuple #[.agg (cells8 a1).toArray, .int .i64 k1]) ∧ Below w'.heap.size w' w''))
    (hI2 : Hid (∀ w', Below w.heap.size w w' → Calls Tryd.prog 20 #[.int .i64 s, .int .i64 size, .int .i64 i, .agg (cells8 y).toArray, .slice C k f] w' fun e w'' => e = .returned (.tuple #[.agg (cells8 a2).toArray, .int .i64 k2]) ∧ Below w'.heap.size w' w'')) (z : ¬ old < 1) (z0 : k0 = 0) (z1 : k1 = 0) (z2 : k2 = 0) (za : a1 = r0) (zb : a2 = r1) (zc : ¬ x = y)
    (n1 n2 : Nat) (p1 p2 : List Text)
    (hC1 : Hid (∀ w', Below w.heap.size w w' → Calls Tryd.prog 22 #[.int .i64 s, .int .i64 old, .int .i64 i, .agg (cells8 x).toArray, .slice B m d] w' fun e w'' => ∃ v xs, e = .returned (.tuple #[v, .int .i64 0]) ∧ w''.ownsRow w'.heap.size 27 1 v n1 xs ∧ Tx w'' xs p1 ∧ Below w'.heap.size w' w'' ∧ (n1 = 0 → v.ownBlock = none)))
    (hC2 : Hid (∀ w', Below w.heap.size w w' → Calls Tryd.prog 22 #[.int .i64 s, .int .i64 size, .int .i64 i, .agg (cells8 y).toArray, .slice C k f] w' fun e w'' => ∃ v xs, e = .returned (.tuple #[v, .int .i64 0]) ∧ w''.ownsRow w'.heap.size 27 1 v n2 xs ∧ Tx w'' xs p2 ∧ Below w'.heap.size w' w'' ∧ (n2 = 0 → v.ownBlock = none)))
    (pl1 : p1.length = n1) (pl2 : p2.length = n2) (pt1 : ∀ q ∈ p1, q.length = 65) (pt2 : ∀ q ∈ p2, q.length = 65) (n1b : n1 ≤ 100) (n2b : n2 ≤ 100) (hBB : Hid (∀ w', Below w.heap.size w w' → Base w')) (zo : ¬ old < size) (hM : TwiceP.Met s (p1 ++ p2)) :
    Calls Tryd.prog 11 #[.int .i64 s, .int .i64 old, .int .i64 size, .int .i64 i, .agg (cells8 r0).toArray, .agg (cells8 r1).toArray, .slice A n c, .agg (cells8 x).toArray, .slice B m d, .agg (cells8 y).toArray, .slice C k f] w fun e w' => e = .returned (.bool true) ∧ Below w.heap.size w w' := by
  have hb : Hid (Below w.heap.size w ((((w.alloc (.cells (cells8 r0).toArray 23)).alloc (.cells (cells8 r1).toArray 23)).alloc (.cells (cells8 x).toArray 23)).alloc (.cells (cells8 y).toArray 23))) := (((Below.heap_below w _).alloc (by simp) _).alloc (by simp; omega) _).alloc (by simp; omega) _
  have hR : Hid (Blk ((((w.alloc (.cells (cells8 r0).toArray 23)).alloc (.cells (cells8 r1).toArray 23)).alloc (.cells (cells8 x).toArray 23)).alloc (.cells (cells8 y).toArray 23)) w.heap.size 23 (cells8 r0).toArray) := (((Blk.new w _ _).alloc _).alloc _).alloc _
  have hS : Hid (Blk ((((w.alloc (.cells (cells8 r0).toArray 23)).alloc (.cells (cells8 r1).toArray 23)).alloc (.cells (cells8 x).toArray 23)).alloc (.cells (cells8 y).toArray 23)) (w.heap.size + 1) 23 (cells8 r1).toArray) := by
    have := ((Blk.new (w.alloc (.cells (cells8 r0).toArray 23)) 23 (cells8 r1).toArray).alloc (.cells (cells8 x).toArray 23)).alloc (.cells (cells8 y).toArray 23)
    rwa [show (w.alloc (.cells (cells8 r0).toArray 23)).heap.size = w.heap.size + 1 by simp] at this
  have hX : Hid (Blk ((((w.alloc (.cells (cells8 r0).toArray 23)).alloc (.cells (cells8 r1).toArray 23)).alloc (.cells (cells8 x).toArray 23)).alloc (.cells (cells8 y).toArray 23)) (w.heap.size + 2) 23 (cells8 x).toArray) := by
    have := (heap_alloc2_new (w.alloc (.cells (cells8 r0).toArray 23)) (.cells (cells8 r1).toArray 23) (.cells (cells8 x).toArray 23)).trans rfl
    have := Blk.alloc (t := 23) (cs := (cells8 x).toArray) this (.cells (cells8 y).toArray 23)
    rwa [show (w.alloc (.cells (cells8 r0).toArray 23)).heap.size = w.heap.size + 1 by simp] at this
  have hY : Hid (Blk ((((w.alloc (.cells (cells8 r0).toArray 23)).alloc (.cells (cells8 r1).toArray 23)).alloc (.cells (cells8 x).toArray 23)).alloc (.cells (cells8 y).toArray 23)) (w.heap.size + 3) 23 (cells8 y).toArray) := by
    have := heap_alloc2_new ((w.alloc (.cells (cells8 r0).toArray 23)).alloc (.cells (cells8 r1).toArray 23)) (.cells (cells8 x).toArray 23) (.cells (cells8 y).toArray 23)
    rwa [show ((w.alloc (.cells (cells8 r0).toArray 23)).alloc (.cells (cells8 r1).toArray 23)).heap.size = w.heap.size + 2 by simp] at this
  have Fr := Lib.hid (fit (x := r0) h0)
  have Fs := Lib.hid (fit (x := r1) h1)
  have Fx := Lib.hid (fit (x := x) hx)
  have Fy := Lib.hid (fit (x := y) hy)
  have Fn := Lib.hid (fit (x := nd) hnl)
  have F1 := Lib.hid (fit (x := a1) hl1)
  have F2 := Lib.hid (fit (x := a2) hl2)
  have hnn : Hid (∀ w', (binOp .neq 23 (.agg (cells8 nd).toArray) (.agg (cells8 nd).toArray)).run Tryd.prog w' = .ok (.bool false) w') := fun w' => (neq_dig nd nd hnl hnl w').trans (by simp)
  have hy1 : Hid (Digs [y]) := by show Digs _; intro q hq; obtain rfl := List.mem_singleton.1 hq; exact hy
  have hxy2 : Hid (Digs [x, y]) := by show Digs _; intro q hq; rcases List.mem_cons.1 hq with rfl | hq; exact hx; obtain rfl := List.mem_singleton.1 hq; exact hy
  subst z0 z1 z2
  have q1 := neq_dig a1 r0 hl1 h0
  rw [decide_eq_true za] at q1
  simp only [Bool.not_true] at q1
  clear za
  have q2 := neq_dig a2 r1 hl2 h1
  rw [decide_eq_true zb] at q2
  simp only [Bool.not_true] at q2
  clear zb
  have q3 := eql_dig x y hx hy
  rw [decide_eq_false zc] at q3
  clear zc
  obtain ⟨i0, ii, iz0, iz1, iz2⟩ := info_partsN infoT
  clear h0 h1 hx hy hnl hl1 hl2
  have yz : (old < 1) = False := eq_false z
  clear z
  have yo : (old < size) = False := eq_false zo
  clear zo
  go_enter Tryd.func11, Tryd.ntmps11
  go_wp2_with (first
    | ((with_reducible change wpList _ _ _ ({ dst := some 40, op := _, type := _, pos := _, after := _, guard := _ } :: _) _ _); refine wpList_load_row (o := ⟨some 40, _, _, _, _, _⟩) rfl 23 (.tmp 18) rfl (w.heap.size + 2) rfl 23 ((cells8 x).toArray) (0, 0) _ hX.out Tryd.underlying23 rfl Fx.out.size ?_)
    | ((with_reducible change wpList _ _ _ ({ dst := some 41, op := _, type := _, pos := _, after := _, guard := _ } :: _) _ _); refine wpList_load_row (o := ⟨some 41, _, _, _, _, _⟩) rfl 23 (.tmp 20) rfl (w.heap.size + 3) rfl 23 ((cells8 y).toArray) (0, 0) _ hY.out Tryd.underlying23 rfl Fy.out.size ?_)
    | ((with_reducible change wpList _ _ _ ({ dst := some 42, op := _, type := _, pos := _, after := _, guard := _ } :: _) _ _); refine wpList_buildD (o := ⟨some 42, _, _, _, _, _⟩) rfl 1 _ rfl [y] hy1.out rfl (by decide) (by decide) rfl ?_; intro w1 g1 hB1 kk; have hR1 := Lib.hid (hR.out.onT kk); have hS1 := Lib.hid (hS.out.onT kk); have hX1 := Lib.hid (hX.out.onT kk); have hY1 := Lib.hid (hY.out.onT kk); have hb1 : Hid (Below w.heap.size w w1) := hb.out.trans (kk.mono hb.out.size); clear kk hR hS hX hY hb)
    | (go_at_call 20; refine (hI0.out _ g1 hb1.out hB1).mono ?_; rintro e w2 ⟨rfl, kk⟩; clear hI0 hB1; have hR2 := Lib.hid (hR1.out.onT kk); have hS2 := Lib.hid (hS1.out.onT kk); have hX2 := Lib.hid (hX1.out.onT kk); have hY2 := Lib.hid (hY1.out.onT kk); have hb2 : Hid (Below w.heap.size w w2) := hb1.out.trans (kk.mono hb1.out.size); clear kk hR1 hS1 hX1 hY1 hb1)
    | ((with_reducible change wpList _ _ _ ({ dst := none, op := Op.store 23 (.tmp 23) _, type := _, pos := _, after := _, guard := _ } :: _) _ _); refine wpList_store_whole (o := ⟨none, _, _, _, _, _⟩) rfl 23 (.tmp 23) (.tmp 44) rfl (w2.heap.size) ((cells8 nd).toArray) rfl rfl 23 (Z32) (Blk.new w2 _ _) Fn.out.size Fn.out.zero Fn.out.one ?_; intro w3 hN3 kq; have kk := kept_fresh kq; replace hN3 := Lib.hid hN3; clear kq; have hR3 := Lib.hid (hR2.out.onT kk); have hS3 := Lib.hid (hS2.out.onT kk); have hX3 := Lib.hid (hX2.out.onT kk); have hY3 := Lib.hid (hY2.out.onT kk); have hb3 : Hid (Below w.heap.size w w3) := hb2.out.trans (kk.mono hb2.out.size); clear kk hR2 hS2 hX2 hY2 hb2))
  have s0 : Hid (Below w3.heap.size w3 w3.drew) := (Below.refl _ _).drew
  refine held_start (fun w' => Below w3.heap.size w3 w') 19 rfl (by kernel_rfl) ?_
  refine held_take (i := 0) (v := .int .i64 0) rfl (by kernel_rfl) (by kernel_rfl) (by kernel_rfl) (fun _ _ _ h => h) s0.out (by rfl) (fun w' hw' => run_mv (.tmp 24) rfl w') ?_
  (intro K hK; go_simp; refine hK _ ?_; clear hK K)
  refine held_take (i := 1) (v := .bool false) rfl (by kernel_rfl) (by kernel_rfl) (by kernel_rfl) (fun _ _ _ h => h) s0.out (by rfl) (fun w' hw' => by go_simp) ?_
  (intro K hK; go_simp; refine hK _ ?_; clear hK K)
  refine held_take (i := 2) (v := .bool false) rfl (by kernel_rfl) (by kernel_rfl) (by kernel_rfl) (fun _ _ _ h => h) s0.out (by rfl) (fun w' hw' => by go_simp) ?_
  (intro K hK; go_simp; refine hK _ ?_; clear hK K)
  refine held_take (i := 3) (v := .agg ((cells8 nd).toArray)) rfl (by kernel_rfl) (by kernel_rfl) (by kernel_rfl) (fun _ _ _ h => h) s0.out (by rfl) (fun w' hw' => exec_row 23 (.tmp 23) rfl (w2.heap.size) rfl 23 ((cells8 nd).toArray) (0, 0) _ (hN3.out.onT hw') Tryd.underlying23 rfl Fn.out.size) ?_
  (intro K hK; go_simp; refine hK _ ?_; clear hK K)
  refine held_take (i := 4) (v := .int .i64 s) rfl (by kernel_rfl) (by kernel_rfl) (by kernel_rfl) (fun _ _ _ h => h) s0.out (by rfl) (fun w' hw' => run_mv (.tmp 0) rfl w') ?_
  (intro K hK; go_simp; refine hK _ ?_; clear hK K)
  refine held_take (i := 5) (v := .agg ((cells8 x).toArray)) rfl (by kernel_rfl) (by kernel_rfl) (by kernel_rfl) (fun _ _ _ h => h) s0.out (by rfl) (fun w' hw' => exec_row 23 (.tmp 18) rfl (w.heap.size + 2) rfl 23 ((cells8 x).toArray) (0, 0) _ (hX3.out.onT hw') Tryd.underlying23 rfl Fx.out.size) ?_
  (intro K hK; go_simp; refine hK _ ?_; clear hK K)
  refine held_take (i := 6) (v := .agg ((cells8 y).toArray)) rfl (by kernel_rfl) (by kernel_rfl) (by kernel_rfl) (fun _ _ _ h => h) s0.out (by rfl) (fun w' hw' => exec_row 23 (.tmp 20) rfl (w.heap.size + 3) rfl 23 ((cells8 y).toArray) (0, 0) _ (hY3.out.onT hw') Tryd.underlying23 rfl Fy.out.size) ?_
  (intro K hK; go_simp; refine hK _ ?_; clear hK K)
  refine held_only (i := 7) rfl (by kernel_rfl) (by rfl) (fun K hK => ?_)
  refine wp_fn (R := fun v w'' => v = .agg (cells8 nd).toArray ∧ Below w3.heap.size w3 w'') (args := #[.int .i64 s, .agg (cells8 x).toArray, .agg (cells8 y).toArray]) _ _ rfl rfl Tryd.func51 (by kernel_rfl) (by kernel_rfl) ((hNd.out _).mono fun e w'' ⟨he, hb⟩ => ⟨_, he, rfl, s0.out.trans (hb.mono s0.out.size)⟩) ?_
  rintro v1 w4 ⟨rfl, h4⟩
  replace h4 := Lib.hid h4
  go_simp
  refine hK _ _ h4.out ?_
  clear hK K
  refine held_take (i := 8) (v := .bool false) rfl (by kernel_rfl) (by kernel_rfl) (by kernel_rfl) (fun _ _ _ h => h) h4.out (by rfl) (fun w' hw' => run_cmp rfl rfl rfl qD (hnn.out w')) ?_
  (intro K hK; go_simp; refine hK _ ?_; clear hK K)
  refine held_take (i := 9) (v := .bool false) rfl (by kernel_rfl) (by kernel_rfl) (by kernel_rfl) (fun _ _ _ h => h) h4.out (by rfl) (fun w' hw' => by go_simp) ?_
  (intro K hK; go_simp; refine hK _ ?_; clear hK K)
  refine held_take (i := 10) (v := .bool false) rfl (by kernel_rfl) (by kernel_rfl) (by kernel_rfl) (fun _ _ _ h => h) h4.out (by rfl) (fun w' hw' => by go_simp) ?_
  (intro K hK; go_simp; refine hK _ ?_; clear hK K)
  refine held_take (i := 11) (v := .agg ((cells8 nd).toArray)) rfl (by kernel_rfl) (by kernel_rfl) (by kernel_rfl) (fun _ _ _ h => h) h4.out (by rfl) (fun w' hw' => exec_row 23 (.tmp 23) rfl (w2.heap.size) rfl 23 ((cells8 nd).toArray) (0, 0) _ (hN3.out.onT hw') Tryd.underlying23 rfl Fn.out.size) ?_
  (intro K hK; go_simp; refine hK _ ?_; clear hK K)
  refine held_take (i := 12) (v := .int .i64 s) rfl (by kernel_rfl) (by kernel_rfl) (by kernel_rfl) (fun _ _ _ h => h) h4.out (by rfl) (fun w' hw' => run_mv (.tmp 0) rfl w') ?_
  (intro K hK; go_simp; refine hK _ ?_; clear hK K)
  refine held_take (i := 13) (v := .agg ((cells8 x).toArray)) rfl (by kernel_rfl) (by kernel_rfl) (by kernel_rfl) (fun _ _ _ h => h) h4.out (by rfl) (fun w' hw' => exec_row 23 (.tmp 18) rfl (w.heap.size + 2) rfl 23 ((cells8 x).toArray) (0, 0) _ (hX3.out.onT hw') Tryd.underlying23 rfl Fx.out.size) ?_
  (intro K hK; go_simp; refine hK _ ?_; clear hK K)
  refine held_take (i := 14) (v := .agg ((cells8 y).toArray)) rfl (by kernel_rfl) (by kernel_rfl) (by kernel_rfl) (fun _ _ _ h => h) h4.out (by rfl) (fun w' hw' => exec_row 23 (.tmp 20) rfl (w.heap.size + 3) rfl 23 ((cells8 y).toArray) (0, 0) _ (hY3.out.onT hw') Tryd.underlying23 rfl Fy.out.size) ?_
  (intro K hK; go_simp; refine hK _ ?_; clear hK K)
  refine held_only (i := 15) rfl (by kernel_rfl) (by rfl) (fun K hK => ?_)
  refine wp_buildD 2 _ rfl [x, y] hxy2.out rfl (by decide) (by decide) rfl ?_
  intro w5 g5 hR5 kk
  have h5 : Hid (Below w3.heap.size w3 w5) := h4.out.trans (kk.mono h4.out.size)
  replace hR5 := Lib.hid hR5
  clear kk
  go_simp
  refine hK _ _ h5.out ?_
  clear hK K
  refine held_only (i := 16) rfl (by kernel_rfl) (by rfl) (fun K hK => ?_)
  refine wp_fn (R := fun v w'' => v = .agg (cells8 nd).toArray ∧ Below w3.heap.size w3 w'') (args := #[.int .i64 s, .slice (some ⟨g5, 0, none⟩) 2 2]) _ _ rfl rfl Tryd.func52 (by kernel_rfl) (by kernel_rfl) ((hRt.out _ g5 (hb3.out.trans (h5.out.mono hb3.out.size)) hR5.out).mono fun e w'' ⟨he, hb⟩ => ⟨_, he, rfl, h5.out.trans (hb.mono h5.out.size)⟩) ?_
  rintro v1 w6 ⟨rfl, h6⟩
  replace h6 := Lib.hid h6
  go_simp
  refine hK _ _ h6.out ?_
  clear hK K
  refine held_take (i := 17) (v := .bool false) rfl (by kernel_rfl) (by kernel_rfl) (by kernel_rfl) (fun _ _ _ h => h) h6.out (by rfl) (fun w' hw' => run_cmp rfl rfl rfl qD (hnn.out w')) ?_
  (intro K hK; go_simp; refine hK _ ?_; clear hK K)
  refine held_take (i := 18) (v := .bool false) rfl (by kernel_rfl) (by kernel_rfl) (by kernel_rfl) (fun _ _ _ h => h) h6.out (by rfl) (fun w' hw' => by go_simp) ?_
  (intro K hK; go_simp; refine hK _ ?_; clear hK K)
  refine held_end (by kernel_rfl) ?_
  have kk := h6.out
  clear hR5 h5 h4 s0 h6 hNd hRt hN3 hnn hy1 hxy2
  have hR6 := Lib.hid (hR3.out.onT kk)
  have hS6 := Lib.hid (hS3.out.onT kk)
  have hX6 := Lib.hid (hX3.out.onT kk)
  have hY6 := Lib.hid (hY3.out.onT kk)
  have hb6 : Hid (Below w.heap.size w w6) := hb3.out.trans (kk.mono hb3.out.size)
  clear kk hR3 hS3 hX3 hY3 hb3
  go_wp2_with (first
    | ((with_reducible change wpList _ _ _ ({ dst := some 71, op := _, type := _, pos := _, after := _, guard := _ } :: _) _ _); (with_reducible refine Veil.out ?_); refine wpList_rowW (o := ⟨some 71, _, _, _, _, _⟩) rfl 23 (.tmp 15) rfl (w.heap.size) rfl 23 ((cells8 r0).toArray) (0, 0) _ hR6.out Tryd.underlying23 rfl Fr.out.size ?_)
    | ((with_reducible change wpList _ _ _ ({ dst := some 72, op := _, type := _, pos := _, after := _, guard := _ } :: _) _ _); (with_reducible refine Veil.out ?_); refine wpList_rowW (o := ⟨some 72, _, _, _, _, _⟩) rfl 23 (.tmp 16) rfl (w.heap.size + 1) rfl 23 ((cells8 r1).toArray) (0, 0) _ hS6.out Tryd.underlying23 rfl Fs.out.size ?_)
    | (go_at_call 25; refine (hAg.out _ hb6.out).mono ?_; rintro e w7 ⟨rfl, kk⟩; clear hAg; have hR7 := Lib.hid (hR6.out.onT kk); have hS7 := Lib.hid (hS6.out.onT kk); have hX7 := Lib.hid (hX6.out.onT kk); have hY7 := Lib.hid (hY6.out.onT kk); have hb7 : Hid (Below w.heap.size w w7) := hb6.out.trans (kk.mono hb6.out.size); clear kk hR6 hS6 hX6 hY6 hb6)
    | ((with_reducible change wpList _ _ _ ({ dst := some 81, op := _, type := _, pos := _, after := _, guard := _ } :: _) _ _); refine wpList_load_row (o := ⟨some 81, _, _, _, _, _⟩) rfl 23 (.tmp 18) rfl (w.heap.size + 2) rfl 23 ((cells8 x).toArray) (0, 0) _ hX7.out Tryd.underlying23 rfl Fx.out.size ?_)
    | (go_at_call 20; refine (hI1.out _ hb7.out).mono ?_; rintro e w8 ⟨rfl, kk⟩; clear hI1; have hR8 := Lib.hid (hR7.out.onT kk); have hS8 := Lib.hid (hS7.out.onT kk); have hX8 := Lib.hid (hX7.out.onT kk); have hY8 := Lib.hid (hY7.out.onT kk); have hb8 : Hid (Below w.heap.size w w8) := hb7.out.trans (kk.mono hb7.out.size); clear kk hR7 hS7 hX7 hY7 hb7)
    | ((with_reducible change wpList _ _ _ ({ dst := none, op := Op.store 23 (.tmp 25) _, type := _, pos := _, after := _, guard := _ } :: _) _ _); refine wpList_store_whole (o := ⟨none, _, _, _, _, _⟩) rfl 23 (.tmp 25) (.tmp 84) rfl (w8.heap.size) ((cells8 a1).toArray) rfl rfl 23 (Z32) (Blk.new w8 _ _) F1.out.size F1.out.zero F1.out.one ?_; intro w9 hP9 kq; have kk := kept_fresh kq; replace hP9 := Lib.hid hP9; clear kq; have hR9 := Lib.hid (hR8.out.onT kk); have hS9 := Lib.hid (hS8.out.onT kk); have hX9 := Lib.hid (hX8.out.onT kk); have hY9 := Lib.hid (hY8.out.onT kk); have hb9 : Hid (Below w.heap.size w w9) := hb8.out.trans (kk.mono hb8.out.size); clear kk hR8 hS8 hX8 hY8 hb8)
    | ((with_reducible change wpList _ _ _ ({ dst := some 90, op := _, type := _, pos := _, after := _, guard := _ } :: _) _ _); refine wpList_load_row (o := ⟨some 90, _, _, _, _, _⟩) rfl 23 (.tmp 20) rfl (w.heap.size + 3) rfl 23 ((cells8 y).toArray) (0, 0) _ hY9.out Tryd.underlying23 rfl Fy.out.size ?_)
    | (go_at_call 20; refine (hI2.out _ hb9.out).mono ?_; rintro e w10 ⟨rfl, kk⟩; clear hI2; have hR10 := Lib.hid (hR9.out.onT kk); have hS10 := Lib.hid (hS9.out.onT kk); have hX10 := Lib.hid (hX9.out.onT kk); have hY10 := Lib.hid (hY9.out.onT kk); have hP10 := Lib.hid (hP9.out.onT kk); have hb10 : Hid (Below w.heap.size w w10) := hb9.out.trans (kk.mono hb9.out.size); clear kk hR9 hS9 hX9 hY9 hP9 hb9)
    | ((with_reducible change wpList _ _ _ ({ dst := none, op := Op.store 23 (.tmp 27) _, type := _, pos := _, after := _, guard := _ } :: _) _ _); refine wpList_store_whole (o := ⟨none, _, _, _, _, _⟩) rfl 23 (.tmp 27) (.tmp 93) rfl (w10.heap.size) ((cells8 a2).toArray) rfl rfl 23 (Z32) (Blk.new w10 _ _) F2.out.size F2.out.zero F2.out.one ?_; intro w11 hQ11 kq; have kk := kept_fresh kq; replace hQ11 := Lib.hid hQ11; clear kq; have hR11 := Lib.hid (hR10.out.onT kk); have hS11 := Lib.hid (hS10.out.onT kk); have hX11 := Lib.hid (hX10.out.onT kk); have hY11 := Lib.hid (hY10.out.onT kk); have hP11 := Lib.hid (hP10.out.onT kk); have hb11 : Hid (Below w.heap.size w w11) := hb10.out.trans (kk.mono hb10.out.size); clear kk hR10 hS10 hX10 hY10 hP10 hb10)
    | ((with_reducible change wpList _ _ _ ({ dst := some 102, op := _, type := _, pos := _, after := _, guard := _ } :: _) _ _); (with_reducible refine Veil.out ?_); refine wpList_rowW (o := ⟨some 102, _, _, _, _, _⟩) rfl 23 (.tmp 25) rfl (w8.heap.size) rfl 23 ((cells8 a1).toArray) (0, 0) _ hP11.out Tryd.underlying23 rfl F1.out.size ?_)
    | ((with_reducible change wpList _ _ _ ({ dst := some 103, op := _, type := _, pos := _, after := _, guard := _ } :: _) _ _); (with_reducible refine Veil.out ?_); refine wpList_rowW (o := ⟨some 103, _, _, _, _, _⟩) rfl 23 (.tmp 15) rfl (w.heap.size) rfl 23 ((cells8 r0).toArray) (0, 0) _ hR11.out Tryd.underlying23 rfl Fr.out.size ?_)
    | ((with_reducible change wpList _ _ _ ({ dst := some 107, op := _, type := _, pos := _, after := _, guard := _ } :: _) _ _); (with_reducible refine Veil.out ?_); refine wpList_rowW (o := ⟨some 107, _, _, _, _, _⟩) rfl 23 (.tmp 27) rfl (w10.heap.size) rfl 23 ((cells8 a2).toArray) (0, 0) _ hQ11.out Tryd.underlying23 rfl F2.out.size ?_)
    | ((with_reducible change wpList _ _ _ ({ dst := some 108, op := _, type := _, pos := _, after := _, guard := _ } :: _) _ _); (with_reducible refine Veil.out ?_); refine wpList_rowW (o := ⟨some 108, _, _, _, _, _⟩) rfl 23 (.tmp 16) rfl (w.heap.size + 1) rfl 23 ((cells8 r1).toArray) (0, 0) _ hS11.out Tryd.underlying23 rfl Fs.out.size ?_)
    | ((with_reducible change wpList _ _ _ ({ dst := some 112, op := _, type := _, pos := _, after := _, guard := _ } :: _) _ _); (with_reducible refine Veil.out ?_); refine wpList_rowW (o := ⟨some 112, _, _, _, _, _⟩) rfl 23 (.tmp 18) rfl (w.heap.size + 2) rfl 23 ((cells8 x).toArray) (0, 0) _ hX11.out Tryd.underlying23 rfl Fx.out.size ?_)
    | ((with_reducible change wpList _ _ _ ({ dst := some 113, op := _, type := _, pos := _, after := _, guard := _ } :: _) _ _); (with_reducible refine Veil.out ?_); refine wpList_rowW (o := ⟨some 113, _, _, _, _, _⟩) rfl 23 (.tmp 20) rfl (w.heap.size + 3) rfl 23 ((cells8 y).toArray) (0, 0) _ hY11.out Tryd.underlying23 rfl Fy.out.size ?_)
    | ((with_reducible change wpList _ _ _ ({ dst := some 120, op := _, type := _, pos := _, after := _, guard := _ } :: _) _ _); refine wpList_load_row (o := ⟨some 120, _, _, _, _, _⟩) rfl 23 (.tmp 18) rfl (w.heap.size + 2) rfl 23 ((cells8 x).toArray) (0, 0) _ hX11.out Tryd.underlying23 rfl Fx.out.size ?_)
    | (go_at_call 22; refine (hC1.out _ hb11.out).mono ?_; rintro e w12 ⟨v1, xs1, rfl, hO12, hT12, kk, hz1⟩; clear hC1; replace hO12 := Lib.hid (own_down hO12 hb11.out.size); replace hT12 := Lib.hid hT12; replace hz1 := Lib.hid hz1; obtain ⟨A1, c1, rfl, -⟩ := Go.Proofs.YtpgenpogjhpeoaaDoor.Append.Own.reads hO12.out; have hR12 := Lib.hid (hR11.out.onT kk); have hS12 := Lib.hid (hS11.out.onT kk); have hX12 := Lib.hid (hX11.out.onT kk); have hY12 := Lib.hid (hY11.out.onT kk); have hb12 : Hid (Below w.heap.size w w12) := hb11.out.trans (kk.mono hb11.out.size); clear kk hR11 hS11 hX11 hY11 hb11)
    | ((with_reducible change wpList _ _ _ ({ dst := some 129, op := _, type := _, pos := _, after := _, guard := _ } :: _) _ _); refine wpList_load_row (o := ⟨some 129, _, _, _, _, _⟩) rfl 23 (.tmp 20) rfl (w.heap.size + 3) rfl 23 ((cells8 y).toArray) (0, 0) _ hY12.out Tryd.underlying23 rfl Fy.out.size ?_)
    | (go_at_call 22; refine (hC2.out _ hb12.out).mono ?_; rintro e w13 ⟨v2, xs2, rfl, hU13, hV13, kk, hz2⟩; clear hC2 hz2; obtain ⟨A2, c2, rfl, -, -, hnil13, hrd13, -⟩ := Go.Proofs.YtpgenpogjhpeoaaDoor.Append.Own.reads hU13; have hone13 := Lib.hid (own_oneT hU13 hV13 pl2); replace hV13 := Lib.hid hV13; replace hnil13 := Lib.hid hnil13; replace hrd13 := Lib.hid hrd13; have hO13 := Lib.hid (Go.Proofs.YtpgenpogjhpeoaaDoor.Own.own_below hO12.out kk); have hT13 := Lib.hid (hT12.out.below kk); clear hU13; have hR13 := Lib.hid (hR12.out.onT kk); have hS13 := Lib.hid (hS12.out.onT kk); have hX13 := Lib.hid (hX12.out.onT kk); have hY13 := Lib.hid (hY12.out.onT kk); have hb13 : Hid (Below w.heap.size w w13) := hb12.out.trans (kk.mono hb12.out.size); clear hO12 hT12; clear kk hR12 hS12 hX12 hY12 hb12)
    | ((with_reducible change wpList _ _ _ ({ dst := some 136, op := _, type := _, pos := _, after := _, guard := _ } :: _) _ _); refine wpList_append_src _ (o := ⟨some 136, _, _, _, _, _⟩) rfl (.tmp 134) (.tmp 135) 24 rfl w.heap.size 27 i0 (.slice none 0 0) 1 24 Tryd.underlying24 ii iz0 iz1 iz2 rfl (by decide) (.slice A1 n1 c1) (n1) (xs1) rfl hO13.out A2 n2 c2 xs2 rfl hrd13.out hnil13.out hone13.out (by unfold maxLen; omega) (by omega) hb13.out.size ?_; intro v14 w14 hG; obtain ⟨A4, c4, rfl, hO14, hT14, hb14⟩ := cat2 hG pl1 pl2 hO13.out hT13.out hV13.out hz1.out hb13.out; have hR14 : Hid (Blk w14 w.heap.size 23 (cells8 r0).toArray) := Blk.grownO hR13.out hO13.out hG; clear hG)
    | (go_at_call 24; refine (among_any s (p1 ++ p2) (n1 + n2) (by rw [List.length_append, pl1, pl2]) (by omega) _ _ _ (hBB.out _ hb14.out) (pieces_of hO14.out hT14.out (by rw [List.length_append, pl1, pl2])) (fun q hq => by rcases List.mem_append.1 hq with h | h; rw [pt1 q h]; decide; rw [pt2 q h]; decide) hM).mono ?_; rintro e w20 ⟨rfl, kk⟩; have hb20 : Hid (Below w.heap.size w w20) := hb14.out.trans (kk.mono hb14.out.size); clear kk))
  go_ret
  exact ⟨rfl, hb20.out⟩

set_option maxRecDepth 100000 in
set_option maxHeartbeats 8000000 in
theorem tt_lt (s old size i : Int) (r0 r1 x y : Text) (h0 : r0.length = 32) (h1 : r1.length = 32) (hx : x.length = 32) (hy : y.length = 32) (n m k : Nat) (A B C : Option Addr) (c d f : Nat) (w : World) (nd a1 a2 : Text) (hnl : nd.length = 32) (hl1 : a1.length = 32) (hl2 : a2.length = 32) (k0 k1 k2 : Int)
    (hI0 : Hid (∀ w' g, Below w.heap.size w w' → RdD w' (some ⟨g, 0, none⟩) 1 [y] → Calls Tryd.prog 20 #[.int .i64 s, .int .i64 2, .int .i64 0, .agg (cells8 x).toArray, .slice (some ⟨g, 0, none⟩) 1 1] w' fun e w'' => e = .returned (.tuple #[.agg (cells8 nd).toArray, .int .i64 0]) ∧ Below w'.heap.size w' w''))
    (hNd : Hid (∀ w', Calls Tryd.prog 51 #[.int .i64 s, .agg (cells8 x).toArray, .agg (cells8 y).toArray] w' fun e w'' => e = .returned (.agg (cells8 nd).toArray) ∧ Below w'.heap.size w' w''))
    (hRt : Hid (∀ w' g, Below w.heap.size w w' → RdD w' (some ⟨g, 0, none⟩) 2 [x, y] → Calls Tryd.prog 52 #[.int .i64 s, .slice (some ⟨g, 0, none⟩) 2 2] w' fun e w'' => e = .returned (.agg (cells8 nd).toArray) ∧ Below w'.heap.size w' w''))
    (hAg : Hid (∀ w', Below w.heap.size w w' → Calls Tryd.prog 25 #[.int .i64 s, .int .i64 old, .int .i64 size, .agg (cells8 r0).toArray, .agg (cells8 r1).toArray, .slice A n c] w' fun e w'' => e = .returned (.int .i64 k0) ∧ Below w'.heap.size w' w''))
    (hI1 : Hid (∀ w', Below w.heap.size w w' → Calls Tryd.prog 20 #[.int .i64 s, .int .i64 old, .int .i64 i, .agg (cells8 x).toArray, .slice B m d] w' fun e w'' => e = .returned (.tuple #[.agg (cells8 a1).toArray, .int .i64 k1]) ∧ Below w'.heap.size w' w''))
    (hI2 : Hid (∀ w', Below w.heap.size w w' → Calls Tryd.prog 20 #[.int .i64 s, .int .i64 size, .int .i64 i, .agg (cells8 y).toArray, .slice C k f] w' fun e w'' => e = .returned (.tuple #[.agg (cells8 a2).toArray, .int .i64 k2]) ∧ Below w'.heap.size w' w'')) (z : ¬ old < 1) (z0 : k0 = 0) (z1 : k1 = 0) (z2 : k2 = 0) (za : a1 = r0) (zb : a2 = r1) (zc : ¬ x = y)
    (n1 n2 : Nat) (p1 p2 p3 : List Text)
    (hC1 : Hid (∀ w', Below w.heap.size w w' → Calls Tryd.prog 22 #[.int .i64 s, .int .i64 old, .int .i64 i, .agg (cells8 x).toArray, .slice B m d] w' fun e w'' => ∃ v xs, e = .returned (.tuple #[v, .int .i64 0]) ∧ w''.ownsRow w'.heap.size 27 1 v n1 xs ∧ Tx w'' xs p1 ∧ Below w'.heap.size w' w'' ∧ (n1 = 0 → v.ownBlock = none)))
    (hC2 : Hid (∀ w', Below w.heap.size w w' → Calls Tryd.prog 22 #[.int .i64 s, .int .i64 size, .int .i64 i, .agg (cells8 y).toArray, .slice C k f] w' fun e w'' => ∃ v xs, e = .returned (.tuple #[v, .int .i64 0]) ∧ w''.ownsRow w'.heap.size 27 1 v n2 xs ∧ Tx w'' xs p2 ∧ Below w'.heap.size w' w'' ∧ (n2 = 0 → v.ownBlock = none)))
    (pl1 : p1.length = n1) (pl2 : p2.length = n2) (pt1 : ∀ q ∈ p1, q.length = 65) (pt2 : ∀ q ∈ p2, q.length = 65) (n1b : n1 ≤ 100) (n2b : n2 ≤ 100) (hBB : Hid (∀ w', Below w.heap.size w w' → Base w')) (zo : old < size) (hM : TwiceP.Met s (p1 ++ p2 ++ p3)) (n3 : Nat) (pl3 : p3.length = n3) (pt3 : ∀ q ∈ p3, q.length = 65) (n3b : n3 ≤ 100) (n12 : 0 < n1 + n2)
    (hAx : Hid (∀ w', Below w.heap.size w w' → Calls Tryd.prog 26 #[.int .i64 s, .int .i64 old, .int .i64 size, .agg (cells8 r0).toArray, .slice A n c] w' fun e w'' => ∃ A' c' xs, e = .returned (.tuple #[.agg (cells8 r0).toArray, .agg (cells8 r1).toArray, .slice A' n3 c', .int .i64 0]) ∧ w''.ownsRow w'.heap.size 27 1 (.slice A' n3 c') n3 xs ∧ Tx w'' xs p3 ∧ Below w'.heap.size w' w'')) :
    Calls Tryd.prog 11 #[.int .i64 s, .int .i64 old, .int .i64 size, .int .i64 i, .agg (cells8 r0).toArray, .agg (cells8 r1).toArray, .slice A n c, .agg (cells8 x).toArray, .slice B m d, .agg (cells8 y).toArray, .slice C k f] w fun e w' => e = .returned (.bool true) ∧ Below w.heap.size w w' := by
  have hb : Hid (Below w.heap.size w ((((w.alloc (.cells (cells8 r0).toArray 23)).alloc (.cells (cells8 r1).toArray 23)).alloc (.cells (cells8 x).toArray 23)).alloc (.cells (cells8 y).toArray 23))) := (((Below.heap_below w _).alloc (by simp) _).alloc (by simp; omega) _).alloc (by simp; omega) _
  have hR : Hid (Blk ((((w.alloc (.cells (cells8 r0).toArray 23)).alloc (.cells (cells8 r1).toArray 23)).alloc (.cells (cells8 x).toArray 23)).alloc (.cells (cells8 y).toArray 23)) w.heap.size 23 (cells8 r0).toArray) := (((Blk.new w _ _).alloc _).alloc _).alloc _
  have hS : Hid (Blk ((((w.alloc (.cells (cells8 r0).toArray 23)).alloc (.cells (cells8 r1).toArray 23)).alloc (.cells (cells8 x).toArray 23)).alloc (.cells (cells8 y).toArray 23)) (w.heap.size + 1) 23 (cells8 r1).toArray) := by
    have := ((Blk.new (w.alloc (.cells (cells8 r0).toArray 23)) 23 (cells8 r1).toArray).alloc (.cells (cells8 x).toArray 23)).alloc (.cells (cells8 y).toArray 23)
    rwa [show (w.alloc (.cells (cells8 r0).toArray 23)).heap.size = w.heap.size + 1 by simp] at this
  have hX : Hid (Blk ((((w.alloc (.cells (cells8 r0).toArray 23)).alloc (.cells (cells8 r1).toArray 23)).alloc (.cells (cells8 x).toArray 23)).alloc (.cells (cells8 y).toArray 23)) (w.heap.size + 2) 23 (cells8 x).toArray) := by
    have := (heap_alloc2_new (w.alloc (.cells (cells8 r0).toArray 23)) (.cells (cells8 r1).toArray 23) (.cells (cells8 x).toArray 23)).trans rfl
    have := Blk.alloc (t := 23) (cs := (cells8 x).toArray) this (.cells (cells8 y).toArray 23)
    rwa [show (w.alloc (.cells (cells8 r0).toArray 23)).heap.size = w.heap.size + 1 by simp] at this
  have hY : Hid (Blk ((((w.alloc (.cells (cells8 r0).toArray 23)).alloc (.cells (cells8 r1).toArray 23)).alloc (.cells (cells8 x).toArray 23)).alloc (.cells (cells8 y).toArray 23)) (w.heap.size + 3) 23 (cells8 y).toArray) := by
    have := heap_alloc2_new ((w.alloc (.cells (cells8 r0).toArray 23)).alloc (.cells (cells8 r1).toArray 23)) (.cells (cells8 x).toArray 23) (.cells (cells8 y).toArray 23)
    rwa [show ((w.alloc (.cells (cells8 r0).toArray 23)).alloc (.cells (cells8 r1).toArray 23)).heap.size = w.heap.size + 2 by simp] at this
  have Fr := Lib.hid (fit (x := r0) h0)
  have Fs := Lib.hid (fit (x := r1) h1)
  have Fx := Lib.hid (fit (x := x) hx)
  have Fy := Lib.hid (fit (x := y) hy)
  have Fn := Lib.hid (fit (x := nd) hnl)
  have F1 := Lib.hid (fit (x := a1) hl1)
  have F2 := Lib.hid (fit (x := a2) hl2)
  have hnn : Hid (∀ w', (binOp .neq 23 (.agg (cells8 nd).toArray) (.agg (cells8 nd).toArray)).run Tryd.prog w' = .ok (.bool false) w') := fun w' => (neq_dig nd nd hnl hnl w').trans (by simp)
  have hy1 : Hid (Digs [y]) := by show Digs _; intro q hq; obtain rfl := List.mem_singleton.1 hq; exact hy
  have hxy2 : Hid (Digs [x, y]) := by show Digs _; intro q hq; rcases List.mem_cons.1 hq with rfl | hq; exact hx; obtain rfl := List.mem_singleton.1 hq; exact hy
  subst z0 z1 z2
  have q1 := neq_dig a1 r0 hl1 h0
  rw [decide_eq_true za] at q1
  simp only [Bool.not_true] at q1
  clear za
  have q2 := neq_dig a2 r1 hl2 h1
  rw [decide_eq_true zb] at q2
  simp only [Bool.not_true] at q2
  clear zb
  have q3 := eql_dig x y hx hy
  rw [decide_eq_false zc] at q3
  clear zc
  obtain ⟨i0, ii, iz0, iz1, iz2⟩ := info_partsN infoT
  clear h0 h1 hx hy hnl hl1 hl2
  have yz : (old < 1) = False := eq_false z
  clear z
  go_enter Tryd.func11, Tryd.ntmps11
  go_wp2_with (first
    | ((with_reducible change wpList _ _ _ ({ dst := some 40, op := _, type := _, pos := _, after := _, guard := _ } :: _) _ _); refine wpList_load_row (o := ⟨some 40, _, _, _, _, _⟩) rfl 23 (.tmp 18) rfl (w.heap.size + 2) rfl 23 ((cells8 x).toArray) (0, 0) _ hX.out Tryd.underlying23 rfl Fx.out.size ?_)
    | ((with_reducible change wpList _ _ _ ({ dst := some 41, op := _, type := _, pos := _, after := _, guard := _ } :: _) _ _); refine wpList_load_row (o := ⟨some 41, _, _, _, _, _⟩) rfl 23 (.tmp 20) rfl (w.heap.size + 3) rfl 23 ((cells8 y).toArray) (0, 0) _ hY.out Tryd.underlying23 rfl Fy.out.size ?_)
    | ((with_reducible change wpList _ _ _ ({ dst := some 42, op := _, type := _, pos := _, after := _, guard := _ } :: _) _ _); refine wpList_buildD (o := ⟨some 42, _, _, _, _, _⟩) rfl 1 _ rfl [y] hy1.out rfl (by decide) (by decide) rfl ?_; intro w1 g1 hB1 kk; have hR1 := Lib.hid (hR.out.onT kk); have hS1 := Lib.hid (hS.out.onT kk); have hX1 := Lib.hid (hX.out.onT kk); have hY1 := Lib.hid (hY.out.onT kk); have hb1 : Hid (Below w.heap.size w w1) := hb.out.trans (kk.mono hb.out.size); clear kk hR hS hX hY hb)
    | (go_at_call 20; refine (hI0.out _ g1 hb1.out hB1).mono ?_; rintro e w2 ⟨rfl, kk⟩; clear hI0 hB1; have hR2 := Lib.hid (hR1.out.onT kk); have hS2 := Lib.hid (hS1.out.onT kk); have hX2 := Lib.hid (hX1.out.onT kk); have hY2 := Lib.hid (hY1.out.onT kk); have hb2 : Hid (Below w.heap.size w w2) := hb1.out.trans (kk.mono hb1.out.size); clear kk hR1 hS1 hX1 hY1 hb1)
    | ((with_reducible change wpList _ _ _ ({ dst := none, op := Op.store 23 (.tmp 23) _, type := _, pos := _, after := _, guard := _ } :: _) _ _); refine wpList_store_whole (o := ⟨none, _, _, _, _, _⟩) rfl 23 (.tmp 23) (.tmp 44) rfl (w2.heap.size) ((cells8 nd).toArray) rfl rfl 23 (Z32) (Blk.new w2 _ _) Fn.out.size Fn.out.zero Fn.out.one ?_; intro w3 hN3 kq; have kk := kept_fresh kq; replace hN3 := Lib.hid hN3; clear kq; have hR3 := Lib.hid (hR2.out.onT kk); have hS3 := Lib.hid (hS2.out.onT kk); have hX3 := Lib.hid (hX2.out.onT kk); have hY3 := Lib.hid (hY2.out.onT kk); have hb3 : Hid (Below w.heap.size w w3) := hb2.out.trans (kk.mono hb2.out.size); clear kk hR2 hS2 hX2 hY2 hb2))
  have s0 : Hid (Below w3.heap.size w3 w3.drew) := (Below.refl _ _).drew
  refine held_start (fun w' => Below w3.heap.size w3 w') 19 rfl (by kernel_rfl) ?_
  refine held_take (i := 0) (v := .int .i64 0) rfl (by kernel_rfl) (by kernel_rfl) (by kernel_rfl) (fun _ _ _ h => h) s0.out (by rfl) (fun w' hw' => run_mv (.tmp 24) rfl w') ?_
  (intro K hK; go_simp; refine hK _ ?_; clear hK K)
  refine held_take (i := 1) (v := .bool false) rfl (by kernel_rfl) (by kernel_rfl) (by kernel_rfl) (fun _ _ _ h => h) s0.out (by rfl) (fun w' hw' => by go_simp) ?_
  (intro K hK; go_simp; refine hK _ ?_; clear hK K)
  refine held_take (i := 2) (v := .bool false) rfl (by kernel_rfl) (by kernel_rfl) (by kernel_rfl) (fun _ _ _ h => h) s0.out (by rfl) (fun w' hw' => by go_simp) ?_
  (intro K hK; go_simp; refine hK _ ?_; clear hK K)
  refine held_take (i := 3) (v := .agg ((cells8 nd).toArray)) rfl (by kernel_rfl) (by kernel_rfl) (by kernel_rfl) (fun _ _ _ h => h) s0.out (by rfl) (fun w' hw' => exec_row 23 (.tmp 23) rfl (w2.heap.size) rfl 23 ((cells8 nd).toArray) (0, 0) _ (hN3.out.onT hw') Tryd.underlying23 rfl Fn.out.size) ?_
  (intro K hK; go_simp; refine hK _ ?_; clear hK K)
  refine held_take (i := 4) (v := .int .i64 s) rfl (by kernel_rfl) (by kernel_rfl) (by kernel_rfl) (fun _ _ _ h => h) s0.out (by rfl) (fun w' hw' => run_mv (.tmp 0) rfl w') ?_
  (intro K hK; go_simp; refine hK _ ?_; clear hK K)
  refine held_take (i := 5) (v := .agg ((cells8 x).toArray)) rfl (by kernel_rfl) (by kernel_rfl) (by kernel_rfl) (fun _ _ _ h => h) s0.out (by rfl) (fun w' hw' => exec_row 23 (.tmp 18) rfl (w.heap.size + 2) rfl 23 ((cells8 x).toArray) (0, 0) _ (hX3.out.onT hw') Tryd.underlying23 rfl Fx.out.size) ?_
  (intro K hK; go_simp; refine hK _ ?_; clear hK K)
  refine held_take (i := 6) (v := .agg ((cells8 y).toArray)) rfl (by kernel_rfl) (by kernel_rfl) (by kernel_rfl) (fun _ _ _ h => h) s0.out (by rfl) (fun w' hw' => exec_row 23 (.tmp 20) rfl (w.heap.size + 3) rfl 23 ((cells8 y).toArray) (0, 0) _ (hY3.out.onT hw') Tryd.underlying23 rfl Fy.out.size) ?_
  (intro K hK; go_simp; refine hK _ ?_; clear hK K)
  refine held_only (i := 7) rfl (by kernel_rfl) (by rfl) (fun K hK => ?_)
  refine wp_fn (R := fun v w'' => v = .agg (cells8 nd).toArray ∧ Below w3.heap.size w3 w'') (args := #[.int .i64 s, .agg (cells8 x).toArray, .agg (cells8 y).toArray]) _ _ rfl rfl Tryd.func51 (by kernel_rfl) (by kernel_rfl) ((hNd.out _).mono fun e w'' ⟨he, hb⟩ => ⟨_, he, rfl, s0.out.trans (hb.mono s0.out.size)⟩) ?_
  rintro v1 w4 ⟨rfl, h4⟩
  replace h4 := Lib.hid h4
  go_simp
  refine hK _ _ h4.out ?_
  clear hK K
  refine held_take (i := 8) (v := .bool false) rfl (by kernel_rfl) (by kernel_rfl) (by kernel_rfl) (fun _ _ _ h => h) h4.out (by rfl) (fun w' hw' => run_cmp rfl rfl rfl qD (hnn.out w')) ?_
  (intro K hK; go_simp; refine hK _ ?_; clear hK K)
  refine held_take (i := 9) (v := .bool false) rfl (by kernel_rfl) (by kernel_rfl) (by kernel_rfl) (fun _ _ _ h => h) h4.out (by rfl) (fun w' hw' => by go_simp) ?_
  (intro K hK; go_simp; refine hK _ ?_; clear hK K)
  refine held_take (i := 10) (v := .bool false) rfl (by kernel_rfl) (by kernel_rfl) (by kernel_rfl) (fun _ _ _ h => h) h4.out (by rfl) (fun w' hw' => by go_simp) ?_
  (intro K hK; go_simp; refine hK _ ?_; clear hK K)
  refine held_take (i := 11) (v := .agg ((cells8 nd).toArray)) rfl (by kernel_rfl) (by kernel_rfl) (by kernel_rfl) (fun _ _ _ h => h) h4.out (by rfl) (fun w' hw' => exec_row 23 (.tmp 23) rfl (w2.heap.size) rfl 23 ((cells8 nd).toArray) (0, 0) _ (hN3.out.onT hw') Tryd.underlying23 rfl Fn.out.size) ?_
  (intro K hK; go_simp; refine hK _ ?_; clear hK K)
  refine held_take (i := 12) (v := .int .i64 s) rfl (by kernel_rfl) (by kernel_rfl) (by kernel_rfl) (fun _ _ _ h => h) h4.out (by rfl) (fun w' hw' => run_mv (.tmp 0) rfl w') ?_
  (intro K hK; go_simp; refine hK _ ?_; clear hK K)
  refine held_take (i := 13) (v := .agg ((cells8 x).toArray)) rfl (by kernel_rfl) (by kernel_rfl) (by kernel_rfl) (fun _ _ _ h => h) h4.out (by rfl) (fun w' hw' => exec_row 23 (.tmp 18) rfl (w.heap.size + 2) rfl 23 ((cells8 x).toArray) (0, 0) _ (hX3.out.onT hw') Tryd.underlying23 rfl Fx.out.size) ?_
  (intro K hK; go_simp; refine hK _ ?_; clear hK K)
  refine held_take (i := 14) (v := .agg ((cells8 y).toArray)) rfl (by kernel_rfl) (by kernel_rfl) (by kernel_rfl) (fun _ _ _ h => h) h4.out (by rfl) (fun w' hw' => exec_row 23 (.tmp 20) rfl (w.heap.size + 3) rfl 23 ((cells8 y).toArray) (0, 0) _ (hY3.out.onT hw') Tryd.underlying23 rfl Fy.out.size) ?_
  (intro K hK; go_simp; refine hK _ ?_; clear hK K)
  refine held_only (i := 15) rfl (by kernel_rfl) (by rfl) (fun K hK => ?_)
  refine wp_buildD 2 _ rfl [x, y] hxy2.out rfl (by decide) (by decide) rfl ?_
  intro w5 g5 hR5 kk
  have h5 : Hid (Below w3.heap.size w3 w5) := h4.out.trans (kk.mono h4.out.size)
  replace hR5 := Lib.hid hR5
  clear kk
  go_simp
  refine hK _ _ h5.out ?_
  clear hK K
  refine held_only (i := 16) rfl (by kernel_rfl) (by rfl) (fun K hK => ?_)
  refine wp_fn (R := fun v w'' => v = .agg (cells8 nd).toArray ∧ Below w3.heap.size w3 w'') (args := #[.int .i64 s, .slice (some ⟨g5, 0, none⟩) 2 2]) _ _ rfl rfl Tryd.func52 (by kernel_rfl) (by kernel_rfl) ((hRt.out _ g5 (hb3.out.trans (h5.out.mono hb3.out.size)) hR5.out).mono fun e w'' ⟨he, hb⟩ => ⟨_, he, rfl, h5.out.trans (hb.mono h5.out.size)⟩) ?_
  rintro v1 w6 ⟨rfl, h6⟩
  replace h6 := Lib.hid h6
  go_simp
  refine hK _ _ h6.out ?_
  clear hK K
  refine held_take (i := 17) (v := .bool false) rfl (by kernel_rfl) (by kernel_rfl) (by kernel_rfl) (fun _ _ _ h => h) h6.out (by rfl) (fun w' hw' => run_cmp rfl rfl rfl qD (hnn.out w')) ?_
  (intro K hK; go_simp; refine hK _ ?_; clear hK K)
  refine held_take (i := 18) (v := .bool false) rfl (by kernel_rfl) (by kernel_rfl) (by kernel_rfl) (fun _ _ _ h => h) h6.out (by rfl) (fun w' hw' => by go_simp) ?_
  (intro K hK; go_simp; refine hK _ ?_; clear hK K)
  refine held_end (by kernel_rfl) ?_
  have kk := h6.out
  clear hR5 h5 h4 s0 h6 hNd hRt hN3 hnn hy1 hxy2
  have hR6 := Lib.hid (hR3.out.onT kk)
  have hS6 := Lib.hid (hS3.out.onT kk)
  have hX6 := Lib.hid (hX3.out.onT kk)
  have hY6 := Lib.hid (hY3.out.onT kk)
  have hb6 : Hid (Below w.heap.size w w6) := hb3.out.trans (kk.mono hb3.out.size)
  clear kk hR3 hS3 hX3 hY3 hb3
  go_wp2_with (first
    | ((with_reducible change wpList _ _ _ ({ dst := some 71, op := _, type := _, pos := _, after := _, guard := _ } :: _) _ _); (with_reducible refine Veil.out ?_); refine wpList_rowW (o := ⟨some 71, _, _, _, _, _⟩) rfl 23 (.tmp 15) rfl (w.heap.size) rfl 23 ((cells8 r0).toArray) (0, 0) _ hR6.out Tryd.underlying23 rfl Fr.out.size ?_)
    | ((with_reducible change wpList _ _ _ ({ dst := some 72, op := _, type := _, pos := _, after := _, guard := _ } :: _) _ _); (with_reducible refine Veil.out ?_); refine wpList_rowW (o := ⟨some 72, _, _, _, _, _⟩) rfl 23 (.tmp 16) rfl (w.heap.size + 1) rfl 23 ((cells8 r1).toArray) (0, 0) _ hS6.out Tryd.underlying23 rfl Fs.out.size ?_)
    | (go_at_call 25; refine (hAg.out _ hb6.out).mono ?_; rintro e w7 ⟨rfl, kk⟩; clear hAg; have hR7 := Lib.hid (hR6.out.onT kk); have hS7 := Lib.hid (hS6.out.onT kk); have hX7 := Lib.hid (hX6.out.onT kk); have hY7 := Lib.hid (hY6.out.onT kk); have hb7 : Hid (Below w.heap.size w w7) := hb6.out.trans (kk.mono hb6.out.size); clear kk hR6 hS6 hX6 hY6 hb6)
    | ((with_reducible change wpList _ _ _ ({ dst := some 81, op := _, type := _, pos := _, after := _, guard := _ } :: _) _ _); refine wpList_load_row (o := ⟨some 81, _, _, _, _, _⟩) rfl 23 (.tmp 18) rfl (w.heap.size + 2) rfl 23 ((cells8 x).toArray) (0, 0) _ hX7.out Tryd.underlying23 rfl Fx.out.size ?_)
    | (go_at_call 20; refine (hI1.out _ hb7.out).mono ?_; rintro e w8 ⟨rfl, kk⟩; clear hI1; have hR8 := Lib.hid (hR7.out.onT kk); have hS8 := Lib.hid (hS7.out.onT kk); have hX8 := Lib.hid (hX7.out.onT kk); have hY8 := Lib.hid (hY7.out.onT kk); have hb8 : Hid (Below w.heap.size w w8) := hb7.out.trans (kk.mono hb7.out.size); clear kk hR7 hS7 hX7 hY7 hb7)
    | ((with_reducible change wpList _ _ _ ({ dst := none, op := Op.store 23 (.tmp 25) _, type := _, pos := _, after := _, guard := _ } :: _) _ _); refine wpList_store_whole (o := ⟨none, _, _, _, _, _⟩) rfl 23 (.tmp 25) (.tmp 84) rfl (w8.heap.size) ((cells8 a1).toArray) rfl rfl 23 (Z32) (Blk.new w8 _ _) F1.out.size F1.out.zero F1.out.one ?_; intro w9 hP9 kq; have kk := kept_fresh kq; replace hP9 := Lib.hid hP9; clear kq; have hR9 := Lib.hid (hR8.out.onT kk); have hS9 := Lib.hid (hS8.out.onT kk); have hX9 := Lib.hid (hX8.out.onT kk); have hY9 := Lib.hid (hY8.out.onT kk); have hb9 : Hid (Below w.heap.size w w9) := hb8.out.trans (kk.mono hb8.out.size); clear kk hR8 hS8 hX8 hY8 hb8)
    | ((with_reducible change wpList _ _ _ ({ dst := some 90, op := _, type := _, pos := _, after := _, guard := _ } :: _) _ _); refine wpList_load_row (o := ⟨some 90, _, _, _, _, _⟩) rfl 23 (.tmp 20) rfl (w.heap.size + 3) rfl 23 ((cells8 y).toArray) (0, 0) _ hY9.out Tryd.underlying23 rfl Fy.out.size ?_)
    | (go_at_call 20; refine (hI2.out _ hb9.out).mono ?_; rintro e w10 ⟨rfl, kk⟩; clear hI2; have hR10 := Lib.hid (hR9.out.onT kk); have hS10 := Lib.hid (hS9.out.onT kk); have hX10 := Lib.hid (hX9.out.onT kk); have hY10 := Lib.hid (hY9.out.onT kk); have hP10 := Lib.hid (hP9.out.onT kk); have hb10 : Hid (Below w.heap.size w w10) := hb9.out.trans (kk.mono hb9.out.size); clear kk hR9 hS9 hX9 hY9 hP9 hb9)
    | ((with_reducible change wpList _ _ _ ({ dst := none, op := Op.store 23 (.tmp 27) _, type := _, pos := _, after := _, guard := _ } :: _) _ _); refine wpList_store_whole (o := ⟨none, _, _, _, _, _⟩) rfl 23 (.tmp 27) (.tmp 93) rfl (w10.heap.size) ((cells8 a2).toArray) rfl rfl 23 (Z32) (Blk.new w10 _ _) F2.out.size F2.out.zero F2.out.one ?_; intro w11 hQ11 kq; have kk := kept_fresh kq; replace hQ11 := Lib.hid hQ11; clear kq; have hR11 := Lib.hid (hR10.out.onT kk); have hS11 := Lib.hid (hS10.out.onT kk); have hX11 := Lib.hid (hX10.out.onT kk); have hY11 := Lib.hid (hY10.out.onT kk); have hP11 := Lib.hid (hP10.out.onT kk); have hb11 : Hid (Below w.heap.size w w11) := hb10.out.trans (kk.mono hb10.out.size); clear kk hR10 hS10 hX10 hY10 hP10 hb10)
    | ((with_reducible change wpList _ _ _ ({ dst := some 102, op := _, type := _, pos := _, after := _, guard := _ } :: _) _ _); (with_reducible refine Veil.out ?_); refine wpList_rowW (o := ⟨some 102, _, _, _, _, _⟩) rfl 23 (.tmp 25) rfl (w8.heap.size) rfl 23 ((cells8 a1).toArray) (0, 0) _ hP11.out Tryd.underlying23 rfl F1.out.size ?_)
    | ((with_reducible change wpList _ _ _ ({ dst := some 103, op := _, type := _, pos := _, after := _, guard := _ } :: _) _ _); (with_reducible refine Veil.out ?_); refine wpList_rowW (o := ⟨some 103, _, _, _, _, _⟩) rfl 23 (.tmp 15) rfl (w.heap.size) rfl 23 ((cells8 r0).toArray) (0, 0) _ hR11.out Tryd.underlying23 rfl Fr.out.size ?_)
    | ((with_reducible change wpList _ _ _ ({ dst := some 107, op := _, type := _, pos := _, after := _, guard := _ } :: _) _ _); (with_reducible refine Veil.out ?_); refine wpList_rowW (o := ⟨some 107, _, _, _, _, _⟩) rfl 23 (.tmp 27) rfl (w10.heap.size) rfl 23 ((cells8 a2).toArray) (0, 0) _ hQ11.out Tryd.underlying23 rfl F2.out.size ?_)
    | ((with_reducible change wpList _ _ _ ({ dst := some 108, op := _, type := _, pos := _, after := _, guard := _ } :: _) _ _); (with_reducible refine Veil.out ?_); refine wpList_rowW (o := ⟨some 108, _, _, _, _, _⟩) rfl 23 (.tmp 16) rfl (w.heap.size + 1) rfl 23 ((cells8 r1).toArray) (0, 0) _ hS11.out Tryd.underlying23 rfl Fs.out.size ?_)
    | ((with_reducible change wpList _ _ _ ({ dst := some 112, op := _, type := _, pos := _, after := _, guard := _ } :: _) _ _); (with_reducible refine Veil.out ?_); refine wpList_rowW (o := ⟨some 112, _, _, _, _, _⟩) rfl 23 (.tmp 18) rfl (w.heap.size + 2) rfl 23 ((cells8 x).toArray) (0, 0) _ hX11.out Tryd.underlying23 rfl Fx.out.size ?_)
    | ((with_reducible change wpList _ _ _ ({ dst := some 113, op := _, type := _, pos := _, after := _, guard := _ } :: _) _ _); (with_reducible refine Veil.out ?_); refine wpList_rowW (o := ⟨some 113, _, _, _, _, _⟩) rfl 23 (.tmp 20) rfl (w.heap.size + 3) rfl 23 ((cells8 y).toArray) (0, 0) _ hY11.out Tryd.underlying23 rfl Fy.out.size ?_)
    | ((with_reducible change wpList _ _ _ ({ dst := some 120, op := _, type := _, pos := _, after := _, guard := _ } :: _) _ _); refine wpList_load_row (o := ⟨some 120, _, _, _, _, _⟩) rfl 23 (.tmp 18) rfl (w.heap.size + 2) rfl 23 ((cells8 x).toArray) (0, 0) _ hX11.out Tryd.underlying23 rfl Fx.out.size ?_)
    | (go_at_call 22; refine (hC1.out _ hb11.out).mono ?_; rintro e w12 ⟨v1, xs1, rfl, hO12, hT12, kk, hz1⟩; clear hC1; replace hO12 := Lib.hid (own_down hO12 hb11.out.size); replace hT12 := Lib.hid hT12; replace hz1 := Lib.hid hz1; obtain ⟨A1, c1, rfl, -⟩ := Go.Proofs.YtpgenpogjhpeoaaDoor.Append.Own.reads hO12.out; have hR12 := Lib.hid (hR11.out.onT kk); have hS12 := Lib.hid (hS11.out.onT kk); have hX12 := Lib.hid (hX11.out.onT kk); have hY12 := Lib.hid (hY11.out.onT kk); have hb12 : Hid (Below w.heap.size w w12) := hb11.out.trans (kk.mono hb11.out.size); clear kk hR11 hS11 hX11 hY11 hb11)
    | ((with_reducible change wpList _ _ _ ({ dst := some 129, op := _, type := _, pos := _, after := _, guard := _ } :: _) _ _); refine wpList_load_row (o := ⟨some 129, _, _, _, _, _⟩) rfl 23 (.tmp 20) rfl (w.heap.size + 3) rfl 23 ((cells8 y).toArray) (0, 0) _ hY12.out Tryd.underlying23 rfl Fy.out.size ?_)
    | (go_at_call 22; refine (hC2.out _ hb12.out).mono ?_; rintro e w13 ⟨v2, xs2, rfl, hU13, hV13, kk, hz2⟩; clear hC2 hz2; obtain ⟨A2, c2, rfl, -, -, hnil13, hrd13, -⟩ := Go.Proofs.YtpgenpogjhpeoaaDoor.Append.Own.reads hU13; have hone13 := Lib.hid (own_oneT hU13 hV13 pl2); replace hV13 := Lib.hid hV13; replace hnil13 := Lib.hid hnil13; replace hrd13 := Lib.hid hrd13; have hO13 := Lib.hid (Go.Proofs.YtpgenpogjhpeoaaDoor.Own.own_below hO12.out kk); have hT13 := Lib.hid (hT12.out.below kk); clear hU13; have hR13 := Lib.hid (hR12.out.onT kk); have hS13 := Lib.hid (hS12.out.onT kk); have hX13 := Lib.hid (hX12.out.onT kk); have hY13 := Lib.hid (hY12.out.onT kk); have hb13 : Hid (Below w.heap.size w w13) := hb12.out.trans (kk.mono hb12.out.size); clear hO12 hT12; clear kk hR12 hS12 hX12 hY12 hb12)
    | ((with_reducible change wpList _ _ _ ({ dst := some 136, op := _, type := _, pos := _, after := _, guard := _ } :: _) _ _); refine wpList_append_src _ (o := ⟨some 136, _, _, _, _, _⟩) rfl (.tmp 134) (.tmp 135) 24 rfl w.heap.size 27 i0 (.slice none 0 0) 1 24 Tryd.underlying24 ii iz0 iz1 iz2 rfl (by decide) (.slice A1 n1 c1) (n1) (xs1) rfl hO13.out A2 n2 c2 xs2 rfl hrd13.out hnil13.out hone13.out (by unfold maxLen; omega) (by omega) hb13.out.size ?_; intro v14 w14 hG; obtain ⟨A4, c4, rfl, hO14, hT14, hb14⟩ := cat2 hG pl1 pl2 hO13.out hT13.out hV13.out hz1.out hb13.out; have hR14 : Hid (Blk w14 w.heap.size 23 (cells8 r0).toArray) := Blk.grownO hR13.out hO13.out hG; clear hG)
    | ((with_reducible change wpList _ _ _ ({ dst := some 144, op := _, type := _, pos := _, after := _, guard := _ } :: _) _ _); refine wpList_load_row (o := ⟨some 144, _, _, _, _, _⟩) rfl 23 (.tmp 15) rfl (w.heap.size) rfl 23 ((cells8 r0).toArray) (0, 0) _ hR14.out Tryd.underlying23 rfl Fr.out.size ?_)
    | (go_at_call 26; refine (hAx.out _ hb14.out).mono ?_; rintro e w15 ⟨A5, c5, xs5, rfl, hU15, hV15, kk⟩; clear hAx; replace hU15 := Lib.hid hU15; replace hV15 := Lib.hid hV15; have hO15 := Lib.hid (Go.Proofs.YtpgenpogjhpeoaaDoor.Own.own_below hO14.out kk); have hT15 := Lib.hid (hT14.out.below kk); have hb15 : Hid (Below w.heap.size w w15) := hb14.out.trans (kk.mono hb14.out.size); clear kk hO14 hT14 hb14 hR14)
    | ((with_reducible change wpList _ _ _ ({ dst := none, op := Op.store 23 (.tmp 34) _, type := _, pos := _, after := _, guard := _ } :: _) _ _); refine wpList_store_whole (o := ⟨none, _, _, _, _, _⟩) rfl 23 (.tmp 34) (.tmp 147) rfl (w15.heap.size) ((cells8 r0).toArray) rfl rfl 23 (Z32) ((Blk.new w15 _ _).alloc _) Fr.out.size Fr.out.zero Fr.out.one ?_; intro w16 hM16 kq; have hN16 : Hid (Blk w16 (w15.heap.size + 1) 23 Z32) := Blk.kept (heap_alloc2_new w15 _ _) kq (by omega); have kz : Hid (Below w15.heap.size w15 w16) := ((Below.heap_below w15 _).alloc (by simp) _).trans (Kept.below_of kq (Nat.le_refl _) (by simp; omega)); clear kq hM16)
    | ((with_reducible change wpList _ _ _ ({ dst := none, op := Op.store 23 (.tmp 35) _, type := _, pos := _, after := _, guard := _ } :: _) _ _); refine wpList_store_whole (o := ⟨none, _, _, _, _, _⟩) rfl 23 (.tmp 35) (.tmp 148) rfl (w15.heap.size + 1) ((cells8 r1).toArray) rfl rfl 23 (Z32) hN16.out Fs.out.size Fs.out.zero Fs.out.one ?_; intro w17 hM17 kq; have kk : Below w15.heap.size w15 w17 := kz.out.trans (Kept.below_of kq (by omega) kz.out.size); have hO17 := Lib.hid (Go.Proofs.YtpgenpogjhpeoaaDoor.Own.own_below hO15.out kk); have hT17 := Lib.hid (hT15.out.below kk); have hU17 := Lib.hid (Go.Proofs.YtpgenpogjhpeoaaDoor.Own.own_below hU15.out kk); have hV17 := Lib.hid (hV15.out.below kk); have hb17 : Hid (Below w.heap.size w w17) := hb15.out.trans (kk.mono hb15.out.size); obtain ⟨A6, c6, e6, -, -, hnil17, hrd17, -⟩ := Go.Proofs.YtpgenpogjhpeoaaDoor.Append.Own.reads hU17.out; injection e6 with e61 e62 e63; subst e61 e63; replace hnil17 := Lib.hid hnil17; replace hrd17 := Lib.hid hrd17; have hone17 := Lib.hid (own_oneT hU17.out hV17.out pl3); clear kk kq kz hM17 hN16 hO15 hT15 hU15 hV15 hb15 e62)
    | ((with_reducible change wpList _ _ _ ({ dst := some 155, op := _, type := _, pos := _, after := _, guard := _ } :: _) _ _); refine wpList_append_src _ (o := ⟨some 155, _, _, _, _, _⟩) rfl (.tmp 153) (.tmp 154) 24 rfl w.heap.size 27 i0 (.slice none 0 0) 1 24 Tryd.underlying24 ii iz0 iz1 iz2 rfl (by decide) (.slice A4 (n1 + n2) c4) (n1 + n2) (xs1 ++ xs2) rfl hO17.out A5 n3 c5 xs5 rfl hrd17.out hnil17.out hone17.out (by unfold maxLen; omega) (by omega) hb17.out.size ?_; intro v18 w18 hG; obtain ⟨A8, c8, rfl, hO18, hT18, hb18⟩ := cat2 hG (by rw [List.length_append, pl1, pl2]) pl3 hO17.out hT17.out hV17.out (fun h => by omega) hb17.out; clear hG)
    | (go_at_call 24; refine (among_any s (p1 ++ p2 ++ p3) (n1 + n2 + n3) (by rw [List.length_append, List.length_append, pl1, pl2, pl3]) (by omega) _ _ _ (hBB.out _ hb18.out) (pieces_of hO18.out hT18.out (by rw [List.length_append, List.length_append, pl1, pl2, pl3])) (fun q hq => by rcases List.mem_append.1 hq with h | h; (rcases List.mem_append.1 h with h | h; rw [pt1 q h]; decide; rw [pt2 q h]; decide); rw [pt3 q h]; decide) hM).mono ?_; rintro e w20 ⟨rfl, kk⟩; have hb20 : Hid (Below w.heap.size w w20) := hb18.out.trans (kk.mono hb18.out.size); clear kk))
  go_ret
  exact ⟨rfl, hb20.out⟩

theorem sides_zero {n i : Nat} (h : (sides n i).length = 0) (hn : 1 ≤ n) (hi : i < n) : n = 1 := by
  rcases Nat.lt_or_ge n 2 with h2 | h2
  · omega
  · rcases Nat.lt_or_ge i (half n) with h3 | h3
    · rw [sides_left h2 h3, List.length_append] at h; cases h
    · rw [sides_right h2 h3 hi, List.length_append] at h; cases h
/-- What a taken climb leaves, with no block where there is no text. -/
theorem climb_third (s : Int) (o i : Nat) (ho : 1 ≤ o) (hi : i < o) (x : Text) (hx : x.length = 32) (ws : List Text) (B : Option Addr) (m d : Nat) (hm : m < 4503599627370496) (w : World) (hBs : Base w) (hr : RdD w B m ws) (hk : (inclOf s o i x [] ws).2.1 = 0) :
    Calls Tryd.prog 22 #[.int .i64 s, .int .i64 (o : Int), .int .i64 (i : Int), .agg (cells8 x).toArray, .slice B m d] w fun e w' => ∃ v xs, e = .returned (.tuple #[v, .int .i64 0]) ∧ w'.ownsRow w.heap.size 27 1 v ws.length xs ∧ Tx w' xs (inclOf s o i x [] ws).2.2 ∧ Below w.heap.size w w' ∧ (ws.length = 0 → v.ownBlock = none) := by
  obtain ⟨n40, na, nb, pl, pt⟩ := incl_taken hx hr.2.1 hk
  rcases Nat.eq_zero_or_pos ws.length with h0 | h0
  · rw [Int.toNat_natCast, Int.toNat_natCast, h0] at na
    have ho1 := sides_zero na ho hi
    subst ho1
    have hi0 : i = 0 := by omega
    subst hi0
    have hw : ws = [] := List.length_eq_zero_iff.1 h0
    have hm0 : m = 0 := by rw [← hr.1, h0]
    subst hw hm0
    refine (climb_zero s x hx B d w).mono ?_
    rintro e w' ⟨rfl, hb⟩
    refine ⟨_, [], rfl, World.ownsRow_nil _ _ _ _, fun j q hq => ?_, hb, fun _ => rfl⟩
    have hp : (inclOf s ((1 : Nat) : Int) ((0 : Nat) : Int) x [] []).2.2 = [] := List.length_eq_zero_iff.1 (by rw [pl]; rfl)
    rw [hp] at hq
    cases hq
  · refine (climb_own s o i x hx ws B m d hm w hBs hr).mono ?_
    rintro e w' ⟨v, xs, r, gc, rfl, hO, hT, hb, ha⟩
    rw [hk, pl] at *
    exact ⟨v, xs, rfl, own_up hO ha, Txs.tx hT pt, hb, fun h => by omega⟩
theorem treeThird_any (s old size i : Int) (hs63 : s < 9223372036854775808) (r0 r1 x y : Text) (h0 : r0.length = 32) (h1 : r1.length = 32) (hx : x.length = 32) (hy : y.length = 32) (ds ws xs : List Text) (n m k : Nat) (A B C : Option Addr) (c d f : Nat) (hm : m < 140737488355328) (hk : k < 140737488355328) (w : World) (hBs : Base w) (hrd : RdD w A n ds) (hrw : RdD w B m ws) (hrx : RdD w C k xs) :
    Calls Tryd.prog 11 #[.int .i64 s, .int .i64 old, .int .i64 size, .int .i64 i, .agg (cells8 r0).toArray, .agg (cells8 r1).toArray, .slice A n c, .agg (cells8 x).toArray, .slice B m d, .agg (cells8 y).toArray, .slice C k f] w fun e w' => e = .returned (.bool true) ∧ Below w.heap.size w w' := by
  have hnl := ndOf_len s x y
  have hB := fun w' (hb : Below w.heap.size w w') => hBs.below hb hBs.1
  have hI0 : Hid (∀ w' g, Below w.heap.size w w' → RdD w' (some ⟨g, 0, none⟩) 1 [y] → Calls Tryd.prog 20 #[.int .i64 s, .int .i64 2, .int .i64 0, .agg (cells8 x).toArray, .slice (some ⟨g, 0, none⟩) 1 1] w' fun e w'' => e = .returned (.tuple #[.agg (cells8 (ndOf s x y)).toArray, .int .i64 0]) ∧ Below w'.heap.size w' w'') := fun w' g hb hr => by
    have := include_any s 2 0 x hx [y] (some ⟨g, 0, none⟩) 1 1 (by omega) w' (hB w' hb) hr
    rwa [(incl_two s x y).1, (incl_two s x y).2] at this
  have hNd := Lib.hid (fun w' => refnode_any x y hx hy s w' hs63)
  have hRt : Hid (∀ w' g, Below w.heap.size w w' → RdD w' (some ⟨g, 0, none⟩) 2 [x, y] → Calls Tryd.prog 52 #[.int .i64 s, .slice (some ⟨g, 0, none⟩) 2 2] w' fun e w'' => e = .returned (.agg (cells8 (ndOf s x y)).toArray) ∧ Below w'.heap.size w' w'') := fun w' g hb hr => by
    have := root_any s 2 (by omega) [x, y] (some ⟨g, 0, none⟩) 2 w' (by omega) (hB w' hb) hr
    rwa [root_two_] at this
  have hAg := Lib.hid (fun w' (hb : Below w.heap.size w w') => agree_any s old size r0 r1 h0 h1 ds A n c w' (hB w' hb) (hrd.below hb))
  have hI1 := Lib.hid (fun w' (hb : Below w.heap.size w w') => include_any s old i x hx ws B m d (by omega) w' (hB w' hb) (hrw.below hb))
  have hI2 := Lib.hid (fun w' (hb : Below w.heap.size w w') => include_any s size i y hy xs C k f (by omega) w' (hB w' hb) (hrx.below hb))
  have hl1 := inclOf_len s old i x [] ws hx
  have hl2 := inclOf_len s size i y [] xs hy
  by_cases z : old < 1
  · exact tt_old s old size i r0 r1 x y h0 h1 hx hy n m k A B C c d f w _ _ _ hnl hl1 hl2 _ _ _ hI0 hNd hRt hAg hI1 hI2 z
  by_cases z0 : agreeOf s old size r0 r1 ds = 0
  case neg => exact tt_e0 s old size i r0 r1 x y h0 h1 hx hy n m k A B C c d f w _ _ _ hnl hl1 hl2 _ _ _ hI0 hNd hRt hAg hI1 hI2 z z0
  by_cases z1 : (inclOf s old i x [] ws).2.1 = 0
  case neg => exact tt_e1 s old size i r0 r1 x y h0 h1 hx hy n m k A B C c d f w _ _ _ hnl hl1 hl2 _ _ _ hI0 hNd hRt hAg hI1 hI2 z z0 z1
  by_cases z2 : (inclOf s size i y [] xs).2.1 = 0
  case neg => exact tt_e2 s old size i r0 r1 x y h0 h1 hx hy n m k A B C c d f w _ _ _ hnl hl1 hl2 _ _ _ hI0 hNd hRt hAg hI1 hI2 z z0 z1 z2
  by_cases za : (inclOf s old i x [] ws).1 = r0
  case neg => exact tt_a1 s old size i r0 r1 x y h0 h1 hx hy n m k A B C c d f w _ _ _ hnl hl1 hl2 _ _ _ hI0 hNd hRt hAg hI1 hI2 z z0 z1 z2 za
  by_cases zb : (inclOf s size i y [] xs).1 = r1
  case neg => exact tt_a2 s old size i r0 r1 x y h0 h1 hx hy n m k A B C c d f w _ _ _ hnl hl1 hl2 _ _ _ hI0 hNd hRt hAg hI1 hI2 z z0 z1 z2 za zb
  by_cases zc : x = y
  · exact tt_xy s old size i r0 r1 x y h0 h1 hx hy n m k A B C c d f w _ _ _ hnl hl1 hl2 _ _ _ hI0 hNd hRt hAg hI1 hI2 z z0 z1 z2 za zb zc
  obtain ⟨m40, ma, mb, pl1, pt1⟩ := incl_taken hx hrw.2.1 z1
  obtain ⟨k40, ka, kb, pl2, pt2⟩ := incl_taken hy hrx.2.1 z2
  obtain ⟨o, q, rfl, rfl, hoq, hq40, hbn, ha, hb⟩ := agree_taken z0
  have ho1 : 1 ≤ o := by omega
  have hin : insideB (o : Int) i = true := by
    cases hin : insideB (o : Int) i with
    | true => rfl
    | false =>
      have h := z1
      unfold inclOf at h
      rw [if_pos hin] at h
      exact absurd h (by decide)
  obtain ⟨-, -, i0, io⟩ := insideB_true hin
  obtain ⟨j, rfl⟩ := Int.eq_ofNat_of_zero_le i0
  have hjo : j < o := by omega
  rw [Int.toNat_natCast, Int.toNat_natCast] at ma ka
  have hC1 := Lib.hid (fun w' (hb : Below w.heap.size w w') => climb_third s o j ho1 hjo x hx ws B m d (by omega) w' (hB w' hb) (hrw.below hb) z1)
  have hC2 := Lib.hid (fun w' (hb : Below w.heap.size w w') => climb_third s q j (by omega) (by omega) y hy xs C k f (by omega) w' (hB w' hb) (hrx.below hb) z2)
  by_cases zo : (o : Int) < (q : Int)
  · have h2 : o < q := by omega
    obtain ⟨f1, s1⟩ := agree_in_mid ho1 h2 ha hb
    obtain ⟨-, -, a3, a4, a5, a6⟩ := aheadOf_ok (s := s) ho1 h2 h0 hrd.2.1 hbn
    have h41 := betw_le (Nat.le_of_lt h2) hq40
    have hpl := partsOf_len (Nat.le_of_lt h2)
    have hAx := Lib.hid (fun w' (hb : Below w.heap.size w w') => aheadx_any s o q ho1 h2 hq40 r0 h0 ds A n c (by rw [hpl, hbn]; exact hrd.1) w' (hB w' hb) (hrd.below hb) _ rfl (by rw [f1]; exact h0) (by rw [s1]; exact h1))
    rw [f1, s1] at hAx
    have hM : TwiceP.Met s ((inclOf s o j x [] ws).2.2 ++ (inclOf s q j y [] xs).2.2 ++ ((aheadOf s o q r0 ds).ft ++ (aheadOf s o q r0 ds).st)) := by
      have := third_met (s := s) (i := j) (x := x) (y := y) (ws := ws) (xs := xs) (r0 := r0) ho1 h2 hjo hx hy h0 hrw.2.1 hrx.2.1 hrd.2.1 hbn ma ka (by
        rw [f1, ← za, mb]; rw [Int.toNat_natCast, Int.toNat_natCast]) (by
        rw [s1, ← zb, kb]; rw [Int.toNat_natCast, Int.toNat_natCast]) zc
      rw [mb, kb]
      rw [Int.toNat_natCast, Int.toNat_natCast, Int.toNat_natCast]
      exact this
    have hpos : 0 < ws.length + xs.length := by
      rcases Nat.eq_zero_or_pos xs.length with h | h
      · rw [h] at ka
        have := sides_zero ka (by omega) (by omega)
        omega
      · omega
    exact tt_lt s o q j r0 r1 x y h0 h1 hx hy n m k A B C c d f w _ _ _ hnl hl1 hl2 _ _ _ hI0 hNd hRt hAg hI1 hI2 z z0 z1 z2 za zb zc ws.length xs.length _ _ _ hC1 hC2 pl1 pl2 pt1 pt2 (by omega) (by omega) hB zo hM _ (by rw [List.length_append]) (fun p hp => (List.mem_append.1 hp).elim (a3 p) (a4 p)) (by omega) hpos hAx
  · have hoq2 : o = q := by omega
    subst hoq2
    have hr : r0 = r1 := by
      unfold agB at hb
      rw [if_pos rfl] at hb
      exact hb
    have hM : TwiceP.Met s ((inclOf s o j x [] ws).2.2 ++ (inclOf s o j y [] xs).2.2) := (incl_meet hx hy hrw.2.1 hrx.2.1 z1 z2 (by rw [za, zb, hr]) (fun h => zc h.1)).met
    exact tt_eq s o o j r0 r1 x y h0 h1 hx hy n m k A B C c d f w _ _ _ hnl hl1 hl2 _ _ _ hI0 hNd hRt hAg hI1 hI2 z z0 z1 z2 za zb zc ws.length xs.length _ _ hC1 hC2 pl1 pl2 pt1 pt2 (by omega) (by omega) hB zo hM
end Go.Proofs.YtpgenpogjhpeoaaDoor.TreeThird
