/-
  Texts of the claim, put into one file: SpeltFn, SpeltIdx, Again, ProofSpelt.
-/
import Derived.Test.YtgldkfaiofkhbaaDoorZ37
import Derived.Test.YtgldkfaiofkhbaaDoorZ32
import Derived.Test.YtgldkfaiofkhbaaDoorZ23
import Derived.Test.YtgldkfaiofkhbaaDoorZ19

namespace Go.Proofs.YtgldkfaiofkhbaaDoor.SpeltFn
open Go Go.RowKit Go.Proofs.YtgldkfaiofkhbaaDoor Go.Proofs.YtgldkfaiofkhbaaDoor.Mem Go.Proofs.YtgldkfaiofkhbaaDoor.Sha Go.Proofs.YtgldkfaiofkhbaaDoor.Bytes Go.Proofs.YtgldkfaiofkhbaaDoor.TreeMem Go.Proofs.YtgldkfaiofkhbaaDoor.Held Go.Proofs.YtgldkfaiofkhbaaDoor.Own Go.Proofs.YtgldkfaiofkhbaaDoor.Book Go.Proofs.YtgldkfaiofkhbaaDoor.Book2 Go.Proofs.YtgldkfaiofkhbaaDoor.Ref17 Go.Proofs.YtgldkfaiofkhbaaDoor.Ref17b Go.Proofs.YtgldkfaiofkhbaaDoor.DecIncl Go.Proofs.YtgldkfaiofkhbaaDoor.DecIncl2 Go.Proofs.YtgldkfaiofkhbaaDoor.RefCons Go.Proofs.YtgldkfaiofkhbaaDoor.DecCons Go.Proofs.YtgldkfaiofkhbaaDoor.SpeltP Go.Proofs.YtgldkfaiofkhbaaDoor.Spelt

theorem incl_one (x y : Int) (A : Option Addr) (n c : Nat) : (inclCells x y A n c).all (fun v => v.oneCell') = true := by
  unfold inclCells
  rw [List.all_toArray]
  rfl

set_option maxRecDepth 100000 in
set_option maxHeartbeats 1000000 in
theorem sameIncl_all (x y x' y' : Int) (l l' : List Text) (n m : Nat) (hn : n < 140737488355328) (A B : Option Addr) (c d : Nat) (w : World) (ha : RdD w A n l) (hb : RdD w B m l') :
    Calls Tryd.prog 21 #[.agg (inclCells x y A n c), .agg (inclCells x' y' B m d)] w fun e w' => e = .returned (.bool (decide (x = x' ∧ y = y' ∧ l = l'))) ∧ Below w.heap.size w w' := by
  unfold inclCells
  have hb2 : Hid (Below w.heap.size w ((w.alloc (.cells #[.int .i64 x, .int .i64 y, .slice A n c] 51)).alloc (.cells #[.int .i64 x', .int .i64 y', .slice B m d] 51))) := (Below.heap_below w _).alloc (by simp) _
  have hS : Hid (∀ w', Below w.heap.size w w' → Calls Tryd.prog 43 #[.slice A n c, .slice B m d] w' fun e w'' => e = .returned (.bool (decide (l = l'))) ∧ Below w'.heap.size w' w'') := fun w' h => sameD_any n m hn l l' A B c d w' (ha.below h) (hb.below h)
  obtain ⟨r, hr⟩ : ∃ r, Hid (decide (l = l') = r) := ⟨_, Lib.hid rfl⟩
  clear ha hb hn
  by_cases hx : x = x'
  · subst hx
    have y1 : (x == x) = true := beq_self_eq_true _
    by_cases hy : y = y'
    · subst hy
      have y2 : (y == y) = true := beq_self_eq_true _
      have hv : decide (x = x ∧ y = y ∧ l = l') = r := by rw [← hr.out]; simp
      rw [hr.out] at hS
      rw [hv]
      clear hv hr
      go_enter Tryd.func21, Tryd.ntmps21
      go_wp2_with (go_at_call 43; refine (hS.out _ hb2.out).mono ?_; rintro e w3 ⟨rfl, hk⟩; have hb3 : Hid (Below w.heap.size w w3) := hb2.out.trans (hk.mono hb2.out.size); clear hk)
      go_ret
      exact ⟨rfl, hb3.out⟩
    · have y2 : (y == y') = false := beq_eq_false_iff_ne.2 hy
      rw [decide_eq_false (fun h => hy h.2.1)]
      clear hS hr hy
      go_enter Tryd.func21, Tryd.ntmps21
      go_wp2_with fail
      go_ret
      exact ⟨rfl, hb2.out⟩
  · have y1 : (x == x') = false := beq_eq_false_iff_ne.2 hx
    rw [decide_eq_false (fun h => hx h.1)]
    clear hS hr hx
    go_enter Tryd.func21, Tryd.ntmps21
    go_wp2_with fail
    go_ret
    exact ⟨rfl, hb2.out⟩
theorem sizeI : (Tryd.prog.info? 51).map (·.size) = some 3 := by kernel_rfl
set_option maxRecDepth 100000 in
set_option maxHeartbeats 2000000 in
theorem fnI_any (q : Text) (k : Nat) (hk : q.length = k) (x y : Int) (l : List Text) (n : Nat) (A : Option Addr) (c gp : Nat) (Ar : Option Addr) (cr : Nat) (w : World) (hp : Blk w gp 51 (inclCells x y A n c)) (hl : RdD w A n l) (hr : Reads w 1 Ar k (cells8 q)) (hnil : Ar = none → k = 0 ∧ cr = 0) :
    Calls Tryd.prog 19 #[.slice Ar k cr, .pointer (some ⟨gp, 0, none⟩)] w fun e w' => ∃ A4 c4 t, e = .returned (.tuple #[.slice A4 t.length c4, .int .i64 (decAns q).2.2.2, .bool (decide ((decAns q).1 = x ∧ (decAns q).2.1 = y ∧ (decAns q).2.2.1 = l))]) ∧ Reads w' 1 A4 t.length (cells8 t) ∧ (inclWant (decAns q).1 (decAns q).2.1 (decAns q).2.2.1 = some t ∨ (inclWant (decAns q).1 (decAns q).2.1 (decAns q).2.2.1 = none ∧ t = [])) ∧ Below w.heap.size w w' := by
  have hD := Lib.hid (decodeInclusion_any q k hk Ar cr w hr hnil)
  obtain ⟨x1, y1, l1, en, hans⟩ : ∃ x1 y1 l1 en, decAns q = (x1, y1, l1, en) := ⟨_, _, _, _, rfl⟩
  rw [hans] at hD ⊢
  dsimp only
  obtain ⟨rb, hrb⟩ : ∃ rb, Hid (decide (x1 = x ∧ y1 = y ∧ l1 = l) = rb) := ⟨_, Lib.hid rfl⟩
  rw [hrb.out]
  have hgl : Hid (gp < w.heap.size) := hp.lt
  replace hp := Lib.hid hp
  replace hl := Lib.hid hl
  clear hans hr hnil hk
  go_enter Tryd.func19, Tryd.ntmps19
  go_wp2_with (first
    | (go_at_call 20; refine hD.out.mono ?_; rintro e w1 ⟨A1, n1, c1, rfl, r1, -, -, hn1, b1⟩; replace r1 := Lib.hid r1; replace b1 := Lib.hid b1; have hone : Hid ((inclCells x1 y1 A1 n1 c1).all (fun v => v.oneCell') = true) := incl_one _ _ _ _ _)
    | ((with_reducible change wpList _ _ _ ({ dst := none, op := Op.store 51 _ _, type := _, pos := _, after := _, guard := _ } :: _) _ _); refine wpList_store_whole (o := ⟨none, _, _, _, _, _⟩) rfl 51 (.tmp 6) (.tmp 13) rfl (w1.heap.size) (inclCells x1 y1 A1 n1 c1) rfl rfl 51 _ (Blk.new w1 _ _) sizeI rfl hone.out ?_; intro w2 B2 k2; have b2 : Hid (Below w1.heap.size w1 w2) := kept_fresh k2; replace B2 := Lib.hid B2; have bw2 : Hid (Below w.heap.size w w2) := b1.out.trans (b2.out.mono b1.out.size); have r2 := Lib.hid (r1.out.below b2.out); have hE := Lib.hid (EncOut.encIncl_c x1 y1 l1 A1 n1 c1 w2 r2.out); have hm2 : Hid (w1.heap.size < w2.heap.size) := Blk.lt B2.out; clear k2)
    | ((with_reducible change wpList _ _ _ ({ dst := some 16, op := _, type := _, pos := _, after := _, guard := _ } :: _) _ _); refine wpList_load_row (o := ⟨some 16, _, _, _, _, _⟩) rfl 51 (.tmp 6) rfl (w1.heap.size) rfl 51 (inclCells x1 y1 A1 n1 c1) (0, 0) _ B2.out Tryd.underlying51 rfl sizeI ?_)
    | (go_at_call 15; refine hE.out.mono ?_; rintro e w3 ⟨A4, c4, t, er, rfl, -, -, r4, hw, b3⟩; have B3 : Hid (Blk w3 w1.heap.size 51 (inclCells x1 y1 A1 n1 c1)) := (b3.block _ hm2.out).trans B2.out; have bw3 : Hid (Below w.heap.size w w3) := bw2.out.trans (b3.mono bw2.out.size); have r3 := Lib.hid (r2.out.below b3); replace r4 := Lib.hid r4; have p3 : Hid (Blk w3 gp 51 (inclCells x y A n c)) := (bw3.out.block _ hgl.out).trans hp.out; have l3 := Lib.hid (hl.out.below bw3.out); have hQ := Lib.hid (sameIncl_all x1 y1 x y l1 l n1 n (by omega) A1 A c1 c w3 r3.out l3.out); rw [hrb.out] at hQ; replace hw := Lib.hid hw; clear b3)
    | ((with_reducible change wpList _ _ _ ({ dst := some 22, op := _, type := _, pos := _, after := _, guard := _ } :: _) _ _); refine wpList_load_row (o := ⟨some 22, _, _, _, _, _⟩) rfl 51 (.tmp 6) rfl (w1.heap.size) rfl 51 (inclCells x1 y1 A1 n1 c1) (0, 0) _ B3.out Tryd.underlying51 rfl sizeI ?_)
    | ((with_reducible change wpList _ _ _ ({ dst := some 23, op := _, type := _, pos := _, after := _, guard := _ } :: _) _ _); refine wpList_load_row (o := ⟨some 23, _, _, _, _, _⟩) rfl 51 (.tmp 1) rfl (gp) rfl 51 (inclCells x y A n c) (0, 0) _ p3.out Tryd.underlying51 rfl sizeI ?_)
    | (go_at_call 21; refine hQ.out.mono ?_; rintro e w5 ⟨rfl, b5⟩; have bw5 : Hid (Below w.heap.size w w5) := bw3.out.trans (b5.mono bw3.out.size); have r5 := Lib.hid (r4.out.below b5); clear b5))
  go_ret3
  exact ⟨A4, c4, t, rfl, r5.out, hw.out.imp (fun h => h.1) (fun h => ⟨h.1, h.2.1⟩), bw5.out⟩
/-- The function as a reader of what was laid down. -/
theorem readI (x y : Int) (l : List Text) (n : Nat) (A : Option Addr) (c gp : Nat) (w : World) (hp : Blk w gp 51 (inclCells x y A n c)) (hl : RdD w A n l) (b : Text) (hw : inclWant x y l = some b) :
    ReadFn b w (.func (.func 19) #[] #[.pointer (some ⟨gp, 0, none⟩)]) := by
  obtain ⟨hok, h9, hans⟩ := inclWant_cond hl.2.1 hw
  refine ⟨19, _, #[], #[.pointer (some ⟨gp, 0, none⟩)], rfl, Tryd.func19, by kernel_rfl, by kernel_rfl, fun w' hb A' c' hr hnil => ?_, fun w' hb r k hrl hcase A' c' hr hnil => ?_⟩
  · refine (fnI_any b b.length rfl x y l n A c gp A' c' w' ((hb.block _ hp.lt).trans hp) (hl.below hb) hr hnil).mono ?_
    rintro e w'' ⟨A4, c4, t, rfl, r4, ht, hb4⟩
    rw [hans] at ht ⊢
    have : t = b := by
      rcases ht with h | ⟨h, -⟩
      · rw [hw] at h; exact (Option.some.inj h).symm
      · rw [hw] at h; cases h
    subst this
    exact ⟨A4, c4, by simp, r4, hb4⟩
  · have hbad : ¬ 9000 < r.length ∧ ¬ okIncl r := by
      have hn := bad_near (Ok := okIncl) (fun a t h1 h2 => okIncl_ext h1 h2) hok
      rcases hcase with ⟨i, hi, rfl⟩ | rfl
      · exact ⟨by rw [List.length_take]; omega, hn.1 i hi⟩
      · exact ⟨by rw [List.length_append]; simp; omega, hn.2⟩
    refine (fnI_any r k hrl x y l n A c gp A' c' w' ((hb.block _ hp.lt).trans hp) (hl.below hb) hr hnil).mono ?_
    rintro e w'' ⟨A4, c4, t, rfl, r4, ht, hb4⟩
    rw [decAns_bad hbad.1 hbad.2]
    exact ⟨_, _, rfl, hb4⟩

set_option maxRecDepth 100000 in
set_option maxHeartbeats 1000000 in
theorem sameCons_all (x y x' y' : Int) (l l' : List Text) (n m : Nat) (hn : n < 140737488355328) (A B : Option Addr) (c d : Nat) (w : World) (ha : RdD w A n l) (hb : RdD w B m l') :
    Calls Tryd.prog 26 #[.agg (inclCells x y A n c), .agg (inclCells x' y' B m d)] w fun e w' => e = .returned (.bool (decide (x = x' ∧ y = y' ∧ l = l'))) ∧ Below w.heap.size w w' := by
  unfold inclCells
  have hb2 : Hid (Below w.heap.size w ((w.alloc (.cells #[.int .i64 x, .int .i64 y, .slice A n c] 44)).alloc (.cells #[.int .i64 x', .int .i64 y', .slice B m d] 44))) := (Below.heap_below w _).alloc (by simp) _
  have hS : Hid (∀ w', Below w.heap.size w w' → Calls Tryd.prog 43 #[.slice A n c, .slice B m d] w' fun e w'' => e = .returned (.bool (decide (l = l'))) ∧ Below w'.heap.size w' w'') := fun w' h => sameD_any n m hn l l' A B c d w' (ha.below h) (hb.below h)
  obtain ⟨r, hr⟩ : ∃ r, Hid (decide (l = l') = r) := ⟨_, Lib.hid rfl⟩
  clear ha hb hn
  by_cases hx : x = x'
  · subst hx
    have y1 : (x == x) = true := beq_self_eq_true _
    by_cases hy : y = y'
    · subst hy
      have y2 : (y == y) = true := beq_self_eq_true _
      have hv : decide (x = x ∧ y = y ∧ l = l') = r := by rw [← hr.out]; simp
      rw [hr.out] at hS
      rw [hv]
      clear hv hr
      go_enter Tryd.func26, Tryd.ntmps26
      go_wp2_with (go_at_call 43; refine (hS.out _ hb2.out).mono ?_; rintro e w3 ⟨rfl, hk⟩; have hb3 : Hid (Below w.heap.size w w3) := hb2.out.trans (hk.mono hb2.out.size); clear hk)
      go_ret
      exact ⟨rfl, hb3.out⟩
    · have y2 : (y == y') = false := beq_eq_false_iff_ne.2 hy
      rw [decide_eq_false (fun h => hy h.2.1)]
      clear hS hr hy
      go_enter Tryd.func26, Tryd.ntmps26
      go_wp2_with fail
      go_ret
      exact ⟨rfl, hb2.out⟩
  · have y1 : (x == x') = false := beq_eq_false_iff_ne.2 hx
    rw [decide_eq_false (fun h => hx h.1)]
    clear hS hr hx
    go_enter Tryd.func26, Tryd.ntmps26
    go_wp2_with fail
    go_ret
    exact ⟨rfl, hb2.out⟩
theorem sizeC : (Tryd.prog.info? 44).map (·.size) = some 3 := by kernel_rfl
set_option maxRecDepth 100000 in
set_option maxHeartbeats 2000000 in
theorem fnC_any (q : Text) (k : Nat) (hk : q.length = k) (x y : Int) (l : List Text) (n : Nat) (A : Option Addr) (c gp : Nat) (Ar : Option Addr) (cr : Nat) (w : World) (hp : Blk w gp 44 (inclCells x y A n c)) (hl : RdD w A n l) (hr : Reads w 1 Ar k (cells8 q)) (hnil : Ar = none → k = 0 ∧ cr = 0) :
    Calls Tryd.prog 24 #[.slice Ar k cr, .pointer (some ⟨gp, 0, none⟩)] w fun e w' => ∃ A4 c4 t, e = .returned (.tuple #[.slice A4 t.length c4, .int .i64 (decAnsC q).2.2.2, .bool (decide ((decAnsC q).1 = x ∧ (decAnsC q).2.1 = y ∧ (decAnsC q).2.2.1 = l))]) ∧ Reads w' 1 A4 t.length (cells8 t) ∧ (consWant (decAnsC q).1 (decAnsC q).2.1 (decAnsC q).2.2.1 = some t ∨ (consWant (decAnsC q).1 (decAnsC q).2.1 (decAnsC q).2.2.1 = none ∧ t = [])) ∧ Below w.heap.size w w' := by
  have hD := Lib.hid (decodeConsistency_any q k hk Ar cr w hr hnil)
  obtain ⟨x1, y1, l1, en, hans⟩ : ∃ x1 y1 l1 en, decAnsC q = (x1, y1, l1, en) := ⟨_, _, _, _, rfl⟩
  rw [hans] at hD ⊢
  dsimp only
  obtain ⟨rb, hrb⟩ : ∃ rb, Hid (decide (x1 = x ∧ y1 = y ∧ l1 = l) = rb) := ⟨_, Lib.hid rfl⟩
  rw [hrb.out]
  have hgl : Hid (gp < w.heap.size) := hp.lt
  replace hp := Lib.hid hp
  replace hl := Lib.hid hl
  clear hans hr hnil hk
  go_enter Tryd.func24, Tryd.ntmps24
  go_wp2_with (first
    | (go_at_call 25; refine hD.out.mono ?_; rintro e w1 ⟨A1, n1, c1, rfl, r1, -, -, hn1, b1⟩; replace r1 := Lib.hid r1; replace b1 := Lib.hid b1; have hone : Hid ((inclCells x1 y1 A1 n1 c1).all (fun v => v.oneCell') = true) := incl_one _ _ _ _ _)
    | ((with_reducible change wpList _ _ _ ({ dst := none, op := Op.store 44 _ _, type := _, pos := _, after := _, guard := _ } :: _) _ _); refine wpList_store_whole (o := ⟨none, _, _, _, _, _⟩) rfl 44 (.tmp 6) (.tmp 13) rfl (w1.heap.size) (inclCells x1 y1 A1 n1 c1) rfl rfl 44 _ (Blk.new w1 _ _) sizeC rfl hone.out ?_; intro w2 B2 k2; have b2 : Hid (Below w1.heap.size w1 w2) := kept_fresh k2; replace B2 := Lib.hid B2; have bw2 : Hid (Below w.heap.size w w2) := b1.out.trans (b2.out.mono b1.out.size); have r2 := Lib.hid (r1.out.below b2.out); have hE := Lib.hid (EncOut.encCons_c x1 y1 l1 A1 n1 c1 w2 r2.out); have hm2 : Hid (w1.heap.size < w2.heap.size) := Blk.lt B2.out; clear k2)
    | ((with_reducible change wpList _ _ _ ({ dst := some 16, op := _, type := _, pos := _, after := _, guard := _ } :: _) _ _); refine wpList_load_row (o := ⟨some 16, _, _, _, _, _⟩) rfl 44 (.tmp 6) rfl (w1.heap.size) rfl 44 (inclCells x1 y1 A1 n1 c1) (0, 0) _ B2.out Tryd.underlying44 rfl sizeC ?_)
    | (go_at_call 22; refine hE.out.mono ?_; rintro e w3 ⟨A4, c4, t, er, rfl, -, -, r4, hw, b3⟩; have B3 : Hid (Blk w3 w1.heap.size 44 (inclCells x1 y1 A1 n1 c1)) := (b3.block _ hm2.out).trans B2.out; have bw3 : Hid (Below w.heap.size w w3) := bw2.out.trans (b3.mono bw2.out.size); have r3 := Lib.hid (r2.out.below b3); replace r4 := Lib.hid r4; have p3 : Hid (Blk w3 gp 44 (inclCells x y A n c)) := (bw3.out.block _ hgl.out).trans hp.out; have l3 := Lib.hid (hl.out.below bw3.out); have hQ := Lib.hid (sameCons_all x1 y1 x y l1 l n1 n (by omega) A1 A c1 c w3 r3.out l3.out); rw [hrb.out] at hQ; replace hw := Lib.hid hw; clear b3)
    | ((with_reducible change wpList _ _ _ ({ dst := some 22, op := _, type := _, pos := _, after := _, guard := _ } :: _) _ _); refine wpList_load_row (o := ⟨some 22, _, _, _, _, _⟩) rfl 44 (.tmp 6) rfl (w1.heap.size) rfl 44 (inclCells x1 y1 A1 n1 c1) (0, 0) _ B3.out Tryd.underlying44 rfl sizeC ?_)
    | ((with_reducible change wpList _ _ _ ({ dst := some 23, op := _, type := _, pos := _, after := _, guard := _ } :: _) _ _); refine wpList_load_row (o := ⟨some 23, _, _, _, _, _⟩) rfl 44 (.tmp 1) rfl (gp) rfl 44 (inclCells x y A n c) (0, 0) _ p3.out Tryd.underlying44 rfl sizeC ?_)
    | (go_at_call 26; refine hQ.out.mono ?_; rintro e w5 ⟨rfl, b5⟩; have bw5 : Hid (Below w.heap.size w w5) := bw3.out.trans (b5.mono bw3.out.size); have r5 := Lib.hid (r4.out.below b5); clear b5))
  go_ret3
  exact ⟨A4, c4, t, rfl, r5.out, hw.out.imp (fun h => h.1) (fun h => ⟨h.1, h.2.1⟩), bw5.out⟩
/-- The function as a reader of what was laid down. -/
theorem readC (x y : Int) (l : List Text) (n : Nat) (A : Option Addr) (c gp : Nat) (w : World) (hp : Blk w gp 44 (inclCells x y A n c)) (hl : RdD w A n l) (b : Text) (hw : consWant x y l = some b) :
    ReadFn b w (.func (.func 24) #[] #[.pointer (some ⟨gp, 0, none⟩)]) := by
  obtain ⟨hok, h9, hans⟩ := consWant_cond hl.2.1 hw
  refine ⟨24, _, #[], #[.pointer (some ⟨gp, 0, none⟩)], rfl, Tryd.func24, by kernel_rfl, by kernel_rfl, fun w' hb A' c' hr hnil => ?_, fun w' hb r k hrl hcase A' c' hr hnil => ?_⟩
  · refine (fnC_any b b.length rfl x y l n A c gp A' c' w' ((hb.block _ hp.lt).trans hp) (hl.below hb) hr hnil).mono ?_
    rintro e w'' ⟨A4, c4, t, rfl, r4, ht, hb4⟩
    rw [hans] at ht ⊢
    have : t = b := by
      rcases ht with h | ⟨h, -⟩
      · rw [hw] at h; exact (Option.some.inj h).symm
      · rw [hw] at h; cases h
    subst this
    exact ⟨A4, c4, by simp, r4, hb4⟩
  · have hbad : ¬ 9000 < r.length ∧ ¬ okCons r := by
      have hn := bad_near (Ok := okCons) (fun a t h1 h2 => okCons_ext h1 h2) hok
      rcases hcase with ⟨i, hi, rfl⟩ | rfl
      · exact ⟨by rw [List.length_take]; omega, hn.1 i hi⟩
      · exact ⟨by rw [List.length_append]; simp; omega, hn.2⟩
    refine (fnC_any r k hrl x y l n A c gp A' c' w' ((hb.block _ hp.lt).trans hp) (hl.below hb) hr hnil).mono ?_
    rintro e w'' ⟨A4, c4, t, rfl, r4, ht, hb4⟩
    rw [decAnsC_bad hbad.1 hbad.2]
    exact ⟨_, _, rfl, hb4⟩
end Go.Proofs.YtgldkfaiofkhbaaDoor.SpeltFn

namespace Go.Proofs.YtgldkfaiofkhbaaDoor.SpeltIdx
open Go Go.RowKit Go.Proofs.YtgldkfaiofkhbaaDoor Go.Proofs.YtgldkfaiofkhbaaDoor.Mem Go.Proofs.YtgldkfaiofkhbaaDoor.Sha Go.Proofs.YtgldkfaiofkhbaaDoor.Bytes Go.Proofs.YtgldkfaiofkhbaaDoor.HeadMem Go.Proofs.YtgldkfaiofkhbaaDoor.ProofIdx3 Go.Proofs.YtgldkfaiofkhbaaDoor.StructEq Go.Proofs.YtgldkfaiofkhbaaDoor.DigEq Go.Proofs.YtgldkfaiofkhbaaDoor.Book Go.Proofs.YtgldkfaiofkhbaaDoor.Book2 Go.Proofs.YtgldkfaiofkhbaaDoor.TreeMem Go.Proofs.YtgldkfaiofkhbaaDoor.Held Go.Proofs.YtgldkfaiofkhbaaDoor.Guard Go.Proofs.YtgldkfaiofkhbaaDoor.Guard2 Go.Proofs.YtgldkfaiofkhbaaDoor.Want Go.Proofs.YtgldkfaiofkhbaaDoor.SameIdx Go.Proofs.YtgldkfaiofkhbaaDoor.IdxEnc Go.Proofs.YtgldkfaiofkhbaaDoor.SpeltP Go.Proofs.YtgldkfaiofkhbaaDoor.Spelt

theorem str_eq {a b : ByteArray} (h : a.toList = b.toList) : a = b := ByteArray.ext (Array.toList_inj.1 (by simpa [ByteArray.toList_eq] using h))
set_option maxRecDepth 100000 in
set_option maxHeartbeats 4000000 in
theorem sameIdx_all (s s' : ByteArray) (f f' : Bool) (cnt cnt' : Int) (ch ch' : Text) (hch : ch.length = 32) (hch' : ch'.length = 32) (d d' : Text) (hd : d.length = 32) (hd' : d'.length = 32) (l l' : List Text) (n m : Nat) (hn : n < 140737488355328) (A B : Option Addr) (c e : Nat) (w : World) (ha : RdD w A n l) (hb : RdD w B m l') :
    Calls Tryd.prog 30 #[.agg (idxCells s f (entC cnt ch) d A n c).toArray, .agg (idxCells s' f' (entC cnt' ch') d' B m e).toArray] w fun e w' => ∃ r, e = .returned (.bool r) ∧ (s = s' ∧ f = f' ∧ (cnt = cnt' ∧ ch = ch') ∧ d = d' ∧ l = l' → r = true) ∧ Below w.heap.size w w' := by
  obtain ⟨cs, hcs, i0, i1, i2, i3, i4⟩ := idx_facts s f cnt ch hch d hd A n c
  obtain ⟨ds, hds, j0, j1, j2, j3, j4⟩ := idx_facts s' f' cnt' ch' hch' d' hd' B m e
  rw [hcs, hds]
  have hW : Hid (Below w.heap.size w ((w.alloc (.cells cs 55)).alloc (.cells ds 55))) := (Below.heap_below w _).alloc (by simp) _
  have hX : Blk ((w.alloc (.cells cs 55)).alloc (.cells ds 55)) w.heap.size 55 cs := (Blk.new w _ _).alloc _
  have hY : Blk ((w.alloc (.cells cs 55)).alloc (.cells ds 55)) (w.heap.size + 1) 55 ds := by
    have := Blk.new (w.alloc (.cells cs 55)) 55 ds
    rwa [show (w.alloc (.cells cs 55)).heap.size = w.heap.size + 1 by simp] at this
  have a0 := (hX.cell 0).trans i0
  have a1 := (hX.cell 1).trans i1
  have a4 := (hX.cell 67).trans i4
  have b0 := (hY.cell 0).trans j0
  have b1 := (hY.cell 1).trans j1
  have b4 := (hY.cell 67).trans j4
  have a2 : Hid (∀ j v, (entC cnt ch)[j]? = some v → ((w.alloc (.cells cs 55)).alloc (.cells ds 55)).cell? ⟨w.heap.size, 2 + j, none⟩ = some v) := fun j v hv => (hX.cell _).trans (i2 j v hv)
  have a3 : Hid (∀ j v, (cells8 d)[j]? = some v → ((w.alloc (.cells cs 55)).alloc (.cells ds 55)).cell? ⟨w.heap.size, 35 + j, none⟩ = some v) := fun j v hv => (hX.cell _).trans (i3 j v hv)
  have b2 : Hid (∀ j v, (entC cnt' ch')[j]? = some v → ((w.alloc (.cells cs 55)).alloc (.cells ds 55)).cell? ⟨w.heap.size + 1, 2 + j, none⟩ = some v) := fun j v hv => (hY.cell _).trans (j2 j v hv)
  have b3 : Hid (∀ j v, (cells8 d')[j]? = some v → ((w.alloc (.cells cs 55)).alloc (.cells ds 55)).cell? ⟨w.heap.size + 1, 35 + j, none⟩ = some v) := fun j v hv => (hY.cell _).trans (j3 j v hv)
  have sE : Hid ((Tryd.prog.info? 53).map (·.size) = some (entC cnt ch).length) := by show _ = _; rw [entC_len hch]; exact sizeE
  have sE' : Hid ((Tryd.prog.info? 53).map (·.size) = some (entC cnt' ch').length) := by show _ = _; rw [entC_len hch']; exact sizeE
  have sD : Hid ((Tryd.prog.info? 23).map (·.size) = some (cells8 d).length) := agg_hi size32 (by rw [cells8_len, hd])
  have sD' : Hid ((Tryd.prog.info? 23).map (·.size) = some (cells8 d').length) := agg_hi size32 (by rw [cells8_len, hd'])
  have hqe := Lib.hid (fun w' => eql_entry cnt cnt' ch ch' hch hch' w')
  have hqd := Lib.hid (fun w' => eql_dig d d' hd hd' w')
  have hSm := Lib.hid (sameD_any n m hn l l' A B c e ((w.alloc (.cells cs 55)).alloc (.cells ds 55)) (ha.below hW.out) (hb.below hW.out))
  obtain ⟨re, hre⟩ : ∃ r, Hid (decide (cnt = cnt' ∧ ch = ch') = r) := ⟨_, Lib.hid rfl⟩
  obtain ⟨rd, hrd⟩ : ∃ r, Hid (decide (d = d') = r) := ⟨_, Lib.hid rfl⟩
  obtain ⟨rs, hrs⟩ : ∃ r, Hid (decide (l = l') = r) := ⟨_, Lib.hid rfl⟩
  rw [hre.out] at hqe
  rw [hrd.out] at hqd
  rw [hrs.out] at hSm
  clear hX hY i0 i1 i2 i3 i4 j0 j1 j2 j3 j4 hcs hds hch hch' hd hd' ha hb hn
  by_cases hs : s.toList = s'.toList
  · have hs0 := str_eq hs
    by_cases hf : f = f'
    · cases re with
      | true =>
        cases rd with
        | true =>
          go_enter Tryd.func30, Tryd.ntmps30
          go_wp2_with (first
            | ((with_reducible change wpList _ _ _ ({ dst := some 19, op := _, type := _, pos := _, after := _, guard := _ } :: _) _ _); (with_reducible refine Veil.out ?_); refine wpList_partW (o := ⟨some 19, _, _, _, _, _⟩) rfl 53 (.tmp 18) rfl (w.heap.size) (2) rfl (entC cnt ch) _ a2.out Tryd.underlying53 rfl sE.out ?_)
            | ((with_reducible change wpList _ _ _ ({ dst := some 21, op := _, type := _, pos := _, after := _, guard := _ } :: _) _ _); (with_reducible refine Veil.out ?_); refine wpList_partW (o := ⟨some 21, _, _, _, _, _⟩) rfl 53 (.tmp 20) rfl (w.heap.size + 1) (2) rfl (entC cnt' ch') _ b2.out Tryd.underlying53 rfl sE'.out ?_)
            | ((with_reducible change wpList _ _ _ ({ dst := some 22, op := _, type := _, pos := _, after := _, guard := _ } :: _) _ _); (with_reducible refine Veil.out ?_); refine wpList_cmpW (o := ⟨some 22, _, _, _, _, _⟩) rfl .eql 53 53 (.tmp 19) (.tmp 21) rfl ((entC cnt ch).toArray) ((entC cnt' ch').toArray) rfl rfl qE (.bool true) (hqe.out _) ?_)
            | ((with_reducible change wpList _ _ _ ({ dst := some 26, op := _, type := _, pos := _, after := _, guard := _ } :: _) _ _); (with_reducible refine Veil.out ?_); refine wpList_partW (o := ⟨some 26, _, _, _, _, _⟩) rfl 23 (.tmp 25) rfl (w.heap.size) (35) rfl (cells8 d) _ a3.out Tryd.underlying23 rfl sD.out ?_)
            | ((with_reducible change wpList _ _ _ ({ dst := some 28, op := _, type := _, pos := _, after := _, guard := _ } :: _) _ _); (with_reducible refine Veil.out ?_); refine wpList_partW (o := ⟨some 28, _, _, _, _, _⟩) rfl 23 (.tmp 27) rfl (w.heap.size + 1) (35) rfl (cells8 d') _ b3.out Tryd.underlying23 rfl sD'.out ?_)
            | ((with_reducible change wpList _ _ _ ({ dst := some 29, op := _, type := _, pos := _, after := _, guard := _ } :: _) _ _); (with_reducible refine Veil.out ?_); refine wpList_cmpW (o := ⟨some 29, _, _, _, _, _⟩) rfl .eql 23 23 (.tmp 26) (.tmp 28) rfl ((cells8 d).toArray) ((cells8 d').toArray) rfl rfl qD2 (.bool true) (hqd.out _) ?_)
            | (go_at_call 43; refine hSm.out.mono ?_; rintro e w3 ⟨rfl, kk⟩; have hb3 : Hid (Below w.heap.size w w3) := hW.out.trans (kk.mono hW.out.size); clear kk hSm))
          go_ret
          exact ⟨rs, rfl, fun h => by rw [← hrs.out]; exact decide_eq_true h.2.2.2.2, hb3.out⟩
        | false =>
          go_enter Tryd.func30, Tryd.ntmps30
          go_wp2_with (first
            | ((with_reducible change wpList _ _ _ ({ dst := some 19, op := _, type := _, pos := _, after := _, guard := _ } :: _) _ _); (with_reducible refine Veil.out ?_); refine wpList_partW (o := ⟨some 19, _, _, _, _, _⟩) rfl 53 (.tmp 18) rfl (w.heap.size) (2) rfl (entC cnt ch) _ a2.out Tryd.underlying53 rfl sE.out ?_)
            | ((with_reducible change wpList _ _ _ ({ dst := some 21, op := _, type := _, pos := _, after := _, guard := _ } :: _) _ _); (with_reducible refine Veil.out ?_); refine wpList_partW (o := ⟨some 21, _, _, _, _, _⟩) rfl 53 (.tmp 20) rfl (w.heap.size + 1) (2) rfl (entC cnt' ch') _ b2.out Tryd.underlying53 rfl sE'.out ?_)
            | ((with_reducible change wpList _ _ _ ({ dst := some 22, op := _, type := _, pos := _, after := _, guard := _ } :: _) _ _); (with_reducible refine Veil.out ?_); refine wpList_cmpW (o := ⟨some 22, _, _, _, _, _⟩) rfl .eql 53 53 (.tmp 19) (.tmp 21) rfl ((entC cnt ch).toArray) ((entC cnt' ch').toArray) rfl rfl qE (.bool true) (hqe.out _) ?_)
            | ((with_reducible change wpList _ _ _ ({ dst := some 26, op := _, type := _, pos := _, after := _, guard := _ } :: _) _ _); (with_reducible refine Veil.out ?_); refine wpList_partW (o := ⟨some 26, _, _, _, _, _⟩) rfl 23 (.tmp 25) rfl (w.heap.size) (35) rfl (cells8 d) _ a3.out Tryd.underlying23 rfl sD.out ?_)
            | ((with_reducible change wpList _ _ _ ({ dst := some 28, op := _, type := _, pos := _, after := _, guard := _ } :: _) _ _); (with_reducible refine Veil.out ?_); refine wpList_partW (o := ⟨some 28, _, _, _, _, _⟩) rfl 23 (.tmp 27) rfl (w.heap.size + 1) (35) rfl (cells8 d') _ b3.out Tryd.underlying23 rfl sD'.out ?_)
            | ((with_reducible change wpList _ _ _ ({ dst := some 29, op := _, type := _, pos := _, after := _, guard := _ } :: _) _ _); (with_reducible refine Veil.out ?_); refine wpList_cmpW (o := ⟨some 29, _, _, _, _, _⟩) rfl .eql 23 23 (.tmp 26) (.tmp 28) rfl ((cells8 d).toArray) ((cells8 d').toArray) rfl rfl qD2 (.bool false) (hqd.out _) ?_))
          go_ret
          exact ⟨_, rfl, fun h => (by have := hrd.out; rw [decide_eq_true h.2.2.2.1] at this; cases this), hW.out⟩
      | false =>
        go_enter Tryd.func30, Tryd.ntmps30
        go_wp2_with (first
          | ((with_reducible change wpList _ _ _ ({ dst := some 19, op := _, type := _, pos := _, after := _, guard := _ } :: _) _ _); (with_reducible refine Veil.out ?_); refine wpList_partW (o := ⟨some 19, _, _, _, _, _⟩) rfl 53 (.tmp 18) rfl (w.heap.size) (2) rfl (entC cnt ch) _ a2.out Tryd.underlying53 rfl sE.out ?_)
          | ((with_reducible change wpList _ _ _ ({ dst := some 21, op := _, type := _, pos := _, after := _, guard := _ } :: _) _ _); (with_reducible refine Veil.out ?_); refine wpList_partW (o := ⟨some 21, _, _, _, _, _⟩) rfl 53 (.tmp 20) rfl (w.heap.size + 1) (2) rfl (entC cnt' ch') _ b2.out Tryd.underlying53 rfl sE'.out ?_)
          | ((with_reducible change wpList _ _ _ ({ dst := some 22, op := _, type := _, pos := _, after := _, guard := _ } :: _) _ _); (with_reducible refine Veil.out ?_); refine wpList_cmpW (o := ⟨some 22, _, _, _, _, _⟩) rfl .eql 53 53 (.tmp 19) (.tmp 21) rfl ((entC cnt ch).toArray) ((entC cnt' ch').toArray) rfl rfl qE (.bool false) (hqe.out _) ?_))
        go_ret
        exact ⟨_, rfl, fun h => (by have := hre.out; rw [decide_eq_true h.2.2.1] at this; cases this), hW.out⟩
    · clear hqe hqd hSm
      go_enter Tryd.func30, Tryd.ntmps30
      go_wp2_with fail
      go_ret
      exact ⟨_, rfl, fun h => absurd h.2.1 hf, hW.out⟩
  · clear hqe hqd hSm
    go_enter Tryd.func30, Tryd.ntmps30
    go_wp2_with fail
    go_ret
    exact ⟨_, rfl, fun h => absurd (by rw [h.1]) hs, hW.out⟩
theorem idx_one (s : ByteArray) (f : Bool) (cnt : Int) (ch d : Text) (A : Option Addr) (n c : Nat) : ((idxCells s f (entC cnt ch) d A n c).toArray.all fun v => v.oneCell') = true := by
  rw [List.all_toArray, List.all_eq_true]
  intro v hv
  unfold idxCells entC at hv
  simp only [List.mem_append, List.mem_cons, List.not_mem_nil, or_false] at hv
  rcases hv with (((h | h) | h | h) | h) | h
  · rw [h]; rfl
  · rw [h]; rfl
  · rw [h]; rfl
  · exact cells8_one _ v h
  · exact cells8_one _ v h
  · rw [h]; rfl
theorem sizeX : (Tryd.prog.info? 55).map (·.size) = some 68 := by kernel_rfl
theorem idx_info (s : ByteArray) (f : Bool) (cnt : Int) (ch d : Text) (hch : ch.length = 32) (hd : d.length = 32) (A : Option Addr) (n c : Nat) : (Tryd.prog.info? 55).map (·.size) = some (idxCells s f (entC cnt ch) d A n c).toArray.size := by
  have h : (idxCells s f (entC cnt ch) d A n c).length = 68 := by unfold idxCells; simp [entC_len hch, cells8_len, hd]
  rw [List.size_toArray, h]
  exact sizeX
set_option maxRecDepth 100000 in
set_option maxHeartbeats 4000000 in
theorem fnX_any (q : Text) (k : Nat) (hk : q.length = k) (s : ByteArray) (f : Bool) (cnt : Int) (ch : Text) (hch : ch.length = 32) (d : Text) (hd : d.length = 32) (l : List Text) (n : Nat) (A : Option Addr) (c gp : Nat) (Ar : Option Addr) (cr : Nat) (w : World) (hp : Blk w gp 55 (idxCells s f (entC cnt ch) d A n c).toArray) (hl : RdD w A n l) (hr : Reads w 1 Ar k (cells8 q)) (hnil : Ar = none → k = 0 ∧ cr = 0) (s1 : ByteArray) (f1 : Bool) (cnt1 : Int) (ch1 d1 : Text) (l1 : List Text) (en : Int) (hans : IdxDec.ixAns q = (s1, f1, cnt1, ch1, d1, l1, en)) (hs1 : s1.size ≤ 140737488355328) :
    Calls Tryd.prog 28 #[.slice Ar k cr, .pointer (some ⟨gp, 0, none⟩)] w fun e w' => ∃ A4 c4 t r, e = .returned (.tuple #[.slice A4 t.length c4, .int .i64 en, .bool r]) ∧ (s1 = s ∧ f1 = f ∧ (cnt1 = cnt ∧ ch1 = ch) ∧ d1 = d ∧ l1 = l → r = true) ∧ Reads w' 1 A4 t.length (cells8 t) ∧ (idxWant s1 f1 cnt1 ch1 d1 l1 = some t ∨ (idxWant s1 f1 cnt1 ch1 d1 l1 = none ∧ t = [])) ∧ Below w.heap.size w w' := by
  have hD := DecIdx2.decodeIndexed_any q k hk Ar cr w hr hnil
  have hl1 := IdxDec.ixAns_len q
  rw [hans] at hD hl1
  obtain ⟨hch1, hd1⟩ := hl1
  replace hD : Hid (Calls Tryd.prog 29 #[.slice Ar k cr] w fun e w' => ∃ A1 n1 c1, e = .returned (.tuple #[.agg (idxCells s1 f1 (entC cnt1 ch1) d1 A1 n1 c1).toArray, .int .i64 en]) ∧ RdD w' A1 n1 l1 ∧ n1 ≤ 256 ∧ Below w.heap.size w w') := hD.mono fun e w' ⟨A1, n1, c1, h1, h2, _, _, h5, h6⟩ => ⟨A1, n1, c1, h1, h2, h5, h6⟩
  have hgl : Hid (gp < w.heap.size) := hp.lt
  have hEn := Lib.hid (fun A1 n1 c1 w' (h : RdD w' A1 n1 l1) => EncOut.encIdx_c s1 hs1 f1 cnt1 ch1 hch1 d1 hd1 l1 A1 n1 c1 w' h)
  have hQa := Lib.hid (fun A1 n1 c1 w' (h0 : n1 < 140737488355328) (h : RdD w' A1 n1 l1) (h2 : RdD w' A n l) => sameIdx_all s1 s f1 f cnt1 cnt ch1 ch hch1 hch d1 d hd1 hd l1 l n1 n h0 A1 A c1 c w' h h2)
  have hI1 := Lib.hid (fun A1 n1 c1 => idx_info s1 f1 cnt1 ch1 d1 hch1 hd1 A1 n1 c1)
  have hO1 := Lib.hid (fun A1 n1 c1 => idx_one s1 f1 cnt1 ch1 d1 A1 n1 c1)
  have hI0 := Lib.hid (idx_info s f cnt ch d hch hd A n c)
  obtain ⟨cs0, hcs0⟩ : ∃ cs0, Hid ((idxCells s f (entC cnt ch) d A n c).toArray = cs0) := ⟨_, Lib.hid rfl⟩
  rw [hcs0.out] at hp hQa hI0
  obtain ⟨mk, hmk⟩ : ∃ mk : Option Addr → Nat → Nat → Array Value, Hid ((fun A1 n1 c1 => (idxCells s1 f1 (entC cnt1 ch1) d1 A1 n1 c1).toArray) = mk) := ⟨_, Lib.hid rfl⟩
  have hm : ∀ A1 n1 c1, (idxCells s1 f1 (entC cnt1 ch1) d1 A1 n1 c1).toArray = mk A1 n1 c1 := fun A1 n1 c1 => by rw [← hmk.out]
  simp only [hm] at hD hEn hI1 hO1
  replace hQa := Lib.hid (fun A1 n1 c1 w' h0 h h2 => (hm A1 n1 c1) ▸ hQa.out A1 n1 c1 w' h0 h h2)
  have hZ : Hid (∀ A1 n1 c1, Tryd.zeroCells55.size = (mk A1 n1 c1).size) := fun A1 n1 c1 => by
    have := hI1.out A1 n1 c1
    rw [show (Tryd.prog.info? 55).map (·.size) = some Tryd.zeroCells55.size by kernel_rfl] at this
    exact Option.some.inj this
  replace hp := Lib.hid hp
  replace hl := Lib.hid hl
  clear hans hr hnil hk hs1 hch hd hch1 hd1 hcs0 hmk hm
  go_enter Tryd.func28, Tryd.ntmps28
  go_wp2_with (first
    | (go_at_call 29; refine hD.out.mono ?_; rintro e w1 ⟨A1, n1, c1, rfl, r1, hn1, b1⟩; replace r1 := Lib.hid r1; replace b1 := Lib.hid b1)
    | ((with_reducible change wpList _ _ _ ({ dst := none, op := Op.store 55 _ _, type := _, pos := _, after := _, guard := _ } :: _) _ _); refine wpList_store_whole (o := ⟨none, _, _, _, _, _⟩) rfl 55 (.tmp 6) (.tmp 13) rfl (w1.heap.size) (mk A1 n1 c1) rfl rfl 55 Tryd.zeroCells55 (Blk.new w1 _ _) (hI1.out A1 n1 c1) (hZ.out A1 n1 c1) (hO1.out A1 n1 c1) ?_; intro w2 B2 k2; have b2 : Hid (Below w1.heap.size w1 w2) := kept_fresh k2; replace B2 := Lib.hid B2; have bw2 : Hid (Below w.heap.size w w2) := b1.out.trans (b2.out.mono b1.out.size); have r2 := Lib.hid (r1.out.below b2.out); have hE := Lib.hid (hEn.out A1 n1 c1 w2 r2.out); have hm2 : Hid (w1.heap.size < w2.heap.size) := Blk.lt B2.out; clear k2)
    | ((with_reducible change wpList _ _ _ ({ dst := some 16, op := _, type := _, pos := _, after := _, guard := _ } :: _) _ _); refine wpList_load_row (o := ⟨some 16, _, _, _, _, _⟩) rfl 55 (.tmp 6) rfl (w1.heap.size) rfl 55 (mk A1 n1 c1) (0, 0) _ B2.out Tryd.underlying55 rfl (hI1.out A1 n1 c1) ?_)
    | (go_at_call 27; refine hE.out.mono ?_; rintro e w3 ⟨A4, c4, t, er, rfl, -, -, r4, hw, b3⟩; have B3 : Hid (Blk w3 w1.heap.size 55 (mk A1 n1 c1)) := (b3.block _ hm2.out).trans B2.out; have bw3 : Hid (Below w.heap.size w w3) := bw2.out.trans (b3.mono bw2.out.size); have r3 := Lib.hid (r2.out.below b3); replace r4 := Lib.hid r4; have p3 : Hid (Blk w3 gp 55 cs0) := (bw3.out.block _ hgl.out).trans hp.out; have l3 := Lib.hid (hl.out.below bw3.out); have hQ := Lib.hid (hQa.out A1 n1 c1 w3 (by omega) r3.out l3.out); replace hw := Lib.hid hw; clear b3)
    | ((with_reducible change wpList _ _ _ ({ dst := some 22, op := _, type := _, pos := _, after := _, guard := _ } :: _) _ _); refine wpList_load_row (o := ⟨some 22, _, _, _, _, _⟩) rfl 55 (.tmp 6) rfl (w1.heap.size) rfl 55 (mk A1 n1 c1) (0, 0) _ B3.out Tryd.underlying55 rfl (hI1.out A1 n1 c1) ?_)
    | ((with_reducible change wpList _ _ _ ({ dst := some 23, op := _, type := _, pos := _, after := _, guard := _ } :: _) _ _); refine wpList_load_row (o := ⟨some 23, _, _, _, _, _⟩) rfl 55 (.tmp 1) rfl (gp) rfl 55 (cs0) (0, 0) _ p3.out Tryd.underlying55 rfl hI0.out ?_)
    | (go_at_call 30; refine hQ.out.mono ?_; rintro e w5 ⟨r, rfl, hrr, b5⟩; have bw5 : Hid (Below w.heap.size w w5) := bw3.out.trans (b5.mono bw3.out.size); have r5 := Lib.hid (r4.out.below b5); replace hrr := Lib.hid hrr; clear b5))
  go_ret3
  exact ⟨A4, c4, t, r, rfl, hrr.out, r5.out, hw.out.imp (fun h => h.1) (fun h => ⟨h.1, h.2.1⟩), bw5.out⟩
/-- The function as a reader of what was laid down. -/
theorem readX (s : ByteArray) (f : Bool) (cnt : Int) (ch : Text) (hch : ch.length = 32) (d : Text) (hd : d.length = 32) (l : List Text) (hle : l.length ≤ 256) (n : Nat) (A : Option Addr) (c gp : Nat) (w : World) (hp : Blk w gp 55 (idxCells s f (entC cnt ch) d A n c).toArray) (hl : RdD w A n l) (b : Text) (hw : idxWant s f cnt ch d l = some b) (h64 : s.size ≤ 64) :
    ReadFn b w (.func (.func 28) #[] #[.pointer (some ⟨gp, 0, none⟩)]) := by
  obtain ⟨hok, h9, hans⟩ := idxW_cond hch hd hl.2.1 hle hw
  refine ⟨28, _, #[], #[.pointer (some ⟨gp, 0, none⟩)], rfl, Tryd.func28, by kernel_rfl, by kernel_rfl, fun w' hb A' c' hr hnil => ?_, fun w' hb r k hrl hcase A' c' hr hnil => ?_⟩
  · refine (fnX_any b b.length rfl s f cnt ch hch d hd l n A c gp A' c' w' ((hb.block _ hp.lt).trans hp) (hl.below hb) hr hnil _ _ _ _ _ _ _ hans (by omega)).mono ?_
    rintro e w'' ⟨A4, c4, t, r, rfl, hrr, r4, ht, hb4⟩
    have : t = b := by
      rcases ht with h | ⟨h, -⟩
      · rw [hw] at h; exact (Option.some.inj h).symm
      · rw [hw] at h; cases h
    subst this
    obtain rfl := hrr ⟨rfl, rfl, ⟨rfl, rfl⟩, rfl, rfl⟩
    exact ⟨A4, c4, rfl, r4, hb4⟩
  · have hbad : ¬ 9000 < r.length ∧ ¬ IdxDec.ixOk r := by
      have hn := bad_near (Ok := IdxDec.ixOk) (fun a t h1 h2 => ixOk_ext h1 h2) hok
      rcases hcase with ⟨i, hi, rfl⟩ | rfl
      · exact ⟨by rw [List.length_take]; omega, hn.1 i hi⟩
      · exact ⟨by rw [List.length_append]; simp; omega, hn.2⟩
    refine (fnX_any r k hrl s f cnt ch hch d hd l n A c gp A' c' w' ((hb.block _ hp.lt).trans hp) (hl.below hb) hr hnil _ _ _ _ _ _ _ (IdxDec.ixAns_no hbad.1 hbad.2) (by decide)).mono ?_
    rintro e w'' ⟨A4, c4, t, r', rfl, hrr, r4, ht, hb4⟩
    exact ⟨_, _, rfl, hb4⟩
end Go.Proofs.YtgldkfaiofkhbaaDoor.SpeltIdx

namespace Go.Proofs.YtgldkfaiofkhbaaDoor.Again
open Go Go.RowKit Go.Proofs.YtgldkfaiofkhbaaDoor Go.Proofs.YtgldkfaiofkhbaaDoor.Mem Go.Proofs.YtgldkfaiofkhbaaDoor.Sha Go.Proofs.YtgldkfaiofkhbaaDoor.Bytes Go.Proofs.YtgldkfaiofkhbaaDoor.TreeMem Go.Proofs.YtgldkfaiofkhbaaDoor.Held Go.Proofs.YtgldkfaiofkhbaaDoor.Book Go.Proofs.YtgldkfaiofkhbaaDoor.Ref17 Go.Proofs.YtgldkfaiofkhbaaDoor.StructEq Go.Proofs.YtgldkfaiofkhbaaDoor.ProofIdx3 Go.Proofs.YtgldkfaiofkhbaaDoor.IdxEnc Go.Proofs.YtgldkfaiofkhbaaDoor.Prs Go.Proofs.YtgldkfaiofkhbaaDoor.PieceLay Go.Proofs.YtgldkfaiofkhbaaDoor.PieceMem Go.Proofs.YtgldkfaiofkhbaaDoor.SpeltP Go.Proofs.YtgldkfaiofkhbaaDoor.Spelt Go.Proofs.YtgldkfaiofkhbaaDoor.SpeltFn Go.Proofs.YtgldkfaiofkhbaaDoor.SpeltIdx Go.Proofs.YtgldkfaiofkhbaaDoor.EncOut

def zI3 : Array Value := #[Value.int .i64 0, Value.int .i64 0, Value.slice none 0 0]
/-- Bytes that are read as something are laid down again as they are: one form. -/
def Form (T : TypeId) (Z : Array Value) (DF EF : FuncId) (q : Text) (k : Nat) (A : Option Addr) (c : Nat) (w : World) (en : Int) : Prop :=
  ∀ w', Below w.heap.size w w' → Calls Tryd.prog DF #[.slice A k c] w' fun e w1 => ∃ cs : Array Value, e = .returned (.tuple #[.agg cs, .int .i64 en]) ∧ (Tryd.prog.info? T).map (·.size) = some cs.size ∧ Z.size = cs.size ∧ (cs.all fun v => v.oneCell') = true ∧ Below w'.heap.size w' w1 ∧
    (en = 0 → ∀ w2, Below w1.heap.size w1 w2 → Calls Tryd.prog EF #[.agg cs] w2 fun e w3 => ∃ A4 c4, e = .returned (.tuple #[.slice A4 k c4, .int .i64 0]) ∧ Reads w3 1 A4 k (cells8 q) ∧ Below w2.heap.size w2 w3)
theorem enc_back {W : Option Text} {q : Text} {k : Nat} {w : World} {e : Ending} {w' : World} (hk : q.length = k) (hW : W = some q) (h : EncOut W w e w') : ∃ A4 c4, e = .returned (.tuple #[.slice A4 k c4, .int .i64 0]) ∧ Reads w' 1 A4 k (cells8 q) ∧ Below w.heap.size w w' := by
  obtain ⟨A4, c4, b, err, rfl, -, -, hr, ho, hb⟩ := h
  rcases ho with ⟨h, rfl⟩ | ⟨h, -, -⟩
  · rw [hW] at h
    obtain rfl := Option.some.inj h
    subst hk
    exact ⟨A4, c4, rfl, hr, hb⟩
  · rw [hW] at h; cases h
theorem formI (q : Text) (k : Nat) (hk : q.length = k) (A : Option Addr) (c : Nat) (w : World) (hr : Reads w 1 A k (cells8 q)) (hnil : A = none → k = 0 ∧ c = 0) : Form 51 zI3 20 15 q k A c w (DecIncl.decAns q).2.2.2 := fun w' hb => by
  obtain ⟨x, y, l, en, hans⟩ : ∃ x y l en, DecIncl.decAns q = (x, y, l, en) := ⟨_, _, _, _, rfl⟩
  have := DecIncl2.decodeInclusion_any q k hk A c w' (hr.below hb) hnil
  rw [hans] at this ⊢
  refine this.mono ?_
  rintro e w1 ⟨A1, n1, c1, rfl, r1, -, -, -, b1⟩
  exact ⟨_, rfl, sizeI, rfl, incl_one _ _ _ _ _, b1, fun (h0 : en = 0) w2 hb2 => (encIncl_c x y l A1 n1 c1 w2 (r1.below hb2)).mono fun e w3 h => enc_back hk (inclWant_back (by rw [hans, h0])) h⟩
theorem formC (q : Text) (k : Nat) (hk : q.length = k) (A : Option Addr) (c : Nat) (w : World) (hr : Reads w 1 A k (cells8 q)) (hnil : A = none → k = 0 ∧ c = 0) : Form 44 zI3 25 22 q k A c w (DecCons.decAnsC q).2.2.2 := fun w' hb => by
  obtain ⟨x, y, l, en, hans⟩ : ∃ x y l en, DecCons.decAnsC q = (x, y, l, en) := ⟨_, _, _, _, rfl⟩
  have := DecCons.decodeConsistency_any q k hk A c w' (hr.below hb) hnil
  rw [hans] at this ⊢
  refine this.mono ?_
  rintro e w1 ⟨A1, n1, c1, rfl, r1, -, -, -, b1⟩
  exact ⟨_, rfl, sizeC, rfl, incl_one _ _ _ _ _, b1, fun (h0 : en = 0) w2 hb2 => (encCons_c x y l A1 n1 c1 w2 (r1.below hb2)).mono fun e w3 h => enc_back hk (consWant_back (by rw [hans, h0])) h⟩
theorem zX_size : (Tryd.zeroCells55).size = 68 := by kernel_rfl
theorem formX (q : Text) (k : Nat) (hk : q.length = k) (A : Option Addr) (c : Nat) (w : World) (hr : Reads w 1 A k (cells8 q)) (hnil : A = none → k = 0 ∧ c = 0) : Form 55 Tryd.zeroCells55 29 27 q k A c w (IdxDec.ixAns q).2.2.2.2.2.2 := fun w' hb => by
  obtain ⟨s, f, cnt, ch, d, l, en, hans⟩ : ∃ s f cnt ch d l en, IdxDec.ixAns q = (s, f, cnt, ch, d, l, en) := ⟨_, _, _, _, _, _, _, rfl⟩
  have := DecIdx2.decodeIndexed_any q k hk A c w' (hr.below hb) hnil
  have hl := IdxDec.ixAns_len q
  rw [hans] at this hl ⊢
  obtain ⟨hch, hd⟩ := hl
  replace this : Calls Tryd.prog 29 #[.slice A k c] w' fun e w1 => ∃ A1 n1 c1, e = .returned (.tuple #[.agg (idxCells s f (entC cnt ch) d A1 n1 c1).toArray, .int .i64 en]) ∧ RdD w1 A1 n1 l ∧ Below w'.heap.size w' w1 := this.mono fun e w1 ⟨A1, n1, c1, h1, h2, _, _, _, h6⟩ => ⟨A1, n1, c1, h1, h2, h6⟩
  refine this.mono ?_
  rintro e w1 ⟨A1, n1, c1, rfl, r1, b1⟩
  have hsz := idx_info s f cnt ch d hch hd A1 n1 c1
  refine ⟨_, rfl, hsz, ?_, idx_one _ _ _ _ _ _ _ _, b1, fun (h0 : en = 0) w2 hb2 => ?_⟩
  · rw [sizeX] at hsz
    rw [zX_size]
    exact Option.some.inj hsz
  · have hw : idxWant s f cnt ch d l = some q := idxW_back (by rw [hans, h0])
    have h64 : s.size ≤ 64 := by
      unfold idxWant at hw
      split at hw
      · rename_i hok; exact okIx_64 hok
      · cases hw
    exact (encIdx_c s (Nat.le_trans h64 (by decide)) f cnt ch hch d hd l A1 n1 c1 w2 (r1.below hb2)).mono fun e w3 h => enc_back hk hw h
theorem zPc_size : zP.size = 36 := by unfold zP; rw [pc_size rfl]
theorem formP (q : Text) (k : Nat) (hk : q.length = k) (A : Option Addr) (c : Nat) (w : World) (hr : Reads w 1 A k (cells8 q)) (hnil : A = none → k = 0 ∧ c = 0) : Form 83 zP 81 35 q k A c w (PieceRead.pcAns q).err := fun w' hb => by
  have hA : ∃ X, PieceRead.pcAns q = X ∧ X.b.length = 32 ∧ (X.err = 0 → X = PieceRead.pcGot q ∧ PieceRead.pcOk q) := by
    refine ⟨_, rfl, ?_, ?_⟩
    · unfold PieceRead.pcAns
      split
      · rfl
      · split
        · rename_i h; exact (PieceRead.pcOk_facts h).2.2.2.2.2.2.2
        · rfl
    · unfold PieceRead.pcAns
      split
      · intro h; cases h
      · split
        · rename_i h; exact fun _ => ⟨rfl, h⟩
        · intro h; cases h
  obtain ⟨X, hX, hXb, hX0⟩ := hA
  have := DecPiece.decPiece_any q k hk A c w' (hr.below hb) hnil
  rw [hX] at this ⊢
  refine this.mono ?_
  rintro e w1 ⟨A1, n1, c1, A2, c2, ps, rfl, hn, hps, hP, hQ, b1⟩
  refine ⟨_, rfl, pc_info hXb, by rw [zPc_size, pc_size hXb], pc_one rfl rfl, b1, fun h0 w2 hb2 => ?_⟩
  obtain ⟨hg, hok⟩ := hX0 h0
  subst hg
  have hfacts := PieceRead.pcOk_facts hok
  have hZ := PieceRead.okR_Z hok.2.2
  have hrow := PieceRead.okR_row hok.2.2
  have hlen : (PieceRead.pcGot q).rows.length ≤ 1000 := hok.2.2.2.2.1
  refine (encPiece_c (PieceRead.pcGot q).s ?_ (PieceRead.pcGot q).F (PieceRead.pcGot q).b hXb ((PieceRead.pcGot q).rows.map (fun r : PieceB.Row => r.e)) n1 (by rw [List.length_map, hn]) (by omega) A1 c1 ps n1 (by rw [PieceRead.PsOf.len hps, hn]) A2 c2 w2 (hP.below hb2) (hQ.below hb2) (fun e he => ?_) (fun p hp => ?_)).mono fun e w3 h => enc_back hk (PieceRead.read_want hok hps) h
  · have : (PieceRead.pcGot q).s.size ≤ 64 := hZ.2.2.2.2
    exact Nat.le_trans this (by decide)
  · obtain ⟨r, hr, rfl⟩ := List.mem_map.1 he
    have := hrow r hr
    omega
  · obtain ⟨j, hj⟩ := List.getElem?_of_mem hp
    have hjl : j < (PieceRead.pcGot q).rows.length := by rw [← PieceRead.PsOf.len hps]; exact (List.getElem?_eq_some_iff.1 hj).1
    have h1 := PieceRead.PsOf.at_ hps hj (List.getElem?_eq_getElem hjl)
    have h2 := hrow _ (List.getElem_mem hjl)
    have : p.n ≤ 40 := by rw [h1.2.2.1]; exact h2.2.2.2.2.1
    omega

set_option maxRecDepth 100000 in
set_option maxHeartbeats 8000000 in
theorem again_any (q : Text) (k : Nat) (hk : q.length = k) (h47 : k < 140737488355328) (A : Option Addr) (c : Nat) (w : World) (hr : Reads w 1 A k (cells8 q)) (hnil : A = none → k = 0 ∧ c = 0) :
    Calls Tryd.prog 31 #[.slice A k c] w fun e w' => e = .returned (.bool true) ∧ Below w.heap.size w w' := by
  obtain ⟨eI, hI⟩ : ∃ en, Hid (Form 51 zI3 20 15 q k A c w en) := ⟨_, formI q k hk A c w hr hnil⟩
  obtain ⟨eC, hC⟩ : ∃ en, Hid (Form 44 zI3 25 22 q k A c w en) := ⟨_, formC q k hk A c w hr hnil⟩
  obtain ⟨eX, hX⟩ : ∃ en, Hid (Form 55 Tryd.zeroCells55 29 27 q k A c w en) := ⟨_, formX q k hk A c w hr hnil⟩
  obtain ⟨eP, hP⟩ : ∃ en, Hid (Form 83 zP 81 35 q k A c w en) := ⟨_, formP q k hk A c w hr hnil⟩
  have hS : Hid (∀ B d w', Below w.heap.size w w' → Reads w' 1 B k (cells8 q) → Calls Tryd.prog 36 #[.slice B k d, .slice A k c] w' fun e w'' => e = .returned (.bool true) ∧ Below w'.heap.size w' w'') := fun B d w' hb h => same_yes q k hk h47 B A d c w' h (hr.below hb)
  have bw : Hid (Below w.heap.size w w) := Below.refl _ _
  clear hr hnil hk h47
  by_cases zI : eI = 0 <;> by_cases zC : eC = 0 <;> by_cases zX : eX = 0 <;> by_cases zP : eP = 0
  all_goals
    have yI := zI
    have yC := zC
    have yX := zX
    have yP := zP
    have zIe := Lib.hid zI
    clear zI
    have zCe := Lib.hid zC
    clear zC
    have zXe := Lib.hid zX
    clear zX
    have zPe := Lib.hid zP
    clear zP
    go_enter Tryd.func31, Tryd.ntmps31
    go_wp2_with (first
      | (go_at_call 20; refine (hI.out _ bw.out).mono ?_; rintro e wI1 ⟨csI, rfl, iI, zI, oI, bI, nI⟩; replace iI := Lib.hid iI; replace zI := Lib.hid zI; replace oI := Lib.hid oI; replace nI := Lib.hid nI; replace bw : Hid (Below w.heap.size w wI1) := bw.out.trans (bI.mono bw.out.size); clear bI)
      | ((with_reducible change wpList _ _ _ ({ dst := none, op := Op.store 51 _ _, type := _, pos := _, after := _, guard := _ } :: _) _ _); refine wpList_store_whole (o := ⟨none, _, _, _, _, _⟩) rfl 51 (.tmp 3) (.tmp 19) rfl (wI1.heap.size) csI rfl rfl 51 _ (Blk.new wI1 _ _) iI.out zI.out oI.out ?_; intro wI2 BI kI; have bI2 : Hid (Below wI1.heap.size wI1 wI2) := kept_fresh kI; replace BI := Lib.hid BI; replace bw : Hid (Below w.heap.size w wI2) := bw.out.trans (bI2.out.mono bw.out.size); replace nI := Lib.hid (fun h => nI.out h wI2 bI2.out); clear kI bI2)
      | ((with_reducible change wpList _ _ _ ({ dst := some 24, op := _, type := _, pos := _, after := _, guard := _ } :: _) _ _); refine wpList_load_row (o := ⟨some 24, _, _, _, _, _⟩) rfl 51 (.tmp 3) rfl (wI1.heap.size) rfl 51 (csI) (0, 0) _ BI.out Tryd.underlying51 rfl iI.out ?_)
      | (go_at_call 15; refine (nI.out zIe.out).mono ?_; rintro e wI3 ⟨AI, cI, rfl, rI, bI⟩; replace bw : Hid (Below w.heap.size w wI3) := bw.out.trans (bI.mono bw.out.size); replace rI := Lib.hid rI; have sI := Lib.hid (hS.out _ cI _ bw.out rI.out); clear bI)
      | (go_at_call 36; refine (sI.out).mono ?_; rintro e wI4 ⟨rfl, bI⟩; replace bw : Hid (Below w.heap.size w wI4) := bw.out.trans (bI.mono bw.out.size); clear bI sI)
      | (go_at_call 25; refine (hC.out _ bw.out).mono ?_; rintro e wC1 ⟨csC, rfl, iC, zC, oC, bC, nC⟩; replace iC := Lib.hid iC; replace zC := Lib.hid zC; replace oC := Lib.hid oC; replace nC := Lib.hid nC; replace bw : Hid (Below w.heap.size w wC1) := bw.out.trans (bC.mono bw.out.size); clear bC)
      | ((with_reducible change wpList _ _ _ ({ dst := none, op := Op.store 44 _ _, type := _, pos := _, after := _, guard := _ } :: _) _ _); refine wpList_store_whole (o := ⟨none, _, _, _, _, _⟩) rfl 44 (.tmp 7) (.tmp 39) rfl (wC1.heap.size) csC rfl rfl 44 _ (Blk.new wC1 _ _) iC.out zC.out oC.out ?_; intro wC2 BC kC; have bC2 : Hid (Below wC1.heap.size wC1 wC2) := kept_fresh kC; replace BC := Lib.hid BC; replace bw : Hid (Below w.heap.size w wC2) := bw.out.trans (bC2.out.mono bw.out.size); replace nC := Lib.hid (fun h => nC.out h wC2 bC2.out); clear kC bC2)
      | ((with_reducible change wpList _ _ _ ({ dst := some 44, op := _, type := _, pos := _, after := _, guard := _ } :: _) _ _); refine wpList_load_row (o := ⟨some 44, _, _, _, _, _⟩) rfl 44 (.tmp 7) rfl (wC1.heap.size) rfl 44 (csC) (0, 0) _ BC.out Tryd.underlying44 rfl iC.out ?_)
      | (go_at_call 22; refine (nC.out zCe.out).mono ?_; rintro e wC3 ⟨AC, cC, rfl, rC, bC⟩; replace bw : Hid (Below w.heap.size w wC3) := bw.out.trans (bC.mono bw.out.size); replace rC := Lib.hid rC; have sC := Lib.hid (hS.out _ cC _ bw.out rC.out); clear bC)
      | (go_at_call 36; refine (sC.out).mono ?_; rintro e wC4 ⟨rfl, bC⟩; replace bw : Hid (Below w.heap.size w wC4) := bw.out.trans (bC.mono bw.out.size); clear bC sC)
      | (go_at_call 29; refine (hX.out _ bw.out).mono ?_; rintro e wX1 ⟨csX, rfl, iX, zX, oX, bX, nX⟩; replace iX := Lib.hid iX; replace zX := Lib.hid zX; replace oX := Lib.hid oX; replace nX := Lib.hid nX; replace bw : Hid (Below w.heap.size w wX1) := bw.out.trans (bX.mono bw.out.size); clear bX)
      | ((with_reducible change wpList _ _ _ ({ dst := none, op := Op.store 55 _ _, type := _, pos := _, after := _, guard := _ } :: _) _ _); refine wpList_store_whole (o := ⟨none, _, _, _, _, _⟩) rfl 55 (.tmp 10) (.tmp 59) rfl (wX1.heap.size) csX rfl rfl 55 _ (Blk.new wX1 _ _) iX.out zX.out oX.out ?_; intro wX2 BX kX; have bX2 : Hid (Below wX1.heap.size wX1 wX2) := kept_fresh kX; replace BX := Lib.hid BX; replace bw : Hid (Below w.heap.size w wX2) := bw.out.trans (bX2.out.mono bw.out.size); replace nX := Lib.hid (fun h => nX.out h wX2 bX2.out); clear kX bX2)
      | ((with_reducible change wpList _ _ _ ({ dst := some 64, op := _, type := _, pos := _, after := _, guard := _ } :: _) _ _); refine wpList_load_row (o := ⟨some 64, _, _, _, _, _⟩) rfl 55 (.tmp 10) rfl (wX1.heap.size) rfl 55 (csX) (0, 0) _ BX.out Tryd.underlying55 rfl iX.out ?_)
      | (go_at_call 27; refine (nX.out zXe.out).mono ?_; rintro e wX3 ⟨AX, cX, rfl, rX, bX⟩; replace bw : Hid (Below w.heap.size w wX3) := bw.out.trans (bX.mono bw.out.size); replace rX := Lib.hid rX; have sX := Lib.hid (hS.out _ cX _ bw.out rX.out); clear bX)
      | (go_at_call 36; refine (sX.out).mono ?_; rintro e wX4 ⟨rfl, bX⟩; replace bw : Hid (Below w.heap.size w wX4) := bw.out.trans (bX.mono bw.out.size); clear bX sX)
      | (go_at_call 81; refine (hP.out _ bw.out).mono ?_; rintro e wP1 ⟨csP, rfl, iP, zP, oP, bP, nP⟩; replace iP := Lib.hid iP; replace zP := Lib.hid zP; replace oP := Lib.hid oP; replace nP := Lib.hid nP; replace bw : Hid (Below w.heap.size w wP1) := bw.out.trans (bP.mono bw.out.size); clear bP)
      | ((with_reducible change wpList _ _ _ ({ dst := none, op := Op.store 83 _ _, type := _, pos := _, after := _, guard := _ } :: _) _ _); refine wpList_store_whole (o := ⟨none, _, _, _, _, _⟩) rfl 83 (.tmp 13) (.tmp 79) rfl (wP1.heap.size) csP rfl rfl 83 _ (Blk.new wP1 _ _) iP.out zP.out oP.out ?_; intro wP2 BP kP; have bP2 : Hid (Below wP1.heap.size wP1 wP2) := kept_fresh kP; replace BP := Lib.hid BP; replace bw : Hid (Below w.heap.size w wP2) := bw.out.trans (bP2.out.mono bw.out.size); replace nP := Lib.hid (fun h => nP.out h wP2 bP2.out); clear kP bP2)
      | ((with_reducible change wpList _ _ _ ({ dst := some 84, op := _, type := _, pos := _, after := _, guard := _ } :: _) _ _); refine wpList_load_row (o := ⟨some 84, _, _, _, _, _⟩) rfl 83 (.tmp 13) rfl (wP1.heap.size) rfl 83 (csP) (0, 0) _ BP.out Tryd.underlying83 rfl iP.out ?_)
      | (go_at_call 35; refine (nP.out zPe.out).mono ?_; rintro e wP3 ⟨AP, cP, rfl, rP, bP⟩; replace bw : Hid (Below w.heap.size w wP3) := bw.out.trans (bP.mono bw.out.size); replace rP := Lib.hid rP; have sP := Lib.hid (hS.out _ cP _ bw.out rP.out); clear bP)
      | (go_at_call 36; refine (sP.out).mono ?_; rintro e wP4 ⟨rfl, bP⟩; replace bw : Hid (Below w.heap.size w wP4) := bw.out.trans (bP.mono bw.out.size); clear bP sP))
    go_ret
    exact ⟨rfl, bw.out⟩
end Go.Proofs.YtgldkfaiofkhbaaDoor.Again

namespace Go.Proofs.YtgldkfaiofkhbaaDoor.ProofSpelt
open Go Go.RowKit Go.Proofs.YtgldkfaiofkhbaaDoor Go.Proofs.YtgldkfaiofkhbaaDoor.Digest Go.Proofs.YtgldkfaiofkhbaaDoor.Mem Go.Proofs.YtgldkfaiofkhbaaDoor.Sha Go.Proofs.YtgldkfaiofkhbaaDoor.ShaWalk Go.Proofs.YtgldkfaiofkhbaaDoor.Bytes Go.Proofs.YtgldkfaiofkhbaaDoor.HashMem Go.Proofs.YtgldkfaiofkhbaaDoor.DigestMem Go.Proofs.YtgldkfaiofkhbaaDoor.DigestTop Go.Proofs.YtgldkfaiofkhbaaDoor.RefTop Go.Proofs.YtgldkfaiofkhbaaDoor.QuietTail Go.Proofs.YtgldkfaiofkhbaaDoor.Grown Go.Proofs.YtgldkfaiofkhbaaDoor.Chain Go.Proofs.YtgldkfaiofkhbaaDoor.TreeMath Go.Proofs.YtgldkfaiofkhbaaDoor.TreeMem Go.Proofs.YtgldkfaiofkhbaaDoor.TreeRoot Go.Proofs.YtgldkfaiofkhbaaDoor.Append Go.Proofs.YtgldkfaiofkhbaaDoor.Held Go.Proofs.YtgldkfaiofkhbaaDoor.Own Go.Proofs.YtgldkfaiofkhbaaDoor.Ref17 Go.Proofs.YtgldkfaiofkhbaaDoor.RefCons Go.Proofs.YtgldkfaiofkhbaaDoor.StructEq Go.Proofs.YtgldkfaiofkhbaaDoor.ProofIdx3 Go.Proofs.YtgldkfaiofkhbaaDoor.IdxMem Go.Proofs.YtgldkfaiofkhbaaDoor.IdxEnc Go.Proofs.YtgldkfaiofkhbaaDoor.Spelt Go.Proofs.YtgldkfaiofkhbaaDoor.SpeltFn Go.Proofs.YtgldkfaiofkhbaaDoor.SpeltIdx Go.Proofs.YtgldkfaiofkhbaaDoor.Again Go.Proofs.YtgldkfaiofkhbaaDoor.EncOut Go.Proofs.YtgldkfaiofkhbaaDoor.SpotsWalk Go.Proofs.YtgldkfaiofkhbaaDoor.Told Go.Proofs.YtgldkfaiofkhbaaDoor.AskW Go.Proofs.YtgldkfaiofkhbaaDoor.WayRows Go.Proofs.YtgldkfaiofkhbaaDoor.RowsP Go.Proofs.YtgldkfaiofkhbaaDoor.ProveP Go.Proofs.YtgldkfaiofkhbaaDoor.ProveW

def zd : Text := List.replicate 32 0
theorem zd_len : zd.length = 32 := rfl
set_option maxRecDepth 100000 in
set_option maxHeartbeats 1000000 in
theorem zero_any (L I : Int) (w : World) : Calls Tryd.prog 17 #[.agg #[.int .i64 L, .int .i64 I]] w fun e w' => e = .returned (.agg (cells8 zd).toArray) ∧ Below w.heap.size w w' := by
  have F := Lib.hid (fit (x := zd) zd_len)
  have hb : Hid (Below w.heap.size w ((w.alloc (.cells #[.int .i64 L, .int .i64 I] 129)).alloc (.cells Z32 23))) := ((Below.refl _ w).alloc (Nat.le_refl _) _).alloc (by simp) _
  have hR : Hid (Blk ((w.alloc (.cells #[.int .i64 L, .int .i64 I] 129)).alloc (.cells Z32 23)) (w.heap.size + 1) 23 Z32) := by
    have := Blk.new (w.alloc (.cells #[.int .i64 L, .int .i64 I] 129)) 23 Z32
    rwa [show (w.alloc (.cells #[.int .i64 L, .int .i64 I] 129)).heap.size = w.heap.size + 1 by simp] at this
  go_enter Tryd.func17, Tryd.ntmps17
  go_wp2_with ((with_reducible change wpList _ _ _ ({ dst := none, op := Op.store 23 _ _, type := _, pos := _, after := _, guard := _ } :: _) _ _); refine wpList_store_row (o := ⟨none, _, _, _, _, _⟩) rfl 23 (.tmp 2) (.tmp 3) rfl ((w.heap.size + 1)) ((cells8 zd).toArray) rfl rfl 23 (Z32) hR.out F.out.size F.out.zero F.out.one ?_)
  refine bodyPost_ret (results_cell_row rfl _ _ (w.heap.size + 1) 23 (cells8 zd).toArray (0, 0) _ rfl (setRow_heap _ _ _ _ _ _ hR.out) Tryd.underlying23 rfl F.out.size) rfl ?_
  exact ⟨rfl, below_setRow hb.out (by omega) _⟩
theorem zero_at (n : Nat) (w : World) : AtF (fun _ => zd) n w (.func (.func 17) #[] #[]) :=
  ⟨_, _, _, _, rfl, Tryd.func17, by kernel_rfl, by kernel_rfl, fun w' _ p _ _ => zero_any p.1 p.2 w'⟩
structure Three (w w' : World) (a b c : Array Value) : Prop where
  p : Blk w' w.heap.size 51 a
  q : Blk w' (w.heap.size + 1) 44 b
  x : Blk w' (w.heap.size + 2) 55 c
  b : Below w.heap.size w w'
theorem Three.set1 {w w' : World} {a a' b c : Array Value} {v : Value} (h : Three w w' a b c) (e : a.setIfInBounds 2 v = a') : Three w (w'.setCell ⟨w.heap.size, 2, none⟩ v) a' b c :=
  ⟨e ▸ h.p.set_ 2 v, h.q.far (by simp only; omega) v, h.x.far (by simp only; omega) v, h.b.setCell (Nat.le_refl _) v⟩
theorem Three.set2 {w w' : World} {a b b' c : Array Value} {v : Value} (h : Three w w' a b c) (e : b.setIfInBounds 2 v = b') : Three w (w'.setCell ⟨w.heap.size + 1, 2, none⟩ v) a b' c :=
  ⟨h.p.far (by simp only; omega) v, e ▸ h.q.set_ 2 v, h.x.far (by simp only; omega) v, h.b.setCell (by simp only; omega) v⟩
theorem Three.set3 {w w' : World} {a b c c' : Array Value} {v : Value} (h : Three w w' a b c) (e : c.setIfInBounds 67 v = c') : Three w (w'.setCell ⟨w.heap.size + 2, 67, none⟩ v) a b c' :=
  ⟨h.p.far (by simp only; omega) v, h.q.far (by simp only; omega) v, e ▸ h.x.set_ 67 v, h.b.setCell (by simp only; omega) v⟩
theorem incl_set (x y : Int) (A A' : Option Addr) (n m c c' : Nat) : (inclCells x y A n c).setIfInBounds 2 (.slice A' m c') = inclCells x y A' m c' := rfl
theorem way_sides : ∀ (f a b i : Nat), a ≤ i → i < b → b - a ≤ f → (wayN f a b i).length = (Sides.sidesN f (b - a) (i - a)).length
  | 0, a, b, i, h1, h2, h3 => by omega
  | f + 1, a, b, i, h1, h2, h3 => by
    unfold wayN Sides.sidesN
    by_cases hn : b - a ≤ 1
    · rw [if_pos hn, if_pos hn]; rfl
    · have hlt := TreeMath.half_lt (n := b - a) (by omega)
      have hpos := TreeMath.half_pos (b - a)
      rw [if_neg hn, if_neg hn]
      by_cases hi : i < a + TreeMath.half (b - a)
      · rw [if_pos hi, if_pos (by omega), List.length_append, List.length_append, way_sides f a (a + TreeMath.half (b - a)) i h1 hi (by omega), show a + TreeMath.half (b - a) - a = TreeMath.half (b - a) by omega]
        rfl
      · rw [if_neg hi, if_neg (by omega), List.length_append, List.length_append, way_sides f (a + TreeMath.half (b - a)) b i (by omega) h2 (by omega), show b - (a + TreeMath.half (b - a)) = b - a - TreeMath.half (b - a) by omega, show i - (a + TreeMath.half (b - a)) = i - a - TreeMath.half (b - a) by omega]
        rfl
/-- How the two answers on a way hang together: it is laid down; its length is wrong; its numbers are wrong. -/
theorem three_incl (x y : Int) (l : List Text) (m : Nat) (hl : l.length = m) : ((∃ b, inclWant x y l = some b) ∧ inclE x y = 0 ∧ m = (inclRows x y).length) ∨ (inclWant x y l = none ∧ inclE x y = 0 ∧ (inclRows x y).length ≠ m) ∨ (inclWant x y l = none ∧ inclE x y = 60) := by
  unfold inclWant inclE inclRows
  by_cases h : WayP.insideB x y = true
  · have h' : ProofBeside.insideB x y = true := h
    have hh := inside_true h
    have hw : (wayR 0 x.toNat y.toNat).length = (Sides.sides x.toNat y.toNat).length := by
      have := way_sides (x.toNat - 0) 0 x.toNat y.toNat (by omega) (by omega) (Nat.le_refl _)
      unfold wayR Sides.sides
      exact this
    rw [if_pos h, if_pos h]
    by_cases hm : (Sides.sides x.toNat y.toNat).length = l.length
    · exact .inl ⟨⟨_, if_pos ⟨h', hm⟩⟩, rfl, by rw [hw, hm, hl]⟩
    · exact .inr (.inl ⟨if_neg (fun h => hm h.2), rfl, by rw [hw, ← hl]; exact hm⟩)
  · have h' : ¬ ProofBeside.insideB x y = true := h
    rw [if_neg h]
    exact .inr (.inr ⟨if_neg (fun hh => h' hh.1), rfl⟩)
theorem three_cons (x y : Int) (l : List Text) (m : Nat) (hl : l.length = m) : ((∃ b, consWant x y l = some b) ∧ consE x y = 0 ∧ m = (consRows x y).length) ∨ (consWant x y l = none ∧ consE x y = 0 ∧ (consRows x y).length ≠ m) ∨ (consWant x y l = none ∧ consE x y = 60) := by
  unfold consWant consE consRows
  by_cases h : Subs.joinsB x y = true
  · have hh := joins_true h
    have hw := partsOf_len (old := x.toNat) (size := y.toNat) (by omega)
    rw [if_pos h, if_pos h]
    by_cases hm : Subs.betw x.toNat y.toNat = l.length
    · exact .inl ⟨⟨_, if_pos ⟨h, hm⟩⟩, rfl, by rw [hw, hm, hl]⟩
    · exact .inr (.inl ⟨if_neg (fun h => hm h.2), rfl, by rw [hw, ← hl]; exact hm⟩)
  · rw [if_neg h]
    exact .inr (.inr ⟨if_neg (fun hh => h hh.1), rfl⟩)
/-- What an encoder answers, by whether there is something to answer. -/
def Enc2 (W : Option Text) (eI : Int) (w : World) (e : Ending) (w' : World) : Prop := ∃ A4 c4 b, e = .returned (.tuple #[.slice A4 b.length c4, .int .i64 eI]) ∧ b.length ≤ c4 ∧ Reads w' 1 A4 b.length (cells8 b) ∧ (eI = 0 → W = some b) ∧ Below w.heap.size w w'
theorem enc2 {W : Option Text} {w : World} {e : Ending} {w' : World} (h : EncOut W w e w') : Enc2 W (if W = none then 170 else 0) w e w' := by
  obtain ⟨A4, c4, b, err, rfl, hc, -, hr, ho, hb⟩ := h
  rcases ho with ⟨hW, rfl⟩ | ⟨hW, -, rfl⟩
  · rw [hW, if_neg (by simp)]; exact ⟨A4, c4, b, rfl, hc, hr, fun _ => rfl, hb⟩
  · rw [hW, if_pos rfl]; exact ⟨A4, c4, b, rfl, hc, hr, fun h => absurd h (by decide), hb⟩

set_option maxRecDepth 100000 in
set_option maxHeartbeats 16000000 in
theorem proofSpelt_any (x1 y1 : Int) (q1 : List Text) (n1 : Nat) (A1 : Option Addr) (c1 : Nat) (hc1 : n1 ≤ c1) (x2 y2 : Int) (q2 : List Text) (n2 : Nat) (A2 : Option Addr) (c2 : Nat) (hc2 : n2 ≤ c2) (s : ByteArray) (hs : s.size ≤ 140737488355328) (f : Bool) (cnt : Int) (ch : Text) (hch : ch.length = 32) (d : Text) (hd : d.length = 32) (q3 : List Text) (n3 : Nat) (A3 : Option Addr) (c3 : Nat) (hc3 : n3 ≤ c3)
    (q : Text) (k : Nat) (hk : q.length = k) (h47 : k < 140737488355328) (A : Option Addr) (c : Nat) (w : World) (hB : Base w) (hT : TabAt 3 Lib.deBruijn64tab w) (hg : 3 < w.heap.size) (r1 : RdD w A1 n1 q1) (r2 : RdD w A2 n2 q2) (r3 : RdD w A3 n3 q3) (hr : Reads w 1 A k (cells8 q)) (hnil : A = none → k = 0 ∧ c = 0) :
    Calls Tryd.prog 4 #[.agg (inclCells x1 y1 A1 n1 c1), .agg (inclCells x2 y2 A2 n2 c2), .agg (idxCells s f (entC cnt ch) d A3 n3 c3).toArray, .slice A k c] w fun e w' => e = .returned (.bool true) ∧ Below w.heap.size w w' := by
  have hP0 : Hid (Blk (((w.alloc (.cells (inclCells x1 y1 A1 n1 c1) 51)).alloc (.cells (inclCells x2 y2 A2 n2 c2) 44)).alloc (.cells (idxCells s f (entC cnt ch) d A3 n3 c3).toArray 55)) w.heap.size 51 (inclCells x1 y1 A1 n1 c1)) := ((Blk.new w 51 _).alloc _).alloc _
  obtain ⟨m1, hm1⟩ : ∃ m, Hid (min n1 300 = m) := ⟨_, Lib.hid rfl⟩
  obtain ⟨m2, hm2⟩ : ∃ m, Hid (min n2 300 = m) := ⟨_, Lib.hid rfl⟩
  obtain ⟨m3, hm3⟩ : ∃ m, Hid (min n3 300 = m) := ⟨_, Lib.hid rfl⟩
  have t1 := r1.take_ m1 (by rw [← hm1.out]; exact Nat.min_le_left ..)
  have t2 := r2.take_ m2 (by rw [← hm2.out]; exact Nat.min_le_left ..)
  have t3 := r3.take_ m3 (by rw [← hm3.out]; exact Nat.min_le_left ..)
  obtain ⟨l1, hl1⟩ : ∃ l, q1.take m1 = l := ⟨_, rfl⟩
  obtain ⟨l2, hl2⟩ : ∃ l, q2.take m2 = l := ⟨_, rfl⟩
  obtain ⟨l3, hl3⟩ : ∃ l, q3.take m3 = l := ⟨_, rfl⟩
  rw [hl1] at t1
  rw [hl2] at t2
  rw [hl3] at t3
  have hF1 : Hid (∀ w' a b c, Three w w' a b c → Calls Tryd.prog 14 #[.slice A1 n1 c1, .int .i64 300] w' fun e w'' => e = .returned (.slice A1 m1 c1) ∧ Three w w'' a b c) := fun w' a b c h => by rw [← hm1.out]; exact (Law17a.few17_any A1 n1 c1 hc1 w').mono fun e w'' ⟨he, hw⟩ => ⟨he, hw ▸ h⟩
  have hF2 : Hid (∀ w' a b c, Three w w' a b c → Calls Tryd.prog 14 #[.slice A2 n2 c2, .int .i64 300] w' fun e w'' => e = .returned (.slice A2 m2 c2) ∧ Three w w'' a b c) := fun w' a b c h => by rw [← hm2.out]; exact (Law17a.few17_any A2 n2 c2 hc2 w').mono fun e w'' ⟨he, hw⟩ => ⟨he, hw ▸ h⟩
  have hF3 : Hid (∀ w' a b c, Three w w' a b c → Calls Tryd.prog 14 #[.slice A3 n3 c3, .int .i64 300] w' fun e w'' => e = .returned (.slice A3 m3 c3) ∧ Three w w'' a b c) := fun w' a b c h => by rw [← hm3.out]; exact (Law17a.few17_any A3 n3 c3 hc3 w').mono fun e w'' ⟨he, hw⟩ => ⟨he, hw ▸ h⟩
  have hE1 : Hid (∀ w', Below w.heap.size w w' → Calls Tryd.prog 15 #[.agg (inclCells x1 y1 A1 m1 c1)] w' (Enc2 (inclWant x1 y1 l1) (if inclWant x1 y1 l1 = none then 170 else 0) w')) := fun w' hb => (encIncl_c x1 y1 l1 A1 m1 c1 w' (t1.below hb)).mono fun e w'' h => enc2 h
  have hE2 : Hid (∀ w', Below w.heap.size w w' → Calls Tryd.prog 22 #[.agg (inclCells x2 y2 A2 m2 c2)] w' (Enc2 (consWant x2 y2 l2) (if consWant x2 y2 l2 = none then 170 else 0) w')) := fun w' hb => (encCons_c x2 y2 l2 A2 m2 c2 w' (t2.below hb)).mono fun e w'' h => enc2 h
  have hE3 : Hid (∀ w', Below w.heap.size w w' → Calls Tryd.prog 27 #[.agg (idxCells s f (entC cnt ch) d A3 m3 c3).toArray] w' (Enc2 (idxWant s f cnt ch d l3) (if idxWant s f cnt ch d l3 = none then 170 else 0) w')) := fun w' hb => (encIdx_c s hs f cnt ch hch d hd l3 A3 m3 c3 w' (t3.below hb)).mono fun e w'' h => enc2 h
  have hV1 : Hid (∀ w', Below w.heap.size w w' → Calls Tryd.prog 16 #[.int .i64 32, .int .i64 x1, .int .i64 y1, (.func (.func 17) #[] #[])] w' fun e w'' => ∃ A5 c5, e = .returned (.tuple #[.slice A5 (inclRows x1 y1).length c5, .int .i64 (inclE x1 y1)]) ∧ Below w'.heap.size w' w'') := fun w' hb =>
    (treeIncl_any 32 (fun _ => zd) (fun _ => zd_len) x1 y1 17 #[] #[] w' (base_on hB hb) (tab_below hT hg hb) (by have := hb.size; omega) (fun n _ _ => zero_at n w')).mono fun e w'' ⟨v, n, he, hn, ho, hb2⟩ => by
      obtain ⟨A5, c5, rfl, -⟩ := Append.Own.reads ho
      exact ⟨A5, c5, by rw [he, hn], hb2⟩
  have hV2 : Hid (∀ w', Below w.heap.size w w' → Calls Tryd.prog 23 #[.int .i64 32, .int .i64 x2, .int .i64 y2, (.func (.func 17) #[] #[])] w' fun e w'' => ∃ A5 c5, e = .returned (.tuple #[.slice A5 (consRows x2 y2).length c5, .int .i64 (consE x2 y2)]) ∧ Below w'.heap.size w' w'') := fun w' hb =>
    (treeCons_any 32 (fun _ => zd) (fun _ => zd_len) x2 y2 17 #[] #[] w' (base_on hB hb) (tab_below hT hg hb) (by have := hb.size; omega) (fun n _ _ => zero_at n w')).mono fun e w'' ⟨v, n, he, hn, ho, hb2⟩ => by
      obtain ⟨A5, c5, rfl, -⟩ := Append.Own.reads ho
      exact ⟨A5, c5, by rw [he, hn], hb2⟩
  have hY1 : Hid (∀ w' (b : Text) A4 c4, Below w.heap.size w w' → Blk w' w.heap.size 51 (inclCells x1 y1 A1 m1 c1) → inclWant x1 y1 l1 = some b → b.length ≤ c4 → Reads w' 1 A4 b.length (cells8 b) → Calls Tryd.prog 18 #[.slice A4 b.length c4, .func (.func 19) #[] #[.pointer (some ⟨w.heap.size, 0, none⟩)]] w' fun e w'' => e = .returned (.bool true) ∧ Below w'.heap.size w' w'') := fun w' b A4 c4 hb hp hw hc hrd => by
    obtain ⟨ok, h9, -⟩ := SpeltP.inclWant_cond t1.2.1 hw
    have h17 : 17 ≤ b.length := ok.1
    exact spelt_any b b.length rfl (by omega) (by omega) A4 c4 hc w' hrd _ (readI x1 y1 l1 m1 A1 c1 w.heap.size w' hp (t1.below hb) b hw)
  have hY2 : Hid (∀ w' (b : Text) A4 c4, Below w.heap.size w w' → Blk w' (w.heap.size + 1) 44 (inclCells x2 y2 A2 m2 c2) → consWant x2 y2 l2 = some b → b.length ≤ c4 → Reads w' 1 A4 b.length (cells8 b) → Calls Tryd.prog 18 #[.slice A4 b.length c4, .func (.func 24) #[] #[.pointer (some ⟨w.heap.size + 1, 0, none⟩)]] w' fun e w'' => e = .returned (.bool true) ∧ Below w'.heap.size w' w'') := fun w' b A4 c4 hb hp hw hc hrd => by
    obtain ⟨ok, h9, -⟩ := SpeltP.consWant_cond t2.2.1 hw
    have h17 : 17 ≤ b.length := ok.1
    exact spelt_any b b.length rfl (by omega) (by omega) A4 c4 hc w' hrd _ (readC x2 y2 l2 m2 A2 c2 (w.heap.size + 1) w' hp (t2.below hb) b hw)
  have hY3 : Hid (∀ w' (b : Text) A4 c4, Below w.heap.size w w' → Blk w' (w.heap.size + 2) 55 (idxCells s f (entC cnt ch) d A3 m3 c3).toArray → idxWant s f cnt ch d l3 = some b → b.length ≤ c4 → Reads w' 1 A4 b.length (cells8 b) → Calls Tryd.prog 18 #[.slice A4 b.length c4, .func (.func 28) #[] #[.pointer (some ⟨w.heap.size + 2, 0, none⟩)]] w' fun e w'' => e = .returned (.bool true) ∧ Below w'.heap.size w' w'') := fun w' b A4 c4 hb hp hw hc hrd => by
    have hok : IdxAny.okIx s f cnt ch d l3.length = true := by
      unfold idxWant at hw
      split at hw
      · assumption
      · cases hw
    have hle : l3.length ≤ 256 := by
      have h1 := okIx_ones hok
      have h2 := ProofIdx.onesOf_le d
      omega
    obtain ⟨ok, h9, -⟩ := SpeltP.idxW_cond hch hd t3.2.1 hle hw
    have h0 : 0 < b.length := by have := ok.2.2.1; omega
    exact spelt_any b b.length rfl h0 (by omega) A4 c4 hc w' hrd _ (readX s f cnt ch hch d hd l3 hle m3 A3 c3 (w.heap.size + 2) w' hp (t3.below hb) b hw (okIx_64 hok))
  have hAg : Hid (∀ w', Below w.heap.size w w' → Calls Tryd.prog 31 #[.slice A k c] w' fun e w'' => e = .returned (.bool true) ∧ Below w'.heap.size w' w'') := fun w' hb => again_any q k hk h47 A c w' (hr.below hb) hnil
  have k3 : Hid ((idxCells s f (entC cnt ch) d A3 n3 c3).toArray.setIfInBounds 67 (Value.slice A3 m3 c3) = (idxCells s f (entC cnt ch) d A3 m3 c3).toArray) := set_way (entC_len hch) hd
  have iX := Lib.hid (idx_info s f cnt ch d hch hd A3 m3 c3)
  have v3 : Hid ((idxCells s f (entC cnt ch) d A3 n3 c3).toArray[67]? = some (.slice A3 n3 c3)) := by show _ = _; rw [List.getElem?_toArray]; exact idx_way (entC_len hch) hd
  have hcI := three_incl x1 y1 l1 m1 t1.1
  have hcC := three_cons x2 y2 l2 m2 t2.1
  have hcX : (∃ b, idxWant s f cnt ch d l3 = some b) ∨ idxWant s f cnt ch d l3 = none := by
    cases idxWant s f cnt ch d l3 with
    | none => exact .inr rfl
    | some b => exact .inl ⟨b, rfl⟩
  obtain ⟨wI, hwI⟩ : ∃ x, Hid (inclWant x1 y1 l1 = x) := ⟨_, Lib.hid rfl⟩
  obtain ⟨wC, hwC⟩ : ∃ x, Hid (consWant x2 y2 l2 = x) := ⟨_, Lib.hid rfl⟩
  obtain ⟨wX, hwX⟩ : ∃ x, Hid (idxWant s f cnt ch d l3 = x) := ⟨_, Lib.hid rfl⟩
  obtain ⟨eV1, heV1⟩ : ∃ x, Hid (inclE x1 y1 = x) := ⟨_, Lib.hid rfl⟩
  obtain ⟨eV2, heV2⟩ : ∃ x, Hid (consE x2 y2 = x) := ⟨_, Lib.hid rfl⟩
  obtain ⟨nV1, hnV1⟩ : ∃ x, Hid ((inclRows x1 y1).length = x) := ⟨_, Lib.hid rfl⟩
  obtain ⟨nV2, hnV2⟩ : ∃ x, Hid ((consRows x2 y2).length = x) := ⟨_, Lib.hid rfl⟩
  rw [hwI.out, heV1.out, hnV1.out] at hcI
  rw [hwC.out, heV2.out, hnV2.out] at hcC
  rw [hwX.out] at hcX
  rw [hwI.out] at hE1 hY1
  rw [hwC.out] at hE2 hY2
  rw [hwX.out] at hE3 hY3
  rw [heV1.out, hnV1.out] at hV1
  rw [heV2.out, hnV2.out] at hV2
  obtain ⟨cX, hcX1⟩ : ∃ x, Hid ((idxCells s f (entC cnt ch) d A3 n3 c3).toArray = x) := ⟨_, Lib.hid rfl⟩
  obtain ⟨dX, hdX1⟩ : ∃ x, Hid ((idxCells s f (entC cnt ch) d A3 m3 c3).toArray = x) := ⟨_, Lib.hid rfl⟩
  rw [hcX1.out] at hP0 k3 v3 ⊢
  rw [hdX1.out] at hE3 hY3 k3 iX
  clear hB hT hg r1 r2 r3 hr hnil hk h47 hs hch hd hc1 hc2 hc3 hl1 hl2 hl3 t1 t2 t3 hm1 hm2 hm3 hwI hwC hwX heV1 heV2 hnV1 hnV2 hcX1 hdX1
  have T0 : Hid (Three w (((w.alloc (.cells (inclCells x1 y1 A1 n1 c1) 51)).alloc (.cells (inclCells x2 y2 A2 n2 c2) 44)).alloc (.cells cX 55)) (inclCells x1 y1 A1 n1 c1) (inclCells x2 y2 A2 n2 c2) cX) := by
    refine ⟨hP0.out, ?_, ?_, (((Below.refl _ w).alloc (Nat.le_refl _) _).alloc (by simp) _).alloc (by simp; omega) _⟩
    · have := (Blk.new (w.alloc (.cells (inclCells x1 y1 A1 n1 c1) 51)) 44 (inclCells x2 y2 A2 n2 c2)).alloc (.cells cX 55)
      rwa [show (w.alloc (.cells (inclCells x1 y1 A1 n1 c1) 51)).heap.size = w.heap.size + 1 by simp] at this
    · have := Blk.new ((w.alloc (.cells (inclCells x1 y1 A1 n1 c1) 51)).alloc (.cells (inclCells x2 y2 A2 n2 c2) 44)) 55 cX
      rwa [show ((w.alloc (.cells (inclCells x1 y1 A1 n1 c1) 51)).alloc (.cells (inclCells x2 y2 A2 n2 c2) 44)).heap.size = w.heap.size + 2 by simp] at this
  rcases hcI with ⟨⟨bI, rfl⟩, rfl, rfl⟩ | ⟨rfl, rfl, hnI⟩ | ⟨rfl, rfl⟩ <;> rcases hcC with ⟨⟨bC, rfl⟩, rfl, rfl⟩ | ⟨rfl, rfl, hnC⟩ | ⟨rfl, rfl⟩ <;> rcases hcX with ⟨bX, rfl⟩ | rfl
  all_goals
    simp only [reduceCtorEq, ↓reduceIte] at hE1
    simp only [reduceCtorEq, ↓reduceIte] at hE2
    simp only [reduceCtorEq, ↓reduceIte] at hE3
    first | (have qI : ((nV1 : Int) == (m1 : Int)) = false := beq_eq_false_iff_ne.2 (by omega)) | skip
    first | (have qC : ((nV2 : Int) == (m2 : Int)) = false := beq_eq_false_iff_ne.2 (by omega)) | skip
    have d0 : (((w.alloc (.cells (inclCells x1 y1 A1 n1 c1) 51)).alloc (.cells (inclCells x2 y2 A2 n2 c2) 44)).alloc (.cells cX 55)).cell? ⟨w.heap.size, 2, none⟩ = some (.slice A1 n1 c1) := by rw [hP0.out.cell 2]; rfl
    have hmf : ∀ (fn : Fn) (first cap : Array Value) (w : World), (Instr.makeFunc fn first cap).run Tryd.prog w = .ok (.func fn first cap) w := fun _ _ _ _ => rfl
    go_enter Tryd.func4, Tryd.ntmps4
    go_wp2_with (first
      | (go_at_call 14; refine (hF1.out _ _ _ _ T0.out).mono ?_; rintro e w1 ⟨rfl, T1⟩; replace T1 := Lib.hid T1; have g1 : w1.cell? ⟨w.heap.size, 2, none⟩ = some (.slice A1 n1 c1) := (by rw [T1.out.p.cell 2]; rfl); have z1 : w1.frozen? ⟨w.heap.size, 2, none⟩ = false := T1.out.p.frozen 2; have U1 := Lib.hid (T1.out.set1 (incl_set x1 y1 A1 A1 n1 m1 c1 c1)); have g2 : (w1.setCell ⟨w.heap.size, 2, none⟩ (.slice A1 m1 c1)).cell? ⟨w.heap.size + 1, 2, none⟩ = some (.slice A2 n2 c2) := (by rw [U1.out.q.cell 2]; rfl); clear T0 T1 hF1)
      | (go_at_call 14; refine (hF2.out _ _ _ _ U1.out).mono ?_; rintro e w2 ⟨rfl, T2⟩; clear g1 g2 z1 U1 hF2; replace T2 := Lib.hid T2; have g1 : w2.cell? ⟨w.heap.size + 1, 2, none⟩ = some (.slice A2 n2 c2) := (by rw [T2.out.q.cell 2]; rfl); have z1 : w2.frozen? ⟨w.heap.size + 1, 2, none⟩ = false := T2.out.q.frozen 2; have U2 := Lib.hid (T2.out.set2 (incl_set x2 y2 A2 A2 n2 m2 c2 c2)); have g2 : (w2.setCell ⟨w.heap.size + 1, 2, none⟩ (.slice A2 m2 c2)).cell? ⟨w.heap.size + 1 + 1, 67, none⟩ = some (.slice A3 n3 c3) := (U2.out.x.cell 67).trans v3.out; clear T2)
      | (go_at_call 14; refine (hF3.out _ _ _ _ U2.out).mono ?_; rintro e w3 ⟨rfl, T3⟩; clear g1 g2 z1 U2 hF3; replace T3 := Lib.hid T3; have g1 : w3.cell? ⟨w.heap.size + 1 + 1, 67, none⟩ = some (.slice A3 n3 c3) := (T3.out.x.cell 67).trans v3.out; have z1 : w3.frozen? ⟨w.heap.size + 1 + 1, 67, none⟩ = false := T3.out.x.frozen 67; have U3 := Lib.hid (T3.out.set3 k3.out); clear T3)
      | ((with_reducible change wpList _ _ _ ({ dst := some 26, op := _, type := _, pos := _, after := _, guard := _ } :: _) _ _); refine wpList_load_row (o := ⟨some 26, _, _, _, _, _⟩) rfl 51 (.tmp 4) rfl (w.heap.size) rfl 51 (inclCells x1 y1 A1 m1 c1) (0, 0) _ U3.out.p Tryd.underlying51 rfl sizeI ?_)
      | (go_at_call 15; refine (hE1.out _ U3.out.b).mono ?_; rintro e w5 ⟨A5, c5, b5, rfl, hc5, r5, hw5, bb5⟩; replace hw5 := Lib.hid hw5; replace hc5 := Lib.hid hc5; replace r5 := Lib.hid r5; have bw : Hid (Below w.heap.size w w5) := U3.out.b.trans (bb5.mono U3.out.b.size); have P5 := onB U3.out.p bb5; have Q5 := onB U3.out.q bb5; have X5 := onB U3.out.x bb5; have hK : Hid (∀ w', Below w5.heap.size w5 w' → Blk w' w.heap.size 51 (inclCells x1 y1 A1 m1 c1) ∧ Blk w' (w.heap.size + 1) 44 (inclCells x2 y2 A2 m2 c2) ∧ Blk w' (w.heap.size + 2) 55 dX) := (fun w' hb => ⟨onB P5 hb, onB Q5 hb, onB X5 hb⟩); have b3 : Hid (Below w5.heap.size w5 w5) := Below.refl _ _; clear P5 Q5 X5 bb5 U3 g1 z1; have p0 : w5.cell? ⟨w.heap.size, 0, none⟩ = some (.int .i64 x1) := (by rw [(hK.out w5 b3.out).1.cell 0]; rfl); have p1 : w5.cell? ⟨w.heap.size, 1, none⟩ = some (.int .i64 y1) := (by rw [(hK.out w5 b3.out).1.cell 1]; rfl))
      | (go_at_call 16; refine (hV1.out _ bw.out).mono ?_; rintro e w6 ⟨A6, c6, rfl, bb6⟩; replace r5 := Lib.hid (r5.out.below bb6); replace b3 : Hid (Below w5.heap.size w5 w6) := b3.out.trans (bb6.mono b3.out.size); replace bw : Hid (Below w.heap.size w w6) := bw.out.trans (bb6.mono bw.out.size); have p2 : w6.cell? ⟨w.heap.size, 2, none⟩ = some (.slice A1 m1 c1) := (by rw [(hK.out w6 b3.out).1.cell 2]; rfl); have P := Lib.hid (hK.out w6 b3.out).2.1; clear bb6 p0 p1)
      | (go_at_call 18; refine (hY1.out _ b5 A5 c5 bw.out (hK.out _ b3.out).1 (hw5.out (by trivial)) hc5.out r5.out).mono ?_; rintro e w7 ⟨rfl, bb7⟩; replace b3 : Hid (Below w5.heap.size w5 w7) := b3.out.trans (bb7.mono b3.out.size); replace bw : Hid (Below w.heap.size w w7) := bw.out.trans (bb7.mono bw.out.size); replace P := Lib.hid (hK.out w7 b3.out).2.1; clear bb7 hY1)
      | ((with_reducible change wpList _ _ _ ({ dst := some 60, op := _, type := _, pos := _, after := _, guard := _ } :: _) _ _); refine wpList_load_row (o := ⟨some 60, _, _, _, _, _⟩) rfl 44 (.tmp 5) rfl (w.heap.size + 1) rfl 44 (inclCells x2 y2 A2 m2 c2) (0, 0) _ P.out Tryd.underlying44 rfl sizeC ?_)
      | (go_at_call 22; refine (hE2.out _ bw.out).mono ?_; rintro e w8 ⟨A8, c8, b8, rfl, hc8, r8, hw8, bb8⟩; replace hw8 := Lib.hid hw8; replace hc8 := Lib.hid hc8; replace r8 := Lib.hid r8; replace b3 : Hid (Below w5.heap.size w5 w8) := b3.out.trans (bb8.mono b3.out.size); replace bw : Hid (Below w.heap.size w w8) := bw.out.trans (bb8.mono bw.out.size); have p0 : w8.cell? ⟨w.heap.size + 1, 0, none⟩ = some (.int .i64 x2) := (by rw [(hK.out w8 b3.out).2.1.cell 0]; rfl); have p1 : w8.cell? ⟨w.heap.size + 1, 1, none⟩ = some (.int .i64 y2) := (by rw [(hK.out w8 b3.out).2.1.cell 1]; rfl); clear bb8 P)
      | (go_at_call 23; refine (hV2.out _ bw.out).mono ?_; rintro e w9 ⟨A9, c9, rfl, bb9⟩; replace r8 := Lib.hid (r8.out.below bb9); replace b3 : Hid (Below w5.heap.size w5 w9) := b3.out.trans (bb9.mono b3.out.size); replace bw : Hid (Below w.heap.size w w9) := bw.out.trans (bb9.mono bw.out.size); have p2 : w9.cell? ⟨w.heap.size + 1, 2, none⟩ = some (.slice A2 m2 c2) := (by rw [(hK.out w9 b3.out).2.1.cell 2]; rfl); have P := Lib.hid (hK.out w9 b3.out).2.2; clear bb9 p0 p1)
      | (go_at_call 18; refine (hY2.out _ b8 A8 c8 bw.out (hK.out _ b3.out).2.1 (hw8.out (by trivial)) hc8.out r8.out).mono ?_; rintro e w10 ⟨rfl, bb10⟩; replace b3 : Hid (Below w5.heap.size w5 w10) := b3.out.trans (bb10.mono b3.out.size); replace bw : Hid (Below w.heap.size w w10) := bw.out.trans (bb10.mono bw.out.size); replace P := Lib.hid (hK.out w10 b3.out).2.2; clear bb10 hY2)
      | ((with_reducible change wpList _ _ _ ({ dst := some 94, op := _, type := _, pos := _, after := _, guard := _ } :: _) _ _); refine wpList_load_row (o := ⟨some 94, _, _, _, _, _⟩) rfl 55 (.tmp 6) rfl (w.heap.size + 2) rfl 55 (dX) (0, 0) _ P.out Tryd.underlying55 rfl iX.out ?_)
      | (go_at_call 27; refine (hE3.out _ bw.out).mono ?_; rintro e w11 ⟨A11, c11, b11, rfl, hc11, r11, hw11, bb11⟩; replace hw11 := Lib.hid hw11; replace hc11 := Lib.hid hc11; replace r11 := Lib.hid r11; replace b3 : Hid (Below w5.heap.size w5 w11) := b3.out.trans (bb11.mono b3.out.size); replace bw : Hid (Below w.heap.size w w11) := bw.out.trans (bb11.mono bw.out.size); clear bb11 P)
      | (go_at_call 18; refine (hY3.out _ b11 A11 c11 bw.out (hK.out _ b3.out).2.2 (hw11.out (by trivial)) hc11.out r11.out).mono ?_; rintro e w12 ⟨rfl, bb12⟩; replace b3 : Hid (Below w5.heap.size w5 w12) := b3.out.trans (bb12.mono b3.out.size); replace bw : Hid (Below w.heap.size w w12) := bw.out.trans (bb12.mono bw.out.size); clear bb12 hY3)
      | (go_at_call 31; refine (hAg.out _ bw.out).mono ?_; rintro e w13 ⟨rfl, bb13⟩; replace b3 : Hid (Below w5.heap.size w5 w13) := b3.out.trans (bb13.mono b3.out.size); replace bw : Hid (Below w.heap.size w w13) := bw.out.trans (bb13.mono bw.out.size); clear bb13))
    go_ret
    exact ⟨rfl, bw.out⟩
end Go.Proofs.YtgldkfaiofkhbaaDoor.ProofSpelt
