/-
  docketlaw17.readsInclusion, walked (printed by wip/gen_law17b.py).
-/
import Derived.Test.YtngieimjlkpkaaaLaw17a
namespace Go.Proofs.Ytngieimjlkpkaaa.Law17b
open Go Go.RowKit Go.Proofs.Ytngieimjlkpkaaa Go.Proofs.Ytngieimjlkpkaaa.Mem Go.Proofs.Ytngieimjlkpkaaa.Sha Go.Proofs.Ytngieimjlkpkaaa.Bytes Go.Proofs.Ytngieimjlkpkaaa.TreeMem Go.Proofs.Ytngieimjlkpkaaa.TreeRoot Go.Proofs.Ytngieimjlkpkaaa.Held Go.Proofs.Ytngieimjlkpkaaa.Guard Go.Proofs.Ytngieimjlkpkaaa.Ref17 Go.Proofs.Ytngieimjlkpkaaa.DecIncl Go.Proofs.Ytngieimjlkpkaaa.DecIncl2 Go.Proofs.Ytngieimjlkpkaaa.ReadIncl2 Go.Proofs.Ytngieimjlkpkaaa.Book8 Go.Proofs.Ytngieimjlkpkaaa.Law17a

theorem _root_.Go.Proofs.Ytngieimjlkpkaaa.Mem.Blk.onw {w w' : World} {g : Nat} {t : TypeId} {cs : Array Value} (h : Blk w g t cs) (hb : Below w.heap.size w w') : Blk w' g t cs := (hb.block g h.lt).trans h
set_option maxRecDepth 100000 in
set_option maxHeartbeats 1000000 in
theorem readsIncl_any (q : Text) (k : Nat) (hk : q.length = k) (hk47 : k < 140737488355328) (A : Option Addr) (c : Nat) (hkc : k ≤ c) (w : World) (hr : Reads w 1 A k (cells8 q)) (hnil : A = none → k = 0 ∧ c = 0) :
    Calls Try.prog 19 #[.slice A k c] w fun e w' => e = .returned (.bool true) ∧ Below w.heap.size w w' := by
  have hRo := Lib.hid (roomy8_any q k hk hk47 165 165 rfl A c w hr)
  have hDe := Lib.hid (fun g w' (h : Reads w' 1 (some ⟨g, 0, none⟩) k (cells8 q)) => decodeInclusion_any q k hk (some ⟨g, 0, none⟩) (k + 80) w' h (fun e => by cases e))
  have hRe := Lib.hid (fun w' (h : Below w.heap.size w w') => readInclusion_any q k hk A c hkc w' (hr.below h) hnil)
  have hIn := Lib.hid (fun g w' (h : RoomB w' g q 165) (hb : Below w.heap.size w w') => intact8_any q k hk hk47 165 165 rfl g A c w' h (hr.below hb))
  have hGr : Hid (∀ g w', RoomB w' g q 165 → Reads w' 1 (some ⟨g, 0, none⟩) k (cells8 q)) := fun g w' h => by have := h.reads; rwa [hk] at this
  obtain ⟨⟨x1, x2, l, err⟩, hX⟩ : ∃ X, decAns q = X := ⟨_, rfl⟩
  have hD2 : Hid (∀ g w', Reads w' 1 (some ⟨g, 0, none⟩) k (cells8 q) → Calls Try.prog 43 #[.slice (some ⟨g, 0, none⟩) k (k + 80)] w' fun e w'' => ∃ A1 c1, e = .returned (.tuple #[.agg #[.int .i64 x1, .int .i64 x2, .slice A1 l.length c1], .int .i64 err]) ∧ RdD w'' A1 l.length l ∧ l.length ≤ 40 ∧ Below w'.heap.size w' w'') := fun g w' h => by
    have := hDe.out g w' h
    rw [hX] at this
    refine this.mono ?_
    rintro e w'' ⟨A1, n1, c1, rfl, hl, -, -, h40, hb⟩
    obtain rfl := hl.1
    exact ⟨A1, c1, rfl, hl, h40, hb⟩
  have hR2 : Hid (∀ w', Below w.heap.size w w' → Calls Try.prog 44 #[.slice A k c] w' fun e w'' => ∃ A1 c1, e = .returned (.tuple #[.agg #[.int .i64 x1, .int .i64 x2, .slice A1 l.length c1], .int .i64 err]) ∧ RdD w'' A1 l.length l ∧ Below w'.heap.size w' w'') := fun w' h => by
    have := hRe.out w' h
    rw [hX] at this
    refine this.mono ?_
    rintro e w'' ⟨A1, n1, c1, rfl, hl, -, -, h40, hb⟩
    obtain rfl := hl.1
    exact ⟨A1, c1, rfl, hl, hb⟩
  have X : ∀ g w', (Instr.sliceAt 23 (.slice (some ⟨g, 0, none⟩) (k + 80) (k + 80)) none (some (.int .i64 (k : Int))) none).run Try.prog w' = .ok (.slice (some ⟨g, 0, none⟩) k (k + 80)) w' := fun g => run_headOf (m := k) Try.underlying23 (fun _ => rfl) (by omega) _ rfl
  replace X := Lib.hid X
  have e1 : (err == err) = true := beq_self_eq_true _
  clear hX hDe hRe hk hk47 hkc hr hnil
  go_enter Try.func19, Try.ntmps19
  go_wp2_with fail
  refine hRo.out.mono ?_
  rintro e w1 ⟨g, rfl, -, hG, hb⟩
  replace hG := Lib.hid hG
  replace hb := Lib.hid hb
  have Xg := X.out g
  clear hRo X
  go_wp2_with fail
  refine (hD2.out g w1 (hGr.out g w1 hG.out)).mono ?_
  rintro e w2 ⟨A1, c1, rfl, hl1, h40, hk1⟩
  replace hb := Lib.hid (hb.out.trans (hk1.mono hb.out.size))
  replace hG : Hid (RoomB w2 g q 165) := hG.out.below hk1 (Tab.lt hG.out)
  replace hl1 := Lib.hid hl1
  have hl47 : Hid (l.length < 140737488355328) := by show _ < _; omega
  clear hk1 h40 hD2
  go_wp2_with ((with_reducible change wpList _ _ _ ({ dst := none, op := Op.store 34 (.tmp 4) _, type := _, pos := _, after := _, guard := _ } :: _) _ _); refine wpList_store_whole (o := ⟨none, _, _, _, _, _⟩) rfl 34 (.tmp 4) (.tmp 16) rfl (w2.heap.size) (#[Value.int .i64 x1, Value.int .i64 x2, Value.slice A1 l.length c1]) rfl rfl 34 (#[Value.int .i64 0, Value.int .i64 0, Value.slice none 0 0]) (Blk.new w2 _ _) sizeI rfl (oneI _ _ _ _ _) ?_; intro w3 hB4 hkx; have hk1 := kept_fresh hkx; replace hb := Lib.hid (hb.out.trans (hk1.mono hb.out.size)); replace hG : Hid (RoomB w3 g q 165) := hG.out.below hk1 (Tab.lt hG.out); replace hl1 := Lib.hid (hl1.out.below hk1); replace hB4 := Lib.hid hB4; clear hk1 hkx; generalize w2.heap.size = g4 at *)
  refine (hR2.out w3 hb.out).mono ?_
  rintro e w4 ⟨A2, c2, rfl, hl2, hk1⟩
  replace hb := Lib.hid (hb.out.trans (hk1.mono hb.out.size))
  replace hG : Hid (RoomB w4 g q 165) := hG.out.below hk1 (Tab.lt hG.out)
  replace hl1 := Lib.hid (hl1.out.below hk1)
  replace hB4 := Lib.hid (Blk.onw hB4.out hk1)
  replace hl2 := Lib.hid hl2
  clear hk1 hR2
  go_wp2_with (first
    | ((with_reducible change wpList _ _ _ ({ dst := none, op := Op.store 34 (.tmp 6) _, type := _, pos := _, after := _, guard := _ } :: _) _ _); refine wpList_store_whole (o := ⟨none, _, _, _, _, _⟩) rfl 34 (.tmp 6) (.tmp 21) rfl (w4.heap.size) (#[Value.int .i64 x1, Value.int .i64 x2, Value.slice A2 l.length c2]) rfl rfl 34 (#[Value.int .i64 0, Value.int .i64 0, Value.slice none 0 0]) (Blk.new w4 _ _) sizeI rfl (oneI _ _ _ _ _) ?_; intro w5 hB6 hkx; have hk1 := kept_fresh hkx; replace hb := Lib.hid (hb.out.trans (hk1.mono hb.out.size)); replace hG : Hid (RoomB w5 g q 165) := hG.out.below hk1 (Tab.lt hG.out); replace hl1 := Lib.hid (hl1.out.below hk1); replace hl2 := Lib.hid (hl2.out.below hk1); replace hB4 := Lib.hid (Blk.onw hB4.out hk1); replace hB6 := Lib.hid hB6; clear hk1 hkx; generalize w4.heap.size = g6 at *)
    | ((with_reducible change wpList _ _ _ ({ dst := some 27, op := _, type := _, pos := _, after := _, guard := _ } :: _) _ _); refine wpList_load_rowG (o := ⟨some 27, _, _, _, _, _⟩) rfl 34 (.tmp 4) rfl (g4) rfl 34 (#[Value.int .i64 x1, Value.int .i64 x2, Value.slice A1 l.length c1]) (0, 0) _ hB4.out Try.underlying34 rfl sizeI ?_)
    | ((with_reducible change wpList _ _ _ ({ dst := some 28, op := _, type := _, pos := _, after := _, guard := _ } :: _) _ _); refine wpList_load_rowG (o := ⟨some 28, _, _, _, _, _⟩) rfl 34 (.tmp 6) rfl (g6) rfl 34 (#[Value.int .i64 x1, Value.int .i64 x2, Value.slice A2 l.length c2]) (0, 0) _ hB6.out Try.underlying34 rfl sizeI ?_))
  refine (sameIncl_yes x1 x2 l l.length hl47.out A1 A2 c1 c2 w5 hl1.out hl2.out).mono ?_
  rintro e w6 ⟨rfl, hk1⟩
  replace hb := Lib.hid (hb.out.trans (hk1.mono hb.out.size))
  replace hG : Hid (RoomB w6 g q 165) := hG.out.below hk1 (Tab.lt hG.out)
  clear hk1
  go_wp2_with fail
  refine (hIn.out g w6 hG.out hb.out).mono ?_
  rintro e w7 ⟨rfl, m, rfl⟩
  go_wp2_with fail
  go_ret
  exact ⟨rfl, below_drawn hb.out m⟩
end Go.Proofs.Ytngieimjlkpkaaa.Law17b
