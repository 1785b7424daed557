/-
  Texts of the claim, put into one file: TwoEv, TwoEvAny.
-/
import Derived.Test.YtgldkfaiofkhbaaGreatDoorZ42
import Derived.Test.YtgldkfaiofkhbaaGreatDoorZ44

namespace Go.Proofs.YtgldkfaiofkhbaaGreatDoor.TwoEv
open Go Go.RowKit Go.Proofs.YtgldkfaiofkhbaaGreatDoor Mem Sha Bytes HashMem DigestMem TreeMem TreeRoot Go.Proofs.YtgldkfaiofkhbaaGreatDoor.Append Held Guard Chain ProofEnc Ref17 TwiceP Clash RowsY Extract Book AudIncl Way20 TwoEvP Included

def TPost (w : World) (s : Int) (want : Bool) (ts : List Text) (e : Ending) (w' : World) : Prop :=
 Below w.heap.size w w' ∧ ((want = false ∧ e = .returned (.tuple #[.agg #[Value.slice none 0 0, Value.slice none 0 0], .bool false])) ∨
  (want = true ∧ ∃ va vb p q, e = .returned (.tuple #[.agg #[va, vb], .bool true]) ∧ p ∈ ts ∧ q ∈ ts ∧ p ≠ q ∧ sumOf s p = sumOf s q ∧ w'.ownsRow w.heap.size 5 1 va p.length (cells8 p) ∧ w'.ownsRow w.heap.size 5 1 vb q.length (cells8 q)))
theorem TPost.no {w w' : World} {s : Int} {ts : List Text} {e : Ending} (h : e = .returned (.tuple #[.agg #[Value.slice none 0 0, Value.slice none 0 0], .bool false])) (hb : Below w.heap.size w w') : TPost w s false ts e w' := ⟨hb, .inl ⟨rfl, h⟩⟩
theorem fold_at : ∀ (xs old pre post : List Value) (k : Nat) (o : Nat), pre.length = o + k → old.length = xs.length → (xs.zipIdx k).foldl (fun (cs : Array Value) (x : Value × Nat) => cs.setIfInBounds (o + x.2) x.1) (pre ++ old ++ post).toArray = (pre ++ xs ++ post).toArray
 | [], old, pre, post, k, o, hp, ho => by
  have : old = [] := List.eq_nil_of_length_eq_zero ho
  subst this
  rfl
 | x :: xs, y :: old, pre, post, k, o, hp, ho => by
  rw [List.zipIdx_cons, List.foldl_cons]
  have e : ((pre ++ (y :: old) ++ post).toArray).setIfInBounds (o + k) x = ((pre ++ [x]) ++ old ++ post).toArray := by
   rw [List.setIfInBounds_toArray, List.append_assoc, List.set_append_right _ _ (by omega), hp, Nat.sub_self]
   simp
  show List.foldl _ (Array.setIfInBounds _ (o + k) x) _ = _
  rw [e, fold_at xs old (pre ++ [x]) post (k + 1) o (by rw [List.length_append, List.length_singleton]; omega) (by simpa using ho)]
  simp
 | x :: xs, [], _, _, _, _, _, ho => by simp at ho
theorem build_inc (s : Int) (root : Text) (h : root.length = 32) (A : Option Addr) (k c : Nat) (x1 x2 : Int) (A2 : Option Addr) (n c2 : Nat) : (((((cells8 root).zipIdx.foldl (fun (cs : Array Value) (x : Value × Nat) => cs.setIfInBounds (1 + x.2) x.1) (Value.int .i64 s :: Value.int .u8 0 :: Value.int .u8 0 :: Value.int .u8 0 :: Value.int .u8 0 :: Value.int .u8 0 :: Value.int .u8 0 :: Value.int .u8 0 :: Value.int .u8 0 :: Value.int .u8 0 :: Value.int .u8 0 :: Value.int .u8 0 :: Value.int .u8 0 :: Value.int .u8 0 :: Value.int .u8 0 :: Value.int .u8 0 :: Value.int .u8 0 :: Value.int .u8 0 :: Value.int .u8 0 :: Value.int .u8 0 :: Value.int .u8 0 :: Value.int .u8 0 :: Value.int .u8 0 :: Value.int .u8 0 :: Value.int .u8 0 :: Value.int .u8 0 :: Value.int .u8 0 :: Value.int .u8 0 :: Value.int .u8 0 :: Value.int .u8 0 :: Value.int .u8 0 :: Value.int .u8 0 :: Value.int .u8 0 :: Value.slice none 0 0 :: Value.int .i64 0 :: Value.int .i64 0 :: Value.slice none 0 0 :: []).toArray).setIfInBounds 33 (.slice A k c)).setIfInBounds 34 (.int .i64 x1)).setIfInBounds 35 (.int .i64 x2)).setIfInBounds 36 (.slice A2 n c2) = (incV s root A k c x1 x2 A2 n c2).toArray := by
 have hl : ([Value.int .i64 s] ++ cells8 root).length = 33 := by simp [cells8_len, h]
 have := fold_at (cells8 root) (List.replicate 32 (.int .u8 0)) [.int .i64 s] [.slice none 0 0, .int .i64 0, .int .i64 0, .slice none 0 0] 0 1 rfl (by simp [cells8_len, h])
 refine Eq.trans (congrArg (fun z : Array Value => (((z.setIfInBounds 33 (.slice A k c)).setIfInBounds 34 (.int .i64 x1)).setIfInBounds 35 (.int .i64 x2)).setIfInBounds 36 (.slice A2 n c2)) this) ?_
 simp only [List.setIfInBounds_toArray]
 congr 1
 rw [List.set_append_right _ _ (by omega), List.set_append_right _ _ (by omega), List.set_append_right _ _ (by omega), List.set_append_right _ _ (by omega), hl]
 rfl
theorem fold_size (s : Int) (root : Text) (h : root.length = 32) : ((cells8 root).zipIdx.foldl (fun (cs : Array Value) (x : Value × Nat) => cs.setIfInBounds (1 + x.2) x.1) (Value.int .i64 s :: Value.int .u8 0 :: Value.int .u8 0 :: Value.int .u8 0 :: Value.int .u8 0 :: Value.int .u8 0 :: Value.int .u8 0 :: Value.int .u8 0 :: Value.int .u8 0 :: Value.int .u8 0 :: Value.int .u8 0 :: Value.int .u8 0 :: Value.int .u8 0 :: Value.int .u8 0 :: Value.int .u8 0 :: Value.int .u8 0 :: Value.int .u8 0 :: Value.int .u8 0 :: Value.int .u8 0 :: Value.int .u8 0 :: Value.int .u8 0 :: Value.int .u8 0 :: Value.int .u8 0 :: Value.int .u8 0 :: Value.int .u8 0 :: Value.int .u8 0 :: Value.int .u8 0 :: Value.int .u8 0 :: Value.int .u8 0 :: Value.int .u8 0 :: Value.int .u8 0 :: Value.int .u8 0 :: Value.int .u8 0 :: Value.slice none 0 0 :: Value.int .i64 0 :: Value.int .i64 0 :: Value.slice none 0 0 :: []).toArray).size = 37 := by
 have := fold_at (cells8 root) (List.replicate 32 (.int .u8 0)) [.int .i64 s] [.slice none 0 0, .int .i64 0, .int .i64 0, .slice none 0 0] 0 1 rfl (by simp [cells8_len, h])
 refine Eq.trans (congrArg Array.size this) ?_
 simp [cells8_len, h]
def evAns (s : Int) (root ev : Text) (A : Option Addr) (k c : Nat) (x1 x2 : Int) (ds : List Text) (A2 : Option Addr) (n c2 : Nat) : Ans := ⟨155, .agg (incV s root A k c x1 x2 A2 n c2).toArray, audIncl s root ev x1 x2 ds == 0, evTexts s ev x1 x2 ds⟩
set_option maxRecDepth 100000 in
theorem evAns_ok (s : Int) (root : Text) (hrt : root.length = 32) (ev : Text) (k : Nat) (hk : ev.length = k) (hk47 : k < 140737488355327) (A : Option Addr) (c : Nat) (hkc : k ≤ c) (hnil : A = none → k = 0 ∧ c = 0) (x1 x2 : Int) (ds : List Text) (A2 : Option Addr) (n c2 : Nat) (hn : n ≤ 300) (w : World) (hB : Base w) (hr : Reads w 1 A k (cells8 ev)) (hrd : RdD w A2 n ds) : AnsOk w (evAns s root ev A k c x1 x2 ds A2 n c2) := by
 have hpos : (audIncl s root ev x1 x2 ds == 0) = true → 0 < k := fun h => by
  rcases Nat.eq_zero_or_pos k with h0 | h0
  ·rw [audIncl_short (by omega)] at h
   cases h
  ·exact h0
 have hxt := inclOf_texts s x1 x2 (leafOf s ev) ds (by rw [leaf_sum]; exact sumOf_len _ _) hrd.2.1
 refine ⟨⟨315, fun F w' e => by subst e; kernel_rfl, fun w' => by kernel_rfl, fun w' hb => taken_any s root hrt ev k hk (by omega) A c hkc hnil x1 x2 ds A2 n c2 (by omega) w' (hB.below hb hB.1) (hr.below hb) (hrd.below hb)⟩, fun htk => ⟨316, fun F w' e => by subst e; kernel_rfl, fun w' => by kernel_rfl, fun w' hb => texts_any s root hrt ev k hk (hpos htk) hk47 A c hkc hnil x1 x2 ds A2 n c2 (by omega) w' (hB.below hb hB.1) (hr.below hb) (hrd.below hb)⟩, fun _ q hq => ?_, fun _ => ?_⟩
 ·rcases List.mem_cons.1 hq with h | h
  ·rw [h]; exact ⟨Nat.succ_pos _, by simp; omega⟩
  ·rw [hxt.2 q h]; exact ⟨by decide, by decide⟩
 ·show (evTexts s ev x1 x2 ds).length ≤ 1000
  have := hrd.1
  unfold evTexts
  rw [List.length_cons]
  omega
section
variable (s : Int) (root : Text) (e f : Text) (k l : Nat) (A B : Option Addr) (c d : Nat) (x1 x2 y1 y2 : Int) (A2 B2 : Option Addr) (n c2 m d2 : Nat) (w : World)
set_option maxRecDepth 100000 in
set_option maxHeartbeats 1000000 in
theorem no_size (ts : List Text) (h1 : ¬ x1 = y1) : Calls Tryz.prog 22 #[.int .i64 s, .agg (cells8 root).toArray, .slice A k c, .agg (inclCells x1 x2 A2 n c2), .slice B l d, .agg (inclCells y1 y2 B2 m d2)] w (TPost w s false ts) := by
 unfold inclCells
 have hb1 : Hid (Below w.heap.size w ((((w.alloc (.cells (cells8 root).toArray 23)).alloc (.cells #[Value.int .i64 x1, Value.int .i64 x2, Value.slice A2 n c2] 48)).alloc (.cells #[Value.int .i64 y1, Value.int .i64 y2, Value.slice B2 m d2] 48)).alloc (.cells #[Value.slice none 0 0, Value.slice none 0 0] 77))) := ((((Below.refl _ w).alloc (Nat.le_refl _) _).alloc (by simp) _).alloc (by simp; omega) _).alloc (by simp; omega) _
 have hs3 : (((w.alloc (.cells (cells8 root).toArray 23)).alloc (.cells #[Value.int .i64 x1, Value.int .i64 x2, Value.slice A2 n c2] 48)).alloc (.cells #[Value.int .i64 y1, Value.int .i64 y2, Value.slice B2 m d2] 48)).heap.size = w.heap.size + 3 := by simp
 have hs2 : ((w.alloc (.cells (cells8 root).toArray 23)).alloc (.cells #[Value.int .i64 x1, Value.int .i64 x2, Value.slice A2 n c2] 48)).heap.size = w.heap.size + 2 := by simp
 have hs1 : (w.alloc (.cells (cells8 root).toArray 23)).heap.size = w.heap.size + 1 := by simp
 have hX1 : Hid (Blk ((((w.alloc (.cells (cells8 root).toArray 23)).alloc (.cells #[Value.int .i64 x1, Value.int .i64 x2, Value.slice A2 n c2] 48)).alloc (.cells #[Value.int .i64 y1, Value.int .i64 y2, Value.slice B2 m d2] 48)).alloc (.cells #[Value.slice none 0 0, Value.slice none 0 0] 77)) (w.heap.size + 3) 77 #[Value.slice none 0 0, Value.slice none 0 0]) := by
  have := Blk.new (((w.alloc (.cells (cells8 root).toArray 23)).alloc (.cells #[Value.int .i64 x1, Value.int .i64 x2, Value.slice A2 n c2] 48)).alloc (.cells #[Value.int .i64 y1, Value.int .i64 y2, Value.slice B2 m d2] 48)) 77 #[Value.slice none 0 0, Value.slice none 0 0]
  rwa [hs3] at this
 have hQ1 : Hid (Blk ((((w.alloc (.cells (cells8 root).toArray 23)).alloc (.cells #[Value.int .i64 x1, Value.int .i64 x2, Value.slice A2 n c2] 48)).alloc (.cells #[Value.int .i64 y1, Value.int .i64 y2, Value.slice B2 m d2] 48)).alloc (.cells #[Value.slice none 0 0, Value.slice none 0 0] 77)) (w.heap.size + 2) 48 #[Value.int .i64 y1, Value.int .i64 y2, Value.slice B2 m d2]) := by
  have := Blk.new ((w.alloc (.cells (cells8 root).toArray 23)).alloc (.cells #[Value.int .i64 x1, Value.int .i64 x2, Value.slice A2 n c2] 48)) 48 #[Value.int .i64 y1, Value.int .i64 y2, Value.slice B2 m d2]
  rw [hs2] at this
  exact this.alloc _
 have hP1 : Hid (Blk ((((w.alloc (.cells (cells8 root).toArray 23)).alloc (.cells #[Value.int .i64 x1, Value.int .i64 x2, Value.slice A2 n c2] 48)).alloc (.cells #[Value.int .i64 y1, Value.int .i64 y2, Value.slice B2 m d2] 48)).alloc (.cells #[Value.slice none 0 0, Value.slice none 0 0] 77)) (w.heap.size + 1) 48 #[Value.int .i64 x1, Value.int .i64 x2, Value.slice A2 n c2]) := by
  have := Blk.new (w.alloc (.cells (cells8 root).toArray 23)) 48 #[Value.int .i64 x1, Value.int .i64 x2, Value.slice A2 n c2]
  rw [hs1] at this
  exact (this.alloc _).alloc _
 have hR1 : Hid (Blk ((((w.alloc (.cells (cells8 root).toArray 23)).alloc (.cells #[Value.int .i64 x1, Value.int .i64 x2, Value.slice A2 n c2] 48)).alloc (.cells #[Value.int .i64 y1, Value.int .i64 y2, Value.slice B2 m d2] 48)).alloc (.cells #[Value.slice none 0 0, Value.slice none 0 0] 77)) w.heap.size 23 (cells8 root).toArray) := (((Blk.new w _ _).alloc _).alloc _).alloc _
 clear hs1 hs2 hs3
 go_enter Tryz.func22, Tryz.ntmps22
 go_wp2_with ((with_reducible change wpList _ _ _ ({ dst := none, op := Op.store 77 _ _, type := _, pos := _, after := _, guard := _ } :: _) _ _); refine wpList_store_row (o := ⟨none, _, _, _, _, _⟩) rfl 77 (.tmp 12) (.tmp 31) rfl (w.heap.size + 3) (#[Value.slice none 0 0, Value.slice none 0 0]) rfl rfl 77 (#[Value.slice none 0 0, Value.slice none 0 0]) hX1.out sizeE2 rfl oneZ2 ?_)
 refine bodyPost_ret (results_cell_row2 rfl _ _ (w.heap.size + 3) 77 #[Value.slice none 0 0, Value.slice none 0 0] (0, 0) _ rfl (setRow_heap _ _ _ _ _ _ hX1.out) Tryz.underlying77 rfl sizeE2) rfl ?_
 exact TPost.no rfl (below_setRow hb1.out (by omega) _)
set_option maxRecDepth 100000 in
set_option maxHeartbeats 1000000 in
theorem no_num (ts : List Text) (h1 : x1 = y1) (h2 : ¬ x2 = y2) : Calls Tryz.prog 22 #[.int .i64 s, .agg (cells8 root).toArray, .slice A k c, .agg (inclCells x1 x2 A2 n c2), .slice B l d, .agg (inclCells y1 y2 B2 m d2)] w (TPost w s false ts) := by
 unfold inclCells
 have hb1 : Hid (Below w.heap.size w ((((w.alloc (.cells (cells8 root).toArray 23)).alloc (.cells #[Value.int .i64 x1, Value.int .i64 x2, Value.slice A2 n c2] 48)).alloc (.cells #[Value.int .i64 y1, Value.int .i64 y2, Value.slice B2 m d2] 48)).alloc (.cells #[Value.slice none 0 0, Value.slice none 0 0] 77))) := ((((Below.refl _ w).alloc (Nat.le_refl _) _).alloc (by simp) _).alloc (by simp; omega) _).alloc (by simp; omega) _
 have hs3 : (((w.alloc (.cells (cells8 root).toArray 23)).alloc (.cells #[Value.int .i64 x1, Value.int .i64 x2, Value.slice A2 n c2] 48)).alloc (.cells #[Value.int .i64 y1, Value.int .i64 y2, Value.slice B2 m d2] 48)).heap.size = w.heap.size + 3 := by simp
 have hs2 : ((w.alloc (.cells (cells8 root).toArray 23)).alloc (.cells #[Value.int .i64 x1, Value.int .i64 x2, Value.slice A2 n c2] 48)).heap.size = w.heap.size + 2 := by simp
 have hs1 : (w.alloc (.cells (cells8 root).toArray 23)).heap.size = w.heap.size + 1 := by simp
 have hX1 : Hid (Blk ((((w.alloc (.cells (cells8 root).toArray 23)).alloc (.cells #[Value.int .i64 x1, Value.int .i64 x2, Value.slice A2 n c2] 48)).alloc (.cells #[Value.int .i64 y1, Value.int .i64 y2, Value.slice B2 m d2] 48)).alloc (.cells #[Value.slice none 0 0, Value.slice none 0 0] 77)) (w.heap.size + 3) 77 #[Value.slice none 0 0, Value.slice none 0 0]) := by
  have := Blk.new (((w.alloc (.cells (cells8 root).toArray 23)).alloc (.cells #[Value.int .i64 x1, Value.int .i64 x2, Value.slice A2 n c2] 48)).alloc (.cells #[Value.int .i64 y1, Value.int .i64 y2, Value.slice B2 m d2] 48)) 77 #[Value.slice none 0 0, Value.slice none 0 0]
  rwa [hs3] at this
 have hQ1 : Hid (Blk ((((w.alloc (.cells (cells8 root).toArray 23)).alloc (.cells #[Value.int .i64 x1, Value.int .i64 x2, Value.slice A2 n c2] 48)).alloc (.cells #[Value.int .i64 y1, Value.int .i64 y2, Value.slice B2 m d2] 48)).alloc (.cells #[Value.slice none 0 0, Value.slice none 0 0] 77)) (w.heap.size + 2) 48 #[Value.int .i64 y1, Value.int .i64 y2, Value.slice B2 m d2]) := by
  have := Blk.new ((w.alloc (.cells (cells8 root).toArray 23)).alloc (.cells #[Value.int .i64 x1, Value.int .i64 x2, Value.slice A2 n c2] 48)) 48 #[Value.int .i64 y1, Value.int .i64 y2, Value.slice B2 m d2]
  rw [hs2] at this
  exact this.alloc _
 have hP1 : Hid (Blk ((((w.alloc (.cells (cells8 root).toArray 23)).alloc (.cells #[Value.int .i64 x1, Value.int .i64 x2, Value.slice A2 n c2] 48)).alloc (.cells #[Value.int .i64 y1, Value.int .i64 y2, Value.slice B2 m d2] 48)).alloc (.cells #[Value.slice none 0 0, Value.slice none 0 0] 77)) (w.heap.size + 1) 48 #[Value.int .i64 x1, Value.int .i64 x2, Value.slice A2 n c2]) := by
  have := Blk.new (w.alloc (.cells (cells8 root).toArray 23)) 48 #[Value.int .i64 x1, Value.int .i64 x2, Value.slice A2 n c2]
  rw [hs1] at this
  exact (this.alloc _).alloc _
 have hR1 : Hid (Blk ((((w.alloc (.cells (cells8 root).toArray 23)).alloc (.cells #[Value.int .i64 x1, Value.int .i64 x2, Value.slice A2 n c2] 48)).alloc (.cells #[Value.int .i64 y1, Value.int .i64 y2, Value.slice B2 m d2] 48)).alloc (.cells #[Value.slice none 0 0, Value.slice none 0 0] 77)) w.heap.size 23 (cells8 root).toArray) := (((Blk.new w _ _).alloc _).alloc _).alloc _
 clear hs1 hs2 hs3
 subst h1
 go_enter Tryz.func22, Tryz.ntmps22
 go_wp2_with ((with_reducible change wpList _ _ _ ({ dst := none, op := Op.store 77 _ _, type := _, pos := _, after := _, guard := _ } :: _) _ _); refine wpList_store_row (o := ⟨none, _, _, _, _, _⟩) rfl 77 (.tmp 12) (.tmp 31) rfl (w.heap.size + 3) (#[Value.slice none 0 0, Value.slice none 0 0]) rfl rfl 77 (#[Value.slice none 0 0, Value.slice none 0 0]) hX1.out sizeE2 rfl oneZ2 ?_)
 refine bodyPost_ret (results_cell_row2 rfl _ _ (w.heap.size + 3) 77 #[Value.slice none 0 0, Value.slice none 0 0] (0, 0) _ rfl (setRow_heap _ _ _ _ _ _ hX1.out) Tryz.underlying77 rfl sizeE2) rfl ?_
 exact TPost.no rfl (below_setRow hb1.out (by omega) _)
set_option maxRecDepth 100000 in
set_option maxHeartbeats 1000000 in
theorem no_same (ts : List Text) (h1 : x1 = y1) (h2 : x2 = y2) (hEq : Hid (∀ w', Below w.heap.size w w' → Calls Tryz.prog 70 #[.slice A k c, .slice B l d] w' fun e w'' => e = .returned (.bool true) ∧ w' = w'')) : Calls Tryz.prog 22 #[.int .i64 s, .agg (cells8 root).toArray, .slice A k c, .agg (inclCells x1 x2 A2 n c2), .slice B l d, .agg (inclCells y1 y2 B2 m d2)] w (TPost w s false ts) := by
 unfold inclCells
 have hb1 : Hid (Below w.heap.size w ((((w.alloc (.cells (cells8 root).toArray 23)).alloc (.cells #[Value.int .i64 x1, Value.int .i64 x2, Value.slice A2 n c2] 48)).alloc (.cells #[Value.int .i64 y1, Value.int .i64 y2, Value.slice B2 m d2] 48)).alloc (.cells #[Value.slice none 0 0, Value.slice none 0 0] 77))) := ((((Below.refl _ w).alloc (Nat.le_refl _) _).alloc (by simp) _).alloc (by simp; omega) _).alloc (by simp; omega) _
 have hs3 : (((w.alloc (.cells (cells8 root).toArray 23)).alloc (.cells #[Value.int .i64 x1, Value.int .i64 x2, Value.slice A2 n c2] 48)).alloc (.cells #[Value.int .i64 y1, Value.int .i64 y2, Value.slice B2 m d2] 48)).heap.size = w.heap.size + 3 := by simp
 have hs2 : ((w.alloc (.cells (cells8 root).toArray 23)).alloc (.cells #[Value.int .i64 x1, Value.int .i64 x2, Value.slice A2 n c2] 48)).heap.size = w.heap.size + 2 := by simp
 have hs1 : (w.alloc (.cells (cells8 root).toArray 23)).heap.size = w.heap.size + 1 := by simp
 have hX1 : Hid (Blk ((((w.alloc (.cells (cells8 root).toArray 23)).alloc (.cells #[Value.int .i64 x1, Value.int .i64 x2, Value.slice A2 n c2] 48)).alloc (.cells #[Value.int .i64 y1, Value.int .i64 y2, Value.slice B2 m d2] 48)).alloc (.cells #[Value.slice none 0 0, Value.slice none 0 0] 77)) (w.heap.size + 3) 77 #[Value.slice none 0 0, Value.slice none 0 0]) := by
  have := Blk.new (((w.alloc (.cells (cells8 root).toArray 23)).alloc (.cells #[Value.int .i64 x1, Value.int .i64 x2, Value.slice A2 n c2] 48)).alloc (.cells #[Value.int .i64 y1, Value.int .i64 y2, Value.slice B2 m d2] 48)) 77 #[Value.slice none 0 0, Value.slice none 0 0]
  rwa [hs3] at this
 have hQ1 : Hid (Blk ((((w.alloc (.cells (cells8 root).toArray 23)).alloc (.cells #[Value.int .i64 x1, Value.int .i64 x2, Value.slice A2 n c2] 48)).alloc (.cells #[Value.int .i64 y1, Value.int .i64 y2, Value.slice B2 m d2] 48)).alloc (.cells #[Value.slice none 0 0, Value.slice none 0 0] 77)) (w.heap.size + 2) 48 #[Value.int .i64 y1, Value.int .i64 y2, Value.slice B2 m d2]) := by
  have := Blk.new ((w.alloc (.cells (cells8 root).toArray 23)).alloc (.cells #[Value.int .i64 x1, Value.int .i64 x2, Value.slice A2 n c2] 48)) 48 #[Value.int .i64 y1, Value.int .i64 y2, Value.slice B2 m d2]
  rw [hs2] at this
  exact this.alloc _
 have hP1 : Hid (Blk ((((w.alloc (.cells (cells8 root).toArray 23)).alloc (.cells #[Value.int .i64 x1, Value.int .i64 x2, Value.slice A2 n c2] 48)).alloc (.cells #[Value.int .i64 y1, Value.int .i64 y2, Value.slice B2 m d2] 48)).alloc (.cells #[Value.slice none 0 0, Value.slice none 0 0] 77)) (w.heap.size + 1) 48 #[Value.int .i64 x1, Value.int .i64 x2, Value.slice A2 n c2]) := by
  have := Blk.new (w.alloc (.cells (cells8 root).toArray 23)) 48 #[Value.int .i64 x1, Value.int .i64 x2, Value.slice A2 n c2]
  rw [hs1] at this
  exact (this.alloc _).alloc _
 have hR1 : Hid (Blk ((((w.alloc (.cells (cells8 root).toArray 23)).alloc (.cells #[Value.int .i64 x1, Value.int .i64 x2, Value.slice A2 n c2] 48)).alloc (.cells #[Value.int .i64 y1, Value.int .i64 y2, Value.slice B2 m d2] 48)).alloc (.cells #[Value.slice none 0 0, Value.slice none 0 0] 77)) w.heap.size 23 (cells8 root).toArray) := (((Blk.new w _ _).alloc _).alloc _).alloc _
 clear hs1 hs2 hs3
 subst h1 h2
 go_enter Tryz.func22, Tryz.ntmps22
 go_wp2_with (first | (go_at_call 70; refine (hEq.out _ hb1.out).mono ?_; rintro e w2 ⟨rfl, rfl⟩) | ((with_reducible change wpList _ _ _ ({ dst := none, op := Op.store 77 _ _, type := _, pos := _, after := _, guard := _ } :: _) _ _); refine wpList_store_row (o := ⟨none, _, _, _, _, _⟩) rfl 77 (.tmp 12) (.tmp 31) rfl (w.heap.size + 3) (#[Value.slice none 0 0, Value.slice none 0 0]) rfl rfl 77 (#[Value.slice none 0 0, Value.slice none 0 0]) hX1.out sizeE2 rfl oneZ2 ?_))
 refine bodyPost_ret (results_cell_row2 rfl _ _ (w.heap.size + 3) 77 #[Value.slice none 0 0, Value.slice none 0 0] (0, 0) _ rfl (setRow_heap _ _ _ _ _ _ hX1.out) Tryz.underlying77 rfl sizeE2) rfl ?_
 exact TPost.no rfl (below_setRow hb1.out (by omega) _)
set_option maxRecDepth 100000 in
set_option maxHeartbeats 2000000 in
theorem go_on (hrt : root.length = 32) (ts : List Text) (want : Bool) (h1 : x1 = y1) (h2 : x2 = y2) (hEq : Hid (∀ w', Below w.heap.size w w' → Calls Tryz.prog 70 #[.slice A k c, .slice B l d] w' fun e w'' => e = .returned (.bool false) ∧ w' = w''))
  (hE : Hid (∀ w', Below w.heap.size w w' → Calls Tryz.prog 71 #[.int .i64 s, .slice (some ⟨w'.heap.size, 0, none⟩) 2 2] (w'.alloc (.cells #[.iface 155 (.agg (incV s root A k c x1 x2 A2 n c2).toArray), .iface 155 (.agg (incV s root B l d y1 y2 B2 m d2).toArray)] 239)) (TPost w' s want ts))) :
  Calls Tryz.prog 22 #[.int .i64 s, .agg (cells8 root).toArray, .slice A k c, .agg (inclCells x1 x2 A2 n c2), .slice B l d, .agg (inclCells y1 y2 B2 m d2)] w (TPost w s want ts) := by
 unfold inclCells
 have hb1 : Hid (Below w.heap.size w ((((w.alloc (.cells (cells8 root).toArray 23)).alloc (.cells #[Value.int .i64 x1, Value.int .i64 x2, Value.slice A2 n c2] 48)).alloc (.cells #[Value.int .i64 y1, Value.int .i64 y2, Value.slice B2 m d2] 48)).alloc (.cells #[Value.slice none 0 0, Value.slice none 0 0] 77))) := ((((Below.refl _ w).alloc (Nat.le_refl _) _).alloc (by simp) _).alloc (by simp; omega) _).alloc (by simp; omega) _
 have hs3 : (((w.alloc (.cells (cells8 root).toArray 23)).alloc (.cells #[Value.int .i64 x1, Value.int .i64 x2, Value.slice A2 n c2] 48)).alloc (.cells #[Value.int .i64 y1, Value.int .i64 y2, Value.slice B2 m d2] 48)).heap.size = w.heap.size + 3 := by simp
 have hs2 : ((w.alloc (.cells (cells8 root).toArray 23)).alloc (.cells #[Value.int .i64 x1, Value.int .i64 x2, Value.slice A2 n c2] 48)).heap.size = w.heap.size + 2 := by simp
 have hs1 : (w.alloc (.cells (cells8 root).toArray 23)).heap.size = w.heap.size + 1 := by simp
 have hX1 : Hid (Blk ((((w.alloc (.cells (cells8 root).toArray 23)).alloc (.cells #[Value.int .i64 x1, Value.int .i64 x2, Value.slice A2 n c2] 48)).alloc (.cells #[Value.int .i64 y1, Value.int .i64 y2, Value.slice B2 m d2] 48)).alloc (.cells #[Value.slice none 0 0, Value.slice none 0 0] 77)) (w.heap.size + 3) 77 #[Value.slice none 0 0, Value.slice none 0 0]) := by
  have := Blk.new (((w.alloc (.cells (cells8 root).toArray 23)).alloc (.cells #[Value.int .i64 x1, Value.int .i64 x2, Value.slice A2 n c2] 48)).alloc (.cells #[Value.int .i64 y1, Value.int .i64 y2, Value.slice B2 m d2] 48)) 77 #[Value.slice none 0 0, Value.slice none 0 0]
  rwa [hs3] at this
 have hQ1 : Hid (Blk ((((w.alloc (.cells (cells8 root).toArray 23)).alloc (.cells #[Value.int .i64 x1, Value.int .i64 x2, Value.slice A2 n c2] 48)).alloc (.cells #[Value.int .i64 y1, Value.int .i64 y2, Value.slice B2 m d2] 48)).alloc (.cells #[Value.slice none 0 0, Value.slice none 0 0] 77)) (w.heap.size + 2) 48 #[Value.int .i64 y1, Value.int .i64 y2, Value.slice B2 m d2]) := by
  have := Blk.new ((w.alloc (.cells (cells8 root).toArray 23)).alloc (.cells #[Value.int .i64 x1, Value.int .i64 x2, Value.slice A2 n c2] 48)) 48 #[Value.int .i64 y1, Value.int .i64 y2, Value.slice B2 m d2]
  rw [hs2] at this
  exact this.alloc _
 have hP1 : Hid (Blk ((((w.alloc (.cells (cells8 root).toArray 23)).alloc (.cells #[Value.int .i64 x1, Value.int .i64 x2, Value.slice A2 n c2] 48)).alloc (.cells #[Value.int .i64 y1, Value.int .i64 y2, Value.slice B2 m d2] 48)).alloc (.cells #[Value.slice none 0 0, Value.slice none 0 0] 77)) (w.heap.size + 1) 48 #[Value.int .i64 x1, Value.int .i64 x2, Value.slice A2 n c2]) := by
  have := Blk.new (w.alloc (.cells (cells8 root).toArray 23)) 48 #[Value.int .i64 x1, Value.int .i64 x2, Value.slice A2 n c2]
  rw [hs1] at this
  exact (this.alloc _).alloc _
 have hR1 : Hid (Blk ((((w.alloc (.cells (cells8 root).toArray 23)).alloc (.cells #[Value.int .i64 x1, Value.int .i64 x2, Value.slice A2 n c2] 48)).alloc (.cells #[Value.int .i64 y1, Value.int .i64 y2, Value.slice B2 m d2] 48)).alloc (.cells #[Value.slice none 0 0, Value.slice none 0 0] 77)) w.heap.size 23 (cells8 root).toArray) := (((Blk.new w _ _).alloc _).alloc _).alloc _
 clear hs1 hs2 hs3
 have Fr := Lib.hid (fit (x := root) hrt)
 have zc1 : (cells8 root).length = 32 := by rw [cells8_len, hrt]
 have zc2 : (cells8 root).toArray.size = 32 := by rw [List.size_toArray, zc1]
 have zc3 := fold_size s root hrt
 have hsz : ((((w.alloc (.cells (cells8 root).toArray 23)).alloc (.cells #[Value.int .i64 x1, Value.int .i64 x2, Value.slice A2 n c2] 48)).alloc (.cells #[Value.int .i64 y1, Value.int .i64 y2, Value.slice B2 m d2] 48)).alloc (.cells #[Value.slice none 0 0, Value.slice none 0 0] 77)).heap.size = w.heap.size + 1 + 1 + 1 + 1 := by simp
 have hE1 := hE.out _ hb1.out
 rw [hsz] at hE1
 replace hE1 := Lib.hid hE1
 have hrth := Lib.hid hrt
 clear hE hrt hsz
 subst h1 h2
 go_enter Tryz.func22, Tryz.ntmps22
 go_wp2_with (first
  | (go_at_call 70; refine (hEq.out _ hb1.out).mono ?_; rintro e w2 ⟨rfl, rfl⟩)
  | ((with_reducible change wpList _ _ _ (⟨some 34, _, _, _, _, _⟩ :: _) _ _); refine wpList_load_row (o := ⟨some 34, _, _, _, _, _⟩) rfl 23 (.tmp 7) rfl (w.heap.size) rfl 23 ((cells8 root).toArray) (0, 0) _ hR1.out Tryz.underlying23 rfl Fr.out.size ?_)
  | ((with_reducible change wpList _ _ _ (⟨some 36, _, _, _, _, _⟩ :: _) _ _); refine wpList_load_row (o := ⟨some 36, _, _, _, _, _⟩) rfl 48 (.tmp 9) rfl (w.heap.size + 1) rfl 48 (#[Value.int .i64 x1, Value.int .i64 x2, Value.slice A2 n c2]) (0, 0) _ hP1.out Tryz.underlying48 rfl sizeI ?_)
  | ((with_reducible change wpList _ _ _ (⟨some 40, _, _, _, _, _⟩ :: _) _ _); refine wpList_load_row (o := ⟨some 40, _, _, _, _, _⟩) rfl 23 (.tmp 7) rfl (w.heap.size) rfl 23 ((cells8 root).toArray) (0, 0) _ hR1.out Tryz.underlying23 rfl Fr.out.size ?_)
  | ((with_reducible change wpList _ _ _ (⟨some 42, _, _, _, _, _⟩ :: _) _ _); refine wpList_load_row (o := ⟨some 42, _, _, _, _, _⟩) rfl 48 (.tmp 11) rfl (w.heap.size + 2) rfl 48 (#[Value.int .i64 x1, Value.int .i64 x2, Value.slice B2 m d2]) (0, 0) _ hQ1.out Tryz.underlying48 rfl sizeI ?_))
 rw [build_inc s root hrth.out, build_inc s root hrth.out]
 refine hE1.out.mono ?_
 rintro e w2 ⟨hk2, hcase⟩
 have hX2 : Hid (Blk w2 (w.heap.size + 3) 77 #[Value.slice none 0 0, Value.slice none 0 0]) := (hk2.block _ hX1.out.lt).trans hX1.out
 have hb2 : Hid (Below w.heap.size w w2) := hb1.out.trans (hk2.mono hb1.out.size)
 have hlt := hX1.out.lt
 have hws := hb1.out.size
 rcases hcase with ⟨rfl, rfl⟩ | ⟨rfl, va, vb, p, q, rfl, hp, hq, hne, hsum, oa, ob⟩
 ·clear hk2 hE1 zc1 zc2 zc3 hP1 hQ1 hR1 hlt hws
  go_wp2_with ((with_reducible change wpList _ _ _ ({ dst := none, op := Op.store 77 _ _, type := _, pos := _, after := _, guard := _ } :: _) _ _); refine wpList_store_row (o := ⟨none, _, _, _, _, _⟩) rfl 77 (.tmp 12) (.tmp 47) rfl (w.heap.size + 3) (#[Value.slice none 0 0, Value.slice none 0 0]) rfl rfl 77 (#[Value.slice none 0 0, Value.slice none 0 0]) hX2.out sizeE2 rfl oneZ2 ?_)
  refine bodyPost_ret (results_cell_row2 rfl _ _ (w.heap.size + 3) 77 #[Value.slice none 0 0, Value.slice none 0 0] (0, 0) _ rfl (setRow_heap _ _ _ _ _ _ hX2.out) Tryz.underlying77 rfl sizeE2) rfl ?_
  exact TPost.no rfl (below_setRow hb2.out (by omega) _)
 ·obtain ⟨Aa, ca, rfl, -⟩ := Own.own_reads oa
  obtain ⟨Ab, cb, rfl, -⟩ := Own.own_reads ob
  have honeE : Hid (((#[Value.slice Aa p.length ca, Value.slice Ab q.length cb] : Array Value).all fun v => v.oneCell') = true) := by show _ = _; rw [List.all_toArray]; rfl
  replace oa := Lib.hid oa
  replace ob := Lib.hid ob
  replace hp := Lib.hid hp
  replace hq := Lib.hid hq
  replace hne := Lib.hid hne
  replace hsum := Lib.hid hsum
  replace hws := Lib.hid hws
  replace hlt := Lib.hid hlt
  clear hk2 hE1 zc1 zc2 zc3 hP1 hQ1 hR1
  go_wp2_with ((with_reducible change wpList _ _ _ ({ dst := none, op := Op.store 77 _ _, type := _, pos := _, after := _, guard := _ } :: _) _ _); refine wpList_store_row (o := ⟨none, _, _, _, _, _⟩) rfl 77 (.tmp 12) (.tmp 47) rfl (w.heap.size + 3) (#[Value.slice Aa p.length ca, Value.slice Ab q.length cb]) rfl rfl 77 (#[Value.slice none 0 0, Value.slice none 0 0]) hX2.out sizeE2 rfl honeE.out ?_)
  refine bodyPost_ret (results_cell_row2 rfl _ _ (w.heap.size + 3) 77 #[Value.slice Aa p.length ca, Value.slice Ab q.length cb] (0, 0) _ rfl (setRow_heap _ _ _ _ _ _ hX2.out) Tryz.underlying77 rfl sizeE2) rfl ?_
  have hkk : Kept (· = w.heap.size + 3) w2 (w2.setRow (w.heap.size + 3) #[Value.slice Aa p.length ca, Value.slice Ab q.length cb]) := Bytes.Kept.setRow (S := (· = w.heap.size + 3)) (Kept.refl _ _) rfl _
  exact ⟨below_setRow hb2.out (by omega) _, .inr ⟨rfl, _, _, p, q, rfl, hp.out, hq.out, hne.out, hsum.out, own_far (own_base8 oa.out hws.out) hkk oa.out hlt.out, own_far (own_base8 ob.out hws.out) hkk ob.out hlt.out⟩⟩
theorem extract_T (L : List Ans) (want : Bool) (hw : want = true → (∀ a ∈ L, a.tk = true) ∧ TwiceP.Met s (L.flatMap (·.ts))) (hw2 : want = false → ¬ ∀ a ∈ L, a.tk = true) (w' w2 : World) (cs : Array Value) (T : TypeId) (e : Ending) (h : EPost (w'.alloc (.cells cs T)) s L e w2) : TPost w' s want (L.flatMap (·.ts)) e w2 := by
 obtain ⟨hb, h⟩ := h
 have hle : w'.heap.size ≤ (w'.alloc (.cells cs T)).heap.size := by simp
 have hb2 : Below w'.heap.size w' w2 := (Below.heap_below w' _).trans (hb.mono hle)
 rcases h with ⟨rfl, hn⟩ | ⟨va, vb, p, q, rfl, hall, hp, hq, hne, hs, oa, ob⟩
 ·cases want with
  | true => exact absurd (hw rfl) hn
  | false => exact TPost.no rfl hb2
 ·cases want with
  | false => exact absurd hall (hw2 rfl)
  | true => exact ⟨hb2, .inr ⟨rfl, va, vb, p, q, rfl, hp, hq, hne, hs, own_base8 oa hle, own_base8 ob hle⟩⟩
end
end Go.Proofs.YtgldkfaiofkhbaaGreatDoor.TwoEv

namespace Go.Proofs.YtgldkfaiofkhbaaGreatDoor.TwoEvAny
open Go Go.RowKit Go.Proofs.YtgldkfaiofkhbaaGreatDoor Mem Sha Bytes HashMem TreeMem Chain ProofEnc Ref17 TwiceP Clash Extract AudIncl TwoEvP Included TwoEv

def wantEv (s : Int) (root e f : Text) (x1 x2 y1 y2 : Int) (ds es : List Text) : Bool := (audIncl s root e x1 x2 ds == 0) && ((audIncl s root f y1 y2 es == 0) && ((x1 == y1) && ((x2 == y2) && !decide (e = f))))
theorem list2 {P : Ans → Prop} {a b : Ans} (ha : P a) (hb : P b) : ∀ x ∈ [a, b], P x := fun x hx => by
 rcases List.mem_cons.1 hx with rfl | hx
 ·exact ha
 ·obtain rfl := List.mem_singleton.1 hx
  exact hb
set_option maxRecDepth 100000 in
theorem twoEvents_any (s : Int) (root : Text) (hrt : root.length = 32) (e : Text) (k : Nat) (hk : e.length = k) (hk47 : k < 140737488355327) (A : Option Addr) (c : Nat) (hkc : k ≤ c) (hnil : A = none → k = 0 ∧ c = 0) (x1 x2 : Int) (ds : List Text) (A2 : Option Addr) (n c2 : Nat) (hn : n ≤ 300)
  (f : Text) (l : Nat) (hl : f.length = l) (hl47 : l < 140737488355327) (B : Option Addr) (d : Nat) (hld : l ≤ d) (hnilB : B = none → l = 0 ∧ d = 0) (y1 y2 : Int) (es : List Text) (B2 : Option Addr) (m d2 : Nat) (hm : m ≤ 300) (w : World) (hB : Base w) (hr : Reads w 1 A k (cells8 e)) (hrd : RdD w A2 n ds) (hrf : Reads w 1 B l (cells8 f)) (hrdf : RdD w B2 m es) :
  Calls Tryz.prog 22 #[.int .i64 s, .agg (cells8 root).toArray, .slice A k c, .agg (inclCells x1 x2 A2 n c2), .slice B l d, .agg (inclCells y1 y2 B2 m d2)] w (TPost w s (wantEv s root e f x1 x2 y1 y2 ds es) (evTexts s e x1 x2 ds ++ evTexts s f y1 y2 es)) := by
 have hEq := Lib.hid (fun w' (hb : Below w.heap.size w w') => equal8 e f k l hk hl A B c d w' (hr.below hb) (hrf.below hb))
 by_cases h1 : x1 = y1
 ·by_cases h2 : x2 = y2
  ·by_cases h3 : e = f
   ·have hw : wantEv s root e f x1 x2 y1 y2 ds es = false := by unfold wantEv; simp [h3]
    rw [hw]
    rw [decide_eq_true h3] at hEq
    exact no_same s root k l A B c d x1 x2 y1 y2 A2 B2 n c2 m d2 w _ h1 h2 (Lib.hid fun w' hb => (hEq.out w' hb).mono fun _ _ ⟨a, b⟩ => ⟨a, b⟩)
   ·rw [decide_eq_false h3] at hEq
    refine go_on s root k l A B c d x1 x2 y1 y2 A2 B2 n c2 m d2 w hrt _ _ h1 h2 (Lib.hid fun w' hb => (hEq.out w' hb).mono fun _ _ ⟨a, b⟩ => ⟨a, b⟩) (Lib.hid fun w' hb => ?_)
    subst h1 h2
    have hw : wantEv s root e f x1 x2 x1 x2 ds es = ((audIncl s root e x1 x2 ds == 0) && (audIncl s root f x1 x2 es == 0)) := by unfold wantEv; simp [h3]
    rw [hw]
    have hb2 : Below w.heap.size w (w'.alloc (.cells #[.iface 155 (.agg (incV s root A k c x1 x2 A2 n c2).toArray), .iface 155 (.agg (incV s root B l d x1 x2 B2 m d2).toArray)] 239)) := hb.alloc hb.size _
    have hO1 := evAns_ok s root hrt e k hk hk47 A c hkc hnil x1 x2 ds A2 n c2 hn _ (hB.below hb2 hB.1) (hr.below hb2) (hrd.below hb2)
    have hO2 := evAns_ok s root hrt f l hl hl47 B d hld hnilB x1 x2 es B2 m d2 hm _ (hB.below hb2 hB.1) (hrf.below hb2) (hrdf.below hb2)
    have hX := extract_any s [evAns s root e A k c x1 x2 ds A2 n c2, evAns s root f B l d x1 x2 es B2 m d2] 2 rfl (by decide) (some ⟨w'.heap.size, 0, none⟩) 2 _ (hB.below hb2 hB.1) ((Blk.new w' 239 #[.iface 155 (.agg (incV s root A k c x1 x2 A2 n c2).toArray), .iface 155 (.agg (incV s root B l d x1 x2 B2 m d2).toArray)]).reads 0 _ rfl (fun j u hu => by rw [Nat.zero_add, List.getElem?_toArray]; exact hu)) (list2 hO1 hO2)
    refine hX.mono fun e' w2 h => ?_
    have hfm : [evAns s root e A k c x1 x2 ds A2 n c2, evAns s root f B l d x1 x2 es B2 m d2].flatMap (·.ts) = evTexts s e x1 x2 ds ++ evTexts s f x1 x2 es := by simp [evAns]
    rw [← hfm]
    refine extract_T s _ _ (fun hw => ?_) (fun hw hall => ?_) w' w2 _ _ e' h
    ·rw [Bool.and_eq_true] at hw
     refine ⟨list2 hw.1 hw.2, ?_⟩
     rw [hfm]
     exact events_meet hrd.2.1 hrdf.2.1 (eq_of_beq hw.1) (eq_of_beq hw.2) h3
    ·have a1 : (audIncl s root e x1 x2 ds == 0) = true := hall _ (List.mem_cons_self ..)
     have a2 : (audIncl s root f x1 x2 es == 0) = true := hall _ (List.mem_cons_of_mem _ (List.mem_cons_self ..))
     rw [a1, a2] at hw
     cases hw
  ·have hw : wantEv s root e f x1 x2 y1 y2 ds es = false := by unfold wantEv; simp [h2]
   rw [hw]
   exact no_num s root k l A B c d x1 x2 y1 y2 A2 B2 n c2 m d2 w _ h1 h2
 ·have hw : wantEv s root e f x1 x2 y1 y2 ds es = false := by unfold wantEv; simp [h1]
  rw [hw]
  exact no_size s root k l A B c d x1 x2 y1 y2 A2 B2 n c2 m d2 w _ h1
end Go.Proofs.YtgldkfaiofkhbaaGreatDoor.TwoEvAny
