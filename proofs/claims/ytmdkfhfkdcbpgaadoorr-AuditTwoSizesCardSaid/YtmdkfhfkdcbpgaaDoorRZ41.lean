/-
  Texts of the claim, put into one file: TwoEv, Joined, TwoSz, TwoEvAny, TwoSzAny, Told20b.
-/
import Derived.Test.YtmdkfhfkdcbpgaaDoorRZ33
import Derived.Test.YtmdkfhfkdcbpgaaDoorRZ40

namespace Go.Proofs.YtmdkfhfkdcbpgaaDoorR.TwoEv
open Go Go.RowKit Go.Proofs.YtmdkfhfkdcbpgaaDoorR Mem Sha Bytes HashMem DigestMem TreeMem TreeRoot Go.Proofs.YtmdkfhfkdcbpgaaDoorR.Append Held Guard Chain ProofEnc Ref17 TwiceP Clash RowsY Extract Book AudIncl Way20 TwoEvP Included

def TPost (w : World) (s : Int) (want : Bool) (ts : List Text) (e : Ending) (w' : World) : Prop :=
 Below w.heap.size w w' ∧ ((want = false ∧ e = .returned (.tuple #[.agg #[Value.slice none 0 0, Value.slice none 0 0], .bool false])) ∨
  (want = true ∧ ∃ va vb p q, e = .returned (.tuple #[.agg #[va, vb], .bool true]) ∧ p ∈ ts ∧ q ∈ ts ∧ p ≠ q ∧ sumOf s p = sumOf s q ∧ w'.ownsRow w.heap.size 5 1 va p.length (cells8 p) ∧ w'.ownsRow w.heap.size 5 1 vb q.length (cells8 q)))
theorem TPost.no {w w' : World} {s : Int} {ts : List Text} {e : Ending} (h : e = .returned (.tuple #[.agg #[Value.slice none 0 0, Value.slice none 0 0], .bool false])) (hb : Below w.heap.size w w') : TPost w s false ts e w' := ⟨hb, .inl ⟨rfl, h⟩⟩
theorem fold_at : ∀ (xs old pre post : List Value) (k : Nat) (o : Nat), pre.length = o + k → old.length = xs.length → (xs.zipIdx k).foldl (fun (cs : Array Value) (x : Value × Nat) => cs.setIfInBounds (o + x.2) x.1) (pre ++ old ++ post).toArray = (pre ++ xs ++ post).toArray
 | [], old, pre, post, k, o, hp, ho => by
  have : old = [] := List.eq_nil_of_length_eq_zero ho
  subst this
  rfl
 | x :: xs, y :: old, pre, post, k, o, hp, ho => by
  rw [List.zipIdx_cons, List.foldl_cons]
  have e : ((pre ++ (y :: old) ++ post).toArray).setIfInBounds (o + k) x = ((pre ++ [x]) ++ old ++ post).toArray := by
   rw [List.setIfInBounds_toArray, List.append_assoc, List.set_append_right _ _ (by omega), hp, Nat.sub_self]
   simp
  show List.foldl _ (Array.setIfInBounds _ (o + k) x) _ = _
  rw [e, fold_at xs old (pre ++ [x]) post (k + 1) o (by rw [List.length_append, List.length_singleton]; omega) (by simpa using ho)]
  simp
 | x :: xs, [], _, _, _, _, _, ho => by simp at ho
theorem build_inc (s : Int) (root : Text) (h : root.length = 32) (A : Option Addr) (k c : Nat) (x1 x2 : Int) (A2 : Option Addr) (n c2 : Nat) : (((((cells8 root).zipIdx.foldl (fun (cs : Array Value) (x : Value × Nat) => cs.setIfInBounds (1 + x.2) x.1) (Value.int .i64 s :: Value.int .u8 0 :: Value.int .u8 0 :: Value.int .u8 0 :: Value.int .u8 0 :: Value.int .u8 0 :: Value.int .u8 0 :: Value.int .u8 0 :: Value.int .u8 0 :: Value.int .u8 0 :: Value.int .u8 0 :: Value.int .u8 0 :: Value.int .u8 0 :: Value.int .u8 0 :: Value.int .u8 0 :: Value.int .u8 0 :: Value.int .u8 0 :: Value.int .u8 0 :: Value.int .u8 0 :: Value.int .u8 0 :: Value.int .u8 0 :: Value.int .u8 0 :: Value.int .u8 0 :: Value.int .u8 0 :: Value.int .u8 0 :: Value.int .u8 0 :: Value.int .u8 0 :: Value.int .u8 0 :: Value.int .u8 0 :: Value.int .u8 0 :: Value.int .u8 0 :: Value.int .u8 0 :: Value.int .u8 0 :: Value.slice none 0 0 :: Value.int .i64 0 :: Value.int .i64 0 :: Value.slice none 0 0 :: []).toArray).setIfInBounds 33 (.slice A k c)).setIfInBounds 34 (.int .i64 x1)).setIfInBounds 35 (.int .i64 x2)).setIfInBounds 36 (.slice A2 n c2) = (incV s root A k c x1 x2 A2 n c2).toArray := by
 have hl : ([Value.int .i64 s] ++ cells8 root).length = 33 := by simp [cells8_len, h]
 have := fold_at (cells8 root) (List.replicate 32 (.int .u8 0)) [.int .i64 s] [.slice none 0 0, .int .i64 0, .int .i64 0, .slice none 0 0] 0 1 rfl (by simp [cells8_len, h])
 refine Eq.trans (congrArg (fun z : Array Value => (((z.setIfInBounds 33 (.slice A k c)).setIfInBounds 34 (.int .i64 x1)).setIfInBounds 35 (.int .i64 x2)).setIfInBounds 36 (.slice A2 n c2)) this) ?_
 simp only [List.setIfInBounds_toArray]
 congr 1
 rw [List.set_append_right _ _ (by omega), List.set_append_right _ _ (by omega), List.set_append_right _ _ (by omega), List.set_append_right _ _ (by omega), hl]
 rfl
theorem fold_size (s : Int) (root : Text) (h : root.length = 32) : ((cells8 root).zipIdx.foldl (fun (cs : Array Value) (x : Value × Nat) => cs.setIfInBounds (1 + x.2) x.1) (Value.int .i64 s :: Value.int .u8 0 :: Value.int .u8 0 :: Value.int .u8 0 :: Value.int .u8 0 :: Value.int .u8 0 :: Value.int .u8 0 :: Value.int .u8 0 :: Value.int .u8 0 :: Value.int .u8 0 :: Value.int .u8 0 :: Value.int .u8 0 :: Value.int .u8 0 :: Value.int .u8 0 :: Value.int .u8 0 :: Value.int .u8 0 :: Value.int .u8 0 :: Value.int .u8 0 :: Value.int .u8 0 :: Value.int .u8 0 :: Value.int .u8 0 :: Value.int .u8 0 :: Value.int .u8 0 :: Value.int .u8 0 :: Value.int .u8 0 :: Value.int .u8 0 :: Value.int .u8 0 :: Value.int .u8 0 :: Value.int .u8 0 :: Value.int .u8 0 :: Value.int .u8 0 :: Value.int .u8 0 :: Value.int .u8 0 :: Value.slice none 0 0 :: Value.int .i64 0 :: Value.int .i64 0 :: Value.slice none 0 0 :: []).toArray).size = 37 := by
 have := fold_at (cells8 root) (List.replicate 32 (.int .u8 0)) [.int .i64 s] [.slice none 0 0, .int .i64 0, .int .i64 0, .slice none 0 0] 0 1 rfl (by simp [cells8_len, h])
 refine Eq.trans (congrArg Array.size this) ?_
 simp [cells8_len, h]
def evAns (s : Int) (root ev : Text) (A : Option Addr) (k c : Nat) (x1 x2 : Int) (ds : List Text) (A2 : Option Addr) (n c2 : Nat) : Ans := ⟨153, .agg (incV s root A k c x1 x2 A2 n c2).toArray, audIncl s root ev x1 x2 ds == 0, evTexts s ev x1 x2 ds⟩
set_option maxRecDepth 100000 in
theorem evAns_ok (s : Int) (root : Text) (hrt : root.length = 32) (ev : Text) (k : Nat) (hk : ev.length = k) (hk47 : k < 140737488355327) (A : Option Addr) (c : Nat) (hkc : k ≤ c) (hnil : A = none → k = 0 ∧ c = 0) (x1 x2 : Int) (ds : List Text) (A2 : Option Addr) (n c2 : Nat) (hn : n ≤ 300) (w : World) (hB : Base w) (hr : Reads w 1 A k (cells8 ev)) (hrd : RdD w A2 n ds) : AnsOk w (evAns s root ev A k c x1 x2 ds A2 n c2) := by
 have hpos : (audIncl s root ev x1 x2 ds == 0) = true → 0 < k := fun h => by
  rcases Nat.eq_zero_or_pos k with h0 | h0
  ·rw [audIncl_short (by omega)] at h
   cases h
  ·exact h0
 have hxt := inclOf_texts s x1 x2 (leafOf s ev) ds (by rw [leaf_sum]; exact sumOf_len _ _) hrd.2.1
 refine ⟨⟨191, fun F w' e => by subst e; kernel_rfl, fun w' => by kernel_rfl, fun w' hb => taken_any s root hrt ev k hk (by omega) A c hkc hnil x1 x2 ds A2 n c2 (by omega) w' (hB.below hb hB.1) (hr.below hb) (hrd.below hb)⟩, fun htk => ⟨192, fun F w' e => by subst e; kernel_rfl, fun w' => by kernel_rfl, fun w' hb => texts_any s root hrt ev k hk (hpos htk) hk47 A c hkc hnil x1 x2 ds A2 n c2 (by omega) w' (hB.below hb hB.1) (hr.below hb) (hrd.below hb)⟩, fun _ q hq => ?_, fun _ => ?_⟩
 ·rcases List.mem_cons.1 hq with h | h
  ·rw [h]; exact ⟨Nat.succ_pos _, by simp; omega⟩
  ·rw [hxt.2 q h]; exact ⟨by decide, by decide⟩
 ·show (evTexts s ev x1 x2 ds).length ≤ 1000
  have := hrd.1
  unfold evTexts
  rw [List.length_cons]
  omega
section
variable (s : Int) (root : Text) (e f : Text) (k l : Nat) (A B : Option Addr) (c d : Nat) (x1 x2 y1 y2 : Int) (A2 B2 : Option Addr) (n c2 m d2 : Nat) (w : World)
set_option maxRecDepth 100000 in
set_option maxHeartbeats 1000000 in
theorem no_num (ts : List Text) (h1 : x1 = y1) (h2 : ¬ x2 = y2) : Calls Tryd.prog 42 #[.int .i64 s, .agg (cells8 root).toArray, .slice A k c, .agg (inclCells x1 x2 A2 n c2), .slice B l d, .agg (inclCells y1 y2 B2 m d2)] w (TPost w s false ts) := by
 unfold inclCells
 have hb1 : Hid (Below w.heap.size w ((((w.alloc (.cells (cells8 root).toArray 23)).alloc (.cells #[Value.int .i64 x1, Value.int .i64 x2, Value.slice A2 n c2] 31)).alloc (.cells #[Value.int .i64 y1, Value.int .i64 y2, Value.slice B2 m d2] 31)).alloc (.cells #[Value.slice none 0 0, Value.slice none 0 0] 82))) := ((((Below.refl _ w).alloc (Nat.le_refl _) _).alloc (by simp) _).alloc (by simp; omega) _).alloc (by simp; omega) _
 have hs3 : (((w.alloc (.cells (cells8 root).toArray 23)).alloc (.cells #[Value.int .i64 x1, Value.int .i64 x2, Value.slice A2 n c2] 31)).alloc (.cells #[Value.int .i64 y1, Value.int .i64 y2, Value.slice B2 m d2] 31)).heap.size = w.heap.size + 3 := by simp
 have hs2 : ((w.alloc (.cells (cells8 root).toArray 23)).alloc (.cells #[Value.int .i64 x1, Value.int .i64 x2, Value.slice A2 n c2] 31)).heap.size = w.heap.size + 2 := by simp
 have hs1 : (w.alloc (.cells (cells8 root).toArray 23)).heap.size = w.heap.size + 1 := by simp
 have hX1 : Hid (Blk ((((w.alloc (.cells (cells8 root).toArray 23)).alloc (.cells #[Value.int .i64 x1, Value.int .i64 x2, Value.slice A2 n c2] 31)).alloc (.cells #[Value.int .i64 y1, Value.int .i64 y2, Value.slice B2 m d2] 31)).alloc (.cells #[Value.slice none 0 0, Value.slice none 0 0] 82)) (w.heap.size + 3) 82 #[Value.slice none 0 0, Value.slice none 0 0]) := by
  have := Blk.new (((w.alloc (.cells (cells8 root).toArray 23)).alloc (.cells #[Value.int .i64 x1, Value.int .i64 x2, Value.slice A2 n c2] 31)).alloc (.cells #[Value.int .i64 y1, Value.int .i64 y2, Value.slice B2 m d2] 31)) 82 #[Value.slice none 0 0, Value.slice none 0 0]
  rwa [hs3] at this
 have hQ1 : Hid (Blk ((((w.alloc (.cells (cells8 root).toArray 23)).alloc (.cells #[Value.int .i64 x1, Value.int .i64 x2, Value.slice A2 n c2] 31)).alloc (.cells #[Value.int .i64 y1, Value.int .i64 y2, Value.slice B2 m d2] 31)).alloc (.cells #[Value.slice none 0 0, Value.slice none 0 0] 82)) (w.heap.size + 2) 31 #[Value.int .i64 y1, Value.int .i64 y2, Value.slice B2 m d2]) := by
  have := Blk.new ((w.alloc (.cells (cells8 root).toArray 23)).alloc (.cells #[Value.int .i64 x1, Value.int .i64 x2, Value.slice A2 n c2] 31)) 31 #[Value.int .i64 y1, Value.int .i64 y2, Value.slice B2 m d2]
  rw [hs2] at this
  exact this.alloc _
 have hP1 : Hid (Blk ((((w.alloc (.cells (cells8 root).toArray 23)).alloc (.cells #[Value.int .i64 x1, Value.int .i64 x2, Value.slice A2 n c2] 31)).alloc (.cells #[Value.int .i64 y1, Value.int .i64 y2, Value.slice B2 m d2] 31)).alloc (.cells #[Value.slice none 0 0, Value.slice none 0 0] 82)) (w.heap.size + 1) 31 #[Value.int .i64 x1, Value.int .i64 x2, Value.slice A2 n c2]) := by
  have := Blk.new (w.alloc (.cells (cells8 root).toArray 23)) 31 #[Value.int .i64 x1, Value.int .i64 x2, Value.slice A2 n c2]
  rw [hs1] at this
  exact (this.alloc _).alloc _
 have hR1 : Hid (Blk ((((w.alloc (.cells (cells8 root).toArray 23)).alloc (.cells #[Value.int .i64 x1, Value.int .i64 x2, Value.slice A2 n c2] 31)).alloc (.cells #[Value.int .i64 y1, Value.int .i64 y2, Value.slice B2 m d2] 31)).alloc (.cells #[Value.slice none 0 0, Value.slice none 0 0] 82)) w.heap.size 23 (cells8 root).toArray) := (((Blk.new w _ _).alloc _).alloc _).alloc _
 clear hs1 hs2 hs3
 subst h1
 go_enter Tryd.func42, Tryd.ntmps42
 go_wp2_with ((with_reducible change wpList _ _ _ ({ dst := none, op := Op.store 82 _ _, type := _, pos := _, after := _, guard := _ } :: _) _ _); refine wpList_store_row (o := ⟨none, _, _, _, _, _⟩) rfl 82 (.tmp 12) (.tmp 31) rfl (w.heap.size + 3) (#[Value.slice none 0 0, Value.slice none 0 0]) rfl rfl 82 (#[Value.slice none 0 0, Value.slice none 0 0]) hX1.out sizeE2 rfl oneZ2 ?_)
 refine bodyPost_ret (results_cell_row2 rfl _ _ (w.heap.size + 3) 82 #[Value.slice none 0 0, Value.slice none 0 0] (0, 0) _ rfl (setRow_heap _ _ _ _ _ _ hX1.out) Tryd.underlying82 rfl sizeE2) rfl ?_
 exact TPost.no rfl (below_setRow hb1.out (by omega) _)
set_option maxRecDepth 100000 in
set_option maxHeartbeats 1000000 in
theorem no_same (ts : List Text) (h1 : x1 = y1) (h2 : x2 = y2) (hEq : Hid (∀ w', Below w.heap.size w w' → Calls Tryd.prog 99 #[.slice A k c, .slice B l d] w' fun e w'' => e = .returned (.bool true) ∧ w' = w'')) : Calls Tryd.prog 42 #[.int .i64 s, .agg (cells8 root).toArray, .slice A k c, .agg (inclCells x1 x2 A2 n c2), .slice B l d, .agg (inclCells y1 y2 B2 m d2)] w (TPost w s false ts) := by
 unfold inclCells
 have hb1 : Hid (Below w.heap.size w ((((w.alloc (.cells (cells8 root).toArray 23)).alloc (.cells #[Value.int .i64 x1, Value.int .i64 x2, Value.slice A2 n c2] 31)).alloc (.cells #[Value.int .i64 y1, Value.int .i64 y2, Value.slice B2 m d2] 31)).alloc (.cells #[Value.slice none 0 0, Value.slice none 0 0] 82))) := ((((Below.refl _ w).alloc (Nat.le_refl _) _).alloc (by simp) _).alloc (by simp; omega) _).alloc (by simp; omega) _
 have hs3 : (((w.alloc (.cells (cells8 root).toArray 23)).alloc (.cells #[Value.int .i64 x1, Value.int .i64 x2, Value.slice A2 n c2] 31)).alloc (.cells #[Value.int .i64 y1, Value.int .i64 y2, Value.slice B2 m d2] 31)).heap.size = w.heap.size + 3 := by simp
 have hs2 : ((w.alloc (.cells (cells8 root).toArray 23)).alloc (.cells #[Value.int .i64 x1, Value.int .i64 x2, Value.slice A2 n c2] 31)).heap.size = w.heap.size + 2 := by simp
 have hs1 : (w.alloc (.cells (cells8 root).toArray 23)).heap.size = w.heap.size + 1 := by simp
 have hX1 : Hid (Blk ((((w.alloc (.cells (cells8 root).toArray 23)).alloc (.cells #[Value.int .i64 x1, Value.int .i64 x2, Value.slice A2 n c2] 31)).alloc (.cells #[Value.int .i64 y1, Value.int .i64 y2, Value.slice B2 m d2] 31)).alloc (.cells #[Value.slice none 0 0, Value.slice none 0 0] 82)) (w.heap.size + 3) 82 #[Value.slice none 0 0, Value.slice none 0 0]) := by
  have := Blk.new (((w.alloc (.cells (cells8 root).toArray 23)).alloc (.cells #[Value.int .i64 x1, Value.int .i64 x2, Value.slice A2 n c2] 31)).alloc (.cells #[Value.int .i64 y1, Value.int .i64 y2, Value.slice B2 m d2] 31)) 82 #[Value.slice none 0 0, Value.slice none 0 0]
  rwa [hs3] at this
 have hQ1 : Hid (Blk ((((w.alloc (.cells (cells8 root).toArray 23)).alloc (.cells #[Value.int .i64 x1, Value.int .i64 x2, Value.slice A2 n c2] 31)).alloc (.cells #[Value.int .i64 y1, Value.int .i64 y2, Value.slice B2 m d2] 31)).alloc (.cells #[Value.slice none 0 0, Value.slice none 0 0] 82)) (w.heap.size + 2) 31 #[Value.int .i64 y1, Value.int .i64 y2, Value.slice B2 m d2]) := by
  have := Blk.new ((w.alloc (.cells (cells8 root).toArray 23)).alloc (.cells #[Value.int .i64 x1, Value.int .i64 x2, Value.slice A2 n c2] 31)) 31 #[Value.int .i64 y1, Value.int .i64 y2, Value.slice B2 m d2]
  rw [hs2] at this
  exact this.alloc _
 have hP1 : Hid (Blk ((((w.alloc (.cells (cells8 root).toArray 23)).alloc (.cells #[Value.int .i64 x1, Value.int .i64 x2, Value.slice A2 n c2] 31)).alloc (.cells #[Value.int .i64 y1, Value.int .i64 y2, Value.slice B2 m d2] 31)).alloc (.cells #[Value.slice none 0 0, Value.slice none 0 0] 82)) (w.heap.size + 1) 31 #[Value.int .i64 x1, Value.int .i64 x2, Value.slice A2 n c2]) := by
  have := Blk.new (w.alloc (.cells (cells8 root).toArray 23)) 31 #[Value.int .i64 x1, Value.int .i64 x2, Value.slice A2 n c2]
  rw [hs1] at this
  exact (this.alloc _).alloc _
 have hR1 : Hid (Blk ((((w.alloc (.cells (cells8 root).toArray 23)).alloc (.cells #[Value.int .i64 x1, Value.int .i64 x2, Value.slice A2 n c2] 31)).alloc (.cells #[Value.int .i64 y1, Value.int .i64 y2, Value.slice B2 m d2] 31)).alloc (.cells #[Value.slice none 0 0, Value.slice none 0 0] 82)) w.heap.size 23 (cells8 root).toArray) := (((Blk.new w _ _).alloc _).alloc _).alloc _
 clear hs1 hs2 hs3
 subst h1 h2
 go_enter Tryd.func42, Tryd.ntmps42
 go_wp2_with (first | (go_at_call 99; refine (hEq.out _ hb1.out).mono ?_; rintro e w2 ⟨rfl, rfl⟩) | ((with_reducible change wpList _ _ _ ({ dst := none, op := Op.store 82 _ _, type := _, pos := _, after := _, guard := _ } :: _) _ _); refine wpList_store_row (o := ⟨none, _, _, _, _, _⟩) rfl 82 (.tmp 12) (.tmp 31) rfl (w.heap.size + 3) (#[Value.slice none 0 0, Value.slice none 0 0]) rfl rfl 82 (#[Value.slice none 0 0, Value.slice none 0 0]) hX1.out sizeE2 rfl oneZ2 ?_))
 refine bodyPost_ret (results_cell_row2 rfl _ _ (w.heap.size + 3) 82 #[Value.slice none 0 0, Value.slice none 0 0] (0, 0) _ rfl (setRow_heap _ _ _ _ _ _ hX1.out) Tryd.underlying82 rfl sizeE2) rfl ?_
 exact TPost.no rfl (below_setRow hb1.out (by omega) _)
set_option maxRecDepth 100000 in
set_option maxHeartbeats 2000000 in
theorem go_on (hrt : root.length = 32) (ts : List Text) (want : Bool) (h1 : x1 = y1) (h2 : x2 = y2) (hEq : Hid (∀ w', Below w.heap.size w w' → Calls Tryd.prog 99 #[.slice A k c, .slice B l d] w' fun e w'' => e = .returned (.bool false) ∧ w' = w''))
  (hE : Hid (∀ w', Below w.heap.size w w' → Calls Tryd.prog 100 #[.int .i64 s, .slice (some ⟨w'.heap.size, 0, none⟩) 2 2] (w'.alloc (.cells #[.iface 153 (.agg (incV s root A k c x1 x2 A2 n c2).toArray), .iface 153 (.agg (incV s root B l d y1 y2 B2 m d2).toArray)] 202)) (TPost w' s want ts))) :
  Calls Tryd.prog 42 #[.int .i64 s, .agg (cells8 root).toArray, .slice A k c, .agg (inclCells x1 x2 A2 n c2), .slice B l d, .agg (inclCells y1 y2 B2 m d2)] w (TPost w s want ts) := by
 unfold inclCells
 have hb1 : Hid (Below w.heap.size w ((((w.alloc (.cells (cells8 root).toArray 23)).alloc (.cells #[Value.int .i64 x1, Value.int .i64 x2, Value.slice A2 n c2] 31)).alloc (.cells #[Value.int .i64 y1, Value.int .i64 y2, Value.slice B2 m d2] 31)).alloc (.cells #[Value.slice none 0 0, Value.slice none 0 0] 82))) := ((((Below.refl _ w).alloc (Nat.le_refl _) _).alloc (by simp) _).alloc (by simp; omega) _).alloc (by simp; omega) _
 have hs3 : (((w.alloc (.cells (cells8 root).toArray 23)).alloc (.cells #[Value.int .i64 x1, Value.int .i64 x2, Value.slice A2 n c2] 31)).alloc (.cells #[Value.int .i64 y1, Value.int .i64 y2, Value.slice B2 m d2] 31)).heap.size = w.heap.size + 3 := by simp
 have hs2 : ((w.alloc (.cells (cells8 root).toArray 23)).alloc (.cells #[Value.int .i64 x1, Value.int .i64 x2, Value.slice A2 n c2] 31)).heap.size = w.heap.size + 2 := by simp
 have hs1 : (w.alloc (.cells (cells8 root).toArray 23)).heap.size = w.heap.size + 1 := by simp
 have hX1 : Hid (Blk ((((w.alloc (.cells (cells8 root).toArray 23)).alloc (.cells #[Value.int .i64 x1, Value.int .i64 x2, Value.slice A2 n c2] 31)).alloc (.cells #[Value.int .i64 y1, Value.int .i64 y2, Value.slice B2 m d2] 31)).alloc (.cells #[Value.slice none 0 0, Value.slice none 0 0] 82)) (w.heap.size + 3) 82 #[Value.slice none 0 0, Value.slice none 0 0]) := by
  have := Blk.new (((w.alloc (.cells (cells8 root).toArray 23)).alloc (.cells #[Value.int .i64 x1, Value.int .i64 x2, Value.slice A2 n c2] 31)).alloc (.cells #[Value.int .i64 y1, Value.int .i64 y2, Value.slice B2 m d2] 31)) 82 #[Value.slice none 0 0, Value.slice none 0 0]
  rwa [hs3] at this
 have hQ1 : Hid (Blk ((((w.alloc (.cells (cells8 root).toArray 23)).alloc (.cells #[Value.int .i64 x1, Value.int .i64 x2, Value.slice A2 n c2] 31)).alloc (.cells #[Value.int .i64 y1, Value.int .i64 y2, Value.slice B2 m d2] 31)).alloc (.cells #[Value.slice none 0 0, Value.slice none 0 0] 82)) (w.heap.size + 2) 31 #[Value.int .i64 y1, Value.int .i64 y2, Value.slice B2 m d2]) := by
  have := Blk.new ((w.alloc (.cells (cells8 root).toArray 23)).alloc (.cells #[Value.int .i64 x1, Value.int .i64 x2, Value.slice A2 n c2] 31)) 31 #[Value.int .i64 y1, Value.int .i64 y2, Value.slice B2 m d2]
  rw [hs2] at this
  exact this.alloc _
 have hP1 : Hid (Blk ((((w.alloc (.cells (cells8 root).toArray 23)).alloc (.cells #[Value.int .i64 x1, Value.int .i64 x2, Value.slice A2 n c2] 31)).alloc (.cells #[Value.int .i64 y1, Value.int .i64 y2, Value.slice B2 m d2] 31)).alloc (.cells #[Value.slice none 0 0, Value.slice none 0 0] 82)) (w.heap.size + 1) 31 #[Value.int .i64 x1, Value.int .i64 x2, Value.slice A2 n c2]) := by
  have := Blk.new (w.alloc (.cells (cells8 root).toArray 23)) 31 #[Value.int .i64 x1, Value.int .i64 x2, Value.slice A2 n c2]
  rw [hs1] at this
  exact (this.alloc _).alloc _
 have hR1 : Hid (Blk ((((w.alloc (.cells (cells8 root).toArray 23)).alloc (.cells #[Value.int .i64 x1, Value.int .i64 x2, Value.slice A2 n c2] 31)).alloc (.cells #[Value.int .i64 y1, Value.int .i64 y2, Value.slice B2 m d2] 31)).alloc (.cells #[Value.slice none 0 0, Value.slice none 0 0] 82)) w.heap.size 23 (cells8 root).toArray) := (((Blk.new w _ _).alloc _).alloc _).alloc _
 clear hs1 hs2 hs3
 have Fr := Lib.hid (fit (x := root) hrt)
 have zc1 : (cells8 root).length = 32 := by rw [cells8_len, hrt]
 have zc2 : (cells8 root).toArray.size = 32 := by rw [List.size_toArray, zc1]
 have zc3 := fold_size s root hrt
 have hsz : ((((w.alloc (.cells (cells8 root).toArray 23)).alloc (.cells #[Value.int .i64 x1, Value.int .i64 x2, Value.slice A2 n c2] 31)).alloc (.cells #[Value.int .i64 y1, Value.int .i64 y2, Value.slice B2 m d2] 31)).alloc (.cells #[Value.slice none 0 0, Value.slice none 0 0] 82)).heap.size = w.heap.size + 1 + 1 + 1 + 1 := by simp
 have hE1 := hE.out _ hb1.out
 rw [hsz] at hE1
 replace hE1 := Lib.hid hE1
 have hrth := Lib.hid hrt
 clear hE hrt hsz
 subst h1 h2
 go_enter Tryd.func42, Tryd.ntmps42
 go_wp2_with (first
  | (go_at_call 99; refine (hEq.out _ hb1.out).mono ?_; rintro e w2 ⟨rfl, rfl⟩)
  | ((with_reducible change wpList _ _ _ (⟨some 34, _, _, _, _, _⟩ :: _) _ _); refine wpList_load_row (o := ⟨some 34, _, _, _, _, _⟩) rfl 23 (.tmp 7) rfl (w.heap.size) rfl 23 ((cells8 root).toArray) (0, 0) _ hR1.out Tryd.underlying23 rfl Fr.out.size ?_)
  | ((with_reducible change wpList _ _ _ (⟨some 36, _, _, _, _, _⟩ :: _) _ _); refine wpList_load_row (o := ⟨some 36, _, _, _, _, _⟩) rfl 31 (.tmp 9) rfl (w.heap.size + 1) rfl 31 (#[Value.int .i64 x1, Value.int .i64 x2, Value.slice A2 n c2]) (0, 0) _ hP1.out Tryd.underlying31 rfl sizeI ?_)
  | ((with_reducible change wpList _ _ _ (⟨some 40, _, _, _, _, _⟩ :: _) _ _); refine wpList_load_row (o := ⟨some 40, _, _, _, _, _⟩) rfl 23 (.tmp 7) rfl (w.heap.size) rfl 23 ((cells8 root).toArray) (0, 0) _ hR1.out Tryd.underlying23 rfl Fr.out.size ?_)
  | ((with_reducible change wpList _ _ _ (⟨some 42, _, _, _, _, _⟩ :: _) _ _); refine wpList_load_row (o := ⟨some 42, _, _, _, _, _⟩) rfl 31 (.tmp 11) rfl (w.heap.size + 2) rfl 31 (#[Value.int .i64 x1, Value.int .i64 x2, Value.slice B2 m d2]) (0, 0) _ hQ1.out Tryd.underlying31 rfl sizeI ?_))
 rw [build_inc s root hrth.out, build_inc s root hrth.out]
 refine hE1.out.mono ?_
 rintro e w2 ⟨hk2, hcase⟩
 have hX2 : Hid (Blk w2 (w.heap.size + 3) 82 #[Value.slice none 0 0, Value.slice none 0 0]) := (hk2.block _ hX1.out.lt).trans hX1.out
 have hb2 : Hid (Below w.heap.size w w2) := hb1.out.trans (hk2.mono hb1.out.size)
 have hlt := hX1.out.lt
 have hws := hb1.out.size
 rcases hcase with ⟨rfl, rfl⟩ | ⟨rfl, va, vb, p, q, rfl, hp, hq, hne, hsum, oa, ob⟩
 ·clear hk2 hE1 zc1 zc2 zc3 hP1 hQ1 hR1 hlt hws
  go_wp2_with ((with_reducible change wpList _ _ _ ({ dst := none, op := Op.store 82 _ _, type := _, pos := _, after := _, guard := _ } :: _) _ _); refine wpList_store_row (o := ⟨none, _, _, _, _, _⟩) rfl 82 (.tmp 12) (.tmp 47) rfl (w.heap.size + 3) (#[Value.slice none 0 0, Value.slice none 0 0]) rfl rfl 82 (#[Value.slice none 0 0, Value.slice none 0 0]) hX2.out sizeE2 rfl oneZ2 ?_)
  refine bodyPost_ret (results_cell_row2 rfl _ _ (w.heap.size + 3) 82 #[Value.slice none 0 0, Value.slice none 0 0] (0, 0) _ rfl (setRow_heap _ _ _ _ _ _ hX2.out) Tryd.underlying82 rfl sizeE2) rfl ?_
  exact TPost.no rfl (below_setRow hb2.out (by omega) _)
 ·obtain ⟨Aa, ca, rfl, -⟩ := Own.own_reads oa
  obtain ⟨Ab, cb, rfl, -⟩ := Own.own_reads ob
  have honeE : Hid (((#[Value.slice Aa p.length ca, Value.slice Ab q.length cb] : Array Value).all fun v => v.oneCell') = true) := by show _ = _; rw [List.all_toArray]; rfl
  replace oa := Lib.hid oa
  replace ob := Lib.hid ob
  replace hp := Lib.hid hp
  replace hq := Lib.hid hq
  replace hne := Lib.hid hne
  replace hsum := Lib.hid hsum
  replace hws := Lib.hid hws
  replace hlt := Lib.hid hlt
  clear hk2 hE1 zc1 zc2 zc3 hP1 hQ1 hR1
  go_wp2_with ((with_reducible change wpList _ _ _ ({ dst := none, op := Op.store 82 _ _, type := _, pos := _, after := _, guard := _ } :: _) _ _); refine wpList_store_row (o := ⟨none, _, _, _, _, _⟩) rfl 82 (.tmp 12) (.tmp 47) rfl (w.heap.size + 3) (#[Value.slice Aa p.length ca, Value.slice Ab q.length cb]) rfl rfl 82 (#[Value.slice none 0 0, Value.slice none 0 0]) hX2.out sizeE2 rfl honeE.out ?_)
  refine bodyPost_ret (results_cell_row2 rfl _ _ (w.heap.size + 3) 82 #[Value.slice Aa p.length ca, Value.slice Ab q.length cb] (0, 0) _ rfl (setRow_heap _ _ _ _ _ _ hX2.out) Tryd.underlying82 rfl sizeE2) rfl ?_
  have hkk : Kept (· = w.heap.size + 3) w2 (w2.setRow (w.heap.size + 3) #[Value.slice Aa p.length ca, Value.slice Ab q.length cb]) := Bytes.Kept.setRow (S := (· = w.heap.size + 3)) (Kept.refl _ _) rfl _
  exact ⟨below_setRow hb2.out (by omega) _, .inr ⟨rfl, _, _, p, q, rfl, hp.out, hq.out, hne.out, hsum.out, own_far (own_base8 oa.out hws.out) hkk oa.out hlt.out, own_far (own_base8 ob.out hws.out) hkk ob.out hlt.out⟩⟩
theorem extract_T (L : List Ans) (want : Bool) (hw : want = true → (∀ a ∈ L, a.tk = true) ∧ TwiceP.Met s (L.flatMap (·.ts))) (hw2 : want = false → ¬ ∀ a ∈ L, a.tk = true) (w' w2 : World) (cs : Array Value) (T : TypeId) (e : Ending) (h : EPost (w'.alloc (.cells cs T)) s L e w2) : TPost w' s want (L.flatMap (·.ts)) e w2 := by
 obtain ⟨hb, h⟩ := h
 have hle : w'.heap.size ≤ (w'.alloc (.cells cs T)).heap.size := by simp
 have hb2 : Below w'.heap.size w' w2 := (Below.heap_below w' _).trans (hb.mono hle)
 rcases h with ⟨rfl, hn⟩ | ⟨va, vb, p, q, rfl, hall, hp, hq, hne, hs, oa, ob⟩
 ·cases want with
  | true => exact absurd (hw rfl) hn
  | false => exact TPost.no rfl hb2
 ·cases want with
  | false => exact absurd hall (hw2 rfl)
  | true => exact ⟨hb2, .inr ⟨rfl, va, vb, p, q, rfl, hp, hq, hne, hs, own_base8 oa hle, own_base8 ob hle⟩⟩
end
end Go.Proofs.YtmdkfhfkdcbpgaaDoorR.TwoEv

namespace Go.Proofs.YtmdkfhfkdcbpgaaDoorR.Joined
open Go Go.RowKit Go.Proofs.YtmdkfhfkdcbpgaaDoorR Mem Sha Bytes HashMem DigestMem QuietTail TreeMem TreeRoot Go.Proofs.YtmdkfhfkdcbpgaaDoorR.Append Held Guard Node Ref17 Book Agree AudJoins AheadT RowsT RowsY TwiceP Extract Included TwoEv SizesP AheadAny

theorem sizeC : (Tryd.prog.info? 91).map (·.size) = some 3 := by kernel_rfl
def joinV (s : Int) (r0 r1 : Text) (j1 j2 : Int) (A : Option Addr) (n c : Nat) : List Value := Value.int .i64 s :: (cells8 r0 ++ (cells8 r1 ++ [Value.int .i64 j1, Value.int .i64 j2, Value.slice A n c]))
section
variable {s j1 j2 : Int} {r0 r1 : Text} {A : Option Addr} {n c : Nat}
theorem joinV_0 : (joinV s r0 r1 j1 j2 A n c)[0]? = some (.int .i64 s) := rfl
theorem joinV_r0 (j : Nat) (v : Value) (hv : (cells8 r0)[j]? = some v) : (joinV s r0 r1 j1 j2 A n c)[1 + j]? = some v := by
 rw [Nat.add_comm, joinV, List.getElem?_cons_succ, List.getElem?_append_left (List.getElem?_eq_some_iff.1 hv).1]
 exact hv
theorem joinV_r1 (h : r0.length = 32) (j : Nat) (v : Value) (hv : (cells8 r1)[j]? = some v) : (joinV s r0 r1 j1 j2 A n c)[33 + j]? = some v := by
 have hl : (cells8 r0).length = 32 := by rw [cells8_len, h]
 rw [show 33 + j = (32 + j) + 1 by omega, joinV, List.getElem?_cons_succ, List.getElem?_append_right (by omega), hl, Nat.add_sub_cancel_left, List.getElem?_append_left (List.getElem?_eq_some_iff.1 hv).1]
 exact hv
theorem joinV_end (h : r0.length = 32) (h1 : r1.length = 32) (j : Nat) : (joinV s r0 r1 j1 j2 A n c)[65 + j]? = [Value.int .i64 j1, Value.int .i64 j2, Value.slice A n c][j]? := by
 have hl : (cells8 r0).length = 32 := by rw [cells8_len, h]
 have hl1 : (cells8 r1).length = 32 := by rw [cells8_len, h1]
 rw [show 65 + j = (32 + (32 + j)) + 1 by omega, joinV, List.getElem?_cons_succ, List.getElem?_append_right (by omega), hl, Nat.add_sub_cancel_left, List.getElem?_append_right (by omega), hl1, Nat.add_sub_cancel_left]
end
set_option maxRecDepth 100000 in
set_option maxHeartbeats 2000000 in
theorem jtaken_any (s : Int) (r0 r1 : Text) (h0 : r0.length = 32) (h1 : r1.length = 32) (j1 j2 : Int) (js : List Text) (A : Option Addr) (n c : Nat) (hn : n ≤ 300) (w : World) (hB : Base w) (hrd : RdD w A n js) :
  Calls Tryd.prog 203 #[.agg (joinV s r0 r1 j1 j2 A n c).toArray] w fun e w' => e = .returned (.bool (audJoins s r0 r1 j1 j2 js == 0)) ∧ Below w.heap.size w w' := by
 have hIn := Lib.hid (fun w' (hb : Below w.heap.size w w') => audJoins_any s r0 r1 h0 h1 j1 j2 js A n c (by omega) w' (hB.below hb hB.1) (hrd.below hb))
 unfold inclCells at hIn
 obtain ⟨cs, hcs⟩ : ∃ cs, Hid ((joinV s r0 r1 j1 j2 A n c).toArray = cs) := ⟨_, Lib.hid rfl⟩
 have hb0 : Hid (Below w.heap.size w (w.alloc (.cells cs 162))) := Below.heap_below w _
 have hP : Hid (Blk (w.alloc (.cells cs 162)) w.heap.size 162 cs) := Blk.new w _ _
 have c0 : (w.alloc (.cells cs 162)).cell? ⟨w.heap.size, 0, none⟩ = some (.int .i64 s) := by rw [hP.out.cell 0, ← hcs.out, List.getElem?_toArray]; exact joinV_0
 have hq0 : Hid (∀ j v, (cells8 r0)[j]? = some v → (w.alloc (.cells cs 162)).cell? ⟨w.heap.size, 1 + j, none⟩ = some v) := fun j v h => by rw [hP.out.cell (1 + j), ← hcs.out, List.getElem?_toArray]; exact joinV_r0 j v h
 have hsz0 : Hid ((Tryd.prog.info? 23).map (·.size) = some (cells8 r0).length) := by show _ = _; rw [cells8_len, h0]; exact size31
 have hq1 : Hid (∀ j v, (cells8 r1)[j]? = some v → (w.alloc (.cells cs 162)).cell? ⟨w.heap.size, 33 + j, none⟩ = some v) := fun j v h => by rw [hP.out.cell (33 + j), ← hcs.out, List.getElem?_toArray]; exact joinV_r1 h0 j v h
 have hpr : Hid (∀ j v, [Value.int .i64 j1, Value.int .i64 j2, Value.slice A n c][j]? = some v → (w.alloc (.cells cs 162)).cell? ⟨w.heap.size, 65 + j, none⟩ = some v) := fun j v h => by
  rw [hP.out.cell (65 + j), ← hcs.out, List.getElem?_toArray, joinV_end h0 h1 j]
  exact h
 have hsz1 : Hid ((Tryd.prog.info? 23).map (·.size) = some (cells8 r1).length) := by show _ = _; rw [cells8_len, h1]; exact size31
 obtain ⟨bb, hbb⟩ : ∃ b, (audJoins s r0 r1 j1 j2 js == 0) = b := ⟨_, rfl⟩
 rw [hcs.out, hbb]
 clear h0 h1 hn hB hrd hcs hP
 go_enter Tryd.func203, Tryd.ntmps203
 go_wp2_with (first
  | ((with_reducible change wpList _ _ _ (⟨some 6, _, _, _, _, _⟩ :: _) _ _); refine wpList_load_part (o := ⟨some 6, _, _, _, _, _⟩) rfl 23 (.tmp 5) rfl w.heap.size 1 rfl (cells8 r0) _ hq0.out Tryd.underlying23 rfl hsz0.out ?_)
  | ((with_reducible change wpList _ _ _ (⟨some 8, _, _, _, _, _⟩ :: _) _ _); refine wpList_load_part (o := ⟨some 8, _, _, _, _, _⟩) rfl 23 (.tmp 7) rfl w.heap.size 33 rfl (cells8 r1) _ hq1.out Tryd.underlying23 rfl hsz1.out ?_)
  | ((with_reducible change wpList _ _ _ (⟨some 10, _, _, _, _, _⟩ :: _) _ _); refine wpList_load_part (o := ⟨some 10, _, _, _, _, _⟩) rfl 91 (.tmp 9) rfl w.heap.size 65 rfl ([Value.int .i64 j1, Value.int .i64 j2, Value.slice A n c]) _ hpr.out Tryd.underlying91 rfl sizeC ?_))
 refine (hIn.out _ hb0.out).mono ?_
 rintro e w1 ⟨rfl, hk1⟩
 have hb1 := Lib.hid (hb0.out.trans (hk1.mono hb0.out.size))
 clear hk1 hb0 hIn c0 hq0 hq1 hpr
 go_wp2_with fail
 go_ret
 exact ⟨rfl, hb1.out⟩

set_option maxRecDepth 100000 in
set_option maxHeartbeats 2000000 in
theorem jtexts_any (s : Int) (r0 r1 : Text) (h0 : r0.length = 32) (h1 : r1.length = 32) (j1 j2 : Int) (js : List Text) (A : Option Addr) (n c : Nat) (w : World) (hB : Base w) (hrd : RdD w A n js) (htk : agreeOf s j1 j2 r0 r1 js = 0) :
  Calls Tryd.prog 204 #[.agg (joinV s r0 r1 j1 j2 A n c).toArray] w fun e w' => ∃ v xs, e = .returned v ∧ w'.ownsRow w.heap.size 27 1 v (jointTs s j1 j2 r0 js).length xs ∧ Ty w' xs (jointTs s j1 j2 r0 js) ∧ Below w.heap.size w w' := by
 have hIn := Lib.hid (fun w' (hb : Below w.heap.size w w') => ahead_ts s r0 A n c w' (hB.below hb hB.1) h0 r1 j1 j2 js (hrd.below hb) htk)
 obtain ⟨cs, hcs⟩ : ∃ cs, Hid ((joinV s r0 r1 j1 j2 A n c).toArray = cs) := ⟨_, Lib.hid rfl⟩
 have hb0 : Hid (Below w.heap.size w (w.alloc (.cells cs 162))) := Below.heap_below w _
 have hP : Hid (Blk (w.alloc (.cells cs 162)) w.heap.size 162 cs) := Blk.new w _ _
 have c0 : (w.alloc (.cells cs 162)).cell? ⟨w.heap.size, 0, none⟩ = some (.int .i64 s) := by rw [hP.out.cell 0, ← hcs.out, List.getElem?_toArray]; exact joinV_0
 have hq0 : Hid (∀ j v, (cells8 r0)[j]? = some v → (w.alloc (.cells cs 162)).cell? ⟨w.heap.size, 1 + j, none⟩ = some v) := fun j v h => by rw [hP.out.cell (1 + j), ← hcs.out, List.getElem?_toArray]; exact joinV_r0 j v h
 have hsz0 : Hid ((Tryd.prog.info? 23).map (·.size) = some (cells8 r0).length) := by show _ = _; rw [cells8_len, h0]; exact size31
 have c65 : (w.alloc (.cells cs 162)).cell? ⟨w.heap.size, 65, none⟩ = some (.int .i64 j1) := by rw [hP.out.cell 65, ← hcs.out, List.getElem?_toArray]; exact joinV_end h0 h1 0
 have c66 : (w.alloc (.cells cs 162)).cell? ⟨w.heap.size, 66, none⟩ = some (.int .i64 j2) := by rw [hP.out.cell 66, ← hcs.out, List.getElem?_toArray]; exact joinV_end h0 h1 1
 have c67 : (w.alloc (.cells cs 162)).cell? ⟨w.heap.size, 67, none⟩ = some (.slice A n c) := by rw [hP.out.cell 67, ← hcs.out, List.getElem?_toArray]; exact joinV_end h0 h1 2
 rw [hcs.out]
 clear h0 h1 hB hrd hcs hP htk
 go_enter Tryd.func204, Tryd.ntmps204
 go_wp2_with ((with_reducible change wpList _ _ _ (⟨some 17, _, _, _, _, _⟩ :: _) _ _); refine wpList_load_part (o := ⟨some 17, _, _, _, _, _⟩) rfl 23 (.tmp 16) rfl w.heap.size 1 rfl (cells8 r0) _ hq0.out Tryd.underlying23 rfl hsz0.out ?_)
 refine (hIn.out _ hb0.out).mono ?_
 rintro e w5 ⟨d1, d2, v, xs, kq, hd1, hd2, rfl, hO5, hT5, kk⟩
 replace hO5 := Lib.hid (own_down hO5 hb0.out.size)
 replace hT5 := Lib.hid hT5
 have hb5 : Hid (Below w.heap.size w w5) := hb0.out.trans (kk.mono hb0.out.size)
 replace hd1 := Lib.hid hd1
 replace hd2 := Lib.hid hd2
 obtain ⟨Av, cv, rfl, -⟩ := Append.Own.reads hO5.out
 clear kk hIn c0 c65 c66 c67 hq0
 go_wp2_with (first
  | ((with_reducible change wpList _ _ _ ({ dst := none, op := Op.store 23 (.tmp 3) _, type := _, pos := _, after := _, guard := _ } :: _) _ _); refine wpList_store_whole (o := ⟨none, _, _, _, _, _⟩) rfl 23 (.tmp 3) (.tmp 22) rfl (w5.heap.size) (d1) rfl rfl 23 (Z32) ((Blk.new w5 _ _).alloc _) hd1.out.size hd1.out.zero hd1.out.one ?_; intro w6 hX6 kk; have hY6 : Hid (Blk w6 (w5.heap.size + 1) 23 Z32) := Blk.kept (heap_alloc2_new w5 _ _) kk (by omega); have k56 : Hid (Below w5.heap.size w5 w6) := ((Below.heap_below w5 _).alloc (by simp) _).trans (Kept.below_of kk (Nat.le_refl _) (by simp; omega)); clear kk hX6)
  | ((with_reducible change wpList _ _ _ ({ dst := none, op := Op.store 23 (.tmp 4) _, type := _, pos := _, after := _, guard := _ } :: _) _ _); refine wpList_store_whole (o := ⟨none, _, _, _, _, _⟩) rfl 23 (.tmp 4) (.tmp 23) rfl (w5.heap.size + 1) (d2) rfl rfl 23 (Z32) hY6.out hd2.out.size hd2.out.zero hd2.out.one ?_; intro w7 hY7 kk; have k57 : Below w5.heap.size w5 w7 := k56.out.trans (Kept.below_of kk (by omega) k56.out.size); have hb7 : Hid (Below w.heap.size w w7) := hb5.out.trans (k57.mono hb5.out.size); replace k57 := Lib.hid k57; clear kk k56 hY6 hY7))
 go_ret
 exact ⟨_, xs, rfl, Own.own_below hO5.out k57.out, hT5.out.below k57.out, hb7.out⟩
set_option maxRecDepth 100000 in
set_option maxHeartbeats 2000000 in
theorem joint_any20 (s : Int) (hs63 : s < 9223372036854775808) (r0 : Text) (h0 : r0.length = 32) (j1 j2 : Int) (js : List Text) (A : Option Addr) (n c : Nat) (w : World) (hrd : RdD w A n js) :
  Calls Tryd.prog 48 #[.int .i64 s, .agg (cells8 r0).toArray, .agg (inclCells j1 j2 A n c)] w fun e w' => ∃ A' c' xs, e = .returned (.slice A' (jointTs s j1 j2 r0 js).length c') ∧ (A' = none → (jointTs s j1 j2 r0 js).length = 0 ∧ c' = 0) ∧ Reads w' 1 A' (jointTs s j1 j2 r0 js).length xs ∧ Tx w' xs (jointTs s j1 j2 r0 js) ∧ Below w.heap.size w w' := by
 unfold inclCells
 have hIn := Lib.hid (fun w' (hb : Below w.heap.size w w') => refahead_ts s r0 A n c w' hs63 h0 j1 j2 js (hrd.below hb))
 have hb0 : Hid (Below w.heap.size w ((w.alloc (.cells (cells8 r0).toArray 23)).alloc (.cells #[Value.int .i64 j1, Value.int .i64 j2, Value.slice A n c] 91))) := (Below.heap_below w _).alloc (by simp) _
 have hR0 : Hid (Blk ((w.alloc (.cells (cells8 r0).toArray 23)).alloc (.cells #[Value.int .i64 j1, Value.int .i64 j2, Value.slice A n c] 91)) w.heap.size 23 (cells8 r0).toArray) := (Blk.new w _ _).alloc _
 have F0 := Lib.hid (DA.d h0)
 obtain ⟨N, hN⟩ : ∃ N, (jointTs s j1 j2 r0 js).length = N := ⟨_, rfl⟩
 obtain ⟨T, hT⟩ : ∃ T, jointTs s j1 j2 r0 js = T := ⟨_, rfl⟩
 rw [hN, hT] at hIn
 rw [hN, hT]
 clear h0 hrd hs63 hN hT
 go_enter Tryd.func48, Tryd.ntmps48
 go_wp2_with ((with_reducible change wpList _ _ _ (⟨some 17, _, _, _, _, _⟩ :: _) _ _); refine wpList_load_row (o := ⟨some 17, _, _, _, _, _⟩) rfl 23 (.tmp 4) rfl (w.heap.size) rfl 23 ((cells8 r0).toArray) (0, 0) _ hR0.out Tryd.underlying23 rfl F0.out.size ?_)
 refine (hIn.out _ hb0.out).mono ?_
 rintro e w5 ⟨d1, d2, A5, c5, xs, kq, hd1, hd2, rfl, hn5, hrd5, hT5, kk⟩
 have hb5 : Hid (Below w.heap.size w w5) := hb0.out.trans (kk.mono hb0.out.size)
 replace hn5 := Lib.hid hn5
 replace hrd5 := Lib.hid hrd5
 replace hT5 := Lib.hid hT5
 replace hd1 := Lib.hid hd1
 replace hd2 := Lib.hid hd2
 clear kk hIn
 go_wp2_with (first
  | ((with_reducible change wpList _ _ _ ({ dst := none, op := Op.store 23 (.tmp 7) _, type := _, pos := _, after := _, guard := _ } :: _) _ _); refine wpList_store_whole (o := ⟨none, _, _, _, _, _⟩) rfl 23 (.tmp 7) (.tmp 21) rfl (w5.heap.size) (d1) rfl rfl 23 (Z32) ((Blk.new w5 _ _).alloc _) hd1.out.size hd1.out.zero hd1.out.one ?_; intro w6 hX6 kk; have hY6 : Hid (Blk w6 (w5.heap.size + 1) 23 Z32) := Blk.kept (heap_alloc2_new w5 _ _) kk (by omega); have k56 : Hid (Below w5.heap.size w5 w6) := ((Below.heap_below w5 _).alloc (by simp) _).trans (Kept.below_of kk (Nat.le_refl _) (by simp; omega)); clear kk hX6)
  | ((with_reducible change wpList _ _ _ ({ dst := none, op := Op.store 23 (.tmp 8) _, type := _, pos := _, after := _, guard := _ } :: _) _ _); refine wpList_store_whole (o := ⟨none, _, _, _, _, _⟩) rfl 23 (.tmp 8) (.tmp 22) rfl (w5.heap.size + 1) (d2) rfl rfl 23 (Z32) hY6.out hd2.out.size hd2.out.zero hd2.out.one ?_; intro w7 hY7 kk; have k57 : Below w5.heap.size w5 w7 := k56.out.trans (Kept.below_of kk (by omega) k56.out.size); have hb7 : Hid (Below w.heap.size w w7) := hb5.out.trans (k57.mono hb5.out.size); replace k57 := Lib.hid k57; clear kk k56 hY6 hY7))
 go_ret
 exact ⟨A5, c5, xs, rfl, hn5.out, hrd5.out.below k57.out, hT5.out.below k57.out, hb7.out⟩
def joAns (s : Int) (r0 r1 : Text) (j1 j2 : Int) (js : List Text) (A : Option Addr) (n c : Nat) : Ans := ⟨162, .agg (joinV s r0 r1 j1 j2 A n c).toArray, audJoins s r0 r1 j1 j2 js == 0, jointTs s j1 j2 r0 js⟩
set_option maxRecDepth 100000 in
theorem joAns_ok (s : Int) (r0 r1 : Text) (h0 : r0.length = 32) (h1 : r1.length = 32) (j1 j2 : Int) (js : List Text) (A : Option Addr) (n c : Nat) (hn : n ≤ 300) (w : World) (hB : Base w) (hrd : RdD w A n js) : AnsOk w (joAns s r0 r1 j1 j2 js A n c) := by
 obtain ⟨hl, hf⟩ := joint_long s r0 h0 (x1 := j1) (x2 := j2) hrd.2.1
 refine ⟨⟨203, fun F w' e => by subst e; kernel_rfl, fun w' => by kernel_rfl, fun w' hb => jtaken_any s r0 r1 h0 h1 j1 j2 js A n c hn w' (hB.below hb hB.1) (hrd.below hb)⟩, fun htk => ⟨204, fun F w' e => by subst e; kernel_rfl, fun w' => by kernel_rfl, fun w' hb => jtexts_any s r0 r1 h0 h1 j1 j2 js A n c w' (hB.below hb hB.1) (hrd.below hb) (joins_zero (eq_of_beq htk))⟩, fun _ q hq => by rw [hl q hq]; exact ⟨by decide, by decide⟩, fun _ => Nat.le_trans hf (by decide)⟩
end Go.Proofs.YtmdkfhfkdcbpgaaDoorR.Joined

namespace Go.Proofs.YtmdkfhfkdcbpgaaDoorR.TwoSz
open Go Go.RowKit Go.Proofs.YtmdkfhfkdcbpgaaDoorR Mem Sha Bytes HashMem DigestMem TreeMem TreeRoot Go.Proofs.YtmdkfhfkdcbpgaaDoorR.Append Held Guard Chain ProofEnc Ref17 TwiceP Clash RowsY Extract Book AudIncl Way20 TwoEvP Included TwoEv Joined

theorem fold_j0 (s : Int) (r0 : Text) (h : r0.length = 32) : ((cells8 r0).zipIdx.foldl (fun (cs : Array Value) (x : Value × Nat) => cs.setIfInBounds (1 + x.2) x.1) (Tryd.zeroCells162.setIfInBounds 0 (Value.int .i64 s))) = ([Value.int .i64 s] ++ cells8 r0 ++ (List.replicate 32 (Value.int .u8 0) ++ [Value.int .i64 0, Value.int .i64 0, Value.slice none 0 0])).toArray := by
 have hz : (Tryd.zeroCells162.setIfInBounds 0 (Value.int .i64 s)) = ([Value.int .i64 s] ++ List.replicate 32 (Value.int .u8 0) ++ (List.replicate 32 (Value.int .u8 0) ++ [Value.int .i64 0, Value.int .i64 0, Value.slice none 0 0])).toArray := by kernel_rfl
 rw [hz]
 exact fold_at (cells8 r0) (List.replicate 32 (Value.int .u8 0)) [Value.int .i64 s] (List.replicate 32 (Value.int .u8 0) ++ [Value.int .i64 0, Value.int .i64 0, Value.slice none 0 0]) 0 1 rfl (by simp [cells8_len, h])
theorem fold_j1 (s : Int) (r0 r1 : Text) (h : r0.length = 32) (h1 : r1.length = 32) : ((cells8 r1).zipIdx.foldl (fun (cs : Array Value) (x : Value × Nat) => cs.setIfInBounds (33 + x.2) x.1) ((cells8 r0).zipIdx.foldl (fun (cs : Array Value) (x : Value × Nat) => cs.setIfInBounds (1 + x.2) x.1) (Tryd.zeroCells162.setIfInBounds 0 (Value.int .i64 s)))) = (([Value.int .i64 s] ++ cells8 r0) ++ cells8 r1 ++ [Value.int .i64 0, Value.int .i64 0, Value.slice none 0 0]).toArray := by
 rw [fold_j0 s r0 h]
 have := fold_at (cells8 r1) (List.replicate 32 (Value.int .u8 0)) ([Value.int .i64 s] ++ cells8 r0) [Value.int .i64 0, Value.int .i64 0, Value.slice none 0 0] 0 33 (by simp [cells8_len, h]) (by simp [cells8_len, h1])
 rw [← List.append_assoc]
 exact this
theorem size_j0 (s : Int) (r0 : Text) (h : r0.length = 32) : ((cells8 r0).zipIdx.foldl (fun (cs : Array Value) (x : Value × Nat) => cs.setIfInBounds (1 + x.2) x.1) (Tryd.zeroCells162.setIfInBounds 0 (Value.int .i64 s))).size = 68 := by
 rw [fold_j0 s r0 h]
 simp [cells8_len, h]
theorem size_j1 (s : Int) (r0 r1 : Text) (h : r0.length = 32) (h1 : r1.length = 32) : ((cells8 r1).zipIdx.foldl (fun (cs : Array Value) (x : Value × Nat) => cs.setIfInBounds (33 + x.2) x.1) ((cells8 r0).zipIdx.foldl (fun (cs : Array Value) (x : Value × Nat) => cs.setIfInBounds (1 + x.2) x.1) (Tryd.zeroCells162.setIfInBounds 0 (Value.int .i64 s)))).size = 68 := by
 rw [fold_j1 s r0 r1 h h1]
 simp [cells8_len, h, h1]
theorem build_join (s : Int) (r0 r1 : Text) (h : r0.length = 32) (h1 : r1.length = 32) (j1 j2 : Int) (A : Option Addr) (n c : Nat) : ((((cells8 r1).zipIdx.foldl (fun (cs : Array Value) (x : Value × Nat) => cs.setIfInBounds (33 + x.2) x.1) ((cells8 r0).zipIdx.foldl (fun (cs : Array Value) (x : Value × Nat) => cs.setIfInBounds (1 + x.2) x.1) (Tryd.zeroCells162.setIfInBounds 0 (Value.int .i64 s)))).setIfInBounds 65 (.int .i64 j1)).setIfInBounds 66 (.int .i64 j2)).setIfInBounds 67 (.slice A n c) = (joinV s r0 r1 j1 j2 A n c).toArray := by
 have hl : (([Value.int .i64 s] ++ cells8 r0) ++ cells8 r1).length = 65 := by simp [cells8_len, h, h1]
 rw [fold_j1 s r0 r1 h h1]
 simp only [List.setIfInBounds_toArray]
 congr 1
 rw [List.set_append_right _ _ (by omega), List.set_append_right _ _ (by omega), List.set_append_right _ _ (by omega), hl]
 simp [joinV]
section
variable (s : Int) (r0 r1 : Text) (e f : Text) (k l : Nat) (A B : Option Addr) (c d : Nat) (j1 j2 x1 x2 y1 y2 : Int) (A3 A2 B2 : Option Addr) (o3 c3 n c2 m d2 : Nat) (w : World)
set_option maxRecDepth 100000 in
set_option maxHeartbeats 1000000 in
theorem no_j1 (ts : List Text) (h1 : ¬ x1 = j1) : Calls Tryd.prog 47 #[.int .i64 s, .agg (cells8 r0).toArray, .agg (cells8 r1).toArray, .agg (inclCells j1 j2 A3 o3 c3), .slice A k c, .agg (inclCells x1 x2 A2 n c2), .slice B l d, .agg (inclCells y1 y2 B2 m d2)] w (TPost w s false ts) := by
 unfold inclCells
 have hb1 : Hid (Below w.heap.size w ((((((w.alloc (.cells (cells8 r0).toArray 23)).alloc (.cells (cells8 r1).toArray 23)).alloc (.cells #[Value.int .i64 j1, Value.int .i64 j2, Value.slice A3 o3 c3] 91)).alloc (.cells #[Value.int .i64 x1, Value.int .i64 x2, Value.slice A2 n c2] 31)).alloc (.cells #[Value.int .i64 y1, Value.int .i64 y2, Value.slice B2 m d2] 31)).alloc (.cells #[Value.slice none 0 0, Value.slice none 0 0] 82))) := ((((((Below.refl _ w).alloc (Nat.le_refl _) _).alloc (by simp) _).alloc (by simp; omega) _).alloc (by simp; omega) _).alloc (by simp; omega) _).alloc (by simp; omega) _
 have hs5 : (((((w.alloc (.cells (cells8 r0).toArray 23)).alloc (.cells (cells8 r1).toArray 23)).alloc (.cells #[Value.int .i64 j1, Value.int .i64 j2, Value.slice A3 o3 c3] 91)).alloc (.cells #[Value.int .i64 x1, Value.int .i64 x2, Value.slice A2 n c2] 31)).alloc (.cells #[Value.int .i64 y1, Value.int .i64 y2, Value.slice B2 m d2] 31)).heap.size = w.heap.size + 5 := by simp
 have hs4 : ((((w.alloc (.cells (cells8 r0).toArray 23)).alloc (.cells (cells8 r1).toArray 23)).alloc (.cells #[Value.int .i64 j1, Value.int .i64 j2, Value.slice A3 o3 c3] 91)).alloc (.cells #[Value.int .i64 x1, Value.int .i64 x2, Value.slice A2 n c2] 31)).heap.size = w.heap.size + 4 := by simp
 have hs3 : (((w.alloc (.cells (cells8 r0).toArray 23)).alloc (.cells (cells8 r1).toArray 23)).alloc (.cells #[Value.int .i64 j1, Value.int .i64 j2, Value.slice A3 o3 c3] 91)).heap.size = w.heap.size + 3 := by simp
 have hs2 : ((w.alloc (.cells (cells8 r0).toArray 23)).alloc (.cells (cells8 r1).toArray 23)).heap.size = w.heap.size + 2 := by simp
 have hs1 : (w.alloc (.cells (cells8 r0).toArray 23)).heap.size = w.heap.size + 1 := by simp
 have hX1 : Hid (Blk ((((((w.alloc (.cells (cells8 r0).toArray 23)).alloc (.cells (cells8 r1).toArray 23)).alloc (.cells #[Value.int .i64 j1, Value.int .i64 j2, Value.slice A3 o3 c3] 91)).alloc (.cells #[Value.int .i64 x1, Value.int .i64 x2, Value.slice A2 n c2] 31)).alloc (.cells #[Value.int .i64 y1, Value.int .i64 y2, Value.slice B2 m d2] 31)).alloc (.cells #[Value.slice none 0 0, Value.slice none 0 0] 82)) (w.heap.size + 5) 82 #[Value.slice none 0 0, Value.slice none 0 0]) := by
  have := Blk.new (((((w.alloc (.cells (cells8 r0).toArray 23)).alloc (.cells (cells8 r1).toArray 23)).alloc (.cells #[Value.int .i64 j1, Value.int .i64 j2, Value.slice A3 o3 c3] 91)).alloc (.cells #[Value.int .i64 x1, Value.int .i64 x2, Value.slice A2 n c2] 31)).alloc (.cells #[Value.int .i64 y1, Value.int .i64 y2, Value.slice B2 m d2] 31)) 82 #[Value.slice none 0 0, Value.slice none 0 0]
  rwa [hs5] at this
 have hQ1 : Hid (Blk ((((((w.alloc (.cells (cells8 r0).toArray 23)).alloc (.cells (cells8 r1).toArray 23)).alloc (.cells #[Value.int .i64 j1, Value.int .i64 j2, Value.slice A3 o3 c3] 91)).alloc (.cells #[Value.int .i64 x1, Value.int .i64 x2, Value.slice A2 n c2] 31)).alloc (.cells #[Value.int .i64 y1, Value.int .i64 y2, Value.slice B2 m d2] 31)).alloc (.cells #[Value.slice none 0 0, Value.slice none 0 0] 82)) (w.heap.size + 4) 31 #[Value.int .i64 y1, Value.int .i64 y2, Value.slice B2 m d2]) := by
  have := Blk.new ((((w.alloc (.cells (cells8 r0).toArray 23)).alloc (.cells (cells8 r1).toArray 23)).alloc (.cells #[Value.int .i64 j1, Value.int .i64 j2, Value.slice A3 o3 c3] 91)).alloc (.cells #[Value.int .i64 x1, Value.int .i64 x2, Value.slice A2 n c2] 31)) 31 #[Value.int .i64 y1, Value.int .i64 y2, Value.slice B2 m d2]
  rw [hs4] at this
  exact this.alloc _
 have hP1 : Hid (Blk ((((((w.alloc (.cells (cells8 r0).toArray 23)).alloc (.cells (cells8 r1).toArray 23)).alloc (.cells #[Value.int .i64 j1, Value.int .i64 j2, Value.slice A3 o3 c3] 91)).alloc (.cells #[Value.int .i64 x1, Value.int .i64 x2, Value.slice A2 n c2] 31)).alloc (.cells #[Value.int .i64 y1, Value.int .i64 y2, Value.slice B2 m d2] 31)).alloc (.cells #[Value.slice none 0 0, Value.slice none 0 0] 82)) (w.heap.size + 3) 31 #[Value.int .i64 x1, Value.int .i64 x2, Value.slice A2 n c2]) := by
  have := Blk.new (((w.alloc (.cells (cells8 r0).toArray 23)).alloc (.cells (cells8 r1).toArray 23)).alloc (.cells #[Value.int .i64 j1, Value.int .i64 j2, Value.slice A3 o3 c3] 91)) 31 #[Value.int .i64 x1, Value.int .i64 x2, Value.slice A2 n c2]
  rw [hs3] at this
  exact (this.alloc _).alloc _
 have hJ1 : Hid (Blk ((((((w.alloc (.cells (cells8 r0).toArray 23)).alloc (.cells (cells8 r1).toArray 23)).alloc (.cells #[Value.int .i64 j1, Value.int .i64 j2, Value.slice A3 o3 c3] 91)).alloc (.cells #[Value.int .i64 x1, Value.int .i64 x2, Value.slice A2 n c2] 31)).alloc (.cells #[Value.int .i64 y1, Value.int .i64 y2, Value.slice B2 m d2] 31)).alloc (.cells #[Value.slice none 0 0, Value.slice none 0 0] 82)) (w.heap.size + 2) 91 #[Value.int .i64 j1, Value.int .i64 j2, Value.slice A3 o3 c3]) := by
  have := Blk.new ((w.alloc (.cells (cells8 r0).toArray 23)).alloc (.cells (cells8 r1).toArray 23)) 91 #[Value.int .i64 j1, Value.int .i64 j2, Value.slice A3 o3 c3]
  rw [hs2] at this
  exact ((this.alloc _).alloc _).alloc _
 have hS1 : Hid (Blk ((((((w.alloc (.cells (cells8 r0).toArray 23)).alloc (.cells (cells8 r1).toArray 23)).alloc (.cells #[Value.int .i64 j1, Value.int .i64 j2, Value.slice A3 o3 c3] 91)).alloc (.cells #[Value.int .i64 x1, Value.int .i64 x2, Value.slice A2 n c2] 31)).alloc (.cells #[Value.int .i64 y1, Value.int .i64 y2, Value.slice B2 m d2] 31)).alloc (.cells #[Value.slice none 0 0, Value.slice none 0 0] 82)) (w.heap.size + 1) 23 (cells8 r1).toArray) := by
  have := Blk.new (w.alloc (.cells (cells8 r0).toArray 23)) 23 (cells8 r1).toArray
  rw [hs1] at this
  exact (((this.alloc _).alloc _).alloc _).alloc _
 have hR1 : Hid (Blk ((((((w.alloc (.cells (cells8 r0).toArray 23)).alloc (.cells (cells8 r1).toArray 23)).alloc (.cells #[Value.int .i64 j1, Value.int .i64 j2, Value.slice A3 o3 c3] 91)).alloc (.cells #[Value.int .i64 x1, Value.int .i64 x2, Value.slice A2 n c2] 31)).alloc (.cells #[Value.int .i64 y1, Value.int .i64 y2, Value.slice B2 m d2] 31)).alloc (.cells #[Value.slice none 0 0, Value.slice none 0 0] 82)) w.heap.size 23 (cells8 r0).toArray) := (((((Blk.new w _ _).alloc _).alloc _).alloc _).alloc _).alloc _
 clear hs1 hs2 hs3 hs4 hs5
 go_enter Tryd.func47, Tryd.ntmps47
 go_wp2_with ((with_reducible change wpList _ _ _ ({ dst := none, op := Op.store 82 _ _, type := _, pos := _, after := _, guard := _ } :: _) _ _); refine wpList_store_row (o := ⟨none, _, _, _, _, _⟩) rfl 82 (.tmp 16) (.tmp 42) rfl (w.heap.size + 5) (#[Value.slice none 0 0, Value.slice none 0 0]) rfl rfl 82 (#[Value.slice none 0 0, Value.slice none 0 0]) hX1.out sizeE2 rfl oneZ2 ?_)
 refine bodyPost_ret (results_cell_row2 rfl _ _ (w.heap.size + 5) 82 #[Value.slice none 0 0, Value.slice none 0 0] (0, 0) _ rfl (setRow_heap _ _ _ _ _ _ hX1.out) Tryd.underlying82 rfl sizeE2) rfl ?_
 exact TPost.no rfl (below_setRow hb1.out (by omega) _)
set_option maxRecDepth 100000 in
set_option maxHeartbeats 1000000 in
theorem no_j2 (ts : List Text) (h1 : x1 = j1) (h2 : ¬ y1 = j2) : Calls Tryd.prog 47 #[.int .i64 s, .agg (cells8 r0).toArray, .agg (cells8 r1).toArray, .agg (inclCells j1 j2 A3 o3 c3), .slice A k c, .agg (inclCells x1 x2 A2 n c2), .slice B l d, .agg (inclCells y1 y2 B2 m d2)] w (TPost w s false ts) := by
 unfold inclCells
 have hb1 : Hid (Below w.heap.size w ((((((w.alloc (.cells (cells8 r0).toArray 23)).alloc (.cells (cells8 r1).toArray 23)).alloc (.cells #[Value.int .i64 j1, Value.int .i64 j2, Value.slice A3 o3 c3] 91)).alloc (.cells #[Value.int .i64 x1, Value.int .i64 x2, Value.slice A2 n c2] 31)).alloc (.cells #[Value.int .i64 y1, Value.int .i64 y2, Value.slice B2 m d2] 31)).alloc (.cells #[Value.slice none 0 0, Value.slice none 0 0] 82))) := ((((((Below.refl _ w).alloc (Nat.le_refl _) _).alloc (by simp) _).alloc (by simp; omega) _).alloc (by simp; omega) _).alloc (by simp; omega) _).alloc (by simp; omega) _
 have hs5 : (((((w.alloc (.cells (cells8 r0).toArray 23)).alloc (.cells (cells8 r1).toArray 23)).alloc (.cells #[Value.int .i64 j1, Value.int .i64 j2, Value.slice A3 o3 c3] 91)).alloc (.cells #[Value.int .i64 x1, Value.int .i64 x2, Value.slice A2 n c2] 31)).alloc (.cells #[Value.int .i64 y1, Value.int .i64 y2, Value.slice B2 m d2] 31)).heap.size = w.heap.size + 5 := by simp
 have hs4 : ((((w.alloc (.cells (cells8 r0).toArray 23)).alloc (.cells (cells8 r1).toArray 23)).alloc (.cells #[Value.int .i64 j1, Value.int .i64 j2, Value.slice A3 o3 c3] 91)).alloc (.cells #[Value.int .i64 x1, Value.int .i64 x2, Value.slice A2 n c2] 31)).heap.size = w.heap.size + 4 := by simp
 have hs3 : (((w.alloc (.cells (cells8 r0).toArray 23)).alloc (.cells (cells8 r1).toArray 23)).alloc (.cells #[Value.int .i64 j1, Value.int .i64 j2, Value.slice A3 o3 c3] 91)).heap.size = w.heap.size + 3 := by simp
 have hs2 : ((w.alloc (.cells (cells8 r0).toArray 23)).alloc (.cells (cells8 r1).toArray 23)).heap.size = w.heap.size + 2 := by simp
 have hs1 : (w.alloc (.cells (cells8 r0).toArray 23)).heap.size = w.heap.size + 1 := by simp
 have hX1 : Hid (Blk ((((((w.alloc (.cells (cells8 r0).toArray 23)).alloc (.cells (cells8 r1).toArray 23)).alloc (.cells #[Value.int .i64 j1, Value.int .i64 j2, Value.slice A3 o3 c3] 91)).alloc (.cells #[Value.int .i64 x1, Value.int .i64 x2, Value.slice A2 n c2] 31)).alloc (.cells #[Value.int .i64 y1, Value.int .i64 y2, Value.slice B2 m d2] 31)).alloc (.cells #[Value.slice none 0 0, Value.slice none 0 0] 82)) (w.heap.size + 5) 82 #[Value.slice none 0 0, Value.slice none 0 0]) := by
  have := Blk.new (((((w.alloc (.cells (cells8 r0).toArray 23)).alloc (.cells (cells8 r1).toArray 23)).alloc (.cells #[Value.int .i64 j1, Value.int .i64 j2, Value.slice A3 o3 c3] 91)).alloc (.cells #[Value.int .i64 x1, Value.int .i64 x2, Value.slice A2 n c2] 31)).alloc (.cells #[Value.int .i64 y1, Value.int .i64 y2, Value.slice B2 m d2] 31)) 82 #[Value.slice none 0 0, Value.slice none 0 0]
  rwa [hs5] at this
 have hQ1 : Hid (Blk ((((((w.alloc (.cells (cells8 r0).toArray 23)).alloc (.cells (cells8 r1).toArray 23)).alloc (.cells #[Value.int .i64 j1, Value.int .i64 j2, Value.slice A3 o3 c3] 91)).alloc (.cells #[Value.int .i64 x1, Value.int .i64 x2, Value.slice A2 n c2] 31)).alloc (.cells #[Value.int .i64 y1, Value.int .i64 y2, Value.slice B2 m d2] 31)).alloc (.cells #[Value.slice none 0 0, Value.slice none 0 0] 82)) (w.heap.size + 4) 31 #[Value.int .i64 y1, Value.int .i64 y2, Value.slice B2 m d2]) := by
  have := Blk.new ((((w.alloc (.cells (cells8 r0).toArray 23)).alloc (.cells (cells8 r1).toArray 23)).alloc (.cells #[Value.int .i64 j1, Value.int .i64 j2, Value.slice A3 o3 c3] 91)).alloc (.cells #[Value.int .i64 x1, Value.int .i64 x2, Value.slice A2 n c2] 31)) 31 #[Value.int .i64 y1, Value.int .i64 y2, Value.slice B2 m d2]
  rw [hs4] at this
  exact this.alloc _
 have hP1 : Hid (Blk ((((((w.alloc (.cells (cells8 r0).toArray 23)).alloc (.cells (cells8 r1).toArray 23)).alloc (.cells #[Value.int .i64 j1, Value.int .i64 j2, Value.slice A3 o3 c3] 91)).alloc (.cells #[Value.int .i64 x1, Value.int .i64 x2, Value.slice A2 n c2] 31)).alloc (.cells #[Value.int .i64 y1, Value.int .i64 y2, Value.slice B2 m d2] 31)).alloc (.cells #[Value.slice none 0 0, Value.slice none 0 0] 82)) (w.heap.size + 3) 31 #[Value.int .i64 x1, Value.int .i64 x2, Value.slice A2 n c2]) := by
  have := Blk.new (((w.alloc (.cells (cells8 r0).toArray 23)).alloc (.cells (cells8 r1).toArray 23)).alloc (.cells #[Value.int .i64 j1, Value.int .i64 j2, Value.slice A3 o3 c3] 91)) 31 #[Value.int .i64 x1, Value.int .i64 x2, Value.slice A2 n c2]
  rw [hs3] at this
  exact (this.alloc _).alloc _
 have hJ1 : Hid (Blk ((((((w.alloc (.cells (cells8 r0).toArray 23)).alloc (.cells (cells8 r1).toArray 23)).alloc (.cells #[Value.int .i64 j1, Value.int .i64 j2, Value.slice A3 o3 c3] 91)).alloc (.cells #[Value.int .i64 x1, Value.int .i64 x2, Value.slice A2 n c2] 31)).alloc (.cells #[Value.int .i64 y1, Value.int .i64 y2, Value.slice B2 m d2] 31)).alloc (.cells #[Value.slice none 0 0, Value.slice none 0 0] 82)) (w.heap.size + 2) 91 #[Value.int .i64 j1, Value.int .i64 j2, Value.slice A3 o3 c3]) := by
  have := Blk.new ((w.alloc (.cells (cells8 r0).toArray 23)).alloc (.cells (cells8 r1).toArray 23)) 91 #[Value.int .i64 j1, Value.int .i64 j2, Value.slice A3 o3 c3]
  rw [hs2] at this
  exact ((this.alloc _).alloc _).alloc _
 have hS1 : Hid (Blk ((((((w.alloc (.cells (cells8 r0).toArray 23)).alloc (.cells (cells8 r1).toArray 23)).alloc (.cells #[Value.int .i64 j1, Value.int .i64 j2, Value.slice A3 o3 c3] 91)).alloc (.cells #[Value.int .i64 x1, Value.int .i64 x2, Value.slice A2 n c2] 31)).alloc (.cells #[Value.int .i64 y1, Value.int .i64 y2, Value.slice B2 m d2] 31)).alloc (.cells #[Value.slice none 0 0, Value.slice none 0 0] 82)) (w.heap.size + 1) 23 (cells8 r1).toArray) := by
  have := Blk.new (w.alloc (.cells (cells8 r0).toArray 23)) 23 (cells8 r1).toArray
  rw [hs1] at this
  exact (((this.alloc _).alloc _).alloc _).alloc _
 have hR1 : Hid (Blk ((((((w.alloc (.cells (cells8 r0).toArray 23)).alloc (.cells (cells8 r1).toArray 23)).alloc (.cells #[Value.int .i64 j1, Value.int .i64 j2, Value.slice A3 o3 c3] 91)).alloc (.cells #[Value.int .i64 x1, Value.int .i64 x2, Value.slice A2 n c2] 31)).alloc (.cells #[Value.int .i64 y1, Value.int .i64 y2, Value.slice B2 m d2] 31)).alloc (.cells #[Value.slice none 0 0, Value.slice none 0 0] 82)) w.heap.size 23 (cells8 r0).toArray) := (((((Blk.new w _ _).alloc _).alloc _).alloc _).alloc _).alloc _
 clear hs1 hs2 hs3 hs4 hs5
 subst h1
 go_enter Tryd.func47, Tryd.ntmps47
 go_wp2_with ((with_reducible change wpList _ _ _ ({ dst := none, op := Op.store 82 _ _, type := _, pos := _, after := _, guard := _ } :: _) _ _); refine wpList_store_row (o := ⟨none, _, _, _, _, _⟩) rfl 82 (.tmp 16) (.tmp 42) rfl (w.heap.size + 5) (#[Value.slice none 0 0, Value.slice none 0 0]) rfl rfl 82 (#[Value.slice none 0 0, Value.slice none 0 0]) hX1.out sizeE2 rfl oneZ2 ?_)
 refine bodyPost_ret (results_cell_row2 rfl _ _ (w.heap.size + 5) 82 #[Value.slice none 0 0, Value.slice none 0 0] (0, 0) _ rfl (setRow_heap _ _ _ _ _ _ hX1.out) Tryd.underlying82 rfl sizeE2) rfl ?_
 exact TPost.no rfl (below_setRow hb1.out (by omega) _)
set_option maxRecDepth 100000 in
set_option maxHeartbeats 1000000 in
theorem no_num (ts : List Text) (h1 : x1 = j1) (h2 : y1 = j2) (h3 : ¬ x2 = y2) : Calls Tryd.prog 47 #[.int .i64 s, .agg (cells8 r0).toArray, .agg (cells8 r1).toArray, .agg (inclCells j1 j2 A3 o3 c3), .slice A k c, .agg (inclCells x1 x2 A2 n c2), .slice B l d, .agg (inclCells y1 y2 B2 m d2)] w (TPost w s false ts) := by
 unfold inclCells
 have hb1 : Hid (Below w.heap.size w ((((((w.alloc (.cells (cells8 r0).toArray 23)).alloc (.cells (cells8 r1).toArray 23)).alloc (.cells #[Value.int .i64 j1, Value.int .i64 j2, Value.slice A3 o3 c3] 91)).alloc (.cells #[Value.int .i64 x1, Value.int .i64 x2, Value.slice A2 n c2] 31)).alloc (.cells #[Value.int .i64 y1, Value.int .i64 y2, Value.slice B2 m d2] 31)).alloc (.cells #[Value.slice none 0 0, Value.slice none 0 0] 82))) := ((((((Below.refl _ w).alloc (Nat.le_refl _) _).alloc (by simp) _).alloc (by simp; omega) _).alloc (by simp; omega) _).alloc (by simp; omega) _).alloc (by simp; omega) _
 have hs5 : (((((w.alloc (.cells (cells8 r0).toArray 23)).alloc (.cells (cells8 r1).toArray 23)).alloc (.cells #[Value.int .i64 j1, Value.int .i64 j2, Value.slice A3 o3 c3] 91)).alloc (.cells #[Value.int .i64 x1, Value.int .i64 x2, Value.slice A2 n c2] 31)).alloc (.cells #[Value.int .i64 y1, Value.int .i64 y2, Value.slice B2 m d2] 31)).heap.size = w.heap.size + 5 := by simp
 have hs4 : ((((w.alloc (.cells (cells8 r0).toArray 23)).alloc (.cells (cells8 r1).toArray 23)).alloc (.cells #[Value.int .i64 j1, Value.int .i64 j2, Value.slice A3 o3 c3] 91)).alloc (.cells #[Value.int .i64 x1, Value.int .i64 x2, Value.slice A2 n c2] 31)).heap.size = w.heap.size + 4 := by simp
 have hs3 : (((w.alloc (.cells (cells8 r0).toArray 23)).alloc (.cells (cells8 r1).toArray 23)).alloc (.cells #[Value.int .i64 j1, Value.int .i64 j2, Value.slice A3 o3 c3] 91)).heap.size = w.heap.size + 3 := by simp
 have hs2 : ((w.alloc (.cells (cells8 r0).toArray 23)).alloc (.cells (cells8 r1).toArray 23)).heap.size = w.heap.size + 2 := by simp
 have hs1 : (w.alloc (.cells (cells8 r0).toArray 23)).heap.size = w.heap.size + 1 := by simp
 have hX1 : Hid (Blk ((((((w.alloc (.cells (cells8 r0).toArray 23)).alloc (.cells (cells8 r1).toArray 23)).alloc (.cells #[Value.int .i64 j1, Value.int .i64 j2, Value.slice A3 o3 c3] 91)).alloc (.cells #[Value.int .i64 x1, Value.int .i64 x2, Value.slice A2 n c2] 31)).alloc (.cells #[Value.int .i64 y1, Value.int .i64 y2, Value.slice B2 m d2] 31)).alloc (.cells #[Value.slice none 0 0, Value.slice none 0 0] 82)) (w.heap.size + 5) 82 #[Value.slice none 0 0, Value.slice none 0 0]) := by
  have := Blk.new (((((w.alloc (.cells (cells8 r0).toArray 23)).alloc (.cells (cells8 r1).toArray 23)).alloc (.cells #[Value.int .i64 j1, Value.int .i64 j2, Value.slice A3 o3 c3] 91)).alloc (.cells #[Value.int .i64 x1, Value.int .i64 x2, Value.slice A2 n c2] 31)).alloc (.cells #[Value.int .i64 y1, Value.int .i64 y2, Value.slice B2 m d2] 31)) 82 #[Value.slice none 0 0, Value.slice none 0 0]
  rwa [hs5] at this
 have hQ1 : Hid (Blk ((((((w.alloc (.cells (cells8 r0).toArray 23)).alloc (.cells (cells8 r1).toArray 23)).alloc (.cells #[Value.int .i64 j1, Value.int .i64 j2, Value.slice A3 o3 c3] 91)).alloc (.cells #[Value.int .i64 x1, Value.int .i64 x2, Value.slice A2 n c2] 31)).alloc (.cells #[Value.int .i64 y1, Value.int .i64 y2, Value.slice B2 m d2] 31)).alloc (.cells #[Value.slice none 0 0, Value.slice none 0 0] 82)) (w.heap.size + 4) 31 #[Value.int .i64 y1, Value.int .i64 y2, Value.slice B2 m d2]) := by
  have := Blk.new ((((w.alloc (.cells (cells8 r0).toArray 23)).alloc (.cells (cells8 r1).toArray 23)).alloc (.cells #[Value.int .i64 j1, Value.int .i64 j2, Value.slice A3 o3 c3] 91)).alloc (.cells #[Value.int .i64 x1, Value.int .i64 x2, Value.slice A2 n c2] 31)) 31 #[Value.int .i64 y1, Value.int .i64 y2, Value.slice B2 m d2]
  rw [hs4] at this
  exact this.alloc _
 have hP1 : Hid (Blk ((((((w.alloc (.cells (cells8 r0).toArray 23)).alloc (.cells (cells8 r1).toArray 23)).alloc (.cells #[Value.int .i64 j1, Value.int .i64 j2, Value.slice A3 o3 c3] 91)).alloc (.cells #[Value.int .i64 x1, Value.int .i64 x2, Value.slice A2 n c2] 31)).alloc (.cells #[Value.int .i64 y1, Value.int .i64 y2, Value.slice B2 m d2] 31)).alloc (.cells #[Value.slice none 0 0, Value.slice none 0 0] 82)) (w.heap.size + 3) 31 #[Value.int .i64 x1, Value.int .i64 x2, Value.slice A2 n c2]) := by
  have := Blk.new (((w.alloc (.cells (cells8 r0).toArray 23)).alloc (.cells (cells8 r1).toArray 23)).alloc (.cells #[Value.int .i64 j1, Value.int .i64 j2, Value.slice A3 o3 c3] 91)) 31 #[Value.int .i64 x1, Value.int .i64 x2, Value.slice A2 n c2]
  rw [hs3] at this
  exact (this.alloc _).alloc _
 have hJ1 : Hid (Blk ((((((w.alloc (.cells (cells8 r0).toArray 23)).alloc (.cells (cells8 r1).toArray 23)).alloc (.cells #[Value.int .i64 j1, Value.int .i64 j2, Value.slice A3 o3 c3] 91)).alloc (.cells #[Value.int .i64 x1, Value.int .i64 x2, Value.slice A2 n c2] 31)).alloc (.cells #[Value.int .i64 y1, Value.int .i64 y2, Value.slice B2 m d2] 31)).alloc (.cells #[Value.slice none 0 0, Value.slice none 0 0] 82)) (w.heap.size + 2) 91 #[Value.int .i64 j1, Value.int .i64 j2, Value.slice A3 o3 c3]) := by
  have := Blk.new ((w.alloc (.cells (cells8 r0).toArray 23)).alloc (.cells (cells8 r1).toArray 23)) 91 #[Value.int .i64 j1, Value.int .i64 j2, Value.slice A3 o3 c3]
  rw [hs2] at this
  exact ((this.alloc _).alloc _).alloc _
 have hS1 : Hid (Blk ((((((w.alloc (.cells (cells8 r0).toArray 23)).alloc (.cells (cells8 r1).toArray 23)).alloc (.cells #[Value.int .i64 j1, Value.int .i64 j2, Value.slice A3 o3 c3] 91)).alloc (.cells #[Value.int .i64 x1, Value.int .i64 x2, Value.slice A2 n c2] 31)).alloc (.cells #[Value.int .i64 y1, Value.int .i64 y2, Value.slice B2 m d2] 31)).alloc (.cells #[Value.slice none 0 0, Value.slice none 0 0] 82)) (w.heap.size + 1) 23 (cells8 r1).toArray) := by
  have := Blk.new (w.alloc (.cells (cells8 r0).toArray 23)) 23 (cells8 r1).toArray
  rw [hs1] at this
  exact (((this.alloc _).alloc _).alloc _).alloc _
 have hR1 : Hid (Blk ((((((w.alloc (.cells (cells8 r0).toArray 23)).alloc (.cells (cells8 r1).toArray 23)).alloc (.cells #[Value.int .i64 j1, Value.int .i64 j2, Value.slice A3 o3 c3] 91)).alloc (.cells #[Value.int .i64 x1, Value.int .i64 x2, Value.slice A2 n c2] 31)).alloc (.cells #[Value.int .i64 y1, Value.int .i64 y2, Value.slice B2 m d2] 31)).alloc (.cells #[Value.slice none 0 0, Value.slice none 0 0] 82)) w.heap.size 23 (cells8 r0).toArray) := (((((Blk.new w _ _).alloc _).alloc _).alloc _).alloc _).alloc _
 clear hs1 hs2 hs3 hs4 hs5
 subst h1 h2
 go_enter Tryd.func47, Tryd.ntmps47
 go_wp2_with ((with_reducible change wpList _ _ _ ({ dst := none, op := Op.store 82 _ _, type := _, pos := _, after := _, guard := _ } :: _) _ _); refine wpList_store_row (o := ⟨none, _, _, _, _, _⟩) rfl 82 (.tmp 16) (.tmp 42) rfl (w.heap.size + 5) (#[Value.slice none 0 0, Value.slice none 0 0]) rfl rfl 82 (#[Value.slice none 0 0, Value.slice none 0 0]) hX1.out sizeE2 rfl oneZ2 ?_)
 refine bodyPost_ret (results_cell_row2 rfl _ _ (w.heap.size + 5) 82 #[Value.slice none 0 0, Value.slice none 0 0] (0, 0) _ rfl (setRow_heap _ _ _ _ _ _ hX1.out) Tryd.underlying82 rfl sizeE2) rfl ?_
 exact TPost.no rfl (below_setRow hb1.out (by omega) _)
set_option maxRecDepth 100000 in
set_option maxHeartbeats 1000000 in
theorem no_same (ts : List Text) (h1 : x1 = j1) (h2 : y1 = j2) (h3 : x2 = y2) (hEq : Hid (∀ w', Below w.heap.size w w' → Calls Tryd.prog 99 #[.slice A k c, .slice B l d] w' fun e w'' => e = .returned (.bool true) ∧ w' = w'')) : Calls Tryd.prog 47 #[.int .i64 s, .agg (cells8 r0).toArray, .agg (cells8 r1).toArray, .agg (inclCells j1 j2 A3 o3 c3), .slice A k c, .agg (inclCells x1 x2 A2 n c2), .slice B l d, .agg (inclCells y1 y2 B2 m d2)] w (TPost w s false ts) := by
 unfold inclCells
 have hb1 : Hid (Below w.heap.size w ((((((w.alloc (.cells (cells8 r0).toArray 23)).alloc (.cells (cells8 r1).toArray 23)).alloc (.cells #[Value.int .i64 j1, Value.int .i64 j2, Value.slice A3 o3 c3] 91)).alloc (.cells #[Value.int .i64 x1, Value.int .i64 x2, Value.slice A2 n c2] 31)).alloc (.cells #[Value.int .i64 y1, Value.int .i64 y2, Value.slice B2 m d2] 31)).alloc (.cells #[Value.slice none 0 0, Value.slice none 0 0] 82))) := ((((((Below.refl _ w).alloc (Nat.le_refl _) _).alloc (by simp) _).alloc (by simp; omega) _).alloc (by simp; omega) _).alloc (by simp; omega) _).alloc (by simp; omega) _
 have hs5 : (((((w.alloc (.cells (cells8 r0).toArray 23)).alloc (.cells (cells8 r1).toArray 23)).alloc (.cells #[Value.int .i64 j1, Value.int .i64 j2, Value.slice A3 o3 c3] 91)).alloc (.cells #[Value.int .i64 x1, Value.int .i64 x2, Value.slice A2 n c2] 31)).alloc (.cells #[Value.int .i64 y1, Value.int .i64 y2, Value.slice B2 m d2] 31)).heap.size = w.heap.size + 5 := by simp
 have hs4 : ((((w.alloc (.cells (cells8 r0).toArray 23)).alloc (.cells (cells8 r1).toArray 23)).alloc (.cells #[Value.int .i64 j1, Value.int .i64 j2, Value.slice A3 o3 c3] 91)).alloc (.cells #[Value.int .i64 x1, Value.int .i64 x2, Value.slice A2 n c2] 31)).heap.size = w.heap.size + 4 := by simp
 have hs3 : (((w.alloc (.cells (cells8 r0).toArray 23)).alloc (.cells (cells8 r1).toArray 23)).alloc (.cells #[Value.int .i64 j1, Value.int .i64 j2, Value.slice A3 o3 c3] 91)).heap.size = w.heap.size + 3 := by simp
 have hs2 : ((w.alloc (.cells (cells8 r0).toArray 23)).alloc (.cells (cells8 r1).toArray 23)).heap.size = w.heap.size + 2 := by simp
 have hs1 : (w.alloc (.cells (cells8 r0).toArray 23)).heap.size = w.heap.size + 1 := by simp
 have hX1 : Hid (Blk ((((((w.alloc (.cells (cells8 r0).toArray 23)).alloc (.cells (cells8 r1).toArray 23)).alloc (.cells #[Value.int .i64 j1, Value.int .i64 j2, Value.slice A3 o3 c3] 91)).alloc (.cells #[Value.int .i64 x1, Value.int .i64 x2, Value.slice A2 n c2] 31)).alloc (.cells #[Value.int .i64 y1, Value.int .i64 y2, Value.slice B2 m d2] 31)).alloc (.cells #[Value.slice none 0 0, Value.slice none 0 0] 82)) (w.heap.size + 5) 82 #[Value.slice none 0 0, Value.slice none 0 0]) := by
  have := Blk.new (((((w.alloc (.cells (cells8 r0).toArray 23)).alloc (.cells (cells8 r1).toArray 23)).alloc (.cells #[Value.int .i64 j1, Value.int .i64 j2, Value.slice A3 o3 c3] 91)).alloc (.cells #[Value.int .i64 x1, Value.int .i64 x2, Value.slice A2 n c2] 31)).alloc (.cells #[Value.int .i64 y1, Value.int .i64 y2, Value.slice B2 m d2] 31)) 82 #[Value.slice none 0 0, Value.slice none 0 0]
  rwa [hs5] at this
 have hQ1 : Hid (Blk ((((((w.alloc (.cells (cells8 r0).toArray 23)).alloc (.cells (cells8 r1).toArray 23)).alloc (.cells #[Value.int .i64 j1, Value.int .i64 j2, Value.slice A3 o3 c3] 91)).alloc (.cells #[Value.int .i64 x1, Value.int .i64 x2, Value.slice A2 n c2] 31)).alloc (.cells #[Value.int .i64 y1, Value.int .i64 y2, Value.slice B2 m d2] 31)).alloc (.cells #[Value.slice none 0 0, Value.slice none 0 0] 82)) (w.heap.size + 4) 31 #[Value.int .i64 y1, Value.int .i64 y2, Value.slice B2 m d2]) := by
  have := Blk.new ((((w.alloc (.cells (cells8 r0).toArray 23)).alloc (.cells (cells8 r1).toArray 23)).alloc (.cells #[Value.int .i64 j1, Value.int .i64 j2, Value.slice A3 o3 c3] 91)).alloc (.cells #[Value.int .i64 x1, Value.int .i64 x2, Value.slice A2 n c2] 31)) 31 #[Value.int .i64 y1, Value.int .i64 y2, Value.slice B2 m d2]
  rw [hs4] at this
  exact this.alloc _
 have hP1 : Hid (Blk ((((((w.alloc (.cells (cells8 r0).toArray 23)).alloc (.cells (cells8 r1).toArray 23)).alloc (.cells #[Value.int .i64 j1, Value.int .i64 j2, Value.slice A3 o3 c3] 91)).alloc (.cells #[Value.int .i64 x1, Value.int .i64 x2, Value.slice A2 n c2] 31)).alloc (.cells #[Value.int .i64 y1, Value.int .i64 y2, Value.slice B2 m d2] 31)).alloc (.cells #[Value.slice none 0 0, Value.slice none 0 0] 82)) (w.heap.size + 3) 31 #[Value.int .i64 x1, Value.int .i64 x2, Value.slice A2 n c2]) := by
  have := Blk.new (((w.alloc (.cells (cells8 r0).toArray 23)).alloc (.cells (cells8 r1).toArray 23)).alloc (.cells #[Value.int .i64 j1, Value.int .i64 j2, Value.slice A3 o3 c3] 91)) 31 #[Value.int .i64 x1, Value.int .i64 x2, Value.slice A2 n c2]
  rw [hs3] at this
  exact (this.alloc _).alloc _
 have hJ1 : Hid (Blk ((((((w.alloc (.cells (cells8 r0).toArray 23)).alloc (.cells (cells8 r1).toArray 23)).alloc (.cells #[Value.int .i64 j1, Value.int .i64 j2, Value.slice A3 o3 c3] 91)).alloc (.cells #[Value.int .i64 x1, Value.int .i64 x2, Value.slice A2 n c2] 31)).alloc (.cells #[Value.int .i64 y1, Value.int .i64 y2, Value.slice B2 m d2] 31)).alloc (.cells #[Value.slice none 0 0, Value.slice none 0 0] 82)) (w.heap.size + 2) 91 #[Value.int .i64 j1, Value.int .i64 j2, Value.slice A3 o3 c3]) := by
  have := Blk.new ((w.alloc (.cells (cells8 r0).toArray 23)).alloc (.cells (cells8 r1).toArray 23)) 91 #[Value.int .i64 j1, Value.int .i64 j2, Value.slice A3 o3 c3]
  rw [hs2] at this
  exact ((this.alloc _).alloc _).alloc _
 have hS1 : Hid (Blk ((((((w.alloc (.cells (cells8 r0).toArray 23)).alloc (.cells (cells8 r1).toArray 23)).alloc (.cells #[Value.int .i64 j1, Value.int .i64 j2, Value.slice A3 o3 c3] 91)).alloc (.cells #[Value.int .i64 x1, Value.int .i64 x2, Value.slice A2 n c2] 31)).alloc (.cells #[Value.int .i64 y1, Value.int .i64 y2, Value.slice B2 m d2] 31)).alloc (.cells #[Value.slice none 0 0, Value.slice none 0 0] 82)) (w.heap.size + 1) 23 (cells8 r1).toArray) := by
  have := Blk.new (w.alloc (.cells (cells8 r0).toArray 23)) 23 (cells8 r1).toArray
  rw [hs1] at this
  exact (((this.alloc _).alloc _).alloc _).alloc _
 have hR1 : Hid (Blk ((((((w.alloc (.cells (cells8 r0).toArray 23)).alloc (.cells (cells8 r1).toArray 23)).alloc (.cells #[Value.int .i64 j1, Value.int .i64 j2, Value.slice A3 o3 c3] 91)).alloc (.cells #[Value.int .i64 x1, Value.int .i64 x2, Value.slice A2 n c2] 31)).alloc (.cells #[Value.int .i64 y1, Value.int .i64 y2, Value.slice B2 m d2] 31)).alloc (.cells #[Value.slice none 0 0, Value.slice none 0 0] 82)) w.heap.size 23 (cells8 r0).toArray) := (((((Blk.new w _ _).alloc _).alloc _).alloc _).alloc _).alloc _
 clear hs1 hs2 hs3 hs4 hs5
 subst h1 h2 h3
 go_enter Tryd.func47, Tryd.ntmps47
 go_wp2_with (first | (go_at_call 99; refine (hEq.out _ hb1.out).mono ?_; rintro e w2 ⟨rfl, rfl⟩) | ((with_reducible change wpList _ _ _ ({ dst := none, op := Op.store 82 _ _, type := _, pos := _, after := _, guard := _ } :: _) _ _); refine wpList_store_row (o := ⟨none, _, _, _, _, _⟩) rfl 82 (.tmp 16) (.tmp 42) rfl (w.heap.size + 5) (#[Value.slice none 0 0, Value.slice none 0 0]) rfl rfl 82 (#[Value.slice none 0 0, Value.slice none 0 0]) hX1.out sizeE2 rfl oneZ2 ?_))
 refine bodyPost_ret (results_cell_row2 rfl _ _ (w.heap.size + 5) 82 #[Value.slice none 0 0, Value.slice none 0 0] (0, 0) _ rfl (setRow_heap _ _ _ _ _ _ hX1.out) Tryd.underlying82 rfl sizeE2) rfl ?_
 exact TPost.no rfl (below_setRow hb1.out (by omega) _)
set_option maxRecDepth 100000 in
set_option maxHeartbeats 2000000 in
theorem go_on (h0 : r0.length = 32) (hr1 : r1.length = 32) (ts : List Text) (want : Bool) (h1 : x1 = j1) (h2 : y1 = j2) (h3 : x2 = y2) (hEq : Hid (∀ w', Below w.heap.size w w' → Calls Tryd.prog 99 #[.slice A k c, .slice B l d] w' fun e w'' => e = .returned (.bool false) ∧ w' = w''))
  (hE : Hid (∀ w', Below w.heap.size w w' → Calls Tryd.prog 100 #[.int .i64 s, .slice (some ⟨w'.heap.size, 0, none⟩) 3 3] (w'.alloc (.cells #[.iface 153 (.agg (incV s r0 A k c x1 x2 A2 n c2).toArray), .iface 153 (.agg (incV s r1 B l d y1 y2 B2 m d2).toArray), .iface 162 (.agg (joinV s r0 r1 j1 j2 A3 o3 c3).toArray)] 202)) (TPost w' s want ts))) :
  Calls Tryd.prog 47 #[.int .i64 s, .agg (cells8 r0).toArray, .agg (cells8 r1).toArray, .agg (inclCells j1 j2 A3 o3 c3), .slice A k c, .agg (inclCells x1 x2 A2 n c2), .slice B l d, .agg (inclCells y1 y2 B2 m d2)] w (TPost w s want ts) := by
 unfold inclCells
 have hb1 : Hid (Below w.heap.size w ((((((w.alloc (.cells (cells8 r0).toArray 23)).alloc (.cells (cells8 r1).toArray 23)).alloc (.cells #[Value.int .i64 j1, Value.int .i64 j2, Value.slice A3 o3 c3] 91)).alloc (.cells #[Value.int .i64 x1, Value.int .i64 x2, Value.slice A2 n c2] 31)).alloc (.cells #[Value.int .i64 y1, Value.int .i64 y2, Value.slice B2 m d2] 31)).alloc (.cells #[Value.slice none 0 0, Value.slice none 0 0] 82))) := ((((((Below.refl _ w).alloc (Nat.le_refl _) _).alloc (by simp) _).alloc (by simp; omega) _).alloc (by simp; omega) _).alloc (by simp; omega) _).alloc (by simp; omega) _
 have hs5 : (((((w.alloc (.cells (cells8 r0).toArray 23)).alloc (.cells (cells8 r1).toArray 23)).alloc (.cells #[Value.int .i64 j1, Value.int .i64 j2, Value.slice A3 o3 c3] 91)).alloc (.cells #[Value.int .i64 x1, Value.int .i64 x2, Value.slice A2 n c2] 31)).alloc (.cells #[Value.int .i64 y1, Value.int .i64 y2, Value.slice B2 m d2] 31)).heap.size = w.heap.size + 5 := by simp
 have hs4 : ((((w.alloc (.cells (cells8 r0).toArray 23)).alloc (.cells (cells8 r1).toArray 23)).alloc (.cells #[Value.int .i64 j1, Value.int .i64 j2, Value.slice A3 o3 c3] 91)).alloc (.cells #[Value.int .i64 x1, Value.int .i64 x2, Value.slice A2 n c2] 31)).heap.size = w.heap.size + 4 := by simp
 have hs3 : (((w.alloc (.cells (cells8 r0).toArray 23)).alloc (.cells (cells8 r1).toArray 23)).alloc (.cells #[Value.int .i64 j1, Value.int .i64 j2, Value.slice A3 o3 c3] 91)).heap.size = w.heap.size + 3 := by simp
 have hs2 : ((w.alloc (.cells (cells8 r0).toArray 23)).alloc (.cells (cells8 r1).toArray 23)).heap.size = w.heap.size + 2 := by simp
 have hs1 : (w.alloc (.cells (cells8 r0).toArray 23)).heap.size = w.heap.size + 1 := by simp
 have hX1 : Hid (Blk ((((((w.alloc (.cells (cells8 r0).toArray 23)).alloc (.cells (cells8 r1).toArray 23)).alloc (.cells #[Value.int .i64 j1, Value.int .i64 j2, Value.slice A3 o3 c3] 91)).alloc (.cells #[Value.int .i64 x1, Value.int .i64 x2, Value.slice A2 n c2] 31)).alloc (.cells #[Value.int .i64 y1, Value.int .i64 y2, Value.slice B2 m d2] 31)).alloc (.cells #[Value.slice none 0 0, Value.slice none 0 0] 82)) (w.heap.size + 5) 82 #[Value.slice none 0 0, Value.slice none 0 0]) := by
  have := Blk.new (((((w.alloc (.cells (cells8 r0).toArray 23)).alloc (.cells (cells8 r1).toArray 23)).alloc (.cells #[Value.int .i64 j1, Value.int .i64 j2, Value.slice A3 o3 c3] 91)).alloc (.cells #[Value.int .i64 x1, Value.int .i64 x2, Value.slice A2 n c2] 31)).alloc (.cells #[Value.int .i64 y1, Value.int .i64 y2, Value.slice B2 m d2] 31)) 82 #[Value.slice none 0 0, Value.slice none 0 0]
  rwa [hs5] at this
 have hQ1 : Hid (Blk ((((((w.alloc (.cells (cells8 r0).toArray 23)).alloc (.cells (cells8 r1).toArray 23)).alloc (.cells #[Value.int .i64 j1, Value.int .i64 j2, Value.slice A3 o3 c3] 91)).alloc (.cells #[Value.int .i64 x1, Value.int .i64 x2, Value.slice A2 n c2] 31)).alloc (.cells #[Value.int .i64 y1, Value.int .i64 y2, Value.slice B2 m d2] 31)).alloc (.cells #[Value.slice none 0 0, Value.slice none 0 0] 82)) (w.heap.size + 4) 31 #[Value.int .i64 y1, Value.int .i64 y2, Value.slice B2 m d2]) := by
  have := Blk.new ((((w.alloc (.cells (cells8 r0).toArray 23)).alloc (.cells (cells8 r1).toArray 23)).alloc (.cells #[Value.int .i64 j1, Value.int .i64 j2, Value.slice A3 o3 c3] 91)).alloc (.cells #[Value.int .i64 x1, Value.int .i64 x2, Value.slice A2 n c2] 31)) 31 #[Value.int .i64 y1, Value.int .i64 y2, Value.slice B2 m d2]
  rw [hs4] at this
  exact this.alloc _
 have hP1 : Hid (Blk ((((((w.alloc (.cells (cells8 r0).toArray 23)).alloc (.cells (cells8 r1).toArray 23)).alloc (.cells #[Value.int .i64 j1, Value.int .i64 j2, Value.slice A3 o3 c3] 91)).alloc (.cells #[Value.int .i64 x1, Value.int .i64 x2, Value.slice A2 n c2] 31)).alloc (.cells #[Value.int .i64 y1, Value.int .i64 y2, Value.slice B2 m d2] 31)).alloc (.cells #[Value.slice none 0 0, Value.slice none 0 0] 82)) (w.heap.size + 3) 31 #[Value.int .i64 x1, Value.int .i64 x2, Value.slice A2 n c2]) := by
  have := Blk.new (((w.alloc (.cells (cells8 r0).toArray 23)).alloc (.cells (cells8 r1).toArray 23)).alloc (.cells #[Value.int .i64 j1, Value.int .i64 j2, Value.slice A3 o3 c3] 91)) 31 #[Value.int .i64 x1, Value.int .i64 x2, Value.slice A2 n c2]
  rw [hs3] at this
  exact (this.alloc _).alloc _
 have hJ1 : Hid (Blk ((((((w.alloc (.cells (cells8 r0).toArray 23)).alloc (.cells (cells8 r1).toArray 23)).alloc (.cells #[Value.int .i64 j1, Value.int .i64 j2, Value.slice A3 o3 c3] 91)).alloc (.cells #[Value.int .i64 x1, Value.int .i64 x2, Value.slice A2 n c2] 31)).alloc (.cells #[Value.int .i64 y1, Value.int .i64 y2, Value.slice B2 m d2] 31)).alloc (.cells #[Value.slice none 0 0, Value.slice none 0 0] 82)) (w.heap.size + 2) 91 #[Value.int .i64 j1, Value.int .i64 j2, Value.slice A3 o3 c3]) := by
  have := Blk.new ((w.alloc (.cells (cells8 r0).toArray 23)).alloc (.cells (cells8 r1).toArray 23)) 91 #[Value.int .i64 j1, Value.int .i64 j2, Value.slice A3 o3 c3]
  rw [hs2] at this
  exact ((this.alloc _).alloc _).alloc _
 have hS1 : Hid (Blk ((((((w.alloc (.cells (cells8 r0).toArray 23)).alloc (.cells (cells8 r1).toArray 23)).alloc (.cells #[Value.int .i64 j1, Value.int .i64 j2, Value.slice A3 o3 c3] 91)).alloc (.cells #[Value.int .i64 x1, Value.int .i64 x2, Value.slice A2 n c2] 31)).alloc (.cells #[Value.int .i64 y1, Value.int .i64 y2, Value.slice B2 m d2] 31)).alloc (.cells #[Value.slice none 0 0, Value.slice none 0 0] 82)) (w.heap.size + 1) 23 (cells8 r1).toArray) := by
  have := Blk.new (w.alloc (.cells (cells8 r0).toArray 23)) 23 (cells8 r1).toArray
  rw [hs1] at this
  exact (((this.alloc _).alloc _).alloc _).alloc _
 have hR1 : Hid (Blk ((((((w.alloc (.cells (cells8 r0).toArray 23)).alloc (.cells (cells8 r1).toArray 23)).alloc (.cells #[Value.int .i64 j1, Value.int .i64 j2, Value.slice A3 o3 c3] 91)).alloc (.cells #[Value.int .i64 x1, Value.int .i64 x2, Value.slice A2 n c2] 31)).alloc (.cells #[Value.int .i64 y1, Value.int .i64 y2, Value.slice B2 m d2] 31)).alloc (.cells #[Value.slice none 0 0, Value.slice none 0 0] 82)) w.heap.size 23 (cells8 r0).toArray) := (((((Blk.new w _ _).alloc _).alloc _).alloc _).alloc _).alloc _
 clear hs1 hs2 hs3 hs4 hs5
 have Fr := Lib.hid (fit (x := r0) h0)
 have Fs := Lib.hid (fit (x := r1) hr1)
 have zc1 : (cells8 r0).length = 32 := by rw [cells8_len, h0]
 have zc2 : (cells8 r0).toArray.size = 32 := by rw [List.size_toArray, zc1]
 have zd1 : (cells8 r1).length = 32 := by rw [cells8_len, hr1]
 have zd2 : (cells8 r1).toArray.size = 32 := by rw [List.size_toArray, zd1]
 have zc3 := fold_size s r0 h0
 have zd3 := fold_size s r1 hr1
 have ze0 := size_j0 s r0 h0
 have ze1 := size_j1 s r0 r1 h0 hr1
 have hsz : ((((((w.alloc (.cells (cells8 r0).toArray 23)).alloc (.cells (cells8 r1).toArray 23)).alloc (.cells #[Value.int .i64 j1, Value.int .i64 j2, Value.slice A3 o3 c3] 91)).alloc (.cells #[Value.int .i64 x1, Value.int .i64 x2, Value.slice A2 n c2] 31)).alloc (.cells #[Value.int .i64 y1, Value.int .i64 y2, Value.slice B2 m d2] 31)).alloc (.cells #[Value.slice none 0 0, Value.slice none 0 0] 82)).heap.size = w.heap.size + 1 + 1 + 1 + 1 + 1 + 1 := by simp
 have hE1 := hE.out _ hb1.out
 rw [hsz] at hE1
 replace hE1 := Lib.hid hE1
 have hrth := Lib.hid h0
 have hrsh := Lib.hid hr1
 clear hE h0 hr1 hsz
 subst h1 h2 h3
 go_enter Tryd.func47, Tryd.ntmps47
 go_wp2_with (first
  | (go_at_call 99; refine (hEq.out _ hb1.out).mono ?_; rintro e w2 ⟨rfl, rfl⟩)
  | ((with_reducible change wpList _ _ _ (⟨some 45, _, _, _, _, _⟩ :: _) _ _); refine wpList_load_row (o := ⟨some 45, _, _, _, _, _⟩) rfl 23 (.tmp 9) rfl (w.heap.size) rfl 23 ((cells8 r0).toArray) (0, 0) _ hR1.out Tryd.underlying23 rfl Fr.out.size ?_)
  | ((with_reducible change wpList _ _ _ (⟨some 47, _, _, _, _, _⟩ :: _) _ _); refine wpList_load_row (o := ⟨some 47, _, _, _, _, _⟩) rfl 31 (.tmp 13) rfl (w.heap.size + 3) rfl 31 (#[Value.int .i64 x1, Value.int .i64 x2, Value.slice A2 n c2]) (0, 0) _ hP1.out Tryd.underlying31 rfl sizeI ?_)
  | ((with_reducible change wpList _ _ _ (⟨some 51, _, _, _, _, _⟩ :: _) _ _); refine wpList_load_row (o := ⟨some 51, _, _, _, _, _⟩) rfl 23 (.tmp 10) rfl (w.heap.size + 1) rfl 23 ((cells8 r1).toArray) (0, 0) _ hS1.out Tryd.underlying23 rfl Fs.out.size ?_)
  | ((with_reducible change wpList _ _ _ (⟨some 53, _, _, _, _, _⟩ :: _) _ _); refine wpList_load_row (o := ⟨some 53, _, _, _, _, _⟩) rfl 31 (.tmp 15) rfl (w.heap.size + 4) rfl 31 (#[Value.int .i64 y1, Value.int .i64 x2, Value.slice B2 m d2]) (0, 0) _ hQ1.out Tryd.underlying31 rfl sizeI ?_)
  | ((with_reducible change wpList _ _ _ (⟨some 57, _, _, _, _, _⟩ :: _) _ _); refine wpList_load_row (o := ⟨some 57, _, _, _, _, _⟩) rfl 23 (.tmp 9) rfl (w.heap.size) rfl 23 ((cells8 r0).toArray) (0, 0) _ hR1.out Tryd.underlying23 rfl Fr.out.size ?_)
  | ((with_reducible change wpList _ _ _ (⟨some 58, _, _, _, _, _⟩ :: _) _ _); refine wpList_load_row (o := ⟨some 58, _, _, _, _, _⟩) rfl 23 (.tmp 10) rfl (w.heap.size + 1) rfl 23 ((cells8 r1).toArray) (0, 0) _ hS1.out Tryd.underlying23 rfl Fs.out.size ?_)
  | ((with_reducible change wpList _ _ _ (⟨some 59, _, _, _, _, _⟩ :: _) _ _); refine wpList_load_row (o := ⟨some 59, _, _, _, _, _⟩) rfl 91 (.tmp 11) rfl (w.heap.size + 2) rfl 91 (#[Value.int .i64 x1, Value.int .i64 y1, Value.slice A3 o3 c3]) (0, 0) _ hJ1.out Tryd.underlying91 rfl sizeC ?_))
 rw [build_inc s r0 hrth.out, build_inc s r1 hrsh.out, build_join s r0 r1 hrth.out hrsh.out]
 refine hE1.out.mono ?_
 rintro e w2 ⟨hk2, hcase⟩
 have hX2 : Hid (Blk w2 (w.heap.size + 5) 82 #[Value.slice none 0 0, Value.slice none 0 0]) := (hk2.block _ hX1.out.lt).trans hX1.out
 have hb2 : Hid (Below w.heap.size w w2) := hb1.out.trans (hk2.mono hb1.out.size)
 have hlt := hX1.out.lt
 have hws := hb1.out.size
 rcases hcase with ⟨rfl, rfl⟩ | ⟨rfl, va, vb, p, q, rfl, hp, hq, hne, hsum, oa, ob⟩
 ·clear hk2 hE1 zc1 zc2 zc3 zd1 zd2 zd3 ze0 ze1 hP1 hQ1 hR1 hS1 hJ1 hlt hws
  go_wp2_with ((with_reducible change wpList _ _ _ ({ dst := none, op := Op.store 82 _ _, type := _, pos := _, after := _, guard := _ } :: _) _ _); refine wpList_store_row (o := ⟨none, _, _, _, _, _⟩) rfl 82 (.tmp 16) (.tmp 64) rfl (w.heap.size + 5) (#[Value.slice none 0 0, Value.slice none 0 0]) rfl rfl 82 (#[Value.slice none 0 0, Value.slice none 0 0]) hX2.out sizeE2 rfl oneZ2 ?_)
  refine bodyPost_ret (results_cell_row2 rfl _ _ (w.heap.size + 5) 82 #[Value.slice none 0 0, Value.slice none 0 0] (0, 0) _ rfl (setRow_heap _ _ _ _ _ _ hX2.out) Tryd.underlying82 rfl sizeE2) rfl ?_
  exact TPost.no rfl (below_setRow hb2.out (by omega) _)
 ·obtain ⟨Aa, ca, rfl, -⟩ := Own.own_reads oa
  obtain ⟨Ab, cb, rfl, -⟩ := Own.own_reads ob
  have honeE : Hid (((#[Value.slice Aa p.length ca, Value.slice Ab q.length cb] : Array Value).all fun v => v.oneCell') = true) := by show _ = _; rw [List.all_toArray]; rfl
  replace oa := Lib.hid oa
  replace ob := Lib.hid ob
  replace hp := Lib.hid hp
  replace hq := Lib.hid hq
  replace hne := Lib.hid hne
  replace hsum := Lib.hid hsum
  replace hws := Lib.hid hws
  replace hlt := Lib.hid hlt
  clear hk2 hE1 zc1 zc2 zc3 zd1 zd2 zd3 ze0 ze1 hP1 hQ1 hR1 hS1 hJ1
  go_wp2_with ((with_reducible change wpList _ _ _ ({ dst := none, op := Op.store 82 _ _, type := _, pos := _, after := _, guard := _ } :: _) _ _); refine wpList_store_row (o := ⟨none, _, _, _, _, _⟩) rfl 82 (.tmp 16) (.tmp 64) rfl (w.heap.size + 5) (#[Value.slice Aa p.length ca, Value.slice Ab q.length cb]) rfl rfl 82 (#[Value.slice none 0 0, Value.slice none 0 0]) hX2.out sizeE2 rfl honeE.out ?_)
  refine bodyPost_ret (results_cell_row2 rfl _ _ (w.heap.size + 5) 82 #[Value.slice Aa p.length ca, Value.slice Ab q.length cb] (0, 0) _ rfl (setRow_heap _ _ _ _ _ _ hX2.out) Tryd.underlying82 rfl sizeE2) rfl ?_
  have hkk : Kept (· = w.heap.size + 5) w2 (w2.setRow (w.heap.size + 5) #[Value.slice Aa p.length ca, Value.slice Ab q.length cb]) := Bytes.Kept.setRow (S := (· = w.heap.size + 5)) (Kept.refl _ _) rfl _
  exact ⟨below_setRow hb2.out (by omega) _, .inr ⟨rfl, _, _, p, q, rfl, hp.out, hq.out, hne.out, hsum.out, own_far (own_base8 oa.out hws.out) hkk oa.out hlt.out, own_far (own_base8 ob.out hws.out) hkk ob.out hlt.out⟩⟩
end
end Go.Proofs.YtmdkfhfkdcbpgaaDoorR.TwoSz

namespace Go.Proofs.YtmdkfhfkdcbpgaaDoorR.TwoEvAny
open Go Go.RowKit Go.Proofs.YtmdkfhfkdcbpgaaDoorR Mem Sha Bytes HashMem TreeMem Chain ProofEnc Ref17 TwiceP Clash Extract AudIncl TwoEvP Included TwoEv

theorem list2 {P : Ans → Prop} {a b : Ans} (ha : P a) (hb : P b) : ∀ x ∈ [a, b], P x := fun x hx => by
 rcases List.mem_cons.1 hx with rfl | hx
 ·exact ha
 ·obtain rfl := List.mem_singleton.1 hx
  exact hb
end Go.Proofs.YtmdkfhfkdcbpgaaDoorR.TwoEvAny

namespace Go.Proofs.YtmdkfhfkdcbpgaaDoorR.TwoSzAny
open Go Go.RowKit Go.Proofs.YtmdkfhfkdcbpgaaDoorR Mem Sha Bytes HashMem TreeMem Chain ProofEnc Ref17 TwiceP Clash Extract AudIncl AudJoins TwoEvP SizesP Included Joined TwoEv TwoEvAny TwoSz

def wantSz (s : Int) (r0 r1 e f : Text) (j1 j2 x1 x2 y1 y2 : Int) (js ds es : List Text) : Bool := ((audJoins s r0 r1 j1 j2 js == 0) && ((audIncl s r0 e x1 x2 ds == 0) && (audIncl s r1 f y1 y2 es == 0))) && ((x1 == j1) && ((y1 == j2) && ((x2 == y2) && !decide (e = f))))
theorem list3 {P : Ans → Prop} {a b c : Ans} (ha : P a) (hb : P b) (hc : P c) : ∀ x ∈ [a, b, c], P x := fun x hx => by
 rcases List.mem_cons.1 hx with rfl | hx
 ·exact ha
 ·exact list2 hb hc x hx
set_option maxRecDepth 100000 in
theorem twoSizes_any (s : Int) (r0 r1 : Text) (h0 : r0.length = 32) (hr1 : r1.length = 32) (j1 j2 : Int) (js : List Text) (A3 : Option Addr) (o3 c3 : Nat) (ho : o3 ≤ 300) (e : Text) (k : Nat) (hk : e.length = k) (hk47 : k < 140737488355327) (A : Option Addr) (c : Nat) (hkc : k ≤ c) (hnil : A = none → k = 0 ∧ c = 0) (x1 x2 : Int) (ds : List Text) (A2 : Option Addr) (n c2 : Nat) (hn : n ≤ 300)
  (f : Text) (l : Nat) (hl : f.length = l) (hl47 : l < 140737488355327) (B : Option Addr) (d : Nat) (hld : l ≤ d) (hnilB : B = none → l = 0 ∧ d = 0) (y1 y2 : Int) (es : List Text) (B2 : Option Addr) (m d2 : Nat) (hm : m ≤ 300) (w : World) (hB : Base w) (hrj : RdD w A3 o3 js) (hr : Reads w 1 A k (cells8 e)) (hrd : RdD w A2 n ds) (hrf : Reads w 1 B l (cells8 f)) (hrdf : RdD w B2 m es) :
  Calls Tryd.prog 47 #[.int .i64 s, .agg (cells8 r0).toArray, .agg (cells8 r1).toArray, .agg (inclCells j1 j2 A3 o3 c3), .slice A k c, .agg (inclCells x1 x2 A2 n c2), .slice B l d, .agg (inclCells y1 y2 B2 m d2)] w (TPost w s (wantSz s r0 r1 e f j1 j2 x1 x2 y1 y2 js ds es) ((evTexts s e x1 x2 ds ++ evTexts s f y1 y2 es) ++ jointTs s j1 j2 r0 js)) := by
 have hEq := Lib.hid (fun w' (hb : Below w.heap.size w w') => equal8 e f k l hk hl A B c d w' (hr.below hb) (hrf.below hb))
 by_cases h1 : x1 = j1
 case neg =>
  have hw : wantSz s r0 r1 e f j1 j2 x1 x2 y1 y2 js ds es = false := by unfold wantSz; simp [h1]
  rw [hw]
  exact no_j1 s r0 r1 k l A B c d j1 j2 x1 x2 y1 y2 A3 A2 B2 o3 c3 n c2 m d2 w _ h1
 by_cases h2 : y1 = j2
 case neg =>
  have hw : wantSz s r0 r1 e f j1 j2 x1 x2 y1 y2 js ds es = false := by unfold wantSz; simp [h2]
  rw [hw]
  exact no_j2 s r0 r1 k l A B c d j1 j2 x1 x2 y1 y2 A3 A2 B2 o3 c3 n c2 m d2 w _ h1 h2
 by_cases h3 : x2 = y2
 case neg =>
  have hw : wantSz s r0 r1 e f j1 j2 x1 x2 y1 y2 js ds es = false := by unfold wantSz; simp [h3]
  rw [hw]
  exact no_num s r0 r1 k l A B c d j1 j2 x1 x2 y1 y2 A3 A2 B2 o3 c3 n c2 m d2 w _ h1 h2 h3
 by_cases h4 : e = f
 ·have hw : wantSz s r0 r1 e f j1 j2 x1 x2 y1 y2 js ds es = false := by unfold wantSz; simp [h4]
  rw [hw]
  rw [decide_eq_true h4] at hEq
  exact no_same s r0 r1 k l A B c d j1 j2 x1 x2 y1 y2 A3 A2 B2 o3 c3 n c2 m d2 w _ h1 h2 h3 (Lib.hid fun w' hb => (hEq.out w' hb).mono fun _ _ ⟨a, b⟩ => ⟨a, b⟩)
 ·rw [decide_eq_false h4] at hEq
  refine go_on s r0 r1 k l A B c d j1 j2 x1 x2 y1 y2 A3 A2 B2 o3 c3 n c2 m d2 w h0 hr1 _ _ h1 h2 h3 (Lib.hid fun w' hb => (hEq.out w' hb).mono fun _ _ ⟨a, b⟩ => ⟨a, b⟩) (Lib.hid fun w' hb => ?_)
  subst h1 h2 h3
  have hw : wantSz s r0 r1 e f x1 y1 x1 x2 y1 x2 js ds es = ((audJoins s r0 r1 x1 y1 js == 0) && ((audIncl s r0 e x1 x2 ds == 0) && (audIncl s r1 f y1 x2 es == 0))) := by unfold wantSz; simp [h4]
  rw [hw]
  have hb2 : Below w.heap.size w (w'.alloc (.cells #[.iface 153 (.agg (incV s r0 A k c x1 x2 A2 n c2).toArray), .iface 153 (.agg (incV s r1 B l d y1 x2 B2 m d2).toArray), .iface 162 (.agg (joinV s r0 r1 x1 y1 A3 o3 c3).toArray)] 202)) := hb.alloc hb.size _
  have hO1 := evAns_ok s r0 h0 e k hk hk47 A c hkc hnil x1 x2 ds A2 n c2 hn _ (hB.below hb2 hB.1) (hr.below hb2) (hrd.below hb2)
  have hO2 := evAns_ok s r1 hr1 f l hl hl47 B d hld hnilB y1 x2 es B2 m d2 hm _ (hB.below hb2 hB.1) (hrf.below hb2) (hrdf.below hb2)
  have hO3 := joAns_ok s r0 r1 h0 hr1 x1 y1 js A3 o3 c3 ho _ (hB.below hb2 hB.1) (hrj.below hb2)
  have hX := extract_any s [evAns s r0 e A k c x1 x2 ds A2 n c2, evAns s r1 f B l d y1 x2 es B2 m d2, joAns s r0 r1 x1 y1 js A3 o3 c3] 3 rfl (by decide) (some ⟨w'.heap.size, 0, none⟩) 3 _ (hB.below hb2 hB.1) ((Blk.new w' 202 #[.iface 153 (.agg (incV s r0 A k c x1 x2 A2 n c2).toArray), .iface 153 (.agg (incV s r1 B l d y1 x2 B2 m d2).toArray), .iface 162 (.agg (joinV s r0 r1 x1 y1 A3 o3 c3).toArray)]).reads 0 _ rfl (fun j u hu => by rw [Nat.zero_add, List.getElem?_toArray]; exact hu)) (list3 hO1 hO2 hO3)
  refine hX.mono fun e' w2 h => ?_
  have hfm : [evAns s r0 e A k c x1 x2 ds A2 n c2, evAns s r1 f B l d y1 x2 es B2 m d2, joAns s r0 r1 x1 y1 js A3 o3 c3].flatMap (·.ts) = (evTexts s e x1 x2 ds ++ evTexts s f y1 x2 es) ++ jointTs s x1 y1 r0 js := by simp [evAns, joAns]
  rw [← hfm]
  refine extract_T s _ _ (fun hw => ?_) (fun hw hall => ?_) w' w2 _ _ e' h
  ·rw [Bool.and_eq_true, Bool.and_eq_true] at hw
   refine ⟨list3 hw.2.1 hw.2.2 hw.1, ?_⟩
   rw [hfm]
   exact sizes_meet h0 hrj.2.1 hrd.2.1 hrdf.2.1 (eq_of_beq hw.1) (eq_of_beq hw.2.1) (eq_of_beq hw.2.2) h4
  ·have a1 : (audIncl s r0 e x1 x2 ds == 0) = true := hall _ (List.mem_cons_self ..)
   have a2 : (audIncl s r1 f y1 x2 es == 0) = true := hall _ (List.mem_cons_of_mem _ (List.mem_cons_self ..))
   have a3 : (audJoins s r0 r1 x1 y1 js == 0) = true := hall _ (List.mem_cons_of_mem _ (List.mem_cons_of_mem _ (List.mem_cons_self ..)))
   rw [a1, a2, a3] at hw
   cases hw
end Go.Proofs.YtmdkfhfkdcbpgaaDoorR.TwoSzAny

namespace Go.Proofs.YtmdkfhfkdcbpgaaDoorR.Told20b
open Go Go.RowKit Go.Proofs.YtmdkfhfkdcbpgaaDoorR Mem Sha Bytes HashMem TreeMem TreeRoot Go.Proofs.YtmdkfhfkdcbpgaaDoorR.Append TwiceP Clash RowsT RowsY Extract Included TwoEv Told20

def XR (w : World) (s : Int) (want : Bool) (ts : List Text) (xa xb : Value) (ok : Bool) : Prop :=
 (want = false ∧ xa = .slice none 0 0 ∧ xb = .slice none 0 0 ∧ ok = false) ∨
 (want = true ∧ ok = true ∧ ∃ ga ca gb cb p q, xa = .slice (some ⟨ga, 0, none⟩) p.length ca ∧ xb = .slice (some ⟨gb, 0, none⟩) q.length cb ∧ p ∈ ts ∧ q ∈ ts ∧ p ≠ q ∧ sumOf s p = sumOf s q ∧ 0 < p.length ∧ 0 < q.length ∧ Reads w 1 (some ⟨ga, 0, none⟩) p.length (cells8 p) ∧ Reads w 1 (some ⟨gb, 0, none⟩) q.length (cells8 q))
theorem XR.below {w w' : World} {s : Int} {want : Bool} {ts : List Text} {xa xb : Value} {ok : Bool} (h : XR w s want ts xa xb ok) (hb : Below w.heap.size w w') : XR w' s want ts xa xb ok :=
 h.imp id fun ⟨a, b, ga, ca, gb, cb, p, q, c1, c2, c3, c4, c5, c6, c7, c8, c9, c10⟩ => ⟨a, b, ga, ca, gb, cb, p, q, c1, c2, c3, c4, c5, c6, c7, c8, c9.below hb, c10.below hb⟩
theorem reads_keep {S : Nat → Prop} {w w' : World} {g : Nat} {p : Text} (h : Reads w 1 (some ⟨g, 0, none⟩) p.length (cells8 p)) (hp : 0 < p.length) (hk : Kept S w w') (hS : ∀ g, S g → ∃ u, w.cell? ⟨g, 0, none⟩ = some u ∧ ∀ n, u ≠ .int .u8 n) : Reads w' 1 (some ⟨g, 0, none⟩) p.length (cells8 p) :=
 h.kept hk (fun b o e hs => by
  injection e with e
  injection e with e1 e2
  subst e1 e2
  obtain ⟨b', o, e1, -, e2⟩ := h.at_ (by omega)
  injection e1 with e1
  injection e1 with e3 e4
  subst e3 e4
  obtain ⟨u, hu, hne⟩ := hS _ hs
  have h2 := e2 0 _ (cells8_at p 0 hp)
  rw [Nat.add_zero, hu] at h2
  exact hne _ (Option.some.inj h2))
theorem XR.keep {S : Nat → Prop} {w w' : World} {s : Int} {want : Bool} {ts : List Text} {xa xb : Value} {ok : Bool} (h : XR w s want ts xa xb ok) (hk : Kept S w w') (hS : ∀ g, S g → ∃ u, w.cell? ⟨g, 0, none⟩ = some u ∧ ∀ n, u ≠ .int .u8 n) : XR w' s want ts xa xb ok :=
 h.imp id fun ⟨a, b, ga, ca, gb, cb, p, q, c1, c2, c3, c4, c5, c6, c7, c8, c9, c10⟩ => ⟨a, b, ga, ca, gb, cb, p, q, c1, c2, c3, c4, c5, c6, c7, c8, reads_keep c9 c7 hk hS, reads_keep c10 c8 hk hS⟩
theorem XR.keptN {w w' : World} {m : Nat} {s : Int} {want : Bool} {ts : List Text} {xa xb : Value} {ok : Bool} (h : XR w s want ts xa xb ok) (hB : Blk w m 82 #[.slice none 0 0, .slice none 0 0]) (hk : Kept (· = m) w w') : XR w' s want ts xa xb ok :=
 h.keep hk (fun g e => by
  have e : g = m := e
  subst e
  exact ⟨_, hB.cell 0, fun n e => by cases e⟩)
theorem TPost.xr {w w' : World} {s : Int} {want : Bool} {ts : List Text} {e : Ending} (hl : ∀ q ∈ ts, 0 < q.length) (h : TPost w s want ts e w') : Below w.heap.size w w' ∧ ∃ xa xb ok, e = .returned (.tuple #[.agg #[xa, xb], .bool ok]) ∧ XR w' s want ts xa xb ok := by
 obtain ⟨hb, h⟩ := h
 refine ⟨hb, ?_⟩
 rcases h with ⟨rfl, rfl⟩ | ⟨rfl, va, vb, p, q, rfl, hp, hq, hne, hsum, oa, ob⟩
 ·exact ⟨_, _, _, rfl, .inl ⟨rfl, rfl, rfl, rfl⟩⟩
 ·obtain ⟨ga, ca, rfl, -⟩ := own_some oa (hl p hp)
  obtain ⟨gb, cb, rfl, -⟩ := own_some ob (hl q hq)
  obtain ⟨A, c, e1, -, -, h1, -⟩ := Own.own_reads oa
  obtain ⟨B, d, e2, -, -, h2, -⟩ := Own.own_reads ob
  injection e1 with e1
  injection e2 with e2
  subst e1 e2
  exact ⟨_, _, _, rfl, .inr ⟨rfl, rfl, ga, ca, gb, cb, p, q, rfl, rfl, hp, hq, hne, hsum, hl p hp, hl q hq, h1, h2⟩⟩
theorem told_any (s : Int) (hs63 : s < 9223372036854775808) (ts : List Text) (n : Nat) (hn : ts.length = n) (hn47 : n < 140737488355328) (hl : ∀ q ∈ ts, q.length < 140737488355328) (want : Bool) (A : Option Addr) (c : Nat) (w : World) (hps : Pieces w A ts) (xa xb : Value) (ok : Bool) (h : XR w s want ts xa xb ok) :
  Calls Tryd.prog 43 #[.int .i64 s, .agg #[xa, xb], .bool ok, .bool want, .slice A n c] w fun e w' => e = .returned (.bool true) ∧ Below w.heap.size w w' := by
 rcases h with ⟨rfl, rfl, rfl, rfl⟩ | ⟨rfl, rfl, ga, ca, gb, cb, p, q, rfl, rfl, hp, hq, hne, hsum, -, -, h1, h2⟩
 ·exact told_no s A n c w
 ·exact told_yes s hs63 ts n hn hn47 hl A c w hps p q hp hq hne hsum _ _ ca cb h1 h2
end Go.Proofs.YtmdkfhfkdcbpgaaDoorR.Told20b
