/-
  tree.Root, walked (printed by wip/gen_root.py).
-/
import Derived.Test.YtngieimjlkpkaaaDoorTreeMem
namespace Go.Proofs.YtngieimjlkpkaaaDoor.TreeRoot
open Go Go.RowKit Go.Proofs.YtngieimjlkpkaaaDoor Go.Proofs.YtngieimjlkpkaaaDoor.Digest Go.Proofs.YtngieimjlkpkaaaDoor.Mem Go.Proofs.YtngieimjlkpkaaaDoor.Sha Go.Proofs.YtngieimjlkpkaaaDoor.ShaWalk Go.Proofs.YtngieimjlkpkaaaDoor.Bytes Go.Proofs.YtngieimjlkpkaaaDoor.HashMem Go.Proofs.YtngieimjlkpkaaaDoor.DigestMem Go.Proofs.YtngieimjlkpkaaaDoor.DigestTop Go.Proofs.YtngieimjlkpkaaaDoor.RefTop Go.Proofs.YtngieimjlkpkaaaDoor.QuietTail Go.Proofs.YtngieimjlkpkaaaDoor.Grown Go.Proofs.YtngieimjlkpkaaaDoor.Chain Go.Proofs.YtngieimjlkpkaaaDoor.TreeMath Go.Proofs.YtngieimjlkpkaaaDoor.TreeMem

def ndOf (s : Int) (a b : Text) : Text := cutTo (sum (kb 1 :: (a ++ b))) (clampN s)
def noneOf (s : Int) : Text := cutTo (sum []) (clampN s)
theorem ndOf_len (s : Int) (a b : Text) : (ndOf s a b).length = 32 := cutTo_len _ _ (sum_len _) (clampN_ok s).2
theorem noneOf_len (s : Int) : (noneOf s).length = 32 := cutTo_len _ _ (sum_len _) (clampN_ok s).2
def rootOf (s : Int) (ds : List Text) : Text := root (ndOf s) (noneOf s) ds
def foldOf (s : Int) (ds : List Text) : Text := fold (ndOf s) (noneOf s) ds
theorem rootOf_len (s : Int) (ds : List Text) (h : Digs ds) : (rootOf s ds).length = 32 := by
  unfold rootOf
  match ds, h with
  | [], _ => exact noneOf_len s
  | [x], h => exact h x (by simp)
  | x :: y :: r, h => rw [root_two _ _ _ (by simp)]; exact ndOf_len _ _ _
theorem foldOf_len (s : Int) (ds : List Text) (h : Digs ds) : (foldOf s ds).length = 32 := by
  unfold foldOf
  match ds, h with
  | [], _ => exact noneOf_len s
  | [x], h => exact h x (by simp)
  | x :: y :: r, h => exact ndOf_len _ _ _
/-- What a call's own result cell needs to take a digest. -/
structure Fit (x : Text) : Prop where
  size : (Tryd.prog.info? 31).map (·.size) = some (cells8 x).toArray.size
  same : ∀ y : Text, y.length = 32 → (cells8 y).toArray.size = (cells8 x).toArray.size
  zero : (Z32 : Array Value).size = (cells8 x).toArray.size
  one : ((cells8 x).toArray.all fun v => v.oneCell') = true
  part : (Tryd.prog.info? 31).map (·.size) = some (cells8 x).length
theorem fit {x : Text} (h : x.length = 32) : Fit x := ⟨dig_size x h, fun y hy => by simp [cells8_len, h, hy], by simp [cells8_len, h, Z32], dig_one x, by rw [cells8_len, h]; exact size31⟩

set_option maxRecDepth 100000 in
set_option maxHeartbeats 1000000 in
theorem root_none (s : Int) (A : Option Addr) (c : Nat) (w : World) (hB : Base w) :
    Calls Tryd.prog 26 #[.int .i64 s, .slice A 0 c] w fun e w' => e = .returned (.agg (cells8 (noneOf s)).toArray) ∧ Below w.heap.size w w' := by
  have hb0 : Hid (Below w.heap.size w (w.alloc (.cells Z32 31))) := Below.heap_below w _
  have hB0 : Hid (Blk (w.alloc (.cells Z32 31)) w.heap.size 31 Z32) := Blk.new w _ _
  have hBs : Hid (Base (w.alloc (.cells Z32 31))) := hB.below (Below.heap_below w _) hB.1
  obtain ⟨x, hx⟩ : ∃ x, Hid (noneOf s = x) := ⟨_, Lib.hid rfl⟩
  have F := Lib.hid (fit (x := x) (by rw [← hx.out]; exact noneOf_len s))
  have hT := Lib.hid (fun w' hb => nothing_any s w' hb)
  clear hB
  go_enter Tryd.func26, Tryd.ntmps26
  go_wp2_with (first
    | (go_at_call 51; refine (hT.out _ hBs.out).mono ?_; rw [show cutTo (sum []) (clampN s) = x from hx.out]; rintro e w1 ⟨rfl, hb1⟩; have hB1 : Hid (Blk w1 w.heap.size 31 Z32) := (hb1.block _ hB0.out.lt).trans hB0.out; have bb1 : Hid (Below w.heap.size w w1) := hb0.out.trans (hb1.mono hb0.out.size); clear hb1)
    | ((with_reducible change wpList _ _ _ ({ dst := none, op := Op.store 31 _ _, type := _, pos := _, after := _, guard := _ } :: _) _ _); refine wpList_store_row (o := ⟨none, _, _, _, _, _⟩) rfl 31 (.tmp 4) (.tmp 11) rfl (w.heap.size) ((cells8 x).toArray) rfl rfl 31 (Z32) hB1.out F.out.size F.out.zero F.out.one ?_))
  refine bodyPost_ret (results_cell_row rfl _ _ w.heap.size 31 (cells8 x).toArray (0, 0) _ rfl (setRow_heap _ _ _ _ _ _ hB1.out) Tryd.underlying31 rfl F.out.size) rfl ?_
  exact ⟨by rw [hx.out], below_setRow bb1.out (Nat.le_refl _) _⟩

set_option maxRecDepth 100000 in
set_option maxHeartbeats 1000000 in
theorem root_single (s : Int) (x : Text) (A : Option Addr) (c : Nat) (w : World) (hr : RdD w A 1 [x]) :
    Calls Tryd.prog 26 #[.int .i64 s, .slice A 1 c] w fun e w' => e = .returned (.agg (cells8 x).toArray) ∧ Below w.heap.size w w' := by
  have hb0 : Hid (Below w.heap.size w (w.alloc (.cells Z32 31))) := Below.heap_below w _
  have hB0 : Hid (Blk (w.alloc (.cells Z32 31)) w.heap.size 31 Z32) := Blk.new w _ _
  have F := Lib.hid (fit (x := x) (hr.2.1 x (by simp)))
  obtain ⟨b, o, rfl, hb, hc⟩ := (hr.below (hb0.out)).at_ (i := 0) (d := x) rfl
  simp only [Nat.zero_mul, Nat.add_zero] at hc
  replace hc := Lib.hid hc
  clear hb hr
  go_enter Tryd.func26, Tryd.ntmps26
  go_wp2_with (first
    | ((with_reducible change wpList _ _ _ ({ dst := some 16, op := _, type := _, pos := _, after := _, guard := _ } :: _) _ _); refine wpList_load_part (o := ⟨some 16, _, _, _, _, _⟩) rfl 31 (.tmp 15) rfl (b) (o) rfl (cells8 x) _ hc.out Tryd.underlying31 rfl F.out.part ?_)
    | ((with_reducible change wpList _ _ _ ({ dst := none, op := Op.store 31 _ _, type := _, pos := _, after := _, guard := _ } :: _) _ _); refine wpList_store_row (o := ⟨none, _, _, _, _, _⟩) rfl 31 (.tmp 4) (.tmp 16) rfl (w.heap.size) ((cells8 x).toArray) rfl rfl 31 (Z32) hB0.out F.out.size F.out.zero F.out.one ?_))
  refine bodyPost_ret (results_cell_row rfl _ _ w.heap.size 31 (cells8 x).toArray (0, 0) _ rfl (setRow_heap _ _ _ _ _ _ hB0.out) Tryd.underlying31 rfl F.out.size) rfl ?_
  exact ⟨rfl, below_setRow hb0.out (Nat.le_refl _) _⟩

set_option maxRecDepth 100000 in
set_option maxHeartbeats 1000000 in
theorem root_two' (s : Int) (ds : List Text) (n : Nat) (h2 : 2 ≤ n) (hn47 : n < 140737488355328) (A : Option Addr) (c : Nat) (hcn : n ≤ c) (w : World) (hB : Base w) (hr : RdD w A n ds)
    (ih : ∀ (m : Nat), m < n → ∀ (es : List Text) (A : Option Addr) (c : Nat) (w : World), m ≤ c → Base w → RdD w A m es → Calls Tryd.prog 26 #[.int .i64 s, .slice A m c] w fun e w' => e = .returned (.agg (cells8 (rootOf s es)).toArray) ∧ Below w.heap.size w w') :
    Calls Tryd.prog 26 #[.int .i64 s, .slice A n c] w fun e w' => e = .returned (.agg (cells8 (rootOf s ds)).toArray) ∧ Below w.heap.size w w' := by
  have hb0 : Hid (Below w.heap.size w (w.alloc (.cells Z32 31))) := Below.heap_below w _
  have hB0 : Hid (Blk (w.alloc (.cells Z32 31)) w.heap.size 31 Z32) := Blk.new w _ _
  have hBs : Hid (Base (w.alloc (.cells Z32 31))) := hB.below (Below.heap_below w _) hB.1
  have hR0 : Hid (RdD (w.alloc (.cells Z32 31)) A n ds) := hr.below hb0.out
  have hlt := half_lt h2
  have hp := half_pos n
  have hL := Lib.hid (left_any n h2 hn47)
  obtain ⟨k, hk⟩ : ∃ k, Hid (half n = k) := ⟨_, Lib.hid rfl⟩
  rw [hk.out] at hL hlt hp
  have hroot : Hid (rootOf s ds = ndOf s (rootOf s (ds.take k)) (rootOf s (ds.drop k))) := by show _ = _; unfold rootOf; rw [root_two _ _ ds (by rw [hr.1]; exact h2), hr.1, hk.out]
  obtain ⟨x, hx⟩ : ∃ x, Hid (rootOf s (ds.take k) = x) := ⟨_, Lib.hid rfl⟩
  obtain ⟨y, hy⟩ : ∃ y, Hid (rootOf s (ds.drop k) = y) := ⟨_, Lib.hid rfl⟩
  obtain ⟨z, hz⟩ : ∃ z, Hid (ndOf s x y = z) := ⟨_, Lib.hid rfl⟩
  rw [hx.out, hy.out, hz.out] at hroot
  have hxl : Hid (x.length = 32) := by show _ = _; rw [← hx.out]; exact rootOf_len s _ (hr.2.1.take_ k)
  have hyl : Hid (y.length = 32) := by show _ = _; rw [← hy.out]; exact rootOf_len s _ (hr.2.1.drop_ k)
  have F := Lib.hid (fit (x := z) (by rw [← hz.out]; exact ndOf_len s _ _))
  have hS1 := run_headD (A := A) (n := n) (c := c) (k := k) (by omega) (k : Int) rfl
  have hS2 := run_tailD (A := A) (n := n) (c := c) (k := k) (by omega) (k : Int) rfl
  have hT1 : Hid (∀ w', Class (w.alloc (.cells Z32 31)) w' → Calls Tryd.prog 26 #[.int .i64 s, .slice A k c] w' fun e w'' => e = .returned (.agg (cells8 x).toArray) ∧ Below w'.heap.size w' w'') := fun w' hw' => by
    have := ih k hlt (ds.take k) A c w' (by omega) (hBs.out.below hw'.below hBs.out.1) ((hR0.out.take_ k (by omega)).below hw'.below)
    rw [hx.out] at this
    exact this
  have hT2 : Hid (∀ w', Class (w.alloc (.cells Z32 31)) w' → Calls Tryd.prog 26 #[.int .i64 s, .slice (cutD A k c) (n - k) (c - k)] w' fun e w'' => e = .returned (.agg (cells8 y).toArray) ∧ Below w'.heap.size w' w'') := fun w' hw' => by
    have := ih (n - k) (by omega) (ds.drop k) (cutD A k c) (c - k) w' (by omega) (hBs.out.below hw'.below hBs.out.1) ((hR0.out.drop_ k c (by omega) hcn).below hw'.below)
    rw [hy.out] at this
    exact this
  have hT3 : Hid (∀ w', Class (w.alloc (.cells Z32 31)) w' → Calls Tryd.prog 53 #[.int .i64 s, .agg (cells8 x).toArray, .agg (cells8 y).toArray] w' fun e w'' => e = .returned (.agg (cells8 z).toArray) ∧ Below w'.heap.size w' w'') := fun w' hw' => by
    have := node_any x y hxl.out hyl.out s w' (hBs.out.below hw'.below hBs.out.1)
    rw [show cutTo (sum (kb 1 :: (x ++ y))) (clampN s) = z from hz.out] at this
    exact this
  have y1 : ((n : Int) == 0) = false := beq_eq_false_iff_ne.2 (by omega)
  have y2 : ((n : Int) == 1) = false := beq_eq_false_iff_ne.2 (by omega)
  clear ih hR0 hBs hr hB h2 hn47 hlt hp hx hy hz hcn
  go_enter Tryd.func26, Tryd.ntmps26
  go_wp2_with (go_at_call 52; refine (hL.out _).mono ?_; rintro e w1 ⟨rfl, rfl⟩)
  refine wp_region_class_tail 12 (Class (w.alloc (.cells Z32 31))) (by kernel_rfl) (by kernel_rfl) (Class.mk_ ((Below.refl _ _).drew)) ?_
  refine wpQuiet_move rfl (.tmp 0) rfl ?_
  (intro K hK; go_simp; refine hK _ ?_; clear hK K)
  refine wpQuiet_move rfl (.tmp 0) rfl ?_
  (intro K hK; go_simp; refine hK _ ?_; clear hK K)
  refine wpQuiet_move rfl (.tmp 1) rfl ?_
  (intro K hK; go_simp; refine hK _ ?_; clear hK K)
  refine wpQuiet_move rfl (.tmp 5) rfl ?_
  (intro K hK; go_simp; refine hK _ ?_; clear hK K)
  refine wpQuiet_val (v := .slice A k c) rfl (fun w' hw' => by have h := hS1 w'; go_simp) ?_
  (intro K hK; go_simp; refine hK _ ?_; clear hK K)
  refine wpQuiet_fn (v := .agg (cells8 x).toArray) (args := #[.int .i64 s, .slice A k c]) rfl _ _ rfl rfl Tryd.func26 (by kernel_rfl) (by kernel_rfl) (fun w' hw' => (hT1.out w' hw').mono (fun e w'' ⟨he, hb⟩ => ⟨he, hw'.next hb⟩)) ?_
  (intro K hK; go_simp; refine hK _ ?_; clear hK K)
  refine wpQuiet_move rfl (.tmp 0) rfl ?_
  (intro K hK; go_simp; refine hK _ ?_; clear hK K)
  refine wpQuiet_move rfl (.tmp 1) rfl ?_
  (intro K hK; go_simp; refine hK _ ?_; clear hK K)
  refine wpQuiet_move rfl (.tmp 5) rfl ?_
  (intro K hK; go_simp; refine hK _ ?_; clear hK K)
  refine wpQuiet_val (v := .slice (cutD A k c) (n - k) (c - k)) rfl (fun w' hw' => by have h := hS2 w'; go_simp) ?_
  (intro K hK; go_simp; refine hK _ ?_; clear hK K)
  refine wpQuiet_fn (v := .agg (cells8 y).toArray) (args := #[.int .i64 s, .slice (cutD A k c) (n - k) (c - k)]) rfl _ _ rfl rfl Tryd.func26 (by kernel_rfl) (by kernel_rfl) (fun w' hw' => (hT2.out w' hw').mono (fun e w'' ⟨he, hb⟩ => ⟨he, hw'.next hb⟩)) ?_
  (intro K hK; go_simp; refine hK _ ?_; clear hK K)
  refine wpQuiet_fn (v := .agg (cells8 z).toArray) (args := #[.int .i64 s, .agg (cells8 x).toArray, .agg (cells8 y).toArray]) rfl _ _ rfl rfl Tryd.func53 (by kernel_rfl) (by kernel_rfl) (fun w' hw' => (hT3.out w' hw').mono (fun e w'' ⟨he, hb⟩ => ⟨he, hw'.next hb⟩)) ?_
  (intro K hK; go_simp; refine hK _ ?_; clear hK K)
  refine wpQuiet_nil ?_
  intro w' hw'
  have hB' := Lib.hid ((hw'.below.block _ hB0.out.lt).trans hB0.out)
  have hb' : Hid (Below w.heap.size w w') := hb0.out.trans (hw'.below.mono hb0.out.size)
  simp only [List.drop]
  go_wp2_with ((with_reducible change wpList _ _ _ ({ dst := none, op := Op.store 31 _ _, type := _, pos := _, after := _, guard := _ } :: _) _ _); refine wpList_store_row (o := ⟨none, _, _, _, _, _⟩) rfl 31 (.tmp 4) (.tmp 31) rfl (w.heap.size) ((cells8 z).toArray) rfl rfl 31 (Z32) hB'.out F.out.size F.out.zero F.out.one ?_)
  refine bodyPost_ret (results_cell_row rfl _ _ w.heap.size 31 (cells8 z).toArray (0, 0) _ rfl (setRow_heap _ _ _ _ _ _ hB'.out) Tryd.underlying31 rfl F.out.size) rfl ?_
  exact ⟨by rw [hroot.out], below_setRow hb'.out (Nat.le_refl _) _⟩

/-- The root of any leaves. -/
theorem root_any (s : Int) : ∀ (n : Nat), n < 140737488355328 → ∀ (ds : List Text) (A : Option Addr) (c : Nat) (w : World), n ≤ c → Base w → RdD w A n ds →
    Calls Tryd.prog 26 #[.int .i64 s, .slice A n c] w fun e w' => e = .returned (.agg (cells8 (rootOf s ds)).toArray) ∧ Below w.heap.size w w' := by
  intro n
  induction n using Nat.strongRecOn with
  | ind n ih =>
    intro hn ds A c w hc hB hr
    by_cases h0 : n = 0
    · subst h0
      obtain rfl := List.eq_nil_of_length_eq_zero hr.1
      exact root_none s A c w hB
    · by_cases h1 : n = 1
      · subst h1
        match ds, hr with
        | [x], hr => exact root_single s x A c w hr
        | [], hr => exact absurd hr.1 (by simp)
        | _ :: _ :: _, hr => exact absurd hr.1 (by simp)
      · exact root_two' s ds n (by omega) hn A c hc w hB hr (fun m hm es A c w h1 h2 h3 => ih m hm (by omega) es A c w h1 h2 h3)
end Go.Proofs.YtngieimjlkpkaaaDoor.TreeRoot
