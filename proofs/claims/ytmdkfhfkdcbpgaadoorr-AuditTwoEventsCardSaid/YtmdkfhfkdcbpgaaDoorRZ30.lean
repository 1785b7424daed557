/-
  Texts of the claim, put into one file: Include, Climbs, RefIncl, Aud0.
-/
import Derived.Test.YtmdkfhfkdcbpgaaDoorRZ29
import Derived.Test.YtmdkfhfkdcbpgaaDoorRZ23
import Derived.Test.YtmdkfhfkdcbpgaaDoorRZ15
import Derived.Test.YtmdkfhfkdcbpgaaDoorRZ3
import Derived.Test.YtmdkfhfkdcbpgaaDoorRZ17
import Derived.Test.YtmdkfhfkdcbpgaaDoorRZ14

namespace Go.Proofs.YtmdkfhfkdcbpgaaDoorR.Include
open Go Go.RowKit Go.Proofs.YtmdkfhfkdcbpgaaDoorR Go.Proofs.YtmdkfhfkdcbpgaaDoorR.Digest Go.Proofs.YtmdkfhfkdcbpgaaDoorR.Mem Go.Proofs.YtmdkfhfkdcbpgaaDoorR.Sha Go.Proofs.YtmdkfhfkdcbpgaaDoorR.ShaWalk Go.Proofs.YtmdkfhfkdcbpgaaDoorR.Bytes Go.Proofs.YtmdkfhfkdcbpgaaDoorR.HashMem Go.Proofs.YtmdkfhfkdcbpgaaDoorR.DigestMem Go.Proofs.YtmdkfhfkdcbpgaaDoorR.DigestTop Go.Proofs.YtmdkfhfkdcbpgaaDoorR.RefTop Go.Proofs.YtmdkfhfkdcbpgaaDoorR.QuietTail Go.Proofs.YtmdkfhfkdcbpgaaDoorR.Grown Go.Proofs.YtmdkfhfkdcbpgaaDoorR.Chain Go.Proofs.YtmdkfhfkdcbpgaaDoorR.TreeMath Go.Proofs.YtmdkfhfkdcbpgaaDoorR.TreeMem Go.Proofs.YtmdkfhfkdcbpgaaDoorR.TreeRoot Go.Proofs.YtmdkfhfkdcbpgaaDoorR.Append Go.Proofs.YtmdkfhfkdcbpgaaDoorR.Book Go.Proofs.YtmdkfhfkdcbpgaaDoorR.TreeRefRoot Go.Proofs.YtmdkfhfkdcbpgaaDoorR.Held Go.Proofs.YtmdkfhfkdcbpgaaDoorR.DigestText Go.Proofs.YtmdkfhfkdcbpgaaDoorR.Node Go.Proofs.YtmdkfhfkdcbpgaaDoorR.NodeW Go.Proofs.YtmdkfhfkdcbpgaaDoorR.Sides Go.Proofs.YtmdkfhfkdcbpgaaDoorR.Way Go.Proofs.YtmdkfhfkdcbpgaaDoorR.WayP Go.Proofs.YtmdkfhfkdcbpgaaDoorR.Climb Go.Proofs.YtmdkfhfkdcbpgaaDoorR.Incl Go.Proofs.YtmdkfhfkdcbpgaaDoorR.InclAny

theorem inclOf_len (s size i : Int) (leaf : Text) (ts ds : List Text) (hl : leaf.length = 32) : (inclOf s size i leaf ts ds).1.length = 32 := by
  unfold inclOf
  split
  · simp
  · split
    · simp
    · rename_i h
      exact (climbN_len hl _ (by rw [List.length_zip]; have h2 : (sides size.toNat i.toNat).length = ds.length := by omega
                                 omega)).1
/-- A new climber. -/
theorem ClAt.new {w : World} {gc : Nat} {s : Int} (h : Blk w gc 255 #[.int .i64 s, .slice none 0 0]) : ClAt w gc none s [] :=
  ⟨.slice none 0 0, [], h, World.ownsRow_nil _ _ _ _, rfl, (fun k e => by cases e), (fun i q h => by simp at h)⟩

set_option maxRecDepth 100000 in
set_option maxHeartbeats 1000000 in
theorem include_any (s size i : Int) (leaf : Text) (hl : leaf.length = 32) (ds : List Text) (A : Option Addr) (n c : Nat) (hn : n < 4503599627370496) (w : World) (hBs : Base w) (hr : RdD w A n ds) :
    Calls Tryd.prog 197 #[.int .i64 s, .int .i64 size, .int .i64 i, .agg (cells8 leaf).toArray, .slice A n c] w fun e w' => e = .returned (.tuple #[.agg (cells8 (inclOf s size i leaf [] ds).1).toArray, .int .i64 (inclOf s size i leaf [] ds).2.1]) ∧ Below w.heap.size w w' := by
  have hb3 : Hid (Below w.heap.size w (((w.alloc (.cells (cells8 leaf).toArray 23)).alloc (.cells Z32 23)).alloc (.cells #[.int .i64 s, .slice none 0 0] 255))) := ((Below.heap_below w _).alloc (by simp) _).alloc (by simp; omega) _
  have hz3 : Hid ((((w.alloc (.cells (cells8 leaf).toArray 23)).alloc (.cells Z32 23)).alloc (.cells #[.int .i64 s, .slice none 0 0] 255)).heap.size = w.heap.size + 3) := by show _ = _; simp
  have hz2 : ((w.alloc (.cells (cells8 leaf).toArray 23)).alloc (.cells Z32 23)).heap.size = w.heap.size + 2 := by simp
  have hB3 : Hid (Blk (((w.alloc (.cells (cells8 leaf).toArray 23)).alloc (.cells Z32 23)).alloc (.cells #[.int .i64 s, .slice none 0 0] 255)) (w.heap.size + 1) 23 Z32) := by
    have := (Blk.new (w.alloc (.cells (cells8 leaf).toArray 23)) 23 Z32).alloc (.cells #[.int .i64 s, .slice none 0 0] 255)
    rwa [show (w.alloc (.cells (cells8 leaf).toArray 23)).heap.size = w.heap.size + 1 by simp] at this
  have hL3 : Hid (Blk (((w.alloc (.cells (cells8 leaf).toArray 23)).alloc (.cells Z32 23)).alloc (.cells #[.int .i64 s, .slice none 0 0] 255)) w.heap.size 23 (cells8 leaf).toArray) := ((Blk.new w 23 (cells8 leaf).toArray).alloc _).alloc _
  have hC3 : ClAt (((w.alloc (.cells (cells8 leaf).toArray 23)).alloc (.cells Z32 23)).alloc (.cells #[.int .i64 s, .slice none 0 0] 255)) (w.heap.size + 2) none s [] := by
    have := Blk.new ((w.alloc (.cells (cells8 leaf).toArray 23)).alloc (.cells Z32 23)) 255 #[.int .i64 s, .slice none 0 0]
    rw [hz2] at this
    exact ClAt.new this
  have hT := Lib.hid (incl_any (w.heap.size + 2) none s [] size i leaf hl ds A n c (((w.alloc (.cells (cells8 leaf).toArray 23)).alloc (.cells Z32 23)).alloc (.cells #[.int .i64 s, .slice none 0 0] 255)) (hBs.below hb3.out hBs.1) (by have := hBs.1; omega) hC3 (fun q h => by cases h) (by have := hn; simp) (hr.below hb3.out) (fun h0 b o e => by
    obtain ⟨b', o', e', h', -⟩ := hr.2.2.at_ (by omega)
    rw [e] at e'
    have e' := Option.some.inj e'
    injection e' with e1
    exact ⟨by omega, fun h => by cases h⟩))
  obtain ⟨x, hx⟩ : ∃ x, inclOf s size i leaf [] ds = x := ⟨_, rfl⟩
  have F := Lib.hid (fit (x := x.1) (by rw [← hx]; exact inclOf_len _ _ _ _ _ _ hl))
  have Fl := Lib.hid (fit (x := leaf) hl)
  rw [hx] at hT ⊢
  clear hC3 hz2 hBs hn hr hl
  go_enter Tryd.func197, Tryd.ntmps197
  go_wp2_with ((with_reducible change wpList _ _ _ ({ dst := some 19, op := _, type := _, pos := _, after := _, guard := _ } :: _) _ _); refine wpList_load_row (o := ⟨some 19, _, _, _, _, _⟩) rfl 23 (.tmp 8) rfl (w.heap.size) rfl 23 ((cells8 leaf).toArray) (0, 0) _ hL3.out Tryd.underlying23 rfl Fl.out.size ?_)
  refine hT.out.mono ?_
  rintro e w4 ⟨rfl, r', -, hk, -⟩
  have hB4 : Hid (Blk w4 (w.heap.size + 1) 23 Z32) := hB3.out.kept hk (fun h => by rcases h with h | h; omega; cases h)
  have hb4 : Hid (Below w.heap.size w w4) := ⟨hk.os.trans hb3.out.os, hk.tape.trans hb3.out.tape, hk.output.trans hb3.out.output, Nat.le_trans hb3.out.size hk.size, fun k h => (hk.block k (by have := hz3.out; omega) (fun e => by rcases e with e | e; omega; cases e)).trans (hb3.out.block k h)⟩
  go_wp2_with ((with_reducible change wpList _ _ _ ({ dst := none, op := Op.store 23 _ _, type := _, pos := _, after := _, guard := _ } :: _) _ _); refine wpList_store_row (o := ⟨none, _, _, _, _, _⟩) rfl 23 (.tmp 10) (.tmp 22) rfl (w.heap.size + 1) ((cells8 x.1).toArray) rfl rfl 23 (Z32) hB4.out F.out.size F.out.zero F.out.one ?_)
  refine bodyPost_ret (results_cell_row2 rfl _ _ (w.heap.size + 1) 23 (cells8 x.1).toArray (0, 0) _ rfl (setRow_heap _ _ _ _ _ _ hB4.out) Tryd.underlying23 rfl F.out.size) rfl ?_
  exact ⟨rfl, below_setRow hb4.out (by omega) _⟩
end Go.Proofs.YtmdkfhfkdcbpgaaDoorR.Include

namespace Go.Proofs.YtmdkfhfkdcbpgaaDoorR.Climbs
open Go Go.RowKit Go.Proofs.YtmdkfhfkdcbpgaaDoorR Go.Proofs.YtmdkfhfkdcbpgaaDoorR.Digest Go.Proofs.YtmdkfhfkdcbpgaaDoorR.Mem Go.Proofs.YtmdkfhfkdcbpgaaDoorR.Sha Go.Proofs.YtmdkfhfkdcbpgaaDoorR.ShaWalk Go.Proofs.YtmdkfhfkdcbpgaaDoorR.Bytes Go.Proofs.YtmdkfhfkdcbpgaaDoorR.HashMem Go.Proofs.YtmdkfhfkdcbpgaaDoorR.DigestMem Go.Proofs.YtmdkfhfkdcbpgaaDoorR.DigestTop Go.Proofs.YtmdkfhfkdcbpgaaDoorR.RefTop Go.Proofs.YtmdkfhfkdcbpgaaDoorR.QuietTail Go.Proofs.YtmdkfhfkdcbpgaaDoorR.Grown Go.Proofs.YtmdkfhfkdcbpgaaDoorR.Chain Go.Proofs.YtmdkfhfkdcbpgaaDoorR.TreeMath Go.Proofs.YtmdkfhfkdcbpgaaDoorR.TreeMem Go.Proofs.YtmdkfhfkdcbpgaaDoorR.TreeRoot Go.Proofs.YtmdkfhfkdcbpgaaDoorR.Append Go.Proofs.YtmdkfhfkdcbpgaaDoorR.Book Go.Proofs.YtmdkfhfkdcbpgaaDoorR.TreeRefRoot Go.Proofs.YtmdkfhfkdcbpgaaDoorR.Held Go.Proofs.YtmdkfhfkdcbpgaaDoorR.DigestText Go.Proofs.YtmdkfhfkdcbpgaaDoorR.Node Go.Proofs.YtmdkfhfkdcbpgaaDoorR.NodeW Go.Proofs.YtmdkfhfkdcbpgaaDoorR.Sides Go.Proofs.YtmdkfhfkdcbpgaaDoorR.Way Go.Proofs.YtmdkfhfkdcbpgaaDoorR.WayP Go.Proofs.YtmdkfhfkdcbpgaaDoorR.Climb Go.Proofs.YtmdkfhfkdcbpgaaDoorR.Incl Go.Proofs.YtmdkfhfkdcbpgaaDoorR.InclAny Go.Proofs.YtmdkfhfkdcbpgaaDoorR.Include

set_option maxRecDepth 100000 in
set_option maxHeartbeats 1000000 in
theorem climb_own (s size i : Int) (leaf : Text) (hl : leaf.length = 32) (ds : List Text) (A : Option Addr) (n c : Nat) (hn : n < 4503599627370496) (w : World) (hBs : Base w) (hr : RdD w A n ds) :
    Calls Tryd.prog 194 #[.int .i64 s, .int .i64 size, .int .i64 i, .agg (cells8 leaf).toArray, .slice A n c] w fun e w' => ∃ v xs r gc, e = .returned (.tuple #[v, .int .i64 (inclOf s size i leaf [] ds).2.1]) ∧ w'.ownsRow 0 27 1 v (inclOf s size i leaf [] ds).2.2.length xs ∧ Txs (fun _ => False) w' gc r xs (inclOf s size i leaf [] ds).2.2 ∧ Below w.heap.size w w' ∧ ∀ k, v.ownBlock = some k → w.heap.size ≤ k := by
  have hb3 : Hid (Below w.heap.size w ((w.alloc (.cells (cells8 leaf).toArray 23)).alloc (.cells #[.int .i64 s, .slice none 0 0] 255))) := (Below.heap_below w _).alloc (by simp) _
  have hz3 : Hid (((w.alloc (.cells (cells8 leaf).toArray 23)).alloc (.cells #[.int .i64 s, .slice none 0 0] 255)).heap.size = w.heap.size + 2) := by show _ = _; simp
  have hL3 : Hid (Blk ((w.alloc (.cells (cells8 leaf).toArray 23)).alloc (.cells #[.int .i64 s, .slice none 0 0] 255)) w.heap.size 23 (cells8 leaf).toArray) := (Blk.new w 23 (cells8 leaf).toArray).alloc _
  have hC3 : ClAt ((w.alloc (.cells (cells8 leaf).toArray 23)).alloc (.cells #[.int .i64 s, .slice none 0 0] 255)) (w.heap.size + 1) none s [] := by
    have := Blk.new (w.alloc (.cells (cells8 leaf).toArray 23)) 255 #[.int .i64 s, .slice none 0 0]
    rw [show (w.alloc (.cells (cells8 leaf).toArray 23)).heap.size = w.heap.size + 1 by simp] at this
    exact ClAt.new this
  have hT := Lib.hid (incl_any (w.heap.size + 1) none s [] size i leaf hl ds A n c ((w.alloc (.cells (cells8 leaf).toArray 23)).alloc (.cells #[.int .i64 s, .slice none 0 0] 255)) (hBs.below hb3.out hBs.1) (by have := hBs.1; omega) hC3 (fun q h => by cases h) (by have := hn; simp) (hr.below hb3.out) (fun h0 b o e => by
    obtain ⟨b', o', e', h', -⟩ := hr.2.2.at_ (by omega)
    rw [e] at e'
    have e' := Option.some.inj e'
    injection e' with e1
    exact ⟨by omega, fun h => by cases h⟩))
  obtain ⟨x, hx⟩ : ∃ x, inclOf s size i leaf [] ds = x := ⟨_, rfl⟩
  have F := Lib.hid (fit (x := x.1) (by rw [← hx]; exact inclOf_len _ _ _ _ _ _ hl))
  have Fl := Lib.hid (fit (x := leaf) hl)
  rw [hx] at hT ⊢
  clear hC3 hBs hn hr hl
  go_enter Tryd.func194, Tryd.ntmps194
  go_wp2_with ((with_reducible change wpList _ _ _ ({ dst := some 22, op := _, type := _, pos := _, after := _, guard := _ } :: _) _ _); refine wpList_load_row (o := ⟨some 22, _, _, _, _, _⟩) rfl 23 (.tmp 8) rfl (w.heap.size) rfl 23 ((cells8 leaf).toArray) (0, 0) _ hL3.out Tryd.underlying23 rfl Fl.out.size ?_)
  refine hT.out.mono ?_
  rintro e w4 ⟨rfl, r', hC4, hk, -⟩
  have hb4 : Hid (Below w.heap.size w w4) := ⟨hk.os.trans hb3.out.os, hk.tape.trans hb3.out.tape, hk.output.trans hb3.out.output, Nat.le_trans hb3.out.size hk.size, fun k h => (hk.block k (by have := hz3.out; omega) (fun e => by rcases e with e | e; omega; cases e)).trans (hb3.out.block k h)⟩
  clear hT hk
  replace hC4 := Lib.hid hC4
  go_wp2_with ((with_reducible change wpList _ _ _ ({ dst := none, op := Op.store 23 (.tmp 13) _, type := _, pos := _, after := _, guard := _ } :: _) _ _); refine wpList_store_whole (o := ⟨none, _, _, _, _, _⟩) rfl 23 (.tmp 13) (.tmp 25) rfl (w4.heap.size) ((cells8 x.1).toArray) rfl rfl 23 (Z32) (Blk.new w4 _ _) F.out.size F.out.zero F.out.one ?_; intro w5 hB5 hk5; have hb45 : Below w4.heap.size w4 w5 := (Below.heap_below w4 _).trans (Bytes.Kept.below_of hk5 (Nat.le_refl _) (by simp)); have hC5 : ClAt w5 (w.heap.size + 1) r' s x.2.2 := ClAtM.kept hC4.out (Kept.of_below hb45) (fun h => h) (fun _ _ h => h); obtain ⟨v4, xs4, hBc, hO5, hv5, hr5, hX5⟩ := hC5; have hA5 : Hid (∀ k, v4.ownBlock = some k → w.heap.size ≤ k) := (fun k e => by have := (hr5 k (by rw [← hv5]; exact e)).1; omega); clear hv5 hr5; have e1 : w5.cell? ⟨w.heap.size + 1, 1, none⟩ = some v4 := hBc.cell 1; replace hO5 := Lib.hid hO5; replace hX5 := Lib.hid hX5; have hb5 := Lib.hid (hb4.out.trans (hb45.mono hb4.out.size)); clear hBc hk5 hB5 hb45)
  go_ret2
  exact ⟨v4, xs4, r', w.heap.size + 1, rfl, hO5.out, hX5.out, hb5.out, hA5.out⟩
theorem climb_any (s size i : Int) (leaf : Text) (hl : leaf.length = 32) (ds : List Text) (A : Option Addr) (n c : Nat) (hn : n < 4503599627370496) (w : World) (hBs : Base w) (hr : RdD w A n ds) :
    Calls Tryd.prog 194 #[.int .i64 s, .int .i64 size, .int .i64 i, .agg (cells8 leaf).toArray, .slice A n c] w fun e w' => ∃ v xs r gc, e = .returned (.tuple #[v, .int .i64 (inclOf s size i leaf [] ds).2.1]) ∧ w'.ownsRow 0 27 1 v (inclOf s size i leaf [] ds).2.2.length xs ∧ Txs (fun _ => False) w' gc r xs (inclOf s size i leaf [] ds).2.2 ∧ Below w.heap.size w w' :=
  (climb_own s size i leaf hl ds A n c hn w hBs hr).mono fun _ _ ⟨v, xs, r, gc, h1, h2, h3, h4, _⟩ => ⟨v, xs, r, gc, h1, h2, h3, h4⟩
end Go.Proofs.YtmdkfhfkdcbpgaaDoorR.Climbs

namespace Go.Proofs.YtmdkfhfkdcbpgaaDoorR.RefIncl
open Go Go.RowKit Go.Proofs.YtmdkfhfkdcbpgaaDoorR Go.Proofs.YtmdkfhfkdcbpgaaDoorR.Digest Go.Proofs.YtmdkfhfkdcbpgaaDoorR.Mem Go.Proofs.YtmdkfhfkdcbpgaaDoorR.Sha Go.Proofs.YtmdkfhfkdcbpgaaDoorR.ShaWalk Go.Proofs.YtmdkfhfkdcbpgaaDoorR.Bytes Go.Proofs.YtmdkfhfkdcbpgaaDoorR.HashMem Go.Proofs.YtmdkfhfkdcbpgaaDoorR.DigestMem Go.Proofs.YtmdkfhfkdcbpgaaDoorR.DigestTop Go.Proofs.YtmdkfhfkdcbpgaaDoorR.RefTop Go.Proofs.YtmdkfhfkdcbpgaaDoorR.QuietTail Go.Proofs.YtmdkfhfkdcbpgaaDoorR.Grown Go.Proofs.YtmdkfhfkdcbpgaaDoorR.Chain Go.Proofs.YtmdkfhfkdcbpgaaDoorR.TreeMath Go.Proofs.YtmdkfhfkdcbpgaaDoorR.TreeMem Go.Proofs.YtmdkfhfkdcbpgaaDoorR.TreeRoot Go.Proofs.YtmdkfhfkdcbpgaaDoorR.Append Go.Proofs.YtmdkfhfkdcbpgaaDoorR.Book Go.Proofs.YtmdkfhfkdcbpgaaDoorR.TreeRefRoot Go.Proofs.YtmdkfhfkdcbpgaaDoorR.Held Go.Proofs.YtmdkfhfkdcbpgaaDoorR.Node Go.Proofs.YtmdkfhfkdcbpgaaDoorR.Sides Go.Proofs.YtmdkfhfkdcbpgaaDoorR.WayP Go.Proofs.YtmdkfhfkdcbpgaaDoorR.Climb Go.Proofs.YtmdkfhfkdcbpgaaDoorR.Incl Go.Proofs.YtmdkfhfkdcbpgaaDoorR.InclAny Go.Proofs.YtmdkfhfkdcbpgaaDoorR.RefSides Go.Proofs.YtmdkfhfkdcbpgaaDoorR.Levels Go.Proofs.YtmdkfhfkdcbpgaaDoorR.Texts Go.Proofs.YtmdkfhfkdcbpgaaDoorR.RefCut Go.Proofs.YtmdkfhfkdcbpgaaDoorR.RefIncl0


set_option maxRecDepth 100000 in
set_option maxHeartbeats 4000000 in
theorem refincl_in (s : Int) (hs63 : s < 9223372036854775808) (size i : Nat) (hs : size ≤ 1099511627776) (hi : i < size) (leaf : Text) (hl : leaf.length = 32) (ds : List Text) (A : Option Addr) (n c : Nat) (hn40 : n < 1099511627776) (w : World) (hr : RdD w A n ds) :
    Calls Tryd.prog 92 #[.int .i64 s, .int .i64 (size : Int), .int .i64 (i : Int), .agg (cells8 leaf).toArray, .slice A n c] w (RPost w (inclOf s size i leaf [] ds)) := by
  obtain ⟨i0, ii, iz0, iz1, iz2⟩ := info_partsN infoT
  have hb2 : Hid (Below w.heap.size w ((w.alloc (.cells (cells8 leaf).toArray 23)).alloc (.cells Z32 23))) := (Below.heap_below w _).alloc (by simp) _
  have hz2 : Hid (((w.alloc (.cells (cells8 leaf).toArray 23)).alloc (.cells Z32 23)).heap.size = w.heap.size + 1 + 1) := by show _ = _; simp
  have hB2 : Hid (Blk ((w.alloc (.cells (cells8 leaf).toArray 23)).alloc (.cells Z32 23)) (w.heap.size + 1) 23 Z32) := by
    have := Blk.new (w.alloc (.cells (cells8 leaf).toArray 23)) 23 Z32
    rwa [show (w.alloc (.cells (cells8 leaf).toArray 23)).heap.size = w.heap.size + 1 by simp] at this
  have hL2 : Hid (Blk ((w.alloc (.cells (cells8 leaf).toArray 23)).alloc (.cells Z32 23)) w.heap.size 23 (cells8 leaf).toArray) := (Blk.new w 23 (cells8 leaf).toArray).alloc _
  have hin : insideB (size : Int) (i : Int) = true := by
    have h1 : (1 : Int) ≤ size := by omega
    have h2 : (size : Int) ≤ 1099511627776 := by omega
    have h3 : (0 : Int) ≤ i := by omega
    have h4 : (i : Int) < size := by omega
    simp [insideB, h1, h2, h3, h4]
  obtain ⟨X, hX⟩ : ∃ X, inclOf s size i leaf [] ds = X := ⟨_, rfl⟩
  rw [hX]
  unfold inclOf at hX
  rw [if_neg (by rw [hin]; decide), Int.toNat_natCast, Int.toNat_natCast] at hX
  obtain ⟨L, hLv⟩ : ∃ L, Hid (levels size = L) := ⟨_, Lib.hid rfl⟩
  have hL40 : L ≤ 40 := by rw [← hLv.out]; exact levels_40 hs
  have hLn : Hid ((lv size i L).length = (sides size i).length) := by show _ = _; rw [← hLv.out]; exact lv_count hi (levels_pow size)
  have hTl : Hid (∀ w', Calls Tryd.prog 127 #[.int .i64 (size : Int)] w' fun e w'' => e = .returned (.int .i64 (L : Int)) ∧ w' = w'') := fun w' => by
    have := levels_any size hs w'
    rw [hLv.out] at this
    exact this
  have hTn : Hid (∀ k : Nat, k ≤ 40 → ∀ w', Calls Tryd.prog 128 #[.int .i64 (size : Int), .int .i64 (i : Int), .int .i64 (k : Int)] w' fun e w'' => e = .returned (.tuple #[.int .i64 (nbAt i k : Nat), .int .i64 (min (nbAt i k + 2 ^ k) size : Nat), .bool (decide (nbAt i k < size))]) ∧ w' = w'') := fun k hk w' => neighbour_any size i k hs hi hk w'
  have hlle : Hid (∀ l, l ≤ L → (lv size i l).length ≤ 40) := fun l hl => by
    have h1 := lv_le (n := size) (j := i) hl
    have h2 := hLn.out
    have h3 := sides_len (L := L) hi (by rw [← hLv.out]; exact levels_pow size)
    omega
  have y1 : decide ((size : Int) < 1) = false := decide_eq_false (by omega)
  have y2 : decide (1099511627776 < (size : Int)) = false := decide_eq_false (by omega)
  have y3 : decide ((i : Int) < 0) = false := decide_eq_false (by omega)
  have y4 : decide (size ≤ i) = false := decide_eq_false (by omega)
  have y5 : ¬ (size ≤ i) := by omega
  have Fl := Lib.hid (fit (x := leaf) hl)
  replace hl := Lib.hid hl
  replace hr := Lib.hid hr
  replace hX := Lib.hid hX
  replace hs63 := Lib.hid hs63
  replace hs := Lib.hid hs
  replace hi := Lib.hid hi
  replace hn40 := Lib.hid hn40
  clear hin
  go_enter Tryd.func92, Tryd.ntmps92
  go_wp2_with fail
  clear y1 y2 y3 y4 y5
  go_loop [13, 14] (fun a b => ∃ l m : Nat, b = .int .i64 (l : Int) ∧ a = .int .i64 (m : Int) ∧ l ≤ L ∧ Hid ((lv size i l).length = m)) (fun _ b => L - (intOf b).toNat)
  case atStart => exact ⟨0, 0, rfl, rfl, Nat.zero_le _, rfl⟩
  case round =>
    obtain ⟨l, m, rfl, rfl, hlL, hm⟩ := hrel
    have hm40 : m ≤ 40 := by have := hlle.out l hlL; rw [hm.out] at this; exact this
    by_cases hlt : l < L
    · have hTk := Lib.hid (hTn.out l (by omega))
      have hz1 : (l : Int) < (L : Int) := by omega
      have hmn : Hid ((lv size i (l + 1)).length = m + if nbAt i l < size then 1 else 0) := by
        show _ = _
        rw [lv_succ, List.length_append, hm.out, nb_lvl hi.out]
      by_cases hnb : nbAt i l < size
      · rw [decide_eq_true hnb] at hTk
        rw [if_pos hnb] at hmn
        clear hnb
        generalize nbAt i l = nb at *
        generalize min (nb + 2 ^ l) size = mn at *
        go_wp2_with (first
          | (go_at_call 127; refine (hTl.out _).mono ?_; rintro e w' ⟨rfl, rfl⟩)
          | (go_at_call 128; refine (hTk.out _).mono ?_; rintro e w' ⟨rfl, rfl⟩))
        go_round
        case rel => exact ⟨l + 1, m + 1, by go_num, by go_num, by omega, hmn.out⟩
        case measure => simp [intOf]; omega
      · rw [decide_eq_false hnb] at hTk
        rw [if_neg hnb] at hmn
        clear hnb
        generalize nbAt i l = nb at *
        generalize min (nb + 2 ^ l) size = mn at *
        go_wp2_with (first
          | (go_at_call 127; refine (hTl.out _).mono ?_; rintro e w' ⟨rfl, rfl⟩)
          | (go_at_call 128; refine (hTk.out _).mono ?_; rintro e w' ⟨rfl, rfl⟩))
        go_round
        case rel => exact ⟨l + 1, m, by go_num, rfl, by omega, hmn.out⟩
        case measure => simp [intOf]; omega
    · obtain rfl : l = L := by omega
      have hz1 : ¬ ((l : Int) < (l : Int)) := by omega
      have hms : Hid ((sides size i).length = m) := hLn.out.symm.trans hm.out
      have hrn := hr.out.1
      by_cases hmn : m = n
      · obtain rfl : n = m := hmn.symm
        have hX' := hX.out
        rw [if_neg (by rw [hms.out, hrn]; exact fun h => h rfl)] at hX'
        replace hX' := Lib.hid hX'
        clear hX hmn hlt hlle hTn hLn
        have y1 : ((n : Int) == (n : Int)) = true := beq_self_eq_true _
        have ws : IntKind.i64.wrap ((size : Int) - 1) = ((size - 1 : Nat) : Int) := by have := hi.out; have := hs.out; rw [IntWalk.i64_in _ (by omega)]; omega
        have ws2 : wrap64 ((size : Int) - 1) = ((size - 1 : Nat) : Int) := by have := hi.out; have := hs.out; rw [IntWalk.wrap64_in _ (by omega)]; omega
        have hN3 : Hid (Blk (((w.alloc (.cells (cells8 leaf).toArray 23)).alloc (.cells Z32 23)).alloc (.cells Z32 23)) (w.heap.size + 1 + 1) 23 Z32) := by
          have := Blk.new ((w.alloc (.cells (cells8 leaf).toArray 23)).alloc (.cells Z32 23)) 23 Z32
          rwa [hz2.out] at this
        have ws4 : wrap64 ((size - 1 : Nat) : Int) = ((size - 1 : Nat) : Int) := by have := hs.out; exact IntWalk.wrap64_in _ (by omega)
        have ws3 : ((size : Int) - 1) = ((size - 1 : Nat) : Int) := by have := hi.out; omega
        go_wp2_with (first
          | (go_at_call 127; refine (hTl.out _).mono ?_; rintro e w' ⟨rfl, rfl⟩)
          | ((with_reducible change wpList _ _ _ ({ dst := some 65, op := _, type := _, pos := _, after := _, guard := _ } :: _) _ _); refine wpList_load_row (o := ⟨some 65, _, _, _, _, _⟩) rfl 23 (.tmp 8) rfl (w.heap.size) rfl 23 ((cells8 leaf).toArray) (0, 0) _ hL2.out Tryd.underlying23 rfl Fl.out.size ?_)
          | ((with_reducible change wpList _ _ _ ({ dst := none, op := Op.store 23 (.tmp 20) _, type := _, pos := _, after := _, guard := _ } :: _) _ _); refine wpList_store_whole (o := ⟨none, _, _, _, _, _⟩) rfl 23 (.tmp 20) (.tmp 65) rfl (w.heap.size + 1 + 1) ((cells8 leaf).toArray) rfl rfl 23 (Z32) hN3.out Fl.out.size Fl.out.zero Fl.out.one ?_; intro wo hLo hko; obtain ⟨hbo, hbo2, hbr⟩ := fresh_at hb2.out hz2.out hko; replace hbo := Lib.hid hbo; replace hbo2 := Lib.hid hbo2; replace hbr := Lib.hid hbr; replace hLo := Lib.hid hLo; clear hko))
        have hBo : Hid (Blk wo (w.heap.size + 1) 23 Z32) := (hbo2.out.block _ hB2.out.lt).trans hB2.out
        have hR0 : Hid (RAt wo wo (w.heap.size + 1 + 1) (climbN s (leaf, []) ((sides size i).zip ds) 0) (.slice none 0 0) []) := by
          show RAt _ _ _ _ _ _
          rw [climbN_zero]
          exact ⟨hLo.out, World.ownsRow_nil _ _ _ _, (fun i q h => by simp at h), Kept.refl _ _⟩
        have hzl : Hid (((sides size i).zip ds).length = n) := by show _ = _; rw [List.length_zip, hms.out, hrn]; omega
        have hlen : Hid (∀ j, j ≤ n → (climbN s (leaf, []) ((sides size i).zip ds) j).1.length = 32 ∧ (climbN s (leaf, []) ((sides size i).zip ds) j).2.length = j) := fun j hj => by
          have := climbN_len (s := s) (st := (leaf, [])) (l := (sides size i).zip ds) hl.out j (by rw [hzl.out]; exact hj)
          exact ⟨this.1, by rw [this.2]; simp⟩
        have hn41 : Hid (n ≤ 40) := hm40
        replace hrn := Lib.hid hrn
        clear y1 ws ws2 ws3 ws4 hB2 hL2 hN3 hLo hm hm40 hb2 hz2 hTl hz1 hl Fl hlL hL40
        go_loopw [18, 19, 21, 22] (fun a b tv jv wr => ∃ (j fn sn : Nat) (v : Value) (xs : List Value), jv = .int .i64 (j : Int) ∧ j ≤ n ∧ a = .int .i64 (fn : Int) ∧ b = .int .i64 (sn : Int) ∧ tv = v ∧ Hid (At size i j fn sn) ∧ Hid (RAt wo wr (w.heap.size + 1 + 1) (climbN s (leaf, []) ((sides size i).zip ds) j) v xs)) (fun _ _ _ jv _ => n - (intOf jv).toNat)
        case atStart => exact ⟨0, i, size - 1, _, [], rfl, Nat.zero_le _, rfl, rfl, rfl, At.zero size i, hR0.out⟩
        case round =>
          clear hR0
          obtain ⟨j, fn, sn, v, xs, rfl, hj, rfl, rfl, htv, hAt, hR⟩ := hrel
          rw [htv]
          clear htv
          have hlj := hlen.out j hj
          obtain ⟨st, hst⟩ : ∃ st, climbN s (leaf, []) ((sides size i).zip ds) j = st := ⟨_, rfl⟩
          rw [hst] at hlj hR
          have hst1 := Lib.hid hlj.1
          have hk : Hid (st.2.length = j) := hlj.2
          have Fs := Lib.hid (fit (x := st.1) hst1.out)
          have hown := hR.out.own
          rw [hk.out] at hown
          obtain ⟨Av, cv, rfl, -⟩ := Own.reads hown
          have hOr := Lib.hid hown
          replace hst := Lib.hid hst
          have hfs := hAt.out.le
          have hfn40 : (fn : Int) < 1099511627776 := by have := hs.out; have := hi.out; omega
          have hsn40 : (sn : Int) < 1099511627776 := by have := hs.out; have := hi.out; omega
          have hfn0 : (0 : Int) ≤ (fn : Int) := by omega
          have hsn0 : (0 : Int) ≤ (sn : Int) := by omega
          have hj0 : (0 : Int) ≤ (j : Int) := by omega
          have hj40 : (j : Int) ≤ 40 := by have := hn41.out; omega
          have hln : Hid (some (w.heap.size + 1 + 1) ≠ (Value.slice Av j cv).ownBlock) := fun e => by have h1 := (hOr.out.lt _ e.symm).1; have h2 := hbr.out; omega
          clear hown hlj hfs
          by_cases hlt : j < n
          · obtain ⟨d, hd⟩ : ∃ d, Hid (ds[j]? = some d) := ⟨_, Lib.hid (List.getElem?_eq_getElem (by rw [hrn.out]; exact hlt))⟩
            have hdl := Lib.hid (hr.out.2.1.at_ hd.out)
            have Fd := Lib.hid (fit (x := d) hdl.out)
            obtain ⟨b, o, rfl, hbb, hdc0⟩ := hr.out.at_ hd.out
            have hdc : Hid (∀ k v, (cells8 d)[k]? = some v → wr.cell? ⟨b, o + j * 32 + k, none⟩ = some v) := fun k v hv => (((Kept.of_below hbo.out).trans hR.out.kept (fun i _ h => h)).cell (p := ⟨b, o + j * 32 + k, none⟩) hbb (fun h => by have h : b = w.heap.size + 1 + 1 := h; have h2 : b < w.heap.size := hbb; omega)).trans (hdc0 k v hv)
            have hjl : Hid (j < (sides size i).length) := by show _ < _; rw [hms.out]; exact hlt
            have hjn : Hid (j + 1 ≤ n) := hlt
            have hz2 : (j : Int) < (n : Int) := by omega
            have hl1 : Hid (j + 1 ≤ maxLen) := by have := hn41.out; show _ ≤ _; unfold maxLen; omega
            have hl2 : Hid ((j + 1) * 24 ≤ 140737488355328) := by have := hn41.out; show _ ≤ _; omega
            have hdn : Hid (some wr.heap.size ≠ (Value.slice Av j cv).ownBlock) := fun e => by have := (hOr.out.lt _ e.symm).2; omega
            clear hlt hj hbb hdc0
            by_cases ho : fn % 2 = 1
            · have hm1 : (fn : Int) % 2 = 1 := by omega
              have hm2 : (fn : Int).tmod 2 = 1 := by rw [Int.tmod_eq_emod_of_nonneg (by omega)]; exact hm1
              have hside := At.left hi.out fn sn hAt.out (.inl ho) hjl.out
              have hdir : Hid (Dir fn sn) := .inl ho
              have hst' : Hid (climbN s (leaf, []) ((sides size i).zip ds) (j + 1) = (ndOf s d st.1, st.2 ++ [kb 1 :: (d ++ st.1)])) := by
                show _ = _
                have hzj : ((sides size i).zip ds)[j]? = some (false, d) := List.getElem?_zip_eq_some.2 ⟨hside, hd.out⟩
                rw [climbN_succ hzj, hst.out, climb1]
                rfl
              obtain ⟨z, hz⟩ : ∃ z, Hid (ndOf s d st.1 = z) := ⟨_, Lib.hid rfl⟩
              obtain ⟨q, hq⟩ : ∃ q : Text, Hid (kb 1 :: (d ++ st.1) = q) := ⟨_, Lib.hid rfl⟩
              have hql : Hid (q.length = 65) := by show _ = _; rw [← hq.out]; simp [hst1.out, hdl.out]
              rw [hz.out, hq.out] at hst'
              have F := Lib.hid (fit (x := z) (by rw [← hz.out]; exact ndOf_len s _ _))
              have hN : Hid (∀ w', Calls Tryd.prog 139 #[.int .i64 s, .agg (cells8 d).toArray, .agg (cells8 st.1).toArray] w' fun e w'' => e = .returned (.agg (cells8 z).toArray) ∧ Below w'.heap.size w' w'') := fun w' => by
                have := refnode_any d st.1 hdl.out hst1.out s w' hs63.out
                rw [show cutTo (sum (kb 1 :: (d ++ st.1))) (clampN s) = z from hz.out] at this
                exact this
              have hqq := Lib.hid (F.out.same st.1 hst1.out)
              clear hside ho
              go_wp2_with (first
                | ((with_reducible change wpList _ _ _ ({ dst := some 75, op := _, type := _, pos := _, after := _, guard := _ } :: _) _ _); refine wpList_load_part (o := ⟨some 75, _, _, _, _, _⟩) rfl 23 (.tmp 74) rfl (b) (o + j * 32) rfl (cells8 d) _ hdc.out Tryd.underlying23 rfl Fd.out.part ?_)
                | ((with_reducible change wpList _ _ _ ({ dst := none, op := Op.store 23 (.tmp 23) _, type := _, pos := _, after := _, guard := _ } :: _) _ _); refine wpList_store_whole (o := ⟨none, _, _, _, _, _⟩) rfl 23 (.tmp 23) (.tmp 75) rfl (wr.heap.size) ((cells8 d).toArray) rfl rfl 23 (Z32) (Blk.new wr _ _) Fd.out.size Fd.out.zero Fd.out.one ?_; intro w1 hD1 hk1; have hb1 : Hid (Below wr.heap.size wr w1) := kept_fresh hk1; have hs1 : Hid (wo.heap.size ≤ w1.heap.size) := Nat.le_trans hR.out.kept.size hb1.out.size; have hO1 : Hid (w1.ownsRow wo.heap.size 27 1 (.slice Av j cv) j xs) := own_below hOr.out hb1.out; have hL1 : Hid (Blk w1 (w.heap.size + 1 + 1) 23 (cells8 st.1).toArray) := (hb1.out.block _ hR.out.leaf.lt).trans hR.out.leaf; replace hD1 := Lib.hid hD1; clear hk1))
              have hT : Hid (Calls Tryd.prog 93 #[.int .i64 1, .slice (some ⟨w1.heap.size, 0, none⟩) 2 2] (tW w1 wr.heap.size (w.heap.size + 1 + 1)) fun e w' => ∃ v, e = .returned v ∧ w'.ownsRow (tW w1 wr.heap.size (w.heap.size + 1 + 1)).heap.size 5 1 v 65 (cells8 q) ∧ Below (tW w1 wr.heap.size (w.heap.size + 1 + 1)).heap.size (tW w1 wr.heap.size (w.heap.size + 1 + 1)) w') := by
                have hpc := tW_pieces (w := w1) hD1.out hL1.out hdl.out hst1.out
                have := refText_any [d, st.1] 2 rfl (some ⟨w1.heap.size, 0, none⟩) 2 1 (tW w1 wr.heap.size (w.heap.size + 1 + 1)) (by simp [hst1.out, hdl.out]) (by decide) hpc
                rw [show kb 1 :: [d, st.1].flatten = q by rw [← hq.out]; simp, show 1 + [d, st.1].flatten.length = 65 by simp [hst1.out, hdl.out]] at this
                exact this
              refine held_start (fun _ => True) 8 rfl (by kernel_rfl) ?_
              refine held_take (i := 0) (v := .slice Av j cv) rfl (by kernel_rfl) (by kernel_rfl) (by kernel_rfl) (fun _ _ _ h => h) trivial (by rfl) (fun w' hw' => run_mv (.tmp 21) rfl w') ?_
              (intro K hK; go_simp; refine hK _ ?_; clear hK K)
              refine held_take (i := 1) (v := .slice (some ⟨wr.heap.size, 0, none⟩) 32 32) rfl (by kernel_rfl) (by kernel_rfl) (by kernel_rfl) (fun _ _ _ h => h) trivial (by rfl) (fun w' hw' => by go_simp) ?_
              (intro K hK; go_simp; refine hK _ ?_; clear hK K)
              refine held_take (i := 2) (v := .slice (some ⟨(w.heap.size + 1 + 1), 0, none⟩) 32 32) rfl (by kernel_rfl) (by kernel_rfl) (by kernel_rfl) (fun _ _ _ h => h) trivial (by rfl) (fun w' hw' => by go_simp) ?_
              (intro K hK; go_simp; refine hK _ ?_; clear hK K)
              refine held_only (i := 3) rfl (by kernel_rfl) (by rfl) (fun K hK => ?_)
              go_simp
              refine hK _ _ trivial ?_
              clear hK K
              change wpAnyH _ _ _ _ _ _ _ _ (tW w1 wr.heap.size (w.heap.size + 1 + 1))
              refine held_only (i := 4) rfl (by kernel_rfl) (by rfl) (fun K hK => ?_)
              refine wp_fn (R := fun v w'' => Below (tW w1 wr.heap.size (w.heap.size + 1 + 1)).heap.size (tW w1 wr.heap.size (w.heap.size + 1 + 1)) w'' ∧ w''.ownsRow (tW w1 wr.heap.size (w.heap.size + 1 + 1)).heap.size 5 1 v 65 (cells8 q)) (args := #[.int .i64 1, .slice (some ⟨w1.heap.size, 0, none⟩) 2 2]) _ _ rfl rfl Tryd.func93 (by kernel_rfl) (by kernel_rfl) (hT.out.mono fun e w'' ⟨v, he, ho, hb⟩ => ⟨_, he, hb, ho⟩) ?_
              rintro v3 w3 ⟨hb3, ho3⟩
              obtain ⟨gt, ct, rfl, hgt1, hgt2⟩ := ho3.form (by decide)
              go_simp
              refine hK _ _ trivial ?_
              clear hK K
              have hgt : Hid (w1.heap.size ≤ gt ∧ gt < w3.heap.size) := by have := tW_size w1 wr.heap.size (w.heap.size + 1 + 1); exact ⟨by omega, hgt2⟩
              have hb13 : Hid (Below w1.heap.size w1 w3) := (tW_below w1 _ _).trans (hb3.mono (by rw [tW_size]; omega))
              obtain ⟨At, ct', et, hct, -, -, hrt, -⟩ := Own.reads ho3
              injection et with et1 et2 et3
              subst et1 et3
              have hrq : Hid (Reads w3 1 (some ⟨gt, 0, none⟩) 65 (cells8 q)) := hrt
              replace hct := Lib.hid hct
              have hOw : Hid ((w3.alloc (.cells #[.slice (some ⟨gt, 0, none⟩) 65 ct] 27)).ownsRow wo.heap.size 27 1 (.slice Av j cv) j xs) := (own_below (own_below hO1.out hb13.out) (Below.heap_below w3 _))
              have hNw : Hid (Reads (w3.alloc (.cells #[.slice (some ⟨gt, 0, none⟩) 65 ct] 27)) 1 (some ⟨w3.heap.size, 0, none⟩) 1 [.slice (some ⟨gt, 0, none⟩) 65 ct]) := Blk.reads (Blk.new w3 27 #[.slice (some ⟨gt, 0, none⟩) 65 ct]) 0 _ rfl (fun j u hu => by rw [Nat.zero_add]; simpa using hu)
              have hs3 : Hid (wo.heap.size ≤ (w3.alloc (.cells #[.slice (some ⟨gt, 0, none⟩) 65 ct] 27)).heap.size) := by have := hb13.out.size; have := hs1.out; show _ ≤ _; simp; omega
              clear hb3 ho3 hgt1 hgt2 hrt hT
              refine held_only (i := 5) rfl (by kernel_rfl) (by rfl) (fun K hK => ?_)
              go_simp
              refine hK _ _ trivial ?_
              clear hK K
              refine held_only (i := 6) rfl (by kernel_rfl) (by rfl) (fun K hK => ?_)
              refine wp_append_src _ (.tmp 84) (.tmp 89) 24 rfl wo.heap.size 27 i0 (.slice none 0 0) 1 24 Tryd.underlying24 ii iz0 iz1 iz2 rfl (by decide) (.slice Av j cv) j xs rfl hOw.out (some ⟨w3.heap.size, 0, none⟩) 1 1 [.slice (some ⟨gt, 0, none⟩) 65 ct] rfl hNw.out (fun e => by cases e) (one_one rfl) hl1.out hl2.out hs3.out ?_
              intro v4 w4 hG
              obtain ⟨A4, c4, rfl, -⟩ := Own.reads hG.own
              replace hG := Lib.hid hG
              go_simp
              refine hK _ _ trivial ?_
              clear hK K
              refine held_take (i := 7) (v := .slice A4 (j + 1) c4) rfl (by kernel_rfl) (by kernel_rfl) (by kernel_rfl) (fun _ _ _ h => h) trivial (by rfl) (fun w' hw' => by first | go_simp | rfl) ?_
              (intro K hK; go_simp; refine hK _ ?_; clear hK K)
              refine held_end (by kernel_rfl) ?_
              have hk14 : Hid (Kept (fun q => some q = (Value.slice Av j cv).ownBlock) w1 w4) := ⟨hG.out.grow.os.trans hb13.out.os, hG.out.grow.tape.trans hb13.out.tape, hG.out.grow.output.trans hb13.out.output, (by have h1 := hG.out.grow.size; have h2 := hb13.out.size; simp at h1; omega), fun p hp hne => (hG.out.grow.block p (by have := hb13.out.size; simp; omega) hne).trans ((Below.heap_alloc _ _ _ (by have := hb13.out.size; omega)).trans (hb13.out.block p hp))⟩
              have hD4 : Hid (Blk w4 wr.heap.size 23 (cells8 d).toArray) := hD1.out.kept hk14.out (fun e => hdn.out e)
              have hL4 : Hid (Blk w4 (w.heap.size + 1 + 1) 23 (cells8 st.1).toArray) := hL1.out.kept hk14.out (fun e => hln.out e)
              clear hNw hs3 hOw
              go_wp2_with (first
                | ((with_reducible change wpList _ _ _ ({ dst := some 92, op := _, type := _, pos := _, after := _, guard := _ } :: _) _ _); refine wpList_load_row (o := ⟨some 92, _, _, _, _, _⟩) rfl 23 (.tmp 23) rfl (wr.heap.size) rfl 23 ((cells8 d).toArray) (0, 0) _ hD4.out Tryd.underlying23 rfl Fd.out.size ?_)
                | ((with_reducible change wpList _ _ _ ({ dst := some 93, op := _, type := _, pos := _, after := _, guard := _ } :: _) _ _); refine wpList_load_row (o := ⟨some 93, _, _, _, _, _⟩) rfl 23 (.tmp 20) rfl ((w.heap.size + 1 + 1)) rfl 23 ((cells8 st.1).toArray) (0, 0) _ hL4.out Tryd.underlying23 rfl Fs.out.size ?_)
                | (go_at_call 139; refine (hN.out _).mono ?_; rintro e w5 ⟨rfl, hb5⟩; have hL5 : Hid (Blk w5 (w.heap.size + 1 + 1) 23 (cells8 st.1).toArray) := (hb5.block _ hL4.out.lt).trans hL4.out; replace hb5 := Lib.hid hb5)
                | ((with_reducible change wpList _ _ _ ({ dst := none, op := Op.store 23 (.tmp 20) _, type := _, pos := _, after := _, guard := _ } :: _) _ _); refine wpList_store_whole0 (o := ⟨none, _, _, _, _, _⟩) rfl rfl 23 (.tmp 20) (.tmp 94) rfl ((w.heap.size + 1 + 1)) ((cells8 z).toArray) rfl rfl 23 ((cells8 st.1).toArray) hL5.out F.out.size hqq.out F.out.one ?_; intro w6 hB6 hk6; have hR6 : Hid (RAt wo w6 (w.heap.size + 1 + 1) (climbN s (leaf, []) ((sides size i).zip ds) (j + 1)) (.slice A4 (j + 1) c4) (xs ++ [.slice (some ⟨gt, 0, none⟩) 65 ct])) := (by show RAt _ _ _ _ _ _; rw [hst'.out]; have := (RAt.step (st' := (z, st.2 ++ [q])) (q := q) (gt := gt) (ct := ct) hR.out hbr.out hk.out hb1.out hb13.out (by rw [hql.out]; exact hrq.out) hgt.out (by rw [hql.out]; exact hct.out) (by rw [hql.out]; exact hG.out) hb5.out hB6 hk6 rfl); rw [hql.out] at this; exact this); clear hB6 hk6 hb5 hL5 hL4 hD4 hG hrq hct hgt hb13 hk14))
              clear hm1 hm2
              go_loopw [18, 19] (fun a b wi => ∃ f2 s2 : Nat, a = .int .i64 (f2 : Int) ∧ b = .int .i64 (s2 : Int) ∧ f2 ≤ fn ∧ s2 ≤ sn ∧ Hid (At size i j f2 s2) ∧ Hid (Dir f2 s2) ∧ wi = w6) (fun a _ _ => (intOf a).toNat)
              case atStart => exact ⟨fn, sn, rfl, rfl, Nat.le_refl _, Nat.le_refl _, hAt.out, hdir.out, rfl⟩
              case round =>
                obtain ⟨f2, s2, rfl, rfl, hf2, hs2, hA2, hd2, rfl⟩ := hrel
                have hf40 : (f2 : Int) < 1099511627776 := by have := hfn40; omega
                have hs40 : (s2 : Int) < 1099511627776 := by have := hsn40; omega
                have hf0 : (0 : Int) ≤ (f2 : Int) := by omega
                have hs0 : (0 : Int) ≤ (s2 : Int) := by omega
                by_cases hodd : f2 % 2 = 1
                · have hm1 : (f2 : Int) % 2 = 1 := by omega
                  have hm2 : (f2 : Int).tmod 2 = 1 := by rw [Int.tmod_eq_emod_of_nonneg (by omega)]; exact hm1
                  have hf1 : (f2 : Int).tdiv 2 = ((f2 / 2 : Nat) : Int) := by rw [Int.tdiv_eq_ediv_of_nonneg (by omega)]; omega
                  have hs1 : (s2 : Int).tdiv 2 = ((s2 / 2 : Nat) : Int) := by rw [Int.tdiv_eq_ediv_of_nonneg (by omega)]; omega
                  obtain ⟨-, hAt2⟩ := hA2.out.odd hi.out hodd
                  replace hAt2 := Lib.hid hAt2
                  clear hodd hd2
                  go_wp2_with fail
                  go_roundw
                  case rel => exact ⟨j + 1, f2 / 2, s2 / 2, _, _, by go_num, hjn.out, (by first | rfl | (congr 1; omega)), (by first | rfl | (congr 1; omega)), rfl, hAt2.out, hR6.out⟩
                  case measure => (have := hjn.out; simp [intOf]; omega)
                · have hm1 : (f2 : Int) % 2 = 0 := by omega
                  have hm2 : (f2 : Int).tmod 2 = 0 := by rw [Int.tmod_eq_emod_of_nonneg (by omega)]; exact hm1
                  have heq : f2 = s2 := by have : f2 % 2 = 1 ∨ f2 = s2 := hd2.out; omega
                  subst heq
                  have hf1 : (f2 : Int).tdiv 2 = ((f2 / 2 : Nat) : Int) := by rw [Int.tdiv_eq_ediv_of_nonneg (by omega)]; omega
                  have hne0 : ¬ f2 = 0 := fun e => by
                    have h1 := hA2.out
                    rw [e] at h1
                    have := h1.done hi.out rfl
                    have := hjl.out
                    omega
                  have hm3 : ((f2 : Int) == 0) = false := beq_eq_false_iff_ne.2 (by omega)
                  have hm4 : ((f2 : Int) != 0) = true := by rw [bne, hm3]; rfl
                  have hm5 : ¬ ((f2 : Int) = 0) := by omega
                  have hA3 : Hid (At size i j (f2 / 2) (f2 / 2)) := hA2.out.skip hi.out hodd rfl
                  have hlt3 : Hid (f2 / 2 < f2) := by show _ < _; omega
                  clear hodd hd2 hne0
                  go_wp2_with fail
                  go_roundw
                  case rel => exact ⟨f2 / 2, f2 / 2, (by first | rfl | (congr 1; omega)), (by first | rfl | (congr 1; omega)), by have := hlt3.out; omega, by have := hlt3.out; omega, hA3.out, .inr rfl, by first | rfl | trivial⟩
                  case measure => (have := hlt3.out; simp [intOf]; omega)
            · by_cases he : fn = sn
              · subst he
                have hm1 : (fn : Int) % 2 = 0 := by omega
                have hm2 : (fn : Int).tmod 2 = 0 := by rw [Int.tmod_eq_emod_of_nonneg (by omega)]; exact hm1
                have hm3 : ((fn : Int) == (fn : Int)) = true := beq_self_eq_true _
                have hside := At.left hi.out fn fn hAt.out (.inr rfl) hjl.out
                have hdir : Hid (Dir fn fn) := .inr rfl
                have hst' : Hid (climbN s (leaf, []) ((sides size i).zip ds) (j + 1) = (ndOf s d st.1, st.2 ++ [kb 1 :: (d ++ st.1)])) := by
                  show _ = _
                  have hzj : ((sides size i).zip ds)[j]? = some (false, d) := List.getElem?_zip_eq_some.2 ⟨hside, hd.out⟩
                  rw [climbN_succ hzj, hst.out, climb1]
                  rfl
                obtain ⟨z, hz⟩ : ∃ z, Hid (ndOf s d st.1 = z) := ⟨_, Lib.hid rfl⟩
                obtain ⟨q, hq⟩ : ∃ q : Text, Hid (kb 1 :: (d ++ st.1) = q) := ⟨_, Lib.hid rfl⟩
                have hql : Hid (q.length = 65) := by show _ = _; rw [← hq.out]; simp [hst1.out, hdl.out]
                rw [hz.out, hq.out] at hst'
                have F := Lib.hid (fit (x := z) (by rw [← hz.out]; exact ndOf_len s _ _))
                have hN : Hid (∀ w', Calls Tryd.prog 139 #[.int .i64 s, .agg (cells8 d).toArray, .agg (cells8 st.1).toArray] w' fun e w'' => e = .returned (.agg (cells8 z).toArray) ∧ Below w'.heap.size w' w'') := fun w' => by
                  have := refnode_any d st.1 hdl.out hst1.out s w' hs63.out
                  rw [show cutTo (sum (kb 1 :: (d ++ st.1))) (clampN s) = z from hz.out] at this
                  exact this
                have hqq := Lib.hid (F.out.same st.1 hst1.out)
                clear hside ho
                go_wp2_with (first
                  | ((with_reducible change wpList _ _ _ ({ dst := some 75, op := _, type := _, pos := _, after := _, guard := _ } :: _) _ _); refine wpList_load_part (o := ⟨some 75, _, _, _, _, _⟩) rfl 23 (.tmp 74) rfl (b) (o + j * 32) rfl (cells8 d) _ hdc.out Tryd.underlying23 rfl Fd.out.part ?_)
                  | ((with_reducible change wpList _ _ _ ({ dst := none, op := Op.store 23 (.tmp 23) _, type := _, pos := _, after := _, guard := _ } :: _) _ _); refine wpList_store_whole (o := ⟨none, _, _, _, _, _⟩) rfl 23 (.tmp 23) (.tmp 75) rfl (wr.heap.size) ((cells8 d).toArray) rfl rfl 23 (Z32) (Blk.new wr _ _) Fd.out.size Fd.out.zero Fd.out.one ?_; intro w1 hD1 hk1; have hb1 : Hid (Below wr.heap.size wr w1) := kept_fresh hk1; have hs1 : Hid (wo.heap.size ≤ w1.heap.size) := Nat.le_trans hR.out.kept.size hb1.out.size; have hO1 : Hid (w1.ownsRow wo.heap.size 27 1 (.slice Av j cv) j xs) := own_below hOr.out hb1.out; have hL1 : Hid (Blk w1 (w.heap.size + 1 + 1) 23 (cells8 st.1).toArray) := (hb1.out.block _ hR.out.leaf.lt).trans hR.out.leaf; replace hD1 := Lib.hid hD1; clear hk1))
                have hT : Hid (Calls Tryd.prog 93 #[.int .i64 1, .slice (some ⟨w1.heap.size, 0, none⟩) 2 2] (tW w1 wr.heap.size (w.heap.size + 1 + 1)) fun e w' => ∃ v, e = .returned v ∧ w'.ownsRow (tW w1 wr.heap.size (w.heap.size + 1 + 1)).heap.size 5 1 v 65 (cells8 q) ∧ Below (tW w1 wr.heap.size (w.heap.size + 1 + 1)).heap.size (tW w1 wr.heap.size (w.heap.size + 1 + 1)) w') := by
                  have hpc := tW_pieces (w := w1) hD1.out hL1.out hdl.out hst1.out
                  have := refText_any [d, st.1] 2 rfl (some ⟨w1.heap.size, 0, none⟩) 2 1 (tW w1 wr.heap.size (w.heap.size + 1 + 1)) (by simp [hst1.out, hdl.out]) (by decide) hpc
                  rw [show kb 1 :: [d, st.1].flatten = q by rw [← hq.out]; simp, show 1 + [d, st.1].flatten.length = 65 by simp [hst1.out, hdl.out]] at this
                  exact this
                refine held_start (fun _ => True) 8 rfl (by kernel_rfl) ?_
                refine held_take (i := 0) (v := .slice Av j cv) rfl (by kernel_rfl) (by kernel_rfl) (by kernel_rfl) (fun _ _ _ h => h) trivial (by rfl) (fun w' hw' => run_mv (.tmp 21) rfl w') ?_
                (intro K hK; go_simp; refine hK _ ?_; clear hK K)
                refine held_take (i := 1) (v := .slice (some ⟨wr.heap.size, 0, none⟩) 32 32) rfl (by kernel_rfl) (by kernel_rfl) (by kernel_rfl) (fun _ _ _ h => h) trivial (by rfl) (fun w' hw' => by go_simp) ?_
                (intro K hK; go_simp; refine hK _ ?_; clear hK K)
                refine held_take (i := 2) (v := .slice (some ⟨(w.heap.size + 1 + 1), 0, none⟩) 32 32) rfl (by kernel_rfl) (by kernel_rfl) (by kernel_rfl) (fun _ _ _ h => h) trivial (by rfl) (fun w' hw' => by go_simp) ?_
                (intro K hK; go_simp; refine hK _ ?_; clear hK K)
                refine held_only (i := 3) rfl (by kernel_rfl) (by rfl) (fun K hK => ?_)
                go_simp
                refine hK _ _ trivial ?_
                clear hK K
                change wpAnyH _ _ _ _ _ _ _ _ (tW w1 wr.heap.size (w.heap.size + 1 + 1))
                refine held_only (i := 4) rfl (by kernel_rfl) (by rfl) (fun K hK => ?_)
                refine wp_fn (R := fun v w'' => Below (tW w1 wr.heap.size (w.heap.size + 1 + 1)).heap.size (tW w1 wr.heap.size (w.heap.size + 1 + 1)) w'' ∧ w''.ownsRow (tW w1 wr.heap.size (w.heap.size + 1 + 1)).heap.size 5 1 v 65 (cells8 q)) (args := #[.int .i64 1, .slice (some ⟨w1.heap.size, 0, none⟩) 2 2]) _ _ rfl rfl Tryd.func93 (by kernel_rfl) (by kernel_rfl) (hT.out.mono fun e w'' ⟨v, he, ho, hb⟩ => ⟨_, he, hb, ho⟩) ?_
                rintro v3 w3 ⟨hb3, ho3⟩
                obtain ⟨gt, ct, rfl, hgt1, hgt2⟩ := ho3.form (by decide)
                go_simp
                refine hK _ _ trivial ?_
                clear hK K
                have hgt : Hid (w1.heap.size ≤ gt ∧ gt < w3.heap.size) := by have := tW_size w1 wr.heap.size (w.heap.size + 1 + 1); exact ⟨by omega, hgt2⟩
                have hb13 : Hid (Below w1.heap.size w1 w3) := (tW_below w1 _ _).trans (hb3.mono (by rw [tW_size]; omega))
                obtain ⟨At, ct', et, hct, -, -, hrt, -⟩ := Own.reads ho3
                injection et with et1 et2 et3
                subst et1 et3
                have hrq : Hid (Reads w3 1 (some ⟨gt, 0, none⟩) 65 (cells8 q)) := hrt
                replace hct := Lib.hid hct
                have hOw : Hid ((w3.alloc (.cells #[.slice (some ⟨gt, 0, none⟩) 65 ct] 27)).ownsRow wo.heap.size 27 1 (.slice Av j cv) j xs) := (own_below (own_below hO1.out hb13.out) (Below.heap_below w3 _))
                have hNw : Hid (Reads (w3.alloc (.cells #[.slice (some ⟨gt, 0, none⟩) 65 ct] 27)) 1 (some ⟨w3.heap.size, 0, none⟩) 1 [.slice (some ⟨gt, 0, none⟩) 65 ct]) := Blk.reads (Blk.new w3 27 #[.slice (some ⟨gt, 0, none⟩) 65 ct]) 0 _ rfl (fun j u hu => by rw [Nat.zero_add]; simpa using hu)
                have hs3 : Hid (wo.heap.size ≤ (w3.alloc (.cells #[.slice (some ⟨gt, 0, none⟩) 65 ct] 27)).heap.size) := by have := hb13.out.size; have := hs1.out; show _ ≤ _; simp; omega
                clear hb3 ho3 hgt1 hgt2 hrt hT
                refine held_only (i := 5) rfl (by kernel_rfl) (by rfl) (fun K hK => ?_)
                go_simp
                refine hK _ _ trivial ?_
                clear hK K
                refine held_only (i := 6) rfl (by kernel_rfl) (by rfl) (fun K hK => ?_)
                refine wp_append_src _ (.tmp 84) (.tmp 89) 24 rfl wo.heap.size 27 i0 (.slice none 0 0) 1 24 Tryd.underlying24 ii iz0 iz1 iz2 rfl (by decide) (.slice Av j cv) j xs rfl hOw.out (some ⟨w3.heap.size, 0, none⟩) 1 1 [.slice (some ⟨gt, 0, none⟩) 65 ct] rfl hNw.out (fun e => by cases e) (one_one rfl) hl1.out hl2.out hs3.out ?_
                intro v4 w4 hG
                obtain ⟨A4, c4, rfl, -⟩ := Own.reads hG.own
                replace hG := Lib.hid hG
                go_simp
                refine hK _ _ trivial ?_
                clear hK K
                refine held_take (i := 7) (v := .slice A4 (j + 1) c4) rfl (by kernel_rfl) (by kernel_rfl) (by kernel_rfl) (fun _ _ _ h => h) trivial (by rfl) (fun w' hw' => by first | go_simp | rfl) ?_
                (intro K hK; go_simp; refine hK _ ?_; clear hK K)
                refine held_end (by kernel_rfl) ?_
                have hk14 : Hid (Kept (fun q => some q = (Value.slice Av j cv).ownBlock) w1 w4) := ⟨hG.out.grow.os.trans hb13.out.os, hG.out.grow.tape.trans hb13.out.tape, hG.out.grow.output.trans hb13.out.output, (by have h1 := hG.out.grow.size; have h2 := hb13.out.size; simp at h1; omega), fun p hp hne => (hG.out.grow.block p (by have := hb13.out.size; simp; omega) hne).trans ((Below.heap_alloc _ _ _ (by have := hb13.out.size; omega)).trans (hb13.out.block p hp))⟩
                have hD4 : Hid (Blk w4 wr.heap.size 23 (cells8 d).toArray) := hD1.out.kept hk14.out (fun e => hdn.out e)
                have hL4 : Hid (Blk w4 (w.heap.size + 1 + 1) 23 (cells8 st.1).toArray) := hL1.out.kept hk14.out (fun e => hln.out e)
                clear hNw hs3 hOw
                go_wp2_with (first
                  | ((with_reducible change wpList _ _ _ ({ dst := some 92, op := _, type := _, pos := _, after := _, guard := _ } :: _) _ _); refine wpList_load_row (o := ⟨some 92, _, _, _, _, _⟩) rfl 23 (.tmp 23) rfl (wr.heap.size) rfl 23 ((cells8 d).toArray) (0, 0) _ hD4.out Tryd.underlying23 rfl Fd.out.size ?_)
                  | ((with_reducible change wpList _ _ _ ({ dst := some 93, op := _, type := _, pos := _, after := _, guard := _ } :: _) _ _); refine wpList_load_row (o := ⟨some 93, _, _, _, _, _⟩) rfl 23 (.tmp 20) rfl ((w.heap.size + 1 + 1)) rfl 23 ((cells8 st.1).toArray) (0, 0) _ hL4.out Tryd.underlying23 rfl Fs.out.size ?_)
                  | (go_at_call 139; refine (hN.out _).mono ?_; rintro e w5 ⟨rfl, hb5⟩; have hL5 : Hid (Blk w5 (w.heap.size + 1 + 1) 23 (cells8 st.1).toArray) := (hb5.block _ hL4.out.lt).trans hL4.out; replace hb5 := Lib.hid hb5)
                  | ((with_reducible change wpList _ _ _ ({ dst := none, op := Op.store 23 (.tmp 20) _, type := _, pos := _, after := _, guard := _ } :: _) _ _); refine wpList_store_whole0 (o := ⟨none, _, _, _, _, _⟩) rfl rfl 23 (.tmp 20) (.tmp 94) rfl ((w.heap.size + 1 + 1)) ((cells8 z).toArray) rfl rfl 23 ((cells8 st.1).toArray) hL5.out F.out.size hqq.out F.out.one ?_; intro w6 hB6 hk6; have hR6 : Hid (RAt wo w6 (w.heap.size + 1 + 1) (climbN s (leaf, []) ((sides size i).zip ds) (j + 1)) (.slice A4 (j + 1) c4) (xs ++ [.slice (some ⟨gt, 0, none⟩) 65 ct])) := (by show RAt _ _ _ _ _ _; rw [hst'.out]; have := (RAt.step (st' := (z, st.2 ++ [q])) (q := q) (gt := gt) (ct := ct) hR.out hbr.out hk.out hb1.out hb13.out (by rw [hql.out]; exact hrq.out) hgt.out (by rw [hql.out]; exact hct.out) (by rw [hql.out]; exact hG.out) hb5.out hB6 hk6 rfl); rw [hql.out] at this; exact this); clear hB6 hk6 hb5 hL5 hL4 hD4 hG hrq hct hgt hb13 hk14))
                clear hm1 hm2 hm3
                go_loopw [18, 19] (fun a b wi => ∃ f2 s2 : Nat, a = .int .i64 (f2 : Int) ∧ b = .int .i64 (s2 : Int) ∧ f2 ≤ fn ∧ s2 ≤ fn ∧ Hid (At size i j f2 s2) ∧ Hid (Dir f2 s2) ∧ wi = w6) (fun a _ _ => (intOf a).toNat)
                case atStart => exact ⟨fn, fn, rfl, rfl, Nat.le_refl _, Nat.le_refl _, hAt.out, hdir.out, rfl⟩
                case round =>
                  obtain ⟨f2, s2, rfl, rfl, hf2, hs2, hA2, hd2, rfl⟩ := hrel
                  have hf40 : (f2 : Int) < 1099511627776 := by have := hfn40; omega
                  have hs40 : (s2 : Int) < 1099511627776 := by have := hsn40; omega
                  have hf0 : (0 : Int) ≤ (f2 : Int) := by omega
                  have hs0 : (0 : Int) ≤ (s2 : Int) := by omega
                  by_cases hodd : f2 % 2 = 1
                  · have hm1 : (f2 : Int) % 2 = 1 := by omega
                    have hm2 : (f2 : Int).tmod 2 = 1 := by rw [Int.tmod_eq_emod_of_nonneg (by omega)]; exact hm1
                    have hf1 : (f2 : Int).tdiv 2 = ((f2 / 2 : Nat) : Int) := by rw [Int.tdiv_eq_ediv_of_nonneg (by omega)]; omega
                    have hs1 : (s2 : Int).tdiv 2 = ((s2 / 2 : Nat) : Int) := by rw [Int.tdiv_eq_ediv_of_nonneg (by omega)]; omega
                    obtain ⟨-, hAt2⟩ := hA2.out.odd hi.out hodd
                    replace hAt2 := Lib.hid hAt2
                    clear hodd hd2
                    go_wp2_with fail
                    go_roundw
                    case rel => exact ⟨j + 1, f2 / 2, s2 / 2, _, _, by go_num, hjn.out, (by first | rfl | (congr 1; omega)), (by first | rfl | (congr 1; omega)), rfl, hAt2.out, hR6.out⟩
                    case measure => (have := hjn.out; simp [intOf]; omega)
                  · have hm1 : (f2 : Int) % 2 = 0 := by omega
                    have hm2 : (f2 : Int).tmod 2 = 0 := by rw [Int.tmod_eq_emod_of_nonneg (by omega)]; exact hm1
                    have heq : f2 = s2 := by have : f2 % 2 = 1 ∨ f2 = s2 := hd2.out; omega
                    subst heq
                    have hf1 : (f2 : Int).tdiv 2 = ((f2 / 2 : Nat) : Int) := by rw [Int.tdiv_eq_ediv_of_nonneg (by omega)]; omega
                    have hne0 : ¬ f2 = 0 := fun e => by
                      have h1 := hA2.out
                      rw [e] at h1
                      have := h1.done hi.out rfl
                      have := hjl.out
                      omega
                    have hm3 : ((f2 : Int) == 0) = false := beq_eq_false_iff_ne.2 (by omega)
                    have hm4 : ((f2 : Int) != 0) = true := by rw [bne, hm3]; rfl
                    have hm5 : ¬ ((f2 : Int) = 0) := by omega
                    have hA3 : Hid (At size i j (f2 / 2) (f2 / 2)) := hA2.out.skip hi.out hodd rfl
                    have hlt3 : Hid (f2 / 2 < f2) := by show _ < _; omega
                    clear hodd hd2 hne0
                    go_wp2_with fail
                    go_roundw
                    case rel => exact ⟨f2 / 2, f2 / 2, (by first | rfl | (congr 1; omega)), (by first | rfl | (congr 1; omega)), by have := hlt3.out; omega, by have := hlt3.out; omega, hA3.out, .inr rfl, by first | rfl | trivial⟩
                    case measure => (have := hlt3.out; simp [intOf]; omega)
              · have hm1 : (fn : Int) % 2 = 0 := by omega
                have hm2 : (fn : Int).tmod 2 = 0 := by rw [Int.tmod_eq_emod_of_nonneg (by omega)]; exact hm1
                have hm3 : ((fn : Int) == (sn : Int)) = false := beq_eq_false_iff_ne.2 (by omega)
                have hm4 : ¬ ((fn : Int) = (sn : Int)) := by omega
                obtain ⟨hside, hAt2⟩ := hAt.out.right hi.out ho he
                replace hAt2 := Lib.hid hAt2
                have hst' : Hid (climbN s (leaf, []) ((sides size i).zip ds) (j + 1) = (ndOf s st.1 d, st.2 ++ [kb 1 :: (st.1 ++ d)])) := by
                  show _ = _
                  have hzj : ((sides size i).zip ds)[j]? = some (true, d) := List.getElem?_zip_eq_some.2 ⟨hside, hd.out⟩
                  rw [climbN_succ hzj, hst.out, climb1]
                  rfl
                obtain ⟨z, hz⟩ : ∃ z, Hid (ndOf s st.1 d = z) := ⟨_, Lib.hid rfl⟩
                obtain ⟨q, hq⟩ : ∃ q : Text, Hid (kb 1 :: (st.1 ++ d) = q) := ⟨_, Lib.hid rfl⟩
                have hql : Hid (q.length = 65) := by show _ = _; rw [← hq.out]; simp [hst1.out, hdl.out]
                rw [hz.out, hq.out] at hst'
                have F := Lib.hid (fit (x := z) (by rw [← hz.out]; exact ndOf_len s _ _))
                have hN : Hid (∀ w', Calls Tryd.prog 139 #[.int .i64 s, .agg (cells8 st.1).toArray, .agg (cells8 d).toArray] w' fun e w'' => e = .returned (.agg (cells8 z).toArray) ∧ Below w'.heap.size w' w'') := fun w' => by
                  have := refnode_any st.1 d hst1.out hdl.out s w' hs63.out
                  rw [show cutTo (sum (kb 1 :: (st.1 ++ d))) (clampN s) = z from hz.out] at this
                  exact this
                have hqq := Lib.hid (F.out.same st.1 hst1.out)
                clear hside ho he
                go_wp2_with (first
                  | ((with_reducible change wpList _ _ _ ({ dst := some 75, op := _, type := _, pos := _, after := _, guard := _ } :: _) _ _); refine wpList_load_part (o := ⟨some 75, _, _, _, _, _⟩) rfl 23 (.tmp 74) rfl (b) (o + j * 32) rfl (cells8 d) _ hdc.out Tryd.underlying23 rfl Fd.out.part ?_)
                  | ((with_reducible change wpList _ _ _ ({ dst := none, op := Op.store 23 (.tmp 23) _, type := _, pos := _, after := _, guard := _ } :: _) _ _); refine wpList_store_whole (o := ⟨none, _, _, _, _, _⟩) rfl 23 (.tmp 23) (.tmp 75) rfl (wr.heap.size) ((cells8 d).toArray) rfl rfl 23 (Z32) (Blk.new wr _ _) Fd.out.size Fd.out.zero Fd.out.one ?_; intro w1 hD1 hk1; have hb1 : Hid (Below wr.heap.size wr w1) := kept_fresh hk1; have hs1 : Hid (wo.heap.size ≤ w1.heap.size) := Nat.le_trans hR.out.kept.size hb1.out.size; have hO1 : Hid (w1.ownsRow wo.heap.size 27 1 (.slice Av j cv) j xs) := own_below hOr.out hb1.out; have hL1 : Hid (Blk w1 (w.heap.size + 1 + 1) 23 (cells8 st.1).toArray) := (hb1.out.block _ hR.out.leaf.lt).trans hR.out.leaf; replace hD1 := Lib.hid hD1; clear hk1))
                have hT : Hid (Calls Tryd.prog 93 #[.int .i64 1, .slice (some ⟨w1.heap.size, 0, none⟩) 2 2] (tW w1 (w.heap.size + 1 + 1) wr.heap.size) fun e w' => ∃ v, e = .returned v ∧ w'.ownsRow (tW w1 (w.heap.size + 1 + 1) wr.heap.size).heap.size 5 1 v 65 (cells8 q) ∧ Below (tW w1 (w.heap.size + 1 + 1) wr.heap.size).heap.size (tW w1 (w.heap.size + 1 + 1) wr.heap.size) w') := by
                  have hpc := tW_pieces (w := w1) hL1.out hD1.out hst1.out hdl.out
                  have := refText_any [st.1, d] 2 rfl (some ⟨w1.heap.size, 0, none⟩) 2 1 (tW w1 (w.heap.size + 1 + 1) wr.heap.size) (by simp [hst1.out, hdl.out]) (by decide) hpc
                  rw [show kb 1 :: [st.1, d].flatten = q by rw [← hq.out]; simp, show 1 + [st.1, d].flatten.length = 65 by simp [hst1.out, hdl.out]] at this
                  exact this
                refine held_start (fun _ => True) 8 rfl (by kernel_rfl) ?_
                refine held_take (i := 0) (v := .slice Av j cv) rfl (by kernel_rfl) (by kernel_rfl) (by kernel_rfl) (fun _ _ _ h => h) trivial (by rfl) (fun w' hw' => run_mv (.tmp 21) rfl w') ?_
                (intro K hK; go_simp; refine hK _ ?_; clear hK K)
                refine held_take (i := 1) (v := .slice (some ⟨(w.heap.size + 1 + 1), 0, none⟩) 32 32) rfl (by kernel_rfl) (by kernel_rfl) (by kernel_rfl) (fun _ _ _ h => h) trivial (by rfl) (fun w' hw' => by go_simp) ?_
                (intro K hK; go_simp; refine hK _ ?_; clear hK K)
                refine held_take (i := 2) (v := .slice (some ⟨wr.heap.size, 0, none⟩) 32 32) rfl (by kernel_rfl) (by kernel_rfl) (by kernel_rfl) (fun _ _ _ h => h) trivial (by rfl) (fun w' hw' => by go_simp) ?_
                (intro K hK; go_simp; refine hK _ ?_; clear hK K)
                refine held_only (i := 3) rfl (by kernel_rfl) (by rfl) (fun K hK => ?_)
                go_simp
                refine hK _ _ trivial ?_
                clear hK K
                change wpAnyH _ _ _ _ _ _ _ _ (tW w1 (w.heap.size + 1 + 1) wr.heap.size)
                refine held_only (i := 4) rfl (by kernel_rfl) (by rfl) (fun K hK => ?_)
                refine wp_fn (R := fun v w'' => Below (tW w1 (w.heap.size + 1 + 1) wr.heap.size).heap.size (tW w1 (w.heap.size + 1 + 1) wr.heap.size) w'' ∧ w''.ownsRow (tW w1 (w.heap.size + 1 + 1) wr.heap.size).heap.size 5 1 v 65 (cells8 q)) (args := #[.int .i64 1, .slice (some ⟨w1.heap.size, 0, none⟩) 2 2]) _ _ rfl rfl Tryd.func93 (by kernel_rfl) (by kernel_rfl) (hT.out.mono fun e w'' ⟨v, he, ho, hb⟩ => ⟨_, he, hb, ho⟩) ?_
                rintro v3 w3 ⟨hb3, ho3⟩
                obtain ⟨gt, ct, rfl, hgt1, hgt2⟩ := ho3.form (by decide)
                go_simp
                refine hK _ _ trivial ?_
                clear hK K
                have hgt : Hid (w1.heap.size ≤ gt ∧ gt < w3.heap.size) := by have := tW_size w1 (w.heap.size + 1 + 1) wr.heap.size; exact ⟨by omega, hgt2⟩
                have hb13 : Hid (Below w1.heap.size w1 w3) := (tW_below w1 _ _).trans (hb3.mono (by rw [tW_size]; omega))
                obtain ⟨At, ct', et, hct, -, -, hrt, -⟩ := Own.reads ho3
                injection et with et1 et2 et3
                subst et1 et3
                have hrq : Hid (Reads w3 1 (some ⟨gt, 0, none⟩) 65 (cells8 q)) := hrt
                replace hct := Lib.hid hct
                have hOw : Hid ((w3.alloc (.cells #[.slice (some ⟨gt, 0, none⟩) 65 ct] 27)).ownsRow wo.heap.size 27 1 (.slice Av j cv) j xs) := (own_below (own_below hO1.out hb13.out) (Below.heap_below w3 _))
                have hNw : Hid (Reads (w3.alloc (.cells #[.slice (some ⟨gt, 0, none⟩) 65 ct] 27)) 1 (some ⟨w3.heap.size, 0, none⟩) 1 [.slice (some ⟨gt, 0, none⟩) 65 ct]) := Blk.reads (Blk.new w3 27 #[.slice (some ⟨gt, 0, none⟩) 65 ct]) 0 _ rfl (fun j u hu => by rw [Nat.zero_add]; simpa using hu)
                have hs3 : Hid (wo.heap.size ≤ (w3.alloc (.cells #[.slice (some ⟨gt, 0, none⟩) 65 ct] 27)).heap.size) := by have := hb13.out.size; have := hs1.out; show _ ≤ _; simp; omega
                clear hb3 ho3 hgt1 hgt2 hrt hT
                refine held_only (i := 5) rfl (by kernel_rfl) (by rfl) (fun K hK => ?_)
                go_simp
                refine hK _ _ trivial ?_
                clear hK K
                refine held_only (i := 6) rfl (by kernel_rfl) (by rfl) (fun K hK => ?_)
                refine wp_append_src _ (.tmp 106) (.tmp 111) 24 rfl wo.heap.size 27 i0 (.slice none 0 0) 1 24 Tryd.underlying24 ii iz0 iz1 iz2 rfl (by decide) (.slice Av j cv) j xs rfl hOw.out (some ⟨w3.heap.size, 0, none⟩) 1 1 [.slice (some ⟨gt, 0, none⟩) 65 ct] rfl hNw.out (fun e => by cases e) (one_one rfl) hl1.out hl2.out hs3.out ?_
                intro v4 w4 hG
                obtain ⟨A4, c4, rfl, -⟩ := Own.reads hG.own
                replace hG := Lib.hid hG
                go_simp
                refine hK _ _ trivial ?_
                clear hK K
                refine held_take (i := 7) (v := .slice A4 (j + 1) c4) rfl (by kernel_rfl) (by kernel_rfl) (by kernel_rfl) (fun _ _ _ h => h) trivial (by rfl) (fun w' hw' => by first | go_simp | rfl) ?_
                (intro K hK; go_simp; refine hK _ ?_; clear hK K)
                refine held_end (by kernel_rfl) ?_
                have hk14 : Hid (Kept (fun q => some q = (Value.slice Av j cv).ownBlock) w1 w4) := ⟨hG.out.grow.os.trans hb13.out.os, hG.out.grow.tape.trans hb13.out.tape, hG.out.grow.output.trans hb13.out.output, (by have h1 := hG.out.grow.size; have h2 := hb13.out.size; simp at h1; omega), fun p hp hne => (hG.out.grow.block p (by have := hb13.out.size; simp; omega) hne).trans ((Below.heap_alloc _ _ _ (by have := hb13.out.size; omega)).trans (hb13.out.block p hp))⟩
                have hD4 : Hid (Blk w4 wr.heap.size 23 (cells8 d).toArray) := hD1.out.kept hk14.out (fun e => hdn.out e)
                have hL4 : Hid (Blk w4 (w.heap.size + 1 + 1) 23 (cells8 st.1).toArray) := hL1.out.kept hk14.out (fun e => hln.out e)
                clear hNw hs3 hOw
                go_wp2_with (first
                  | ((with_reducible change wpList _ _ _ ({ dst := some 114, op := _, type := _, pos := _, after := _, guard := _ } :: _) _ _); refine wpList_load_row (o := ⟨some 114, _, _, _, _, _⟩) rfl 23 (.tmp 20) rfl ((w.heap.size + 1 + 1)) rfl 23 ((cells8 st.1).toArray) (0, 0) _ hL4.out Tryd.underlying23 rfl Fs.out.size ?_)
                  | ((with_reducible change wpList _ _ _ ({ dst := some 115, op := _, type := _, pos := _, after := _, guard := _ } :: _) _ _); refine wpList_load_row (o := ⟨some 115, _, _, _, _, _⟩) rfl 23 (.tmp 23) rfl (wr.heap.size) rfl 23 ((cells8 d).toArray) (0, 0) _ hD4.out Tryd.underlying23 rfl Fd.out.size ?_)
                  | (go_at_call 139; refine (hN.out _).mono ?_; rintro e w5 ⟨rfl, hb5⟩; have hL5 : Hid (Blk w5 (w.heap.size + 1 + 1) 23 (cells8 st.1).toArray) := (hb5.block _ hL4.out.lt).trans hL4.out; replace hb5 := Lib.hid hb5)
                  | ((with_reducible change wpList _ _ _ ({ dst := none, op := Op.store 23 (.tmp 20) _, type := _, pos := _, after := _, guard := _ } :: _) _ _); refine wpList_store_whole0 (o := ⟨none, _, _, _, _, _⟩) rfl rfl 23 (.tmp 20) (.tmp 116) rfl ((w.heap.size + 1 + 1)) ((cells8 z).toArray) rfl rfl 23 ((cells8 st.1).toArray) hL5.out F.out.size hqq.out F.out.one ?_; intro w6 hB6 hk6; have hR6 : Hid (RAt wo w6 (w.heap.size + 1 + 1) (climbN s (leaf, []) ((sides size i).zip ds) (j + 1)) (.slice A4 (j + 1) c4) (xs ++ [.slice (some ⟨gt, 0, none⟩) 65 ct])) := (by show RAt _ _ _ _ _ _; rw [hst'.out]; have := (RAt.step (st' := (z, st.2 ++ [q])) (q := q) (gt := gt) (ct := ct) hR.out hbr.out hk.out hb1.out hb13.out (by rw [hql.out]; exact hrq.out) hgt.out (by rw [hql.out]; exact hct.out) (by rw [hql.out]; exact hG.out) hb5.out hB6 hk6 rfl); rw [hql.out] at this; exact this); clear hB6 hk6 hb5 hL5 hL4 hD4 hG hrq hct hgt hb13 hk14))
                have hf1 : (fn : Int).tdiv 2 = ((fn / 2 : Nat) : Int) := by rw [Int.tdiv_eq_ediv_of_nonneg (by omega)]; omega
                have hs1' : (sn : Int).tdiv 2 = ((sn / 2 : Nat) : Int) := by rw [Int.tdiv_eq_ediv_of_nonneg (by omega)]; omega
                clear hm1 hm2 hm3 hm4
                go_wp2_with fail
                go_roundw
                case rel => exact ⟨j + 1, fn / 2, sn / 2, _, _, by go_num, hjn.out, (by first | rfl | (congr 1; omega)), (by first | rfl | (congr 1; omega)), rfl, hAt2.out, hR6.out⟩
                case measure => (have := hjn.out; simp [intOf]; omega)
          · obtain rfl : j = n := by omega
            have hz2 : ¬ ((j : Int) < (j : Int)) := by omega
            have hres : Hid (Blk wr (w.heap.size + 1) 23 Z32) := hBo.out.kept hR.out.kept (by omega)
            have hI1 := Lib.hid hR.out.leaf
            clear hj hlt hln
            go_wp2_with (first
              | ((with_reducible change wpList _ _ _ ({ dst := some 121, op := _, type := _, pos := _, after := _, guard := _ } :: _) _ _); refine wpList_load_row (o := ⟨some 121, _, _, _, _, _⟩) rfl 23 (.tmp 20) rfl ((w.heap.size + 1 + 1)) rfl 23 ((cells8 st.1).toArray) (0, 0) _ hI1.out Tryd.underlying23 rfl Fs.out.size ?_)
              | ((with_reducible change wpList _ _ _ ({ dst := none, op := Op.store 23 _ _, type := _, pos := _, after := _, guard := _ } :: _) _ _); refine wpList_store_row (o := ⟨none, _, _, _, _, _⟩) rfl 23 (.tmp 10) (.tmp 121) rfl (w.heap.size + 1) ((cells8 st.1).toArray) rfl rfl 23 (Z32) hres.out Fs.out.size Fs.out.zero Fs.out.one ?_))
            refine bodyPost_ret (results_cell_row3 rfl _ _ (w.heap.size + 1) 23 (cells8 st.1).toArray (0, 0) _ rfl (setRow_heap _ _ _ _ _ _ hres.out) Tryd.underlying23 rfl Fs.out.size) rfl ?_
            have hXX := hX'.out
            rw [hrn.out, hst.out] at hXX
            subst hXX
            have hk9 : Kept (· = w.heap.size + 1) wr (wr.setRow (w.heap.size + 1) (cells8 st.1).toArray) := Bytes.Kept.setRow (S := fun k => k = w.heap.size + 1) (Kept.refl _ _) rfl _
            refine ⟨_, xs, _, w.heap.size + 1 + 1, rfl, ownsRow_base (own_kept hR.out.own hk9 (fun k e h => ?_)) (Nat.zero_le _), Txs.weaken (Txs.keep hR.out.txs hk9 (fun k h => .inr (.inr ?_))), ?_⟩
            · have h1 := (hR.out.own.lt k e).1
              have h2 := hbr.out
              omega
            · have h2 := hbr.out
              show k < wo.heap.size
              omega
            · exact (((Kept.of_below hbo.out).trans hR.out.kept (fun i _ h => h)).trans (T := (· = w.heap.size + 1)) hk9 (fun i hi h => absurd hi (by omega))).mono (fun i hi h => absurd hi (by omega)) |>.below
      · have hX' := hX.out
        rw [if_pos (by rw [hms.out, hrn]; exact hmn)] at hX'
        subst hX'
        have y1 : ((m : Int) == (n : Int)) = false := beq_eq_false_iff_ne.2 (by omega)
        have y2 : ¬ ((m : Int) = (n : Int)) := by omega
        clear hmn hlt hlle hTn hLn
        go_wp2_with (first
          | (go_at_call 127; refine (hTl.out _).mono ?_; rintro e w' ⟨rfl, rfl⟩)
          | ((with_reducible change wpList _ _ _ ({ dst := none, op := Op.store 23 _ _, type := _, pos := _, after := _, guard := _ } :: _) _ _); refine wpList_store_row (o := ⟨none, _, _, _, _, _⟩) rfl 23 (.tmp 10) (.tmp 61) rfl (w.heap.size + 1) (Z32) rfl rfl 23 (Z32) hB2.out size32' rfl one32 ?_))
        refine bodyPost_ret (results_cell_row3 rfl _ _ (w.heap.size + 1) 23 Z32 (0, 0) _ rfl (setRow_heap _ _ _ _ _ _ hB2.out) Tryd.underlying23 rfl size32') rfl ?_
        exact ⟨.slice none 0 0, [], none, 0, by rw [zero32]; rfl, World.ownsRow_nil _ _ _ _, (fun i q h => by simp at h), below_setRow hb2.out (by omega) _⟩
theorem refincl_any (s : Int) (hs63 : s < 9223372036854775808) (size i : Int) (leaf : Text) (hl : leaf.length = 32) (ds : List Text) (A : Option Addr) (n c : Nat) (hn40 : n < 1099511627776) (w : World) (hr : RdD w A n ds) :
    Calls Tryd.prog 92 #[.int .i64 s, .int .i64 size, .int .i64 i, .agg (cells8 leaf).toArray, .slice A n c] w (RPost w (inclOf s size i leaf [] ds)) := by
  cases hin : insideB size i with
  | false =>
    obtain ⟨X, hX⟩ : ∃ X, inclOf s size i leaf [] ds = X := ⟨_, rfl⟩
    rw [hX]
    unfold inclOf at hX
    rw [if_pos hin] at hX
    subst hX
    refine (refincl_out s size i leaf A n c w hin).mono ?_
    rintro e w' ⟨rfl, hb⟩
    exact ⟨_, [], none, 0, by rw [zero32], World.ownsRow_nil _ _ _ _, (fun i q h => by simp at h), hb⟩
  | true =>
    obtain ⟨h1, h2, h3, h4⟩ := insideB_true hin
    obtain ⟨sz, rfl⟩ := Int.eq_ofNat_of_zero_le (show 0 ≤ size by omega)
    obtain ⟨j, rfl⟩ := Int.eq_ofNat_of_zero_le h3
    exact refincl_in s hs63 sz j (by omega) (by omega) leaf hl ds A n c hn40 w hr
end Go.Proofs.YtmdkfhfkdcbpgaaDoorR.RefIncl

namespace Go.Proofs.YtmdkfhfkdcbpgaaDoorR.Aud0
end Go.Proofs.YtmdkfhfkdcbpgaaDoorR.Aud0
