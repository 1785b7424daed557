/-
  Texts of the claim, put into one file: ToldTaken.
-/
import Derived.Test.YtmdkfhfkdcbpgaaDoorRZ21
import Derived.Test.YtmdkfhfkdcbpgaaDoorRZ5
import Derived.Test.YtmdkfhfkdcbpgaaDoorRZ11
import Derived.Test.YtmdkfhfkdcbpgaaDoorRZ17

namespace Go.Proofs.YtmdkfhfkdcbpgaaDoorR.ToldTaken
open Go Go.RowKit Go.Proofs.YtmdkfhfkdcbpgaaDoorR Go.Proofs.YtmdkfhfkdcbpgaaDoorR.Mem Go.Proofs.YtmdkfhfkdcbpgaaDoorR.Sha Go.Proofs.YtmdkfhfkdcbpgaaDoorR.Bytes Go.Proofs.YtmdkfhfkdcbpgaaDoorR.HashMem Go.Proofs.YtmdkfhfkdcbpgaaDoorR.DigestMem Go.Proofs.YtmdkfhfkdcbpgaaDoorR.QuietTail Go.Proofs.YtmdkfhfkdcbpgaaDoorR.Grown Go.Proofs.YtmdkfhfkdcbpgaaDoorR.Chain Go.Proofs.YtmdkfhfkdcbpgaaDoorR.TreeMem Go.Proofs.YtmdkfhfkdcbpgaaDoorR.TreeRoot Go.Proofs.YtmdkfhfkdcbpgaaDoorR.Want Go.Proofs.YtmdkfhfkdcbpgaaDoorR.Plain Go.Proofs.YtmdkfhfkdcbpgaaDoorR.ToldV Go.Proofs.YtmdkfhfkdcbpgaaDoorR.DigEq Go.Proofs.YtmdkfhfkdcbpgaaDoorR.Book Go.Proofs.YtmdkfhfkdcbpgaaDoorR.Book2

theorem qDT : Tryd.prog.eqGuardType Tryd.prog.depth 23 = false := by kernel_rfl
set_option maxRecDepth 100000 in
set_option maxHeartbeats 2000000 in
theorem taken_any (s : Int) (b e : Text) (hb : b.length = 32) (he : e.length = 32) (es : List Text) (n : Nat) (hn : es.length = n) (hn63 : n < 140737488355328) (A : Option Addr) (c : Nat) (w : World) (hBs : Base w) (hp : Pieces w A es) (hsh : Short es) :
    Calls Tryd.prog 211 #[.agg (toldV s b e A n c).toArray] w fun e' w' => e' = .returned (.bool (decide (chainOf s b es = e))) ∧ Below w.heap.size w w' := by
  obtain ⟨x, hx⟩ : ∃ x, chainOf s b es = x := ⟨_, rfl⟩
  have hxl : x.length = 32 := by rw [← hx]; exact chainOf_len s b hb es
  have hCh := Lib.hid (fun w' (h : Below w.heap.size w w') => chain_any s b hb es n hn hn63 A c w' (hBs.below h hBs.1) (hp.below h) hsh)
  rw [hx] at hCh
  have hE := Lib.hid (fun w' => eql_dig x e hxl he w')
  obtain ⟨g, hg⟩ : ∃ g, decide (x = e) = g := ⟨_, rfl⟩
  rw [hx, hg]
  rw [hg] at hE
  obtain ⟨cs, hcs⟩ : ∃ cs, Hid ((toldV s b e A n c).toArray = cs) := ⟨_, Lib.hid rfl⟩
  have hb0 : Hid (Below w.heap.size w (w.alloc (.cells cs 167))) := Below.heap_below w _
  have hP : Hid (Blk (w.alloc (.cells cs 167)) w.heap.size 167 cs) := Blk.new w _ _
  have q0 : Hid (∀ w', Below (w.alloc (.cells cs 167)).heap.size (w.alloc (.cells cs 167)) w' → w'.cell? ⟨w.heap.size, 0, none⟩ = some (.int .i64 s)) := fun w' h => by rw [(show Blk w' _ _ _ from (h.block _ hP.out.lt).trans hP.out).cell 0, ← hcs.out, List.getElem?_toArray]; exact toldV_0
  have q65 : Hid (∀ w', Below (w.alloc (.cells cs 167)).heap.size (w.alloc (.cells cs 167)) w' → w'.cell? ⟨w.heap.size, 65, none⟩ = some (.slice A n c)) := fun w' h => by rw [(show Blk w' _ _ _ from (h.block _ hP.out.lt).trans hP.out).cell 65, ← hcs.out, List.getElem?_toArray]; exact toldV_65 hb he
  have qb : Hid (∀ w', Below (w.alloc (.cells cs 167)).heap.size (w.alloc (.cells cs 167)) w' → ∀ j v, (cells8 b)[j]? = some v → w'.cell? ⟨w.heap.size, 1 + j, none⟩ = some v) := fun w' h j v hv => by rw [(show Blk w' _ _ _ from (h.block _ hP.out.lt).trans hP.out).cell (1 + j), ← hcs.out, List.getElem?_toArray]; exact toldV_b j v hv
  have qe : Hid (∀ w', Below (w.alloc (.cells cs 167)).heap.size (w.alloc (.cells cs 167)) w' → ∀ j v, (cells8 e)[j]? = some v → w'.cell? ⟨w.heap.size, 33 + j, none⟩ = some v) := fun w' h j v hv => by rw [(show Blk w' _ _ _ from (h.block _ hP.out.lt).trans hP.out).cell (33 + j), ← hcs.out, List.getElem?_toArray]; exact toldV_e hb j v hv
  have hsb : Hid ((Tryd.prog.info? 23).map (·.size) = some (cells8 b).length) := by show _ = _; rw [cells8_len, hb]; exact size31
  have hse : Hid ((Tryd.prog.info? 23).map (·.size) = some (cells8 e).length) := by show _ = _; rw [cells8_len, he]; exact size31
  rw [hcs.out]
  obtain ⟨W, hW⟩ : ∃ W, Hid (W = w.alloc (.cells cs 167)) := ⟨_, rfl⟩
  rw [← hW.out] at hb0 hP q0 q65 qb qe
  clear hb he hn hn63 hBs hp hsh hx hxl hg hcs
  go_enter Tryd.func211, Tryd.ntmps211
  go_wp2_with fail
  change Code.wp _ _ _ _ (w.alloc (.cells cs 167))
  rw [← hW.out]
  clear hW
  refine q_region (Class W) (by kernel_rfl) (by kernel_rfl) (Class.mk_ ((Below.refl _ _).drew)) ?_
  refine q_val (v := .pointer (some ⟨w.heap.size, 0, none⟩)) rfl (fun w' hw' => by go_simp) ?_
  (intro K hK; go_simp; refine hK _ ?_; clear hK K)
  refine q_val (v := .int .i64 s) rfl (fun w' hw' => by have h := q0.out w' hw'.below; go_simp) ?_
  (intro K hK; go_simp; refine hK _ ?_; clear hK K)
  refine q_val (v := .pointer (some ⟨w.heap.size, 1, none⟩)) rfl (fun w' hw' => by go_simp) ?_
  (intro K hK; go_simp; refine hK _ ?_; clear hK K)
  refine q_part rfl 23 (.tmp 5) rfl w.heap.size (1) rfl (cells8 b) _ (fun w' hw' => qb.out w' hw'.below) Tryd.underlying23 rfl hsb.out ?_
  (intro K hK; go_simp; refine hK _ ?_; clear hK K)
  refine q_val (v := .pointer (some ⟨w.heap.size, 65, none⟩)) rfl (fun w' hw' => by go_simp) ?_
  (intro K hK; go_simp; refine hK _ ?_; clear hK K)
  refine q_val (v := .slice A n c) rfl (fun w' hw' => by have h := q65.out w' hw'.below; go_simp) ?_
  (intro K hK; go_simp; refine hK _ ?_; clear hK K)
  refine q_fn (v := .agg (cells8 x).toArray) (args := #[.int .i64 s, .agg (cells8 b).toArray, .slice A n c]) rfl _ _ rfl rfl Tryd.func107 (by kernel_rfl) (by kernel_rfl) (fun w' hw' => (hCh.out w' (hb0.out.trans (hw'.below.mono hb0.out.size))).mono (fun e w'' ⟨he, h⟩ => ⟨he, hw'.next h⟩)) ?_
  (intro K hK; go_simp; refine hK _ ?_; clear hK K)
  refine q_val (v := .pointer (some ⟨w.heap.size, 33, none⟩)) rfl (fun w' hw' => by go_simp) ?_
  (intro K hK; go_simp; refine hK _ ?_; clear hK K)
  refine q_part rfl 23 (.tmp 10) rfl w.heap.size (33) rfl (cells8 e) _ (fun w' hw' => qe.out w' hw'.below) Tryd.underlying23 rfl hse.out ?_
  (intro K hK; go_simp; refine hK _ ?_; clear hK K)
  refine q_val (v := .bool g) rfl (fun w' hw' => run_cmp rfl rfl rfl qDT (hE.out w')) ?_
  (intro K hK; go_simp; refine hK _ ?_; clear hK K)
  refine q_val (v := .bool g) rfl (fun w' hw' => by go_simp) ?_
  (intro K hK; go_simp; refine hK _ ?_; clear hK K)
  refine q_nil ?_
  intro w7 hw7
  have h7 : Hid (Below w.heap.size w w7) := hb0.out.trans (hw7.below.mono hb0.out.size)
  go_wp2_with fail
  go_ret
  exact ⟨rfl, h7.out⟩
end Go.Proofs.YtmdkfhfkdcbpgaaDoorR.ToldTaken
