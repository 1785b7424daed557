/-
  Texts of the claim, put into one file: DigestTop.
-/
import Derived.Test.YtmdkfhfkdcbpgaaDoorRZ12
import Derived.StillTailTactics

namespace Go.Proofs.YtmdkfhfkdcbpgaaDoorR.DigestTop
open Go Go.RowKit Go.Proofs.YtmdkfhfkdcbpgaaDoorR Go.Proofs.YtmdkfhfkdcbpgaaDoorR.Mem Go.Proofs.YtmdkfhfkdcbpgaaDoorR.Sha Go.Proofs.YtmdkfhfkdcbpgaaDoorR.ShaWalk Go.Proofs.YtmdkfhfkdcbpgaaDoorR.Bytes Go.Proofs.YtmdkfhfkdcbpgaaDoorR.HashMem Go.Proofs.YtmdkfhfkdcbpgaaDoorR.Hash Go.Proofs.YtmdkfhfkdcbpgaaDoorR.HashSum Go.Proofs.YtmdkfhfkdcbpgaaDoorR.DigestMem Go.Proofs.YtmdkfhfkdcbpgaaDoorR.Digest Go.Proofs.YtmdkfhfkdcbpgaaDoorR.DigestOf

section
variable (w : World) (oa ob oc od : Obj)
theorem pairE : Below w.heap.size w ((((w.alloc oa).alloc ob).alloc oc).drew.alloc od) := ((((Below.refl _ w).alloc (Nat.le_refl _) _).alloc (by simp) _).alloc (by simp; omega) _).drew.alloc (by simp; omega) _
theorem pairA : ((((w.alloc oa).alloc ob).alloc oc).drew.alloc od).heap[w.heap.size]? = some oa := by
  rw [Below.heap_alloc _ _ _ (by simp; omega), heap_drew, Below.heap_alloc _ _ _ (by simp; omega)]
  exact heap_alloc2_old w _ _
theorem pairB : ((((w.alloc oa).alloc ob).alloc oc).drew.alloc od).heap[w.heap.size + 1]? = some ob := by
  rw [Below.heap_alloc _ _ _ (by simp), heap_drew, Below.heap_alloc _ _ _ (by simp)]
  exact heap_alloc2_new w _ _
theorem pairC : ((((w.alloc oa).alloc ob).alloc oc).drew.alloc od).heap[w.heap.size + 2]? = some oc := by
  rw [Below.heap_alloc _ _ _ (by simp), heap_drew]
  have h := heap_alloc_new ((w.alloc oa).alloc ob) oc
  have e : ((w.alloc oa).alloc ob).heap.size = w.heap.size + 2 := by simp
  rw [e] at h
  exact h
theorem pairD : ((((w.alloc oa).alloc ob).alloc oc).drew.alloc od).heap[w.heap.size + 3]? = some od := by
  have h := heap_alloc_new (((w.alloc oa).alloc ob).alloc oc).drew od
  have e : (((w.alloc oa).alloc ob).alloc oc).drew.heap.size = w.heap.size + 3 := by simp
  rw [e] at h
  exact h
end
end Go.Proofs.YtmdkfhfkdcbpgaaDoorR.DigestTop
