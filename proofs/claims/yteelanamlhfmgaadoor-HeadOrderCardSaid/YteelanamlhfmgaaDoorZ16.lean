/-
  Texts of the claim, put into one file: RefCut, RefOf, RefTop, HeadID.
-/
import Derived.Test.YteelanamlhfmgaaDoorZ15
import Derived.Laws.AppendOwnNone

namespace Go.Proofs.YteelanamlhfmgaaDoor.RefCut
open Go Go.RowKit Go.Proofs.YteelanamlhfmgaaDoor Go.Proofs.YteelanamlhfmgaaDoor.Mem Go.Proofs.YteelanamlhfmgaaDoor.Sha Go.Proofs.YteelanamlhfmgaaDoor.ShaWalk Go.Proofs.YteelanamlhfmgaaDoor.Bytes Go.Proofs.YteelanamlhfmgaaDoor.HashMem Go.Proofs.YteelanamlhfmgaaDoor.Hash Go.Proofs.YteelanamlhfmgaaDoor.HashSum Go.Proofs.YteelanamlhfmgaaDoor.DigestMem Go.Proofs.YteelanamlhfmgaaDoor.Digest Go.Proofs.YteelanamlhfmgaaDoor.DigestOf

theorem src_all {w : World} {ad : Addr} {q : Text} (h : Reads w 1 (some ad) q.length (cells8 q)) : ∀ j u, (cells8 q)[j]? = some u → w.cell? (ad.add j) = some u := by
  intro j u hu
  have hj : j < q.length := by
    have := (List.getElem?_eq_some_iff.1 hu).1
    rwa [cells8_len] at this
  obtain ⟨b, o, e, _, hc⟩ := h.2 (by omega)
  obtain rfl := Option.some.inj e
  rw [add_at]
  exact hc j u hu
end Go.Proofs.YteelanamlhfmgaaDoor.RefCut

namespace Go.Proofs.YteelanamlhfmgaaDoor.RefOf
open Go Go.RowKit Go.Proofs.YteelanamlhfmgaaDoor Go.Proofs.YteelanamlhfmgaaDoor.Mem Go.Proofs.YteelanamlhfmgaaDoor.Sha Go.Proofs.YteelanamlhfmgaaDoor.ShaWalk Go.Proofs.YteelanamlhfmgaaDoor.Bytes Go.Proofs.YteelanamlhfmgaaDoor.HashMem Go.Proofs.YteelanamlhfmgaaDoor.Hash Go.Proofs.YteelanamlhfmgaaDoor.HashSum Go.Proofs.YteelanamlhfmgaaDoor.DigestMem Go.Proofs.YteelanamlhfmgaaDoor.Digest Go.Proofs.YteelanamlhfmgaaDoor.DigestOf Go.Proofs.YteelanamlhfmgaaDoor.RefSum Go.Proofs.YteelanamlhfmgaaDoor.RefCut

end Go.Proofs.YteelanamlhfmgaaDoor.RefOf

namespace Go.Proofs.YteelanamlhfmgaaDoor.RefTop
open Go Go.RowKit Go.Proofs.YteelanamlhfmgaaDoor Go.Proofs.YteelanamlhfmgaaDoor.Mem Go.Proofs.YteelanamlhfmgaaDoor.Sha Go.Proofs.YteelanamlhfmgaaDoor.ShaWalk Go.Proofs.YteelanamlhfmgaaDoor.Bytes Go.Proofs.YteelanamlhfmgaaDoor.HashMem Go.Proofs.YteelanamlhfmgaaDoor.Hash Go.Proofs.YteelanamlhfmgaaDoor.HashSum Go.Proofs.YteelanamlhfmgaaDoor.DigestMem Go.Proofs.YteelanamlhfmgaaDoor.Digest Go.Proofs.YteelanamlhfmgaaDoor.DigestOf Go.Proofs.YteelanamlhfmgaaDoor.RefSum Go.Proofs.YteelanamlhfmgaaDoor.RefCut Go.Proofs.YteelanamlhfmgaaDoor.RefOf Go.Proofs.YteelanamlhfmgaaDoor.DigestTop

end Go.Proofs.YteelanamlhfmgaaDoor.RefTop

namespace Go.Proofs.YteelanamlhfmgaaDoor.HeadID
open Go Go.RowKit Go.Proofs.YteelanamlhfmgaaDoor Go.Proofs.YteelanamlhfmgaaDoor.Mem Go.Proofs.YteelanamlhfmgaaDoor.Sha Go.Proofs.YteelanamlhfmgaaDoor.ShaWalk Go.Proofs.YteelanamlhfmgaaDoor.Bytes Go.Proofs.YteelanamlhfmgaaDoor.HashMem Go.Proofs.YteelanamlhfmgaaDoor.Hash Go.Proofs.YteelanamlhfmgaaDoor.HashSum Go.Proofs.YteelanamlhfmgaaDoor.DigestMem Go.Proofs.YteelanamlhfmgaaDoor.Digest Go.Proofs.YteelanamlhfmgaaDoor.DigestOf Go.Proofs.YteelanamlhfmgaaDoor.RefSum Go.Proofs.YteelanamlhfmgaaDoor.RefCut Go.Proofs.YteelanamlhfmgaaDoor.RefOf Go.Proofs.YteelanamlhfmgaaDoor.DigestTop

/-- The id of a key: a text. -/
def idOf (q : Text) : Text := cutTo (sum (kb 9 :: q.take 64)) 32
theorem idOf_len (q : Text) : (idOf q).length = 32 := cutTo_len _ _ (sum_len _) (Nat.le_refl _)

set_option maxRecDepth 100000 in
set_option maxHeartbeats 600000 in
theorem id_any (q : Text) (k : Nat) (hk : q.length = k) (A : Option Addr) (c : Nat) (w : World) (hB : Base w) (hr : Reads w 1 A k (cells8 q)) (hc : k ≤ c) (hk47 : k < 140737488355328) (hnil : A = none → k = 0 ∧ c = 0) :
    Calls Tryd.prog 14 #[.slice A k c] w fun e w' => e = .returned (.agg (cells8 (idOf q)).toArray) ∧ Below w.heap.size w w' := by
  subst hk
  obtain ⟨m, hm⟩ : ∃ m, Hid (m = min q.length 64) := ⟨_, rfl⟩
  have hmq : m ≤ q.length := by have := hm.out; omega
  have hid : idOf q = cutTo (sum (kb 9 :: [q.take m].flatten)) (clampN 32) := by
    unfold idOf
    have e : q.take 64 = q.take m := by rw [hm.out, ← List.take_take]; exact (List.take_of_length_le (by simp; omega)).symm
    rw [e]
    simp
    rfl
  rw [hid]
  obtain ⟨x, hx⟩ : ∃ x, Hid (x = cutTo (sum (kb 9 :: [q.take m].flatten)) (clampN 32)) := ⟨_, rfl⟩
  have hxl : x.length = 32 := by rw [hx.out]; exact cutTo_len _ _ (sum_len _) (clampN_ok 32).2
  rw [← hx.out]
  have hz := Lib.hid (dig_size x hxl)
  have hz32 : Hid ((Z32 : Array Value).size = (cells8 x).toArray.size) := by show _ = _; simp [cells8_len, hxl, Z32]
  have ho := Lib.hid (dig_one x)
  replace hB := Lib.hid hB
  have hlen : Hid ([q.take m].flatten.length = m) := by show _ = _; simp; omega
  have hm64 : Hid (m ≤ 64) := by have := hm.out; show m ≤ 64; omega
  have hR : Hid (Blk ((w.alloc (.cells Z32 23)).alloc (.cells #[.slice A m c] 31)) w.heap.size 23 Z32) := heap_alloc2_old w _ _
  have hbw : Hid (Below w.heap.size w ((w.alloc (.cells Z32 23)).alloc (.cells #[.slice A m c] 31))) := ((Below.refl _ w).alloc (Nat.le_refl _) _).alloc (by simp) _
  have htl : (q.take m).length = m := by rw [List.length_take]; omega
  have hpc : Hid (Pieces ((w.alloc (.cells Z32 23)).alloc (.cells #[.slice A m c] 31)) (some ⟨w.heap.size + 1, 0, none⟩) [q.take m]) := fun _ => ⟨w.heap.size + 1, 0, rfl, by simp, fun i y hy => by
    match i with
    | 0 =>
      obtain rfl := Option.some.inj hy
      exact ⟨A, c, by rw [cell_of_row _ _ _ _ _ _ (heap_alloc2_new w _ _), htl]; rfl, by rw [htl]; omega, by rw [htl]; exact (Reads.front hr m hmq).below hbw.out, fun e => ⟨by have := hnil e; omega, (hnil e).2⟩⟩
    | i + 1 => simp at hy⟩
  have hr0 := Lib.hid hr
  have hmc : Hid (m ≤ c) := by show m ≤ c; omega
  have hcl := Lib.hid hc
  have hkl : Hid (q.length < 140737488355328) := hk47
  obtain ⟨k, hk⟩ : ∃ k, Hid (k = q.length) := ⟨_, rfl⟩
  rw [← hk.out] at hm ⊢
  clear hid hxl htl hr hc hk47 hnil hmq
  by_cases h64 : (64 : Int) < (k : Int)
  · have em : m = 64 := by have := hm.out; omega
    subst em
    have X : ∀ w', (Instr.sliceAt 31 (.slice A k c) none (some (.int .i64 64)) none).run Tryd.prog w' = .ok (.slice A 64 c) w' := run_headOf (m := 64) Tryd.underlying31 (fun _ => rfl) hmc.out _ rfl
    go_enter Tryd.func14, Tryd.ntmps14
    go_wp2_with (first
      | (go_at_call 33; refine (of_any _ 1 rfl (some ⟨w.heap.size + 1, 0, none⟩) 1 32 9 _ (hB.out.below hbw.out hB.out.1) (by have := hlen.out; omega) (by omega) hpc.out).mono ?_; rw [← hx.out]; rintro e w3 ⟨rfl, hb3⟩; replace hb3 := Lib.hid hb3; have hR3 : Hid (Blk w3 w.heap.size 23 Z32) := (hb3.out.block w.heap.size hR.out.lt).trans hR.out; have hbb : Hid (Below w.heap.size w w3) := hbw.out.trans (hb3.out.mono (by simp; omega)))
      | ((with_reducible change wpList _ _ _ ({ dst := none, op := Op.store 23 _ _, type := _, pos := _, after := _, guard := _ } :: _) _ _); refine wpList_store_row (o := ⟨none, _, _, _, _, _⟩) rfl 23 (.tmp 2) (.tmp 9) rfl w.heap.size (cells8 x).toArray rfl rfl 23 Z32 hR3.out hz.out hz32.out ho.out ?_))
    refine bodyPost_ret (results_cell_row rfl _ _ w.heap.size 23 (cells8 x).toArray (0, 0) _ rfl (setRow_heap _ _ _ _ _ _ hR3.out) Tryd.underlying23 rfl hz.out) rfl ?_
    exact ⟨rfl, below_setRow hbb.out (Nat.le_refl _) _⟩
  · have em : k = m := by have := hm.out; omega
    have X : ∀ w', (Instr.sliceAt 31 (.slice A k c) none (some (.int .i64 (k : Int))) none).run Tryd.prog w' = .ok (.slice A k c) w' := run_headOf (m := k) Tryd.underlying31 (fun _ => rfl) (by rw [em]; exact hmc.out) _ rfl
    subst em
    have h64' : (k : Int) ≤ 64 := by omega
    go_enter Tryd.func14, Tryd.ntmps14
    go_wp2_with (first
      | (go_at_call 33; refine (of_any _ 1 rfl (some ⟨w.heap.size + 1, 0, none⟩) 1 32 9 _ (hB.out.below hbw.out hB.out.1) (by have := hlen.out; omega) (by omega) hpc.out).mono ?_; rw [← hx.out]; rintro e w3 ⟨rfl, hb3⟩; replace hb3 := Lib.hid hb3; have hR3 : Hid (Blk w3 w.heap.size 23 Z32) := (hb3.out.block w.heap.size hR.out.lt).trans hR.out; have hbb : Hid (Below w.heap.size w w3) := hbw.out.trans (hb3.out.mono (by simp; omega)))
      | ((with_reducible change wpList _ _ _ ({ dst := none, op := Op.store 23 _ _, type := _, pos := _, after := _, guard := _ } :: _) _ _); refine wpList_store_row (o := ⟨none, _, _, _, _, _⟩) rfl 23 (.tmp 2) (.tmp 9) rfl w.heap.size (cells8 x).toArray rfl rfl 23 Z32 hR3.out hz.out hz32.out ho.out ?_))
    refine bodyPost_ret (results_cell_row rfl _ _ w.heap.size 23 (cells8 x).toArray (0, 0) _ rfl (setRow_heap _ _ _ _ _ _ hR3.out) Tryd.underlying23 rfl hz.out) rfl ?_
    exact ⟨rfl, below_setRow hbb.out (Nat.le_refl _) _⟩

end Go.Proofs.YteelanamlhfmgaaDoor.HeadID
