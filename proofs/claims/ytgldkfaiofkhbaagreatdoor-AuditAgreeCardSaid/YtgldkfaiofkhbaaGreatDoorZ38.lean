/-
  Texts of the claim, put into one file: RowIncl, RowInclB.
-/
import Derived.Test.YtgldkfaiofkhbaaGreatDoorZ5
import Derived.Test.YtgldkfaiofkhbaaGreatDoorZ3
import Derived.Test.YtgldkfaiofkhbaaGreatDoorZ30
import Derived.Deep.Strs

namespace Go.Proofs.YtgldkfaiofkhbaaGreatDoor.RowIncl
open Go Go.RowKit Go.ChangeShapes Go.WideShapes Go.Proofs.YtgldkfaiofkhbaaGreatDoor Mem Sha Bytes TreeMem Row Ref17

section
variable {H : Type} {enc : TypeId × Value → H} {w : World} {base : Nat} {held : Bool}

end
end Go.Proofs.YtgldkfaiofkhbaaGreatDoor.RowIncl

namespace Go.Proofs.YtgldkfaiofkhbaaGreatDoor.RowInclB
open Go Go.RowKit Go.ChangeShapes Go.WideShapes Go.Proofs.YtgldkfaiofkhbaaGreatDoor Mem Sha Bytes TreeMem Row Ref17

section
variable {H : Type} {enc : TypeId × Value → H} {w : World} {base : Nat} {held : Bool}

set_option maxRecDepth 100000 in
theorem open_inclB {r : Reach} {b0 : Nat} {v : Value} {d : DataW H} {ps : List MemPlace} (hval : Value.okWide Tryz.prog w r b0 48 v)
  (h : DataW.Trod enc Tryz.prog w base (fun _ => true) held 48 v d ps)
  {ts : List TypeId} {ds : List (DataW H)} (hsz0 : (DataW.weightsEach Tryz.prog ts ds).all (· ≤ reachBytes) = true) {j : Nat} (hts : ts[j]? = some 48) (hds : ds[j]? = some d) :
  ∃ x y A n c qs, v = .agg (inclCells x y A n c) ∧ n ≤ c ∧ RdD w A n qs ∧ n < 140737488355328 := by
 have hw : ∀ k ∈ d.weights Tryz.prog 48, k ≤ 140737488351232 := fun k hk => by
  have := List.all_eq_true.1 hsz0 _ (DataW.weights_mem_each hts hds k hk)
  have h2 := of_decide_eq_true this
  simpa [reachBytes] using h2
 obtain ⟨cs, rfl, hsz⟩ := okWide_struct Tryz.underlying48 hval
 obtain ⟨fuel, hx⟩ := h
 obtain ⟨y0, y1, y2, f, hxe, hl, h0, h1, h2⟩ := Go.Deep.trod_struct3 Tryz.underlying48 hx
 have hpart : ∀ (j : Nat) (t : TypeId) (d' : DataW H), [3, 3, 44][j]? = some t → [y0.1, y1.1, y2.1][j]? = some d' → ∀ k ∈ d'.weights Tryz.prog t, k ≤ 140737488351232 := fun j t d' ht hdd k hk => hw k (by
  rw [show d = .agg [y0.1, y1.1, y2.1] from congrArg Prod.fst hxe]
  simp only [DataW.weights, Tryz.underlying48]
  exact DataW.weights_mem_each (j := j) ht hdd k hk)
 obtain ⟨x, e0, -, -⟩ := DataW.trod_int Tryz.underlying3 h0
 obtain ⟨y, e1, -, -⟩ := DataW.trod_int Tryz.underlying3 h1
 obtain ⟨A, n, c, xs, e2, hn, -, g3, hf, hr, g6⟩ := open_flat (ks := reps 32 [.int .u8]) (N := 3) Tryz.underlying44 (by kernel_rfl) (by kernel_rfl) h2
 obtain ⟨qs, hq, hd, rfl⟩ := fits_digs n xs hf
 have hby : Tryz.prog.bytesOf 23 = 32 := by kernel_rfl
 have hn47 : n < 140737488355328 := by
  rcases g6 with ⟨h0, _⟩ | ⟨a', elems, rest, _, hDi, hel, hrl⟩
  ·have := (g3 h0).1; omega
  ·simp only [if_true] at hrl
   have := hpart 2 _ _ rfl rfl ((elems.length + rest.length) * Tryz.prog.bytesOf 23) (by
    have e1 : y2.1 = .slice elems rest := hDi
    rw [e1]
    simp [DataW.weights, Tryz.underlying44])
   rw [hby] at this
   omega
 have hc1 : Tryz.prog.cellsOf 3 = 1 := by kernel_rfl
 have hc2 : Tryz.prog.cellsOf 44 = 1 := by kernel_rfl
 have hc3 : Tryz.prog.cellsOf 48 = 3 := by kernel_rfl
 have e0' : (cs.toList.drop 0).take (Tryz.prog.cellsOf 3) = [.int .i64 x] := e0
 have e1' : (cs.toList.drop 1).take (Tryz.prog.cellsOf 3) = [.int .i64 y] := e1
 have e2' : (cs.toList.drop 2).take (Tryz.prog.cellsOf 44) = [.slice A n c] := e2
 have hl' : cs.toList.length = 3 := hl.trans hc3
 rw [hc1] at e0' e1'
 rw [hc2] at e2'
 have hcs : cs.toList = [.int .i64 x, .int .i64 y, .slice A n c] := by
  have hl2 : cs.toList.length = 3 := hl'
  match hcl : cs.toList, hl2 with
  | [a, b, c'], _ =>
   have k0 : (cs.toList.drop 0).take 1 = [.int .i64 x] := e0'
   have k1 : (cs.toList.drop 1).take 1 = [.int .i64 y] := e1'
   have k2 : (cs.toList.drop 2).take 1 = [.slice A n c] := e2'
   rw [hcl] at k0 k1 k2
   simp at k0 k1 k2
   rw [k0, k1, k2]
 refine ⟨x, y, A, n, c, qs, ?_, hn, ⟨hq, hd, ?_⟩, hn47⟩
 ·unfold inclCells
  congr 1
  apply Array.ext'
  exact hcs
 ·have : (reps 32 [CK.int .u8]).length = 32 := by simp [reps_len]
  rw [this] at hr
  exact hr
end
end Go.Proofs.YtgldkfaiofkhbaaGreatDoor.RowInclB
