/-
  Texts of the claim, put into one file: RowIncl, RowCons.
-/
import Derived.Test.YtgldkfaiofkhbaaDoorZ21
import Derived.Test.YtgldkfaiofkhbaaDoorZ5
import Derived.Test.YtgldkfaiofkhbaaDoorZ15
import Derived.Deep.Strs

namespace Go.Proofs.YtgldkfaiofkhbaaDoor.RowIncl
open Go Go.RowKit Go.ChangeShapes Go.WideShapes Go.Proofs.YtgldkfaiofkhbaaDoor Go.Proofs.YtgldkfaiofkhbaaDoor.Mem Go.Proofs.YtgldkfaiofkhbaaDoor.Sha Go.Proofs.YtgldkfaiofkhbaaDoor.Bytes Go.Proofs.YtgldkfaiofkhbaaDoor.TreeMem Go.Proofs.YtgldkfaiofkhbaaDoor.Row Go.Proofs.YtgldkfaiofkhbaaDoor.Ref17

section
variable {H : Type} {enc : TypeId × Value → H} {w : World} {base : Nat} {held : Bool}

set_option maxRecDepth 100000 in
theorem open_incl {r : Reach} {b0 : Nat} {v : Value} {d : DataW H} {ps : List MemPlace} (hval : Value.okWide Tryd.prog w r b0 51 v)
    (h : DataW.Trod enc Tryd.prog w base (fun _ => true) held 51 v d ps) :
    ∃ x y A n c qs, v = .agg (inclCells x y A n c) ∧ n ≤ c ∧ RdD w A n qs := by
  obtain ⟨cs, rfl, hsz⟩ := okWide_struct Tryd.underlying51 hval
  obtain ⟨fuel, hx⟩ := h
  obtain ⟨y0, y1, y2, f, -, hl, h0, h1, h2⟩ := Go.Deep.trod_struct3 Tryd.underlying51 hx
  obtain ⟨x, e0, -, -⟩ := DataW.trod_int Tryd.underlying3 h0
  obtain ⟨y, e1, -, -⟩ := DataW.trod_int Tryd.underlying3 h1
  obtain ⟨A, n, c, xs, e2, hn, -, -, hf, hr, -⟩ := open_flat (ks := reps 32 [.int .u8]) (N := 3) Tryd.underlying42 (by kernel_rfl) (by kernel_rfl) h2
  obtain ⟨qs, hq, hd, rfl⟩ := fits_digs n xs hf
  have hc1 : Tryd.prog.cellsOf 3 = 1 := by kernel_rfl
  have hc2 : Tryd.prog.cellsOf 42 = 1 := by kernel_rfl
  have hc3 : Tryd.prog.cellsOf 51 = 3 := by kernel_rfl
  have e0' : (cs.toList.drop 0).take (Tryd.prog.cellsOf 3) = [.int .i64 x] := e0
  have e1' : (cs.toList.drop 1).take (Tryd.prog.cellsOf 3) = [.int .i64 y] := e1
  have e2' : (cs.toList.drop 2).take (Tryd.prog.cellsOf 42) = [.slice A n c] := e2
  have hl' : cs.toList.length = 3 := hl.trans hc3
  rw [hc1] at e0' e1'
  rw [hc2] at e2'
  have hcs : cs.toList = [.int .i64 x, .int .i64 y, .slice A n c] := by
    have hl2 : cs.toList.length = 3 := hl'
    match hcl : cs.toList, hl2 with
    | [a, b, c'], _ =>
      have k0 : (cs.toList.drop 0).take 1 = [.int .i64 x] := e0'
      have k1 : (cs.toList.drop 1).take 1 = [.int .i64 y] := e1'
      have k2 : (cs.toList.drop 2).take 1 = [.slice A n c] := e2'
      rw [hcl] at k0 k1 k2
      simp at k0 k1 k2
      rw [k0, k1, k2]
  refine ⟨x, y, A, n, c, qs, ?_, hn, hq, hd, ?_⟩
  · unfold inclCells
    congr 1
    apply Array.ext'
    exact hcs
  · have : (reps 32 [CK.int .u8]).length = 32 := by simp [reps_len]
    rw [this] at hr
    exact hr
end
end Go.Proofs.YtgldkfaiofkhbaaDoor.RowIncl

namespace Go.Proofs.YtgldkfaiofkhbaaDoor.RowCons
open Go Go.RowKit Go.ChangeShapes Go.WideShapes Go.Proofs.YtgldkfaiofkhbaaDoor Go.Proofs.YtgldkfaiofkhbaaDoor.Mem Go.Proofs.YtgldkfaiofkhbaaDoor.Sha Go.Proofs.YtgldkfaiofkhbaaDoor.Bytes Go.Proofs.YtgldkfaiofkhbaaDoor.TreeMem Go.Proofs.YtgldkfaiofkhbaaDoor.Row Go.Proofs.YtgldkfaiofkhbaaDoor.Ref17

section
variable {H : Type} {enc : TypeId × Value → H} {w : World} {base : Nat} {held : Bool}
set_option maxRecDepth 100000 in
theorem open_cons {r : Reach} {b0 : Nat} {v : Value} {d : DataW H} {ps : List MemPlace} (hval : Value.okWide Tryd.prog w r b0 44 v)
    (h : DataW.Trod enc Tryd.prog w base (fun _ => true) held 44 v d ps) :
    ∃ x y A n c qs, v = .agg (inclCells x y A n c) ∧ n ≤ c ∧ RdD w A n qs := by
  obtain ⟨cs, rfl, hsz⟩ := okWide_struct Tryd.underlying44 hval
  obtain ⟨fuel, hx⟩ := h
  obtain ⟨y0, y1, y2, f, -, hl, h0, h1, h2⟩ := Go.Deep.trod_struct3 Tryd.underlying44 hx
  obtain ⟨x, e0, -, -⟩ := DataW.trod_int Tryd.underlying3 h0
  obtain ⟨y, e1, -, -⟩ := DataW.trod_int Tryd.underlying3 h1
  obtain ⟨A, n, c, xs, e2, hn, -, -, hf, hr, -⟩ := open_flat (ks := reps 32 [.int .u8]) (N := 3) Tryd.underlying42 (by kernel_rfl) (by kernel_rfl) h2
  obtain ⟨qs, hq, hd, rfl⟩ := fits_digs n xs hf
  have hc1 : Tryd.prog.cellsOf 3 = 1 := by kernel_rfl
  have hc2 : Tryd.prog.cellsOf 42 = 1 := by kernel_rfl
  have hc3 : Tryd.prog.cellsOf 44 = 3 := by kernel_rfl
  have e0' : (cs.toList.drop 0).take (Tryd.prog.cellsOf 3) = [.int .i64 x] := e0
  have e1' : (cs.toList.drop 1).take (Tryd.prog.cellsOf 3) = [.int .i64 y] := e1
  have e2' : (cs.toList.drop 2).take (Tryd.prog.cellsOf 42) = [.slice A n c] := e2
  have hl' : cs.toList.length = 3 := hl.trans hc3
  rw [hc1] at e0' e1'
  rw [hc2] at e2'
  have hcs : cs.toList = [.int .i64 x, .int .i64 y, .slice A n c] := by
    have hl2 : cs.toList.length = 3 := hl'
    match hcl : cs.toList, hl2 with
    | [a, b, c'], _ =>
      have k0 : (cs.toList.drop 0).take 1 = [.int .i64 x] := e0'
      have k1 : (cs.toList.drop 1).take 1 = [.int .i64 y] := e1'
      have k2 : (cs.toList.drop 2).take 1 = [.slice A n c] := e2'
      rw [hcl] at k0 k1 k2
      simp at k0 k1 k2
      rw [k0, k1, k2]
  refine ⟨x, y, A, n, c, qs, ?_, hn, hq, hd, ?_⟩
  · unfold inclCells
    congr 1
    apply Array.ext'
    exact hcs
  · have : (reps 32 [CK.int .u8]).length = 32 := by simp [reps_len]
    rw [this] at hr
    exact hr
end
end Go.Proofs.YtgldkfaiofkhbaaDoor.RowCons
