/-
  Texts of the claim, put into one file: RowIncl, RowCons.
-/
import Derived.Test.YtaelcgimgomnnaaZ18
import Derived.Test.YtaelcgimgomnnaaZ5
import Derived.Test.YtaelcgimgomnnaaZ15
import Derived.Deep.Strs

namespace Go.Proofs.Ytaelcgimgomnnaa.RowIncl
open Go Go.RowKit Go.ChangeShapes Go.WideShapes Go.Proofs.Ytaelcgimgomnnaa Go.Proofs.Ytaelcgimgomnnaa.Mem Go.Proofs.Ytaelcgimgomnnaa.Sha Go.Proofs.Ytaelcgimgomnnaa.Bytes Go.Proofs.Ytaelcgimgomnnaa.TreeMem Go.Proofs.Ytaelcgimgomnnaa.Row Go.Proofs.Ytaelcgimgomnnaa.Ref17

section
variable {H : Type} {enc : TypeId × Value → H} {w : World} {base : Nat} {held : Bool}

set_option maxRecDepth 100000 in
theorem open_incl {r : Reach} {b0 : Nat} {v : Value} {d : DataW H} {ps : List MemPlace} (hval : Value.okWide Try.prog w r b0 53 v)
    (h : DataW.Trod enc Try.prog w base (fun _ => true) held 53 v d ps) :
    ∃ x y A n c qs, v = .agg (inclCells x y A n c) ∧ n ≤ c ∧ RdD w A n qs := by
  obtain ⟨cs, rfl, hsz⟩ := okWide_struct Try.underlying53 hval
  obtain ⟨fuel, hx⟩ := h
  obtain ⟨y0, y1, y2, f, -, hl, h0, h1, h2⟩ := Go.Deep.trod_struct3 Try.underlying53 hx
  obtain ⟨x, e0, -, -⟩ := DataW.trod_int Try.underlying3 h0
  obtain ⟨y, e1, -, -⟩ := DataW.trod_int Try.underlying3 h1
  obtain ⟨A, n, c, xs, e2, hn, -, -, hf, hr, -⟩ := open_flat (ks := reps 32 [.int .u8]) (N := 3) Try.underlying22 (by kernel_rfl) (by kernel_rfl) h2
  obtain ⟨qs, hq, hd, rfl⟩ := fits_digs n xs hf
  have hc1 : Try.prog.cellsOf 3 = 1 := by kernel_rfl
  have hc2 : Try.prog.cellsOf 22 = 1 := by kernel_rfl
  have hc3 : Try.prog.cellsOf 53 = 3 := by kernel_rfl
  have e0' : (cs.toList.drop 0).take (Try.prog.cellsOf 3) = [.int .i64 x] := e0
  have e1' : (cs.toList.drop 1).take (Try.prog.cellsOf 3) = [.int .i64 y] := e1
  have e2' : (cs.toList.drop 2).take (Try.prog.cellsOf 22) = [.slice A n c] := e2
  have hl' : cs.toList.length = 3 := hl.trans hc3
  rw [hc1] at e0' e1'
  rw [hc2] at e2'
  have hcs : cs.toList = [.int .i64 x, .int .i64 y, .slice A n c] := by
    have hl2 : cs.toList.length = 3 := hl'
    match hcl : cs.toList, hl2 with
    | [a, b, c'], _ =>
      have k0 : (cs.toList.drop 0).take 1 = [.int .i64 x] := e0'
      have k1 : (cs.toList.drop 1).take 1 = [.int .i64 y] := e1'
      have k2 : (cs.toList.drop 2).take 1 = [.slice A n c] := e2'
      rw [hcl] at k0 k1 k2
      simp at k0 k1 k2
      rw [k0, k1, k2]
  refine ⟨x, y, A, n, c, qs, ?_, hn, hq, hd, ?_⟩
  · unfold inclCells
    congr 1
    apply Array.ext'
    exact hcs
  · have : (reps 32 [CK.int .u8]).length = 32 := by simp [reps_len]
    rw [this] at hr
    exact hr
end
end Go.Proofs.Ytaelcgimgomnnaa.RowIncl

namespace Go.Proofs.Ytaelcgimgomnnaa.RowCons
open Go Go.RowKit Go.ChangeShapes Go.WideShapes Go.Proofs.Ytaelcgimgomnnaa Go.Proofs.Ytaelcgimgomnnaa.Mem Go.Proofs.Ytaelcgimgomnnaa.Sha Go.Proofs.Ytaelcgimgomnnaa.Bytes Go.Proofs.Ytaelcgimgomnnaa.TreeMem Go.Proofs.Ytaelcgimgomnnaa.Row Go.Proofs.Ytaelcgimgomnnaa.Ref17

section
variable {H : Type} {enc : TypeId × Value → H} {w : World} {base : Nat} {held : Bool}
set_option maxRecDepth 100000 in
theorem open_cons {r : Reach} {b0 : Nat} {v : Value} {d : DataW H} {ps : List MemPlace} (hval : Value.okWide Try.prog w r b0 24 v)
    (h : DataW.Trod enc Try.prog w base (fun _ => true) held 24 v d ps) :
    ∃ x y A n c qs, v = .agg (inclCells x y A n c) ∧ n ≤ c ∧ RdD w A n qs := by
  obtain ⟨cs, rfl, hsz⟩ := okWide_struct Try.underlying24 hval
  obtain ⟨fuel, hx⟩ := h
  obtain ⟨y0, y1, y2, f, -, hl, h0, h1, h2⟩ := Go.Deep.trod_struct3 Try.underlying24 hx
  obtain ⟨x, e0, -, -⟩ := DataW.trod_int Try.underlying3 h0
  obtain ⟨y, e1, -, -⟩ := DataW.trod_int Try.underlying3 h1
  obtain ⟨A, n, c, xs, e2, hn, -, -, hf, hr, -⟩ := open_flat (ks := reps 32 [.int .u8]) (N := 3) Try.underlying22 (by kernel_rfl) (by kernel_rfl) h2
  obtain ⟨qs, hq, hd, rfl⟩ := fits_digs n xs hf
  have hc1 : Try.prog.cellsOf 3 = 1 := by kernel_rfl
  have hc2 : Try.prog.cellsOf 22 = 1 := by kernel_rfl
  have hc3 : Try.prog.cellsOf 24 = 3 := by kernel_rfl
  have e0' : (cs.toList.drop 0).take (Try.prog.cellsOf 3) = [.int .i64 x] := e0
  have e1' : (cs.toList.drop 1).take (Try.prog.cellsOf 3) = [.int .i64 y] := e1
  have e2' : (cs.toList.drop 2).take (Try.prog.cellsOf 22) = [.slice A n c] := e2
  have hl' : cs.toList.length = 3 := hl.trans hc3
  rw [hc1] at e0' e1'
  rw [hc2] at e2'
  have hcs : cs.toList = [.int .i64 x, .int .i64 y, .slice A n c] := by
    have hl2 : cs.toList.length = 3 := hl'
    match hcl : cs.toList, hl2 with
    | [a, b, c'], _ =>
      have k0 : (cs.toList.drop 0).take 1 = [.int .i64 x] := e0'
      have k1 : (cs.toList.drop 1).take 1 = [.int .i64 y] := e1'
      have k2 : (cs.toList.drop 2).take 1 = [.slice A n c] := e2'
      rw [hcl] at k0 k1 k2
      simp at k0 k1 k2
      rw [k0, k1, k2]
  refine ⟨x, y, A, n, c, qs, ?_, hn, hq, hd, ?_⟩
  · unfold inclCells
    congr 1
    apply Array.ext'
    exact hcs
  · have : (reps 32 [CK.int .u8]).length = 32 := by simp [reps_len]
    rw [this] at hr
    exact hr
end
end Go.Proofs.Ytaelcgimgomnnaa.RowCons
