/-
  proof.indexed and proof.EncodeIndexed of a name that is not found, walked (printed by wip/gen_idx.py).
-/
import Derived.Test.YtngieimjlkpkaaaProofIdx2
namespace Go.Proofs.Ytngieimjlkpkaaa.ProofIdx3
open Go Go.RowKit Go.Proofs.Ytngieimjlkpkaaa Go.Proofs.Ytngieimjlkpkaaa.Mem Go.Proofs.Ytngieimjlkpkaaa.Sha Go.Proofs.Ytngieimjlkpkaaa.Bytes Go.Proofs.Ytngieimjlkpkaaa.Append Go.Proofs.Ytngieimjlkpkaaa.Octet Go.Proofs.Ytngieimjlkpkaaa.Octet2 Go.Proofs.Ytngieimjlkpkaaa.HeadMem Go.Proofs.Ytngieimjlkpkaaa.ProofBeside Go.Proofs.Ytngieimjlkpkaaa.ProofEnc Go.Proofs.Ytngieimjlkpkaaa.ProofIdx Go.Proofs.Ytngieimjlkpkaaa.ProofIdx2 Go.Proofs.Ytngieimjlkpkaaa.QuietTail Go.Proofs.Ytngieimjlkpkaaa.Grown

theorem wp_load_part {P : Program} {o : Oper} {a : Act} {w : World} {K : Act → World → Prop} {Q : Exit → Act → World → Prop} (ty : TypeId) (x : Operand) (ho : o.op = .load ty x)
    (g i : Nat) (hx : a.eval x = .pointer (some ⟨g, i, none⟩)) (xs : List Value) (d : TypeDesc) (hc : ∀ j v, xs[j]? = some v → w.cell? ⟨g, i + j, none⟩ = some v)
    (hu : P.underlying ty = some d) (hd : (match d with | .struct _ | .array _ _ => true | _ => false) = true) (hi : (P.info? ty).map (·.size) = some xs.length)
    (h : K (a.put o.dst (.agg xs.toArray)) w) : o.wp P a w K Q := by
  unfold Oper.wp execOp
  simp only [ho, hx, Instr.loadAt, Instr.sureAddr, Sem.run_bind, Sem.run_pure, Result.andThen_ok, run_loadVar_part w g i ty xs d hc hu hd hi]
  exact h

theorem wpList_load_part_g {P : Program} {ops : Array Oper} {rest : List Oper} {o : Oper} {a : Act} {w : World} {Q : Exit → Act → World → Prop} (hw : Region.wanted o (yielded ops a.tmps) = true) (ty : TypeId) (x : Operand) (ho : o.op = .load ty x)
    (g i : Nat) (hx : a.eval x = .pointer (some ⟨g, i, none⟩)) (xs : List Value) (d : TypeDesc) (hc : ∀ j v, xs[j]? = some v → w.cell? ⟨g, i + j, none⟩ = some v)
    (hu : P.underlying ty = some d) (hd : (match d with | .struct _ | .array _ _ => true | _ => false) = true) (hi : (P.info? ty).map (·.size) = some xs.length)
    (h : wpList P ops Q rest (a.put o.dst (.agg xs.toArray)) w) : wpList P ops Q (o :: rest) a w :=
  wpList_step fun K hK => by
    rw [if_pos hw]
    exact wp_load_part ty x ho g i hx xs d hc hu hd hi (hK _ _ h)

/-- What an index says of a name, as cells: the name, whether it is found, the entry, the bitmap, the way. -/
def idxCells (s : ByteArray) (f : Bool) (ent : List Value) (d : Text) (A : Option Addr) (n c : Nat) : List Value := [.string s, .bool f] ++ ent ++ cells8 d ++ [.slice A n c]
def z33 : List Value := .int .i64 0 :: cells8 (List.replicate 32 0)
theorem neq33 (w : World) : (binOp .neq 37 (.agg z33.toArray) (.agg #[.int .i64 0, .int .u8 0, .int .u8 0, .int .u8 0, .int .u8 0, .int .u8 0, .int .u8 0, .int .u8 0, .int .u8 0, .int .u8 0, .int .u8 0, .int .u8 0, .int .u8 0, .int .u8 0, .int .u8 0, .int .u8 0, .int .u8 0, .int .u8 0, .int .u8 0, .int .u8 0, .int .u8 0, .int .u8 0, .int .u8 0, .int .u8 0, .int .u8 0, .int .u8 0, .int .u8 0, .int .u8 0, .int .u8 0, .int .u8 0, .int .u8 0, .int .u8 0, .int .u8 0])).run Try.prog w = .ok (.bool false) w := by kernel_rfl
section
variable {s : ByteArray} {f : Bool} {ent : List Value} {d : Text} {A : Option Addr} {n c : Nat}
theorem idx_name : (idxCells s f ent d A n c)[0]? = some (.string s) := rfl
theorem idx_found : (idxCells s f ent d A n c)[1]? = some (.bool f) := rfl
theorem idx_ent (j : Nat) (v : Value) (hv : ent[j]? = some v) : (idxCells s f ent d A n c)[2 + j]? = some v := by
  have hj : j < ent.length := (List.getElem?_eq_some_iff.1 hv).1
  unfold idxCells
  rw [List.append_assoc, List.append_assoc, List.getElem?_append_right (by simp), List.getElem?_append_left (by simp; omega)]
  simpa using hv
theorem idx_bitmap (he : ent.length = 33) (j : Nat) (v : Value) (hv : (cells8 d)[j]? = some v) : (idxCells s f ent d A n c)[35 + j]? = some v := by
  have hj : j < (cells8 d).length := (List.getElem?_eq_some_iff.1 hv).1
  unfold idxCells
  rw [List.append_assoc, List.getElem?_append_right (by simp [he]), List.getElem?_append_left (by simp [he]; omega)]
  simpa [he] using hv
theorem idx_way (he : ent.length = 33) (hd : d.length = 32) : (idxCells s f ent d A n c)[67]? = some (.slice A n c) := by
  unfold idxCells
  rw [List.getElem?_append_right (by simp [he, cells8_len, hd])]
  simp [he, cells8_len, hd]
theorem idx_len (he : ent.length = 33) (hd : d.length = 32) : (idxCells s f ent d A n c).length = 68 := by simp [idxCells, he, cells8_len, hd]
end

set_option maxRecDepth 100000 in
set_option maxHeartbeats 1000000 in
theorem indexed_nf (s : ByteArray) (hs : s.size ≤ 140737488355328) (d : Text) (hd : d.length = 32) (A : Option Addr) (n c : Nat) (b1 b2 : Bool) (h1 : namedB s.data.toList = b1) (h2 : ((onesOf d : Int) == (n : Int)) = b2) (w : World) :
    Calls Try.prog 27 #[.agg (idxCells s false z33 d A n c).toArray] w fun e w' => e = .returned (.bool (b1 && b2)) ∧ Below w.heap.size w w' := by
  obtain ⟨cs, hcs⟩ : ∃ cs : Array Value, (idxCells s false z33 d A n c).toArray = cs := ⟨_, rfl⟩
  have i0 : cs[0]? = some (.string s) := by rw [← hcs, List.getElem?_toArray]; exact idx_name
  have i1 : cs[1]? = some (.bool false) := by rw [← hcs, List.getElem?_toArray]; exact idx_found
  have i2 : Hid (∀ j v, z33[j]? = some v → cs[2 + j]? = some v) := fun j v hv => by rw [← hcs, List.getElem?_toArray]; exact idx_ent j v hv
  have i3 : Hid (∀ j v, (cells8 d)[j]? = some v → cs[35 + j]? = some v) := fun j v hv => by rw [← hcs, List.getElem?_toArray]; exact idx_bitmap rfl j v hv
  have i4 : Hid (cs[67]? = some (.slice A n c)) := by show _ = _; rw [← hcs, List.getElem?_toArray]; exact idx_way rfl hd
  rw [hcs]
  clear hcs
  have hB0 : Hid (Blk (w.alloc (.cells cs 39)) w.heap.size 39 cs) := Blk.new w _ _
  have hb0 : Hid (Below w.heap.size w (w.alloc (.cells cs 39))) := Below.heap_below w _
  have e1 := (hB0.out.cell 1).trans i1
  have hn := neq33
  have sE : Hid ((Try.prog.info? 37).map (·.size) = some z33.length) := by show _ = _; kernel_rfl
  have sD : Hid ((Try.prog.info? 28).map (·.size) = some (cells8 d).length) := agg_hi size32 (by rw [cells8_len, hd])
  replace hs := Lib.hid hs
  replace hd := Lib.hid hd
  replace h1 := Lib.hid h1
  replace h2 := Lib.hid h2
  replace i0 := Lib.hid i0
  replace i1 := Lib.hid i1
  obtain ⟨Z, hZ⟩ : ∃ Z, Hid (z33.toArray = Z) := ⟨_, Lib.hid rfl⟩
  rw [hZ.out] at hn
  go_enter Try.func27, Try.ntmps27
  go_wp2_with ((with_reducible change wpList _ _ _ ({ dst := some 23, op := _, type := _, pos := _, after := _, guard := _ } :: _) _ _); refine wpList_load_part_g (o := ⟨some 23, _, _, _, _, _⟩) (by rfl) 37 (.tmp 22) rfl w.heap.size 2 rfl z33 _ (fun j v hv => (hB0.out.cell (2 + j)).trans (i2.out j v hv)) Try.underlying37 rfl sE.out ?_; rw [hZ.out])
  have hC : Hid (∀ w', Class (w.alloc (.cells cs 39)) w' → ∀ j v, cs[j]? = some v → w'.cell? ⟨w.heap.size, j, none⟩ = some v) := fun w' hw' j v hv => ((show Blk w' w.heap.size 39 cs from (hw'.below.block _ hB0.out.lt).trans hB0.out).cell j).trans hv
  cases b1
  · refine wp_region_class (Class (w.alloc (.cells cs 39))) (by kernel_rfl) (by kernel_rfl) (Class.mk_ ((Below.refl _ _).drew)) ?_
    refine wpQuiet_val (v := .pointer (some ⟨w.heap.size, 0, none⟩)) rfl (fun w' hw' => by go_simp) ?_
    (intro K hK; go_simp; refine hK _ ?_; clear hK K)
    refine wpQuiet_val (v := .string s) rfl (fun w' hw' => by have hc := hC.out w' hw' 0 _ i0.out; go_simp) ?_
    (intro K hK; go_simp; refine hK _ ?_; clear hK K)
    refine wpQuiet_fn (v := .bool false) (args := #[.string s]) rfl _ _ rfl rfl Try.func50 (by kernel_rfl) (by kernel_rfl) (fun w' hw' => (named_any s hs.out w').mono (fun e w'' ⟨he, hw⟩ => ⟨by rw [he, h1.out], by rw [← hw]; exact hw'⟩)) ?_
    (intro K hK; go_simp; refine hK _ ?_; clear hK K)
    refine wpQuiet_move rfl (.tmp 30) rfl ?_
    (intro K hK; go_simp; refine hK _ ?_; clear hK K)
    refine wpQuiet_skip_ rfl ?_
    (intro K hK; go_simp; refine hK _ ?_; clear hK K)
    refine wpQuiet_skip_ rfl ?_
    (intro K hK; go_simp; refine hK _ ?_; clear hK K)
    refine wpQuiet_skip_ rfl ?_
    (intro K hK; go_simp; refine hK _ ?_; clear hK K)
    refine wpQuiet_skip_ rfl ?_
    (intro K hK; go_simp; refine hK _ ?_; clear hK K)
    refine wpQuiet_skip_ rfl ?_
    (intro K hK; go_simp; refine hK _ ?_; clear hK K)
    refine wpQuiet_skip_ rfl ?_
    (intro K hK; go_simp; refine hK _ ?_; clear hK K)
    refine wpQuiet_skip_ rfl ?_
    (intro K hK; go_simp; refine hK _ ?_; clear hK K)
    refine wpQuiet_val (v := .bool false) rfl (fun w' hw' => by go_simp) ?_
    (intro K hK; go_simp; refine hK _ ?_; clear hK K)
    refine wpQuiet_val (v := .bool false) rfl (fun w' hw' => by go_simp) ?_
    (intro K hK; go_simp; refine hK _ ?_; clear hK K)
    refine wpQuiet_nil ?_
    intro w' hw'
    have hb1 : Hid (Below w.heap.size w w') := hb0.out.trans (hw'.below.mono hb0.out.size)
    go_wp2_with fail
    go_ret
    exact ⟨rfl, hb1.out⟩
  · refine wp_region_class (Class (w.alloc (.cells cs 39))) (by kernel_rfl) (by kernel_rfl) (Class.mk_ ((Below.refl _ _).drew)) ?_
    refine wpQuiet_val (v := .pointer (some ⟨w.heap.size, 0, none⟩)) rfl (fun w' hw' => by go_simp) ?_
    (intro K hK; go_simp; refine hK _ ?_; clear hK K)
    refine wpQuiet_val (v := .string s) rfl (fun w' hw' => by have hc := hC.out w' hw' 0 _ i0.out; go_simp) ?_
    (intro K hK; go_simp; refine hK _ ?_; clear hK K)
    refine wpQuiet_fn (v := .bool true) (args := #[.string s]) rfl _ _ rfl rfl Try.func50 (by kernel_rfl) (by kernel_rfl) (fun w' hw' => (named_any s hs.out w').mono (fun e w'' ⟨he, hw⟩ => ⟨by rw [he, h1.out], by rw [← hw]; exact hw'⟩)) ?_
    (intro K hK; go_simp; refine hK _ ?_; clear hK K)
    refine wpQuiet_move rfl (.tmp 30) rfl ?_
    (intro K hK; go_simp; refine hK _ ?_; clear hK K)
    refine wpQuiet_val (v := .pointer (some ⟨w.heap.size, 35, none⟩)) rfl (fun w' hw' => by go_simp) ?_
    (intro K hK; go_simp; refine hK _ ?_; clear hK K)
    refine wpQuiet_load_part rfl 28 (.tmp 32) rfl w.heap.size 35 rfl (cells8 d) _ (fun w' hw' j v hv => hC.out w' hw' (35 + j) v (i3.out j v hv)) Try.underlying28 rfl sD.out ?_
    (intro K hK; go_simp; refine hK _ ?_; clear hK K)
    refine wpQuiet_fn (v := .int .i64 (onesOf d : Nat)) (args := #[.agg (cells8 d).toArray]) rfl _ _ rfl rfl Try.func51 (by kernel_rfl) (by kernel_rfl) (fun w' hw' => (ones_any d hd.out w').mono (fun e w'' ⟨he, hb⟩ => ⟨he, hw'.next hb⟩)) ?_
    (intro K hK; go_simp; refine hK _ ?_; clear hK K)
    refine wpQuiet_val (v := .pointer (some ⟨w.heap.size, 67, none⟩)) rfl (fun w' hw' => by go_simp) ?_
    (intro K hK; go_simp; refine hK _ ?_; clear hK K)
    refine wpQuiet_val (v := .slice A n c) rfl (fun w' hw' => by have hc := hC.out w' hw' 67 _ i4.out; go_simp) ?_
    (intro K hK; go_simp; refine hK _ ?_; clear hK K)
    refine wpQuiet_val (v := .int .i64 (n : Int)) rfl (fun w' hw' => by go_simp) ?_
    (intro K hK; go_simp; refine hK _ ?_; clear hK K)
    refine wpQuiet_val (v := .bool b2) rfl (fun w' hw' => by have hc := h2.out; go_simp) ?_
    (intro K hK; go_simp; refine hK _ ?_; clear hK K)
    refine wpQuiet_val (v := .bool b2) rfl (fun w' hw' => by go_simp) ?_
    (intro K hK; go_simp; refine hK _ ?_; clear hK K)
    refine wpQuiet_val (v := .bool b2) rfl (fun w' hw' => by go_simp) ?_
    (intro K hK; go_simp; refine hK _ ?_; clear hK K)
    refine wpQuiet_nil ?_
    intro w' hw'
    have hb1 : Hid (Below w.heap.size w w') := hb0.out.trans (hw'.below.mono hb0.out.size)
    go_wp2_with fail
    go_ret
    exact ⟨rfl, hb1.out⟩
end Go.Proofs.Ytngieimjlkpkaaa.ProofIdx3
