/-
  Texts of the claim, put into one file: SameIdx.
-/
import Derived.Test.YtmdkfhfkdcbpgaaZ18
import Derived.Test.YtmdkfhfkdcbpgaaZ9
import Derived.Test.YtmdkfhfkdcbpgaaZ4
import Derived.Test.YtmdkfhfkdcbpgaaZ24

namespace Go.Proofs.Ytmdkfhfkdcbpgaa.SameIdx
open Go Go.RowKit Go.Proofs.Ytmdkfhfkdcbpgaa Go.Proofs.Ytmdkfhfkdcbpgaa.Mem Go.Proofs.Ytmdkfhfkdcbpgaa.Sha Go.Proofs.Ytmdkfhfkdcbpgaa.Bytes Go.Proofs.Ytmdkfhfkdcbpgaa.HeadMem Go.Proofs.Ytmdkfhfkdcbpgaa.ProofIdx3 Go.Proofs.Ytmdkfhfkdcbpgaa.StructEq Go.Proofs.Ytmdkfhfkdcbpgaa.DigEq Go.Proofs.Ytmdkfhfkdcbpgaa.Book2 Go.Proofs.Ytmdkfhfkdcbpgaa.TreeMem Go.Proofs.Ytmdkfhfkdcbpgaa.Held Go.Proofs.Ytmdkfhfkdcbpgaa.Guard Go.Proofs.Ytmdkfhfkdcbpgaa.Guard2 Go.Proofs.Ytmdkfhfkdcbpgaa.Want

theorem wpList_cmpW {P : Program} {w : World} {l : List Oper} {ts : List Value} {df : List Deferred} {rest : List Oper} {o : Oper} {Q : Exit → Act → World → Prop} (hgd : wantB o.guard l ts = true) (op : BinOp) (T u : TypeId) (x y : Operand) (ho : o.op = .binOp op T x y u) (xs ys : Array Value)
    (hx : (Act.mk ts.toArray df).eval x = .agg xs) (hy : (Act.mk ts.toArray df).eval y = .agg ys) (hg : P.eqGuardType P.depth T = false) (r : Value) (hr : (binOp op T (.agg xs) (.agg ys)).run P w = .ok r w)
    (h : wpList P l.toArray Q rest ((Act.mk ts.toArray df).put o.dst r) w) : Veil (wpList P l.toArray Q (o :: rest) ⟨ts.toArray, df⟩ w) :=
  ⟨BigFrame.wpList_want (want hgd) fun _ hK => by
    unfold Oper.wp
    rw [run_cmp ho hx hy hg hr]
    exact hK _ _ h⟩
theorem qE : Try.prog.eqGuardType Try.prog.depth 25 = false := by kernel_rfl
theorem qD2 : Try.prog.eqGuardType Try.prog.depth 23 = false := by kernel_rfl
theorem sizeE : (Try.prog.info? 25).map (·.size) = some 33 := by kernel_rfl
theorem idx_facts (s : ByteArray) (f : Bool) (cnt : Int) (ch : Text) (hch : ch.length = 32) (d : Text) (hd : d.length = 32) (A : Option Addr) (n c : Nat) : ∃ cs : Array Value, (idxCells s f (entC cnt ch) d A n c).toArray = cs ∧ cs[0]? = some (.string s) ∧ cs[1]? = some (.bool f) ∧ (∀ j v, (entC cnt ch)[j]? = some v → cs[2 + j]? = some v) ∧
    (∀ j v, (cells8 d)[j]? = some v → cs[35 + j]? = some v) ∧ cs[67]? = some (.slice A n c) :=
  ⟨_, rfl, by rw [List.getElem?_toArray]; exact idx_name, by rw [List.getElem?_toArray]; exact idx_found, fun j v hv => by rw [List.getElem?_toArray]; exact idx_ent j v hv, fun j v hv => by rw [List.getElem?_toArray]; exact idx_bitmap (entC_len hch) j v hv, by rw [List.getElem?_toArray]; exact idx_way (entC_len hch) hd⟩
set_option maxRecDepth 100000 in
set_option maxHeartbeats 2000000 in
theorem sameIdx_yes (s : ByteArray) (f : Bool) (cnt : Int) (ch : Text) (hch : ch.length = 32) (d : Text) (hd : d.length = 32) (l : List Text) (n : Nat) (hn : n < 140737488355328) (A B : Option Addr) (c e : Nat) (w : World) (ha : RdD w A n l) (hb : RdD w B n l) :
    Calls Try.prog 37 #[.agg (idxCells s f (entC cnt ch) d A n c).toArray, .agg (idxCells s f (entC cnt ch) d B n e).toArray] w fun e w' => e = .returned (.bool true) ∧ Below w.heap.size w w' := by
  obtain ⟨cs, hcs, i0, i1, i2, i3, i4⟩ := idx_facts s f cnt ch hch d hd A n c
  obtain ⟨ds, hds, j0, j1, j2, j3, j4⟩ := idx_facts s f cnt ch hch d hd B n e
  rw [hcs, hds]
  have hW : Hid (Below w.heap.size w ((w.alloc (.cells cs 28)).alloc (.cells ds 28))) := (Below.heap_below w _).alloc (by simp) _
  have hX : Blk ((w.alloc (.cells cs 28)).alloc (.cells ds 28)) w.heap.size 28 cs := (Blk.new w _ _).alloc _
  have hY : Blk ((w.alloc (.cells cs 28)).alloc (.cells ds 28)) (w.heap.size + 1) 28 ds := by
    have := Blk.new (w.alloc (.cells cs 28)) 28 ds
    rwa [show (w.alloc (.cells cs 28)).heap.size = w.heap.size + 1 by simp] at this
  have a0 := (hX.cell 0).trans i0
  have a1 := (hX.cell 1).trans i1
  have a4 := (hX.cell 67).trans i4
  have b0 := (hY.cell 0).trans j0
  have b1 := (hY.cell 1).trans j1
  have b4 := (hY.cell 67).trans j4
  have a2 : Hid (∀ j v, (entC cnt ch)[j]? = some v → ((w.alloc (.cells cs 28)).alloc (.cells ds 28)).cell? ⟨w.heap.size, 2 + j, none⟩ = some v) := fun j v hv => (hX.cell _).trans (i2 j v hv)
  have a3 : Hid (∀ j v, (cells8 d)[j]? = some v → ((w.alloc (.cells cs 28)).alloc (.cells ds 28)).cell? ⟨w.heap.size, 35 + j, none⟩ = some v) := fun j v hv => (hX.cell _).trans (i3 j v hv)
  have b2 : Hid (∀ j v, (entC cnt ch)[j]? = some v → ((w.alloc (.cells cs 28)).alloc (.cells ds 28)).cell? ⟨w.heap.size + 1, 2 + j, none⟩ = some v) := fun j v hv => (hY.cell _).trans (j2 j v hv)
  have b3 : Hid (∀ j v, (cells8 d)[j]? = some v → ((w.alloc (.cells cs 28)).alloc (.cells ds 28)).cell? ⟨w.heap.size + 1, 35 + j, none⟩ = some v) := fun j v hv => (hY.cell _).trans (j3 j v hv)
  have sE : Hid ((Try.prog.info? 25).map (·.size) = some (entC cnt ch).length) := by show _ = _; rw [entC_len hch]; exact sizeE
  have sD : Hid ((Try.prog.info? 23).map (·.size) = some (cells8 d).length) := agg_hi size32 (by rw [cells8_len, hd])
  have hqe : Hid (∀ w', (binOp .eql 25 (.agg (entC cnt ch).toArray) (.agg (entC cnt ch).toArray)).run Try.prog w' = .ok (.bool true) w') := fun w' => (eql_entry cnt cnt ch ch hch hch w').trans (by simp)
  have hqd : Hid (∀ w', (binOp .eql 23 (.agg (cells8 d).toArray) (.agg (cells8 d).toArray)).run Try.prog w' = .ok (.bool true) w') := fun w' => (eql_dig d d hd hd w').trans (by simp)
  have hSm : Hid (Calls Try.prog 33 #[.slice A n c, .slice B n e] ((w.alloc (.cells cs 28)).alloc (.cells ds 28)) fun e w'' => e = .returned (.bool true) ∧ Below ((w.alloc (.cells cs 28)).alloc (.cells ds 28)).heap.size ((w.alloc (.cells cs 28)).alloc (.cells ds 28)) w'') := by
    have := sameD_any n n hn l l A B c e ((w.alloc (.cells cs 28)).alloc (.cells ds 28)) (ha.below hW.out) (hb.below hW.out)
    rwa [decide_eq_true (rfl : l = l)] at this
  have qs : (s == s) = true := by
    cases s with
    | mk d => exact beq_self_eq_true d
  have qf : (f == f) = true := beq_self_eq_true _
  clear hX hY i0 i1 i2 i3 i4 j0 j1 j2 j3 j4 hcs hds hch hd ha hb hn
  go_enter Try.func37, Try.ntmps37
  go_wp2_with (first
    | ((with_reducible change wpList _ _ _ ({ dst := some 19, op := _, type := _, pos := _, after := _, guard := _ } :: _) _ _); (with_reducible refine Veil.out ?_); refine wpList_partW (o := ⟨some 19, _, _, _, _, _⟩) rfl 25 (.tmp 18) rfl (w.heap.size) (2) rfl (entC cnt ch) _ a2.out Try.underlying25 rfl sE.out ?_)
    | ((with_reducible change wpList _ _ _ ({ dst := some 21, op := _, type := _, pos := _, after := _, guard := _ } :: _) _ _); (with_reducible refine Veil.out ?_); refine wpList_partW (o := ⟨some 21, _, _, _, _, _⟩) rfl 25 (.tmp 20) rfl (w.heap.size + 1) (2) rfl (entC cnt ch) _ b2.out Try.underlying25 rfl sE.out ?_)
    | ((with_reducible change wpList _ _ _ ({ dst := some 22, op := _, type := _, pos := _, after := _, guard := _ } :: _) _ _); (with_reducible refine Veil.out ?_); refine wpList_cmpW (o := ⟨some 22, _, _, _, _, _⟩) rfl .eql 25 25 (.tmp 19) (.tmp 21) rfl ((entC cnt ch).toArray) ((entC cnt ch).toArray) rfl rfl qE (.bool true) (hqe.out _) ?_)
    | ((with_reducible change wpList _ _ _ ({ dst := some 26, op := _, type := _, pos := _, after := _, guard := _ } :: _) _ _); (with_reducible refine Veil.out ?_); refine wpList_partW (o := ⟨some 26, _, _, _, _, _⟩) rfl 23 (.tmp 25) rfl (w.heap.size) (35) rfl (cells8 d) _ a3.out Try.underlying23 rfl sD.out ?_)
    | ((with_reducible change wpList _ _ _ ({ dst := some 28, op := _, type := _, pos := _, after := _, guard := _ } :: _) _ _); (with_reducible refine Veil.out ?_); refine wpList_partW (o := ⟨some 28, _, _, _, _, _⟩) rfl 23 (.tmp 27) rfl (w.heap.size + 1) (35) rfl (cells8 d) _ b3.out Try.underlying23 rfl sD.out ?_)
    | ((with_reducible change wpList _ _ _ ({ dst := some 29, op := _, type := _, pos := _, after := _, guard := _ } :: _) _ _); (with_reducible refine Veil.out ?_); refine wpList_cmpW (o := ⟨some 29, _, _, _, _, _⟩) rfl .eql 23 23 (.tmp 26) (.tmp 28) rfl ((cells8 d).toArray) ((cells8 d).toArray) rfl rfl qD2 (.bool true) (hqd.out _) ?_)
    | (go_at_call 33; refine hSm.out.mono ?_; rintro e w3 ⟨rfl, kk⟩; have hb3 : Hid (Below w.heap.size w w3) := hW.out.trans (kk.mono hW.out.size); clear kk hSm))
  go_ret
  exact ⟨rfl, hb3.out⟩
end Go.Proofs.Ytmdkfhfkdcbpgaa.SameIdx
