/-
  Texts of the claim, put into one file: ProofIdx2, ProofIdx3, ProofIdx4.
-/
import Derived.Test.YtmdkfhfkdcbpgaaDoorRZ13
import Derived.Laws.IdiomStrings

namespace Go.Proofs.YtmdkfhfkdcbpgaaDoorR.ProofIdx2
open Go Go.RowKit Go.Proofs.YtmdkfhfkdcbpgaaDoorR Mem Sha Bytes Go.Proofs.YtmdkfhfkdcbpgaaDoorR.Append Octet Octet2 HeadMem ProofBeside ProofEnc ProofIdx

def nm (s : ByteArray) : Text := s.data.toList.map fun b => b.toBitVec
theorem nm_len (t : ByteArray) : (nm t).length = t.size := by simp [nm]
theorem bytesRow_reads {W : World} {g C : Nat} {T : TypeId} {fz : Nat × Nat} {t : ByteArray} (h : W.heap[g]? = some (.cells (bytesRow t C) T fz)) : Reads W 1 (some ⟨g, 0, none⟩) (nm t).length (cells8 (nm t)) := by
 refine ⟨by rw [cells8_len, Nat.mul_one], fun _ => ⟨g, 0, rfl, (Array.getElem?_eq_some_iff.1 h).1, fun j u hu => ?_⟩⟩
 have hj : j < t.size := by
  have := (List.getElem?_eq_some_iff.1 hu).1
  rwa [cells8_len, nm_len] at this
 rw [Nat.zero_add, cell_of_row _ _ _ _ _ _ h, ← hu]
 unfold bytesRow cells8 nm
 have hd : j < t.data.size := hj
 rw [Array.getElem?_append_left (by simpa using hd)]
 simp
 have hb : (fun b : UInt8 => Value.int .u8 (b.toNat : Int)) = (cell8 ∘ fun b : UInt8 => b.toBitVec) := rfl
 rw [hb]

section
variable {w0 w : World} {g : Nat} {r : Option Nat} {l : Text}
theorem raw_str (s : ByteArray) (C : Nat) (fr : Nat × Nat) {w1 W : World} (T1 T2 : TypeId) (hW : ((w1.alloc (.cells (bytesRow s C) T1 fr)).alloc (.cells #[.slice (some ⟨w1.heap.size, 0, none⟩) s.size C] T2)).drew = W) (hl : l.length + s.size ≤ 140737488355328) (hWr : Wrote w0 g r l w1) :
  Calls Tryd.prog 114 #[.pointer (some ⟨g, 0, none⟩), .slice (some ⟨w1.heap.size + 1, 0, none⟩) 1 1] W fun e w' => e = .returned (.tuple #[]) ∧ Wrote w0 g r (l ++ nm s) w' := by
 subst hW
 have hW2 : Wrote w0 g r l (((w1.alloc (.cells (bytesRow s C) T1 fr)).alloc (.cells #[.slice (some ⟨w1.heap.size, 0, none⟩) s.size C] T2)).drew) := ((hWr.alloc _).alloc _).drew
 obtain ⟨r0, h0, k0, c0⟩ := hWr
 have hg := h0.lt
 have hr0 : ∀ k, r0 = some k → k < w1.heap.size := by
  obtain ⟨v, _, _, _, h⟩ := h0
  exact fun k e => (h k e).2
 have hsz : (w1.alloc (.cells (bytesRow s C) T1 fr)).heap.size = w1.heap.size + 1 := by simp
 have b1 : (((w1.alloc (.cells (bytesRow s C) T1 fr)).alloc (.cells #[.slice (some ⟨w1.heap.size, 0, none⟩) s.size C] T2)).drew).heap[w1.heap.size]? = some (.cells (bytesRow s C) T1 fr) := by
  show ((w1.alloc (.cells (bytesRow s C) T1 fr)).alloc _).heap[w1.heap.size]? = _
  rw [Below.heap_alloc _ _ _ (by rw [hsz]; omega)]
  exact heap_alloc_new w1 _
 have b2 : Blk (((w1.alloc (.cells (bytesRow s C) T1 fr)).alloc (.cells #[.slice (some ⟨w1.heap.size, 0, none⟩) s.size C] T2)).drew) (w1.heap.size + 1) T2 #[.slice (some ⟨w1.heap.size, 0, none⟩) s.size C] := by
  have := Blk.new (w1.alloc (.cells (bytesRow s C) T1 fr)) T2 #[.slice (some ⟨w1.heap.size, 0, none⟩) s.size C]
  rw [hsz] at this
  exact this.drew
 have h3 : WrAt (((w1.alloc (.cells (bytesRow s C) T1 fr)).alloc (.cells #[.slice (some ⟨w1.heap.size, 0, none⟩) s.size C] T2)).drew) g r0 l := ((h0.alloc _).alloc _).drew
 have k3 : Kept (fun k => k = g ∨ some k = r) w0 (((w1.alloc (.cells (bytesRow s C) T1 fr)).alloc (.cells #[.slice (some ⟨w1.heap.size, 0, none⟩) s.size C] T2)).drew) := ((k0.alloc _).alloc _).drew
 generalize (((w1.alloc (.cells (bytesRow s C) T1 fr)).alloc (.cells #[.slice (some ⟨w1.heap.size, 0, none⟩) s.size C] T2)).drew) = W at *
 refine (raw_any g r0 l [nm s] 1 rfl (some ⟨w1.heap.size + 1, 0, none⟩) 1 W (by simp [nm_len]; omega) (by omega) h3 (fun _ => ⟨w1.heap.size + 1, 0, rfl, b2.lt, by omega, (fun e => by have := hr0 _ e.symm; omega), fun i q hq => ?_⟩)).mono fun e w' ⟨he, hx⟩ => ⟨he, ?_⟩
 ·match i, hq with
  | 0, hq =>
   obtain rfl := Option.some.inj hq
   refine ⟨some ⟨w1.heap.size, 0, none⟩, C, (b2.cell 0).trans (by rw [nm_len]; rfl), bytesRow_reads b1, (fun h => by cases h), fun _ a e => ?_⟩
   obtain rfl := Option.some.inj e
   exact ⟨fun e => by simp at e; omega, fun e => by have := hr0 _ e.symm; simp at this⟩
  | i + 1, hq => simp at hq
 ·have := Wrote.trans1 k3 c0 hx
  simpa using this

set_option maxRecDepth 100000 in
set_option maxHeartbeats 1000000 in
theorem name_from (s : ByteArray) (hs : s.size ≤ 64) (hl : l.length + 1 + s.size ≤ 140737488355328) (hW : Wrote w0 g r l w) :
  Calls Tryd.prog 66 #[.pointer (some ⟨g, 0, none⟩), .string s] w fun e w' => e = .returned (.tuple #[]) ∧ Wrote w0 g r (l ++ [kb s.size] ++ nm s) w' := by
 have hs' : (s.size : Int) ≤ 64 := by omega
 have e256 : (s.size : Int) % 256 = (s.size : Int) := by omega
 have hk : Hid (b8 (kb s.size) = (s.size : Int)) := by
  show _ = _
  unfold b8 kb
  rw [BitVec.toNat_ofInt]
  omega
 have hcv : ∀ w', (convert 9 27 (.string s)).run Tryd.prog w' = .ok (.slice (some ⟨w'.heap.size, 0, none⟩) s.size (grownCap w' s.size 0 5)) (w'.drew.alloc (.cells (bytesRow s (grownCap w' s.size 0 5)) 5 ((bytesRow s (grownCap w' s.size 0 5)).size, (bytesRow s (grownCap w' s.size 0 5)).size + 1))) := fun w' => run_bytes_of_string w' _ _ _ s Tryd.underlying9 Tryd.underlying27 Tryd.underlying5
 replace hW := Lib.hid hW
 replace hl := Lib.hid hl
 replace hs := Lib.hid hs
 go_enter Tryd.func66, Tryd.ntmps66
 go_wp2_with (first
  | (go_at_call 65; refine (put1_from (s.size : Int) (kb s.size) hk.out (by have := hl.out; omega) hW.out).mono ?_; rintro e w1 ⟨rfl, hW1⟩; replace hW1 := Lib.hid hW1; clear hW)
  | (go_at_call 114; generalize hCg : grownCap _ s.size 0 5 = C; generalize hX : World.drew _ = X; refine (raw_str s C _ _ _ hX (by have := hl.out; simp; omega) hW1.out).mono ?_; rintro e w2 ⟨rfl, hW2⟩; replace hW2 := Lib.hid hW2; clear hX hCg))
 go_end0
 exact ⟨rfl, hW2.out⟩

set_option maxRecDepth 100000 in
set_option maxHeartbeats 1000000 in
theorem flag_from (b : Bool) (hl : l.length + 1 ≤ 140737488355328) (hW : Wrote w0 g r l w) :
  Calls Tryd.prog 134 #[.pointer (some ⟨g, 0, none⟩), .bool b] w fun e w' => e = .returned (.tuple #[]) ∧ Wrote w0 g r (l ++ [if b then 1 else 0]) w' := by
 replace hW := Lib.hid hW
 replace hl := Lib.hid hl
 cases b
 ·go_enter Tryd.func134, Tryd.ntmps134
  go_wp2_with (go_at_call 65; refine (put1_from 0 0 rfl hl.out hW.out).mono ?_; rintro e w1 ⟨rfl, hW1⟩; replace hW1 := Lib.hid hW1; clear hW)
  go_end0
  exact ⟨rfl, hW1.out⟩
 ·go_enter Tryd.func134, Tryd.ntmps134
  go_wp2_with (go_at_call 65; refine (put1_from 1 1 rfl hl.out hW.out).mono ?_; rintro e w1 ⟨rfl, hW1⟩; replace hW1 := Lib.hid hW1; clear hW)
  go_end0
  exact ⟨rfl, hW1.out⟩
end
end Go.Proofs.YtmdkfhfkdcbpgaaDoorR.ProofIdx2

namespace Go.Proofs.YtmdkfhfkdcbpgaaDoorR.ProofIdx3
open Go Go.RowKit Go.Proofs.YtmdkfhfkdcbpgaaDoorR Mem Sha Bytes Go.Proofs.YtmdkfhfkdcbpgaaDoorR.Append Octet Octet2 HeadMem ProofBeside ProofEnc ProofIdx ProofIdx2 QuietTail Grown

theorem wp_load_part {P : Program} {o : Oper} {a : Act} {w : World} {K : Act → World → Prop} {Q : Exit → Act → World → Prop} (ty : TypeId) (x : Operand) (ho : o.op = .load ty x)
  (g i : Nat) (hx : a.eval x = .pointer (some ⟨g, i, none⟩)) (xs : List Value) (d : TypeDesc) (hc : ∀ j v, xs[j]? = some v → w.cell? ⟨g, i + j, none⟩ = some v)
  (hu : P.underlying ty = some d) (hd : (match d with | .struct _ | .array _ _ => true | _ => false) = true) (hi : (P.info? ty).map (·.size) = some xs.length)
  (h : K (a.put o.dst (.agg xs.toArray)) w) : o.wp P a w K Q := by
 unfold Oper.wp execOp
 simp only [ho, hx, Instr.loadAt, Instr.sureAddr, Sem.run_bind, Sem.run_pure, Result.andThen_ok, run_loadVar_part w g i ty xs d hc hu hd hi]
 exact h

theorem wpList_load_part_g {P : Program} {ops : Array Oper} {rest : List Oper} {o : Oper} {a : Act} {w : World} {Q : Exit → Act → World → Prop} (hw : Region.wanted o (yielded ops a.tmps) = true) (ty : TypeId) (x : Operand) (ho : o.op = .load ty x)
  (g i : Nat) (hx : a.eval x = .pointer (some ⟨g, i, none⟩)) (xs : List Value) (d : TypeDesc) (hc : ∀ j v, xs[j]? = some v → w.cell? ⟨g, i + j, none⟩ = some v)
  (hu : P.underlying ty = some d) (hd : (match d with | .struct _ | .array _ _ => true | _ => false) = true) (hi : (P.info? ty).map (·.size) = some xs.length)
  (h : wpList P ops Q rest (a.put o.dst (.agg xs.toArray)) w) : wpList P ops Q (o :: rest) a w :=
 wpList_step fun K hK => by
  rw [if_pos hw]
  exact wp_load_part ty x ho g i hx xs d hc hu hd hi (hK _ _ h)

def idxCells (s : ByteArray) (f : Bool) (ent : List Value) (d : Text) (A : Option Addr) (n c : Nat) : List Value := [.string s, .bool f] ++ ent ++ cells8 d ++ [.slice A n c]
def z33 : List Value := .int .i64 0 :: cells8 (List.replicate 32 0)
theorem neq33 (w : World) : (binOp .neq 68 (.agg z33.toArray) (.agg #[.int .i64 0, .int .u8 0, .int .u8 0, .int .u8 0, .int .u8 0, .int .u8 0, .int .u8 0, .int .u8 0, .int .u8 0, .int .u8 0, .int .u8 0, .int .u8 0, .int .u8 0, .int .u8 0, .int .u8 0, .int .u8 0, .int .u8 0, .int .u8 0, .int .u8 0, .int .u8 0, .int .u8 0, .int .u8 0, .int .u8 0, .int .u8 0, .int .u8 0, .int .u8 0, .int .u8 0, .int .u8 0, .int .u8 0, .int .u8 0, .int .u8 0, .int .u8 0, .int .u8 0])).run Tryd.prog w = .ok (.bool false) w := by kernel_rfl
section
variable {s : ByteArray} {f : Bool} {ent : List Value} {d : Text} {A : Option Addr} {n c : Nat}
theorem idx_name : (idxCells s f ent d A n c)[0]? = some (.string s) := rfl
theorem idx_found : (idxCells s f ent d A n c)[1]? = some (.bool f) := rfl
theorem idx_ent (j : Nat) (v : Value) (hv : ent[j]? = some v) : (idxCells s f ent d A n c)[2 + j]? = some v := by
 have hj : j < ent.length := (List.getElem?_eq_some_iff.1 hv).1
 unfold idxCells
 rw [List.append_assoc, List.append_assoc, List.getElem?_append_right (by simp), List.getElem?_append_left (by simp; omega)]
 simpa using hv
theorem idx_bitmap (he : ent.length = 33) (j : Nat) (v : Value) (hv : (cells8 d)[j]? = some v) : (idxCells s f ent d A n c)[35 + j]? = some v := by
 have hj : j < (cells8 d).length := (List.getElem?_eq_some_iff.1 hv).1
 unfold idxCells
 rw [List.append_assoc, List.getElem?_append_right (by simp [he]), List.getElem?_append_left (by simp [he]; omega)]
 simpa [he] using hv
theorem idx_way (he : ent.length = 33) (hd : d.length = 32) : (idxCells s f ent d A n c)[67]? = some (.slice A n c) := by
 unfold idxCells
 rw [List.getElem?_append_right (by simp [he, cells8_len, hd])]
 simp [he, cells8_len, hd]
theorem idx_len (he : ent.length = 33) (hd : d.length = 32) : (idxCells s f ent d A n c).length = 68 := by simp [idxCells, he, cells8_len, hd]
end

set_option maxRecDepth 100000 in
set_option maxHeartbeats 1000000 in
theorem indexed_nf (s : ByteArray) (hs : s.size ≤ 140737488355328) (d : Text) (hd : d.length = 32) (A : Option Addr) (n c : Nat) (b1 b2 : Bool) (h1 : namedB s.data.toList = b1) (h2 : ((onesOf d : Int) == (n : Int)) = b2) (w : World) :
  Calls Tryd.prog 133 #[.agg (idxCells s false z33 d A n c).toArray] w fun e w' => e = .returned (.bool (b1 && b2)) ∧ Below w.heap.size w w' := by
 obtain ⟨cs, hcs⟩ : ∃ cs : Array Value, (idxCells s false z33 d A n c).toArray = cs := ⟨_, rfl⟩
 have i0 : cs[0]? = some (.string s) := by rw [← hcs, List.getElem?_toArray]; exact idx_name
 have i1 : cs[1]? = some (.bool false) := by rw [← hcs, List.getElem?_toArray]; exact idx_found
 have i2 : Hid (∀ j v, z33[j]? = some v → cs[2 + j]? = some v) := fun j v hv => by rw [← hcs, List.getElem?_toArray]; exact idx_ent j v hv
 have i3 : Hid (∀ j v, (cells8 d)[j]? = some v → cs[35 + j]? = some v) := fun j v hv => by rw [← hcs, List.getElem?_toArray]; exact idx_bitmap rfl j v hv
 have i4 : Hid (cs[67]? = some (.slice A n c)) := by show _ = _; rw [← hcs, List.getElem?_toArray]; exact idx_way rfl hd
 rw [hcs]
 clear hcs
 have hB0 : Hid (Blk (w.alloc (.cells cs 70)) w.heap.size 70 cs) := Blk.new w _ _
 have hb0 : Hid (Below w.heap.size w (w.alloc (.cells cs 70))) := Below.heap_below w _
 have e1 := (hB0.out.cell 1).trans i1
 have hn := neq33
 have sE : Hid ((Tryd.prog.info? 68).map (·.size) = some z33.length) := by show _ = _; kernel_rfl
 have sD : Hid ((Tryd.prog.info? 23).map (·.size) = some (cells8 d).length) := agg_hi size32 (by rw [cells8_len, hd])
 replace hs := Lib.hid hs
 replace hd := Lib.hid hd
 replace h1 := Lib.hid h1
 replace h2 := Lib.hid h2
 replace i0 := Lib.hid i0
 replace i1 := Lib.hid i1
 obtain ⟨Z, hZ⟩ : ∃ Z, Hid (z33.toArray = Z) := ⟨_, Lib.hid rfl⟩
 rw [hZ.out] at hn
 go_enter Tryd.func133, Tryd.ntmps133
 go_wp2_with ((with_reducible change wpList _ _ _ (⟨some 23, _, _, _, _, _⟩ :: _) _ _); refine wpList_load_part_g (o := ⟨some 23, _, _, _, _, _⟩) (by rfl) 68 (.tmp 22) rfl w.heap.size 2 rfl z33 _ (fun j v hv => (hB0.out.cell (2 + j)).trans (i2.out j v hv)) Tryd.underlying68 rfl sE.out ?_; rw [hZ.out])
 have hC : Hid (∀ w', Class (w.alloc (.cells cs 70)) w' → ∀ j v, cs[j]? = some v → w'.cell? ⟨w.heap.size, j, none⟩ = some v) := fun w' hw' j v hv => ((show Blk w' w.heap.size 70 cs from (hw'.below.block _ hB0.out.lt).trans hB0.out).cell j).trans hv
 cases b1
 ·refine wp_region_class (Class (w.alloc (.cells cs 70))) (by kernel_rfl) (by kernel_rfl) (Class.mk_ ((Below.refl _ _).drew)) ?_
  refine wpQuiet_val (v := .pointer (some ⟨w.heap.size, 0, none⟩)) rfl (fun w' hw' => by go_simp) ?_
  (intro K k; go_simp; apply k; clear k K)
  refine wpQuiet_val (v := .string s) rfl (fun w' hw' => by have hc := hC.out w' hw' 0 _ i0.out; go_simp) ?_
  (intro K k; go_simp; apply k; clear k K)
  refine wpQuiet_fn (v := .bool false) (args := #[.string s]) rfl _ _ rfl rfl Tryd.func108 (by kernel_rfl) (by kernel_rfl) (fun w' hw' => (named_any s hs.out w').mono (fun e w'' ⟨he, hw⟩ => ⟨by rw [he, h1.out], by rw [← hw]; exact hw'⟩)) ?_
  (intro K k; go_simp; apply k; clear k K)
  refine wpQuiet_move rfl (.tmp 30) rfl ?_
  (intro K k; go_simp; apply k; clear k K)
  refine wpQuiet_skip_ rfl ?_
  (intro K k; go_simp; apply k; clear k K)
  refine wpQuiet_skip_ rfl ?_
  (intro K k; go_simp; apply k; clear k K)
  refine wpQuiet_skip_ rfl ?_
  (intro K k; go_simp; apply k; clear k K)
  refine wpQuiet_skip_ rfl ?_
  (intro K k; go_simp; apply k; clear k K)
  refine wpQuiet_skip_ rfl ?_
  (intro K k; go_simp; apply k; clear k K)
  refine wpQuiet_skip_ rfl ?_
  (intro K k; go_simp; apply k; clear k K)
  refine wpQuiet_skip_ rfl ?_
  (intro K k; go_simp; apply k; clear k K)
  refine wpQuiet_val (v := .bool false) rfl (fun w' hw' => by go_simp) ?_
  (intro K k; go_simp; apply k; clear k K)
  refine wpQuiet_val (v := .bool false) rfl (fun w' hw' => by go_simp) ?_
  (intro K k; go_simp; apply k; clear k K)
  refine wpQuiet_nil ?_
  intro w' hw'
  have hb1 : Hid (Below w.heap.size w w') := hb0.out.trans (hw'.below.mono hb0.out.size)
  go_wp2_with fail
  go_ret
  exact ⟨rfl, hb1.out⟩
 ·refine wp_region_class (Class (w.alloc (.cells cs 70))) (by kernel_rfl) (by kernel_rfl) (Class.mk_ ((Below.refl _ _).drew)) ?_
  refine wpQuiet_val (v := .pointer (some ⟨w.heap.size, 0, none⟩)) rfl (fun w' hw' => by go_simp) ?_
  (intro K k; go_simp; apply k; clear k K)
  refine wpQuiet_val (v := .string s) rfl (fun w' hw' => by have hc := hC.out w' hw' 0 _ i0.out; go_simp) ?_
  (intro K k; go_simp; apply k; clear k K)
  refine wpQuiet_fn (v := .bool true) (args := #[.string s]) rfl _ _ rfl rfl Tryd.func108 (by kernel_rfl) (by kernel_rfl) (fun w' hw' => (named_any s hs.out w').mono (fun e w'' ⟨he, hw⟩ => ⟨by rw [he, h1.out], by rw [← hw]; exact hw'⟩)) ?_
  (intro K k; go_simp; apply k; clear k K)
  refine wpQuiet_move rfl (.tmp 30) rfl ?_
  (intro K k; go_simp; apply k; clear k K)
  refine wpQuiet_val (v := .pointer (some ⟨w.heap.size, 35, none⟩)) rfl (fun w' hw' => by go_simp) ?_
  (intro K k; go_simp; apply k; clear k K)
  refine wpQuiet_load_part rfl 23 (.tmp 32) rfl w.heap.size 35 rfl (cells8 d) _ (fun w' hw' j v hv => hC.out w' hw' (35 + j) v (i3.out j v hv)) Tryd.underlying23 rfl sD.out ?_
  (intro K k; go_simp; apply k; clear k K)
  refine wpQuiet_fn (v := .int .i64 (onesOf d : Nat)) (args := #[.agg (cells8 d).toArray]) rfl _ _ rfl rfl Tryd.func157 (by kernel_rfl) (by kernel_rfl) (fun w' hw' => (ones_any d hd.out w').mono (fun e w'' ⟨he, hb⟩ => ⟨he, hw'.next hb⟩)) ?_
  (intro K k; go_simp; apply k; clear k K)
  refine wpQuiet_val (v := .pointer (some ⟨w.heap.size, 67, none⟩)) rfl (fun w' hw' => by go_simp) ?_
  (intro K k; go_simp; apply k; clear k K)
  refine wpQuiet_val (v := .slice A n c) rfl (fun w' hw' => by have hc := hC.out w' hw' 67 _ i4.out; go_simp) ?_
  (intro K k; go_simp; apply k; clear k K)
  refine wpQuiet_val (v := .int .i64 (n : Int)) rfl (fun w' hw' => by go_simp) ?_
  (intro K k; go_simp; apply k; clear k K)
  refine wpQuiet_val (v := .bool b2) rfl (fun w' hw' => by have hc := h2.out; go_simp) ?_
  (intro K k; go_simp; apply k; clear k K)
  refine wpQuiet_val (v := .bool b2) rfl (fun w' hw' => by go_simp) ?_
  (intro K k; go_simp; apply k; clear k K)
  refine wpQuiet_val (v := .bool b2) rfl (fun w' hw' => by go_simp) ?_
  (intro K k; go_simp; apply k; clear k K)
  refine wpQuiet_nil ?_
  intro w' hw'
  have hb1 : Hid (Below w.heap.size w w') := hb0.out.trans (hw'.below.mono hb0.out.size)
  go_wp2_with fail
  go_ret
  exact ⟨rfl, hb1.out⟩
end Go.Proofs.YtmdkfhfkdcbpgaaDoorR.ProofIdx3

namespace Go.Proofs.YtmdkfhfkdcbpgaaDoorR.ProofIdx4
open Go Go.RowKit Go.Proofs.YtmdkfhfkdcbpgaaDoorR Mem Sha Bytes Go.Proofs.YtmdkfhfkdcbpgaaDoorR.Append Octet Octet2 HeadMem ProofBeside ProofEnc ProofIdx ProofIdx2 ProofIdx3

def idxBytes (s : ByteArray) (d : Text) (ds : List Text) : Text := [50] ++ [kb s.size] ++ nm s ++ [0] ++ d ++ ds.flatten

set_option maxRecDepth 100000 in
set_option maxHeartbeats 1000000 in
theorem encodeIndexed_nf (s : ByteArray) (hs : s.size ≤ 64) (hnm : namedB s.data.toList = true) (d : Text) (hd : d.length = 32) (ds : List Text) (n : Nat) (hn : ds.length = n) (hds : ∀ d ∈ ds, d.length = 32) (hones : onesOf d = n) (A : Option Addr) (c : Nat) (w : World) (hr : Reads w 32 A n (ds.flatMap cells8)) :
  Calls Tryd.prog 84 #[.agg (idxCells s false z33 d A n c).toArray] w fun e w' => ∃ v, e = .returned (.tuple #[v, .int .i64 0]) ∧ Below w.heap.size w w' ∧ w'.ownsRow w.heap.size 5 1 v (35 + s.size + 32 * n) (cells8 (idxBytes s d ds)) := by
 have hT := Lib.hid (fun w' => indexed_nf s (by omega) d hd A n c true true hnm (by rw [hones]; simp) w')
 obtain ⟨cs, hcs⟩ : ∃ cs : Array Value, (idxCells s false z33 d A n c).toArray = cs := ⟨_, rfl⟩
 have i0 : Hid (cs[0]? = some (.string s)) := by show _ = _; rw [← hcs, List.getElem?_toArray]; exact idx_name
 have i1 : Hid (cs[1]? = some (.bool false)) := by show _ = _; rw [← hcs, List.getElem?_toArray]; exact idx_found
 have i3 : Hid (∀ j v, (cells8 d)[j]? = some v → cs[35 + j]? = some v) := fun j v hv => by rw [← hcs, List.getElem?_toArray]; exact idx_bitmap rfl j v hv
 have i4 : Hid (cs[67]? = some (.slice A n c)) := by show _ = _; rw [← hcs, List.getElem?_toArray]; exact idx_way rfl hd
 have sI : Hid ((Tryd.prog.info? 70).map (·.size) = some cs.size) := by show _ = _; rw [← hcs, List.size_toArray, idx_len rfl hd]; kernel_rfl
 rw [hcs] at hT ⊢
 clear hcs
 have hn256 : n ≤ 256 := by rw [← hones]; have := onesOf_le d; omega
 have hB0 : Hid (Blk (w.alloc (.cells cs 70)) w.heap.size 70 cs) := Blk.new w _ _
 have hb0 : Hid (Below w.heap.size w (w.alloc (.cells cs 70))) := Below.heap_below w _
 have hz0 : Hid ((w.alloc (.cells cs 70)).heap.size = w.heap.size + 1) := by show _ = _; simp
 have hR : Hid (∀ w', Below w.heap.size w w' → Reads w' 32 A n (ds.flatMap cells8)) := fun w' hb => hr.below hb
 have hA : Hid (∀ g, w.heap.size ≤ g → 0 < n → ∀ a, A = some a → a.block ≠ g ∧ some a.block ≠ none) := fun g hg h a e => by
  obtain ⟨b, o, e2, hb, _⟩ := hr.2 (by omega)
  rw [e] at e2
  injection e2 with e2
  subst e2
  exact ⟨by simp; omega, by simp⟩
 have sD : Hid ((Tryd.prog.info? 23).map (·.size) = some (cells8 d).length) := agg_hi size32 (by rw [cells8_len, hd])
 have q1 : Hid (∀ v ∈ [cells8 d], v.length = 32) := by intro v hv; simp only [List.mem_singleton] at hv; rw [hv, cells8_len, hd]
 have d1 : Hid (∀ x ∈ [d], x.length = 32) := by intro v hv; simp only [List.mem_singleton] at hv; rw [hv, hd]
 obtain ⟨X1, x1⟩ : ∃ X, Hid (X = ([cells8 d].flatten).toArray) := ⟨_, rfl⟩
 have hfin : Hid (([] : Text) ++ [50] ++ [kb s.size] ++ nm s ++ [if false = true then 1 else 0] ++ [d].flatten ++ ds.flatten = idxBytes s d ds) := by show _ = _; simp [idxBytes]
 have hlen : Hid ((idxBytes s d ds).length = 35 + s.size + 32 * n) := by show _ = _; simp only [idxBytes, List.length_append, List.length_cons, List.length_nil, nm_len, hd, flat32_len ds hds, hn]; omega
 have hnl := Lib.hid (nm_len s)
 replace hs := Lib.hid hs
 replace hn := Lib.hid hn
 replace hd := Lib.hid hd
 replace hds := Lib.hid hds
 replace hn256 := Lib.hid hn256
 clear hr hones hnm
 go_enter Tryd.func84, Tryd.ntmps84
 go_wp2_with (first
  | ((with_reducible change wpList _ _ _ (⟨some 5, _, _, _, _, _⟩ :: _) _ _); refine wpList_load_row (o := ⟨some 5, _, _, _, _, _⟩) rfl 70 (.tmp 1) rfl w.heap.size rfl 70 cs (0, 0) _ hB0.out Tryd.underlying70 rfl sI.out ?_)
  | (go_at_call 133; refine (hT.out _).mono ?_; rintro e w1 ⟨rfl, hb1⟩; rw [hz0.out] at hb1; have hB1 := (hb1.block w.heap.size (by omega)).trans hB0.out; have bb1 := hb0.out.trans (hb1.mono (by omega)); have hN := Lib.hid (WrAt.new w1).refl; have hR1 := Lib.hid ((hR.out w1 bb1).alloc (.cells #[.slice none 0 0] 173)); have hA1 := Lib.hid (hA.out w1.heap.size bb1.size); have hlt1 : w.heap.size < w1.heap.size := (by have := hb1.size; have := hz0.out; omega); have hBB : Hid (∀ w' l, Wrote (w1.alloc (.cells #[.slice none 0 0] 173)) w1.heap.size none l w' → ∀ j v, cs[j]? = some v → w'.cell? ⟨w.heap.size, j, none⟩ = some v) := (fun w' l h j v hv => ((h.blk (Blk.alloc hB1 _) (by omega) (by simp)).cell j).trans hv); have hbW : Hid (∀ w' l, Wrote (w1.alloc (.cells #[.slice none 0 0] 173)) w1.heap.size none l w' → Below w.heap.size w w') := (fun w' l h => (bb1.alloc bb1.size _).trans (h.below (fun _ e => by cases e) (B := w.heap.size) (by omega) (by simp; omega))); clear hb1 hB1 bb1 hlt1 hB0 hb0)
  | (go_at_call 64; refine (new_any _).mono ?_; rintro e w1 ⟨rfl, rfl⟩)
  | (go_at_call 65; refine (put1_from 50 50 rfl (by simp) hN.out).mono ?_; rintro e w2 ⟨rfl, hW2⟩; have e2 := hBB.out w2 _ hW2 0 _ i0.out; replace hW2 := Lib.hid hW2; clear hN)
  | (go_at_call 66; refine (name_from s hs.out (by have := hs.out; simp; omega) hW2.out).mono ?_; rintro e w3 ⟨rfl, hW3⟩; have e3 := hBB.out w3 _ hW3 1 _ i1.out; replace hW3 := Lib.hid hW3; clear hW2 e2)
  | (go_at_call 134; refine (flag_from false (by have := hs.out; have := hnl.out; simp; omega) hW3.out).mono ?_; rintro e w4 ⟨rfl, hW4⟩; have e4 := hBB.out w4 _ hW4 1 _ i1.out; have f4 : Hid (∀ j v, (cells8 d)[j]? = some v → w4.cell? ⟨w.heap.size, 35 + j, none⟩ = some v) := (fun j v hv => hBB.out w4 _ hW4 (35 + j) v (i3.out j v hv)); replace hW4 := Lib.hid hW4; clear hW3 e3)
  | ((with_reducible change wpList _ _ _ (⟨some 32, _, _, _, _, _⟩ :: _) _ _); refine wpList_load_part (o := ⟨some 32, _, _, _, _, _⟩) rfl 23 (.tmp 31) rfl w.heap.size 35 rfl (cells8 d) _ f4.out Tryd.underlying23 rfl sD.out ?_)
  | ((with_reducible change wpList _ _ _ (⟨some 33, _, _, _, _, _⟩ :: _) _ _); refine wpList_buildAggs (o := ⟨some 33, _, _, _, _, _⟩) rfl 29 23 1 _ rfl 32 (by decide) [cells8 d] Tryd.underlying29 size32 zero32 rfl (by decide) (by decide) q1.out rfl ?_; rw [← x1.out])
  | (go_at_call 70; have tok := hW4; rw [show X1 = (([d].map cells8).flatten).toArray from x1.out]; refine (digests_new [d] 1 rfl d1.out (by have := hs.out; have := hnl.out; simp; omega) hW4.out).mono ?_; rintro e w5 ⟨rfl, hW5⟩; have e5 := hBB.out w5 _ hW5 67 _ i4.out; replace hW5 := Lib.hid hW5; clear tok hW4 e4 f4)
  | (go_at_call 70; refine (digests_old ds n hn.out hds.out A c (by have := hs.out; have := hnl.out; have := hn256.out; have := hd.out; simp; omega) hR1.out hA1.out hW5.out).mono ?_; rintro e w6 ⟨rfl, hW6⟩; rw [hfin.out] at hW6; have b6 := Lib.hid (hbW.out w6 _ hW6); obtain ⟨r6, hA6, -, -⟩ := hW6; replace hA6 := Lib.hid hA6; clear hW5 e5 hR1 hA1 hBB hbW)
  | (go_at_call 71; refine (all_any w1.heap.size r6 (idxBytes s d ds) w6 (by rw [hlen.out]; have := hs.out; have := hn256.out; omega) hA6.out).mono ?_; rintro e w7 ⟨v, rfl, hb7, ho7⟩; rw [hlen.out] at ho7; obtain ⟨Av, cv, rfl, -⟩ := Own.reads ho7; have bb7 : Hid (Below w.heap.size w w7) := b6.out.trans (hb7.mono b6.out.size); replace ho7 := Lib.hid ho7; clear hb7))
 go_ret2
 exact ⟨_, rfl, bb7.out, ownsRow_base ho7.out b6.out.size⟩
end Go.Proofs.YtmdkfhfkdcbpgaaDoorR.ProofIdx4
