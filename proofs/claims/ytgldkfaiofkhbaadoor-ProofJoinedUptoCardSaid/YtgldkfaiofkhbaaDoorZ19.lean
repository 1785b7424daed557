/-
  Texts of the claim, put into one file: Book, Book2, Book17.
-/
import Derived.Test.YtgldkfaiofkhbaaDoorZ3
import Derived.Test.YtgldkfaiofkhbaaDoorZ15
import Derived.Lib.Hide
import Derived.Outline
import Derived.WalkLawsBesides
import Derived.StillTailTactics
import Derived.OwnWalk
import Derived.IntWalk

namespace Go.Proofs.YtgldkfaiofkhbaaDoor.Book
open Go Go.RowKit Go.Proofs.YtgldkfaiofkhbaaDoor Go.Proofs.YtgldkfaiofkhbaaDoor.Mem Go.Proofs.YtgldkfaiofkhbaaDoor.Sha Go.Proofs.YtgldkfaiofkhbaaDoor.Bytes Go.Proofs.YtgldkfaiofkhbaaDoor.QuietTail Go.Proofs.YtgldkfaiofkhbaaDoor.Grown Go.Proofs.YtgldkfaiofkhbaaDoor.TreeMem Go.Proofs.YtgldkfaiofkhbaaDoor.TreeRoot

/-! ### Laws that the kit lacks: a copy of elements of any size, a store into the middle of a row -/
theorem run_storeVar_part {P : Program} (w : World) (g off : Nat) (t ty : TypeId) (cur cells : Array Value) (hg : Blk w g t cur) (hi : (P.info? ty).map (·.size) = some cells.size)
    (hfit : off + cells.size ≤ cur.size) (h1 : cells.all (·.oneCell') = true) :
    (storeVar ty ⟨g, off, none⟩ (.agg cells)).run P w = .ok () (w.setRow g (cur.toList.take off ++ cells.toList ++ cur.toList.drop (off + cells.size)).toArray) := by
  have := run_storeCells_at P g off t cells.toList 0 cur w hg (by simpa using hfit) (fun v hv => (Array.all_eq_true_iff_forall_mem.1 h1) v (by simpa using hv))
  cases hq : P.info? ty with
  | none => simp [hq] at hi
  | some i =>
    have hs : cells.size = i.size := by simp [hq] at hi; omega
    simp [storeVar, sizeOf, typeInfo, hq, Value.cells, hs, this]
theorem wp_store_part {P : Program} {o : Oper} {a : Act} {w : World} {K : Act → World → Prop} {Q : Exit → Act → World → Prop} (ty : TypeId) (x y : Operand) (ho : o.op = .store ty x y)
    (g off : Nat) (cells : Array Value) (hx : a.eval x = .pointer (some ⟨g, off, none⟩)) (hy : a.eval y = .agg cells)
    (t : TypeId) (cur : Array Value) (hg : Blk w g t cur) (hi : (P.info? ty).map (·.size) = some cells.size)
    (hfit : off + cells.size ≤ cur.size) (h1 : cells.all (·.oneCell') = true)
    (h : K (a.put o.dst undef) (w.setRow g (cur.toList.take off ++ cells.toList ++ cur.toList.drop (off + cells.size)).toArray)) : o.wp P a w K Q := by
  have hrun := run_storeVar_part (P := P) w g off t ty cur cells hg hi hfit h1
  unfold Oper.wp execOp
  simp only [ho, hx, hy, Instr.storeAt, Instr.sureAddr, Sem.run_bind, Sem.run_pure, Result.andThen_ok, hrun]
  exact h
/-! ### Rows of digests that are known whole -/
def RowD (w : World) (g : Nat) (ds : List Text) : Prop := Blk w g 23 (ds.flatMap cells8).toArray
theorem Digs.set_ {ds : List Text} (h : Digs ds) (i : Nat) {x : Text} (hx : x.length = 32) : Digs (ds.set i x) := fun d hd => by
  rcases List.mem_or_eq_of_mem_set hd with h1 | h1
  · exact h d h1
  · rw [h1]; exact hx
theorem Digs.rep (m : Nat) {x : Text} (hx : x.length = 32) : Digs (List.replicate m x) := fun d hd => by rw [List.eq_of_mem_replicate hd, hx]
theorem RowD.rd {w : World} {g : Nat} {ds : List Text} (h : RowD w g ds) (hd : Digs ds) : RdD w (some ⟨g, 0, none⟩) ds.length ds :=
  ⟨rfl, hd, Blk.reads h 0 _ (flatMap_len ds hd) (fun j u hu => by rw [Nat.zero_add, List.getElem?_toArray]; exact hu)⟩
theorem RowD.below {w w' : World} {g : Nat} {ds : List Text} (h : RowD w g ds) (hb : Below w.heap.size w w') : RowD w' g ds := (hb.block g (Blk.lt h)).trans h

theorem info32 : (Tryd.prog.info? 23).map (fun i => (i.zero, i.size, i.bytes)) = some (some (.agg Z32), 32, 32) := by kernel_rfl
theorem info_partsN {P : Program} {e : TypeId} {z : Value} {s b : Nat} (h : (P.info? e).map (fun i => (i.zero, i.size, i.bytes)) = some (some z, s, b)) : ∃ i : TypeInfo, P.info? e = some i ∧ i.zero = some z ∧ i.size = s ∧ i.bytes = b := by
  cases hq : P.info? e with
  | none => simp [hq] at h
  | some i =>
    simp [hq] at h
    exact ⟨i, rfl, h.1, h.2.1, h.2.2⟩
end Go.Proofs.YtgldkfaiofkhbaaDoor.Book

namespace Go.Proofs.YtgldkfaiofkhbaaDoor.Book2
open Go Go.RowKit Go.Proofs.YtgldkfaiofkhbaaDoor Go.Proofs.YtgldkfaiofkhbaaDoor.Mem Go.Proofs.YtgldkfaiofkhbaaDoor.Sha Go.Proofs.YtgldkfaiofkhbaaDoor.Bytes Go.Proofs.YtgldkfaiofkhbaaDoor.QuietTail Go.Proofs.YtgldkfaiofkhbaaDoor.Grown Go.Proofs.YtgldkfaiofkhbaaDoor.TreeMem Go.Proofs.YtgldkfaiofkhbaaDoor.TreeRoot Go.Proofs.YtgldkfaiofkhbaaDoor.Book Go.Proofs.YtgldkfaiofkhbaaDoor.DigEq

theorem take_succ_eq {ds es : List Text} {i : Nat} {x : Text} (h : ds.take i = es.take i) (hx : ds[i]? = some x) (hy : es[i]? = some x) : ds.take (i + 1) = es.take (i + 1) := by
  rw [List.take_add_one, List.take_add_one, h, hx, hy]
theorem neq_yes {x : Text} (hx : x.length = 32) (w : World) : (Op.equalIn 10000 23 (.agg (cells8 x).toArray) (.agg (cells8 x).toArray)).run Tryd.prog w = .ok true w := by
  rw [equal_dig x x hx hx w]; simp
theorem neq_no {x y : Text} (hx : x.length = 32) (hy : y.length = 32) (h : x ≠ y) (w : World) : (Op.equalIn 10000 23 (.agg (cells8 x).toArray) (.agg (cells8 y).toArray)).run Tryd.prog w = .ok false w := by
  rw [equal_dig x y hx hy w]; simp [h]

set_option maxRecDepth 100000 in
set_option maxHeartbeats 1000000 in
theorem sameD_len (n m : Nat) (A B : Option Addr) (c d : Nat) (w : World) (h : n ≠ m) :
    Calls Tryd.prog 43 #[.slice A n c, .slice B m d] w fun e w' => e = .returned (.bool false) ∧ Below w.heap.size w w' := by
  have y1 : ((n : Int) != (m : Int)) = true := bne_iff_ne.2 (by omega)
  have y2 : ((n : Int) == (m : Int)) = false := beq_eq_false_iff_ne.2 (by omega)
  clear h
  go_enter Tryd.func43, Tryd.ntmps43
  go_wp2_with fail
  go_ret
  exact ⟨rfl, Below.refl _ _⟩

set_option maxRecDepth 100000 in
set_option maxHeartbeats 1000000 in
theorem sameD_eq (n : Nat) (hn47 : n < 140737488355328) (ds es : List Text) (A B : Option Addr) (c d : Nat) (w : World) (h1 : RdD w A n ds) (h2 : RdD w B n es) :
    Calls Tryd.prog 43 #[.slice A n c, .slice B n d] w fun e w' => e = .returned (.bool (decide (ds = es))) ∧ Below w.heap.size w w' := by
  have y1 : ((n : Int) != (n : Int)) = false := bne_eq_false_iff_eq.2 rfl
  have y3 : (n : Int) < 140737488355328 := by omega
  replace h1 := Lib.hid h1
  replace h2 := Lib.hid h2
  clear hn47
  go_enter Tryd.func43, Tryd.ntmps43
  go_wp2_with fail
  go_loopw [5] (fun v wr => ∃ i : Nat, v = .int .i64 (i : Int) ∧ i ≤ n ∧ Hid (ds.take i = es.take i) ∧ Hid (Below w.heap.size w wr)) (fun v _ => n - (intOf v).toNat)
  case atStart => exact ⟨0, rfl, Nat.zero_le _, (by show _ = _; simp), Below.refl _ _⟩
  case round =>
    obtain ⟨i, rfl, hi, hE, hW⟩ := hrel
    by_cases hlt : i < n
    · obtain ⟨x, hxd⟩ : ∃ x, ds[i]? = some x := ⟨_, List.getElem?_eq_getElem (by rw [h1.out.1]; exact hlt)⟩
      obtain ⟨y, hyd⟩ : ∃ y, es[i]? = some y := ⟨_, List.getElem?_eq_getElem (by rw [h2.out.1]; exact hlt)⟩
      obtain ⟨b, o, rfl, hb, hc⟩ := h1.out.at_ hxd
      obtain ⟨b2, o2, rfl, hb2, hc2⟩ := h2.out.at_ hyd
      have hx : Hid (∀ w', Below wr.heap.size wr w' → ∀ j v, (cells8 x)[j]? = some v → w'.cell? ⟨b, o + i * 32 + j, none⟩ = some v) := fun w' hb' j v hv => ((hW.out.trans (hb'.mono hW.out.size)).cell (p := ⟨b, o + i * 32 + j, none⟩) hb).trans (hc j v hv)
      have hy : Hid (∀ w', Below wr.heap.size wr w' → ∀ j v, (cells8 y)[j]? = some v → w'.cell? ⟨b2, o2 + i * 32 + j, none⟩ = some v) := fun w' hb' j v hv => ((hW.out.trans (hb'.mono hW.out.size)).cell (p := ⟨b2, o2 + i * 32 + j, none⟩) hb2).trans (hc2 j v hv)
      have hxl := h1.out.2.1.at_ hxd
      have hyl := h2.out.2.1.at_ hyd
      have Fx := Lib.hid (fit (x := x) hxl)
      have Fy := Lib.hid (fit (x := y) hyl)
      have z1 : (0 : Int) ≤ (i : Int) := by omega
      have z2 : (i : Int) < (n : Int) := by omega
      have z4 : Hid (i + 1 ≤ n) := hlt
      by_cases hxy : x = y
      · have hq := Lib.hid (fun w' => neq_yes (x := x) hxl w')
        subst hxy
        have hE2 := Lib.hid (take_succ_eq hE.out hxd hyd)
        clear hc hc2 hb hb2 hxd hyd hxl hyl hi hlt hE
        go_wp2_with fail
        refine wp_region_class (Class wr) (by kernel_rfl) (by kernel_rfl) (Class.mk_ ((Below.refl _ _).drew)) ?_
        refine wpQuiet_move rfl (.tmp 0) rfl ?_
        (intro K hK; go_simp; refine hK _ ?_; clear hK K)
        refine wpQuiet_move rfl (.tmp 5) rfl ?_
        (intro K hK; go_simp; refine hK _ ?_; clear hK K)
        refine wpQuiet_val (v := .pointer (some ⟨b, o + i * 32, none⟩)) rfl (fun w' hw' => by go_simp) ?_
        (intro K hK; go_simp; refine hK _ ?_; clear hK K)
        refine wpQuiet_load_part rfl 23 (.tmp 19) rfl b (o + i * 32) rfl (cells8 x) _ (fun w' hw' => hx.out w' hw'.below) Tryd.underlying23 rfl Fx.out.part ?_
        (intro K hK; go_simp; refine hK _ ?_; clear hK K)
        refine wpQuiet_move rfl (.tmp 1) rfl ?_
        (intro K hK; go_simp; refine hK _ ?_; clear hK K)
        refine wpQuiet_move rfl (.tmp 5) rfl ?_
        (intro K hK; go_simp; refine hK _ ?_; clear hK K)
        refine wpQuiet_val (v := .pointer (some ⟨b2, o2 + i * 32, none⟩)) rfl (fun w' hw' => by go_simp) ?_
        (intro K hK; go_simp; refine hK _ ?_; clear hK K)
        refine wpQuiet_load_part rfl 23 (.tmp 23) rfl b2 (o2 + i * 32) rfl (cells8 x) _ (fun w' hw' => hy.out w' hw'.below) Tryd.underlying23 rfl Fy.out.part ?_
        (intro K hK; go_simp; refine hK _ ?_; clear hK K)
        refine wpQuiet_val (v := .bool false) rfl (fun w' hw' => by have h := hq.out w'; go_simp) ?_
        (intro K hK; go_simp; refine hK _ ?_; clear hK K)
        refine wpQuiet_nil ?_
        intro w' hw'
        have hW' := Lib.hid (hW.out.trans (hw'.below.mono hW.out.size))
        go_wp2_with fail
        go_roundw
        case rel => exact ⟨i + 1, by go_num, z4.out, hE2.out, hW'.out⟩
        case measure => (have := z4.out; simp [intOf]; omega)
      · have hq := Lib.hid (fun w' => neq_no (x := x) (y := y) hxl hyl hxy w')
        have hF : Hid (decide (ds = es) = false) := decide_eq_false (fun e => hxy (by rw [e, hyd] at hxd; exact (Option.some.inj hxd).symm))
        clear hc hc2 hb hb2 hxd hyd hxl hyl hi hlt hE hxy
        go_wp2_with fail
        refine wp_region_class (Class wr) (by kernel_rfl) (by kernel_rfl) (Class.mk_ ((Below.refl _ _).drew)) ?_
        refine wpQuiet_move rfl (.tmp 0) rfl ?_
        (intro K hK; go_simp; refine hK _ ?_; clear hK K)
        refine wpQuiet_move rfl (.tmp 5) rfl ?_
        (intro K hK; go_simp; refine hK _ ?_; clear hK K)
        refine wpQuiet_val (v := .pointer (some ⟨b, o + i * 32, none⟩)) rfl (fun w' hw' => by go_simp) ?_
        (intro K hK; go_simp; refine hK _ ?_; clear hK K)
        refine wpQuiet_load_part rfl 23 (.tmp 19) rfl b (o + i * 32) rfl (cells8 x) _ (fun w' hw' => hx.out w' hw'.below) Tryd.underlying23 rfl Fx.out.part ?_
        (intro K hK; go_simp; refine hK _ ?_; clear hK K)
        refine wpQuiet_move rfl (.tmp 1) rfl ?_
        (intro K hK; go_simp; refine hK _ ?_; clear hK K)
        refine wpQuiet_move rfl (.tmp 5) rfl ?_
        (intro K hK; go_simp; refine hK _ ?_; clear hK K)
        refine wpQuiet_val (v := .pointer (some ⟨b2, o2 + i * 32, none⟩)) rfl (fun w' hw' => by go_simp) ?_
        (intro K hK; go_simp; refine hK _ ?_; clear hK K)
        refine wpQuiet_load_part rfl 23 (.tmp 23) rfl b2 (o2 + i * 32) rfl (cells8 y) _ (fun w' hw' => hy.out w' hw'.below) Tryd.underlying23 rfl Fy.out.part ?_
        (intro K hK; go_simp; refine hK _ ?_; clear hK K)
        refine wpQuiet_val (v := .bool true) rfl (fun w' hw' => by have h := hq.out w'; go_simp) ?_
        (intro K hK; go_simp; refine hK _ ?_; clear hK K)
        refine wpQuiet_nil ?_
        intro w' hw'
        have hW' := Lib.hid (hW.out.trans (hw'.below.mono hW.out.size))
        go_wp2_with fail
        go_ret
        exact ⟨by show Ending.returned (.bool false) = _; rw [hF.out], hW'.out⟩
    · have hF : Hid (decide (ds = es) = true) := decide_eq_true (by
        have := hE.out
        rwa [List.take_of_length_le (by have := h1.out.1; omega), List.take_of_length_le (by have := h2.out.1; omega)] at this)
      have z1 : (n : Int) ≤ (i : Int) := by omega
      clear hlt hi y1 y3
      go_wp2_with fail
      go_ret
      exact ⟨by show Ending.returned (.bool true) = _; rw [hF.out], hW.out⟩

theorem sameD_any (n m : Nat) (hn47 : n < 140737488355328) (ds es : List Text) (A B : Option Addr) (c d : Nat) (w : World) (h1 : RdD w A n ds) (h2 : RdD w B m es) :
    Calls Tryd.prog 43 #[.slice A n c, .slice B m d] w fun e w' => e = .returned (.bool (decide (ds = es))) ∧ Below w.heap.size w w' := by
  by_cases h : n = m
  · subst h
    exact sameD_eq n hn47 ds es A B c d w h1 h2
  · rw [decide_eq_false (fun e => h (by rw [← h1.1, ← h2.1, e]))]
    exact sameD_len n m A B c d w h

end Go.Proofs.YtgldkfaiofkhbaaDoor.Book2

namespace Go.Proofs.YtgldkfaiofkhbaaDoor.Book17
open Go Go.RowKit Go.Proofs.YtgldkfaiofkhbaaDoor Go.Proofs.YtgldkfaiofkhbaaDoor.Mem Go.Proofs.YtgldkfaiofkhbaaDoor.Sha Go.Proofs.YtgldkfaiofkhbaaDoor.Bytes Go.Proofs.YtgldkfaiofkhbaaDoor.QuietTail Go.Proofs.YtgldkfaiofkhbaaDoor.Grown Go.Proofs.YtgldkfaiofkhbaaDoor.TreeMem Go.Proofs.YtgldkfaiofkhbaaDoor.TreeRoot Go.Proofs.YtgldkfaiofkhbaaDoor.Book Go.Proofs.YtgldkfaiofkhbaaDoor.DigEq  Go.Proofs.YtgldkfaiofkhbaaDoor.Book2

end Go.Proofs.YtgldkfaiofkhbaaDoor.Book17
