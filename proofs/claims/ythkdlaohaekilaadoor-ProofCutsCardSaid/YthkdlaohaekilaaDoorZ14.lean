/-
  Texts of the claim, put into one file: Book, Book2, Book17.
-/
import Derived.Test.YthkdlaohaekilaaDoorZ3
import Derived.Test.YthkdlaohaekilaaDoorZ7
import Derived.Test.YthkdlaohaekilaaDoorZ12
import Derived.Lib.Hide
import Derived.Outline
import Derived.WalkLawsBesides
import Derived.StillTailTactics
import Derived.OwnWalk
import Derived.IntWalk

namespace Go.Proofs.YthkdlaohaekilaaDoor.Book
open Go Go.RowKit Go.Proofs.YthkdlaohaekilaaDoor Go.Proofs.YthkdlaohaekilaaDoor.Mem Go.Proofs.YthkdlaohaekilaaDoor.Sha Go.Proofs.YthkdlaohaekilaaDoor.Bytes Go.Proofs.YthkdlaohaekilaaDoor.QuietTail Go.Proofs.YthkdlaohaekilaaDoor.Grown Go.Proofs.YthkdlaohaekilaaDoor.TreeMem Go.Proofs.YthkdlaohaekilaaDoor.TreeRoot

/-! ### Laws that the kit lacks: a copy of elements of any size, a store into the middle of a row -/
theorem run_copy_rowN {P : Program} (w : World) (dT sT ty elem : TypeId) (sz g o dLen dCap : Nat) (a : Addr) (sLen sCap : Nat) (cur : Array Value) (t : TypeId) (cs : List Value)
    (hu : P.underlying dT = some (.slice elem)) (hs : (P.info? elem).map (·.size) = some sz)
    (hg : w.heap[g]? = some (.cells cur t (0, 0))) (hn : cs.length = Nat.min sLen dLen * sz)
    (hsrc : ∀ j v, cs[j]? = some v → w.cell? (a.add j) = some v) (hfit : o + cs.length ≤ cur.size) (h1 : ∀ v ∈ cs, v.oneCell' = true) :
    (Builtin.copy_ #[dT, sT] ty #[.slice (some ⟨g, o, none⟩) dLen dCap, .slice (some a) sLen sCap]).run P w =
      .ok (goInt (Nat.min sLen dLen)) (w.setRow g (cur.toList.take o ++ cs ++ cur.toList.drop (o + cs.length)).toArray) := by
  have hl := run_loadCells_list (P := P) w a cs hsrc
  have hst := run_storeCells_at P g o t cs 0 cur w hg (by simpa using hfit) h1
  cases hq : P.info? elem with
  | none => simp [hq] at hs
  | some i =>
    have hi : i.size = sz := by simpa [hq] using hs
    rw [hn] at hl
    simp [Builtin.copy_, run_underlying hu, Builtin.lenOf, Builtin.firstCells, sizeOf, typeInfo, hq, hi, hl, hst]
theorem run_copy_noneN {P : Program} (w : World) (dT sT ty elem : TypeId) (sz : Nat) (d a : Option Addr) (dLen dCap sLen sCap : Nat) (hu : P.underlying dT = some (.slice elem)) (hs : (P.info? elem).map (·.size) = some sz) (hn : Nat.min sLen dLen = 0) :
    (Builtin.copy_ #[dT, sT] ty #[.slice d dLen dCap, .slice a sLen sCap]).run P w = .ok (goInt 0) w := by
  cases hq : P.info? elem with
  | none => simp [hq] at hs
  | some i =>
    have hl : ∀ (x : Addr), (loadCells x 0).run P w = .ok #[] w := fun x => by simpa using run_loadCells_list (P := P) w x [] (by simp)
    cases d <;> cases a <;> simp [Builtin.copy_, run_underlying hu, Builtin.lenOf, Builtin.firstCells, sizeOf, typeInfo, hq, hn, storeCells, hl]
/-- copy(dst, src) into a block that is known whole, elements of any size. -/
theorem wpList_copy_intoN {P : Program} {w : World} {ops : Array Oper} {rest : List Oper} {o : Oper} {a : Act} {Q : Exit → Act → World → Prop} (hgd : o.guard = none) (d s : Operand) (dT sT : TypeId)
    (ho : o.op = .call { callee := .builtin .copy, args := #[d, s], argTypes := #[dT, sT] }) (elem : TypeId) (sz : Nat) (hu : P.underlying dT = some (.slice elem)) (hsz : (P.info? elem).map (·.size) = some sz)
    (sp : Option Addr) (dLen dCap sLen sCap : Nat) (g off : Nat) (hd : a.eval d = .slice (some ⟨g, off, none⟩) dLen dCap) (hs : a.eval s = .slice sp sLen sCap)
    (cur : Array Value) (t : TypeId) (hg : Blk w g t cur) (m : Nat) (hm : Nat.min sLen dLen = m) (cs : List Value) (hn : cs.length = m * sz) (hrd : Reads w sz sp sLen cs) (hml : m = sLen) (hsz0 : 0 < sz)
    (hfit : off + cs.length ≤ cur.size) (h1 : ∀ v ∈ cs, v.oneCell' = true)
    (h : ∀ w', Hid (Blk w' g t (cur.toList.take off ++ cs ++ cur.toList.drop (off + cs.length)).toArray) → Kept (· = g) w w' → wpList P ops Q rest (a.put o.dst (goInt m)) w') :
    wpList P ops Q (o :: rest) a w := by
  refine wpList_plain hgd fun K hK => ?_
  subst hml
  by_cases h0 : m = 0
  · subst h0
    obtain rfl : cs = [] := List.eq_nil_of_length_eq_zero (by simpa using hn)
    have hrun := run_copy_noneN (P := P) w dT sT o.type elem sz (some ⟨g, off, none⟩) sp dLen dCap 0 sCap hu hsz hm
    unfold Oper.wp
    simp [execOp, ho, resolve, invoke, builtin, hd, hs, hrun, Result.andThen]
    exact hK _ _ (h w (show Blk _ _ _ _ by simpa using hg) (Kept.refl _ w))
  · obtain ⟨b, o', rfl, hb, hc⟩ := hrd.2 (Nat.mul_pos (by omega) hsz0)
    have hrun := run_copy_rowN (P := P) w dT sT o.type elem sz g off dLen dCap ⟨b, o', none⟩ m sCap cur t cs hu hsz hg (by rw [hm]; exact hn) (fun j v hv => by rw [add_at]; exact hc j v hv) hfit h1
    rw [hm] at hrun
    unfold Oper.wp
    simp [execOp, ho, resolve, invoke, builtin, hd, hs, hrun, Result.andThen]
    exact hK _ _ (h _ (by show Blk _ _ _ _; unfold Blk; simpa using setRow_heap w g cur (cur.toList.take off ++ cs ++ cur.toList.drop (off + cs.length)).toArray t (0, 0) hg) (Bytes.Kept.setRow (S := (· = g)) (Kept.refl _ w) rfl _))
theorem run_storeVar_part {P : Program} (w : World) (g off : Nat) (t ty : TypeId) (cur cells : Array Value) (hg : Blk w g t cur) (hi : (P.info? ty).map (·.size) = some cells.size)
    (hfit : off + cells.size ≤ cur.size) (h1 : cells.all (·.oneCell') = true) :
    (storeVar ty ⟨g, off, none⟩ (.agg cells)).run P w = .ok () (w.setRow g (cur.toList.take off ++ cells.toList ++ cur.toList.drop (off + cells.size)).toArray) := by
  have := run_storeCells_at P g off t cells.toList 0 cur w hg (by simpa using hfit) (fun v hv => (Array.all_eq_true_iff_forall_mem.1 h1) v (by simpa using hv))
  cases hq : P.info? ty with
  | none => simp [hq] at hi
  | some i =>
    have hs : cells.size = i.size := by simp [hq] at hi; omega
    simp [storeVar, sizeOf, typeInfo, hq, Value.cells, hs, this]
theorem wp_store_part {P : Program} {o : Oper} {a : Act} {w : World} {K : Act → World → Prop} {Q : Exit → Act → World → Prop} (ty : TypeId) (x y : Operand) (ho : o.op = .store ty x y)
    (g off : Nat) (cells : Array Value) (hx : a.eval x = .pointer (some ⟨g, off, none⟩)) (hy : a.eval y = .agg cells)
    (t : TypeId) (cur : Array Value) (hg : Blk w g t cur) (hi : (P.info? ty).map (·.size) = some cells.size)
    (hfit : off + cells.size ≤ cur.size) (h1 : cells.all (·.oneCell') = true)
    (h : K (a.put o.dst undef) (w.setRow g (cur.toList.take off ++ cells.toList ++ cur.toList.drop (off + cells.size)).toArray)) : o.wp P a w K Q := by
  have hrun := run_storeVar_part (P := P) w g off t ty cur cells hg hi hfit h1
  unfold Oper.wp execOp
  simp only [ho, hx, hy, Instr.storeAt, Instr.sureAddr, Sem.run_bind, Sem.run_pure, Result.andThen_ok, hrun]
  exact h
theorem wpList_store_part {P : Program} {ops : Array Oper} {rest : List Oper} {o : Oper} {a : Act} {w : World} {Q : Exit → Act → World → Prop} (hgd : o.guard = none) (ty : TypeId) (x y : Operand) (ho : o.op = .store ty x y)
    (g off : Nat) (cells : Array Value) (hx : a.eval x = .pointer (some ⟨g, off, none⟩)) (hy : a.eval y = .agg cells)
    (t : TypeId) (cur : Array Value) (hg : Blk w g t cur) (hi : (P.info? ty).map (·.size) = some cells.size)
    (hfit : off + cells.size ≤ cur.size) (h1 : cells.all (·.oneCell') = true)
    (h : wpList P ops Q rest (a.put o.dst undef) (w.setRow g (cur.toList.take off ++ cells.toList ++ cur.toList.drop (off + cells.size)).toArray)) : wpList P ops Q (o :: rest) a w := by
  refine wpList_plain hgd fun K hK => ?_
  have hrun := run_storeVar_part (P := P) w g off t ty cur cells hg hi hfit h1
  unfold Oper.wp execOp
  simp only [ho, hx, hy, Instr.storeAt, Instr.sureAddr, Sem.run_bind, Sem.run_pure, Result.andThen_ok, hrun]
  exact hK _ _ h

/-! ### Rows of digests that are known whole -/
def zt : Text := List.replicate 32 0
def RowD (w : World) (g : Nat) (ds : List Text) : Prop := Blk w g 23 (ds.flatMap cells8).toArray
theorem flatMap_set (ds : List Text) (h : Digs ds) (i : Nat) (hi : i < ds.length) (x : Text) : (ds.flatMap cells8).take (i * 32) ++ cells8 x ++ (ds.flatMap cells8).drop (i * 32 + 32) = (ds.set i x).flatMap cells8 := by
  rw [flatMap_take ds i h, show i * 32 + 32 = (i + 1) * 32 by omega, flatMap_drop ds (i + 1) h, List.set_eq_take_append_cons_drop, if_pos hi, List.flatMap_append, List.flatMap_cons, List.append_assoc]
theorem flatMap_zero : ∀ m, (List.replicate m zt).flatMap cells8 = List.replicate (m * 32) (.int .u8 0)
  | 0 => rfl
  | m + 1 => by
    have hz : cells8 zt = List.replicate 32 (.int .u8 0) := by unfold cells8 zt; rw [List.map_replicate]; rfl
    rw [List.replicate_succ, List.flatMap_cons, flatMap_zero m, hz, Nat.succ_mul, Nat.add_comm (m * 32) 32, List.replicate_append_replicate]
theorem made32 (m : Nat) : (madeCells (Value.agg Z32).cells (m * 32)).toList = List.replicate (m * 32) (.int .u8 0) := by
  have hz : (Value.agg Z32).cells = Array.replicate 32 (.int .u8 0) := rfl
  rw [hz]
  unfold madeCells
  apply List.ext_getElem
  · simp
  · intro j h1 h2
    have hm : j % 32 < 32 := Nat.mod_lt _ (by omega)
    simp [hm]
theorem Digs.set_ {ds : List Text} (h : Digs ds) (i : Nat) {x : Text} (hx : x.length = 32) : Digs (ds.set i x) := fun d hd => by
  rcases List.mem_or_eq_of_mem_set hd with h1 | h1
  · exact h d h1
  · rw [h1]; exact hx
theorem Digs.rep (m : Nat) {x : Text} (hx : x.length = 32) : Digs (List.replicate m x) := fun d hd => by rw [List.eq_of_mem_replicate hd, hx]
theorem RowD.rd {w : World} {g : Nat} {ds : List Text} (h : RowD w g ds) (hd : Digs ds) : RdD w (some ⟨g, 0, none⟩) ds.length ds :=
  ⟨rfl, hd, Blk.reads h 0 _ (flatMap_len ds hd) (fun j u hu => by rw [Nat.zero_add, List.getElem?_toArray]; exact hu)⟩
theorem RowD.below {w w' : World} {g : Nat} {ds : List Text} (h : RowD w g ds) (hb : Below w.heap.size w w') : RowD w' g ds := (hb.block g (Blk.lt h)).trans h

theorem info32 : (Tryd.prog.info? 23).map (fun i => (i.zero, i.size, i.bytes)) = some (some (.agg Z32), 32, 32) := by kernel_rfl
theorem info_partsN {P : Program} {e : TypeId} {z : Value} {s b : Nat} (h : (P.info? e).map (fun i => (i.zero, i.size, i.bytes)) = some (some z, s, b)) : ∃ i : TypeInfo, P.info? e = some i ∧ i.zero = some z ∧ i.size = s ∧ i.bytes = b := by
  cases hq : P.info? e with
  | none => simp [hq] at h
  | some i =>
    simp [hq] at h
    exact ⟨i, rfl, h.1, h.2.1, h.2.2⟩
theorem ownBlkN {w : World} {base e g n sz : Nat} {xs : List Value} (h : w.ownsRow base e sz (.slice (some ⟨g, 0, none⟩) n n) n xs) : Blk w g e xs.toArray := by
  rcases h.2 with ⟨h1, _⟩ | ⟨g', cap, cur, hv, _, hg, _, _, hs, ht⟩
  · cases h1
  · injection hv with h1 h2 h3
    injection h1 with h1
    injection h1 with h1
    subst h1
    subst h3
    rw [List.take_of_length_le (by rw [Array.length_toList, hs]; exact Nat.le_refl _)] at ht
    rw [← ht]
    exact hg
/-- Roomy's list while the marks are written: below i the list and the marks, behind them zeros. -/
def roomL (ds : List Text) (mk : Text) (i : Nat) : List Text := ds ++ List.replicate i mk ++ List.replicate (80 - i) zt
theorem roomL_digs {ds : List Text} {mk : Text} (h : Digs ds) (hm : mk.length = 32) (i : Nat) : Digs (roomL ds mk i) := (h.append_ (Digs.rep i hm)).append_ (Digs.rep _ rfl)
theorem roomL_len (ds : List Text) (mk : Text) (i : Nat) (h : i ≤ 80) : (roomL ds mk i).length = ds.length + 80 := by simp [roomL]; omega
theorem roomL_step (ds : List Text) (mk : Text) (i : Nat) (h : i < 80) : (roomL ds mk i).set (ds.length + i) mk = roomL ds mk (i + 1) := by
  unfold roomL
  rw [show 80 - i = (80 - (i + 1)) + 1 by omega, List.replicate_succ, List.set_append_right _ _ (by simp), List.replicate_succ' (n := i)]
  simp
theorem roomL_done (ds : List Text) (mk : Text) : roomL ds mk 80 = ds ++ List.replicate 80 mk := by simp [roomL]

end Go.Proofs.YthkdlaohaekilaaDoor.Book

namespace Go.Proofs.YthkdlaohaekilaaDoor.Book2
open Go Go.RowKit Go.Proofs.YthkdlaohaekilaaDoor Go.Proofs.YthkdlaohaekilaaDoor.Mem Go.Proofs.YthkdlaohaekilaaDoor.Sha Go.Proofs.YthkdlaohaekilaaDoor.Bytes Go.Proofs.YthkdlaohaekilaaDoor.QuietTail Go.Proofs.YthkdlaohaekilaaDoor.Grown Go.Proofs.YthkdlaohaekilaaDoor.TreeMem Go.Proofs.YthkdlaohaekilaaDoor.TreeRoot Go.Proofs.YthkdlaohaekilaaDoor.Book Go.Proofs.YthkdlaohaekilaaDoor.DigEq

theorem take_succ_eq {ds es : List Text} {i : Nat} {x : Text} (h : ds.take i = es.take i) (hx : ds[i]? = some x) (hy : es[i]? = some x) : ds.take (i + 1) = es.take (i + 1) := by
  rw [List.take_add_one, List.take_add_one, h, hx, hy]
theorem neq_yes {x : Text} (hx : x.length = 32) (w : World) : (Op.equalIn 10000 23 (.agg (cells8 x).toArray) (.agg (cells8 x).toArray)).run Tryd.prog w = .ok true w := by
  rw [equal_dig x x hx hx w]; simp
theorem neq_no {x y : Text} (hx : x.length = 32) (hy : y.length = 32) (h : x ≠ y) (w : World) : (Op.equalIn 10000 23 (.agg (cells8 x).toArray) (.agg (cells8 y).toArray)).run Tryd.prog w = .ok false w := by
  rw [equal_dig x y hx hy w]; simp [h]

set_option maxRecDepth 100000 in
set_option maxHeartbeats 1000000 in
theorem sameD_len (n m : Nat) (A B : Option Addr) (c d : Nat) (w : World) (h : n ≠ m) :
    Calls Tryd.prog 27 #[.slice A n c, .slice B m d] w fun e w' => e = .returned (.bool false) ∧ Below w.heap.size w w' := by
  have y1 : ((n : Int) != (m : Int)) = true := bne_iff_ne.2 (by omega)
  have y2 : ((n : Int) == (m : Int)) = false := beq_eq_false_iff_ne.2 (by omega)
  clear h
  go_enter Tryd.func27, Tryd.ntmps27
  go_wp2_with fail
  go_ret
  exact ⟨rfl, Below.refl _ _⟩

set_option maxRecDepth 100000 in
set_option maxHeartbeats 1000000 in
theorem sameD_eq (n : Nat) (hn47 : n < 140737488355328) (ds es : List Text) (A B : Option Addr) (c d : Nat) (w : World) (h1 : RdD w A n ds) (h2 : RdD w B n es) :
    Calls Tryd.prog 27 #[.slice A n c, .slice B n d] w fun e w' => e = .returned (.bool (decide (ds = es))) ∧ Below w.heap.size w w' := by
  have y1 : ((n : Int) != (n : Int)) = false := bne_eq_false_iff_eq.2 rfl
  have y3 : (n : Int) < 140737488355328 := by omega
  replace h1 := Lib.hid h1
  replace h2 := Lib.hid h2
  clear hn47
  go_enter Tryd.func27, Tryd.ntmps27
  go_wp2_with fail
  go_loopw [5] (fun v wr => ∃ i : Nat, v = .int .i64 (i : Int) ∧ i ≤ n ∧ Hid (ds.take i = es.take i) ∧ Hid (Below w.heap.size w wr)) (fun v _ => n - (intOf v).toNat)
  case atStart => exact ⟨0, rfl, Nat.zero_le _, (by show _ = _; simp), Below.refl _ _⟩
  case round =>
    obtain ⟨i, rfl, hi, hE, hW⟩ := hrel
    by_cases hlt : i < n
    · obtain ⟨x, hxd⟩ : ∃ x, ds[i]? = some x := ⟨_, List.getElem?_eq_getElem (by rw [h1.out.1]; exact hlt)⟩
      obtain ⟨y, hyd⟩ : ∃ y, es[i]? = some y := ⟨_, List.getElem?_eq_getElem (by rw [h2.out.1]; exact hlt)⟩
      obtain ⟨b, o, rfl, hb, hc⟩ := h1.out.at_ hxd
      obtain ⟨b2, o2, rfl, hb2, hc2⟩ := h2.out.at_ hyd
      have hx : Hid (∀ w', Below wr.heap.size wr w' → ∀ j v, (cells8 x)[j]? = some v → w'.cell? ⟨b, o + i * 32 + j, none⟩ = some v) := fun w' hb' j v hv => ((hW.out.trans (hb'.mono hW.out.size)).cell (p := ⟨b, o + i * 32 + j, none⟩) hb).trans (hc j v hv)
      have hy : Hid (∀ w', Below wr.heap.size wr w' → ∀ j v, (cells8 y)[j]? = some v → w'.cell? ⟨b2, o2 + i * 32 + j, none⟩ = some v) := fun w' hb' j v hv => ((hW.out.trans (hb'.mono hW.out.size)).cell (p := ⟨b2, o2 + i * 32 + j, none⟩) hb2).trans (hc2 j v hv)
      have hxl := h1.out.2.1.at_ hxd
      have hyl := h2.out.2.1.at_ hyd
      have Fx := Lib.hid (fit (x := x) hxl)
      have Fy := Lib.hid (fit (x := y) hyl)
      have z1 : (0 : Int) ≤ (i : Int) := by omega
      have z2 : (i : Int) < (n : Int) := by omega
      have z4 : Hid (i + 1 ≤ n) := hlt
      by_cases hxy : x = y
      · have hq := Lib.hid (fun w' => neq_yes (x := x) hxl w')
        subst hxy
        have hE2 := Lib.hid (take_succ_eq hE.out hxd hyd)
        clear hc hc2 hb hb2 hxd hyd hxl hyl hi hlt hE
        go_wp2_with fail
        refine wp_region_class (Class wr) (by kernel_rfl) (by kernel_rfl) (Class.mk_ ((Below.refl _ _).drew)) ?_
        refine wpQuiet_move rfl (.tmp 0) rfl ?_
        (intro K hK; go_simp; refine hK _ ?_; clear hK K)
        refine wpQuiet_move rfl (.tmp 5) rfl ?_
        (intro K hK; go_simp; refine hK _ ?_; clear hK K)
        refine wpQuiet_val (v := .pointer (some ⟨b, o + i * 32, none⟩)) rfl (fun w' hw' => by go_simp) ?_
        (intro K hK; go_simp; refine hK _ ?_; clear hK K)
        refine wpQuiet_load_part rfl 23 (.tmp 19) rfl b (o + i * 32) rfl (cells8 x) _ (fun w' hw' => hx.out w' hw'.below) Tryd.underlying23 rfl Fx.out.part ?_
        (intro K hK; go_simp; refine hK _ ?_; clear hK K)
        refine wpQuiet_move rfl (.tmp 1) rfl ?_
        (intro K hK; go_simp; refine hK _ ?_; clear hK K)
        refine wpQuiet_move rfl (.tmp 5) rfl ?_
        (intro K hK; go_simp; refine hK _ ?_; clear hK K)
        refine wpQuiet_val (v := .pointer (some ⟨b2, o2 + i * 32, none⟩)) rfl (fun w' hw' => by go_simp) ?_
        (intro K hK; go_simp; refine hK _ ?_; clear hK K)
        refine wpQuiet_load_part rfl 23 (.tmp 23) rfl b2 (o2 + i * 32) rfl (cells8 x) _ (fun w' hw' => hy.out w' hw'.below) Tryd.underlying23 rfl Fy.out.part ?_
        (intro K hK; go_simp; refine hK _ ?_; clear hK K)
        refine wpQuiet_val (v := .bool false) rfl (fun w' hw' => by have h := hq.out w'; go_simp) ?_
        (intro K hK; go_simp; refine hK _ ?_; clear hK K)
        refine wpQuiet_nil ?_
        intro w' hw'
        have hW' := Lib.hid (hW.out.trans (hw'.below.mono hW.out.size))
        go_wp2_with fail
        go_roundw
        case rel => exact ⟨i + 1, by go_num, z4.out, hE2.out, hW'.out⟩
        case measure => (have := z4.out; simp [intOf]; omega)
      · have hq := Lib.hid (fun w' => neq_no (x := x) (y := y) hxl hyl hxy w')
        have hF : Hid (decide (ds = es) = false) := decide_eq_false (fun e => hxy (by rw [e, hyd] at hxd; exact (Option.some.inj hxd).symm))
        clear hc hc2 hb hb2 hxd hyd hxl hyl hi hlt hE hxy
        go_wp2_with fail
        refine wp_region_class (Class wr) (by kernel_rfl) (by kernel_rfl) (Class.mk_ ((Below.refl _ _).drew)) ?_
        refine wpQuiet_move rfl (.tmp 0) rfl ?_
        (intro K hK; go_simp; refine hK _ ?_; clear hK K)
        refine wpQuiet_move rfl (.tmp 5) rfl ?_
        (intro K hK; go_simp; refine hK _ ?_; clear hK K)
        refine wpQuiet_val (v := .pointer (some ⟨b, o + i * 32, none⟩)) rfl (fun w' hw' => by go_simp) ?_
        (intro K hK; go_simp; refine hK _ ?_; clear hK K)
        refine wpQuiet_load_part rfl 23 (.tmp 19) rfl b (o + i * 32) rfl (cells8 x) _ (fun w' hw' => hx.out w' hw'.below) Tryd.underlying23 rfl Fx.out.part ?_
        (intro K hK; go_simp; refine hK _ ?_; clear hK K)
        refine wpQuiet_move rfl (.tmp 1) rfl ?_
        (intro K hK; go_simp; refine hK _ ?_; clear hK K)
        refine wpQuiet_move rfl (.tmp 5) rfl ?_
        (intro K hK; go_simp; refine hK _ ?_; clear hK K)
        refine wpQuiet_val (v := .pointer (some ⟨b2, o2 + i * 32, none⟩)) rfl (fun w' hw' => by go_simp) ?_
        (intro K hK; go_simp; refine hK _ ?_; clear hK K)
        refine wpQuiet_load_part rfl 23 (.tmp 23) rfl b2 (o2 + i * 32) rfl (cells8 y) _ (fun w' hw' => hy.out w' hw'.below) Tryd.underlying23 rfl Fy.out.part ?_
        (intro K hK; go_simp; refine hK _ ?_; clear hK K)
        refine wpQuiet_val (v := .bool true) rfl (fun w' hw' => by have h := hq.out w'; go_simp) ?_
        (intro K hK; go_simp; refine hK _ ?_; clear hK K)
        refine wpQuiet_nil ?_
        intro w' hw'
        have hW' := Lib.hid (hW.out.trans (hw'.below.mono hW.out.size))
        go_wp2_with fail
        go_ret
        exact ⟨by show Ending.returned (.bool false) = _; rw [hF.out], hW'.out⟩
    · have hF : Hid (decide (ds = es) = true) := decide_eq_true (by
        have := hE.out
        rwa [List.take_of_length_le (by have := h1.out.1; omega), List.take_of_length_le (by have := h2.out.1; omega)] at this)
      have z1 : (n : Int) ≤ (i : Int) := by omega
      clear hlt hi y1 y3
      go_wp2_with fail
      go_ret
      exact ⟨by show Ending.returned (.bool true) = _; rw [hF.out], hW.out⟩

theorem sameD_any (n m : Nat) (hn47 : n < 140737488355328) (ds es : List Text) (A B : Option Addr) (c d : Nat) (w : World) (h1 : RdD w A n ds) (h2 : RdD w B m es) :
    Calls Tryd.prog 27 #[.slice A n c, .slice B m d] w fun e w' => e = .returned (.bool (decide (ds = es))) ∧ Below w.heap.size w w' := by
  by_cases h : n = m
  · subst h
    exact sameD_eq n hn47 ds es A B c d w h1 h2
  · rw [decide_eq_false (fun e => h (by rw [← h1.1, ← h2.1, e]))]
    exact sameD_len n m A B c d w h

end Go.Proofs.YthkdlaohaekilaaDoor.Book2

namespace Go.Proofs.YthkdlaohaekilaaDoor.Book17
open Go Go.RowKit Go.Proofs.YthkdlaohaekilaaDoor Go.Proofs.YthkdlaohaekilaaDoor.Mem Go.Proofs.YthkdlaohaekilaaDoor.Sha Go.Proofs.YthkdlaohaekilaaDoor.Bytes Go.Proofs.YthkdlaohaekilaaDoor.QuietTail Go.Proofs.YthkdlaohaekilaaDoor.Grown Go.Proofs.YthkdlaohaekilaaDoor.TreeMem Go.Proofs.YthkdlaohaekilaaDoor.TreeRoot Go.Proofs.YthkdlaohaekilaaDoor.Book Go.Proofs.YthkdlaohaekilaaDoor.DigEq  Go.Proofs.YthkdlaohaekilaaDoor.Book2

set_option maxRecDepth 100000 in
set_option maxHeartbeats 1000000 in
theorem roomyD_wide (ds : List Text) (n : Nat) (hn47 : n < 4398046511104) (A : Option Addr) (c : Nat) (mk : Text) (hmk : mk.length = 32) (w : World) (hr : RdD w A n ds) :
    Calls Tryd.prog 50 #[.slice A n c, .agg (cells8 mk).toArray] w fun e w' => ∃ g, e = .returned (.slice (some ⟨g, 0, none⟩) (n + 80) (n + 80)) ∧ w.heap.size ≤ g ∧ RowD w' g (ds ++ List.replicate 80 mk) ∧ Below w.heap.size w w' := by
  obtain ⟨i0, hi, hz0, hz1, hz2⟩ := info_partsN info32
  have hB0 : Hid (Blk (w.alloc (.cells (cells8 mk).toArray 23)) w.heap.size 23 (cells8 mk).toArray) := Blk.new w _ _
  have hb0 : Hid (Below w.heap.size w (w.alloc (.cells (cells8 mk).toArray 23))) := Below.heap_below w _
  have hsz0 : Hid ((w.alloc (.cells (cells8 mk).toArray 23)).heap.size = w.heap.size + 1) := by show _ = _; simp
  have hR0 : Hid (RdD (w.alloc (.cells (cells8 mk).toArray 23)) A n ds) := hr.below hb0.out
  have x0 : IntKind.i64.wrap ((n : Int) + 80) = (n : Int) + 80 := IntWalk.i64_in _ (by omega)
  have b2 : Hid (i0.bytes * (n + 80) ≤ 281474976710656) := by show _ ≤ _; rw [hz2]; omega
  have b3 : Hid (n + 80 ≤ maxLen) := by show _ ≤ _; unfold maxLen; omega
  have hds := Lib.hid hr.2.1
  have hlen := Lib.hid hr.1
  have Fm := Lib.hid (fit (x := mk) hmk)
  have s1 : Hid (((List.replicate (n + 80) zt).flatMap cells8).toArray.size = (n + 80) * 32) := by show _ = _; rw [List.size_toArray, flatMap_zero, List.length_replicate]
  have s2 : Hid (Nat.min n (n + 80) = n) := Nat.min_eq_left (by omega)
  have s3 : Hid ((ds.flatMap cells8).length = n * 32) := by show _ = _; rw [flatMap_len _ hds.out, hlen.out]
  have s4 : Hid (0 + (ds.flatMap cells8).length ≤ ((List.replicate (n + 80) zt).flatMap cells8).toArray.size) := by show _ ≤ _; rw [s1.out, s3.out]; omega
  have s5 : Hid (∀ v ∈ ds.flatMap cells8, v.oneCell' = true) := fun v hv => by
    obtain ⟨d, _, hd⟩ := List.mem_flatMap.1 hv
    exact cells8_one d v hd
  have s6 : Hid ((((List.replicate (n + 80) zt).flatMap cells8).toArray.toList.take 0 ++ ds.flatMap cells8 ++ ((List.replicate (n + 80) zt).flatMap cells8).toArray.toList.drop (0 + (ds.flatMap cells8).length)).toArray = ((roomL ds mk 0).flatMap cells8).toArray) := by
    show _ = _
    rw [Nat.zero_add, s3.out, List.toList_toArray, flatMap_drop _ n (Digs.rep _ rfl), List.drop_replicate, show n + 80 - n = 80 by omega]
    simp [roomL]
  have hmk0 := Lib.hid hmk
  have hn0 := Lib.hid hn47
  have y0 : (0 : Int) ≤ (n : Int) := by omega
  clear hr hmk hn47
  go_enter Tryd.func50, Tryd.ntmps50
  go_wp2_with (first
    | (at_make; refine wpList_make_full _ rfl (.tmp 9) (.tmp 9) 29 rfl w.heap.size 23 i0 (.agg Z32) 32 Tryd.underlying29 hi hz0 hz1 .i64 .i64 ((n : Int) + 80) ((n : Int) + 80) (n + 80) rfl rfl (by omega) (by omega) b2.out b3.out (by have := hsz0.out; omega) ?_; rw [hsz0.out]; intro w1 hown hgrow; rw [made32, ← flatMap_zero] at hown; have hG1 : Hid (RowD w1 (w.heap.size + 1) (List.replicate (n + 80) zt)) := ownBlkN hown; have hB1 : Hid (Blk w1 w.heap.size 23 (cells8 mk).toArray) := hB0.out.grown hgrow (by simp); have hb1 : Hid (Below w.heap.size w w1) := hb0.out.grown hgrow hb0.out.size (fun _ e => by cases e); have hR1 : Hid (RdD w1 A n ds) := (hR0.out.below ((Below.refl _ _).grown hgrow (Nat.le_refl _) (fun _ e => by cases e))); clear hown hgrow hB0 hb0 hR0)
    | ((with_reducible change wpList _ _ _ ({ dst := some 13, op := _, type := _, pos := _, after := _, guard := _ } :: _) _ _); refine wpList_copy_intoN (o := ⟨some 13, _, _, _, _, _⟩) rfl (.tmp 11) (.tmp 12) 29 29 rfl 23 32 Tryd.underlying29 size31 A (n + 80) (n + 80) n c (w.heap.size + 1) 0 rfl rfl _ 23 hG1.out n s2.out (ds.flatMap cells8) s3.out hR1.out.2.2 rfl (by decide) s4.out s5.out ?_; rw [s6.out]; intro w2 hG2 hk2; have hb2 : Hid (Below w.heap.size w w2) := hb1.out.trans (Kept.below_of hk2 (by omega) hb1.out.size); have hB2 : Hid (Blk w2 w.heap.size 23 (cells8 mk).toArray) := hB1.out.kept hk2 (by omega); clear hk2 hG1 hB1 hb1 hR1))
  clear s1 s2 s3 s4 s5 s6 b2 b3 hi hz0 hz1 hz2
  go_loopw [6] (fun v wr => ∃ i : Nat, v = .int .i64 (((n + i : Nat)) : Int) ∧ Hid (i ≤ 80) ∧ Hid (RowD wr (w.heap.size + 1) (roomL ds mk i)) ∧ Hid (Blk wr w.heap.size 23 (cells8 mk).toArray) ∧ Hid (Below w.heap.size w wr)) (fun v _ => n + 80 - (intOf v).toNat)
  case atStart => exact ⟨0, rfl, Nat.zero_le _, hG2.out, hB2.out, hb2.out⟩
  case round =>
    clear hG2 hB2 hb2
    obtain ⟨i, rfl, hi2, hG, hB, hb⟩ := hrel
    obtain ⟨j, hj⟩ : ∃ j, Hid (n + i = j) := ⟨_, Lib.hid rfl⟩
    rw [hj.out]
    have hj0 : (0 : Int) ≤ (j : Int) := by omega
    by_cases hlt : i < 80
    · have hz : (j : Int) < (n : Int) + 80 := by have := hj.out; omega
      have hj63 : (j : Int) < 9223372036854775807 := by have := hj.out; have := hn0.out; omega
      have hst := Lib.hid (roomL_step ds mk i hlt)
      have hsz : Hid (j * 32 + (cells8 mk).toArray.size ≤ ((roomL ds mk i).flatMap cells8).toArray.size) := by
        show _ ≤ _
        rw [List.size_toArray, List.size_toArray, cells8_len, hmk0.out, flatMap_len _ (roomL_digs hds.out hmk0.out i), roomL_len ds mk i (by omega), hlen.out, ← hj.out]
        omega
      have hset : Hid ((((roomL ds mk i).flatMap cells8).toArray.toList.take (j * 32) ++ (cells8 mk).toArray.toList ++ ((roomL ds mk i).flatMap cells8).toArray.toList.drop (j * 32 + (cells8 mk).toArray.size)).toArray = ((roomL ds mk (i + 1)).flatMap cells8).toArray) := by
        show _ = _
        rw [List.toList_toArray, List.toList_toArray, List.size_toArray, cells8_len, hmk0.out, flatMap_set _ (roomL_digs hds.out hmk0.out i) j (by rw [roomL_len ds mk i (by omega), hlen.out, ← hj.out]; omega), ← hst.out, hlen.out, hj.out]
      have hi3 : Hid (i + 1 ≤ 80) := hlt
      clear hlt hst
      go_wp2_with (first
        | ((with_reducible change wpList _ _ _ ({ dst := some 24, op := _, type := _, pos := _, after := _, guard := _ } :: _) _ _); refine wpList_load_row (o := ⟨some 24, _, _, _, _, _⟩) rfl 23 (.tmp 3) rfl (w.heap.size) rfl 23 ((cells8 mk).toArray) (0, 0) _ hB.out Tryd.underlying23 rfl Fm.out.size ?_)
        | ((with_reducible change wpList _ _ _ ({ dst := none, op := Op.store 23 _ _, type := _, pos := _, after := _, guard := _ } :: _) _ _); refine wpList_store_part (o := ⟨none, _, _, _, _, _⟩) rfl 23 (.tmp 25) (.tmp 24) rfl (w.heap.size + 1) (j * 32) (cells8 mk).toArray rfl rfl 23 _ hG.out Fm.out.size hsz.out Fm.out.one ?_; rw [hset.out]))
      go_roundw
      case rel => exact ⟨i + 1, by rw [← hj.out]; go_num, hi3.out, setRow_heap _ _ _ _ _ _ hG.out, (setRow_other _ _ _ _ (by omega)).trans hB.out, below_setRow hb.out (by omega) _⟩
      case measure => (have := hj.out; have := hi3.out; simp [intOf]; omega)
    · obtain rfl : i = 80 := by have := hi2.out; omega
      have hz : (n : Int) + 80 ≤ (j : Int) := by have := hj.out; omega
      have hfin : Hid (RowD wr (w.heap.size + 1) (ds ++ List.replicate 80 mk)) := by show RowD _ _ _; rw [← roomL_done]; exact hG.out
      clear hlt
      go_wp2_with fail
      go_ret
      exact ⟨_, rfl, Nat.le_succ _, hfin.out, hb.out⟩
set_option maxRecDepth 100000 in
set_option maxHeartbeats 1000000 in
theorem intactD_wide (ds : List Text) (n : Nat) (hn47 : n < 4398046511104) (g : Nat) (A : Option Addr) (c : Nat) (mk : Text) (hmk : mk.length = 32) (w : World) (hr : RdD w A n ds) (hg : RowD w g (ds ++ List.replicate 80 mk)) :
    Calls Tryd.prog 60 #[.slice (some ⟨g, 0, none⟩) (n + 80) (n + 80), .slice A n c, .agg (cells8 mk).toArray] w fun e w' => e = .returned (.bool true) ∧ Below w.heap.size w w' := by
  have hB0 : Hid (Blk (w.alloc (.cells (cells8 mk).toArray 23)) w.heap.size 23 (cells8 mk).toArray) := Blk.new w _ _
  have hb0 : Hid (Below w.heap.size w (w.alloc (.cells (cells8 mk).toArray 23))) := Below.heap_below w _
  have hl := hr.1
  have hF : RdD w (some ⟨g, 0, none⟩) (n + 80) (ds ++ List.replicate 80 mk) := by
    have := hg.rd (hr.2.1.append_ (Digs.rep 80 hmk))
    rwa [show (ds ++ List.replicate 80 mk).length = n + 80 by simp [hl]] at this
  have hF1 : RdD w (some ⟨g, 0, none⟩) n ds := by
    have := hF.take_ n (by omega)
    rwa [List.take_append_of_le_length (by omega), List.take_of_length_le (by omega)] at this
  have hT := Lib.hid (fun w' (hb : Below w.heap.size w w') => sameD_any n n (by omega) ds ds (some ⟨g, 0, none⟩) A (n + 80) c w' (hF1.below hb) (hr.below hb))
  have hS := run_headD (A := some ⟨g, 0, none⟩) (n := n + 80) (c := n + 80) (k := n) (by omega) (n : Int) rfl
  have x0 : IntKind.i64.wrap ((n : Int) + 80) = (n : Int) + 80 := IntWalk.i64_in _ (by omega)
  have Fm := Lib.hid (fit (x := mk) hmk)
  have hq := Lib.hid (fun w' => neq_yes (x := mk) hmk w')
  have hn0 := Lib.hid hn47
  have hcell : Hid (∀ i, i < 80 → ∀ w', Below w.heap.size w w' → ∀ j v, (cells8 mk)[j]? = some v → w'.cell? ⟨g, (n + i) * 32 + j, none⟩ = some v) := fun i hi w' hb j v hv => by
    obtain ⟨b, o, e, hbl, hc⟩ := hF.at_ (i := n + i) (d := mk) (by rw [List.getElem?_append_right (by omega), hl, show n + i - n = i by omega, List.getElem?_replicate, if_pos hi])
    injection e with e
    injection e with e1 e2
    subst e1 e2
    have := (hb.cell (p := ⟨g, 0 + (n + i) * 32 + j, none⟩) hbl).trans (hc j v hv)
    rwa [Nat.zero_add] at this
  have y0 : (0 : Int) ≤ (n : Int) := by omega
  clear hr hg hl hF hF1 hmk hn47
  go_enter Tryd.func60, Tryd.ntmps60
  go_wp2_with (go_at_call 27; refine (hT.out _ hb0.out).mono ?_; rw [decide_eq_true rfl]; rintro e w1 ⟨rfl, hb1⟩; have hB1 : Hid (Blk w1 w.heap.size 23 (cells8 mk).toArray) := (hb1.block _ hB0.out.lt).trans hB0.out; have bb1 : Hid (Below w.heap.size w w1) := hb0.out.trans (hb1.mono hb0.out.size); clear hb1 hB0 hb0)
  clear hS hT
  go_loopw [7] (fun v wr => ∃ i : Nat, v = .int .i64 (((n + i : Nat)) : Int) ∧ Hid (i ≤ 80) ∧ Hid (Blk wr w.heap.size 23 (cells8 mk).toArray) ∧ Hid (Below w.heap.size w wr)) (fun v _ => n + 80 - (intOf v).toNat)
  case atStart => exact ⟨0, rfl, Nat.zero_le _, hB1.out, bb1.out⟩
  case round =>
    clear hB1 bb1
    obtain ⟨i, rfl, hi2, hB, hb⟩ := hrel
    obtain ⟨j, hj⟩ : ∃ j, Hid (n + i = j) := ⟨_, Lib.hid rfl⟩
    rw [hj.out]
    have hj0 : (0 : Int) ≤ (j : Int) := by omega
    by_cases hlt : i < 80
    · have hz : (j : Int) < (n : Int) + 80 := by have := hj.out; omega
      have hj63 : (j : Int) < 9223372036854775807 := by have := hj.out; have := hn0.out; omega
      have hx : Hid (∀ w', Below wr.heap.size wr w' → ∀ k v, (cells8 mk)[k]? = some v → w'.cell? ⟨g, j * 32 + k, none⟩ = some v) := fun w' hb' k v hv => by
        have := hcell.out i hlt w' (hb.out.trans (hb'.mono hb.out.size)) k v hv
        rwa [hj.out] at this
      have hi3 : Hid (i + 1 ≤ 80) := hlt
      clear hlt
      go_wp2_with fail
      refine wp_region_class (Class wr) (by kernel_rfl) (by kernel_rfl) (Class.mk_ ((Below.refl _ _).drew)) ?_
      refine wpQuiet_move rfl (.tmp 0) rfl ?_
      (intro K hK; go_simp; refine hK _ ?_; clear hK K)
      refine wpQuiet_move rfl (.tmp 7) rfl ?_
      (intro K hK; go_simp; refine hK _ ?_; clear hK K)
      refine wpQuiet_val (v := .pointer (some ⟨g, j * 32, none⟩)) rfl (fun w' hw' => by go_simp) ?_
      (intro K hK; go_simp; refine hK _ ?_; clear hK K)
      refine wpQuiet_load_part rfl 23 (.tmp 33) rfl g (j * 32) rfl (cells8 mk) _ (fun w' hw' => hx.out w' hw'.below) Tryd.underlying23 rfl Fm.out.part ?_
      (intro K hK; go_simp; refine hK _ ?_; clear hK K)
      refine wpQuiet_load_row rfl 23 (.tmp 5) rfl w.heap.size rfl 23 ((cells8 mk).toArray) (0, 0) _ (fun w' hw' => (hw'.below.block _ hB.out.lt).trans hB.out) Tryd.underlying23 rfl Fm.out.size ?_
      (intro K hK; go_simp; refine hK _ ?_; clear hK K)
      refine wpQuiet_val (v := .bool false) rfl (fun w' hw' => by have h := hq.out w'; go_simp) ?_
      (intro K hK; go_simp; refine hK _ ?_; clear hK K)
      refine wpQuiet_nil ?_
      intro w' hw'
      have hB' := Lib.hid ((hw'.below.block _ hB.out.lt).trans hB.out)
      have hb' := Lib.hid (hb.out.trans (hw'.below.mono hb.out.size))
      go_wp2_with fail
      go_roundw
      case rel => exact ⟨i + 1, by rw [← hj.out]; go_num, hi3.out, hB'.out, hb'.out⟩
      case measure => (have := hj.out; have := hi3.out; simp [intOf]; omega)
    · obtain rfl : i = 80 := by have := hi2.out; omega
      have hz : (n : Int) + 80 ≤ (j : Int) := by have := hj.out; omega
      clear hlt
      go_wp2_with fail
      go_ret
      exact ⟨rfl, hb.out⟩
end Go.Proofs.YthkdlaohaekilaaDoor.Book17
