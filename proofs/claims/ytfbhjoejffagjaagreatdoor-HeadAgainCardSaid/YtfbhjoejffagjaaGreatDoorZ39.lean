/-
  Texts of the claim, put into one file: Insert.
-/
import Derived.Test.YtfbhjoejffagjaaGreatDoorZ29
import Derived.Test.YtfbhjoejffagjaaGreatDoorZ13
import Derived.Test.YtfbhjoejffagjaaGreatDoorZ2
import Derived.Lib.Overlaps
import Derived.Lib.AppendZerosOnto
import Derived.Laws.Externs
import Derived.Deep.Cut

namespace Go.Proofs.YtfbhjoejffagjaaGreatDoor.Insert
open Go Go.RowKit Go.Proofs.YtfbhjoejffagjaaGreatDoor Mem Sha Bytes SortP NoteP QuietTail Grown Want Go.Proofs.YtfbhjoejffagjaaGreatDoor.Append Own Rise SortM SgM EncNoteP RowS

theorem wpList_copy_at {P : Program} {w : World} {ops : Array Oper} {rest : List Oper} {o : Oper} {a : Act} {Q : Exit → Act → World → Prop} (hgd : o.guard = none) (d s : Operand) (dT sT : TypeId)
  (ho : o.op = .call { callee := .builtin .copy, args := #[d, s], argTypes := #[dT, sT] }) (elem : TypeId) (sz : Nat) (hu : P.underlying dT = some (.slice elem)) (hsz : (P.info? elem).map (·.size) = some sz)
  (sp : Addr) (dLen dCap sLen sCap : Nat) (g off : Nat) (hd : a.eval d = .slice (some ⟨g, off, none⟩) dLen dCap) (hs : a.eval s = .slice (some sp) sLen sCap)
  (cur : Array Value) (t : TypeId) (hg : Blk w g t cur) (cs : List Value) (hn : cs.length = Nat.min sLen dLen * sz) (hsrc : ∀ j v, cs[j]? = some v → w.cell? (sp.add j) = some v)
  (hfit : off + cs.length ≤ cur.size) (h1 : ∀ v ∈ cs, v.oneCell' = true)
  (h : ∀ w', Hid (Blk w' g t (cur.toList.take off ++ cs ++ cur.toList.drop (off + cs.length)).toArray) → Kept (· = g) w w' → wpList P ops Q rest (a.put o.dst (goInt (Nat.min sLen dLen))) w') :
  wpList P ops Q (o :: rest) a w := by
 refine wpList_plain hgd fun K hK => ?_
 have hrun := Book.run_copy_rowN (P := P) w dT sT o.type elem sz g off dLen dCap sp sLen sCap cur t cs hu hsz hg hn hsrc hfit h1
 unfold Oper.wp
 simp [execOp, ho, resolve, invoke, builtin, hd, hs, hrun, Result.andThen]
 exact hK _ _ (h _ (by show Blk _ _ _ _; unfold Blk; simpa using setRow_heap w g cur (cur.toList.take off ++ cs ++ cur.toList.drop (off + cs.length)).toArray t (0, 0) hg) (Bytes.Kept.setRow (S := (· = g)) (Kept.refl _ w) rfl _))
theorem wpList_append_eq {P : Program} {w : World} {ops : Array Oper} {rest : List Oper} {o : Oper} {a : Act} {Q : Exit → Act → World → Prop} (hgd : o.guard = none) (d s : Operand) (t t' : TypeId)
  (ho : o.op = .call { callee := .builtin .append, args := #[d, s], argTypes := #[t, t'] }) (v u : Value) (hd : a.eval d = v) (hs : a.eval s = u) {v' : Value} {w' : World}
  (hr : (Builtin.append_ #[t, t'] o.type #[v, u]).run P w = .ok v' w') (h : wpList P ops Q rest (a.put o.dst v') w') : wpList P ops Q (o :: rest) a w :=
 wpList_plain hgd fun K hK => by
  unfold Oper.wp execOp
  simp only [ho, resolve, invoke, builtin, Sem.run_bind, Sem.run_pure, Result.andThen_ok, List.map_toArray, List.map_cons, List.map_nil, hd, hs, hr]
  exact hK _ _ h
theorem shape_blk {w : World} {g : Nat} {t : TypeId} {cs : Array Value} (h : Blk w g t cs) : w.shape? g = some (t, cs.size) := by
 unfold World.shape?
 rw [h]
theorem run_tailP {g n c k : Nat} (hk : k ≤ n) (hc : k < c) (x : Int) (hx : x = k) (w : World) :
  (Instr.sliceAt 37 (.slice (some ⟨g, 0, none⟩) n c) (some (.int .i64 x)) none none).run Tryz.prog w = .ok (.slice (some ⟨g, k * 64, none⟩) (n - k) (c - k)) w := by
 rw [run_tailS hk x hx w]
 unfold cutS
 rw [if_neg (by omega), Option.map_some, add_at, Nat.zero_add]
theorem size64i : (Tryz.prog.info? 56).map (·.size) = some 64 := by kernel_rfl
theorem mid_cells {L Fl X D : List Value} {i n : Nat} (hi : i < n) (hF : Fl.length = n * 64) (hL : L.take (n * 64) = Fl) (hlen : (n + 1) * 64 ≤ L.length) (hX : X.length = 64) (hD : D = Fl.drop (i * 64)) :
  let L1 := L.take ((i + 1) * 64) ++ D ++ L.drop ((i + 1) * 64 + D.length)
  (L1.take (i * 64) ++ X ++ L1.drop (i * 64 + X.length)).take ((n + 1) * 64) = Fl.take (i * 64) ++ (X ++ Fl.drop (i * 64)) ∧ L1.length = L.length ∧ (L1.take (i * 64) ++ X ++ L1.drop (i * 64 + X.length)).length = L.length := by
 intro L1
 have hDl : D.length = (n - i) * 64 := by rw [hD, List.length_drop, hF, Nat.sub_mul]
 have hni : (n - i) * 64 = n * 64 - i * 64 := Nat.sub_mul _ _ _
 have hL1 : L1.length = L.length := by
  show (L.take ((i + 1) * 64) ++ D ++ L.drop ((i + 1) * 64 + D.length)).length = _
  simp only [List.length_append, List.length_take, List.length_drop]
  omega
 have e1 : L1.take (i * 64) = Fl.take (i * 64) := by
  show (L.take ((i + 1) * 64) ++ D ++ L.drop ((i + 1) * 64 + D.length)).take (i * 64) = _
  rw [List.append_assoc, List.take_append_of_le_length (by rw [List.length_take]; omega), List.take_take, ← hL, List.take_take]
  congr 1
  omega
 have e2 : (L1.drop (i * 64 + X.length)).take (n * 64 - i * 64) = D := by
  show ((L.take ((i + 1) * 64) ++ D ++ L.drop ((i + 1) * 64 + D.length)).drop (i * 64 + X.length)).take _ = _
  have hl : (L.take ((i + 1) * 64)).length = i * 64 + X.length := by rw [List.length_take]; omega
  rw [List.append_assoc, List.drop_left' hl, List.take_left' (by omega)]
 refine ⟨?_, hL1, ?_⟩
 ·rw [e1, List.append_assoc, List.take_append, List.length_take, hF, List.take_of_length_le (by rw [List.length_take]; omega)]
  congr 1
  rw [List.take_append, hX, List.take_of_length_le (by omega)]
  congr 1
  rw [← hD, ← e2, hX]
  congr 1
  omega
 ·simp only [List.length_append, List.length_take, List.length_drop]
  omega
theorem mid_cells2 {L Fl X D : List Value} {i n : Nat} (hi : i < n) (hF : Fl.length = n * 64) (hL : L.take (i * 64) = Fl.take (i * 64)) (hlen : (n + 1) * 64 ≤ L.length) (hX : X.length = 64) (hD : D = Fl.drop (i * 64)) :
  let L1 := L.take (i * 64) ++ X ++ L.drop (i * 64 + X.length)
  (L1.take ((i + 1) * 64) ++ D ++ L1.drop ((i + 1) * 64 + D.length)).take ((n + 1) * 64) = Fl.take (i * 64) ++ (X ++ Fl.drop (i * 64)) ∧ L1.length = L.length ∧ (L1.take ((i + 1) * 64) ++ D ++ L1.drop ((i + 1) * 64 + D.length)).length = L.length := by
 intro L1
 have hDl : D.length = (n - i) * 64 := by rw [hD, List.length_drop, hF, Nat.sub_mul]
 have hni : (n - i) * 64 = n * 64 - i * 64 := Nat.sub_mul _ _ _
 have hL1 : L1.length = L.length := by
  show (L.take (i * 64) ++ X ++ L.drop (i * 64 + X.length)).length = _
  simp only [List.length_append, List.length_take, List.length_drop]
  omega
 have e1 : L1.take ((i + 1) * 64) = Fl.take (i * 64) ++ X := by
  show (L.take (i * 64) ++ X ++ L.drop (i * 64 + X.length)).take ((i + 1) * 64) = _
  rw [List.take_left' (by rw [List.length_append, List.length_take]; omega), hL]
 refine ⟨?_, hL1, ?_⟩
 ·rw [e1, List.take_left' (by simp only [List.length_append, List.length_take]; omega), List.append_assoc, ← hD]
 ·simp only [List.length_append, List.length_take, List.length_drop]
  omega
def mid (ss : List Text) (i : Nat) (x : Text) : List Text := ss.take i ++ [x] ++ ss.drop i
theorem mid_flat {ss : List Text} (hs : Sns ss) (i : Nat) (x : Text) : (ss.flatMap cells8).take (i * 64) ++ (cells8 x ++ (ss.flatMap cells8).drop (i * 64)) = (mid ss i x).flatMap cells8 := by
 rw [flat_take ss i hs, flat_drop ss i hs]
 unfold mid
 simp
theorem mid_sns {ss : List Text} (hs : Sns ss) (i : Nat) {x : Text} (hx : x.length = 64) : Sns (mid ss i x) := (Sns.append_ (Sns.take_ hs i) (Sns.one hx)).append_ (Sns.drop_ hs i)
theorem mid_len {ss : List Text} {n i : Nat} (hn : ss.length = n) (x : Text) : (mid ss i x).length = n + 1 := by
 unfold mid
 simp only [List.length_append, List.length_take, List.length_drop, List.length_singleton, hn]
 omega
set_option maxRecDepth 100000 in
set_option maxHeartbeats 2000000 in
theorem ins_end (ss : List Text) (n : Nat) (hn47 : n ≤ 1099511627776) (x : Text) (hx : x.length = 64) (A : Option Addr) (c B gv : Nat) (w : World) (hB : B ≤ w.heap.size) (hO : OwnS w B (.slice A n c) n ss) (hV : Blk w gv 56 (cells8 x).toArray) :
  Calls Tryz.prog 80 #[.slice A n c, .int .i64 (n : Int), .slice (some ⟨gv, 0, none⟩) 1 1] w fun e w' => ∃ v, e = .returned v ∧ OwnS w' B v (n + 1) (mid ss n x) ∧ Below B w w' := by
 obtain ⟨i0, ii, iz0, iz1, iz2⟩ := info_partsN info64
 have hT := run_tailS (A := A) (n := n) (c := c) (k := n) (Nat.le_refl _) (n : Int) rfl
 have hN : Hid (Reads w 64 (some ⟨gv, 0, none⟩) 1 ([x].flatMap cells8)) := Blk.reads hV 0 _ (by rw [List.flatMap_cons, List.flatMap_nil, List.append_nil, cells8_len, hx]) (fun j u hu => by rw [Nat.zero_add, List.getElem?_toArray]; simpa using hu)
 have m1 : Hid (n + 1 ≤ maxLen) := by show _ ≤ _; unfold maxLen; omega
 have m2 : Hid ((n + 1) * 64 ≤ 140737488355328) := by show _ ≤ _; omega
 have hxs : Hid (Sns [x]) := Sns.one hx
 have hO' := Lib.hid hO
 have hB' := Lib.hid hB
 have hm : Hid (mid ss n x = ss ++ [x]) := by
  show _ = _
  unfold mid
  rw [List.take_of_length_le (Nat.le_of_eq hO.2.1), List.drop_of_length_le (Nat.le_of_eq hO.2.1), List.append_nil]
 have hn6 : (n : Int) ≤ 1099511627776 := by omega
 clear hO hV hB hx
 go_enter Tryz.func80, Tryz.ntmps80
 go_wp2_with ((with_reducible change wpList _ _ _ (⟨some 25, _, _, _, _, _⟩ :: _) _ _); refine wpList_append_src _ (o := ⟨some 25, _, _, _, _, _⟩) rfl (.tmp 23) (.tmp 24) 37 rfl B 56 i0 (.agg Z64) 64 64 Tryz.underlying37 ii iz0 iz1 iz2 rfl (by decide) (.slice A n c) n (ss.flatMap cells8) rfl hO'.out.2.2 (some ⟨gv, 0, none⟩) 1 1 ([x].flatMap cells8) rfl hN.out (fun e => by cases e) (one_signs [x]) m1.out m2.out hB'.out ?_; intro v1 w1 hG; have hOB := Lib.hid (grew_signs hG (Below.refl _ _) hB'.out hO'.out hxs.out rfl); clear hG)
 go_ret
 exact ⟨v1, rfl, by rw [hm.out]; exact hOB.out.1, hOB.out.2⟩
set_option maxRecDepth 100000 in
set_option maxHeartbeats 4000000 in
theorem ins_shift (ss : List Text) (n i : Nat) (hn47 : n ≤ 1099511627776) (hi : i < n) (x : Text) (hx : x.length = 64) (g c B gv : Nat) (hroom : n + 1 ≤ c) (w : World) (hO : OwnS w B (.slice (some ⟨g, 0, none⟩) n c) n ss) (hV : Blk w gv 56 (cells8 x).toArray) (hne : gv ≠ g) (hB : B ≤ w.heap.size) :
  Calls Tryz.prog 80 #[.slice (some ⟨g, 0, none⟩) n c, .int .i64 (i : Int), .slice (some ⟨gv, 0, none⟩) 1 1] w fun e w' => ∃ v, e = .returned v ∧ OwnS w' B v (n + 1) (mid ss i x) ∧ Below B w w' := by
 obtain ⟨hs, hl, hFl, hown⟩ := hO
 rcases hown with ⟨h2, -⟩ | ⟨g2, c2, cur, h2, hBg, hg, hnc, hcm, hcs, htk⟩
 ·cases h2
 injection h2 with h3 _ h4
 injection h3 with h3
 injection h3 with h3
 subst h3 h4
 have hG : Hid (Blk w g 56 cur) := hg
 have hV' := Lib.hid hV
 have hcl : cur.toList.length = c * 64 := by rw [Array.length_toList, hcs]
 have hL : (n + 1) * 64 ≤ cur.toList.length := by rw [hcl]; exact Nat.mul_le_mul_right 64 hroom
 obtain ⟨D, hD⟩ : ∃ D, D = (ss.flatMap cells8).drop (i * 64) := ⟨_, rfl⟩
 obtain ⟨f1, f2, f3⟩ := mid_cells (X := cells8 x) hi hFl htk hL (by rw [cells8_len, hx]) hD
 rw [mid_flat hs i x] at f1
 have hDl : D.length = (n - i) * 64 := by rw [hD, List.length_drop, hFl, Nat.sub_mul]
 have hni : (n - i) * 64 = n * 64 - i * 64 := Nat.sub_mul _ _ _
 have hD1 : Hid (∀ v ∈ D, v.oneCell' = true) := fun v hv => one_signs ss v (by rw [hD] at hv; exact List.mem_of_mem_drop hv)
 have hDc : Hid (∀ k, ∀ j u, D[j]? = some u → (w.drewN k).cell? ((⟨g, i * 64, none⟩ : Addr).add j) = some u) := fun k j u hu => by
  rw [add_at]
  show w.cell? ⟨g, i * 64 + j, none⟩ = some u
  rw [hG.out.cell (i * 64 + j)]
  rw [hD, List.getElem?_drop, ← htk, List.getElem?_take] at hu
  rw [← Array.getElem?_toList]
  split at hu
  ·exact hu
  ·cases hu
 have hov : ∀ lb cb, (callFunc 112 #[.slice (some ⟨gv, 0, none⟩) 1 1, .slice (some ⟨g, (i + 1) * 64, none⟩) lb cb]).run Tryz.prog w = .ok (.value (.bool false)) w := fun lb cb => by
  rw [run_callFunc_extern Tryz.func112 (by kernel_rfl) (by kernel_rfl) (by kernel_rfl) (e := Extern.SlicesOverlaps.overlaps #[37, 37] #[4]) (by kernel_rfl),
   Lib.run_overlaps_apart w 37 4 56 Tryz.underlying37 64 (fun _ => rfl) ⟨gv, 0, none⟩ ⟨g, (i + 1) * 64, none⟩ 1 1 lb cb hne 56 56 (cells8 x).toArray.size cur.size (shape_blk hV) (shape_blk hg) (by rw [hcs]; omega) (hV.frozen 0) (hV.frozen _)]
  rfl
 have T1 := run_tailP (g := g) (n := n) (c := c) (k := i) (by omega) (by omega) (i : Int) rfl
 have T2 := run_headS (A := some ⟨g, 0, none⟩) (n := n) (c := c) (k := n + 1) hroom ((n : Int) + 1) (by omega)
 have T3 := run_tailP (g := g) (n := n + 1) (c := c) (k := i + 1) (by omega) (by omega) ((i : Int) + 1) (by omega)
 rw [show n + 1 - (i + 1) = n - i by omega] at T3
 have T4 := run_tailP (g := g) (n := n + 1) (c := c) (k := i) (by omega) (by omega) (i : Int) rfl
 have T3' := Lib.hid T3
 have T4' := Lib.hid T4
 have w1 : IntKind.i64.wrap ((n : Int) + 1) = (n : Int) + 1 := IntWalk.i64_in _ (by omega)
 have w2 : IntKind.i64.wrap ((i : Int) + 1) = (i : Int) + 1 := IntWalk.i64_in _ (by omega)
 have z1 : ((i : Int) == (n : Int)) = false := by simp; omega
 have z2 : ((c : Int) < (n : Int) + 1) = False := eq_false (by omega)
 have d1 : Hid (D.length = Nat.min (n + 1 - i) (n - i) * 64) := by show _ = min (n + 1 - i) (n - i) * 64; rw [hDl, Nat.min_eq_right (by omega)]
 have d2 : Hid ((i + 1) * 64 + D.length ≤ cur.size) := by show _ ≤ _; rw [hDl, ← Array.length_toList, hcl]; omega
 obtain ⟨L1, hL1⟩ : ∃ L1, L1 = cur.toList.take ((i + 1) * 64) ++ D ++ cur.toList.drop ((i + 1) * 64 + D.length) := ⟨_, rfl⟩
 have f1' : (L1.take (i * 64) ++ cells8 x ++ L1.drop (i * 64 + (cells8 x).length)).take ((n + 1) * 64) = (mid ss i x).flatMap cells8 := by rw [hL1]; exact f1
 have f2' : L1.length = cur.toList.length := by rw [hL1]; exact f2
 have f3' : (L1.take (i * 64) ++ cells8 x ++ L1.drop (i * 64 + (cells8 x).length)).length = cur.toList.length := by rw [hL1]; exact f3
 have hL1' := Lib.hid hL1.symm
 have e1 : Hid ((cells8 x).length = Nat.min 1 (n + 1 - i) * 64) := by show _ = min 1 (n + 1 - i) * 64; rw [cells8_len, hx, Nat.min_eq_left (by omega)]
 have e2 : Hid (i * 64 + (cells8 x).length ≤ L1.toArray.size) := by show _ ≤ _; rw [List.size_toArray, f2', cells8_len, hx, hcl]; omega
 have hres : Hid (∀ w', Blk w' g 56 (L1.toArray.toList.take (i * 64) ++ cells8 x ++ L1.toArray.toList.drop (i * 64 + (cells8 x).length)).toArray → OwnS w' B (.slice (some ⟨g, 0, none⟩) (n + 1) c) (n + 1) (mid ss i x)) := fun w' hb => by
  refine ⟨mid_sns hs i hx, mid_len hl x, by rw [flat_len _ (mid_sns hs i hx), mid_len hl x], .inr ⟨g, c, _, rfl, hBg, hb, hroom, hcm, ?_, ?_⟩⟩
  ·show (L1.take (i * 64) ++ cells8 x ++ L1.drop (i * 64 + (cells8 x).length)).length = c * 64
   rw [f3', hcl]
  ·exact f1'
 have hBg' := Lib.hid hBg
 have hB' := Lib.hid hB
 have hn6 : (n : Int) ≤ 1099511627776 := by omega
 have hi6 : (i : Int) < (n : Int) := by omega
 have hne' := Lib.hid hne
 clear hs hl hFl hg hnc hcm hcs htk hV hcl hL hD f1 f2 f3 hDl hni f1' f2' f3' hL1 hBg hB hne hx hroom hi hn47
 go_enter Tryz.func80, Tryz.ntmps80
 go_wp2_with (simp only [hov])
 refine wp_region_class_tail 8 (fun w' => ∃ m, w' = w.drewN m) (by kernel_rfl) (by kernel_rfl) (⟨1, rfl⟩) ?_
 refine wpQuiet_move rfl (.tmp 0) rfl ?_
 (intro K k; go_simp; apply k; clear k K)
 refine wpQuiet_move rfl (.tmp 1) rfl ?_
 (intro K k; go_simp; apply k; clear k K)
 refine wpQuiet_val (v := .int .i64 1) rfl (fun w' hw' => by go_simp) ?_
 (intro K k; go_simp; apply k; clear k K)
 refine wpQuiet_val (v := .int .i64 ((i : Int) + 1)) rfl (fun w' hw' => by go_simp) ?_
 (intro K k; go_simp; apply k; clear k K)
 refine wpQuiet_val (v := .slice (some ⟨g, (i + 1) * 64, none⟩) (n - i) (c - (i + 1))) rfl (fun w' hw' => by have := T3'.out w'; go_simp) ?_
 (intro K k; go_simp; apply k; clear k K)
 refine wpQuiet_move rfl (.tmp 0) rfl ?_
 (intro K k; go_simp; apply k; clear k K)
 refine wpQuiet_move rfl (.tmp 1) rfl ?_
 (intro K k; go_simp; apply k; clear k K)
 refine wpQuiet_val (v := .slice (some ⟨g, i * 64, none⟩) (n + 1 - i) (c - i)) rfl (fun w' hw' => by have := T4'.out w'; go_simp) ?_
 (intro K k; go_simp; apply k; clear k K)
 refine wpQuiet_nil ?_
 intro w_ hw'
 obtain ⟨n5, rfl⟩ := hw'
 simp only [List.drop]
 have K5 : Hid (Kept (· = g) w (w.drewN n5)) := (Kept.refl _ w).drewN n5
 have G5 : Hid (Blk (w.drewN n5) g 56 cur) := hG.out.drewN n5
 have V5 : Hid (Blk (w.drewN n5) gv 56 (cells8 x).toArray) := hV'.out.drewN n5
 have D5 := Lib.hid (hDc.out n5)
 clear hG hV' hDc
 generalize w.drewN n5 = w5 at *
 go_wp2_with (first
  | ((with_reducible change wpList _ _ _ (⟨some 77, _, _, _, _, _⟩ :: _) _ _); refine wpList_copy_at (o := ⟨some 77, _, _, _, _, _⟩) rfl (.tmp 73) (.tmp 76) 37 37 rfl 56 64 Tryz.underlying37 size64i ⟨g, i * 64, none⟩ (n - i) (c - (i + 1)) (n + 1 - i) (c - i) g ((i + 1) * 64) rfl rfl cur 56 G5.out D d1.out D5.out d2.out hD1.out ?_; rw [hL1'.out]; intro w6 hb6 hk6; have G6 := hb6; have V6 : Hid (Blk w6 gv 56 (cells8 x).toArray) := V5.out.kept hk6 hne'.out; have K6 : Hid (Kept (· = g) w w6) := K5.out.trans hk6 (fun _ _ h => h); have X6 : Hid (∀ j u, (cells8 x)[j]? = some u → w6.cell? ((⟨gv, 0, none⟩ : Addr).add j) = some u) := (fun j u hu => by rw [add_at, V6.out.cell (0 + j), Nat.zero_add, List.getElem?_toArray]; exact hu); clear hb6 hk6 G5 V5 K5 D5)
  | ((with_reducible change wpList _ _ _ (⟨some 82, _, _, _, _, _⟩ :: _) _ _); refine wpList_copy_at (o := ⟨some 82, _, _, _, _, _⟩) rfl (.tmp 80) (.tmp 81) 37 37 rfl 56 64 Tryz.underlying37 size64i ⟨gv, 0, none⟩ (n + 1 - i) (c - i) 1 1 g (i * 64) rfl rfl L1.toArray 56 G6.out (cells8 x) e1.out X6.out e2.out (cells8_one _) ?_; intro w7 hb7 hk7; have O7 := Lib.hid (hres.out w7 hb7.out); have K7 : Hid (Kept (· = g) w w7) := K6.out.trans hk7 (fun _ _ h => h); clear hb7 hk7 G6 V6 K6 X6))
 go_ret
 exact ⟨_, rfl, O7.out, Kept.below_of K7.out hBg'.out hB'.out⟩
theorem grown_room {w : World} {n c : Nat} (hn47 : n ≤ 1099511627776) (e : TypeId) : n + 1 ≤ grownCap w (n + 1) c e ∧ grownCap w (n + 1) c e ≤ maxLen := ⟨grownCap_ge w _ _ _, grownCap_le_maxLen w _ _ _ (by unfold maxLen; omega)⟩
set_option maxRecDepth 100000 in
set_option maxHeartbeats 4000000 in
theorem ins_grow (ss : List Text) (n i : Nat) (hn47 : n ≤ 1099511627776) (hi : i < n) (x : Text) (hx : x.length = 64) (g B gv : Nat) (w : World) (hO : OwnS w B (.slice (some ⟨g, 0, none⟩) n n) n ss) (hV : Blk w gv 56 (cells8 x).toArray) (hB : B ≤ w.heap.size) :
  Calls Tryz.prog 80 #[.slice (some ⟨g, 0, none⟩) n n, .int .i64 (i : Int), .slice (some ⟨gv, 0, none⟩) 1 1] w fun e w' => ∃ v, e = .returned v ∧ OwnS w' B v (n + 1) (mid ss i x) ∧ Below B w w' := by
 obtain ⟨i0, ii, iz0, iz1, iz2⟩ := info_partsN info64
 obtain ⟨hs, hl, hFl, hown⟩ := hO
 rcases hown with ⟨h2, -⟩ | ⟨g2, c2, cur, h2, hBg, hg, hnc, hcm, hcs, htk⟩
 ·cases h2
 injection h2 with h3 _ h4
 injection h3 with h3
 injection h3 with h3
 subst h3 h4
 have hG : Hid (Blk w g 56 cur) := hg
 have hV' := Lib.hid hV
 have hcell : ∀ j u, (ss.flatMap cells8)[j]? = some u → w.cell? ⟨g, j, none⟩ = some u := fun j u hu => by
  rw [hG.out.cell j, ← Array.getElem?_toList]
  rw [← htk, List.getElem?_take] at hu
  split at hu
  ·exact hu
  ·cases hu
 obtain ⟨C, hC⟩ : ∃ C, grownCap w (n + 1) n 56 = C := ⟨_, rfl⟩
 obtain ⟨hC1, hC2⟩ := grown_room (w := w) (n := n) (c := n) hn47 56
 rw [hC] at hC1 hC2
 obtain ⟨Z, hZ⟩ : ∃ Z, Z = ((ss.take i).flatMap cells8).toArray ++ Builtin.zeroCells (Value.agg Z64).cells (n + 1 - i) ++ Builtin.zeroCells (Value.agg Z64).cells (C - (n + 1)) := ⟨_, rfl⟩
 have hzc : ∀ k, (Builtin.zeroCells (Value.agg Z64).cells k).size = k * 64 := fun k => by unfold Builtin.zeroCells; simp; rfl
 have hti : ((ss.take i).flatMap cells8).length = i * 64 := by rw [flat_len _ (Sns.take_ hs i), List.length_take, hl]; congr 1; omega
 have hZl : Z.toList.length = C * 64 := by
  rw [Array.length_toList, hZ, Array.size_append, Array.size_append, hzc, hzc, List.size_toArray, hti, ← Nat.add_mul, ← Nat.add_mul]
  congr 1
  omega
 have hZt : Z.toList.take (i * 64) = (ss.flatMap cells8).take (i * 64) := by
  rw [hZ, Array.toList_append, Array.toList_append, List.append_assoc, List.toList_toArray, List.take_left' hti, flat_take ss i hs]
 have hap : ∀ ty, (Builtin.append_ #[37, 3] ty #[.slice (some ⟨g, 0, none⟩) i n, .int .i64 ((n : Int) + 1 - (i : Int))]).run Tryz.prog w = .ok (.slice (some ⟨w.heap.size, 0, none⟩) (n + 1) C) (w.drew.alloc (.cells Z 56)) := fun ty => by
  have hold : (Builtin.firstCells i0.size i (.slice (some ⟨g, 0, none⟩) i n)).run Tryz.prog w.drew = .ok ((ss.take i).flatMap cells8).toArray w.drew := by
   rw [iz1]
   exact run_firstCells_some w.drew 64 i ⟨g, 0, none⟩ i n ((ss.take i).flatMap cells8) hti (fun j u hj => by
    rw [add_at, Nat.zero_add]
    refine hcell j u ?_
    rw [← flat_take ss i hs, List.getElem?_take] at hj
    split at hj
    ·exact hj
    ·cases hj)
  have h := Lib.run_append_grow_zeros w 37 3 ty 56 i0 _ .i64 .i64 Tryz.underlying37 Tryz.underlying3 ii iz0 (some ⟨g, 0, none⟩) i n ((ss.take i).flatMap cells8) hold (n + 1 - i) (by omega) (by rw [iz1]; omega) (by omega) (by omega) (by rw [iz2]; omega) (by rw [iz2, show i + (n + 1 - i) = n + 1 by omega]; exact growslice_fits (by omega) (by omega))
  rw [show i + (n + 1 - i) = n + 1 by omega, hC, ← hZ] at h
  rw [show ((n : Int) + 1 - (i : Int)) = ((n + 1 - i : Nat) : Int) by omega]
  exact h
 obtain ⟨D, hD⟩ : ∃ D, D = (ss.flatMap cells8).drop (i * 64) := ⟨_, rfl⟩
 have hL : (n + 1) * 64 ≤ Z.toList.length := by rw [hZl]; exact Nat.mul_le_mul_right 64 hC1
 obtain ⟨f1, f2, f3⟩ := mid_cells2 (X := cells8 x) hi hFl hZt hL (by rw [cells8_len, hx]) hD
 rw [mid_flat hs i x] at f1
 have hDl : D.length = (n - i) * 64 := by rw [hD, List.length_drop, hFl, Nat.sub_mul]
 have hni : (n - i) * 64 = n * 64 - i * 64 := Nat.sub_mul _ _ _
 have hD1 : Hid (∀ v ∈ D, v.oneCell' = true) := fun v hv => one_signs ss v (by rw [hD] at hv; exact List.mem_of_mem_drop hv)
 have hDc : Hid (∀ w', Below w.heap.size w w' → ∀ j u, D[j]? = some u → w'.cell? ((⟨g, i * 64, none⟩ : Addr).add j) = some u) := fun w' hb j u hu => by
  rw [add_at, hb.cell (p := ⟨g, i * 64 + j, none⟩) hG.out.lt]
  refine hcell _ u ?_
  rw [hD, List.getElem?_drop] at hu
  exact hu
 obtain ⟨w1, hw1⟩ : ∃ w1, w1 = w.drew.alloc (.cells Z 56) := ⟨_, rfl⟩
 rw [← hw1] at hap
 have G1 : Hid (Blk w1 w.heap.size 56 Z) := by show Blk _ _ _ _; rw [hw1]; exact Blk.new w.drew _ _
 have b1 : Hid (Below w.heap.size w w1) := by show Below _ _ _; rw [hw1]; exact ((Below.refl _ w).drew).alloc (Nat.le_refl _) _
 have X1 : Hid (∀ j u, (cells8 x)[j]? = some u → w1.cell? ((⟨gv, 0, none⟩ : Addr).add j) = some u) := fun j u hu => by
  rw [add_at, b1.out.cell (p := ⟨gv, 0 + j, none⟩) hV'.out.lt, hV'.out.cell (0 + j), Nat.zero_add, List.getElem?_toArray]
  exact hu
 have T2 := run_headS (A := some ⟨g, 0, none⟩) (n := n) (c := n) (k := i) (by omega) (i : Int) rfl
 have T3 := run_tailP (g := w.heap.size) (n := n + 1) (c := C) (k := i) (by omega) (by omega) (i : Int) rfl
 have T4 := run_tailP (g := w.heap.size) (n := n + 1) (c := C) (k := i + 1) (by omega) (by omega) ((i : Int) + 1) (by omega)
 rw [show n + 1 - (i + 1) = n - i by omega] at T4
 have T5 := run_tailP (g := g) (n := n) (c := n) (k := i) (by omega) (by omega) (i : Int) rfl
 have T4' := Lib.hid T4
 have T5' := Lib.hid T5
 have v1 : IntKind.i64.wrap ((n : Int) + 1) = (n : Int) + 1 := IntWalk.i64_in _ (by omega)
 have v2 : IntKind.i64.wrap ((i : Int) + 1) = (i : Int) + 1 := IntWalk.i64_in _ (by omega)
 have v3 : IntKind.i64.wrap ((n : Int) + 1 - (i : Int)) = (n : Int) + 1 - (i : Int) := IntWalk.i64_in _ (by omega)
 have z1 : ((i : Int) == (n : Int)) = false := by simp; omega
 obtain ⟨L1, hL1⟩ : ∃ L1, L1 = Z.toList.take (i * 64) ++ cells8 x ++ Z.toList.drop (i * 64 + (cells8 x).length) := ⟨_, rfl⟩
 have f1' : (L1.take ((i + 1) * 64) ++ D ++ L1.drop ((i + 1) * 64 + D.length)).take ((n + 1) * 64) = (mid ss i x).flatMap cells8 := by rw [hL1]; exact f1
 have f2' : L1.length = Z.toList.length := by rw [hL1]; exact f2
 have f3' : (L1.take ((i + 1) * 64) ++ D ++ L1.drop ((i + 1) * 64 + D.length)).length = Z.toList.length := by rw [hL1]; exact f3
 have hL1' := Lib.hid hL1.symm
 have e1 : Hid ((cells8 x).length = Nat.min 1 (n + 1 - i) * 64) := by show _ = min 1 (n + 1 - i) * 64; rw [cells8_len, hx, Nat.min_eq_left (by omega)]
 have e2 : Hid (i * 64 + (cells8 x).length ≤ Z.size) := by show _ ≤ _; rw [← Array.length_toList, hZl, cells8_len, hx]; omega
 have d1 : Hid (D.length = Nat.min (n - i) (n - i) * 64) := by show _ = min (n - i) (n - i) * 64; rw [hDl, Nat.min_self]
 have d2 : Hid ((i + 1) * 64 + D.length ≤ L1.toArray.size) := by show _ ≤ _; rw [List.size_toArray, f2', hDl, hZl]; omega
 have hres : Hid (∀ w', Blk w' w.heap.size 56 (L1.toArray.toList.take ((i + 1) * 64) ++ D ++ L1.toArray.toList.drop ((i + 1) * 64 + D.length)).toArray → OwnS w' B (.slice (some ⟨w.heap.size, 0, none⟩) (n + 1) C) (n + 1) (mid ss i x)) := fun w' hb => by
  refine ⟨mid_sns hs i hx, mid_len hl x, by rw [flat_len _ (mid_sns hs i hx), mid_len hl x], .inr ⟨w.heap.size, C, _, rfl, hB, hb, hC1, hC2, ?_, ?_⟩⟩
  ·show (L1.take ((i + 1) * 64) ++ D ++ L1.drop ((i + 1) * 64 + D.length)).length = C * 64
   rw [f3', hZl]
  ·exact f1'
 have hB' := Lib.hid hB
 have hn6 : (n : Int) ≤ 1099511627776 := by omega
 have hi6 : (i : Int) < (n : Int) := by omega
 clear hs hl hFl hg hnc hcm hcs htk hV hcell hC hC1 hC2 hZ hzc hti hZl hZt hL hD f1 f2 f3 hDl hni f1' f2' f3' hL1 hB hx hn47 hi hw1 hBg
 go_enter Tryz.func80, Tryz.ntmps80
 go_wp2_with (first
  | ((with_reducible change wpList _ _ _ (⟨some 40, _, _, _, _, _⟩ :: _) _ _); refine wpList_append_eq (o := ⟨some 40, _, _, _, _, _⟩) rfl (.tmp 34) (.tmp 39) 37 3 rfl _ _ rfl rfl (hap _) ?_)
  | ((with_reducible change wpList _ _ _ (⟨some 45, _, _, _, _, _⟩ :: _) _ _); refine wpList_copy_at (o := ⟨some 45, _, _, _, _, _⟩) rfl (.tmp 43) (.tmp 44) 37 37 rfl 56 64 Tryz.underlying37 size64i ⟨gv, 0, none⟩ (n + 1 - i) (C - i) 1 1 w.heap.size (i * 64) rfl rfl Z 56 G1.out (cells8 x) e1.out X1.out e2.out (cells8_one _) ?_; rw [hL1'.out]; intro w2 hb2 hk2; have G2 := hb2; have b2 : Hid (Below w.heap.size w w2) := b1.out.trans (Kept.below_of hk2 (Nat.le_refl _) b1.out.size); clear hb2 hk2 G1 b1 X1))
 refine wp_region_class_tail 8 (fun w' => ∃ m, w' = w2.drewN m) (by kernel_rfl) (by kernel_rfl) (⟨1, rfl⟩) ?_
 refine wpQuiet_move rfl (.tmp 9) rfl ?_
 (intro K k; go_simp; apply k; clear k K)
 refine wpQuiet_move rfl (.tmp 1) rfl ?_
 (intro K k; go_simp; apply k; clear k K)
 refine wpQuiet_val (v := .int .i64 1) rfl (fun w' hw' => by go_simp) ?_
 (intro K k; go_simp; apply k; clear k K)
 refine wpQuiet_val (v := .int .i64 ((i : Int) + 1)) rfl (fun w' hw' => by go_simp) ?_
 (intro K k; go_simp; apply k; clear k K)
 refine wpQuiet_val (v := .slice (some ⟨w.heap.size, (i + 1) * 64, none⟩) (n - i) (C - (i + 1))) rfl (fun w' hw' => by have := T4'.out w'; go_simp) ?_
 (intro K k; go_simp; apply k; clear k K)
 refine wpQuiet_move rfl (.tmp 0) rfl ?_
 (intro K k; go_simp; apply k; clear k K)
 refine wpQuiet_move rfl (.tmp 1) rfl ?_
 (intro K k; go_simp; apply k; clear k K)
 refine wpQuiet_val (v := .slice (some ⟨g, i * 64, none⟩) (n - i) (n - i)) rfl (fun w' hw' => by have := T5'.out w'; go_simp) ?_
 (intro K k; go_simp; apply k; clear k K)
 refine wpQuiet_nil ?_
 intro w_ hw'
 obtain ⟨n5, rfl⟩ := hw'
 simp only [List.drop]
 have G5 : Hid (Blk (w2.drewN n5) w.heap.size 56 L1.toArray) := G2.out.drewN n5
 have b5 : Hid (Below w.heap.size w (w2.drewN n5)) := below_drawn b2.out n5
 have D5 := Lib.hid (hDc.out _ b5.out)
 clear G2 b2 hDc
 generalize w2.drewN n5 = w5 at *
 go_wp2_with ((with_reducible change wpList _ _ _ (⟨some 54, _, _, _, _, _⟩ :: _) _ _); refine wpList_copy_at (o := ⟨some 54, _, _, _, _, _⟩) rfl (.tmp 50) (.tmp 53) 37 37 rfl 56 64 Tryz.underlying37 size64i ⟨g, i * 64, none⟩ (n - i) (C - (i + 1)) (n - i) (n - i) w.heap.size ((i + 1) * 64) rfl rfl L1.toArray 56 G5.out D d1.out D5.out d2.out hD1.out ?_; intro w7 hb7 hk7; have O7 := Lib.hid (hres.out w7 hb7.out); have b7 : Hid (Below w.heap.size w w7) := b5.out.trans (Kept.below_of hk7 (Nat.le_refl _) b5.out.size); clear hb7 hk7 G5 b5 D5)
 go_ret
 exact ⟨_, rfl, O7.out, b7.out.mono hB'.out⟩
theorem insert_any (ss : List Text) (n i : Nat) (hn47 : n ≤ 1099511627776) (hi : i ≤ n) (x : Text) (hx : x.length = 64) (A : Option Addr) (c B gv : Nat) (w : World) (hO : OwnS w B (.slice A n c) n ss) (hV : Blk w gv 56 (cells8 x).toArray) (hne : A ≠ some ⟨gv, 0, none⟩) (hB : B ≤ w.heap.size) :
  Calls Tryz.prog 80 #[.slice A n c, .int .i64 (i : Int), .slice (some ⟨gv, 0, none⟩) 1 1] w fun e w' => ∃ v, e = .returned v ∧ OwnS w' B v (n + 1) (mid ss i x) ∧ Below B w w' := by
 by_cases hin : i = n
 ·subst hin
  exact ins_end ss i hn47 x hx A c B gv w hB hO hV
 ·obtain ⟨g, rfl⟩ := own_some hO (by omega)
  obtain ⟨A9, c2, e, hnc, -⟩ := OwnS.reads hO
  injection e with _ _ e
  subst e
  by_cases hr : n + 1 ≤ c
  ·exact ins_shift ss n i hn47 (by omega) x hx g c B gv hr w hO hV (fun e => hne (by rw [e])) hB
  ·obtain rfl : c = n := by omega
   exact ins_grow ss c i hn47 (by omega) x hx g B gv w hO hV hB
end Go.Proofs.YtfbhjoejffagjaaGreatDoor.Insert
