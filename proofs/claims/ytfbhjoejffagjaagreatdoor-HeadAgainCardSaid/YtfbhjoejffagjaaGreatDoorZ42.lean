/-
  Texts of the claim, put into one file: RingS, Find.
-/
import Derived.Test.YtfbhjoejffagjaaGreatDoorZ37
import Derived.Test.YtfbhjoejffagjaaGreatDoorZ41
import Derived.Test.YtfbhjoejffagjaaGreatDoorShelfH
import Derived.Test.YtfbhjoejffagjaaGreatDoorZ18
import Derived.Test.YtfbhjoejffagjaaGreatDoorZ10

namespace Go.Proofs.YtfbhjoejffagjaaGreatDoor.RingS
open Go Go.RowKit Go.Proofs.YtfbhjoejffagjaaGreatDoor Mem Sha Bytes SortP Compare Grown Want Go.Proofs.YtfbhjoejffagjaaGreatDoor.Append Own HeadID Fill RingM BinH

def KeyRow (w : World) (B : Nat) (x : KD) : Prop := w.ownsRow B 5 1 (.slice x.A x.q.length x.c) x.q.length (cells8 x.q)
theorem KeyRow.below {w w' : World} {B : Nat} {x : KD} (h : KeyRow w B x) (hb : Below w.heap.size w w') : KeyRow w' B x := own_below h hb
theorem KeyRow.kept {S : Nat → Prop} {w w' : World} {B : Nat} {x : KD} (h : KeyRow w B x) (hk : Kept S w w') (hS : ∀ k (cur : Array Value), S k → B ≤ k → ¬ Blk w k 5 cur) : KeyRow w' B x := by
 obtain ⟨h1, h2⟩ := h
 refine ⟨h1, ?_⟩
 rcases h2 with h | ⟨g, c, cur, hv, hBg, hg, rest⟩
 ·exact .inl h
 ·exact .inr ⟨g, c, cur, hv, hBg, Blk.kept hg hk (fun s => hS g cur s hBg hg), rest⟩
theorem KeyRow.reads {w : World} {B : Nat} {x : KD} (h : KeyRow w B x) : Reads w 1 x.A x.q.length (cells8 x.q) ∧ x.q.length ≤ x.c ∧ (x.A = none → x.q.length = 0 ∧ x.c = 0) := by
 obtain ⟨A, c, e, h1, -, h2, h3, -⟩ := Own.reads (show w.ownsRow _ _ _ _ _ _ from h)
 injection e with e1 _ e2
 rw [e1, e2]
 exact ⟨h3, h1, h2⟩
theorem _root_.Go.Proofs.YtfbhjoejffagjaaGreatDoor.RingM.OwnK.blk {w : World} {B n c g : Nat} {l : List KD} (h : OwnK w B (.slice (some ⟨g, 0, none⟩) n c) n l) : ∃ cur, Blk w g 69 cur := by
 rcases h.2.2 with ⟨h3, -⟩ | ⟨g2, c2, cur, h3, -, hg, -⟩
 ·injection h3 with h3; cases h3
 ·injection h3 with h3
  injection h3 with h3
  injection h3 with h3
  subst h3
  exact ⟨cur, hg⟩
theorem blk_no {w : World} {g : Nat} {cs ds : Array Value} (h : Blk w g 69 cs) (k : Blk w g 5 ds) : False := by
 have e : some (Obj.cells cs 69 (0, 0)) = some (Obj.cells ds 5 (0, 0)) := h.symm.trans k
 simp at e
theorem _root_.Go.Proofs.YtfbhjoejffagjaaGreatDoor.RingM.OwnK.off {S : Nat → Prop} {w w' : World} {B n : Nat} {v : Value} {l : List KD} (h : OwnK w B v n l) (hk : Kept S w w') (hS : ∀ k, S k → k < B) : OwnK w' B v n l := by
 obtain ⟨h2, hFl, hown⟩ := h
 refine ⟨h2, hFl, ?_⟩
 rcases hown with h | ⟨g, c, cur, hv, hBg, hg, hnc, hcm, hcs, htk⟩
 ·exact .inl h
 ·exact .inr ⟨g, c, cur, hv, hBg, Blk.kept hg hk (fun x => by have := hS g x; omega), hnc, hcm, hcs, htk⟩
theorem _root_.Go.Proofs.YtfbhjoejffagjaaGreatDoor.RingM.OwnK.reads {w : World} {B n : Nat} {v : Value} {l : List KD} (h : OwnK w B v n l) : ∃ A c, v = .slice A n c ∧ n ≤ c ∧ c ≤ maxLen ∧ (A = none → n = 0 ∧ c = 0) ∧ Kds w A n l ∧ ∀ a, A = some a → B ≤ a.block := by
 obtain ⟨A, c, e, h1, h2, h3, h4, h5⟩ := Own.reads h.2
 exact ⟨A, c, e, h1, h2, h3, ⟨h.1, h4⟩, fun a e => (h5 a e).1⟩
theorem grew_keys {w w' : World} {B n : Nat} {v v' : Value} {l : List KD} {x : KD} (h : Grew w B 69 33 v n 1 (l.flatMap encK) (encK x) v' w') (hl : l.length = n) : OwnK w' B v' (n + 1) (l ++ [x]) := by
 refine ⟨by rw [List.length_append, hl]; rfl, ?_⟩
 have := h.own
 rwa [List.flatMap_append, show [x].flatMap encK = encK x by simp]
theorem grew_keptK {w w' : World} {base e size n m : Nat} {v v' : Value} {xs news : List Value} (h : Grew w base e size v n m xs news v' w') : Kept (fun k => some k = v.ownBlock) w w' := ⟨h.grow.os, h.grow.tape, h.grow.output, h.grow.size, fun k hk hne => h.grow.block k hk hne⟩
theorem own_atK {w : World} {B n : Nat} {v : Value} {l : List KD} (h : OwnK w B v n l) : ∀ k, v.ownBlock = some k → B ≤ k := fun k hk => by
 rcases h.2.2 with ⟨h2, -⟩ | ⟨g, c, cur, hv, hBg, -⟩
 ·rw [h2] at hk; cases hk
 ·rw [hv] at hk
  have e : some g = some k := hk
  injection e with e
  omega
theorem reads_one (w : World) {cx : List Value} (h : cx.length = 33) : Reads (w.alloc (.cells ([cx].flatten).toArray 69)) 33 (some ⟨w.heap.size, 0, none⟩) 1 cx := by
 have hb : Blk (w.alloc (.cells ([cx].flatten).toArray 69)) w.heap.size 69 ([cx].flatten).toArray := Blk.new _ _ _
 refine ⟨by rw [h], fun _ => ⟨w.heap.size, 0, rfl, by simp, fun j u hu => ?_⟩⟩
 rw [hb.cell]
 simpa using hu
theorem size33 : (Tryz.prog.info? 69).map (·.size) = some 33 := by kernel_rfl
theorem zero33 : ((Tryz.prog.info? 69).bind (·.zero)).isSome = true := by kernel_rfl
theorem built_held (parts : List (Nat × Value)) : Tryz.prog.built 69 parts = Instr.fill (#[((0 : Nat), (32 : Nat)), (32, 1)][·]?) (List.replicate 32 (Value.int .u8 0) ++ [Value.slice none 0 0]).toArray parts := by kernel_rfl
theorem run_held (x : Text) (hx : x.length = 32) (A : Option Addr) (n c : Nat) (w : World) : (Instr.build 69 #[(0, .agg (cells8 x).toArray), (1, .slice A n c)]).run Tryz.prog w = .ok (.agg (cells8 x ++ [Value.slice A n c]).toArray) w := by
 refine run_build w _ _ _ ?_
 rw [built_held]
 have e1 := fill_one (place := (#[((0 : Nat), (32 : Nat)), (32, 1)][·]?)) (i := 0) (v := .agg (cells8 x).toArray) (xs := cells8 x) (old := List.replicate 32 (Value.int .u8 0)) (pre := []) (post := [Value.slice none 0 0]) (rest := [(1, .slice A n c)]) rfl rfl (by rw [cells8_len, hx]) rfl (by simp)
 have e2 := fill_one (place := (#[((0 : Nat), (32 : Nat)), (32, 1)][·]?)) (i := 1) (v := Value.slice A n c) (xs := [Value.slice A n c]) (old := [Value.slice none 0 0]) (pre := cells8 x) (post := []) (rest := []) rfl rfl rfl (by rw [cells8_len, hx]) rfl
 simp only [List.nil_append, List.append_nil] at e1 e2
 rw [e1, e2, fill_nil]
theorem kept_sortedK {w : World} {g : Nat} (k : Nat) (d : Array KD) (os : Array Obj) : Kept (· = g) w (sortWorldK encK 33 w g 0 k d os) := by
 refine ⟨rfl, rfl, rfl, ?_, fun i hi hne => ?_⟩
 ·unfold sortWorldK Sort.putRowK Sort.putRow
  rw [Sort.size_grow]
  unfold Sort.mapBlock
  rw [Array.size_modify]
  exact Nat.le_add_right _ _
 ·unfold sortWorldK Sort.putRowK Sort.putRow
  rw [Sort.heap_grow_old _ _ (by unfold Sort.mapBlock; rw [Array.size_modify]; exact hi)]
  unfold Sort.mapBlock
  rw [Array.getElem?_modify, if_neg (fun e => hne e.symm)]
  rfl
set_option maxRecDepth 100000 in
theorem sort_ownK (l : List KD) (n B g c : Nat) (hn47 : n ≤ 2199023255552) (w : World) (h : OwnK w B (.slice (some ⟨g, 0, none⟩) n c) n l) :
  Calls Tryz.prog 25 #[.slice (some ⟨g, 0, none⟩) n c, .func (.func 23) #[] #[]] w fun e w' => e = .returned (.tuple #[]) ∧ ∃ ds : List KD, Hid (ds.Perm l ∧ ds.Pairwise fun a b => lex (idK b) (idK a) = false) ∧ Hid (OwnK w' B (.slice (some ⟨g, 0, none⟩) n c) n ds) ∧ Hid (Kept (· = g) w w') := by
 obtain ⟨cur0, hcur⟩ := h.blk
 have eg : ∀ args w, (callFunc 23 args).run Tryz.prog w = .ok (.enter 23 args) w := enters_of Tryz.func23 (by kernel_rfl) rfl
 have hsz : l.toArray.size = n := by rw [List.size_toArray, h.1]
 have hcon := AnyQ.slices_SortFunc Tryz.sortHeld 33 (fun _ => rfl) (fun _ => rfl) encK encK_len encK_one cfK swoK 23 #[] g 0 c l.toArray w eg (heldCmp_lays g 0 _ w) (holds_ownK h.2) hcur.lt (by rw [hsz]; omega)
 simp only [hsz] at hcon
 change Calls _ 25 _ _ _ at hcon
 refine hcon.mono fun e w' ⟨he, d', k, os, hp, hs, hw⟩ => ?_
 have hp' : Sort.PermIn 0 l.toArray.size l.toArray d' := by rw [hsz]; exact hp
 have hs' : Sort.SortedIn (ltOf cfK) 0 l.toArray.size d' := by rw [hsz]; exact hs
 obtain ⟨h1, h2, h3⟩ := sorted_keys hp' hs'
 refine ⟨he, d'.toList, ⟨h2, h3⟩, ?_, ?_⟩
 ·show OwnK w' _ _ _ _
  rw [hw]
  exact ⟨by rw [h1, hsz], own_sortedK h.2 k d' (by rw [← Array.length_toList, h1, hsz]) os⟩
 ·show Kept _ w w'
  rw [hw]
  exact kept_sortedK k d' os
def RingAt (w : World) (R : Nat) (l : List KD) : Prop := ∃ A c, Blk w R 65 #[.slice A l.length c] ∧ l.length ≤ c ∧ Kds w A l.length l ∧ ∀ x ∈ l, Reads w 1 x.A x.q.length (cells8 x.q) ∧ x.q.length ≤ x.c ∧ (x.A = none → x.q.length = 0 ∧ x.c = 0)
theorem RingAt.below {w w' : World} {R : Nat} {l : List KD} (h : RingAt w R l) (hb : Below w.heap.size w w') : RingAt w' R l := by
 obtain ⟨A, c, h1, h2, h3, h4⟩ := h
 exact ⟨A, c, (hb.block _ h1.lt).trans h1, h2, h3.below hb, fun x hx => ⟨(h4 x hx).1.below hb, (h4 x hx).2⟩⟩
end Go.Proofs.YtfbhjoejffagjaaGreatDoor.RingS

namespace Go.Proofs.YtfbhjoejffagjaaGreatDoor.Find
open Go Go.RowKit Go.Proofs.YtfbhjoejffagjaaGreatDoor Mem Sha Bytes SortP QuietTail Grown Want Go.Proofs.YtfbhjoejffagjaaGreatDoor.Append Own HeadID Held RingM BinH RingS

theorem size32f : (Tryz.prog.info? 34).map (·.size) = some 32 := by kernel_rfl
theorem at_no {l : List KD} {d : Text} {i : Nat} (hs : Strict idK l) (h : AtK l d i false) : ∀ x ∈ l, idK x ≠ d := fun x hx e => by
 have hf : ¬ (l[i]?).map idK = some d := by simpa using h.found.symm
 have hx2 := hx
 rw [← List.take_append_drop i l] at hx2
 rcases List.mem_append.1 hx2 with hx2 | hx2
 ·have := h.low x hx2
  rw [e, lex_irrefl] at this
  cases this
 ·obtain ⟨j, hj, rfl⟩ := List.getElem_of_mem hx2
  rw [List.length_drop] at hj
  rw [List.getElem_drop] at e
  by_cases h0 : j = 0
  ·subst h0
   apply hf
   rw [List.getElem?_eq_getElem (by omega), Option.map_some]
   exact congrArg some e
  ·have h1 : lex (idK (l[i]'(by omega))) (idK l[i + j]) = true := strict_get hs (by omega) (by omega)
   have h2 := h.high (l[i]'(by omega)) (by rw [← List.getElem_cons_drop (by omega)]; exact List.mem_cons_self)
   rw [e, h2] at h1
   cases h1
theorem at_yes {l : List KD} {d : Text} {i : Nat} (h : AtK l d i true) : ∃ x, l[i]? = some x ∧ idK x = d := by
 have hf : (l[i]?).map idK = some d := by simpa using h.found.symm
 cases hx : l[i]? with
 | none => rw [hx] at hf; cases hf
 | some x => rw [hx] at hf; exact ⟨x, rfl, Option.some.inj hf⟩
def FindOut (l : List KD) (d : Text) (w : World) (e : Ending) (w' : World) : Prop := Below w.heap.size w w' ∧ (((∀ x ∈ l, idK x ≠ d) ∧ e = .returned (.slice none 0 0)) ∨ ∃ x ∈ l, idK x = d ∧ e = .returned (.slice x.A x.q.length x.c))
set_option maxRecDepth 100000 in
set_option maxHeartbeats 4000000 in
theorem find_any (l : List KD) (hl64 : l.length ≤ 64) (hst : Strict idK l) (d : Text) (hd : d.length = 32) (R : Nat) (w : World) (hR : RingAt w R l) :
  Calls Tryz.prog 61 #[.pointer (some ⟨R, 0, none⟩), .agg (cells8 d).toArray] w (FindOut l d w) := by
 obtain ⟨w0, hw0⟩ : ∃ w0, Hid (w.alloc (.cells (cells8 d).toArray 34) = w0) := ⟨_, Lib.hid rfl⟩
 have B0 : Hid (Blk w0 w.heap.size 34 (cells8 d).toArray) := by show Blk _ _ _ _; rw [← hw0.out]; exact Blk.new _ _ _
 have hb0 : Hid (Below w.heap.size w w0) := by show Below _ _ _; rw [← hw0.out]; exact Below.heap_below w _
 have hw0' := hw0.out
 obtain ⟨n, hn⟩ : ∃ n, Hid (l.length = n) := ⟨_, Lib.hid rfl⟩
 obtain ⟨A, c, hr1, hr2, hr3, hr4⟩ := hR.below hb0.out
 rw [hn.out] at hr1 hr2 hr3 hl64
 have hRg : Hid (∀ w', Below w0.heap.size w0 w' → w'.cell? ⟨R, 0, none⟩ = some (.slice A n c)) := fun w' hb => ((hb.block _ hr1.lt).trans hr1 |> fun h : Blk w' R 65 #[.slice A n c] => h.cell 0)
 have hKd := Lib.hid hr3
 have hst0 := Lib.hid hst
 have hd0 := Lib.hid hd
 have hl0 := Lib.hid hl64
 have sD : Hid ((Tryz.prog.info? 34).map (·.size) = some (cells8 d).toArray.size) := size32f.trans (congrArg some (by rw [List.size_toArray, cells8_len, hd]))
 clear hw0 hR hr1 hr2 hr3 hr4 hst hd hl64
 go_enter Tryz.func61, Tryz.ntmps61
 go_upto_region 1 with fail
 clear hw0'
 have s0 : Hid (Below w0.heap.size w0 w0.drew) := (Below.refl _ _).drew
 refine held_start (fun w' => Below w0.heap.size w0 w') 11 rfl (by kernel_rfl) ?_
 refine Held.tk0 (i := 0) (v := .pointer (some ⟨R, 0, none⟩)) rfl s0.out (fun w' hw' => run_mv (.tmp 0) rfl w') ?_
 (intro K k; go_simp; apply k; clear k K)
 refine Held.tk0 (i := 1) (v := .pointer (some ⟨R, 0, none⟩)) rfl s0.out (fun w' hw' => by go_simp) ?_
 (intro K k; go_simp; apply k; clear k K)
 refine Held.tk0 (i := 2) (v := .pointer (some ⟨R, 0, none⟩)) rfl s0.out (fun w' hw' => by go_simp) ?_
 (intro K k; go_simp; apply k; clear k K)
 refine Held.tk0 (i := 3) (v := .slice A n c) rfl s0.out (fun w' hw' => by have hc := hRg.out w' hw'; go_simp) ?_
 (intro K k; go_simp; apply k; clear k K)
 refine Held.tk0 (i := 4) (v := .agg ((cells8 d).toArray)) rfl s0.out (fun w' hw' => exec_row 34 (.tmp 3) rfl (w.heap.size) rfl 34 ((cells8 d).toArray) (0, 0) _ (((hw'.block _ B0.out.lt).trans B0.out)) Tryz.underlying34 rfl sD.out) ?_
 (intro K k; go_simp; apply k; clear k K)
 refine held_only (i := 5) rfl (by kernel_rfl) (by rfl) (fun K hK => ?_)
 refine wp_fn (R := fun v w'' => ∃ (i : Nat) (f : Bool), v = .tuple #[.int .i64 (i : Int), .bool f] ∧ AtK l d i f ∧ Below w0.drew.heap.size w0.drew w'') (args := #[.slice A n c, .agg (cells8 d).toArray, .func (.func 103) #[] #[]]) _ _ rfl rfl Tryz.func102 (by kernel_rfl) (by kernel_rfl) ((binK_any l n (by have := hl0.out; omega) hst0.out d hd0.out A c w0.drew (hKd.out.below s0.out)).mono fun e w'' ho => by obtain ⟨i, f, he, ha, hb⟩ := ho; exact ⟨_, he, i, f, rfl, ha, hb⟩) ?_
 rintro qq w5 ⟨i, f, rfl, hAt, kk⟩
 replace hAt := Lib.hid hAt
 have h5 : Hid (Below w0.heap.size w0 w5) := s0.out.trans (kk.mono s0.out.size)
 clear kk
 go_simp
 refine hK _ _ h5.out ?_
 clear hK K
 refine Held.tk0 (i := 6) (v := .tuple #[.int .i64 (i : Int), .bool f]) rfl h5.out (fun w' hw' => run_mv (.tmp 13) rfl w') ?_
 (intro K k; go_simp; apply k; clear k K)
 refine Held.tk0 (i := 7) (v := .int .i64 (i : Int)) rfl h5.out (fun w' hw' => by go_simp) ?_
 (intro K k; go_simp; apply k; clear k K)
 refine Held.tk0 (i := 8) (v := .bool f) rfl h5.out (fun w' hw' => by go_simp) ?_
 (intro K k; go_simp; apply k; clear k K)
 refine Held.tk0 (i := 9) (v := .int .i64 (i : Int)) rfl h5.out (fun w' hw' => by go_simp) ?_
 (intro K k; go_simp; apply k; clear k K)
 refine Held.tk0 (i := 10) (v := .bool f) rfl h5.out (fun w' hw' => by go_simp) ?_
 (intro K k; go_simp; apply k; clear k K)
 refine held_end (by kernel_rfl) ?_
 cases f with
 | false =>
  have hno := Lib.hid (at_no hst0.out hAt.out)
  go_wp2_with fail
  go_ret
  exact ⟨hb0.out.trans (h5.out.mono hb0.out.size), .inl ⟨hno.out, rfl⟩⟩
 | true =>
  obtain ⟨x, hx, hxd⟩ := at_yes hAt.out
  replace hx := Lib.hid hx
  replace hxd := Lib.hid hxd
  have hin : Hid (i < n) := by show _ < _; rw [← hn.out]; exact (List.getElem?_eq_some_iff.1 hx.out).1
  have z1 : (i : Int) < (n : Int) := by have := hin.out; omega
  have z0 : (0 : Int) ≤ (i : Int) := by omega
  have hi6 : (i : Int) ≤ 64 := by have := hin.out; have := hl0.out; omega
  obtain ⟨b, o, hA, hbl, hcx⟩ := (hKd.out.below h5.out).at_ hx.out
  subst hA
  have hck := hcx 32 _ (encK_key x)
  have hrc := hRg.out w5 h5.out
  obtain ⟨kx, hkx⟩ : ∃ kx, Hid (x.q.length = kx) := ⟨_, Lib.hid rfl⟩
  rw [hkx.out] at hck
  have hxm := Lib.hid (List.mem_of_getElem? hx.out)
  clear hcx
  go_wp2_with fail
  go_ret
  exact ⟨hb0.out.trans (h5.out.mono hb0.out.size), .inr ⟨x, hxm.out, hxd.out, by rw [hkx.out]; rfl⟩⟩
end Go.Proofs.YtfbhjoejffagjaaGreatDoor.Find
