/-
  Texts of the claim, put into one file: RingM.
-/
import Derived.Test.YtfbhjoejffagjaaGreatDoorZ21
import Derived.Test.YtfbhjoejffagjaaGreatDoorZ28
import Derived.Test.YtfbhjoejffagjaaGreatDoorZ8

namespace Go.Proofs.YtfbhjoejffagjaaGreatDoor.RingM
open Go Go.RowKit Go.Proofs.YtfbhjoejffagjaaGreatDoor Mem Sha Bytes SortP Compare Grown Want Go.Proofs.YtfbhjoejffagjaaGreatDoor.Append Own HeadID

structure KD where
 q : Text
 A : Option Addr
 c : Nat
instance kd_some : Inhabited KD := ⟨⟨[], none, 0⟩⟩
def idK (x : KD) : Text := idOf x.q
theorem idK_len (x : KD) : (idK x).length = 32 := idOf_len _
def encK (x : KD) : List Value := cells8 (idK x) ++ [.slice x.A x.q.length x.c]
theorem encK_len (x : KD) : (encK x).length = 33 := by unfold encK; rw [List.length_append, cells8_len, idK_len]; rfl
theorem encK_one (x : KD) : ∀ v ∈ encK x, v.oneCell' = true := fun v hv => by
 rcases List.mem_append.1 hv with hv | hv
 ·exact cells8_one _ v hv
 ·simp only [List.mem_singleton] at hv
  rw [hv]
  rfl
theorem encK_id {x : KD} {j : Nat} {u : Value} (hu : (cells8 (idK x))[j]? = some u) : (encK x)[j]? = some u := by
 unfold encK
 rw [List.getElem?_append_left (List.getElem?_eq_some_iff.1 hu).1]
 exact hu
theorem encK_key (x : KD) : (encK x)[32]? = some (.slice x.A x.q.length x.c) := by
 unfold encK
 rw [List.getElem?_append_right (by rw [cells8_len, idK_len]; exact Nat.le_refl _), cells8_len, idK_len]
 rfl
theorem flatK_len : ∀ (l : List KD), (l.flatMap encK).length = l.length * 33
 | [] => rfl
 | x :: l => by
  rw [List.flatMap_cons, List.length_append, encK_len, flatK_len l, List.length_cons]
  omega
theorem flatK_at : ∀ (l : List KD) (i : Nat) (x : KD) (j : Nat), l[i]? = some x → j < 33 → (l.flatMap encK)[i * 33 + j]? = (encK x)[j]?
 | [], i, x, j, h, _ => by simp at h
 | y :: l, 0, x, j, h, hj => by
  obtain rfl : y = x := by simpa using h
  rw [List.flatMap_cons, Nat.zero_mul, Nat.zero_add, List.getElem?_append_left (by rw [encK_len]; exact hj)]
 | y :: l, i + 1, x, j, h, hj => by
  rw [List.flatMap_cons, List.getElem?_append_right (by rw [encK_len]; omega), encK_len, show (i + 1) * 33 + j - 33 = i * 33 + j by omega]
  exact flatK_at l i x j (by simpa using h) hj
theorem flatK_eq (d : Array KD) : Sort.flatK encK 33 d = (d.toList.flatMap encK).toArray := by
 refine Sort.ext_get! ((Sort.size_flatK encK 33 d).trans (show d.size * 33 = (d.toList.flatMap encK).length by rw [flatK_len, Array.length_toList])) fun t ht => ?_
 rw [Sort.size_flatK] at ht
 rw [Sort.get_flatK _ _ _ _ ht]
 have hi : t / 33 < d.size := by omega
 have h := flatK_at d.toList (t / 33) d[t / 33]! (t % 33) (by rw [Array.getElem?_toList, getElem!_pos d _ hi, Array.getElem?_eq_getElem hi]) (by omega)
 rw [show t / 33 * 33 + t % 33 = t by omega] at h
 have e1 : (encK d[t / 33]!)[t % 33]! = ((encK d[t / 33]!)[t % 33]?).getD default := by
  rw [List.getElem!_eq_getElem?_getD]
 have e2 : ((d.toList.flatMap encK).toArray)[t]! = ((d.toList.flatMap encK)[t]?).getD default := by
  rw [Array.getElem!_eq_getD, Array.getD_eq_getD_getElem?, List.getElem?_toArray]
 rw [e1, e2, h]
def cfK (x y : KD) : Int := cmpT (idK x) (idK y)
theorem lt_eqK (x y : KD) : ltOf cfK x y = lex (idK x) (idK y) := by
 unfold ltOf cfK cmpT
 cases h1 : lex (idK x) (idK y) with
 | true => simp
 | false =>
  cases h2 : lex (idK y) (idK x) with
  | true => simp
  | false => simp
theorem swoK : Sort.SWO (ltOf cfK) where
 irrefl x := by rw [lt_eqK]; exact lex_irrefl _
 trans x y z h1 h2 := by rw [lt_eqK] at *; exact lex_trans _ _ _ h1 h2
 ntrans x y z h1 h2 := by rw [lt_eqK] at *; exact lex_ntrans _ _ _ h1 h2
theorem sorted_keys {d d' : Array KD} (hp : Sort.PermIn 0 d.size d d') (hs : Sort.SortedIn (ltOf cfK) 0 d.size d') : d'.toList.length = d.size ∧ d'.toList.Perm d.toList ∧ d'.toList.Pairwise fun a b => lex (idK b) (idK a) = false := by
 obtain ⟨h1, -, h3⟩ := hp
 refine ⟨by rw [Array.length_toList, h1], ?_, ?_⟩
 ·have e1 : d'.extract 0 d.size = d' := by rw [← h1, Array.extract_size]
  have e2 : d.extract 0 d.size = d := Array.extract_size
  rw [e1, e2] at h3
  exact h3
 ·rw [List.pairwise_iff_getElem]
  intro i j hi hj hij
  rw [Array.length_toList] at hi hj
  have h := hs i j (Nat.zero_le _) hij (by omega)
  rw [lt_eqK, getElem!_pos d' i hi, getElem!_pos d' j hj] at h
  rw [Array.getElem_toList, Array.getElem_toList]
  exact h
theorem heap_sortedK {w : World} {g : Nat} {cur : Array Value} {e : TypeId} (hg : w.heap[g]? = some (.cells cur e (0, 0))) (k : Nat) (d : Array KD) (os : Array Obj) : (sortWorldK encK 33 w g 0 k d os).heap[g]? = some (.cells (Sort.putCells id 0 (Sort.flatK encK 33 d) cur) e (0, 0)) := by
 have hlt : g < w.heap.size := (Array.getElem?_eq_some_iff.1 hg).1
 unfold sortWorldK Sort.putRowK Sort.putRow
 rw [Sort.heap_grow_old _ _ (by unfold Sort.mapBlock; rw [Array.size_modify]; exact hlt)]
 unfold Sort.mapBlock
 rw [Array.getElem?_modify, if_pos rfl]
 show (w.heap[g]?).map _ = _
 rw [hg]
 rfl
theorem own_sortedK {w : World} {B n c g : Nat} {e : TypeId} {l : List KD} (h : w.ownsRow B e 33 (.slice (some ⟨g, 0, none⟩) n c) n (l.flatMap encK)) (k : Nat) (d : Array KD) (hd : d.size = n) (os : Array Obj) :
  (sortWorldK encK 33 w g 0 k d os).ownsRow B e 33 (.slice (some ⟨g, 0, none⟩) n c) n (d.toList.flatMap encK) := by
 refine ⟨by rw [flatK_len, Array.length_toList, hd], ?_⟩
 rcases h.2 with ⟨h2, -⟩ | ⟨g2, c2, cur, h2, hB, hg, hn, hc, hsz, ht⟩
 ·cases h2
 ·injection h2 with h3 _ h4
  injection h3 with h3
  injection h3 with h3
  subst h3 h4
  refine .inr ⟨g, c, _, rfl, hB, heap_sortedK hg k d os, hn, hc, by rw [SortM.putCells_size]; exact hsz, ?_⟩
  have hF : (Sort.flatK encK 33 d).size = n * 33 := by rw [Sort.size_flatK, hd]
  have hle : n * 33 ≤ c * 33 := Nat.mul_le_mul_right 33 hn
  have := SortM.putCells_all (Sort.flatK encK 33 d) cur (by rw [hF, hsz]; exact hle)
  rw [hF] at this
  rw [this, flatK_eq]
theorem holds_ownK {w : World} {B n c g : Nat} {e : TypeId} {l : List KD} (h : w.ownsRow B e 33 (.slice (some ⟨g, 0, none⟩) n c) n (l.flatMap encK)) : Sort.HoldsK encK 33 w g 0 l.toArray := by
 intro j hj
 rw [flatK_eq, List.toList_toArray] at hj ⊢
 rcases h.2 with ⟨h2, -⟩ | ⟨g2, c2, cur, h2, hB, hg, hn, hc, hsz, ht⟩
 ·cases h2
 ·injection h2 with h3 _ h4
  injection h3 with h3
  injection h3 with h3
  subst h3 h4
  have hj' : j < (l.flatMap encK).length := hj
  have hgb : Blk w g e cur := hg
  rw [Nat.zero_add]
  refine ⟨?_, hgb.frozen j⟩
  rw [hgb.cell j]
  have : (l.flatMap encK)[j]? = cur[j]? := by
   rw [← ht, List.getElem?_take, Array.getElem?_toList, if_pos (by have := h.1; omega)]
  rw [← this, getElem!_pos _ j hj, List.getElem?_eq_getElem hj']
  rfl
def OwnK (w : World) (B : Nat) (v : Value) (n : Nat) (l : List KD) : Prop := l.length = n ∧ w.ownsRow B 69 33 v n (l.flatMap encK)
theorem OwnK.nil (w : World) (B : Nat) : OwnK w B (.slice none 0 0) 0 [] := ⟨rfl, World.ownsRow_nil _ _ _ _⟩
theorem OwnK.below {w w' : World} {B n : Nat} {v : Value} {l : List KD} (h : OwnK w B v n l) (hb : Below w.heap.size w w') : OwnK w' B v n l := ⟨h.1, own_below h.2 hb⟩
theorem OwnK.base {w : World} {B B' n : Nat} {v : Value} {l : List KD} (h : OwnK w B v n l) (hB : B' ≤ B) : OwnK w B' v n l := ⟨h.1, ownsRow_base h.2 hB⟩
theorem reads_pre {w : World} {g : Nat} {t : TypeId} {x : Text} {cs : Array Value} (hx : x.length = 32) (hc : ∀ (j : Nat) (u : Value), (cells8 x)[j]? = some u → cs[j]? = some u) (h : Blk w g t cs) : Reads w 1 (some ⟨g, 0, none⟩) 32 (cells8 x) := by
 refine Blk.reads h 0 _ (by rw [cells8_len, hx]) (fun j u hu => ?_)
 rw [Nat.zero_add]
 exact hc j u hu
theorem reads_dg {w : World} {g : Nat} {t : TypeId} {d : Text} (hd : d.length = 32) (h : Blk w g t (cells8 d).toArray) : Reads w 1 (some ⟨g, 0, none⟩) 32 (cells8 d) := by
 refine Blk.reads h 0 _ (by rw [cells8_len, hd]) (fun j u hu => ?_)
 rw [Nat.zero_add, List.getElem?_toArray]
 exact hu
set_option maxRecDepth 100000 in
set_option maxHeartbeats 1000000 in
theorem heldCmp_l (x y : Text) (hx : x.length = 32) (hy : y.length = 32) (cx cy : Array Value) (hcx : ∀ (j : Nat) (u : Value), (cells8 x)[j]? = some u → cx[j]? = some u) (hcy : ∀ (j : Nat) (u : Value), (cells8 y)[j]? = some u → cy[j]? = some u) (W : World) :
  Calls Tryz.prog 23 #[.agg cx, .agg cy] W fun e w' => e = .returned (.int .i64 (cmpT (x) (y))) ∧ ∃ q, w' = ((W.alloc (.cells cx 69)).alloc (.cells cy 69)).drewN q := by
 have hB1 : Blk ((W.alloc (.cells cx 69)).alloc (.cells cy 69)) W.heap.size 69 cx := (Blk.new W _ _).alloc _
 have hB2 : Blk ((W.alloc (.cells cx 69)).alloc (.cells cy 69)) (W.heap.size + 1) 69 cy := by
  have := Blk.new (W.alloc (.cells cx 69)) 69 cy
  rwa [show (W.alloc (.cells cx 69)).heap.size = W.heap.size + 1 by simp] at this
 have hC := Lib.hid (fun m => compare_any (x) (y) 32 32 hx hy (some ⟨W.heap.size, 0, none⟩) (some ⟨W.heap.size + 1, 0, none⟩) 32 32 (((W.alloc (.cells cx 69)).alloc (.cells cy 69)).drewN m) (reads_pre hx hcx hB1) (reads_pre hy hcy hB2))
 obtain ⟨r, hr⟩ : ∃ r, cmpT (x) (y) = r := ⟨_, rfl⟩
 rw [hr] at hC ⊢
 have X : ∀ (g : Nat) (w' : World), (Instr.sliceAt 34 (.pointer (some ⟨g, 0, none⟩)) none none none).run Tryz.prog w' = .ok (.slice (some ⟨g, 0, none⟩) 32 32) w' := fun g w' => by
  have hl : Tryz.prog.arrayLen 34 = 32 := by kernel_rfl
  have hs : (sizeOf (Tryz.prog.elem 34)).run Tryz.prog w' = .ok 1 w' := by kernel_rfl
  rw [run_sliceAt_array_all w' 34 _ Tryz.underlying34, hs]
  simp [Result.andThen, slicedAt, hl]
  rfl
 clear hr hB1 hB2 hcx hcy hx hy
 go_enter Tryz.func23, Tryz.ntmps23
 go_upto_region 1 with fail
 refine q_region (fun w' => ∃ n, w' = ((W.alloc (.cells cx 69)).alloc (.cells cy 69)).drewN n) (by kernel_rfl) (by kernel_rfl) (⟨1, rfl⟩) ?_
 refine Want.qv0 (.pointer (some ⟨W.heap.size, 0, none⟩)) ?_
 (intro K k; go_simp; apply k; clear k K)
 refine q_val (v := .slice (some ⟨W.heap.size, 0, none⟩) 32 32) rfl (fun w' hw' => by have h := X W.heap.size w'; go_simp) ?_
 (intro K k; go_simp; apply k; clear k K)
 refine Want.qv0 (.pointer (some ⟨W.heap.size + 1, 0, none⟩)) ?_
 (intro K k; go_simp; apply k; clear k K)
 refine q_val (v := .slice (some ⟨W.heap.size + 1, 0, none⟩) 32 32) rfl (fun w' hw' => by have h := X (W.heap.size + 1) w'; go_simp) ?_
 (intro K k; go_simp; apply k; clear k K)
 refine q_fn (v := .int .i64 r) (args := #[.slice (some ⟨W.heap.size, 0, none⟩) 32 32, .slice (some ⟨W.heap.size + 1, 0, none⟩) 32 32]) rfl _ _ rfl rfl Tryz.func24 (by kernel_rfl) (by kernel_rfl) (fun w' hw' => (by obtain ⟨m, rfl⟩ := hw'; exact (hC.out m).mono (fun e w'' ⟨he, hw⟩ => ⟨he, m, hw⟩))) ?_
 (intro K k; go_simp; apply k; clear k K)
 refine Want.qv0 (.int .i64 r) ?_
 (intro K k; go_simp; apply k; clear k K)
 refine q_nil ?_
 intro w5 hw5
 obtain ⟨m, rfl⟩ := hw5
 go_wp2_with fail
 go_ret
 exact ⟨rfl, m, rfl⟩
set_option maxRecDepth 100000 in
set_option maxHeartbeats 1000000 in
theorem findCmp_l (x : Text) (hx : x.length = 32) (cx : Array Value) (hcx : ∀ (j : Nat) (u : Value), (cells8 x)[j]? = some u → cx[j]? = some u) (y : Text) (hy : y.length = 32) (W : World) :
  Calls Tryz.prog 103 #[.agg cx, .agg (cells8 y).toArray] W fun e w' => e = .returned (.int .i64 (cmpT (x) (y))) ∧ ∃ q, w' = ((W.alloc (.cells cx 69)).alloc (.cells (cells8 y).toArray 34)).drewN q := by
 have hB1 : Blk ((W.alloc (.cells cx 69)).alloc (.cells (cells8 y).toArray 34)) W.heap.size 69 cx := (Blk.new W _ _).alloc _
 have hB2 : Blk ((W.alloc (.cells cx 69)).alloc (.cells (cells8 y).toArray 34)) (W.heap.size + 1) 34 (cells8 y).toArray := by
  have := Blk.new (W.alloc (.cells cx 69)) 34 (cells8 y).toArray
  rwa [show (W.alloc (.cells cx 69)).heap.size = W.heap.size + 1 by simp] at this
 have hC := Lib.hid (fun m => compare_any (x) (y) 32 32 hx hy (some ⟨W.heap.size, 0, none⟩) (some ⟨W.heap.size + 1, 0, none⟩) 32 32 (((W.alloc (.cells cx 69)).alloc (.cells (cells8 y).toArray 34)).drewN m) (reads_pre hx hcx hB1) (reads_dg hy hB2))
 obtain ⟨r, hr⟩ : ∃ r, cmpT (x) (y) = r := ⟨_, rfl⟩
 rw [hr] at hC ⊢
 have X : ∀ (g : Nat) (w' : World), (Instr.sliceAt 34 (.pointer (some ⟨g, 0, none⟩)) none none none).run Tryz.prog w' = .ok (.slice (some ⟨g, 0, none⟩) 32 32) w' := fun g w' => by
  have hl : Tryz.prog.arrayLen 34 = 32 := by kernel_rfl
  have hs : (sizeOf (Tryz.prog.elem 34)).run Tryz.prog w' = .ok 1 w' := by kernel_rfl
  rw [run_sliceAt_array_all w' 34 _ Tryz.underlying34, hs]
  simp [Result.andThen, slicedAt, hl]
  rfl
 clear hr hB1 hB2 hcx hx hy
 go_enter Tryz.func103, Tryz.ntmps103
 go_upto_region 1 with fail
 refine q_region (fun w' => ∃ n, w' = ((W.alloc (.cells cx 69)).alloc (.cells (cells8 y).toArray 34)).drewN n) (by kernel_rfl) (by kernel_rfl) (⟨1, rfl⟩) ?_
 refine Want.qv0 (.pointer (some ⟨W.heap.size, 0, none⟩)) ?_
 (intro K k; go_simp; apply k; clear k K)
 refine q_val (v := .slice (some ⟨W.heap.size, 0, none⟩) 32 32) rfl (fun w' hw' => by have h := X W.heap.size w'; go_simp) ?_
 (intro K k; go_simp; apply k; clear k K)
 refine q_val (v := .slice (some ⟨W.heap.size + 1, 0, none⟩) 32 32) rfl (fun w' hw' => by have h := X (W.heap.size + 1) w'; go_simp) ?_
 (intro K k; go_simp; apply k; clear k K)
 refine q_fn (v := .int .i64 r) (args := #[.slice (some ⟨W.heap.size, 0, none⟩) 32 32, .slice (some ⟨W.heap.size + 1, 0, none⟩) 32 32]) rfl _ _ rfl rfl Tryz.func24 (by kernel_rfl) (by kernel_rfl) (fun w' hw' => (by obtain ⟨m, rfl⟩ := hw'; exact (hC.out m).mono (fun e w'' ⟨he, hw⟩ => ⟨he, m, hw⟩))) ?_
 (intro K k; go_simp; apply k; clear k K)
 refine Want.qv0 (.int .i64 r) ?_
 (intro K k; go_simp; apply k; clear k K)
 refine q_nil ?_
 intro w5 hw5
 obtain ⟨m, rfl⟩ := hw5
 go_wp2_with fail
 go_ret
 exact ⟨rfl, m, rfl⟩
theorem encK_pre (x : KD) : ∀ (j : Nat) (u : Value), (cells8 (idK x))[j]? = some u → (encK x).toArray[j]? = some u := fun j u hu => by
 rw [List.getElem?_toArray]
 exact encK_id hu
theorem heldCmp_any (x y : KD) (W : World) :
  Calls Tryz.prog 23 #[.agg (encK x).toArray, .agg (encK y).toArray] W fun e w' => e = .returned (.int .i64 (cmpT (idK x) (idK y))) ∧ ∃ q, w' = ((W.alloc (.cells (encK x).toArray 69)).alloc (.cells (encK y).toArray 69)).drewN q :=
 heldCmp_l (idK x) (idK y) (idK_len x) (idK_len y) (encK x).toArray (encK y).toArray (encK_pre x) (encK_pre y) W
theorem heldCmp_lays (blk off size : Nat) (w : World) : CmpLays Tryz.prog 23 #[] encK 33 cfK blk off size w := fun m os dk _ x y => by
 refine (heldCmp_any x y (sortWorldK encK 33 w blk off m dk os)).mono fun e w' hh => ?_
 obtain ⟨he, q, hw⟩ := hh
 refine ⟨he, q, #[.cells (encK x).toArray 69, .cells (encK y).toArray 69], ?_⟩
 rw [hw, Sort.alloc_eq_grow, Sort.alloc_eq_grow, Sort.grow_grow]
 rfl
theorem findCmp_below (x : KD) (y : Text) (hy : y.length = 32) (W : World) :
  Calls Tryz.prog 103 #[.agg (encK x).toArray, .agg (cells8 y).toArray] W fun e w' => e = .returned (.int .i64 (cmpT (idK x) y)) ∧ Below W.heap.size W w' :=
 (findCmp_l (idK x) (idK_len x) (encK x).toArray (encK_pre x) y hy W).mono fun e w' ⟨he, q, hw⟩ => ⟨he, by rw [hw]; exact below_drawn (((Below.refl _ W).alloc (Nat.le_refl _) _).alloc (by simp) _) q⟩
end Go.Proofs.YtfbhjoejffagjaaGreatDoor.RingM
