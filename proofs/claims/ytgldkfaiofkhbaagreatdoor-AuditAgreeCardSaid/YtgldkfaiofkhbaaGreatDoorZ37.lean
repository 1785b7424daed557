/-
  Texts of the claim, put into one file: Offers, OffersOwn.
-/
import Derived.Test.YtgldkfaiofkhbaaGreatDoorZ29
import Derived.Test.YtgldkfaiofkhbaaGreatDoorZ3
import Derived.Test.YtgldkfaiofkhbaaGreatDoorZ30
import Derived.Test.YtgldkfaiofkhbaaGreatDoorZ6

namespace Go.Proofs.YtgldkfaiofkhbaaGreatDoor.Offers
open Go Go.RowKit Go.Proofs.YtgldkfaiofkhbaaGreatDoor Mem Sha Bytes SortM SgM Rise HeadMem EncNote NoteM TreeMem

structure OfferD where
 h : HeadD
 A : Option Addr
 n : Nat
 c : Nat
 ss : List Text
 x : Int
 y : Int
 A2 : Option Addr
 m : Nat
 c2 : Nat
 ds : List Text
def consC (p : OfferD) : List Value := [.int .i64 p.x, .int .i64 p.y, .slice p.A2 p.m p.c2]
def offC (p : OfferD) : List Value := noteCells p.h (.slice p.A p.n p.c) ++ consC p
structure OfferOk (w : World) (p : OfferD) : Prop where
 ok : p.h.Ok
 nil : p.A = none → p.n = 0 ∧ p.c = 0
 sgs : Sgs w p.A p.n p.ss
 few : p.m < 140737488355328
 rd : RdD w p.A2 p.m p.ds
theorem OfferOk.below {w w' : World} {p : OfferD} (h : OfferOk w p) (hb : Below w.heap.size w w') : OfferOk w' p := ⟨h.ok, h.nil, h.sgs.below hb, h.few, h.rd.below hb⟩
structure OffersAt (w : World) (A : Option Addr) (n : Nat) (l : List OfferD) : Prop where
 len : l.length = n
 ok : ∀ p ∈ l, OfferOk w p
 rd : Reads w 102 A n (l.flatMap offC)
theorem OffersAt.below {w w' : World} {A : Option Addr} {n : Nat} {l : List OfferD} (h : OffersAt w A n l) (hb : Below w.heap.size w w') : OffersAt w' A n l := ⟨h.len, fun x hx => (h.ok x hx).below hb, h.rd.below hb⟩
theorem offC_len {p : OfferD} (ok : p.h.Ok) : (offC p).length = 102 := by unfold offC; rw [List.length_append, noteCells_len ok]; rfl
theorem offC_note {p : OfferD} (j : Nat) (u : Value) (hu : (noteCells p.h (.slice p.A p.n p.c))[j]? = some u) : (offC p)[j]? = some u := by
 unfold offC
 rw [List.getElem?_append_left (List.getElem?_eq_some_iff.1 hu).1]
 exact hu
theorem offC_cons {p : OfferD} (ok : p.h.Ok) (j : Nat) (u : Value) (hu : (consC p)[j]? = some u) : (offC p)[99 + j]? = some u := by
 unfold offC
 rw [List.getElem?_append_right (by rw [noteCells_len ok]; omega), noteCells_len ok, show 99 + j - 99 = j by omega]
 exact hu
theorem offC_one (p : OfferD) : ∀ v ∈ offC p, v.oneCell' = true := by
 intro v hv
 rcases List.mem_append.1 hv with hv | hv
 ·have := note_one (h := p.h) p.A p.n p.c
  rw [List.all_toArray] at this
  exact List.all_eq_true.1 this v hv
 ·simp only [consC, List.mem_cons, List.not_mem_nil, or_false] at hv
  rcases hv with rfl | rfl | rfl <;> rfl
theorem flat_at102 : ∀ (l : List OfferD), (∀ x ∈ l, x.h.Ok) → ∀ (i : Nat) (x : OfferD) (j : Nat), l[i]? = some x → j < 102 → (l.flatMap offC)[i * 102 + j]? = (offC x)[j]?
 | [], _, i, x, j, h, _ => by cases h
 | s :: l, hl, i, x, j, h, hj => by
  have hs : (offC s).length = 102 := offC_len (hl s (by simp))
  rw [List.flatMap_cons]
  cases i with
  | zero =>
   obtain rfl : s = x := Option.some.inj h
   rw [Nat.zero_mul, Nat.zero_add, List.getElem?_append_left (by omega)]
  | succ i =>
   rw [List.getElem?_append_right (by omega), hs, show (i + 1) * 102 + j - 102 = i * 102 + j by omega]
   exact flat_at102 l (fun t ht => hl t (by simp [ht])) i x j h hj
theorem OffersAt.at_ {w : World} {A : Option Addr} {n i : Nat} {l : List OfferD} {x : OfferD} (h : OffersAt w A n l) (hx : l[i]? = some x) : ∃ b o, A = some ⟨b, o, none⟩ ∧ b < w.heap.size ∧ ∀ (j : Nat) (u : Value), (offC x)[j]? = some u → w.cell? ⟨b, o + i * 102 + j, none⟩ = some u := by
 have hi : i < l.length := (List.getElem?_eq_some_iff.1 hx).1
 obtain ⟨b, o, e, hb, hc⟩ := h.rd.2 (by have := h.len; omega)
 have hxo := (h.ok x (List.mem_of_getElem? hx)).ok
 refine ⟨b, o, e, hb, fun j u hu => ?_⟩
 have hj : j < 102 := by have := (List.getElem?_eq_some_iff.1 hu).1; have := offC_len hxo; omega
 rw [Nat.add_assoc]
 refine hc _ u ?_
 have := flat_at102 l (fun y hy => (h.ok y hy).ok) i x j hx hj
 first
  | (rw [this]; exact hu)
  | (rw [Nat.mul_comm] at this; rw [this]; exact hu)
end Go.Proofs.YtgldkfaiofkhbaaGreatDoor.Offers

namespace Go.Proofs.YtgldkfaiofkhbaaGreatDoor.OffersOwn
open Go Go.RowKit Go.Proofs.YtgldkfaiofkhbaaGreatDoor Mem Sha Bytes Go.Proofs.YtgldkfaiofkhbaaGreatDoor.Append HeadMem EncNote Offers

section
variable {α : Type} {f : α → List Value} {s : Nat}
theorem flatG_len : ∀ (M : List α), (∀ x ∈ M, (f x).length = s) → (M.flatMap f).length = M.length * s
 | [], _ => by simp
 | x :: M, h => by
  rw [List.flatMap_cons, List.length_append, h x (by simp), flatG_len M (fun y hy => h y (by simp [hy])), List.length_cons, Nat.succ_mul, Nat.add_comm]
theorem flatG_take : ∀ (M : List α) (k : Nat), (∀ x ∈ M, (f x).length = s) → (M.flatMap f).take (k * s) = (M.take k).flatMap f
 | [], k, _ => by simp
 | x :: M, 0, _ => by simp
 | x :: M, k + 1, h => by
  have h1 := flatG_take M k (fun y hy => h y (by simp [hy]))
  have h2 := h x (by simp)
  simp only [List.flatMap_cons, List.take_succ_cons]
  rw [List.take_append, h2, Nat.succ_mul, List.take_of_length_le (by omega), show k * s + s - s = k * s by omega, h1]
theorem flatG_drop : ∀ (M : List α) (k : Nat), (∀ x ∈ M, (f x).length = s) → (M.flatMap f).drop (k * s) = (M.drop k).flatMap f
 | [], k, _ => by simp
 | x :: M, 0, _ => by simp
 | x :: M, k + 1, h => by
  have h1 := flatG_drop M k (fun y hy => h y (by simp [hy]))
  have h2 := h x (by simp)
  simp only [List.flatMap_cons, List.drop_succ_cons]
  rw [List.drop_append, h2, Nat.succ_mul, List.drop_of_length_le (by omega), show k * s + s - s = k * s by omega, h1, List.nil_append]
theorem flatG_set (M : List α) (h : ∀ x ∈ M, (f x).length = s) (i : Nat) (hi : i < M.length) (p : α) : (M.flatMap f).take (i * s) ++ f p ++ (M.flatMap f).drop (i * s + s) = (M.set i p).flatMap f := by
 rw [flatG_take M i h, show i * s + s = (i + 1) * s from (Nat.succ_mul i s).symm, flatG_drop M (i + 1) h, List.set_eq_take_append_cons_drop, if_pos hi, List.flatMap_append, List.flatMap_cons, List.append_assoc]
end
theorem own_setG {w : World} {B n c g i e s : Nat} {xs ys : List Value} (hO : w.ownsRow B e s (.slice (some ⟨g, 0, none⟩) n c) n xs) (hi : i < n) (hs : ys.length = s) :
  B ≤ g ∧ ∃ cur : Array Value, Blk w g e cur ∧ i * s + s ≤ cur.size ∧ ∀ w', Blk w' g e (cur.toList.take (i * s) ++ ys ++ cur.toList.drop (i * s + s)).toArray → w'.ownsRow B e s (.slice (some ⟨g, 0, none⟩) n c) n (xs.take (i * s) ++ ys ++ xs.drop (i * s + s)) := by
 obtain ⟨hFl, hown⟩ := hO
 rcases hown with ⟨h3, -⟩ | ⟨g2, c2, cur, h3, hBg, hg, hnc, hcm, hcs, htk⟩
 ·injection h3 with h3; cases h3
 ·injection h3 with h3 h4 h5
  injection h3 with h3
  injection h3 with h3
  subst h3 h5
  have e1 : i * s + s ≤ n * s := by have := Nat.mul_le_mul_right s (show i + 1 ≤ n from hi); rw [Nat.succ_mul] at this; exact this
  have e2 : n * s ≤ c * s := Nat.mul_le_mul_right s hnc
  have e3 : cur.toList.length = c * s := by rw [Array.length_toList, hcs]
  refine ⟨hBg, cur, hg, by omega, fun w' hb => ⟨?_, .inr ⟨g, c, _, rfl, hBg, hb, hnc, hcm, ?_, ?_⟩⟩⟩
  ·simp only [List.length_append, List.length_take, List.length_drop, hFl, hs]
   omega
  ·simp only [List.size_toArray, List.length_append, List.length_take, List.length_drop, Array.length_toList, hs]
   omega
  ·rw [List.toList_toArray, ← htk]
   apply List.ext_getElem?
   intro j
   generalize i * s = u at *
   generalize n * s = N at *
   generalize c * s = C at *
   simp only [List.getElem?_take, List.getElem?_append, List.length_append, List.length_take, List.getElem?_drop, hs]
   grind
def OwnO (w : World) (B : Nat) (v : Value) (n : Nat) (M : List OfferD) : Prop := (∀ p ∈ M, p.h.Ok) ∧ M.length = n ∧ w.ownsRow B 69 102 v n (M.flatMap offC)
section
variable {w w' : World} {B n : Nat} {v : Value} {M : List OfferD}
theorem OwnO.lens (h : OwnO w B v n M) : ∀ p ∈ M, (offC p).length = 102 := fun p hp => offC_len (h.1 p hp)
theorem OwnO.kept {S : Nat → Prop} (h : OwnO w B v n M) (hk : Kept S w w') (hS : ∀ k, S k → k < B) : OwnO w' B v n M := by
 obtain ⟨h1, h2, hFl, hown⟩ := h
 refine ⟨h1, h2, hFl, ?_⟩
 rcases hown with h | ⟨g, c, cur, hv, hBg, hg, hnc, hcm, hcs, htk⟩
 ·exact .inl h
 ·exact .inr ⟨g, c, cur, hv, hBg, Blk.kept hg hk (fun x => by have := hS g x; omega), hnc, hcm, hcs, htk⟩
theorem OwnO.below (h : OwnO w B v n M) (hb : Below w.heap.size w w') : OwnO w' B v n M := ⟨h.1, h.2.1, Own.own_below h.2.2 hb⟩
theorem OwnO.reads (h : OwnO w B v n M) : ∃ A c, v = .slice A n c ∧ n ≤ c ∧ Reads w 102 A n (M.flatMap offC) := by
 obtain ⟨A, c, e, h1, -, -, h4, -⟩ := Append.Own.reads h.2.2
 exact ⟨A, c, e, h1, h4⟩
theorem OwnO.first (h : OwnO w B v n M) (h0 : 0 < n) : ∃ g c, v = .slice (some ⟨g, 0, none⟩) n c ∧ B ≤ g ∧ g < w.heap.size := by
 rcases h.2.2.2 with ⟨h3, h4⟩ | ⟨g, c, cur, hv, hBg, hg, -⟩
 ·omega
 ·exact ⟨g, c, hv, hBg, Blk.lt hg⟩
theorem OwnO.at_ {g c i : Nat} {x : OfferD} (h : OwnO w B (.slice (some ⟨g, 0, none⟩) n c) n M) (hx : M[i]? = some x) : ∀ (j : Nat) (u : Value), (offC x)[j]? = some u → w.cell? ⟨g, i * 102 + j, none⟩ = some u := by
 obtain ⟨A, c9, e, -, hr⟩ := h.reads
 injection e with e1 _ e3
 subst e1 e3
 have hi : i < M.length := (List.getElem?_eq_some_iff.1 hx).1
 obtain ⟨b, o, e, hb, hc⟩ := hr.2 (by have := h.2.1; omega)
 injection e with e
 injection e with e1 e2
 subst e1 e2
 intro j u hu
 have hj : j < 102 := by have := (List.getElem?_eq_some_iff.1 hu).1; have := h.lens x (List.mem_of_getElem? hx); omega
 have := hc (i * 102 + j) u (by rw [flat_at102 M (fun p hp => h.1 p hp) i x j hx hj]; exact hu)
 rwa [Nat.zero_add] at this
theorem OwnO.set_ {g c i : Nat} {x : OfferD} (h : OwnO w B (.slice (some ⟨g, 0, none⟩) n c) n M) (hi : i < n) (ok : x.h.Ok) :
  B ≤ g ∧ ∃ cur : Array Value, Blk w g 69 cur ∧ i * 102 + 102 ≤ cur.size ∧ ∀ w', Blk w' g 69 (splice cur.toList (i * 102) (offC x)).toArray → OwnO w' B (.slice (some ⟨g, 0, none⟩) n c) n (M.set i x) := by
 obtain ⟨h1, cur, h2, h3, h4⟩ := own_setG h.2.2 hi (offC_len ok)
 refine ⟨h1, cur, h2, h3, fun w' hb => ⟨fun p hp => ?_, by rw [List.length_set]; exact h.2.1, ?_⟩⟩
 rotate_left
 ·unfold splice at hb
  rw [offC_len ok, ← List.append_assoc] at hb
  rw [← flatG_set M h.lens i (by rw [h.2.1]; exact hi) x]
  exact h4 w' hb
 ·rcases List.mem_or_eq_of_mem_set hp with hp | hp
  ·exact h.1 p hp
  ·rw [hp]; exact ok
end
theorem infoO : (Tryz.prog.info? 69).map (fun i => (i.zero, i.size, i.bytes)) = some (some (.agg Tryz.zeroCells69), 102, 176) := by kernel_rfl
theorem own_zeroO (w : World) (B : Nat) (hB : B ≤ w.heap.size) (cs : Array Value) (hcs : cs.size = 0) : OwnO (w.alloc (.cells cs 69)) B (.slice (some ⟨w.heap.size, 0, none⟩) 0 0) 0 [] :=
 ⟨fun _ h => (by cases h), rfl, rfl, .inr ⟨w.heap.size, 0, cs, rfl, hB, heap_alloc_new w _, Nat.le_refl _, Nat.zero_le _, by omega, by simp⟩⟩
theorem one_offers (M : List OfferD) : ∀ u ∈ M.flatMap offC, u.oneCell' = true := fun u hu => by
 obtain ⟨p, -, hp⟩ := List.mem_flatMap.1 hu
 exact offC_one p u hp
theorem wp_store_atO {P : Program} {o : Oper} {a : Act} {w : World} {K : Act → World → Prop} {Q : Exit → Act → World → Prop} (ty : TypeId) (x y : Operand) (ho : o.op = .store ty x y)
  (g off : Nat) (cs : List Value) (hx : a.eval x = .pointer (some ⟨g, off, none⟩)) (hy : a.eval y = .agg cs.toArray)
  (t : TypeId) (cur : Array Value) (hg : Blk w g t cur) (hi : (P.info? ty).map (·.size) = some cs.length)
  (hfit : off + cs.length ≤ cur.size) (h1 : ∀ v ∈ cs, v.oneCell' = true)
  (h : ∀ w', Hid (Blk w' g t (splice cur.toList off cs).toArray) → Kept (· = g) w w' → K (a.put o.dst undef) w') : o.wp P a w K Q := by
 have hrun : (storeVar ty ⟨g, off, none⟩ (.agg cs.toArray)).run P w = .ok () (w.setRow g (splice cur.toList off cs).toArray) := by
  have := run_storeCells_at (P := P) g off t cs 0 cur w hg (by simpa using hfit) h1
  cases hq : P.info? ty with
  | none => simp [hq] at hi
  | some i =>
   have hs : cs.length = i.size := by simp [hq] at hi; omega
   simp [storeVar, sizeOf, typeInfo, hq, Value.cells, hs]
   simpa [splice, hs] using this
 unfold Oper.wp execOp
 simp only [ho, hx, hy, Instr.storeAt, Instr.sureAddr, Sem.run_bind, Sem.run_pure, Result.andThen_ok, hrun]
 exact h _ (setRow_heap w g _ _ t _ hg) (Bytes.Kept.setRow (S := (· = g)) (Kept.refl _ w) rfl _)
theorem OwnO.mem {M : List OfferD} {i : Nat} {x p : OfferD} {l : List OfferD} (hM : ∀ p ∈ M, p ∈ l) (hx : x ∈ l) (hp : p ∈ M.set i x) : p ∈ l := by
 rcases List.mem_or_eq_of_mem_set hp with hp | hp
 ·exact hM p hp
 ·rw [hp]; exact hx
end Go.Proofs.YtgldkfaiofkhbaaGreatDoor.OffersOwn
