/-
  Texts of the claim, put into one file: HashMem, Hash, HashSum, DigestMem, Digest, DigestOf, RefSmall, RefWords, RefSum, RefCut, RefOf, DigestTop, RefTop.
-/
import Derived.Test.YtgldkfaiofkhbaaDoorZ2
import Derived.Test.YtgldkfaiofkhbaaDoorZ0
import Derived.Test.YtgldkfaiofkhbaaDoorZ27
import Derived.Test.YtgldkfaiofkhbaaDoorZ3
import Derived.Test.YtgldkfaiofkhbaaDoorRows
import Derived.Deep.Cut
import Derived.Deep.CutRange
import Derived.Great.BuildSlice
import Derived.StillTailTactics
import Derived.Test.YtgldkfaiofkhbaaDoorZ14
import Derived.Laws.AppendOwnNone

namespace Go.Proofs.YtgldkfaiofkhbaaDoor.HashMem
open Go Go.RowKit Go.Proofs.YtgldkfaiofkhbaaDoor Go.Proofs.YtgldkfaiofkhbaaDoor.Mem Go.Proofs.YtgldkfaiofkhbaaDoor.Sha Go.Proofs.YtgldkfaiofkhbaaDoor.ShaWalk Go.Proofs.YtgldkfaiofkhbaaDoor.Bytes

/-- The memory of a hasher: the state s, k bytes of the buffer, the count n. -/
structure HC (w : World) (g : Nat) (s : St) (k : Nat) (f : Nat → BitVec 8) (n : Nat) (cs : Array Value) : Prop where
  blk : Blk w g 237 cs
  size : cs.size = 73
  one : ∀ (j : Nat) (v : Value), cs[j]? = some v → v.oneCell' = true
  st : ∀ j, j < 8 → cs[j]? = some (.int .u32 (u (s.get j)))
  buf : ∀ j, j < k → cs[8 + j]? = some (cell8 (f j))
  cnt : cs[72]? = some (.int .u64 (n : Int))

section
variable {w w' : World} {g k n : Nat} {s : St} {f : Nat → BitVec 8} {cs cs' : Array Value}
theorem HC.kept {S : Nat → Prop} (h : HC w g s k f n cs) (hk : Kept S w w') (hS : ¬ S g) : HC w' g s k f n cs := ⟨h.blk.kept hk hS, h.size, h.one, h.st, h.buf, h.cnt⟩
theorem HC.below {B : Nat} (h : HC w g s k f n cs) (hb : Below B w w') (hB : g < B) : HC w' g s k f n cs := ⟨(hb.block g hB).trans h.blk, h.size, h.one, h.st, h.buf, h.cnt⟩
theorem HC.alloc (h : HC w g s k f n cs) (o : Obj) : HC (w.alloc o) g s k f n cs := ⟨h.blk.alloc o, h.size, h.one, h.st, h.buf, h.cnt⟩
theorem HC.drewN (h : HC w g s k f n cs) (m : Nat) : HC (w.drewN m) g s k f n cs := ⟨h.blk, h.size, h.one, h.st, h.buf, h.cnt⟩
theorem HC.less {k' : Nat} {f' : Nat → BitVec 8} (h : HC w g s k f n cs) (hk : k' ≤ k) (hf : ∀ j, j < k' → f' j = f j) : HC w g s k' f' n cs :=
  ⟨h.blk, h.size, h.one, h.st, fun j hj => by rw [hf j hj]; exact h.buf j (by omega), h.cnt⟩
theorem HC.count (h : HC w g s k f n cs) (hk : k ≤ 64) (n' : Nat) : HC (w.setCell ⟨g, 72, none⟩ (.int .u64 (n' : Int))) g s k f n' (cs.setIfInBounds 72 (.int .u64 (n' : Int))) := by
  refine ⟨h.blk.set_ 72 _, by simpa using h.size, fun j v hv => ?_, fun j hj => ?_, fun j hj => ?_, ?_⟩
  · rw [Array.getElem?_setIfInBounds] at hv
    by_cases e : 72 = j
    · rw [if_pos e, if_pos (by have := h.size; omega)] at hv
      obtain rfl := (Option.some.inj hv).symm
      rfl
    · rw [if_neg e] at hv
      exact h.one j v hv
  · rw [Array.getElem?_setIfInBounds, if_neg (by omega)]
    exact h.st j hj
  · rw [Array.getElem?_setIfInBounds, if_neg (by omega)]
    exact h.buf j hj
  · rw [Array.getElem?_setIfInBounds, if_pos rfl, if_pos (by have := h.size; omega)]
theorem HC.took {f' : Nat → BitVec 8} (h : HC w g s k f n cs) (hi : IsSt w g 237 cs s (rnd (mB f') s 64) 8 w' cs') : HC w' g (comp s (mB f')) k f n cs' := by
  refine ⟨hi.blk, by rw [hi.size, h.size], fun j v hv => ?_, fun j hj => ?_, fun j hj => ?_, ?_⟩
  · by_cases hj : j < 8
    · rw [hi.low j hj] at hv
      obtain rfl := (Option.some.inj hv).symm
      rfl
    · rw [hi.high j (by omega)] at hv
      exact h.one j v hv
  · rw [hi.low j hj, comp_get]
    unfold sumTab
    rw [if_pos hj]
  · rw [hi.high _ (by omega)]
    exact h.buf j hj
  · rw [hi.high _ (by omega)]
    exact h.cnt
/-- Behind a copy of bytes to the buffer's free place. -/
theorem HC.copied (h : HC w g s k f n cs) (q : Text) (m : Nat) (hm : m ≤ q.length) (hk : k + m ≤ 64) (hb : Blk w' g 237 (splice cs.toList (8 + k) (cells8 (q.take m))).toArray) :
    HC w' g s (k + m) (fun j => if j < k then f j else q.getD (j - k) 0) n (splice cs.toList (8 + k) (cells8 (q.take m))).toArray := by
  have hl : (cells8 (q.take m)).length = m := by rw [cells8_len]; simp; omega
  have hs : cs.toList.length = 73 := by simpa using h.size
  have hg : ∀ i, (splice cs.toList (8 + k) (cells8 (q.take m))).toArray[i]? = if i < 8 + k then cs[i]? else if i < 8 + k + m then (cells8 (q.take m))[i - (8 + k)]? else cs[i]? := by
    intro i
    rw [List.getElem?_toArray, splice_get _ _ _ (by omega), hl, Array.getElem?_toList]
  refine ⟨hb, by simp [length_splice _ _ _ (show 8 + k + (cells8 (q.take m)).length ≤ cs.toList.length by omega)]; exact h.size, fun j v hv => ?_, fun j hj => ?_, fun j hj => ?_, ?_⟩
  · rw [hg] at hv
    by_cases h1 : j < 8 + k
    · rw [if_pos h1] at hv
      exact h.one j v hv
    · rw [if_neg h1] at hv
      by_cases h2 : j < 8 + k + m
      · rw [if_pos h2, cells8_at _ _ (by simp; omega)] at hv
        obtain rfl := (Option.some.inj hv).symm
        rfl
      · rw [if_neg h2] at hv
        exact h.one j v hv
  · rw [hg, if_pos (by omega)]
    exact h.st j hj
  · rw [hg]
    by_cases h1 : j < k
    · rw [if_pos (by omega), if_pos h1]
      exact h.buf j h1
    · rw [if_neg (by omega), if_pos (by omega), if_neg h1, cells8_at _ _ (by simp; omega)]
      congr 2
      have e : 8 + j - (8 + k) = j - k := by omega
      rw [e]
      simp only [List.getD, List.getElem?_take]
      rw [if_pos (by omega)]
  · rw [hg, if_neg (by omega), if_neg (by omega)]
    exact h.cnt
end

/-- The i-th block's bytes of a text. -/
def blockF (L : Text) (i j : Nat) : BitVec 8 := L.getD (64 * i + j) 0
theorem mOf_eq (L : Text) (i : Nat) : mOf L i = mB (blockF L i) := by
  funext t
  rfl
theorem fold_succ (L : Text) (i : Nat) : fold L (i + 1) = comp (fold L i) (mB (blockF L i)) := by rw [fold, mOf_eq]

/-- A hasher that has taken the text l. -/
def Hh (w : World) (g : Nat) (l : Text) : Prop := ∃ cs, HC w g (fold l (l.length / 64)) (l.length % 64) (blockF l (l.length / 64)) l.length cs
theorem Hh.kept {S : Nat → Prop} {w w' : World} {g : Nat} {l : Text} (h : Hh w g l) (hk : Kept S w w') (hS : ¬ S g) : Hh w' g l := by
  obtain ⟨cs, h⟩ := h
  exact ⟨cs, h.kept hk hS⟩
theorem Hh.lt {w : World} {g : Nat} {l : Text} (h : Hh w g l) : g < w.heap.size := by
  obtain ⟨cs, h⟩ := h
  exact h.blk.lt
/-- The same, seen from the whole text that is to go in. -/
theorem HC.lift {w : World} {g : Nat} {l : Text} {cs : Array Value} (h : HC w g (fold l (l.length / 64)) (l.length % 64) (blockF l (l.length / 64)) l.length cs) (q : Text) :
    HC w g (fold (l ++ q) (l.length / 64)) (l.length % 64) (blockF (l ++ q) (l.length / 64)) l.length cs := by
  rw [fold_append l q _ (by omega)]
  refine h.less (Nat.le_refl _) fun j hj => ?_
  unfold blockF
  exact getD_left _ _ _ (by omega)

theorem blockF_right (l q : Text) (i a j : Nat) (h : l.length = 64 * i + a) : (if j < a then blockF (l ++ q) i j else q.getD (j - a) 0) = blockF (l ++ q) i j := by
  by_cases hj : j < a
  · rw [if_pos hj]
  · rw [if_neg hj]
    unfold blockF
    rw [getD_right _ _ _ (by omega)]
    congr 1
    omega
theorem Hh.mk_ {w : World} {g i r : Nat} {L : Text} {cs : Array Value} (hr : r < 64) (hl : L.length = 64 * i + r) (h : HC w g (fold L i) r (blockF L i) L.length cs) : Hh w g L := by
  have e1 : L.length / 64 = i := by omega
  have e2 : L.length % 64 = r := by omega
  refine ⟨cs, ?_⟩
  rw [e1, e2]
  exact h
theorem blockF_q (l q : Text) (i d j : Nat) (h : l.length + d = 64 * i) : blockF (l ++ q) i j = q.getD (d + j) 0 := by
  unfold blockF
  rw [getD_right _ _ _ (by omega)]
  congr 1
  omega
/-- A fresh hasher's cells. -/
def initCells (Z : Array Value) : Array Value := (((((((Z.setIfInBounds 0 (.int .u32 (u init.a))).setIfInBounds 1 (.int .u32 (u init.b))).setIfInBounds 2 (.int .u32 (u init.c))).setIfInBounds 3 (.int .u32 (u init.d))).setIfInBounds 4 (.int .u32 (u init.e))).setIfInBounds 5 (.int .u32 (u init.f))).setIfInBounds 6 (.int .u32 (u init.g))).setIfInBounds 7 (.int .u32 (u init.h))
theorem HC.init_ {w : World} {g : Nat} {f : Nat → BitVec 8} {Z : Array Value} (hs : Z.size = 73) (h1 : Z.all (fun v => v.oneCell') = true) (hc : Z[72]? = some (.int .u64 0)) (hb : Blk w g 237 (initCells Z)) : HC w g init 0 f 0 (initCells Z) := by
  have one : ∀ (j : Nat) (v : Value), Z[j]? = some v → v.oneCell' = true := by
    intro j v hv
    obtain ⟨hj, rfl⟩ := Array.getElem?_eq_some_iff.1 hv
    exact Array.all_eq_true.1 h1 j hj
  refine ⟨hb, by simp [initCells, hs], ?_, fun j hj => ?_, fun j hj => absurd hj (by omega), ?_⟩
  · unfold initCells
    exact one_set (one_set (one_set (one_set (one_set (one_set (one_set (one_set one _ _ rfl) _ _ rfl) _ _ rfl) _ _ rfl) _ _ rfl) _ _ rfl) _ _ rfl) _ _ rfl
  · unfold initCells
    match j, hj with
    | 0, _ => simp [hs, St.get]
    | 1, _ => simp [hs, St.get]
    | 2, _ => simp [hs, St.get]
    | 3, _ => simp [hs, St.get]
    | 4, _ => simp [hs, St.get]
    | 5, _ => simp [hs, St.get]
    | 6, _ => simp [hs, St.get]
    | 7, _ => simp [hs, St.get]
  · unfold initCells
    simpa [Array.getElem?_setIfInBounds, hs] using hc
theorem Hh.init_ {w : World} {g : Nat} {Z : Array Value} (hs : Z.size = 73) (h1 : Z.all (fun v => v.oneCell') = true) (hc : Z[72]? = some (.int .u64 0)) (hb : Blk w g 237 (initCells Z)) : Hh w g [] :=
  Hh.mk_ (i := 0) (r := 0) (by omega) rfl (HC.init_ hs h1 hc hb)

/-- The round table, where it lies. -/
def Base (w : World) : Prop := 1 < w.heap.size ∧ ∀ j, j < 64 → w.cell? ⟨1, j, none⟩ = some (.int .u32 (u (K j)))
theorem Base.kept {S : Nat → Prop} {w w' : World} (h : Base w) (hk : Kept S w w') (hS : ¬ S 1) : Base w' :=
  ⟨Nat.lt_of_lt_of_le h.1 hk.size, fun j hj => (hk.cell (p := ⟨1, j, none⟩) h.1 hS).trans (h.2 j hj)⟩
theorem Base.below {w w' : World} {B : Nat} (h : Base w) (hb : Below B w w') (hB : 1 < B) : Base w' :=
  ⟨by have := hb.size; have := h.1; omega, fun j hj => (hb.cell (p := ⟨1, j, none⟩) hB).trans (h.2 j hj)⟩

end Go.Proofs.YtgldkfaiofkhbaaDoor.HashMem

namespace Go.Proofs.YtgldkfaiofkhbaaDoor.Hash
open Go Go.RowKit Go.Proofs.YtgldkfaiofkhbaaDoor Go.Proofs.YtgldkfaiofkhbaaDoor.Mem Go.Proofs.YtgldkfaiofkhbaaDoor.Sha Go.Proofs.YtgldkfaiofkhbaaDoor.ShaWalk Go.Proofs.YtgldkfaiofkhbaaDoor.Bytes Go.Proofs.YtgldkfaiofkhbaaDoor.HashMem

set_option maxRecDepth 100000 in
theorem begin_any (w : World) : Calls Tryd.prog 165 #[] w fun e w' =>
    e = .returned (.agg #[.int .u32 (u init.a), .int .u32 (u init.b), .int .u32 (u init.c), .int .u32 (u init.d), .int .u32 (u init.e), .int .u32 (u init.f), .int .u32 (u init.g), .int .u32 (u init.h)]) ∧ Below w.heap.size w w' := by
  go_enter Tryd.func165, Tryd.ntmps165
  go_wp2_with fail
  refine bodyPost_ret (results_cell_row rfl _ _ w.heap.size 233 _ (0, 0) _ rfl (heap_alloc_new w _) Tryd.underlying233 rfl (by kernel_rfl)) rfl ?_
  exact ⟨rfl, (Below.refl _ _).alloc (Nat.le_refl _) _⟩

set_option maxRecDepth 100000 in
theorem new_any (w : World) : Calls Tryd.prog 129 #[] w fun e w' => ∃ g, e = .returned (.pointer (some ⟨g, 0, none⟩)) ∧ w.heap.size ≤ g ∧ Hh w' g [] ∧ Below w.heap.size w w' := by
  go_enter Tryd.func129, Tryd.ntmps129
  go_wp2_with (go_at_call 165; refine (begin_any _).mono ?_; rintro e w1 ⟨rfl, hb1⟩)
  go_ret
  exact ⟨_, rfl, hb1.size, Hh.init_ (by kernel_rfl) (by kernel_rfl) (by kernel_rfl) (heap_alloc_new w1 _), hb1.alloc hb1.size _⟩

def lenV : Value → Nat
  | .slice _ n _ => n
  | _ => 0

set_option maxRecDepth 100000 in
set_option maxHeartbeats 600000 in
theorem write_any (l q : Text) (g : Nat) (A : Option Addr) (c : Nat) (w : World) (hB : Base w) (hg2 : g ≠ 1) (hh : Hh w g l) (hlen : l.length + q.length < 2305843009213693952)
    (hr : Reads w 1 A q.length (cells8 q)) (hA : 0 < q.length → Off A g) (hc : q.length ≤ c) :
    Calls Tryd.prog 130 #[.pointer (some ⟨g, 0, none⟩), .slice A q.length c] w fun e w' => e = .returned (.tuple #[]) ∧ Hh w' g (l ++ q) ∧ Kept (· = g) w w' := by
  obtain ⟨cs, hC⟩ := hh
  replace hC := Lib.hid (hC.lift q)
  have c72 : w.cell? ⟨g, 72, none⟩ = some (.int .u64 (l.length : Int)) := (hC.out.blk.cell 72).trans hC.out.cnt
  have hBh := Lib.hid hB
  have hrh := Lib.hid hr
  have hAh := Lib.hid hA
  replace hlen := Lib.hid hlen
  clear hB hr hA
  obtain ⟨n, hn⟩ : ∃ n, Hid (n = l.length) := ⟨_, rfl⟩
  obtain ⟨k, hk⟩ : ∃ k, Hid (k = q.length) := ⟨_, rfl⟩
  obtain ⟨a, ha⟩ : ∃ a, Hid (a = n % 64) := ⟨_, rfl⟩
  obtain ⟨i, hi⟩ : ∃ i, Hid (i = n / 64) := ⟨_, rfl⟩
  rw [← hn.out] at c72 hC hlen
  rw [← hk.out] at hlen hrh hAh hc ⊢
  rw [← ha.out, ← hi.out] at hC
  have hna : Hid (n = 64 * i + a ∧ a < 64) := by have := ha.out; have := hi.out; exact ⟨by omega, by omega⟩
  have e1 : (n : Int) % 64 = (a : Int) := by have := ha.out; omega
  have a64 : a < 64 := hna.out.2
  have az : (a : Int) < 64 := by omega
  have hX : ∀ (A : Option Addr) (n c m : Nat), m ≤ n → ∀ w, (Instr.sliceAt 31 (.slice A n c) (some (.int .i64 (m : Int))) none none).run Tryd.prog w = .ok (.slice (cutA A m c) (n - m) (c - m)) w := fun A n c m hm w => run_cut Tryd.underlying31 (fun _ => rfl) hm w
  go_enter Tryd.func130, Tryd.ntmps130
  go_upto_if 13 with fail
  go_cut [1] from 4 to 44 (fun p wc => ∃ (d r i' : Nat) (A' : Option Addr) (c' : Nat) (cs' : Array Value), p = .slice A' r c' ∧ r ≤ c' ∧ Hid (r + d = k) ∧ Hid (n + d = 64 * i') ∧ Hid (HC wc g (fold (l ++ q) i') 0 (blockF (l ++ q) i') (n + d) cs') ∧ Hid (Reads wc 1 A' r (cells8 (q.drop d))) ∧ Hid (0 < r → Off A' g) ∧ Hid (Kept (· = g) w wc))
  case first =>
    by_cases hz : 0 < a
    · have hzI : (0 : Int) < (a : Int) := by omega
      obtain ⟨m, hm⟩ : ∃ m, Hid (m = min k (64 - a)) := ⟨_, rfl⟩
      have hmk : m ≤ k := by have := hm.out; omega
      have hm64 : a + m ≤ 64 := by have := hm.out; omega
      have hml : (cells8 (q.take m)).length = m := by rw [cells8_len, List.length_take, ← hk.out]; omega
      have s1 := Lib.hid (hml.trans (show m = Nat.min k (64 - a) from hm.out))
      have s2 : Hid (0 < (cells8 (q.take m)).length → (some (⟨g, 8 + a, none⟩ : Addr) = some ⟨g, 8 + a, none⟩ ∧ ∃ ad, A = some ad ∧ ∀ j v, (cells8 (q.take m))[j]? = some v → w.cell? (ad.add j) = some v)) := fun h => ⟨rfl, Reads.src hrh.out m hmk (by omega)⟩
      have s3 : Hid (8 + a + (cells8 (q.take m)).length ≤ cs.size) := by show 8 + a + (cells8 (q.take m)).length ≤ cs.size; have := hC.out.size; omega
      have s4 := Lib.hid (cells8_one (q.take m))
      have hmlh := Lib.hid hml
      clear hml
      have X1 := hX A k c m hmk
      have X2 : ∀ w, (Instr.sliceAt 235 (.pointer (some ⟨g, 8, none⟩)) (some (.int .i64 (a : Int))) none none).run Tryd.prog w = .ok (.slice (some ⟨g, 8 + a, none⟩) (64 - a) (64 - a)) w := run_cutArr (N := 64) Tryd.underlying235 (by kernel_rfl) (fun _ => rfl) a64
      clear hX
      have qw : IntKind.u64.wrap ((n : Int) + (m : Int)) = (n : Int) + (m : Int) := by have := hlen.out; exact u64_in _ (by omega) (by omega)
      have qs : IntKind.i64.wrap ((a : Int) + (m : Int)) = (a : Int) + (m : Int) := IntWalk.i64_in _ (by omega)
      clear e1
      by_cases hful : (a : Int) + (m : Int) < 64
      · go_wp2_with ((with_reducible change wpList _ _ _ ({ dst := some 20, op := _, type := _, pos := _, after := _, guard := _ } :: _) _ _); refine wpList_copy_into (o := ⟨some 20, _, _, _, _, _⟩) rfl (.tmp 18) (.tmp 19) 31 31 rfl 5 Tryd.underlying31 size8 (some ⟨g, 8 + a, none⟩) A (64 - a) (64 - a) k c rfl rfl g (8 + a) cs 237 hC.out.blk (cells8 (q.take m)) s1.out s2.out s3.out s4.out w (Kept.refl _ _) m hmlh.out ?_; intro w1 hb1 hk1; obtain ⟨cs1, hC1⟩ : ∃ cs1, Hid (HC w1 g (fold (l ++ q) i) (a + m) (blockF (l ++ q) i) n cs1) := ⟨_, (hC.out.copied q m (by rw [← hk.out]; exact hmk) hm64 hb1.out).less (Nat.le_refl _) (fun j _ => (blockF_right l q i a j (hn.out.symm.trans hna.out.1)).symm)⟩; have c1 := (hC1.out.blk.cell 72).trans hC1.out.cnt; have f1 := hC1.out.blk.frozen 72; clear hb1)
        refine bodyPost_ret (results_none rfl _ _ _) rfl ?_
        have hmk2 : m = k := by have := hm.out; omega
        have e : (l ++ q).length = n + m := by rw [List.length_append, ← hn.out, ← hk.out]; omega
        have hc2 := hC1.out.count hm64 (n + m)
        refine ⟨rfl, Hh.mk_ (i := i) (r := a + m) (by omega) (by have := hna.out.1; omega) (by rw [e]; exact hc2), hk1.setCell (.inl rfl) _⟩
      · have hfe : (a : Int) + (m : Int) = 64 := by omega
        have am : Hid (a + m = 64) := by show a + m = 64; omega
        clear hful
        go_wp2_with ((with_reducible change wpList _ _ _ ({ dst := some 20, op := _, type := _, pos := _, after := _, guard := _ } :: _) _ _); refine wpList_copy_into (o := ⟨some 20, _, _, _, _, _⟩) rfl (.tmp 18) (.tmp 19) 31 31 rfl 5 Tryd.underlying31 size8 (some ⟨g, 8 + a, none⟩) A (64 - a) (64 - a) k c rfl rfl g (8 + a) cs 237 hC.out.blk (cells8 (q.take m)) s1.out s2.out s3.out s4.out w (Kept.refl _ _) m hmlh.out ?_; intro w1 hb1 hk1; obtain ⟨cs1, hC1⟩ : ∃ cs1, Hid (HC w1 g (fold (l ++ q) i) (a + m) (blockF (l ++ q) i) n cs1) := ⟨_, (hC.out.copied q m (by rw [← hk.out]; exact hmk) hm64 hb1.out).less (Nat.le_refl _) (fun j _ => (blockF_right l q i a j (hn.out.symm.trans hna.out.1)).symm)⟩; have c1 := (hC1.out.blk.cell 72).trans hC1.out.cnt; have f1 := hC1.out.blk.frozen 72; clear hb1)
        obtain ⟨cs2, hC2, hk2⟩ : ∃ cs2, Hid (HC (w1.setCell ⟨g, 72, none⟩ (.int .u64 ((n : Int) + (m : Int)))) g (fold (l ++ q) i) 64 (blockF (l ++ q) i) (n + m) cs2) ∧ Hid (Kept (· = g) w (w1.setCell ⟨g, 72, none⟩ (.int .u64 ((n : Int) + (m : Int))))) :=
          ⟨_, by rw [← am.out]; exact hC1.out.count (by omega) (n + m), hk1.setCell (.inl rfl) _⟩
        generalize w1.setCell ⟨g, 72, none⟩ (.int .u64 ((n : Int) + (m : Int))) = w2 at *
        have hB2 := Lib.hid (hBh.out.kept hk2.out (fun e => hg2 e.symm))
        go_still_tail 7, (by kernel_rfl)
        change wpList _ _ _ _ _ w2.drew
        go_wp2_with (go_at_call 166; refine (take_any g 237 cs2 (fold (l ++ q) i) g 8 64 (blockF (l ++ q) i) w2.drew hC2.out.blk hC2.out.st (fun j hj => (hC2.out.blk.cell (8 + j)).trans (hC2.out.buf j hj)) hC2.out.blk.lt hB2.out.2 hB2.out.1).mono ?_; rintro e w3 ⟨rfl, cs3, hI⟩)
        go_meet
        case rel =>
          have hk3 : Kept (· = g) w w3 := hk2.out.drew.trans hI.kept (fun _ _ h => h)
          refine ⟨m, k - m, i + 1, _, _, cs3, rfl, by omega, ?_, ?_, ?_, ?_, fun h => cutA_off (hAh.out (by omega)), hk3⟩
          · show k - m + m = k; omega
          · show n + m = 64 * (i + 1); have := hna.out.1; omega
          · show HC _ _ _ _ _ _ _
            rw [fold_succ]
            exact (HC.took (f' := blockF (l ++ q) i) (w := w2.drew) (hC2.out.drewN 1) hI).less (Nat.zero_le _) (fun j hj => absurd hj (by omega))
          · show Reads _ _ _ _ _
            have h1 := Reads.cut hrh.out m hmk hc
            have h2 : (cells8 q).drop m = cells8 (q.drop m) := by simp [cells8]
            rw [h2] at h1
            exact h1.kept0 hk3 (fun h b o e hb => cutA_off (hAh.out (by omega)) _ e hb)
    · have az0 : a = 0 := by omega
      have az1 : (a : Int) = 0 := by omega
      go_wp2_with fail
      go_meet
      case rel =>
        refine ⟨0, k, i, A, c, cs, rfl, hc, rfl, ?_, ?_, ?_, hAh.out, Kept.refl _ _⟩
        · show n + 0 = 64 * i; have := hna.out.1; omega
        · exact hC.out.less (Nat.zero_le _) (fun j hj => absurd hj (by omega))
        · exact hrh.out
  case rest =>
    obtain ⟨d0, r0, i0, A0, c0, cs0, rfl, hrc0, hrd0, hnd0, hC0, hR0, hO0, hK0⟩ := hcut
    clear c72 hrh hAh hC az e1 a64 hX
    obtain ⟨w9, rfl⟩ : ∃ w9 : World, w9 = wc := ⟨_, rfl⟩
    go_wp2_with fail
    go_loopw [1] (fun p wc => ∃ (d r i' : Nat) (A' : Option Addr) (c' : Nat) (cs' : Array Value), p = .slice A' r c' ∧ r ≤ c' ∧ Hid (r + d = k) ∧ Hid (n + d = 64 * i') ∧ Hid (HC wc g (fold (l ++ q) i') 0 (blockF (l ++ q) i') (n + d) cs') ∧ Hid (Reads wc 1 A' r (cells8 (q.drop d))) ∧ Hid (0 < r → Off A' g) ∧ Hid (Kept (· = g) w wc)) (fun p _ => lenV p)
    case atStart => exact ⟨d0, r0, i0, A0, c0, cs0, rfl, hrc0, hrd0, hnd0, hC0, hR0, hO0, hK0⟩
    case round =>
      clear hC0 hR0 hO0 hK0 hrd0 hnd0 hrc0
      obtain ⟨d, r, j, A1, c1, cs1, rfl, hrc, hrd, hnd, hC1, hR1, hO1, hK1⟩ := hrel
      have hB1 := Lib.hid (hBh.out.kept hK1.out (fun e => hg2 e.symm))
      by_cases h64 : (64 : Int) ≤ (r : Int)
      · obtain ⟨b, o, hA1⟩ : ∃ b o, A1 = some ⟨b, o, none⟩ := by obtain ⟨b, o, e, _⟩ := hR1.out.2 (by omega); exact ⟨b, o, e⟩
        subst hA1
        have hbl : b < wr.heap.size := by obtain ⟨b', o', e, hb, _⟩ := hR1.out.2 (by omega); injection e with e; injection e with e1; omega
        have hblh := Lib.hid hbl
        clear hbl
        have X3 : ∀ w, (Instr.sliceAt 31 (.slice (some ⟨b, o, none⟩) r c1) none (some (.int .i64 64)) none).run Tryd.prog w = .ok (.slice (some ⟨b, o, none⟩) 64 c1) w := run_cutH (m := 64) Tryd.underlying31 (fun _ => rfl) (by omega)
        have X4 : ∀ w, (Instr.sliceAt 31 (.slice (some ⟨b, o, none⟩) r c1) (some (.int .i64 64)) none none).run Tryd.prog w = .ok (.slice (cutA (some ⟨b, o, none⟩) 64 c1) (r - 64) (c1 - 64)) w := run_cut (m := 64) Tryd.underlying31 (fun _ => rfl) (by omega)
        go_wp2_with fail
        go_still_tail 5, (by kernel_rfl)
        change wpList _ _ _ _ _ wr.drew
        go_wp2_with (go_at_call 166; refine (take_any g 237 cs1 (fold (l ++ q) j) b o c1 (blockF (l ++ q) j) wr.drew hC1.out.blk hC1.out.st (fun x hx => (Reads.blk8 hR1.out x (by omega)).trans (by rw [blockF_q l q j d x (by rw [← hn.out]; exact hnd.out)])) hblh.out hB1.out.2 hB1.out.1).mono ?_; rintro e w3 ⟨rfl, cs3, hI⟩; obtain ⟨cs4, hC4⟩ : ∃ cs4, Hid (HC w3 g (fold (l ++ q) (j + 1)) 0 (blockF (l ++ q) (j + 1)) (n + d) cs4) := ⟨cs3, by rw [fold_succ]; exact (HC.took (f' := blockF (l ++ q) j) (w := wr.drew) (hC1.out.drewN 1) hI).less (Nat.zero_le _) (fun j hj => absurd hj (by omega))⟩; have c4 := (hC4.out.blk.cell 72).trans hC4.out.cnt; have f4 := hC4.out.blk.frozen 72; have k4 := Lib.hid hI.kept; have qw : IntKind.u64.wrap ((n : Int) + (d : Int) + 64) = (n : Int) + (d : Int) + 64 := (by have := hlen.out; have := hrd.out; exact u64_in _ (by omega) (by omega)); clear hI)
        go_roundw
        case rel =>
          have hk4 : Kept (· = g) w w3 := hK1.out.drew.trans k4.out (fun _ _ h => h)
          have h1 := Reads.cut hR1.out 64 (by omega) hrc
          have h2 : (cells8 (q.drop d)).drop 64 = cells8 (q.drop (d + 64)) := by simp [cells8]
          rw [h2] at h1
          have hk5 : Kept (· = g) wr (w3.setCell ⟨g, 72, none⟩ (.int .u64 ((n : Int) + (d : Int) + 64))) := ((Kept.refl (· = g) wr).drew.trans k4.out (fun _ _ h => h)).setCell (p := ⟨g, 72, none⟩) (.inl rfl) _
          have hs : n + (d + 64) = n + d + 64 := by omega
          refine ⟨d + 64, r - 64, j + 1, _, _, cs4.setIfInBounds 72 (.int .u64 ((n + d + 64 : Nat) : Int)), rfl, by omega, ?_, ?_, ?_, h1.kept0 hk5 (fun h b o e hb => cutA_off (hO1.out (by omega)) _ e hb), fun h => cutA_off (hO1.out (by omega)), hk4.setCell (.inl rfl) _⟩
          · show r - 64 + (d + 64) = k; have := hrd.out; omega
          · show n + (d + 64) = 64 * (j + 1); have := hnd.out; omega
          · rw [hs]; exact hC4.out.count (by omega) (n + d + 64)
        case measure => simp [lenV]; omega
      · have h63 : (r : Int) < 64 := by omega
        clear h64
        go_wp2_with fail
        have cc := (hC1.out.blk.cell 72).trans hC1.out.cnt
        have fc := hC1.out.blk.frozen 72
        have hdl : (q.drop d).length = r := by have := hR1.out.1; rw [cells8_len] at this; omega
        have hml : (cells8 ((q.drop d).take r)).length = r := by rw [cells8_len, List.length_take, hdl]; omega
        have s1 : Hid ((cells8 ((q.drop d).take r)).length = Nat.min r 64) := hml.trans (Nat.min_eq_left (by omega)).symm
        have s2 : Hid (0 < (cells8 ((q.drop d).take r)).length → (some (⟨g, 8, none⟩ : Addr) = some ⟨g, 8 + 0, none⟩ ∧ ∃ ad, A1 = some ad ∧ ∀ j v, (cells8 ((q.drop d).take r))[j]? = some v → wr.cell? (ad.add j) = some v)) := fun h => ⟨rfl, Reads.src hR1.out r (Nat.le_refl _) (by omega)⟩
        have s3 : Hid (8 + 0 + (cells8 ((q.drop d).take r)).length ≤ cs1.size) := by show 8 + 0 + (cells8 ((q.drop d).take r)).length ≤ cs1.size; have := hC1.out.size; omega
        have s4 := Lib.hid (cells8_one ((q.drop d).take r))
        have hmlh := Lib.hid hml
        have hdlh := Lib.hid hdl
        have qw : IntKind.u64.wrap ((n : Int) + (d : Int) + (r : Int)) = (n : Int) + (d : Int) + (r : Int) := by have := hlen.out; have := hrd.out; exact u64_in _ (by omega) (by omega)
        have qr : IntKind.u64.wrap (r : Int) = (r : Int) := by exact u64_in _ (by omega) (by omega)
        clear hml hdl
        go_region_law (refine step_copy_into (P := Tryd.prog) (w := wr.drew) (o := ⟨some 72, _, _, _, _, _⟩) rfl (.tmp 70) (.tmp 71) 31 31 rfl 5 Tryd.underlying31 size8 (some ⟨g, 8, none⟩) A1 64 64 r c1 ?hd ?hs g (8 + 0) cs1 237 hC1.out.blk (cells8 ((q.drop d).take r)) s1.out s2.out s3.out s4.out wr ((Kept.refl _ wr).drew) r hmlh.out ?_; (case hd => go_simp); (case hs => go_simp); intro w5 hb5 hk5; obtain ⟨cs5, hC5⟩ : ∃ cs5, Hid (HC w5 g (fold (l ++ q) j) r (blockF (l ++ q) j) (n + d) cs5) := ⟨_, (hC1.out.copied (q.drop d) r (by rw [hdlh.out]; exact Nat.le_refl _) (by omega) hb5.out).less (by omega) (fun x _ => by rw [blockF_q l q j d x (by rw [← hn.out]; exact hnd.out), if_neg (by omega)]; simp [List.getD])⟩; have c5 := (hC5.out.blk.cell 72).trans hC5.out.cnt; have f5 := hC5.out.blk.frozen 72; clear hb5)
        all_goals go_end0
        all_goals
          have eL : (l ++ q).length = n + d + r := by rw [List.length_append, ← hn.out, ← hk.out]; have := hrd.out; omega
          have hc6 := hC5.out.count (by omega) (n + d + r)
          refine ⟨rfl, Hh.mk_ (i := j) (r := r) (by omega) (by have := hnd.out; omega) (by rw [eL]; exact hc6), ?_⟩
          exact (hK1.out.trans hk5 (fun _ _ h => h)).setCell (p := ⟨g, 72, none⟩) (.inl rfl) _
end Go.Proofs.YtgldkfaiofkhbaaDoor.Hash

namespace Go.Proofs.YtgldkfaiofkhbaaDoor.HashSum
open Go Go.RowKit Go.Proofs.YtgldkfaiofkhbaaDoor Go.Proofs.YtgldkfaiofkhbaaDoor.Mem Go.Proofs.YtgldkfaiofkhbaaDoor.Sha Go.Proofs.YtgldkfaiofkhbaaDoor.ShaWalk Go.Proofs.YtgldkfaiofkhbaaDoor.Bytes Go.Proofs.YtgldkfaiofkhbaaDoor.HashMem Go.Proofs.YtgldkfaiofkhbaaDoor.Hash

/-- How many bytes the program lays behind a text, the length's eight aside. -/
def pads (n : Nat) : Nat := (119 - n % 64) % 64 + 1
theorem pads_ok (n : Nat) : 1 ≤ pads n ∧ pads n ≤ 64 ∧ (n + pads n) % 64 = 56 := by unfold pads; omega
theorem pads_not (n k : Nat) (h1 : 1 ≤ k) (h2 : k < pads n) : (n % 64 + k) % 64 ≠ 56 := by unfold pads at h2; omega
theorem pads_yes (n : Nat) : (n % 64 + pads n) % 64 = 56 := by unfold pads; omega
theorem write_k (l q : Text) (k : Nat) (hk : q.length = k) (g : Nat) (A : Option Addr) (c : Nat) (w : World) (hB : Base w) (hg2 : g ≠ 1) (hh : Hh w g l) (hlen : l.length + k < 2305843009213693952)
    (hr : Reads w 1 A k (cells8 q)) (hA : 0 < k → Off A g) (hc : k ≤ c) :
    Calls Tryd.prog 130 #[.pointer (some ⟨g, 0, none⟩), .slice A k c] w fun e w' => e = .returned (.tuple #[]) ∧ Hh w' g (l ++ q) ∧ Kept (· = g) w w' := by
  subst hk
  exact write_any l q g A c w hB hg2 hh hlen hr hA hc
theorem size115 : (Tryd.prog.info? 237).map (·.size) = some 73 := by kernel_rfl
theorem size112 : (Tryd.prog.info? 233).map (·.size) = some 8 := by kernel_rfl

/-- The end's cells behind i bytes of the length. -/
def endTab (n K i j : Nat) : Value := .int .u8 (if j = 0 then 128 else if K ≤ j ∧ j < K + i then b8 (lenByte n (56 - 8 * (j - K))) else 0)
theorem endTab_succ (n K i j : Nat) (hK : 1 ≤ K) : endTab n K (i + 1) j = if j = K + i then .int .u8 (b8 (lenByte n (56 - 8 * i))) else endTab n K i j := by
  unfold endTab
  by_cases h : j = K + i
  · subst h
    rw [if_pos rfl, if_neg (by omega), if_pos (by omega)]
    congr 4
    omega
  · rw [if_neg h]
    by_cases h0 : j = 0
    · rw [if_pos h0, if_pos h0]
    · rw [if_neg h0, if_neg h0]
      by_cases h1 : K ≤ j ∧ j < K + i
      · rw [if_pos h1, if_pos (by omega)]
      · rw [if_neg h1, if_neg (by omega)]
theorem b8_len (n s : Nat) (h : 8 * n < 18446744073709551616) : (8 * (n : Int)) / 2 ^ s % 256 = b8 (lenByte n s) := by
  unfold b8 lenByte
  rw [BitVec.toNat_ofNat, Nat.mod_eq_of_lt h]
  simp
theorem endTab_zero (n K j : Nat) (Z : Array Value) (hZ : Z = Array.replicate 128 (.int .u8 0)) (hj : j < 128) : (Z.setIfInBounds 0 (.int .u8 128))[j]? = some (endTab n K 0 j) := by
  subst hZ
  unfold endTab
  rw [Array.getElem?_setIfInBounds]
  by_cases h : j = 0
  · subst h
    simp
  · rw [if_neg (by omega), if_neg h, if_neg (by omega), Array.getElem?_replicate, if_pos hj]
theorem endTab_reads {n K j : Nat} (h1 : 1 ≤ K) {v : Value} (hv : (cells8 (endOf n K))[j]? = some v) : endTab n K 8 j = v := by
  have hj : j < K + 8 := by
    have := (List.getElem?_eq_some_iff.1 hv).1
    rw [cells8_len, endOf_len _ _ h1] at this
    exact this
  rw [cells8_at _ _ (by rw [endOf_len _ _ h1]; exact hj)] at hv
  obtain rfl := Option.some.inj hv
  unfold endTab cell8
  congr 1
  unfold endOf
  by_cases h0 : j = 0
  · subst h0
    rw [if_pos rfl]
    simp [List.getD, b8]
  · rw [if_neg h0]
    by_cases h2 : K ≤ j ∧ j < K + 8
    · rw [if_pos h2, getD_right _ _ _ (by simp; omega)]
      simp only [List.length_append, List.length_singleton, List.length_replicate]
      simp only [List.getD, List.getElem?_map]
      rw [List.getElem?_range (by omega)]
      simp only [Option.map_some, Option.getD_some]
      congr 2
      omega
    · rw [if_neg h2, getD_left _ _ _ (by simp; omega), getD_right _ _ _ (by simp; omega)]
      simp only [List.getD, List.getElem?_replicate, List.length_singleton]
      rw [if_pos (by omega)]
      rfl
/-- The sum's cells behind t bytes. -/
def outTab (S : St) (t j : Nat) : Value := .int .u8 (if j < t then b8 (Sha.byteOf (S.get (j / 4)) (24 - 8 * (j % 4))) else 0)
theorem outTab_succ (S : St) (i j x : Nat) (hj : j < 4) : outTab S (4 * i + (j + 1)) x = if x = 4 * i + j then .int .u8 (b8 (Sha.byteOf (S.get i) (24 - 8 * j))) else outTab S (4 * i + j) x := by
  unfold outTab
  by_cases h : x = 4 * i + j
  · subst h
    rw [if_pos rfl, if_pos (by omega)]
    have e1 : (4 * i + j) / 4 = i := by omega
    have e2 : (4 * i + j) % 4 = j := by omega
    rw [e1, e2]
  · rw [if_neg h]
    by_cases h1 : x < 4 * i + j
    · rw [if_pos h1, if_pos (by omega)]
    · rw [if_neg h1, if_neg (by omega)]
theorem outTab_all (l : Text) (cs : Array Value) (hs : cs.size = 32) (hc : ∀ j, j < 32 → cs[j]? = some (outTab (fold (padded l) (whole l.length / 64)) 32 j)) : cs = (cells8 (sum l)).toArray := by
  apply Array.ext_getElem?
  intro j
  by_cases hj : j < 32
  · rw [hc j hj, List.getElem?_toArray, cells8_at _ _ (by rw [sum_len]; exact hj)]
    unfold outTab sum bytesOf cell8
    rw [if_pos hj]
    simp only [List.getD, List.getElem?_map]
    rw [List.getElem?_range hj]
    rfl
  · rw [Array.getElem?_eq_none (by omega), List.getElem?_toArray, List.getElem?_eq_none (by rw [cells8_len, sum_len]; omega)]
theorem outTab_zero (S : St) (j : Nat) (hj : j < 32) : Z32[j]? = some (outTab S 0 j) := by
  have e : Z32 = Array.replicate 32 (.int .u8 0) := rfl
  rw [e, Array.getElem?_replicate, if_pos hj]
  unfold outTab
  rw [if_neg (by omega)]
theorem padded_len (l : Text) : (padded l).length = whole l.length := by simp [padded]

/-- A state as the values of its eight cells. -/
def stVals (S : St) : List Value := (List.range 8).map fun j => .int .u32 (u (S.get j))
theorem stVals_len (S : St) : (stVals S).length = 8 := by simp [stVals]
theorem stVals_at (S : St) (j : Nat) (hj : j < 8) : (stVals S)[j]? = some (.int .u32 (u (S.get j))) := by
  unfold stVals
  rw [List.getElem?_map, List.getElem?_range hj]
  rfl
theorem stCells {w : World} {g k n : Nat} {S : St} {f : Nat → BitVec 8} {cs : Array Value} (h : HC w g S k f n cs) : ∀ j v, (stVals S)[j]? = some v → w.cell? ⟨g, 0 + j, none⟩ = some v := by
  intro j v hv
  have hj : j < 8 := by
    have := (List.getElem?_eq_some_iff.1 hv).1
    rwa [stVals_len] at this
  rw [Nat.zero_add, h.blk.cell j, h.st j hj, ← stVals_at S j hj, hv]
theorem sumStart {w w1 : World} {g k n : Nat} {s : St} {f : Nat → BitVec 8} {cs : Array Value} (hC : HC w g s k f n cs) {ZA old : Array Value} {tA : TypeId}
    (hW : ((w.alloc (.cells ZA tA)).alloc (.cells old 237)).setRow (w.heap.size + 1) cs = w1) :
    HC w1 (w.heap.size + 1) s k f n cs ∧ Blk w1 w.heap.size tA ZA ∧ Below w.heap.size w w1 ∧ w1.heap.size = w.heap.size + 2 := by
  subst hW
  refine ⟨⟨setRow_heap _ _ _ _ _ _ (heap_alloc2_new w _ _), hC.size, hC.one, hC.st, hC.buf, hC.cnt⟩, ?_, ?_, by simp⟩
  · unfold Blk
    rw [setRow_other _ _ _ _ (by omega)]
    exact heap_alloc2_old w _ _
  · exact below_setRow (((Below.refl _ w).alloc (Nat.le_refl _) _).alloc (by simp) _) (by omega) _

set_option maxRecDepth 100000 in
set_option maxHeartbeats 600000 in
theorem sum_any (l : Text) (g : Nat) (w : World) (hB : Base w) (hh : Hh w g l) (hlen : l.length < 288230376151711744) :
    Calls Tryd.prog 131 #[.pointer (some ⟨g, 0, none⟩)] w fun e w' => e = .returned (.agg (cells8 (sum l)).toArray) ∧ Below w.heap.size w w' := by
  obtain ⟨cs, hC⟩ := hh
  obtain ⟨n, hn⟩ : ∃ n, Hid (n = l.length) := ⟨_, rfl⟩
  replace hC := Lib.hid hC
  have hg : Hid (g < w.heap.size) := hC.out.blk.lt
  have g72 : Hid (w.cell? ⟨g, 72, none⟩ = some (.int .u64 (n : Int))) := by show _ = _; rw [hn.out]; exact (hC.out.blk.cell 72).trans hC.out.cnt
  replace hB := Lib.hid hB
  replace hlen : Hid (n < 288230376151711744) := by show _ < _; rw [hn.out]; exact hlen
  have qw : IntKind.u64.wrap (8 * (n : Int)) = 8 * (n : Int) := by have := hlen.out; exact u64_in _ (by omega) (by omega)
  have sz : Hid ((Tryd.prog.info? 237).map (·.size) = some cs.size) := size115.trans (congrArg some hC.out.size.symm)
  have oz : Hid (cs.all (fun v => v.oneCell') = true) := Array.all_eq_true.2 fun i hi => hC.out.one i _ (Array.getElem?_eq_getElem hi)
  go_enter Tryd.func131, Tryd.ntmps131
  go_wp2_with (first | ((with_reducible change wpList _ _ _ ({ dst := some 14, op := _, type := _, pos := _, after := _, guard := _ } :: _) _ _); refine wpList_load_row (o := ⟨some 14, _, _, _, _, _⟩) rfl 237 (.tmp 13) rfl g rfl 237 cs (0, 0) _ (hC.out.blk.alloc _) Tryd.underlying237 rfl sz.out ?_) | ((with_reducible change wpList _ _ _ ({ dst := none, op := Op.store 237 _ _, type := _, pos := _, after := _, guard := _ } :: _) _ _); refine wpList_store_row (o := ⟨none, _, _, _, _, _⟩) rfl 237 (.tmp 3) (.tmp 14) rfl (w.heap.size + 1) cs rfl rfl 237 _ (heap_alloc2_new w _ _) sz.out (Eq.trans (by kernel_rfl) hC.out.size.symm) oz.out ?_; generalize hW : World.setRow _ (w.heap.size + 1) cs = w1; obtain ⟨hC1, hr1, hb1, hz1⟩ := sumStart hC.out hW; replace hC1 := Lib.hid hC1; replace hr1 := Lib.hid hr1; replace hb1 := Lib.hid hb1; replace hz1 := Lib.hid hz1; have c72 : w1.cell? ⟨w.heap.size + 1, 72, none⟩ = some (.int .u64 (n : Int)) := (by rw [hn.out]; exact (hC1.out.blk.cell 72).trans hC1.out.cnt); clear hW))
  obtain ⟨E, hE⟩ : ∃ E, Hid (E = w1.heap.size) := ⟨_, rfl⟩
  obtain ⟨K, hK⟩ : ∃ K, Hid (K = pads n) := ⟨_, rfl⟩
  have hK1 : Hid (1 ≤ K ∧ K ≤ 64 ∧ (n + K) % 64 = 56) := by show _ ∧ _; rw [hK.out]; exact pads_ok n
  obtain ⟨w2, hw2, ht2⟩ : ∃ w2, Hid (w2 = w1.alloc (Obj.cells (Tryd.zeroCells238.setIfInBounds 0 (Value.int IntKind.u8 128)) 238)) ∧ Hid (Tab w2 E 238 128 (endTab n K 0)) :=
    ⟨_, rfl, by show Tab _ _ _ _ _; rw [hE.out]; exact Tab.new w1 _ _ 128 _ (by kernel_rfl) (fun j hj => endTab_zero n K j _ (by kernel_rfl) hj)⟩
  have hC2 : Hid (HC w2 (w.heap.size + 1) (fold l (l.length / 64)) (l.length % 64) (blockF l (l.length / 64)) l.length cs) := by show HC _ _ _ _ _ _ _; rw [hw2.out]; exact hC1.out.alloc _
  have hr2 := hr1.out.alloc (Obj.cells (Tryd.zeroCells238.setIfInBounds 0 (Value.int IntKind.u8 128)) 238)
  rw [← hw2.out] at hr2
  have hrA : Hid (Blk w2 w.heap.size 23 Z32) := hr2
  clear hr2
  have hb2 : Hid (Below w.heap.size w w2) := by show Below _ _ _; rw [hw2.out]; exact hb1.out.alloc hb1.out.size _
  have hz2 : Hid (E = w.heap.size + 2 ∧ w2.heap.size = E + 1) := by show _ ∧ _; rw [hE.out, hw2.out, hz1.out]; simp [hz1.out]
  have g2 : w2.cell? ⟨g, 72, none⟩ = some (.int .u64 (n : Int)) := (hb2.out.cell (p := ⟨g, 72, none⟩) hg.out).trans g72.out
  rw [← hE.out, ← hw2.out]
  clear hw2 hC1 hr1 hb1 hz1 c72 hE hC sz oz
  obtain ⟨a, ha⟩ : ∃ a, Hid (a = n % 64) := ⟨_, rfl⟩
  have e1 : (n : Int) % 64 = (a : Int) := by have := ha.out; omega
  go_loopw [6] (fun v wr => ∃ k : Nat, v = .int .i64 (k : Int) ∧ Hid (1 ≤ k ∧ k ≤ K) ∧ wr = w2) (fun v _ => 64 - (intOf v).toNat)
  case atStart => exact ⟨1, rfl, ⟨Nat.le_refl _, hK1.out.1⟩, rfl⟩
  case round =>
    obtain ⟨k, rfl, hk, rfl⟩ := hrel
    have hkw : IntKind.i64.wrap ((a : Int) + (k : Int)) = (a : Int) + (k : Int) := by have := ha.out; have := hk.out; have := hK1.out; exact IntWalk.i64_in _ (by omega)
    have hk0 : (0 : Int) ≤ (a : Int) + (k : Int) := by omega
    have hkb : (k : Int) ≤ 64 := by have := hk.out; have := hK1.out; omega
    have hkb1 : (1 : Int) ≤ (k : Int) := by have := hk.out; omega
    by_cases hkK : k = K
    · have he : ((a : Int) + (k : Int)) % 64 = 56 := by have := pads_yes n; rw [← hK.out, ← ha.out, ← hkK] at this; omega
      subst hkK
      go_wp2_with fail
      clear hkw hk0 he e1 g2
      obtain ⟨w2, rfl⟩ : ∃ w2 : World, w2 = wr := ⟨_, rfl⟩
      go_loopw [31] (fun v wr => ∃ i : Nat, v = .int .i64 (i : Int) ∧ i ≤ 8 ∧ Hid (Tab wr E 238 128 (endTab n k i)) ∧ Hid (Below E w2 wr)) (fun v _ => 8 - (intOf v).toNat)
      case atStart => exact ⟨0, rfl, by omega, ht2.out, Below.refl _ _⟩
      case round =>
        obtain ⟨i, rfl, hi, ht, hb⟩ := hrel
        by_cases hlt : i < 8
        · have hz : (i : Int) < 8 := by omega
          have s0 : wr.cell? ⟨E, k + i, none⟩ = some (endTab n k i (k + i)) := ht.out.cell (by omega)
          have s1 : wr.frozen? ⟨E, k + i, none⟩ = false := ht.out.frozen _
          have x0 : IntKind.i64.wrap ((k : Int) + (i : Int)) = (k : Int) + (i : Int) := IntWalk.i64_in _ (by omega)
          have x1 : IntKind.i64.wrap (8 * (i : Int)) = 8 * (i : Int) := IntWalk.i64_in _ (by omega)
          have x2 : IntKind.i64.wrap (56 - 8 * (i : Int)) = 56 - 8 * (i : Int) := IntWalk.i64_in _ (by omega)
          have x3 : (0 : Int) ≤ 56 - 8 * (i : Int) := by omega
          have x4 : (56 - 8 * (i : Int)).toNat = 56 - 8 * i := by omega
          have x5 : (0 : Int) ≤ (k : Int) + (i : Int) := by omega
          have x6 : (k : Int) + (i : Int) < 128 := by omega
          have x7 : ((k : Int) + (i : Int)).toNat = k + i := by omega
          go_wp2_with fail
          go_roundw
          case rel =>
            refine ⟨i + 1, by go_num, by omega, ht.out.set_ (k + i) _ (fun j _ => ?_), hb.out.setCell (Nat.le_refl _) _⟩
            rw [endTab_succ n k i j hk.out.1, b8_len n (56 - 8 * i) (by have := hlen.out; omega)]
          case measure => clear x0 x1 x2 x4 x7; simp [intOf]; omega
        · have h8 : i = 8 := by omega
          subst h8
          clear hlt hi
          obtain ⟨w4, rfl⟩ : ∃ w4 : World, w4 = wr := ⟨_, rfl⟩
          have hb4 : Hid (Below w.heap.size w w4) := hb2.out.trans (hb.out.mono (by have := hz2.out; omega))
          have hC4 : Hid (Hh w4 (w.heap.size + 1) l) := ⟨cs, hC2.out.below hb.out (by have := hz2.out; omega)⟩
          have hB4 : Hid (Base w4) := hB.out.below hb4.out hB.out.1
          have X9 : ∀ w, (Instr.sliceAt 238 (.pointer (some ⟨E, 0, none⟩)) none (some (.int .i64 ((k : Int) + 8))) none).run Tryd.prog w = .ok (.slice (some ⟨E, 0, none⟩) (k + 8) 128) w := run_cutArrH (N := 128) Tryd.underlying238 (by kernel_rfl) (fun _ => rfl) (by omega) _ (by omega)
          have hR4 : Hid (Reads w4 1 (some ⟨E, 0, none⟩) (k + 8) (cells8 (endOf n k))) := ⟨by rw [cells8_len, endOf_len _ _ hk.out.1]; omega, fun _ => ⟨E, 0, rfl, ht.out.lt, fun j u hu => by
            have hj : j < k + 8 := by
              have := (List.getElem?_eq_some_iff.1 hu).1
              rw [cells8_len, endOf_len _ _ hk.out.1] at this
              exact this
            rw [Nat.zero_add, ht.out.cell (by omega), endTab_reads hk.out.1 hu]⟩⟩
          have hO4 : Hid (Off (some ⟨E, 0, none⟩) (w.heap.size + 1)) := fun a e => by
            injection e with e
            subst e
            have := hz2.out
            show E ≠ w.heap.size + 1
            omega
          have hg4 : Hid (w.heap.size + 1 ≠ 1) := by have := hB.out.1; show w.heap.size + 1 ≠ 1; omega
          have hl4 : Hid (l.length + (k + 8) < 2305843009213693952) := by have := hlen.out; rw [hn.out] at this; show _ < _; omega
          have hp : Hid (l ++ endOf n k = padded l) := by show _ = _; rw [hn.out]; exact endOf_eq l k hk.out.1 hK1.out.2.1 (by rw [← hn.out]; exact hK1.out.2.2)
          obtain ⟨S, hS⟩ : ∃ S, Hid (S = fold (padded l) (whole l.length / 64)) := ⟨_, rfl⟩
          go_wp2_with (first | ((with_reducible change wpList _ _ _ ({ dst := some 50, op := _, type := _, pos := _, after := _, guard := _ } :: _) _ _); refine wpList_load_part (o := ⟨some 50, _, _, _, _, _⟩) rfl 233 (.tmp 49) rfl (w.heap.size + 1) 0 rfl (stVals S) _ (stCells (hC5.out.alloc _)) Tryd.underlying233 rfl (size112.trans (congrArg some (stVals_len S).symm)) ?_) | (go_at_call 130; refine (write_k l (endOf n k) (k + 8) (endOf_len n k hk.out.1) (w.heap.size + 1) (some ⟨E, 0, none⟩) 128 w4 hB4.out hg4.out hC4.out hl4.out hR4.out (fun _ => hO4.out) (by omega)).mono ?_; rintro e w5 ⟨rfl, hC5, hk5⟩; rw [hp.out] at hC5; obtain ⟨cs5, hC5⟩ := hC5; rw [padded_len, ← hS.out] at hC5; replace hC5 := Lib.hid hC5; replace hk5 := Lib.hid hk5))
          clear X9
          have hrB : Hid (Blk w5 w.heap.size 23 Z32) := (hk5.out.block w.heap.size (by have := hz2.out; have := hb.out.size; omega) (by omega)).trans ((hb.out.block w.heap.size (by have := hz2.out; omega)).trans hrA.out)
          have hb5 : Hid (Below w.heap.size w w5) := ⟨hk5.out.os.trans hb4.out.os, hk5.out.tape.trans hb4.out.tape, hk5.out.output.trans hb4.out.output, Nat.le_trans hb4.out.size hk5.out.size, fun x hx => (hk5.out.block x (by have := hb4.out.size; omega) (by omega)).trans (hb4.out.block x hx)⟩
          obtain ⟨F, hF⟩ : ∃ F, Hid (F = w5.heap.size) := ⟨_, rfl⟩
          obtain ⟨w6, hw6⟩ : ∃ w6, Hid (w6 = w5.alloc (Obj.cells #[Value.int IntKind.u8 0, Value.int IntKind.u8 0, Value.int IntKind.u8 0, Value.int IntKind.u8 0, Value.int IntKind.u8 0, Value.int IntKind.u8 0, Value.int IntKind.u8 0, Value.int IntKind.u8 0, Value.int IntKind.u8 0, Value.int IntKind.u8 0, Value.int IntKind.u8 0, Value.int IntKind.u8 0, Value.int IntKind.u8 0, Value.int IntKind.u8 0, Value.int IntKind.u8 0, Value.int IntKind.u8 0, Value.int IntKind.u8 0, Value.int IntKind.u8 0, Value.int IntKind.u8 0, Value.int IntKind.u8 0, Value.int IntKind.u8 0, Value.int IntKind.u8 0, Value.int IntKind.u8 0, Value.int IntKind.u8 0, Value.int IntKind.u8 0, Value.int IntKind.u8 0, Value.int IntKind.u8 0, Value.int IntKind.u8 0, Value.int IntKind.u8 0, Value.int IntKind.u8 0, Value.int IntKind.u8 0, Value.int IntKind.u8 0] 23)) := ⟨_, rfl⟩
          have ht6 : Hid (Tab w6 F 23 32 (outTab S 0)) := by show Tab _ _ _ _ _; rw [hF.out, hw6.out]; exact Tab.new w5 _ _ 32 _ rfl (fun j hj => outTab_zero S j hj)
          have hr6 : Hid (Blk w6 w.heap.size 23 Z32) := by show Blk _ _ _ _; rw [hw6.out]; exact hrB.out.alloc _
          have hb6 : Hid (Below w.heap.size w w6) := by show Below _ _ _; rw [hw6.out]; exact hb5.out.alloc hb5.out.size _
          have hf6 : Hid (w.heap.size < F) := by show _ < _; rw [hF.out]; exact hrB.out.lt
          rw [← hF.out, ← hw6.out]
          clear hw6 hrB hb5 hk5 hC5 hC4 hB4 hR4 hO4 hb4 hb ht hC2 hb2 ht2 hF
          go_loopw [51] (fun v wr => ∃ i : Nat, v = .int .i64 (i : Int) ∧ i ≤ 8 ∧ Hid (Tab wr F 23 32 (outTab S (4 * i))) ∧ Hid (Below F w6 wr)) (fun v _ => 8 - (intOf v).toNat)
          case atStart => exact ⟨0, rfl, by omega, ht6.out, Below.refl _ _⟩
          case round =>
            clear ht6
            obtain ⟨i, rfl, hi, ht, hb⟩ := hrel
            by_cases hlt : i < 8
            · have hz : (i : Int) < 8 := by omega
              have hX : ∀ w, (Instr.index 233 (.agg (stVals S).toArray) (.int .i64 (i : Int))).run Tryd.prog w = .ok (.int .u32 (u (S.get i))) w := fun w => run_index_agg (stVals S).toArray .i64 (i : Int) (.int .u32 (u (S.get i))) Tryd.underlying233 (fun _ => rfl) (run_isAgg_int Tryd.underlying152) (by omega) (by omega) (by rw [Int.toNat_natCast, List.getElem?_toArray]; exact stVals_at S i hlt) w
              obtain ⟨w7, rfl⟩ : ∃ w7 : World, w7 = wr := ⟨_, rfl⟩
              go_wp2_with fail
              clear hX
              go_loopw [55] (fun v wr => ∃ j : Nat, v = .int .i64 (j : Int) ∧ j ≤ 4 ∧ Hid (Tab wr F 23 32 (outTab S (4 * i + j))) ∧ Hid (Below F w6 wr)) (fun v _ => 4 - (intOf v).toNat)
              case atStart => exact ⟨0, rfl, by omega, ht.out, hb.out⟩
              case round =>
                clear ht hb
                obtain ⟨j, rfl, hj, ht, hb⟩ := hrel
                by_cases hlj : j < 4
                · have hzj : (j : Int) < 4 := by omega
                  have s0 : wr.cell? ⟨F, 4 * i + j, none⟩ = some (outTab S (4 * i + j) (4 * i + j)) := ht.out.cell (by omega)
                  have s1 : wr.frozen? ⟨F, 4 * i + j, none⟩ = false := ht.out.frozen _
                  have x0 : IntKind.i64.wrap (4 * (i : Int) + (j : Int)) = 4 * (i : Int) + (j : Int) := IntWalk.i64_in _ (by omega)
                  have x1 : IntKind.i64.wrap (8 * (j : Int)) = 8 * (j : Int) := IntWalk.i64_in _ (by omega)
                  have x2 : IntKind.i64.wrap (24 - 8 * (j : Int)) = 24 - 8 * (j : Int) := IntWalk.i64_in _ (by omega)
                  have x3 : (0 : Int) ≤ 24 - 8 * (j : Int) := by omega
                  have x4 : (24 - 8 * (j : Int)).toNat = 24 - 8 * j := by omega
                  have x5 : (0 : Int) ≤ 4 * (i : Int) + (j : Int) := by omega
                  have x6 : 4 * (i : Int) + (j : Int) < 32 := by omega
                  have x7 : (4 * (i : Int) + (j : Int)).toNat = 4 * i + j := by omega
                  have x8 : IntKind.i64.wrap (4 * (i : Int)) = 4 * (i : Int) := IntWalk.i64_in _ (by omega)
                  go_wp2_with fail
                  go_roundw
                  case rel =>
                    refine ⟨j + 1, by go_num, by omega, ht.out.set_ (4 * i + j) _ (fun x _ => ?_), hb.out.setCell (Nat.le_refl _) _⟩
                    rw [outTab_succ S i j x hlj, u_byte]
                  case measure => clear x0 x1 x2 x4 x7 x8; simp [intOf]; omega
                · have h4 : j = 4 := by omega
                  subst h4
                  go_wp2_with fail
                  go_roundw
                  case rel =>
                    exact ⟨i + 1, by go_num, by omega, ht.out, hb.out⟩
                  case measure => simp [intOf]; omega
            · have h8 : i = 8 := by omega
              subst h8
              obtain ⟨w7, rfl⟩ : ∃ w7 : World, w7 = wr := ⟨_, rfl⟩
              obtain ⟨c8, hc8, hs8, hv8⟩ := ht.out
              have hq : c8 = (cells8 (sum l)).toArray := outTab_all l c8 hs8 (by rw [← hS.out]; exact hv8)
              rw [hq] at hc8
              have hc8h := Lib.hid hc8
              have hs8h : Hid ((Tryd.prog.info? 23).map (·.size) = some (cells8 (sum l)).toArray.size) := size31.trans (congrArg some (by rw [← hq, hs8]))
              have ho8 : Hid ((Z32 : Array Value).size = (cells8 (sum l)).toArray.size) := (by rw [← hq, hs8]; rfl : (Z32 : Array Value).size = (cells8 (sum l)).toArray.size)
              have h18 : Hid ((cells8 (sum l)).toArray.all (fun v => v.oneCell') = true) := by show Array.all _ _ = true; rw [List.all_toArray]; exact List.all_eq_true.2 (cells8_one (sum l))
              have hr7 : Hid (Blk w7 w.heap.size 23 Z32) := (hb.out.block w.heap.size hf6.out).trans hr6.out
              clear hc8 hq hv8 hs8
              go_wp2_with (first | ((with_reducible change wpList _ _ _ ({ dst := some 71, op := _, type := _, pos := _, after := _, guard := _ } :: _) _ _); refine wpList_load_row (o := ⟨some 71, _, _, _, _, _⟩) rfl 23 (.tmp 8) rfl F rfl 23 (cells8 (sum l)).toArray (0, 0) _ hc8h.out Tryd.underlying23 rfl hs8h.out ?_) | ((with_reducible change wpList _ _ _ ({ dst := none, op := Op.store 23 _ _, type := _, pos := _, after := _, guard := _ } :: _) _ _); refine wpList_store_row (o := ⟨none, _, _, _, _, _⟩) rfl 23 (.tmp 2) (.tmp 71) rfl w.heap.size (cells8 (sum l)).toArray rfl rfl 23 Z32 hr7.out hs8h.out ho8.out h18.out ?_))
              refine bodyPost_ret (results_cell_row rfl _ _ w.heap.size 23 (cells8 (sum l)).toArray (0, 0) _ rfl (setRow_heap _ _ _ _ _ _ hr7.out) Tryd.underlying23 rfl hs8h.out) rfl ?_
              exact ⟨rfl, below_setRow (hb6.out.trans (hb.out.mono (by have := hf6.out; omega))) (Nat.le_refl _) _⟩
    · have he : ((a : Int) + (k : Int)) % 64 ≠ 56 := by have := pads_not n k hk.out.1 (by rw [← hK.out]; have := hk.out; omega); rw [← ha.out] at this; omega
      go_wp2_with fail
      go_roundw
      case rel =>
        exact ⟨k + 1, by go_num, by have := hk.out; show _ ∧ _; omega, by trivial⟩
      case measure => have := hk.out; have := hK1.out; clear hkw he e1; simp [intOf]; omega
end Go.Proofs.YtgldkfaiofkhbaaDoor.HashSum

namespace Go.Proofs.YtgldkfaiofkhbaaDoor.DigestMem
open Go Go.RowKit Go.Proofs.YtgldkfaiofkhbaaDoor Go.Proofs.YtgldkfaiofkhbaaDoor.Mem Go.Proofs.YtgldkfaiofkhbaaDoor.Sha Go.Proofs.YtgldkfaiofkhbaaDoor.ShaWalk Go.Proofs.YtgldkfaiofkhbaaDoor.Bytes Go.Proofs.YtgldkfaiofkhbaaDoor.HashMem

/-- clear(s), s a part of a row that is known whole. -/
theorem run_clear_row {P : Program} (w : World) (t e ty : TypeId) (z : Value) (ht : P.underlying t = some (.slice e)) (hv : ∀ w, (zeroValue e).run P w = .ok z w) (hz : z.cells = #[z]) (h1 : z.oneCell' = true) (g o n c : Nat) (hn : 0 < n)
    (cur : Array Value) (T : TypeId) (hg : Blk w g T cur) (hfit : o + n ≤ cur.size) :
    (Builtin.clear_ #[t] ty #[.slice (some ⟨g, o, none⟩) n c]).run P w = .ok (.tuple #[]) (w.setRow g (splice cur.toList o (List.replicate n z)).toArray) := by
  have hzc : (Builtin.zeroCells z.cells n).toList = List.replicate n z := by
    rw [hz]
    simp [Builtin.zeroCells]
    apply List.ext_getElem
    · simp
    · intro i h1 h2
      simp [Nat.mod_one]
  have hst := run_storeCells_at (P := P) g o T (List.replicate n z) 0 cur w hg (by simpa using hfit) (by intro v hv'; rw [List.eq_of_mem_replicate hv']; exact h1)
  obtain ⟨m, rfl⟩ : ∃ m, n = m + 1 := ⟨n - 1, by omega⟩
  simp only [Nat.add_zero] at hst
  simp [Builtin.clear_, run_underlying ht, hv, hzc, hst, splice, Result.andThen]
theorem wpList_clear_row {P : Program} {w : World} {ops : Array Oper} {rest : List Oper} {o : Oper} {a : Act} {Q : Exit → Act → World → Prop} (hgd : o.guard = none) (d : Operand) (dT : TypeId)
    (ho : o.op = .call { callee := .builtin .clear, args := #[d], argTypes := #[dT] }) (e : TypeId) (hu : P.underlying dT = some (.slice e)) (z : Value) (hv : ∀ w, (zeroValue e).run P w = .ok z w) (hz : z.cells = #[z]) (h1 : z.oneCell' = true)
    (g off n c : Nat) (hd : a.eval d = .slice (some ⟨g, off, none⟩) n c) (off' : Nat) (hoff : 0 < n → off = off') (cur : Array Value) (T : TypeId) (hg : Blk w g T cur) (hfit : off' + n ≤ cur.size)
    (h : wpList P ops Q rest (a.put o.dst (.tuple #[])) (w.setRow g (splice cur.toList off' (List.replicate n z)).toArray)) : wpList P ops Q (o :: rest) a w := by
  refine wpList_plain hgd fun K hK => ?_
  have hrun : (Builtin.clear_ #[dT] o.type #[.slice (some ⟨g, off, none⟩) n c]).run P w = .ok (.tuple #[]) (w.setRow g (splice cur.toList off' (List.replicate n z)).toArray) := by
    by_cases hn : 0 < n
    · rw [hoff hn]
      exact run_clear_row w dT e o.type z hu hv hz h1 g off' n c hn cur T hg hfit
    · obtain rfl : n = 0 := by omega
      have e1 : (splice cur.toList off' (List.replicate 0 z)).toArray = cur := by simp [splice]
      rw [e1, setRow_self w g cur T (0, 0) hg]
      simp [Builtin.clear_, run_underlying hu, Result.andThen]
  unfold Oper.wp
  simp [execOp, ho, resolve, invoke, builtin, hd, hrun, Result.andThen]
  exact hK _ _ h

/-- A sum, cut. -/
def clampN (s : Int) : Nat := if s < 1 then 1 else if 32 < s then 32 else s.toNat
theorem clampN_ok (s : Int) : 1 ≤ clampN s ∧ clampN s ≤ 32 := by
  unfold clampN
  split
  · omega
  · split <;> omega
def cutTo (x : Text) (m : Nat) : Text := splice x m (List.replicate (32 - m) 0)
theorem cells8_splice (x r : Text) (m : Nat) : cells8 (splice x m r) = splice (cells8 x) m (cells8 r) := by simp [cells8, splice]
theorem cutTo_len (x : Text) (m : Nat) (hx : x.length = 32) (hm : m ≤ 32) : (cutTo x m).length = 32 := by
  unfold cutTo
  rw [length_splice _ _ _ (by simp; omega), hx]
theorem cutTo_cells (x : Text) (m : Nat) : (splice (cells8 x) m (List.replicate (32 - m) (.int .u8 0))) = cells8 (cutTo x m) := by
  unfold cutTo
  rw [cells8_splice]
  congr 1
  simp [cells8, cell8, b8]
def offC (m : Nat) : Nat := if 32 = m then 0 else m
theorem offC_lt {m : Nat} (h : 0 < 32 - m) : offC m = m := by unfold offC; rw [if_neg (by omega)]
theorem run_cutC {P : Program} {t : TypeId} {g m : Nat} (h : P.underlying t = some (.array (P.arrayLen t) (P.elem t))) (hN : P.arrayLen t = 32) (hs : ∀ w, (sizeOf (P.elem t)).run P w = .ok 1 w) (hm : m ≤ 32) (x : Int) (hx : x = m) (w : World) :
    (Instr.sliceAt t (.pointer (some ⟨g, 0, none⟩)) (some (.int .i64 x)) none none).run P w = .ok (.slice (some ⟨g, offC m, none⟩) (32 - m) (32 - m)) w := by
  subst hx
  rw [run_sliceAt_array_l w t _ h .i64 (m : Int) (by omega) (by omega), hs]
  simp only [Result.andThen, slicedAt, hN, Int.toNat_natCast, Nat.mul_one]
  unfold offC
  by_cases e : 32 = m
  · rw [if_pos e, if_pos e]
  · rw [if_neg e, if_neg e, add_at, Nat.zero_add]
end Go.Proofs.YtgldkfaiofkhbaaDoor.DigestMem

namespace Go.Proofs.YtgldkfaiofkhbaaDoor.Digest
open Go Go.RowKit Go.Proofs.YtgldkfaiofkhbaaDoor Go.Proofs.YtgldkfaiofkhbaaDoor.Mem Go.Proofs.YtgldkfaiofkhbaaDoor.Sha Go.Proofs.YtgldkfaiofkhbaaDoor.ShaWalk Go.Proofs.YtgldkfaiofkhbaaDoor.Bytes Go.Proofs.YtgldkfaiofkhbaaDoor.HashMem Go.Proofs.YtgldkfaiofkhbaaDoor.Hash Go.Proofs.YtgldkfaiofkhbaaDoor.HashSum Go.Proofs.YtgldkfaiofkhbaaDoor.DigestMem

theorem dig_size (x : Text) (hx : x.length = 32) : (Tryd.prog.info? 23).map (·.size) = some (cells8 x).toArray.size := size31.trans (congrArg some (by simp [cells8_len, hx]))
theorem dig_one (x : Text) : (cells8 x).toArray.all (fun v => v.oneCell') = true := by rw [List.all_toArray]; exact List.all_eq_true.2 (cells8_one x)

set_option maxRecDepth 100000 in
set_option maxHeartbeats 600000 in
theorem cut_any (x : Text) (hx : x.length = 32) (s : Int) (w : World) :
    Calls Tryd.prog 97 #[.agg (cells8 x).toArray, .int .i64 s] w fun e w' => e = .returned (.agg (cells8 (cutTo x (clampN s))).toArray) ∧ Below w.heap.size w w' := by
  have hm := clampN_ok s
  have hxh := Lib.hid hx
  have hz1 := Lib.hid (dig_size x hx)
  obtain ⟨m, hmm⟩ : ∃ m, Hid (m = clampN s) := ⟨_, rfl⟩
  rw [← hmm.out] at hm ⊢
  have hz2 := Lib.hid (dig_size (cutTo x m) (cutTo_len x m hx hm.2))
  have ho2 := Lib.hid (dig_one (cutTo x m))
  have hz32 : Hid ((Z32 : Array Value).size = (cells8 (cutTo x m)).toArray.size) := by show _ = _; simp [cells8_len, cutTo_len x m hx hm.2, Z32]
  have hf : Hid (m + (32 - m) ≤ (cells8 x).toArray.size) := by show _ ≤ _; simp [cells8_len, hx]; omega
  have hcc : Hid ((splice (cells8 x).toArray.toList m (List.replicate (32 - m) (.int .u8 0))).toArray = (cells8 (cutTo x m)).toArray) := congrArg List.toArray (cutTo_cells x m)
  clear hx
  by_cases c1 : s < 1
  · have em : m = 1 := by have := hmm.out; unfold clampN at this; rw [if_pos c1] at this; exact this
    subst em
    clear hmm hm
    go_enter Tryd.func97, Tryd.ntmps97
    go_wp2_with (first | ((with_reducible change wpList _ _ _ ({ dst := none, op := Op.call { callee := Callee.builtin Builtin.clear, args := _, argTypes := _ }, type := _, pos := _, after := _, guard := _ } :: _) _ _); refine wpList_clear_row (o := ⟨none, _, _, _, _, _⟩) rfl (.tmp 8) 31 rfl 5 Tryd.underlying31 (.int .u8 0) (fun _ => rfl) rfl rfl w.heap.size 1 31 31 rfl 1 (fun _ => rfl) (cells8 x).toArray 23 (heap_alloc2_old w _ _) hf.out ?_; rw [hcc.out]) | ((with_reducible change wpList _ _ _ ({ dst := some 9, op := _, type := _, pos := _, after := _, guard := _ } :: _) _ _); refine wpList_load_row (o := ⟨some 9, _, _, _, _, _⟩) rfl 23 (.tmp 2) rfl w.heap.size rfl 23 (cells8 (cutTo x 1)).toArray (0, 0) _ (setRow_heap _ _ _ _ _ _ (heap_alloc2_old w _ _)) Tryd.underlying23 rfl hz2.out ?_) | ((with_reducible change wpList _ _ _ ({ dst := none, op := Op.store 23 _ _, type := _, pos := _, after := _, guard := _ } :: _) _ _); refine wpList_store_row (o := ⟨none, _, _, _, _, _⟩) rfl 23 (.tmp 4) (.tmp 9) rfl (w.heap.size + 1) (cells8 (cutTo x 1)).toArray rfl rfl 23 Z32 ((setRow_other _ _ _ _ (by omega)).trans (heap_alloc2_new w _ _)) hz2.out hz32.out ho2.out ?_))
    refine bodyPost_ret (results_cell_row rfl _ _ (w.heap.size + 1) 23 (cells8 (cutTo x 1)).toArray (0, 0) _ rfl (setRow_heap _ _ _ _ _ _ ((setRow_other _ _ _ _ (by omega)).trans (heap_alloc2_new w _ _))) Tryd.underlying23 rfl hz2.out) rfl ?_
    exact ⟨rfl, below_setRow (below_setRow (((Below.refl _ w).alloc (Nat.le_refl _) _).alloc (by simp) _) (Nat.le_refl _) _) (by omega) _⟩
  by_cases c2 : 32 < s
  · have em : m = 32 := by have := hmm.out; unfold clampN at this; rw [if_neg c1, if_pos c2] at this; exact this
    subst em
    clear hmm hm
    go_enter Tryd.func97, Tryd.ntmps97
    go_wp2_with (first | ((with_reducible change wpList _ _ _ ({ dst := none, op := Op.call { callee := Callee.builtin Builtin.clear, args := _, argTypes := _ }, type := _, pos := _, after := _, guard := _ } :: _) _ _); refine wpList_clear_row (o := ⟨none, _, _, _, _, _⟩) rfl (.tmp 8) 31 rfl 5 Tryd.underlying31 (.int .u8 0) (fun _ => rfl) rfl rfl w.heap.size 0 0 0 rfl 32 (fun h => absurd h (by omega)) (cells8 x).toArray 23 (heap_alloc2_old w _ _) hf.out ?_; rw [hcc.out]) | ((with_reducible change wpList _ _ _ ({ dst := some 9, op := _, type := _, pos := _, after := _, guard := _ } :: _) _ _); refine wpList_load_row (o := ⟨some 9, _, _, _, _, _⟩) rfl 23 (.tmp 2) rfl w.heap.size rfl 23 (cells8 (cutTo x 32)).toArray (0, 0) _ (setRow_heap _ _ _ _ _ _ (heap_alloc2_old w _ _)) Tryd.underlying23 rfl hz2.out ?_) | ((with_reducible change wpList _ _ _ ({ dst := none, op := Op.store 23 _ _, type := _, pos := _, after := _, guard := _ } :: _) _ _); refine wpList_store_row (o := ⟨none, _, _, _, _, _⟩) rfl 23 (.tmp 4) (.tmp 9) rfl (w.heap.size + 1) (cells8 (cutTo x 32)).toArray rfl rfl 23 Z32 ((setRow_other _ _ _ _ (by omega)).trans (heap_alloc2_new w _ _)) hz2.out hz32.out ho2.out ?_))
    refine bodyPost_ret (results_cell_row rfl _ _ (w.heap.size + 1) 23 (cells8 (cutTo x 32)).toArray (0, 0) _ rfl (setRow_heap _ _ _ _ _ _ ((setRow_other _ _ _ _ (by omega)).trans (heap_alloc2_new w _ _))) Tryd.underlying23 rfl hz2.out) rfl ?_
    exact ⟨rfl, below_setRow (below_setRow (((Below.refl _ w).alloc (Nat.le_refl _) _).alloc (by simp) _) (Nat.le_refl _) _) (by omega) _⟩
  · have em : s = (m : Int) := by have := hmm.out; unfold clampN at this; rw [if_neg c1, if_neg c2] at this; omega
    subst em
    have X : ∀ w', (Instr.sliceAt 23 (.pointer (some ⟨w.heap.size, 0, none⟩)) (some (.int .i64 (m : Int))) none none).run Tryd.prog w' = .ok (.slice (some ⟨w.heap.size, offC m, none⟩) (32 - m) (32 - m)) w' := run_cutC Tryd.underlying23 (by kernel_rfl) (fun _ => rfl) hm.2 _ rfl
    clear hmm hm
    go_enter Tryd.func97, Tryd.ntmps97
    go_wp2_with (first | ((with_reducible change wpList _ _ _ ({ dst := none, op := Op.call { callee := Callee.builtin Builtin.clear, args := _, argTypes := _ }, type := _, pos := _, after := _, guard := _ } :: _) _ _); refine wpList_clear_row (o := ⟨none, _, _, _, _, _⟩) rfl (.tmp 8) 31 rfl 5 Tryd.underlying31 (.int .u8 0) (fun _ => rfl) rfl rfl w.heap.size (offC m) (32 - m) (32 - m) rfl m (fun h => offC_lt h) (cells8 x).toArray 23 (heap_alloc2_old w _ _) hf.out ?_; rw [hcc.out]) | ((with_reducible change wpList _ _ _ ({ dst := some 9, op := _, type := _, pos := _, after := _, guard := _ } :: _) _ _); refine wpList_load_row (o := ⟨some 9, _, _, _, _, _⟩) rfl 23 (.tmp 2) rfl w.heap.size rfl 23 (cells8 (cutTo x m)).toArray (0, 0) _ (setRow_heap _ _ _ _ _ _ (heap_alloc2_old w _ _)) Tryd.underlying23 rfl hz2.out ?_) | ((with_reducible change wpList _ _ _ ({ dst := none, op := Op.store 23 _ _, type := _, pos := _, after := _, guard := _ } :: _) _ _); refine wpList_store_row (o := ⟨none, _, _, _, _, _⟩) rfl 23 (.tmp 4) (.tmp 9) rfl (w.heap.size + 1) (cells8 (cutTo x m)).toArray rfl rfl 23 Z32 ((setRow_other _ _ _ _ (by omega)).trans (heap_alloc2_new w _ _)) hz2.out hz32.out ho2.out ?_))
    refine bodyPost_ret (results_cell_row rfl _ _ (w.heap.size + 1) 23 (cells8 (cutTo x m)).toArray (0, 0) _ rfl (setRow_heap _ _ _ _ _ _ ((setRow_other _ _ _ _ (by omega)).trans (heap_alloc2_new w _ _))) Tryd.underlying23 rfl hz2.out) rfl ?_
    exact ⟨rfl, below_setRow (below_setRow (((Below.refl _ w).alloc (Nat.le_refl _) _).alloc (by simp) _) (Nat.le_refl _) _) (by omega) _⟩

theorem Reads.off {w : World} {A : Option Addr} {k g : Nat} {xs : List Value} (h : Reads w 1 A k xs) (hg : w.heap.size ≤ g) : 0 < k → Off A g := by
  intro hk a ha
  obtain ⟨b, o, e, hb, _⟩ := h.2 (by omega)
  rw [e] at ha
  obtain rfl := Option.some.inj ha
  show b ≠ g
  omega

end Go.Proofs.YtgldkfaiofkhbaaDoor.Digest

namespace Go.Proofs.YtgldkfaiofkhbaaDoor.DigestOf
open Go Go.RowKit Go.Proofs.YtgldkfaiofkhbaaDoor Go.Proofs.YtgldkfaiofkhbaaDoor.Mem Go.Proofs.YtgldkfaiofkhbaaDoor.Sha Go.Proofs.YtgldkfaiofkhbaaDoor.ShaWalk Go.Proofs.YtgldkfaiofkhbaaDoor.Bytes Go.Proofs.YtgldkfaiofkhbaaDoor.HashMem Go.Proofs.YtgldkfaiofkhbaaDoor.Hash Go.Proofs.YtgldkfaiofkhbaaDoor.HashSum Go.Proofs.YtgldkfaiofkhbaaDoor.DigestMem Go.Proofs.YtgldkfaiofkhbaaDoor.Digest

theorem Hh.alloc {w : World} {g : Nat} {l : Text} (h : Hh w g l) (o : Obj) : Hh (w.alloc o) g l := by
  obtain ⟨cs, h⟩ := h
  exact ⟨cs, h.alloc o⟩
set_option maxRecDepth 100000 in
set_option maxHeartbeats 600000 in
theorem of_any (ps : List Text) (n : Nat) (hn : ps.length = n) (A : Option Addr) (c : Nat) (size kind : Int) (w : World) (hB : Base w) (hlen : ps.flatten.length < 72057594037927936) (hn2 : n < 72057594037927936) (hp : Pieces w A ps) :
    Calls Tryd.prog 87 #[.int .i64 size, .int .i64 kind, .slice A n c] w fun e w' =>
      e = .returned (.agg (cells8 (cutTo (sum (kb kind :: ps.flatten)) (clampN size))).toArray) ∧ Below w.heap.size w w' := by
  have k1 := kb_b8 kind
  have k2 := kb_wrap kind
  generalize kb kind = kk at *
  obtain ⟨x, hx⟩ : ∃ x, Hid (x = cutTo (sum (kk :: ps.flatten)) (clampN size)) := ⟨_, rfl⟩
  have hxl : x.length = 32 := by rw [hx.out]; exact cutTo_len _ _ (sum_len _) (clampN_ok size).2
  rw [← hx.out]
  have hz := Lib.hid (dig_size x hxl)
  have hz32 : Hid ((Z32 : Array Value).size = (cells8 x).toArray.size) := by show _ = _; simp [cells8_len, hxl, Z32]
  have ho := Lib.hid (dig_one x)
  replace hn := Lib.hid hn
  replace hB := Lib.hid hB
  replace hp := Lib.hid hp
  replace hlen := Lib.hid hlen
  replace hn2 := Lib.hid hn2
  clear hxl
  have hR := Lib.hid (heap_alloc_new w (Obj.cells Z32 23))
  go_enter Tryd.func87, Tryd.ntmps87
  go_wp2_with (first
    | (go_at_call 129; refine (new_any _).mono ?_; rintro e w2 ⟨g, rfl, hg, hH, hb⟩; replace hH := Lib.hid hH; replace hb := Lib.hid hb; replace hg : Hid (w.heap.size + 1 ≤ g) := (show w.heap.size + 1 ≤ g by simpa using hg); have hb0 : Hid (Below w.heap.size w w2) := ((Below.refl _ w).alloc (Nat.le_refl _) _).trans (hb.out.mono (by simp)); have hR2 : Hid (Blk w2 w.heap.size 23 Z32) := (hb.out.block w.heap.size (by simp)).trans hR.out; clear hb)
    | (go_at_call 130; refine (write_k [] [kk] 1 rfl g (some ⟨w2.heap.size, 0, none⟩) 1 (w2.alloc (.cells #[.int .u8 (b8 kk)] 5)) ((hB.out.below hb0.out hB.out.1).below (Below.heap_below w2 _) (by have := hb0.out.size; have := hB.out.1; omega)) (by have := hB.out.1; have := hg.out; omega) (Hh.alloc hH.out _) (by simp) ((Blk.new w2 5 #[.int .u8 (b8 kk)]).reads 0 (cells8 [kk]) rfl (fun j u hu => by rw [Nat.zero_add]; exact one_at kk j u hu)) (fun _ a ha => by obtain rfl := Option.some.inj ha; have := hH.out.lt; show w2.heap.size ≠ g; omega) (Nat.le_refl _)).mono ?_; rintro e w4 ⟨rfl, hH4, hk4⟩; replace hH4 : Hid (Hh w4 g [kk]) := hH4; have hb4 : Hid (Below w.heap.size w w4) := hb0.out.trans (((Below.refl _ w2).alloc hb0.out.size _).trans (Kept.below_of hk4 (by have := hg.out; omega) (by have := hb0.out.size; simp; omega))); have hR4 : Hid (Blk w4 w.heap.size 23 Z32) := (Blk.alloc hR2.out _).kept hk4 (by have := hg.out; omega); clear hk4))
  clear hH hR2 hb0 k1 k2 hR
  obtain ⟨w5, rfl⟩ : ∃ w5 : World, w5 = w4 := ⟨_, rfl⟩
  go_loopw [18] (fun v wr => ∃ i : Nat, v = .int .i64 (i : Int) ∧ i ≤ n ∧ Hid (Hh wr g (kk :: (ps.take i).flatten)) ∧ Hid (Below w.heap.size w wr) ∧ Hid (Blk wr w.heap.size 23 Z32)) (fun v _ => n - (intOf v).toNat)
  case atStart => exact ⟨0, rfl, by omega, hH4.out, hb4.out, hR4.out⟩
  case round =>
    clear hH4 hb4 hR4
    obtain ⟨i, rfl, hi, hH, hb, hRr⟩ := hrel
    by_cases hlt : i < n
    · have hz : (i : Int) < (n : Int) := by omega
      obtain ⟨q, hq⟩ : ∃ q, Hid (ps[i]? = some q) := ⟨ps[i]'(by rw [hn.out]; exact hlt), List.getElem?_eq_getElem _⟩
      obtain ⟨b, o, hA, hbl, hcs⟩ := hp.out (by rw [hn.out]; omega)
      obtain ⟨Ai, ci, c0, hci, hri, _⟩ := hcs i q hq.out
      have hAi : Hid (0 < q.length → Off Ai g) := Reads.off hri (by have := hg.out; omega)
      replace hri : Hid (Reads wr 1 Ai q.length (cells8 q)) := hri.below hb.out
      replace c0 := (hb.out.cell (p := ⟨b, o + i, none⟩) hbl).trans c0
      have hsum := pieces_sum ps i q hq.out
      replace hsum := Lib.hid hsum
      subst hA
      clear hbl hcs
      have hil : (i : Int) < 9223372036854775807 := by have := hn2.out; omega
      obtain ⟨w5, rfl⟩ : ∃ w5 : World, w5 = wr := ⟨_, rfl⟩
      go_wp2_with (go_at_call 130; refine (write_k (kk :: (ps.take i).flatten) q q.length rfl g Ai ci w5 (hB.out.below hb.out hB.out.1) (by have := hB.out.1; have := hg.out; omega) hH.out (by have := hlen.out; have := hsum.out.2; simp only [List.length_cons]; omega) hri.out (fun h => hAi.out h) hci).mono ?_; rintro e w6 ⟨rfl, hH6, hk6⟩; replace hH6 := Lib.hid hH6; replace hk6 := Lib.hid hk6)
      go_roundw
      case rel =>
        refine ⟨i + 1, by go_num, by omega, ?_, hb.out.trans (Kept.below_of hk6.out (by have := hg.out; omega) hb.out.size), hRr.out.kept hk6.out (by have := hg.out; omega)⟩
        show Hh _ _ _
        rw [hsum.out.1]
        exact hH6.out
      case measure => simp [intOf]; omega
    · have hin : i = n := by omega
      subst hin
      have ha : (ps.take i).flatten = ps.flatten := by rw [List.take_of_length_le (by rw [hn.out]; exact Nat.le_refl _)]
      rw [ha] at hH
      obtain ⟨w5, rfl⟩ : ∃ w5 : World, w5 = wr := ⟨_, rfl⟩
      clear ha
      go_wp2_with (first
        | (go_at_call 131; refine (sum_any (kk :: ps.flatten) g w5 (hB.out.below hb.out hB.out.1) hH.out (by have := hlen.out; simp only [List.length_cons]; omega)).mono ?_; rintro e w7 ⟨rfl, hb7⟩; replace hb7 := Lib.hid hb7)
        | (go_at_call 97; refine (cut_any (sum (kk :: ps.flatten)) (sum_len _) size w7).mono ?_; rw [← hx.out]; rintro e w8 ⟨rfl, hb8⟩; replace hb8 := Lib.hid hb8; have hR8 : Hid (Blk w8 w.heap.size 23 Z32) := (hb8.out.block w.heap.size (by have := hb7.out.size; have := hRr.out.lt; omega)).trans ((hb7.out.block w.heap.size hRr.out.lt).trans hRr.out); have hbb : Hid (Below w.heap.size w w8) := hb.out.trans ((hb7.out.mono (by have := hb.out.size; omega)).trans (hb8.out.mono (by have := hb7.out.size; have := hb.out.size; omega))))
        | ((with_reducible change wpList _ _ _ ({ dst := none, op := Op.store 23 _ _, type := _, pos := _, after := _, guard := _ } :: _) _ _); refine wpList_store_row (o := ⟨none, _, _, _, _, _⟩) rfl 23 (.tmp 6) (.tmp 29) rfl w.heap.size (cells8 x).toArray rfl rfl 23 Z32 hR8.out hz.out hz32.out ho.out ?_))
      refine bodyPost_ret (results_cell_row rfl _ _ w.heap.size 23 (cells8 x).toArray (0, 0) _ rfl (setRow_heap _ _ _ _ _ _ hR8.out) Tryd.underlying23 rfl hz.out) rfl ?_
      exact ⟨rfl, below_setRow hbb.out (Nat.le_refl _) _⟩
end Go.Proofs.YtgldkfaiofkhbaaDoor.DigestOf

namespace Go.Proofs.YtgldkfaiofkhbaaDoor.RefSmall
open Go Go.RowKit Go.Proofs.YtgldkfaiofkhbaaDoor Go.Proofs.YtgldkfaiofkhbaaDoor.Mem Go.Proofs.YtgldkfaiofkhbaaDoor.Sha Go.Proofs.YtgldkfaiofkhbaaDoor.ShaWalk Go.Proofs.YtgldkfaiofkhbaaDoor.Bytes Go.Proofs.YtgldkfaiofkhbaaDoor.HashMem Go.Proofs.YtgldkfaiofkhbaaDoor.Hash Go.Proofs.YtgldkfaiofkhbaaDoor.HashSum

end Go.Proofs.YtgldkfaiofkhbaaDoor.RefSmall

namespace Go.Proofs.YtgldkfaiofkhbaaDoor.RefWords
open Go Go.RowKit Go.Proofs.YtgldkfaiofkhbaaDoor Go.Proofs.YtgldkfaiofkhbaaDoor.Mem Go.Proofs.YtgldkfaiofkhbaaDoor.Sha Go.Proofs.YtgldkfaiofkhbaaDoor.ShaWalk Go.Proofs.YtgldkfaiofkhbaaDoor.Bytes Go.Proofs.YtgldkfaiofkhbaaDoor.HashMem Go.Proofs.YtgldkfaiofkhbaaDoor.Hash Go.Proofs.YtgldkfaiofkhbaaDoor.HashSum Go.Proofs.YtgldkfaiofkhbaaDoor.RefSmall

end Go.Proofs.YtgldkfaiofkhbaaDoor.RefWords

namespace Go.Proofs.YtgldkfaiofkhbaaDoor.RefSum
open Go Go.RowKit Go.Proofs.YtgldkfaiofkhbaaDoor Go.Proofs.YtgldkfaiofkhbaaDoor.Mem Go.Proofs.YtgldkfaiofkhbaaDoor.Sha Go.Proofs.YtgldkfaiofkhbaaDoor.ShaWalk Go.Proofs.YtgldkfaiofkhbaaDoor.Bytes Go.Proofs.YtgldkfaiofkhbaaDoor.HashMem Go.Proofs.YtgldkfaiofkhbaaDoor.Hash Go.Proofs.YtgldkfaiofkhbaaDoor.HashSum Go.Proofs.YtgldkfaiofkhbaaDoor.DigestMem Go.Proofs.YtgldkfaiofkhbaaDoor.Digest Go.Proofs.YtgldkfaiofkhbaaDoor.DigestOf Go.Proofs.YtgldkfaiofkhbaaDoor.RefSmall Go.Proofs.YtgldkfaiofkhbaaDoor.RefWords

end Go.Proofs.YtgldkfaiofkhbaaDoor.RefSum

namespace Go.Proofs.YtgldkfaiofkhbaaDoor.RefCut
open Go Go.RowKit Go.Proofs.YtgldkfaiofkhbaaDoor Go.Proofs.YtgldkfaiofkhbaaDoor.Mem Go.Proofs.YtgldkfaiofkhbaaDoor.Sha Go.Proofs.YtgldkfaiofkhbaaDoor.ShaWalk Go.Proofs.YtgldkfaiofkhbaaDoor.Bytes Go.Proofs.YtgldkfaiofkhbaaDoor.HashMem Go.Proofs.YtgldkfaiofkhbaaDoor.Hash Go.Proofs.YtgldkfaiofkhbaaDoor.HashSum Go.Proofs.YtgldkfaiofkhbaaDoor.DigestMem Go.Proofs.YtgldkfaiofkhbaaDoor.Digest Go.Proofs.YtgldkfaiofkhbaaDoor.DigestOf

end Go.Proofs.YtgldkfaiofkhbaaDoor.RefCut

namespace Go.Proofs.YtgldkfaiofkhbaaDoor.RefOf
open Go Go.RowKit Go.Proofs.YtgldkfaiofkhbaaDoor Go.Proofs.YtgldkfaiofkhbaaDoor.Mem Go.Proofs.YtgldkfaiofkhbaaDoor.Sha Go.Proofs.YtgldkfaiofkhbaaDoor.ShaWalk Go.Proofs.YtgldkfaiofkhbaaDoor.Bytes Go.Proofs.YtgldkfaiofkhbaaDoor.HashMem Go.Proofs.YtgldkfaiofkhbaaDoor.Hash Go.Proofs.YtgldkfaiofkhbaaDoor.HashSum Go.Proofs.YtgldkfaiofkhbaaDoor.DigestMem Go.Proofs.YtgldkfaiofkhbaaDoor.Digest Go.Proofs.YtgldkfaiofkhbaaDoor.DigestOf Go.Proofs.YtgldkfaiofkhbaaDoor.RefSum Go.Proofs.YtgldkfaiofkhbaaDoor.RefCut

end Go.Proofs.YtgldkfaiofkhbaaDoor.RefOf

namespace Go.Proofs.YtgldkfaiofkhbaaDoor.DigestTop
open Go Go.RowKit Go.Proofs.YtgldkfaiofkhbaaDoor Go.Proofs.YtgldkfaiofkhbaaDoor.Mem Go.Proofs.YtgldkfaiofkhbaaDoor.Sha Go.Proofs.YtgldkfaiofkhbaaDoor.ShaWalk Go.Proofs.YtgldkfaiofkhbaaDoor.Bytes Go.Proofs.YtgldkfaiofkhbaaDoor.HashMem Go.Proofs.YtgldkfaiofkhbaaDoor.Hash Go.Proofs.YtgldkfaiofkhbaaDoor.HashSum Go.Proofs.YtgldkfaiofkhbaaDoor.DigestMem Go.Proofs.YtgldkfaiofkhbaaDoor.Digest Go.Proofs.YtgldkfaiofkhbaaDoor.DigestOf

section
variable (w : World) (oa ob oc od : Obj)
theorem pairE : Below w.heap.size w ((((w.alloc oa).alloc ob).alloc oc).drew.alloc od) := ((((Below.refl _ w).alloc (Nat.le_refl _) _).alloc (by simp) _).alloc (by simp; omega) _).drew.alloc (by simp; omega) _
theorem pairA : ((((w.alloc oa).alloc ob).alloc oc).drew.alloc od).heap[w.heap.size]? = some oa := by
  rw [Below.heap_alloc _ _ _ (by simp; omega), heap_drew, Below.heap_alloc _ _ _ (by simp; omega)]
  exact heap_alloc2_old w _ _
theorem pairB : ((((w.alloc oa).alloc ob).alloc oc).drew.alloc od).heap[w.heap.size + 1]? = some ob := by
  rw [Below.heap_alloc _ _ _ (by simp), heap_drew, Below.heap_alloc _ _ _ (by simp)]
  exact heap_alloc2_new w _ _
theorem pairC : ((((w.alloc oa).alloc ob).alloc oc).drew.alloc od).heap[w.heap.size + 2]? = some oc := by
  rw [Below.heap_alloc _ _ _ (by simp), heap_drew]
  have h := heap_alloc_new ((w.alloc oa).alloc ob) oc
  have e : ((w.alloc oa).alloc ob).heap.size = w.heap.size + 2 := by simp
  rw [e] at h
  exact h
theorem pairD : ((((w.alloc oa).alloc ob).alloc oc).drew.alloc od).heap[w.heap.size + 3]? = some od := by
  have h := heap_alloc_new (((w.alloc oa).alloc ob).alloc oc).drew od
  have e : (((w.alloc oa).alloc ob).alloc oc).drew.heap.size = w.heap.size + 3 := by simp
  rw [e] at h
  exact h
end
set_option maxRecDepth 100000 in
set_option maxHeartbeats 600000 in
theorem leaf_any (q : Text) (k : Nat) (hk : q.length = k) (A : Option Addr) (c : Nat) (size : Int) (w : World) (hB : Base w) (hlen : k < 140737488355328) (hr : Reads w 1 A k (cells8 q)) (hc : k ≤ c) (hnil : A = none → k = 0 ∧ c = 0) :
    Calls Tryd.prog 38 #[.int .i64 size, .slice A k c] w fun e w' => e = .returned (.agg (cells8 (cutTo (sum (kb 0 :: q)) (clampN size))).toArray) ∧ Below w.heap.size w w' := by
  subst hk
  have hfl : [q].flatten = q := by simp
  rw [← hfl]
  obtain ⟨x, hx⟩ : ∃ x, Hid (x = cutTo (sum (kb 0 :: [q].flatten)) (clampN size)) := ⟨_, rfl⟩
  have hxl : x.length = 32 := by rw [hx.out]; exact cutTo_len _ _ (sum_len _) (clampN_ok size).2
  rw [← hx.out]
  have hz := Lib.hid (dig_size x hxl)
  have hz32 : Hid ((Z32 : Array Value).size = (cells8 x).toArray.size) := by show _ = _; simp [cells8_len, hxl, Z32]
  have ho := Lib.hid (dig_one x)
  clear hxl
  replace hB := Lib.hid hB
  replace hlen := Lib.hid hlen
  clear hfl
  have hR : Hid (Blk ((w.alloc (.cells Z32 23)).alloc (.cells #[.slice A q.length c] 31)) w.heap.size 23 Z32) := heap_alloc2_old w _ _
  have hbw : Hid (Below w.heap.size w ((w.alloc (.cells Z32 23)).alloc (.cells #[.slice A q.length c] 31))) := ((Below.refl _ w).alloc (Nat.le_refl _) _).alloc (by simp) _
  have hpc : Hid (Pieces ((w.alloc (.cells Z32 23)).alloc (.cells #[.slice A q.length c] 31)) (some ⟨w.heap.size + 1, 0, none⟩) [q]) := fun _ => ⟨w.heap.size + 1, 0, rfl, by simp, fun i y hy => by
    match i with
    | 0 =>
      obtain rfl := Option.some.inj hy
      exact ⟨A, c, by rw [cell_of_row _ _ _ _ _ _ (heap_alloc2_new w _ _)]; rfl, hc, hr.below hbw.out, hnil⟩
    | i + 1 => simp at hy⟩
  clear hr hc hnil
  go_enter Tryd.func38, Tryd.ntmps38
  go_wp2_with (first
    | (go_at_call 87; refine (of_any [q] 1 rfl (some ⟨w.heap.size + 1, 0, none⟩) 1 size 0 _ (hB.out.below hbw.out hB.out.1) (by have := hlen.out; simp; omega) (by omega) hpc.out).mono ?_; rw [← hx.out]; rintro e w3 ⟨rfl, hb3⟩; replace hb3 := Lib.hid hb3; have hR3 : Hid (Blk w3 w.heap.size 23 Z32) := (hb3.out.block w.heap.size hR.out.lt).trans hR.out; have hbb : Hid (Below w.heap.size w w3) := hbw.out.trans (hb3.out.mono (by simp; omega)))
    | ((with_reducible change wpList _ _ _ ({ dst := none, op := Op.store 23 _ _, type := _, pos := _, after := _, guard := _ } :: _) _ _); refine wpList_store_row (o := ⟨none, _, _, _, _, _⟩) rfl 23 (.tmp 4) (.tmp 8) rfl w.heap.size (cells8 x).toArray rfl rfl 23 Z32 hR3.out hz.out hz32.out ho.out ?_))
  refine bodyPost_ret (results_cell_row rfl _ _ w.heap.size 23 (cells8 x).toArray (0, 0) _ rfl (setRow_heap _ _ _ _ _ _ hR3.out) Tryd.underlying23 rfl hz.out) rfl ?_
  exact ⟨rfl, below_setRow hbb.out (by omega) _⟩

set_option maxRecDepth 100000 in
set_option maxHeartbeats 600000 in
theorem link_any (qa qb : Text) (ha : qa.length = 32) (hb : qb.length = 32) (size : Int) (w : World) (hB : Base w) :
    Calls Tryd.prog 37 #[.int .i64 size, .agg (cells8 qa).toArray, .agg (cells8 qb).toArray] w fun e w' => e = .returned (.agg (cells8 (cutTo (sum (kb 2 :: (qa ++ qb))) (clampN size))).toArray) ∧ Below w.heap.size w w' := by
  have hfl : [qa, qb].flatten = qa ++ qb := by simp
  rw [← hfl]
  obtain ⟨x, hx⟩ : ∃ x, Hid (x = cutTo (sum (kb 2 :: [qa, qb].flatten)) (clampN size)) := ⟨_, rfl⟩
  have hxl : x.length = 32 := by rw [hx.out]; exact cutTo_len _ _ (sum_len _) (clampN_ok size).2
  rw [← hx.out]
  have hz := Lib.hid (dig_size x hxl)
  have hz32 : Hid ((Z32 : Array Value).size = (cells8 x).toArray.size) := by show _ = _; simp [cells8_len, hxl, Z32]
  have ho := Lib.hid (dig_one x)
  clear hxl
  replace hB := Lib.hid hB
  have hlen : Hid ([qa, qb].flatten.length = 64) := by show _ = _; simp [ha, hb]
  clear hfl
  obtain ⟨W, hW⟩ : ∃ W, Hid (W = ((((w.alloc (.cells (cells8 qa).toArray 23)).alloc (.cells (cells8 qb).toArray 23)).alloc (.cells Z32 23)).drew.alloc (.cells #[.slice (some ⟨w.heap.size, 0, none⟩) 32 32, .slice (some ⟨w.heap.size + 1, 0, none⟩) 32 32] 31))) := ⟨_, rfl⟩
  have hA0 : W.heap[w.heap.size]? = some (.cells (cells8 qa).toArray 23 (0, 0)) := by rw [hW.out]; exact pairA w _ _ _ _
  have hA1 : W.heap[w.heap.size + 1]? = some (.cells (cells8 qb).toArray 23 (0, 0)) := by rw [hW.out]; exact pairB w _ _ _ _
  have hR : Hid (Blk W (w.heap.size + 2) 23 Z32) := by show Blk _ _ _ _; rw [hW.out]; exact pairC w _ _ _ _
  have hP : W.heap[w.heap.size + 3]? = some (.cells #[.slice (some ⟨w.heap.size, 0, none⟩) 32 32, .slice (some ⟨w.heap.size + 1, 0, none⟩) 32 32] 31 (0, 0)) := by rw [hW.out]; exact pairD w _ _ _ _
  have hbw : Hid (Below w.heap.size w W) := by show Below _ _ _; rw [hW.out]; exact pairE w _ _ _ _
  have hws : Hid (W.heap.size = w.heap.size + 4) := by show _ = _; rw [hW.out]; simp
  have hpc : Hid (Pieces W (some ⟨w.heap.size + 3, 0, none⟩) [qa, qb]) := fun _ => ⟨w.heap.size + 3, 0, rfl, by have := hws.out; omega, fun i y hy => by
    match i with
    | 0 =>
      obtain rfl := Option.some.inj hy
      exact ⟨some ⟨w.heap.size, 0, none⟩, 32, by rw [cell_of_row _ _ _ _ _ _ hP, ha]; rfl, by omega, rowReads hA0, fun h => by cases h⟩
    | 1 =>
      obtain rfl := Option.some.inj hy
      exact ⟨some ⟨w.heap.size + 1, 0, none⟩, 32, by rw [cell_of_row _ _ _ _ _ _ hP, hb]; rfl, by omega, rowReads hA1, fun h => by cases h⟩
    | i + 2 => simp at hy⟩
  have hxl2 : Hid ((cells8 x).length = 32) := by show _ = _; have := hz32.out; simp [Z32] at this; omega
  have hxl3 := hxl2.out
  clear hA0 hA1 hP ha hb
  go_enter Tryd.func37, Tryd.ntmps37
  go_wp2_with fail
  go_region_law (go_simp; go_at_call 87; change Calls _ _ _ ((((w.alloc (.cells (cells8 qa).toArray 23)).alloc (.cells (cells8 qb).toArray 23)).alloc (.cells Z32 23)).drew.alloc (.cells #[.slice (some ⟨w.heap.size, 0, none⟩) 32 32, .slice (some ⟨w.heap.size + 1, 0, none⟩) 32 32] 31)) _; rw [← hW.out]; refine (of_any [qa, qb] 2 rfl (some ⟨w.heap.size + 3, 0, none⟩) 2 size 2 _ (hB.out.below hbw.out hB.out.1) (by have := hlen.out; omega) (by omega) hpc.out).mono ?_; rw [← hx.out]; rintro e w3 ⟨rfl, hb3⟩; replace hb3 := Lib.hid hb3; have hR3 : Hid (Blk w3 (w.heap.size + 2) 23 Z32) := (hb3.out.block (w.heap.size + 2) hR.out.lt).trans hR.out; have hbb : Hid (Below w.heap.size w w3) := hbw.out.trans (hb3.out.mono (by have := hws.out; omega)); have hst : (storeCells ⟨w.heap.size + 1 + 1, 0, none⟩ (cells8 x)).run Tryd.prog w3 = .ok () (w3.setRow (w.heap.size + 2) (cells8 x).toArray) := storeCells_row hR3.out (by have := hxl2.out; simp [Z32]; omega) (cells8_one x))
  go_wp2_with fail
  refine bodyPost_ret (results_cell_row rfl _ _ (w.heap.size + 2) 23 (cells8 x).toArray (0, 0) _ rfl (setRow_heap _ _ _ _ _ _ hR3.out) Tryd.underlying23 rfl hz.out) rfl ?_
  exact ⟨rfl, below_setRow hbb.out (by omega) _⟩
end Go.Proofs.YtgldkfaiofkhbaaDoor.DigestTop

namespace Go.Proofs.YtgldkfaiofkhbaaDoor.RefTop
open Go Go.RowKit Go.Proofs.YtgldkfaiofkhbaaDoor Go.Proofs.YtgldkfaiofkhbaaDoor.Mem Go.Proofs.YtgldkfaiofkhbaaDoor.Sha Go.Proofs.YtgldkfaiofkhbaaDoor.ShaWalk Go.Proofs.YtgldkfaiofkhbaaDoor.Bytes Go.Proofs.YtgldkfaiofkhbaaDoor.HashMem Go.Proofs.YtgldkfaiofkhbaaDoor.Hash Go.Proofs.YtgldkfaiofkhbaaDoor.HashSum Go.Proofs.YtgldkfaiofkhbaaDoor.DigestMem Go.Proofs.YtgldkfaiofkhbaaDoor.Digest Go.Proofs.YtgldkfaiofkhbaaDoor.DigestOf Go.Proofs.YtgldkfaiofkhbaaDoor.RefSum Go.Proofs.YtgldkfaiofkhbaaDoor.RefCut Go.Proofs.YtgldkfaiofkhbaaDoor.RefOf Go.Proofs.YtgldkfaiofkhbaaDoor.DigestTop

end Go.Proofs.YtgldkfaiofkhbaaDoor.RefTop
