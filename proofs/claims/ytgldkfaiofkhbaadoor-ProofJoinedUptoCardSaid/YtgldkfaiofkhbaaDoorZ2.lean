/-
  Texts of the claim, put into one file: Mem.
-/
import Derived.WalkKit
import Derived.WalkSpells
import Derived.Laws.OwnMore
import Derived.Deep.AppendLies
import Derived.Deep.Draws
import Derived.Maps.AppendAt
import Derived.Laws.CopyOwn

namespace Go.Proofs.YtgldkfaiofkhbaaDoor.Mem
open Go Go.RowKit

/-- w' is w with new blocks; of the old ones only those in S may have turned. -/
structure Kept (S : Nat → Prop) (w w' : World) : Prop where
  os : w'.os = w.os
  tape : w'.tape = w.tape
  output : w'.output = w.output
  size : w.heap.size ≤ w'.heap.size
  block : ∀ k, k < w.heap.size → ¬ S k → w'.heap[k]? = w.heap[k]?

section
variable {S T : Nat → Prop} {a w w' : World}
theorem Kept.refl (S : Nat → Prop) (w : World) : Kept S w w := ⟨rfl, rfl, rfl, Nat.le_refl _, fun _ _ _ => rfl⟩
theorem Kept.trans (h : Kept S a w) (k : Kept T w w') (hT : ∀ i, i < a.heap.size → T i → S i) : Kept S a w' :=
  ⟨k.os.trans h.os, k.tape.trans h.tape, k.output.trans h.output, Nat.le_trans h.size k.size,
    fun i hi hs => (k.block i (Nat.lt_of_lt_of_le hi h.size) (fun ht => hs (hT i hi ht))).trans (h.block i hi hs)⟩
theorem Kept.mono (h : Kept S w w') (hT : ∀ i, i < w.heap.size → S i → T i) : Kept T w w' :=
  ⟨h.os, h.tape, h.output, h.size, fun i hi ht => h.block i hi (fun hs => ht (hT i hi hs))⟩
theorem Kept.drew (h : Kept S a w) : Kept S a w.drew := ⟨h.os, h.tape, h.output, h.size, h.block⟩
theorem Kept.alloc (h : Kept S a w) (o : Obj) : Kept S a (w.alloc o) :=
  ⟨h.os, h.tape, h.output, by have := h.size; simp; omega, fun k hk hs => (Below.heap_alloc w o k (by have := h.size; omega)).trans (h.block k hk hs)⟩
theorem Kept.setCell (h : Kept S a w) {p : Addr} (hp : S p.block ∨ a.heap.size ≤ p.block) (u : Value) : Kept S a (w.setCell p u) :=
  ⟨h.os, h.tape, h.output, by have := h.size; simpa [World.setCell] using this, fun k hk hs => (Below.heap_setCell w p u k (by
    intro e; subst e; rcases hp with hp | hp
    · exact hs hp
    · omega)).trans (h.block k hk hs)⟩
theorem Kept.grown {row : Option Nat} (h : Kept S a w) (hg : w.grownBy w' row) (hr : ∀ k, row = some k → S k ∨ a.heap.size ≤ k) : Kept S a w' :=
  ⟨hg.os.trans h.os, hg.tape.trans h.tape, hg.output.trans h.output, Nat.le_trans h.size hg.size, fun k hk hs => (hg.block k (by have := h.size; omega) (by
    intro e
    rcases hr k e.symm with q | q
    · exact hs q
    · omega)).trans (h.block k hk hs)⟩
theorem Kept.below (h : Kept (fun _ => False) w w') : Below w.heap.size w w' := ⟨h.os, h.tape, h.output, h.size, fun k hk => h.block k hk (fun x => x)⟩
theorem Kept.of_below (h : Below w.heap.size w w') : Kept S w w' := ⟨h.os, h.tape, h.output, h.size, fun k hk _ => h.block k hk⟩
theorem Kept.cell (h : Kept S w w') {p : Addr} (hp : p.block < w.heap.size) (hs : ¬ S p.block) : w'.cell? p = w.cell? p := World.cell?_of_block (w := w) (h.block p.block hp hs)
theorem Kept.frozen (h : Kept S w w') {p : Addr} (hp : p.block < w.heap.size) (hs : ¬ S p.block) : w'.frozen? p = w.frozen? p := World.frozen?_of_block (w := w) (h.block p.block hp hs)
end

/-- A slice value with n elements (of 'size' cells each) that reads as the cells xs; nil and empty ones too. -/
def Reads (w : World) (size : Nat) (A : Option Addr) (n : Nat) (xs : List Value) : Prop :=
  xs.length = n * size ∧ (0 < n * size → ∃ b o, A = some ⟨b, o, none⟩ ∧ b < w.heap.size ∧ ∀ j u, xs[j]? = some u → w.cell? ⟨b, o + j, none⟩ = some u)

section
variable {w w' : World} {size n : Nat} {A : Option Addr} {xs : List Value}
theorem add_at (b o j : Nat) : (⟨b, o, none⟩ : Addr).add j = ⟨b, o + j, none⟩ := by unfold Addr.add; split <;> simp_all
theorem Reads.nil_ (w : World) (size : Nat) (A : Option Addr) : Reads w size A 0 [] := ⟨by simp, fun h => absurd h (by simp)⟩
theorem Reads.at_ (h : Reads w size A n xs) (hn : 0 < n * size) : ∃ b o, A = some ⟨b, o, none⟩ ∧ b < w.heap.size ∧ ∀ j u, xs[j]? = some u → w.cell? ⟨b, o + j, none⟩ = some u := h.2 hn
theorem Reads.keep (h : Reads w size A n xs) (hs : w.heap.size ≤ w'.heap.size) (hk : ∀ b o, A = some ⟨b, o, none⟩ → b < w.heap.size → w'.heap[b]? = w.heap[b]?) : Reads w' size A n xs :=
  ⟨h.1, fun hn => by
    obtain ⟨b, o, e, hb, hc⟩ := h.2 hn
    exact ⟨b, o, e, by omega, fun j u hu => (World.cell?_of_block (w := w) (hk b o e hb)).trans (hc j u hu)⟩⟩
theorem Reads.kept {S : Nat → Prop} (h : Reads w size A n xs) (hk : Kept S w w') (hS : ∀ b o, A = some ⟨b, o, none⟩ → ¬ S b) : Reads w' size A n xs :=
  h.keep hk.size fun b o e hb => hk.block b hb (hS b o e)
theorem Reads.kept0 {S : Nat → Prop} (h : Reads w size A n xs) (hk : Kept S w w') (hS : 0 < n * size → ∀ b o, A = some ⟨b, o, none⟩ → ¬ S b) : Reads w' size A n xs :=
  ⟨h.1, fun hn => by
    obtain ⟨b, o, e, hb, hc⟩ := h.2 hn
    exact ⟨b, o, e, by have := hk.size; omega, fun j u hu => (World.cell?_of_block (w := w) (hk.block b hb (hS hn b o e))).trans (hc j u hu)⟩⟩
theorem Reads.below (h : Reads w size A n xs) (hb : Below w.heap.size w w') : Reads w' size A n xs := h.keep hb.size fun b _ _ hlt => hb.block b hlt
theorem Reads.drew (h : Reads w size A n xs) : Reads w.drew size A n xs := h
theorem Reads.alloc (h : Reads w size A n xs) (o : Obj) : Reads (w.alloc o) size A n xs := h.keep (by simp) fun b _ _ hb => Below.heap_alloc w o b hb
theorem Reads.setCell (h : Reads w size A n xs) {p : Addr} (hp : ∀ b o, A = some ⟨b, o, none⟩ → b ≠ p.block) (u : Value) : Reads (w.setCell p u) size A n xs :=
  h.keep (by simp [World.setCell]) fun b o e _ => Below.heap_setCell w p u b (hp b o e)
end

/-- A block that is known whole, no cell of it frozen. -/
def Blk (w : World) (g : Nat) (t : TypeId) (cs : Array Value) : Prop := w.heap[g]? = some (.cells cs t (0, 0))
section
variable {w w' : World} {g : Nat} {t : TypeId} {cs : Array Value}
theorem Blk.lt (h : Blk w g t cs) : g < w.heap.size := (Array.getElem?_eq_some_iff.1 h).1
theorem Blk.cell (h : Blk w g t cs) (i : Nat) : w.cell? ⟨g, i, none⟩ = cs[i]? := cell_of_row w g i cs t (0, 0) h
theorem Blk.frozen (h : Blk w g t cs) (i : Nat) : w.frozen? ⟨g, i, none⟩ = false := by
  unfold Blk at h
  simp [World.frozen?, h]
theorem Blk.new (w : World) (t : TypeId) (cs : Array Value) : Blk (w.alloc (.cells cs t)) w.heap.size t cs := heap_alloc_new w _
theorem Blk.drew (h : Blk w g t cs) : Blk w.drew g t cs := h
theorem Blk.alloc (h : Blk w g t cs) (o : Obj) : Blk (w.alloc o) g t cs := (Below.heap_alloc w o g h.lt).trans h
theorem Blk.set_ (h : Blk w g t cs) (i : Nat) (u : Value) : Blk (w.setCell ⟨g, i, none⟩ u) g t (cs.setIfInBounds i u) := by
  unfold Blk at h ⊢
  simp [World.setCell, Array.getElem?_modify, h]
theorem Blk.far (h : Blk w g t cs) {p : Addr} (hp : g ≠ p.block) (u : Value) : Blk (w.setCell p u) g t cs := (Below.heap_setCell w p u g hp).trans h
theorem Blk.kept {S : Nat → Prop} (h : Blk w g t cs) (hk : Kept S w w') (hS : ¬ S g) : Blk w' g t cs := (hk.block g h.lt hS).trans h
theorem Blk.grown {row : Option Nat} (h : Blk w g t cs) (hb : w.grownBy w' row) (hg : some g ≠ row) : Blk w' g t cs := (hb.block g h.lt hg).trans h
theorem Blk.reads {size n : Nat} (h : Blk w g t cs) (o : Nat) (xs : List Value) (hl : xs.length = n * size) (hx : ∀ j u, xs[j]? = some u → cs[o + j]? = some u) : Reads w size (some ⟨g, o, none⟩) n xs :=
  ⟨hl, fun _ => ⟨g, o, rfl, h.lt, fun j u hu => (h.cell (o + j)).trans (hx j u hu)⟩⟩
end
/-- A block of n cells, cell j holding f j; none frozen. -/
def Tab (w : World) (g : Nat) (t : TypeId) (n : Nat) (f : Nat → Value) : Prop := ∃ cs : Array Value, Blk w g t cs ∧ cs.size = n ∧ ∀ j, j < n → cs[j]? = some (f j)
section
variable {w w' : World} {g n : Nat} {t : TypeId} {f f' : Nat → Value}
theorem Tab.lt (h : Tab w g t n f) : g < w.heap.size := by obtain ⟨cs, hb, _⟩ := h; exact hb.lt
theorem Tab.cell (h : Tab w g t n f) {j : Nat} (hj : j < n) : w.cell? ⟨g, j, none⟩ = some (f j) := by
  obtain ⟨cs, hb, _, hc⟩ := h
  rw [hb.cell j, hc j hj]
theorem Tab.frozen (h : Tab w g t n f) (j : Nat) : w.frozen? ⟨g, j, none⟩ = false := by obtain ⟨cs, hb, _⟩ := h; exact hb.frozen j
theorem Tab.drew (h : Tab w g t n f) : Tab w.drew g t n f := h
theorem Tab.drewN (h : Tab w g t n f) (k : Nat) : Tab (w.drewN k) g t n f := h
theorem Tab.alloc (h : Tab w g t n f) (o : Obj) : Tab (w.alloc o) g t n f := by obtain ⟨cs, hb, r⟩ := h; exact ⟨cs, hb.alloc o, r⟩
theorem Tab.far (h : Tab w g t n f) {p : Addr} (hp : g ≠ p.block) (u : Value) : Tab (w.setCell p u) g t n f := by obtain ⟨cs, hb, r⟩ := h; exact ⟨cs, hb.far hp u, r⟩
theorem Tab.kept {S : Nat → Prop} (h : Tab w g t n f) (hk : Kept S w w') (hS : ¬ S g) : Tab w' g t n f := by obtain ⟨cs, hb, r⟩ := h; exact ⟨cs, hb.kept hk hS, r⟩
theorem Tab.set_ (h : Tab w g t n f) (i : Nat) (u : Value) (h' : ∀ j, j < n → f' j = if j = i then u else f j) : Tab (w.setCell ⟨g, i, none⟩ u) g t n f' := by
  obtain ⟨cs, hb, hs, hc⟩ := h
  refine ⟨_, hb.set_ i u, by simpa using hs, fun j hj => ?_⟩
  rw [Array.getElem?_setIfInBounds, h' j hj]
  by_cases e : i = j
  · subst e
    rw [if_pos rfl, if_pos (by omega), if_pos rfl]
  · rw [if_neg e, if_neg (fun x => e x.symm), hc j hj]
theorem Tab.congr (h : Tab w g t n f) (h' : ∀ j, j < n → f' j = f j) : Tab w g t n f' := by
  obtain ⟨cs, hb, hs, hc⟩ := h
  exact ⟨cs, hb, hs, fun j hj => by rw [h' j hj]; exact hc j hj⟩
theorem Tab.new (w : World) (t : TypeId) (cs : Array Value) (n : Nat) (f : Nat → Value) (hs : cs.size = n) (hc : ∀ j, j < n → cs[j]? = some (f j)) : Tab (w.alloc (.cells cs t)) w.heap.size t n f :=
  ⟨cs, Blk.new w t cs, hs, hc⟩
theorem Tab.reads (h : Tab w g t n f) (o m size : Nat) (ho : o + m * size ≤ n) : Reads w size (some ⟨g, o, none⟩) m ((List.range (m * size)).map fun j => f (o + j)) := by
  refine ⟨by simp, fun _ => ⟨g, o, rfl, h.lt, fun j u hu => ?_⟩⟩
  rw [List.getElem?_map] at hu
  by_cases hj : j < m * size
  · rw [List.getElem?_range hj] at hu
    simp only [Option.map_some, Option.some.injEq] at hu
    rw [h.cell (by omega), hu]
  · rw [List.getElem?_eq_none (by simp; omega)] at hu
    cases hu
end

/-- The cells of a block that was just laid: what an append of a composite's elements asks. -/
theorem new_cells (w : World) (cs : Array Value) (t : TypeId) (news : List Value) (h : cs.toList = news) :
    ∀ (j : Nat) (u : Value), news[j]? = some u → (w.alloc (.cells cs t)).cell? ((⟨w.heap.size, 0, none⟩ : Addr).add j) = some u := by
  intro j u hu
  subst h
  rw [add_at, Nat.zero_add, (Blk.new w t cs).cell j]
  simpa using hu
theorem one_one {x : Value} (hx : x.oneCell' = true) : ∀ u ∈ [x], u.oneCell' = true := by
  intro u hu
  simp only [List.mem_singleton] at hu
  exact hu ▸ hx
theorem below_drawn {B : Nat} {a w : World} (h : Below B a w) (n : Nat) : Below B a (w.drewN n) := ⟨h.os, h.tape, h.output, h.size, h.block⟩
theorem Kept.drewN {S : Nat → Prop} {a w : World} (h : Kept S a w) (n : Nat) : Kept S a (w.drewN n) := ⟨h.os, h.tape, h.output, h.size, h.block⟩
theorem Blk.drewN {w : World} {g : Nat} {t : TypeId} {cs : Array Value} (h : Blk w g t cs) (n : Nat) : Blk (w.drewN n) g t cs := h
theorem Reads.drewN {w : World} {size n : Nat} {A : Option Addr} {xs : List Value} (h : Reads w size A n xs) (k : Nat) : Reads (w.drewN k) size A n xs := h
theorem run_index_agg {P : Program} {t e : TypeId} {n : Nat} (cs : Array Value) (k : IntKind) (i : Int) (v : Value) (h : P.underlying t = some (.array n e)) (hs : ∀ w, (sizeOf e).run P w = .ok 1 w) (hg : ∀ w, (isAgg e).run P w = .ok false w) (h0 : 0 ≤ i) (h1 : i < (n : Int)) (hv : cs[i.toNat]? = some v) (w : World) :
    (Instr.index t (.agg cs) (.int k i)).run P w = .ok v w := by
  have hn : 0 ≤ i ∧ i < (n : Int) := ⟨h0, h1⟩
  simp [Instr.index, run_underlying h, asIntOf, hn, hv, hs, hg, go_sem]
theorem run_isAgg_int {P : Program} {t : TypeId} {k : IntKind} (h : P.underlying t = some (.int k)) (w : World) : (isAgg t).run P w = .ok false w := by
  simp [isAgg, run_underlying h]
end Go.Proofs.YtgldkfaiofkhbaaDoor.Mem
