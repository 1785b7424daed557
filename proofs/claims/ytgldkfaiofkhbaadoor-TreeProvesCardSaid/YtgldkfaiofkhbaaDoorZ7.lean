/-
  Texts of the claim, put into one file: Octet.
-/
import Derived.Test.YtgldkfaiofkhbaaDoorZ3
import Derived.Lib.Hide
import Derived.Outline
import Derived.WalkLawsBesides
import Derived.Deep.QuietTactic
import Derived.BigQuiet
import Derived.Deep.RegionLaw
import Derived.Deep.AppendLies
import Derived.IntWalk

namespace Go.Proofs.YtgldkfaiofkhbaaDoor.Octet
open Go Go.RowKit Go.Proofs.YtgldkfaiofkhbaaDoor Go.Proofs.YtgldkfaiofkhbaaDoor.Mem Go.Proofs.YtgldkfaiofkhbaaDoor.Sha Go.Proofs.YtgldkfaiofkhbaaDoor.Bytes

/-- A writer at block g that holds l; its row (if there is one) is block r, above g. -/
def WrAt (w : World) (g : Nat) (r : Option Nat) (l : Text) : Prop :=
  ∃ v, Blk w g 171 #[v] ∧ w.ownsRow 0 5 1 v l.length (cells8 l) ∧ v.ownBlock = r ∧ ∀ k, r = some k → g < k ∧ k < w.heap.size

/-- From w on the writer got l: its block and its row may have turned, nothing else. -/
def Wrote (w : World) (g : Nat) (r : Option Nat) (l : Text) (w' : World) : Prop :=
  ∃ r', WrAt w' g r' l ∧ Kept (fun k => k = g ∨ some k = r) w w' ∧ (r' = r ∨ ∃ k, r' = some k ∧ w.heap.size ≤ k)

section
variable {w w' w1 w2 : World} {g : Nat} {r r1 : Option Nat} {l l1 l2 : Text}
theorem WrAt.lt (h : WrAt w g r l) : g < w.heap.size := by obtain ⟨v, hb, _⟩ := h; exact hb.lt
theorem WrAt.refl (h : WrAt w g r l) : Wrote w g r l w := ⟨r, h, Kept.refl _ _, .inl rfl⟩
theorem Wrote.step (h : Wrote w g r l w1) (hn : ∀ r1, WrAt w1 g r1 l → Wrote w1 g r1 l2 w2) : Wrote w g r l2 w2 := by
  obtain ⟨r1, h1, k1, c1⟩ := h
  obtain ⟨r2, h2, k2, c2⟩ := hn r1 h1
  refine ⟨r2, h2, k1.trans k2 (fun i hi hT => ?_), ?_⟩
  · rcases hT with hT | hT
    · exact .inl hT
    · rcases c1 with rfl | ⟨k, rfl, hk⟩
      · exact .inr hT
      · injection hT with hT
        omega
  · rcases c2 with rfl | ⟨k, rfl, hk⟩
    · exact c1
    · exact .inr ⟨k, rfl, Nat.le_trans k1.size hk⟩
theorem Wrote.below (h : Wrote w g r l w1) (hr : ∀ k, r = some k → g < k) {B : Nat} (hB : B ≤ g) (hBw : B ≤ w.heap.size) : Below B w w1 := by
  obtain ⟨r1, h1, k1, c1⟩ := h
  exact ⟨k1.os, k1.tape, k1.output, k1.size, fun k hk => k1.block k (by omega) (by
    rintro (rfl | h)
    · omega
    · have := hr k h.symm; omega)⟩
theorem WrAt.kept {S : Nat → Prop} (h : WrAt w g r l) (hk : Kept S w w') (hg : ¬ S g) (hr : ∀ k, r = some k → ¬ S k) : WrAt w' g r l := by
  obtain ⟨v, hb, ho, hv, hr1⟩ := h
  refine ⟨v, hb.kept hk hg, ⟨ho.1, ?_⟩, hv, fun k e => ⟨(hr1 k e).1, Nat.lt_of_lt_of_le (hr1 k e).2 hk.size⟩⟩
  rcases ho.2 with h | ⟨g', cap, cur, rfl, h1, h2, h3⟩
  · exact .inl h
  · refine .inr ⟨g', cap, cur, rfl, h1, ?_, h3⟩
    have e : r = some g' := by rw [← hv]; rfl
    rw [hk.block g' (hr1 g' e).2 (hr g' e), h2]
theorem WrAt.alloc (h : WrAt w g r l) (o : Obj) : WrAt (w.alloc o) g r l := h.kept (S := fun _ => False) ((Kept.refl _ w).alloc o) (fun x => x) (fun _ _ x => x)
theorem WrAt.drew (h : WrAt w g r l) : WrAt w.drew g r l := h.kept (S := fun _ => False) ((Kept.refl _ w).drew) (fun x => x) (fun _ _ x => x)
theorem WrAt.drewN (h : WrAt w g r l) (n : Nat) : WrAt (w.drewN n) g r l := h.kept (S := fun _ => False) ((Kept.refl _ w).drewN n) (fun x => x) (fun _ _ x => x)
/-- What an append onto the writer's row and the store of its field leave. -/
theorem Wrote.put {W : World} {v : Value} {n m G cap : Nat} {q : Text} (hw : WrAt w g r l) (hv : ∀ u, Blk w g 171 #[u] → u = v) (hn : n = l.length) (hm : m = q.length) {W0 : World} (hW0 : Kept (fun _ => False) w W0)
    (hown : W.ownsRow 0 5 1 (.slice (some ⟨G, 0, none⟩) (n + m) cap) (n + m) (cells8 l ++ cells8 q)) (hgrow : W0.grownBy W v.ownBlock) (hat : v.ownBlock = some G ∨ G = W0.heap.size) (hlt : G < W.heap.size) :
    Wrote w g r (l ++ q) (W.setCell ⟨g, 0, none⟩ (.slice (some ⟨G, 0, none⟩) (n + m) cap)) := by
  obtain ⟨v', hb, ho, hvr, hr1⟩ := hw
  obtain rfl := hv v' hb
  have hk0 : Kept (fun k => k = g ∨ some k = r) w W := (hW0.mono (fun _ _ h => h.elim)).grown hgrow (fun k hk => .inl (.inr (by rw [← hvr]; exact hk.symm)))
  have hgG : g ≠ G := by
    rcases hat with h | h
    · have := (hr1 G (by rw [← hvr]; exact h)).1; omega
    · have := hb.lt; have := hW0.size; omega
  have hbW : Blk W g 171 #[v'] := by
    refine (hgrow.block g (Nat.lt_of_lt_of_le hb.lt hW0.size) (fun e => ?_)).trans (hb.kept hW0 (fun x => x))
    have := (hr1 g (by rw [← hvr]; exact e.symm)).1
    omega
  refine ⟨some G, ⟨_, hbW.set_ 0 _, ?_, rfl, fun k e => ?_⟩, hk0.setCell (.inl (.inl rfl)) _, ?_⟩
  · refine ⟨by simp [cells8_len], ?_⟩
    rcases hown.2 with ⟨h, _⟩ | ⟨g', cap', cur, hv', h1, h2, h3, h4, h5, h6⟩
    · cases h
    · simp only [Value.slice.injEq, Option.some.injEq, Addr.mk.injEq, and_true, true_and] at hv'
      obtain ⟨rfl, rfl⟩ := hv'
      have hl2 : (l ++ q).length = n + m := by rw [List.length_append, hn, hm]
      refine .inr ⟨G, cap, cur, ?_, Nat.zero_le _, ?_, ?_, h4, h5, ?_⟩
      · rw [hl2]
      · exact (Below.heap_setCell W ⟨g, 0, none⟩ _ G (fun e => hgG e.symm)).trans h2
      · rw [hl2]; exact h3
      · rw [hl2, h6]; simp [cells8]
  · injection e with e
    subst e
    refine ⟨?_, by simpa [World.setCell] using hlt⟩
    rcases hat with h | h
    · exact (hr1 G (by rw [← hvr]; exact h)).1
    · have := hb.lt; have := hW0.size; omega
  · rcases hat with h | h
    · exact .inl (by rw [← hvr, h])
    · exact .inr ⟨G, rfl, by rw [h]; exact hW0.size⟩
end

section
variable {w0 w w' wi : World} {g : Nat} {r r1 : Option Nat} {l l2 : Text}
theorem Wrote.alloc (h : Wrote w0 g r l w) (o : Obj) : Wrote w0 g r l (w.alloc o) := by
  obtain ⟨r1, h1, k1, c1⟩ := h
  exact ⟨r1, h1.alloc o, k1.alloc o, c1⟩
theorem Wrote.drewN (h : Wrote w0 g r l w) (n : Nat) : Wrote w0 g r l (w.drewN n) := by
  obtain ⟨r1, h1, k1, c1⟩ := h
  exact ⟨r1, h1.drewN n, k1.drewN n, c1⟩
theorem Wrote.drew (h : Wrote w0 g r l w) : Wrote w0 g r l w.drew := h.drewN 1
theorem Wrote.kept (h : Wrote w0 g r l w) : Kept (fun k => k = g ∨ some k = r) w0 w := by obtain ⟨_, _, k, _⟩ := h; exact k
theorem Wrote.blk {T : TypeId} {b : Nat} {cs : Array Value} (h : Wrote w0 g r l w) (hb : Blk w0 b T cs) (h1 : b ≠ g) (h2 : some b ≠ r) : Blk w b T cs := hb.kept h.kept (fun h => by rcases h with h | h; exact h1 h; exact h2 h)
/-- What is above the writer's block is the call's own. -/
theorem Wrote.below' (h : Wrote w0 g r l w) (hr : ∀ k, r = some k → g < k) {B : Nat} (hB : B ≤ g) (hBw : B ≤ w0.heap.size) : Below B w0 w := Wrote.below h hr hB hBw
end

/-- Texts in a slice of slices, none of them in the writer's block or row. -/
def Apart (w : World) (g : Nat) (r : Option Nat) (A : Option Addr) (ps : List Text) : Prop :=
  0 < ps.length → ∃ b o, A = some ⟨b, o, none⟩ ∧ b < w.heap.size ∧ b ≠ g ∧ some b ≠ r ∧
    ∀ i q, ps[i]? = some q → ∃ Ai ci, w.cell? ⟨b, o + i, none⟩ = some (.slice Ai q.length ci) ∧ Reads w 1 Ai q.length (cells8 q) ∧ (Ai = none → q.length = 0 ∧ ci = 0) ∧ (0 < q.length → ∀ a, Ai = some a → a.block ≠ g ∧ some a.block ≠ r)
theorem Apart.at_ {w wr : World} {g : Nat} {r : Option Nat} {A : Option Addr} {ps : List Text} (h : Apart w g r A ps) {i : Nat} {q : Text} (hq : ps[i]? = some q) (hk : Kept (fun k => k = g ∨ some k = r) w wr) :
    ∃ b o Ai ci, A = some ⟨b, o, none⟩ ∧ wr.cell? ⟨b, o + i, none⟩ = some (.slice Ai q.length ci) ∧ Reads wr 1 Ai q.length (cells8 q) ∧ (Ai = none → q.length = 0 ∧ ci = 0) := by
  obtain ⟨b, o, e, hb, h1, h2, hc⟩ := h (Nat.lt_of_le_of_lt (Nat.zero_le _) (List.getElem?_eq_some_iff.1 hq).1)
  obtain ⟨Ai, ci, h3, h4, h5, h6⟩ := hc i q hq
  refine ⟨b, o, Ai, ci, e, (hk.cell (p := ⟨b, o + i, none⟩) hb (fun h => by rcases h with h | h; exact h1 h; exact h2 h)).trans h3, h4.kept0 hk (fun h0 b' o' e' h => ?_), h5⟩
  have := h6 (by omega) _ e'
  rcases h with h | h
  · exact this.1 h
  · exact this.2 h

/-- A number's eight bytes, the highest first. -/
def byteAt (N n : Nat) : BitVec 8 := BitVec.ofNat 8 (N / 2 ^ n)
def be8 (N : Nat) : Text := (List.range 8).map fun i => byteAt N (56 - 8 * i)
theorem be8_len (N : Nat) : (be8 N).length = 8 := by simp [be8]
theorem be8_at (N j : Nat) (hj : j < 8) : (be8 N)[j]? = some (byteAt N (56 - 8 * j)) := by
  unfold be8
  rw [List.getElem?_map, List.getElem?_range hj]
  rfl
theorem b8_at (N n : Nat) : (N : Int) / 2 ^ n % 256 = b8 (byteAt N n) := by
  unfold b8 byteAt
  rw [BitVec.toNat_ofNat]
  have : ((2 ^ n : Nat) : Int) = 2 ^ n := by simp
  rw [← this]
  omega

end Go.Proofs.YtgldkfaiofkhbaaDoor.Octet
