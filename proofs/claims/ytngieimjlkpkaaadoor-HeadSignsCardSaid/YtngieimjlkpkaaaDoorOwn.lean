/-
  Rows of one's own: words for texts that are appended to. No program in sight.
-/
import Derived.Test.YtngieimjlkpkaaaDoorAppend
namespace Go.Proofs.YtngieimjlkpkaaaDoor.Own
open Go Go.RowKit Go.Proofs.YtngieimjlkpkaaaDoor Go.Proofs.YtngieimjlkpkaaaDoor.Mem Go.Proofs.YtngieimjlkpkaaaDoor.Sha Go.Proofs.YtngieimjlkpkaaaDoor.Bytes Go.Proofs.YtngieimjlkpkaaaDoor.Append

/-- A slice that was laid just now owns its row. -/
theorem own_new (w : World) (B : Nat) (hB : B ≤ w.heap.size) (e : TypeId) (cs : Array Value) (n : Nat) (hn : cs.size = n) (hm : n ≤ maxLen) : (w.alloc (.cells cs e)).ownsRow B e 1 (.slice (some ⟨w.heap.size, 0, none⟩) n n) n cs.toList :=
  ⟨by simp [hn], .inr ⟨w.heap.size, n, cs, rfl, hB, heap_alloc_new w _, Nat.le_refl _, hm, by omega, by rw [List.take_of_length_le (by simp [hn])]⟩⟩
theorem own_block {w : World} {B e size n : Nat} {A : Option Addr} {c : Nat} {xs : List Value} (h : w.ownsRow B e size (.slice A n c) n xs) : ∀ k, Value.ownBlock (.slice A n c) = some k → B ≤ k := by
  intro k hk
  obtain ⟨A2, c2, e2, _, _, _, _, h2⟩ := Own.reads h
  injection e2 with e2 _ e3
  subst e2
  cases A with
  | none => cases hk
  | some a => injection hk with hk; subst hk; exact (h2 a rfl).1
theorem own_below {w w' : World} {B e size n : Nat} {v : Value} {xs : List Value} (h : w.ownsRow B e size v n xs) (hb : Below w.heap.size w w') : w'.ownsRow B e size v n xs :=
  ⟨h.1, h.2.imp id fun ⟨g, cap, cur, h1, h2, h3, h4⟩ => ⟨g, cap, cur, h1, h2, (hb.block g (Array.getElem?_eq_some_iff.1 h3).1).trans h3, h4⟩⟩
/-- What an append of a text onto a text leaves: the new text, owned. -/
theorem grew_text {w w' : World} {B n m : Nat} {A : Option Addr} {c : Nat} {q r : Text} {v' : Value} (h : Grew w B 5 1 (.slice A n c) n m (cells8 q) (cells8 r) v' w') {w0 : World} (hb : Below B w0 w) (hB : B ≤ w.heap.size) (hown : w.ownsRow B 5 1 (.slice A n c) n (cells8 q)) (s : Text) (hs : s = q ++ r) (k : Nat) (hk : k = n + m) :
    ∃ A' c', v' = .slice A' k c' ∧ Hid (w'.ownsRow B 5 1 (.slice A' k c') k (cells8 s)) ∧ Hid (Below B w0 w') := by
  subst hs
  subst hk
  have ho := h.own
  obtain ⟨A', c', rfl, -⟩ := Own.reads ho
  refine ⟨A', c', rfl, ?_, h.below hb hB (own_block hown)⟩
  show w'.ownsRow _ _ _ _ _ _
  simpa [cells8] using ho
/-- A row of one's own reads: where it lies. -/
theorem own_reads {w : World} {B n : Nat} {v : Value} {q : Text} (h : w.ownsRow B 5 1 v n (cells8 q)) : ∃ A c, v = .slice A n c ∧ n ≤ c ∧ (A = none → n = 0 ∧ c = 0) ∧ Reads w 1 A n (cells8 q) ∧ (∀ a, A = some a → B ≤ a.block) := by
  obtain ⟨A, c, e, hc, -, hnil, hr, hA⟩ := Own.reads h
  exact ⟨A, c, e, hc, hnil, hr, fun a ha => (hA a ha).1⟩
end Go.Proofs.YtngieimjlkpkaaaDoor.Own
