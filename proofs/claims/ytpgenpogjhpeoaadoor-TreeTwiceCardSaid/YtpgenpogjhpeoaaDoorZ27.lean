/-
  Texts of the claim, put into one file: RowsT.
-/
import Derived.Test.YtpgenpogjhpeoaaDoorZ25
import Derived.Test.YtpgenpogjhpeoaaDoorZ3

namespace Go.Proofs.YtpgenpogjhpeoaaDoor.RowsT
open Go Go.RowKit Go.Proofs.YtpgenpogjhpeoaaDoor Go.Proofs.YtpgenpogjhpeoaaDoor.Mem Go.Proofs.YtpgenpogjhpeoaaDoor.Sha Go.Proofs.YtpgenpogjhpeoaaDoor.Bytes Go.Proofs.YtpgenpogjhpeoaaDoor.Append Go.Proofs.YtpgenpogjhpeoaaDoor.TreeMem Go.Proofs.YtpgenpogjhpeoaaDoor.Node Go.Proofs.YtpgenpogjhpeoaaDoor.Texts Go.Proofs.YtpgenpogjhpeoaaDoor.AheadT

theorem own_up {w : World} {B e size n : Nat} {v : Value} {xs : List Value} (h : w.ownsRow 0 e size v n xs) (hB : ∀ k, v.ownBlock = some k → B ≤ k) : w.ownsRow B e size v n xs :=
  ⟨h.1, h.2.imp id fun ⟨g, cap, cur, h1, _, h3⟩ => ⟨g, cap, cur, h1, hB g (by rw [h1]; rfl), h3⟩⟩
theorem Txs.tx {w : World} {M : Nat → Prop} {gc : Nat} {r : Option Nat} {xs : List Value} {ts : List Text} (hx : Txs M w gc r xs ts) (hl : ∀ q ∈ ts, q.length = 65) : Tx w xs ts := fun i q hq => by
  obtain ⟨g, c, b1, b2, b3, -⟩ := hx i q hq
  have := hl q (List.mem_of_getElem? hq)
  exact ⟨by omega, g, c, b1, b2, b3⟩
theorem Tx.keep {S : Nat → Prop} {w w' : World} {xs : List Value} {ts : List Text} (h : Tx w xs ts) (hk : Kept S w w') (hS : ∀ g, S g → ∃ u, w.cell? ⟨g, 0, none⟩ = some u ∧ ∀ n, u ≠ .int .u8 n) : Tx w' xs ts := fun i q hq => by
  obtain ⟨hl, g, c, b1, b2, b3⟩ := h i q hq
  refine ⟨hl, g, c, b1, b2, b3.kept hk (fun b o e hs => ?_)⟩
  injection e with e
  injection e with e1 e2
  subst e1 e2
  obtain ⟨b', o, e1, -, e2⟩ := b3.at_ (by omega)
  injection e1 with e1
  injection e1 with e3 e4
  subst e3 e4
  obtain ⟨u, hu, hne⟩ := hS _ hs
  have h2 := e2 0 _ (cells8_at q 0 (by omega))
  rw [Nat.add_zero, hu] at h2
  exact hne _ (Option.some.inj h2)
/-- A row's own block does not begin with a byte. -/
theorem own_front {w : World} {B : Nat} {v : Value} {xs : List Value} {ts : List Text} (hO : w.ownsRow B 27 1 v ts.length xs) (hx : Tx w xs ts) (h0 : 0 < ts.length) : ∀ g, some g = v.ownBlock → ∃ u, w.cell? ⟨g, 0, none⟩ = some u ∧ ∀ n, u ≠ .int .u8 n := by
  intro g hg
  obtain ⟨q, hq⟩ : ∃ q, ts[0]? = some q := ⟨_, List.getElem?_eq_getElem h0⟩
  obtain ⟨-, gq, c, b1, -⟩ := hx 0 q hq
  obtain ⟨A, c2, rfl, -, -, -, hr, hA⟩ := Append.Own.reads hO
  obtain ⟨b', o, rfl, -, e2⟩ := hr.at_ (by omega)
  have h2 := e2 0 _ b1
  have h3 := (hA _ rfl).2
  rw [h3] at hg
  have hkb : g = b' := Option.some.inj hg
  have ho : o = 0 := by
    rcases hO.2 with ⟨e, -⟩ | ⟨g', cap, cur, e, -⟩
    · injection e with e; cases e
    · injection e with e; injection e with e; injection e
  subst hkb ho
  exact ⟨_, h2, fun n e => by cases e⟩
theorem Tx.pieces {w : World} {B : Nat} {v : Value} {xs : List Value} {ts : List Text} (hO : w.ownsRow B 27 1 v ts.length xs) (hx : Tx w xs ts) : ∃ A c, v = .slice A ts.length c ∧ ts.length ≤ c ∧ (A = none → ts.length = 0 ∧ c = 0) ∧ Pieces w A ts := by
  obtain ⟨A, c, e, hc, -, hnil, hr, -⟩ := Append.Own.reads hO
  refine ⟨A, c, e, hc, hnil, fun h0 => ?_⟩
  obtain ⟨b, o, e1, hb, hcs⟩ := hr.at_ (by omega)
  refine ⟨b, o, e1, hb, fun i q hq => ?_⟩
  obtain ⟨-, g, cq, a1, a2, a3⟩ := hx i q hq
  exact ⟨some ⟨g, 0, none⟩, cq, hcs i _ a1, a2, a3, fun h => by cases h⟩
/-- One row appended to the other. -/
theorem tx_cat {w w' : World} {B : Nat} {v1 v' : Value} {xs1 xs2 : List Value} {ts1 ts2 : List Text} (hO : w.ownsRow B 27 1 v1 ts1.length xs1) (h1 : Tx w xs1 ts1) (h2 : Tx w xs2 ts2) (h12 : 0 < ts2.length → 0 < ts1.length)
    (hG : Grew w B 27 1 v1 ts1.length ts2.length xs1 xs2 v' w') : Tx w' (xs1 ++ xs2) (ts1 ++ ts2) ∧ w'.ownsRow B 27 1 v' (ts1 ++ ts2).length (xs1 ++ xs2) := by
  have hk : Kept (fun k => some k = v1.ownBlock) w w' := (Kept.refl _ w).grown hG.grow (fun k e => .inl e.symm)
  have hxl : xs1.length = ts1.length := by have := hO.1; simpa using this
  refine ⟨?_, by rw [List.length_append]; exact hG.own⟩
  rcases Nat.eq_zero_or_pos ts1.length with h0 | h0
  · have e1 : ts1 = [] := List.length_eq_zero_iff.1 h0
    have e2 : ts2 = [] := List.length_eq_zero_iff.1 (by omega)
    subst e1 e2
    intro i q hq
    cases hq
  · exact (Tx.keep h1 hk (own_front hO h1 h0)).append (Tx.keep h2 hk (own_front hO h1 h0)) hxl
end Go.Proofs.YtpgenpogjhpeoaaDoor.RowsT
