/-
  Texts of the claim, put into one file: CutsM.
-/
import Derived.Test.YthkdlaohaekilaaDoorZ46
import Derived.Test.YthkdlaohaekilaaDoorZ47
import Derived.Test.YthkdlaohaekilaaDoorZ35

namespace Go.Proofs.YthkdlaohaekilaaDoor.CutsM
open Go Go.RowKit Go.Proofs.YthkdlaohaekilaaDoor Go.Proofs.YthkdlaohaekilaaDoor.Mem Go.Proofs.YthkdlaohaekilaaDoor.Sha Go.Proofs.YthkdlaohaekilaaDoor.Bytes Go.Proofs.YthkdlaohaekilaaDoor.TreeMem Go.Proofs.YthkdlaohaekilaaDoor.Own Go.Proofs.YthkdlaohaekilaaDoor.HeadMem Go.Proofs.YthkdlaohaekilaaDoor.Book Go.Proofs.YthkdlaohaekilaaDoor.Book8 Go.Proofs.YthkdlaohaekilaaDoor.Prs Go.Proofs.YthkdlaohaekilaaDoor.Reach Go.Proofs.YthkdlaohaekilaaDoor.PieceP Go.Proofs.YthkdlaohaekilaaDoor.PieceRow Go.Proofs.YthkdlaohaekilaaDoor.PieceBegins Go.Proofs.YthkdlaohaekilaaDoor.PieceLay Go.Proofs.YthkdlaohaekilaaDoor.PieceMem Go.Proofs.YthkdlaohaekilaaDoor.SamePiece Go.Proofs.YthkdlaohaekilaaDoor.Pcs Go.Proofs.YthkdlaohaekilaaDoor.HandM Go.Proofs.YthkdlaohaekilaaDoor.Hand Go.Proofs.YthkdlaohaekilaaDoor.CutP Go.Proofs.YthkdlaohaekilaaDoor.CutM Go.Proofs.YthkdlaohaekilaaDoor.CutQ Go.Proofs.YthkdlaohaekilaaDoor.PiecesW

theorem cuts_alike {ps qs : List Pr} (h : SamePiece.Alike ps qs) (wd : Int) (s : ByteArray) (F : Int) (b : Text) (es : List Text) : cutsW wd s F b es ps = cutsW wd s F b es qs := by
  have hi : itemsOf es ps = itemsOf es qs := by
    have e : ∀ l : List Pr, itemsOf es l = List.zipWith (fun (e : Text) (k : Int × Int × Nat × List Text) => (⟨e.length, k.1, k.2.1, k.2.2.1, PieceRow.fitB k.1 k.2.1 k.2.2.1 e.length⟩ : PieceP.Item)) es (l.map (fun p => (p.x, p.y, p.n, p.ds))) := fun l => by
      rw [List.zipWith_map_right]
      rfl
    rw [e, e, h]
  have hf : firstSize ps = firstSize qs := by
    cases ps with
    | nil =>
      have := h.len
      cases qs with
      | nil => rfl
      | cons q qs => simp at this
    | cons p ps =>
      cases qs with
      | nil => have := h.len; simp at this
      | cons q qs => exact (h.at_ (i := 0) rfl rfl).1
  unfold cutsW
  rw [hf, hi, h.len]
theorem says_few {s : ByteArray} {es : List Text} {ps qs : List Pr} {p : Pc} {k : Cut} (h : Says s es qs p k) (ha : SamePiece.Alike qs ps) {w : World} (ok : p.Ok w) (hn : es.length ≤ 1000000) (hm : ps.length ≤ 1000000) (hsh : ∀ e ∈ es, e.length < 140737488355328) (hnn : ∀ x ∈ ps, x.n < 140737488355328) : p.Few := by
  obtain ⟨-, -, -, h4, h5⟩ := h
  have hl5 := h5.len
  rw [List.length_take, List.length_drop, ha.len] at hl5
  have h1 := ok.he
  have h2 := ok.hp
  refine ⟨?_, by omega, fun e he => ?_, fun x hx => ?_⟩
  · rw [h4, List.length_take, List.length_drop] at h1
    omega
  · rw [h4] at he
    exact hsh e (List.mem_of_mem_drop (List.mem_of_mem_take he))
  · obtain ⟨i, hi, rfl⟩ := List.getElem_of_mem hx
    have hi2 : i < ((qs.drop k.lo).take k.n).length := by rw [List.length_take, List.length_drop, ha.len]; omega
    have e1 := (h5.at_ (List.getElem?_eq_getElem hi) (List.getElem?_eq_getElem hi2)).2.2.1
    rw [e1]
    obtain ⟨j, hj, ej⟩ := List.getElem_of_mem (List.mem_of_mem_drop (List.mem_of_mem_take (List.getElem_mem hi2)))
    rw [← ej]
    have hj2 : j < ps.length := by rw [← ha.len]; exact hj
    rw [(ha.at_ (List.getElem?_eq_getElem hj) (List.getElem?_eq_getElem hj2)).2.2.1]
    exact hnn _ (List.getElem_mem hj2)
theorem cuts_len {sz : Int} {nb : Nat} {ch : Text → List Text → Text} {es : List Text} {its : List PieceP.Item} : ∀ {k : Nat} {F : Int} {b : Text} {lo : Nat} {ks : List Cut}, cuts sz nb ch es its k F b lo = some ks → ks.length ≤ k
  | 0, F, b, lo, ks, h => by
    rw [cuts] at h
    split at h
    · obtain rfl := Option.some.inj h
      exact Nat.zero_le _
    · cases h
  | k + 1, F, b, lo, ks, h => by
    rw [cuts] at h
    split at h
    · obtain rfl := Option.some.inj h
      exact Nat.zero_le _
    · split at h
      · cases h
      · obtain ⟨ks', h1, rfl⟩ := Option.map_eq_some_iff.1 h
        have := cuts_len h1
        simp only [List.length_cons]
        omega
/-- The blocks that are written over. -/
def SW (w : World) (B g k : Nat) : Prop := B ≤ k ∧ k < g ∧ ∃ cs, Blk w k 5 cs ∨ Blk w k 23 cs
structure Wr (B g : Nat) (w0 W : World) (gs hs : List Nat) (es : List Text) (ps : List Pr) : Prop where
  k : Kept (SW w0 B g) w0 W
  r : ∀ (i x : Nat) (q : Text), gs[i]? = some x → es[i]? = some q → SW w0 B g x ∧ ∃ cs, Blk W x 5 cs ∧ cs.size = q.length + 80
  d : ∀ (i x : Nat) (p : Pr), hs[i]? = some x → ps[i]? = some p → SW w0 B g x ∧ ∃ cs, Blk W x 23 cs ∧ cs.size = (p.n + 80) * 32
section
variable {B g : Nat} {w0 W : World} {gs hs : List Nat} {es : List Text} {ps : List Pr}
theorem blk_ne {W : World} {x y t t' : Nat} {cs cs' : Array Value} (h : Blk W x t cs) (h' : Blk W y t' cs') (hne : t ≠ t') : x ≠ y := fun e => by
  subst e
  have h1 : W.heap[x]? = some (.cells cs t (0, 0)) := h
  have h2 : W.heap[x]? = some (.cells cs' t' (0, 0)) := h'
  rw [h1] at h2
  injection h2 with h2
  injection h2 with _ h2
  exact hne h2
theorem Wr.set8 (h : Wr B g w0 W gs hs es ps) {i x j : Nat} {q : Text} (hx : gs[i]? = some x) (hq : es[i]? = some q) (u : Value) : Wr B g w0 (W.setCell ⟨x, j, none⟩ u) gs hs es ps := by
  obtain ⟨hs1, cs, hb, hz⟩ := h.r i x q hx hq
  refine ⟨h.k.setCell (.inl hs1) u, fun i' y q' e1 e2 => ?_, fun i' y p e1 e2 => ?_⟩
  · obtain ⟨a1, cs', a2, a3⟩ := h.r i' y q' e1 e2
    refine ⟨a1, ?_⟩
    by_cases e : y = x
    · subst e
      exact ⟨_, a2.set_ j u, by rw [Array.size_setIfInBounds]; exact a3⟩
    · exact ⟨cs', a2.far e u, a3⟩
  · obtain ⟨a1, cs', a2, a3⟩ := h.d i' y p e1 e2
    exact ⟨a1, cs', a2.far (blk_ne a2 hb (by decide)) u, a3⟩
theorem Wr.setD (h : Wr B g w0 W gs hs es ps) {i x : Nat} {p : Pr} (hx : hs[i]? = some x) (hp : ps[i]? = some p) {X : Array Value} (hX : X.size = (p.n + 80) * 32) : Wr B g w0 (W.setRow x X) gs hs es ps := by
  obtain ⟨hs1, cs, hb, hz⟩ := h.d i x p hx hp
  refine ⟨Bytes.Kept.setRow h.k hs1 X, fun i' y q' e1 e2 => ?_, fun i' y p' e1 e2 => ?_⟩
  · obtain ⟨a1, cs', a2, a3⟩ := h.r i' y q' e1 e2
    exact ⟨a1, cs', (setRow_other _ _ _ _ (blk_ne a2 hb (by decide))).trans a2, a3⟩
  · obtain ⟨a1, cs', a2, a3⟩ := h.d i' y p' e1 e2
    refine ⟨a1, ?_⟩
    by_cases e : y = x
    · subst e
      refine ⟨X, setRow_heap _ _ _ _ _ _ a2, ?_⟩
      have e1 : W.heap[y]? = some (.cells cs 23 (0, 0)) := hb
      have e2 : W.heap[y]? = some (.cells cs' 23 (0, 0)) := a2
      rw [e1] at e2
      injection e2 with e2
      injection e2 with e2 _
      rw [hX, ← hz, e2, a3]
    · exact ⟨cs', (setRow_other _ _ _ _ e).trans a2, a3⟩
theorem Wr.drewN (h : Wr B g w0 W gs hs es ps) {W' : World} (hb : Below W.heap.size W W') : Wr B g w0 W' gs hs es ps :=
  ⟨h.k.trans (Kept.of_below (S := SW w0 B g) hb) (fun _ _ x => x), fun i x q e1 e2 => by obtain ⟨a1, cs, a2, a3⟩ := h.r i x q e1 e2; exact ⟨a1, cs, (hb.block _ a2.lt).trans a2, a3⟩, fun i x p e1 e2 => by obtain ⟨a1, cs, a2, a3⟩ := h.d i x p e1 e2; exact ⟨a1, cs, (hb.block _ a2.lt).trans a2, a3⟩⟩
theorem Wr.ov (h : Wr B g w0 W gs hs es ps) {u0 : World} {n m : Nat} {E P V Q : Value} (hF : HF u0 w0 B E P V Q n m gs hs es ps) : W.ownsRow B 27 1 V n (xsV gs es) :=
  own_keep hF.ov h.k (fun k e ⟨_, _, cs, hs⟩ => hs.elim (fun h => blk_own h hF.ov (by decide) e.symm) (fun h => blk_own h hF.ov (by decide) e.symm))
theorem Wr.oq (h : Wr B g w0 W gs hs es ps) {u0 : World} {n m : Nat} {E P V Q : Value} (hF : HF u0 w0 B E P V Q n m gs hs es ps) : W.ownsRow B 29 1 Q m (xsQ hs ps) :=
  own_keep hF.oq h.k (fun k e ⟨_, _, cs, hs⟩ => hs.elim (fun h => blk_own h hF.oq (by decide) e.symm) (fun h => blk_own h hF.oq (by decide) e.symm))
theorem SW.back {w w' : World} {k : Nat} (hb : Below w.heap.size w w') (hk : k < w.heap.size) (h : SW w' B g k) : SW w B g k := by
  obtain ⟨h1, h2, cs, h3⟩ := h
  have e := hb.block k hk
  refine ⟨h1, h2, cs, h3.imp (fun h => ?_) (fun h => ?_)⟩
  · unfold Blk at h ⊢; rw [← e]; exact h
  · unfold Blk at h ⊢; rw [← e]; exact h
/-- The copies are at hand. -/
theorem Wr.start {u0 w4 : World} {n m : Nat} {E P V Q : Value} (hF : HF u0 w4 B E P V Q n m gs hs es ps) (hd : ∀ p ∈ ps, Digs p.ds ∧ p.ds.length = p.n) (hb : Below w4.heap.size w4 w0) (hg : w4.heap.size ≤ g) : Wr B g w0 w0 gs hs es ps := by
  refine ⟨Kept.refl _ _, fun i x q e1 e2 => ?_, fun i x p e1 e2 => ?_⟩
  · obtain ⟨⟨cs, a1, a2, a3⟩, a4⟩ := hF.roo.2 i x q e1 e2
    have hb1 : Blk w0 x 5 cs := (hb.block _ a1.lt).trans a1
    exact ⟨⟨a4, Nat.lt_of_lt_of_le a1.lt hg, cs, .inl hb1⟩, cs, hb1, a2⟩
  · obtain ⟨a1, a4⟩ := hF.rod.2 i x p e1 e2
    have hb1 : Blk w0 x 23 ((p.ds ++ List.replicate 80 Law17a.mk0).flatMap cells8).toArray := (hb.block _ (Blk.lt a1)).trans a1
    obtain ⟨d1, d2⟩ := hd p (List.mem_of_getElem? e2)
    refine ⟨⟨a4, Nat.lt_of_lt_of_le (Blk.lt a1) hg, _, .inr hb1⟩, _, hb1, ?_⟩
    rw [List.size_toArray, flatMap_len _ (d1.append_ (Digs.rep _ Law17a.mk0_len)), List.length_append, List.length_replicate, d2]
end
end Go.Proofs.YthkdlaohaekilaaDoor.CutsM
