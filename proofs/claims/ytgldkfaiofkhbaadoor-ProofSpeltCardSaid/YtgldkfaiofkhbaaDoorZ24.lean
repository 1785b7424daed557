/-
  Texts of the claim, put into one file: RowIdx.
-/
import Derived.Test.YtgldkfaiofkhbaaDoorZ21
import Derived.Test.YtgldkfaiofkhbaaDoorZ5
import Derived.Test.YtgldkfaiofkhbaaDoorZ14
import Derived.Deep.Strs

namespace Go.Proofs.YtgldkfaiofkhbaaDoor.RowIdx
open Go Go.RowKit Go.ChangeShapes Go.WideShapes Go.Proofs.YtgldkfaiofkhbaaDoor Go.Proofs.YtgldkfaiofkhbaaDoor.Mem Go.Proofs.YtgldkfaiofkhbaaDoor.Sha Go.Proofs.YtgldkfaiofkhbaaDoor.Bytes Go.Proofs.YtgldkfaiofkhbaaDoor.TreeMem Go.Proofs.YtgldkfaiofkhbaaDoor.Row Go.Proofs.YtgldkfaiofkhbaaDoor.StructEq Go.Proofs.YtgldkfaiofkhbaaDoor.ProofIdx3

def entKs : List CK := [.int .i64] ++ reps 32 [.int .u8]
theorem fits_ent {cs : List Value} (h : Fits entKs cs) : ∃ (n : Int) (q : Text), q.length = 32 ∧ cs = entC n q := by
  unfold entKs at h
  obtain ⟨h1, h2⟩ := h.split
  obtain ⟨q, hq, e2⟩ := fits_bytes _ _ h2
  have hl := h1.length
  match ht : cs.take [CK.int .i64].length, hl, h1 with
  | [v], _, h1 =>
    obtain ⟨n, rfl, -⟩ := h1.1
    refine ⟨n, q, hq, ?_⟩
    unfold entC
    rw [← e2]
    have := List.take_append_drop [CK.int .i64].length cs
    rw [ht] at this
    exact this.symm
section
variable {H : Type} {enc : TypeId × Value → H} {w : World} {base : Nat} {held : Bool}
theorem trod_struct5 {P : Program} {spare : Nat → Bool} {t : TypeId} {f0 f1 f2 f3 f4 : Field} {fuel : Nat} {cs : List Value} {x : DataW H × List MemPlace} (ht : P.underlying t = some (.struct #[f0, f1, f2, f3, f4])) (h : DataW.trod enc P w base spare held fuel t cs = some x) :
    ∃ y0 y1 y2 y3 y4 n, x.1 = .agg [y0.1, y1.1, y2.1, y3.1, y4.1] ∧ cs.length = P.cellsOf t ∧ DataW.trod enc P w base spare held n f0.type ((cs.drop f0.offset).take (P.cellsOf f0.type)) = some y0 ∧
      DataW.trod enc P w base spare held n f1.type ((cs.drop f1.offset).take (P.cellsOf f1.type)) = some y1 ∧ DataW.trod enc P w base spare held n f2.type ((cs.drop f2.offset).take (P.cellsOf f2.type)) = some y2 ∧
      DataW.trod enc P w base spare held n f3.type ((cs.drop f3.offset).take (P.cellsOf f3.type)) = some y3 ∧ DataW.trod enc P w base spare held n f4.type ((cs.drop f4.offset).take (P.cellsOf f4.type)) = some y4 := by
  obtain ⟨xs, n, _, rfl, hl, hlen, hf⟩ := DataW.trod_struct ht h
  match xs, hlen with
  | [y0, y1, y2, y3, y4], _ => exact ⟨y0, y1, y2, y3, y4, n, by simp, hl, by simpa using hf 0 f0 rfl, by simpa using hf 1 f1 rfl, by simpa using hf 2 f2 rfl, by simpa using hf 3 f3 rfl, by simpa using hf 4 f4 rfl⟩
theorem five_parts (l : List Value) (a b c d e : List Value) (h0 : (l.drop 0).take 1 = a) (h1 : (l.drop 1).take 1 = b) (h2 : (l.drop 2).take 33 = c) (h3 : (l.drop 35).take 32 = d) (h4 : (l.drop 67).take 1 = e) (hl : l.length = 68) : l = a ++ b ++ c ++ d ++ e := by
  subst h0 h1 h2 h3 h4
  have e4 : (l.drop 67).take 1 = l.drop 67 := List.take_of_length_le (by rw [List.length_drop]; omega)
  have s3 : (l.drop 35).take 32 ++ l.drop 67 = l.drop 35 := by
    have := List.take_append_drop 32 (l.drop 35)
    rwa [List.drop_drop] at this
  have s2 : (l.drop 2).take 33 ++ l.drop 35 = l.drop 2 := by
    have := List.take_append_drop 33 (l.drop 2)
    rwa [List.drop_drop] at this
  have s1 : (l.drop 1).take 1 ++ l.drop 2 = l.drop 1 := by
    have := List.take_append_drop 1 (l.drop 1)
    rwa [List.drop_drop] at this
  have s0 : (l.drop 0).take 1 ++ l.drop 1 = l := by
    rw [List.drop_zero]
    exact List.take_append_drop 1 l
  rw [e4, List.append_assoc, s3, List.append_assoc, s2, List.append_assoc, s1, s0]

set_option maxRecDepth 100000 in
theorem open_idx {r : Reach} {b0 : Nat} {v : Value} {d : DataW H} {ps : List MemPlace} (hval : Value.okWide Tryd.prog w r b0 55 v)
    (h : DataW.Trod enc Tryd.prog w base (fun _ => true) held 55 v d ps) :
    ∃ s f cnt ch bm A n c qs, v = .agg (idxCells s f (entC cnt ch) bm A n c).toArray ∧ ch.length = 32 ∧ bm.length = 32 ∧ n ≤ c ∧ RdD w A n qs ∧ (A = none → n = 0 ∧ c = 0) ∧ (∃ parts, d = .agg (.lit (.string s.data.toList) :: parts)) := by
  obtain ⟨cs, rfl, hsz⟩ := okWide_struct Tryd.underlying55 hval
  obtain ⟨fuel, hx⟩ := h
  obtain ⟨y0, y1, y2, y3, y4, f, hd, hl, h0, h1, h2, h3, h4⟩ := trod_struct5 Tryd.underlying55 hx
  obtain ⟨s, e0, hs0, -⟩ := DataW.trod_string Tryd.underlying9 h0
  obtain ⟨b, e1, -⟩ := DataW.trod_bool Tryd.underlying4 h1
  have k2 := flat_fits 4 53 entKs _ _ _ (by kernel_rfl) h2
  have k3 := flat_fits 4 23 (reps 32 [.int .u8]) _ _ _ (by kernel_rfl) h3
  obtain ⟨cnt, ch, hch, e2⟩ := fits_ent k2
  obtain ⟨bm, hbm, e3⟩ := fits_bytes _ _ k3
  obtain ⟨A, n, c, xs, e4, hn, -, hnil, hf, hr, -⟩ := open_flat (ks := reps 32 [.int .u8]) (N := 3) Tryd.underlying42 (by kernel_rfl) (by kernel_rfl) h4
  obtain ⟨qs, hq, hdd, rfl⟩ := fits_digs n xs hf
  have hc0 : Tryd.prog.cellsOf 9 = 1 := by kernel_rfl
  have hc1 : Tryd.prog.cellsOf 4 = 1 := by kernel_rfl
  have hc2 : Tryd.prog.cellsOf 53 = 33 := by kernel_rfl
  have hc3 : Tryd.prog.cellsOf 23 = 32 := by kernel_rfl
  have hc4 : Tryd.prog.cellsOf 42 = 1 := by kernel_rfl
  have hc5 : Tryd.prog.cellsOf 55 = 68 := by kernel_rfl
  have e0' : (cs.toList.drop 0).take (Tryd.prog.cellsOf 9) = [.string s] := e0
  have e1' : (cs.toList.drop 1).take (Tryd.prog.cellsOf 4) = [.bool b] := e1
  have e2' : (cs.toList.drop 2).take (Tryd.prog.cellsOf 53) = entC cnt ch := e2
  have e3' : (cs.toList.drop 35).take (Tryd.prog.cellsOf 23) = cells8 bm := e3
  have e4' : (cs.toList.drop 67).take (Tryd.prog.cellsOf 42) = [.slice A n c] := e4
  have hl' : cs.toList.length = 68 := hl.trans hc5
  rw [hc0] at e0'
  rw [hc1] at e1'
  rw [hc2] at e2'
  rw [hc3] at e3'
  rw [hc4] at e4'
  have hcs := five_parts cs.toList _ _ _ _ _ e0' e1' e2' e3' e4' hl'
  refine ⟨s, b, cnt, ch, bm, A, n, c, qs, ?_, hch, hbm, hn, ⟨hq, hdd, ?_⟩, hnil, ?_⟩
  · congr 1
    apply Array.ext'
    exact hcs
  · have : (reps 32 [CK.int .u8]).length = 32 := by simp [reps_len]
    rw [this] at hr
    exact hr
  · have : y0.1 = .lit (.string s.data.toList) := by rw [hs0]
    rw [this] at hd
    exact ⟨_, hd⟩
theorem name_size {P : Program} {ts : List TypeId} {ds : List (DataW H)} {j : Nat} {t : TypeId} {s : ByteArray} {parts : List (DataW H)} {f0 : Field} {fs : List Field} (h : (DataW.weightsEach P ts ds).all (· ≤ reachBytes) = true) (ht : ts[j]? = some t) (hd : ds[j]? = some (.agg (.lit (.string s.data.toList) :: parts))) (hu : P.underlying t = some (.struct (f0 :: fs).toArray)) : s.size ≤ 140737488351232 := by
  have := List.all_eq_true.1 h _ (DataW.weights_mem_each ht hd s.data.toList.length (by simp [DataW.weights, hu, DataW.weightsEach]))
  have h2 := of_decide_eq_true this
  simpa [reachBytes] using h2
end
end Go.Proofs.YtgldkfaiofkhbaaDoor.RowIdx
