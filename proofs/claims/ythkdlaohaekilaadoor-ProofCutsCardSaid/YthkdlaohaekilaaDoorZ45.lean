/-
  Texts of the claim, put into one file: ReadPiece, Law17d, Law17e, CutQ.
-/
import Derived.Test.YthkdlaohaekilaaDoorZ34
import Derived.Test.YthkdlaohaekilaaDoorZ37
import Derived.Test.YthkdlaohaekilaaDoorZ18
import Derived.Test.YthkdlaohaekilaaDoorZ24
import Derived.Test.YthkdlaohaekilaaDoorZ44
import Derived.Test.YthkdlaohaekilaaDoorZ33
import Derived.Test.YthkdlaohaekilaaDoorZ35
import Derived.Test.YthkdlaohaekilaaDoorZ3
import Derived.Test.YthkdlaohaekilaaDoorZ32

namespace Go.Proofs.YthkdlaohaekilaaDoor.ReadPiece
open Go Go.RowKit Go.Proofs.YthkdlaohaekilaaDoor Go.Proofs.YthkdlaohaekilaaDoor.HeadMem Go.Proofs.YthkdlaohaekilaaDoor.Mem Go.Proofs.YthkdlaohaekilaaDoor.Sha Go.Proofs.YthkdlaohaekilaaDoor.Bytes Go.Proofs.YthkdlaohaekilaaDoor.Append Go.Proofs.YthkdlaohaekilaaDoor.Octet Go.Proofs.YthkdlaohaekilaaDoor.TreeMath Go.Proofs.YthkdlaohaekilaaDoor.TreeMem Go.Proofs.YthkdlaohaekilaaDoor.TreeRoot Go.Proofs.YthkdlaohaekilaaDoor.Held Go.Proofs.YthkdlaohaekilaaDoor.Own Go.Proofs.YthkdlaohaekilaaDoor.Reader Go.Proofs.YthkdlaohaekilaaDoor.Reader4 Go.Proofs.YthkdlaohaekilaaDoor.ProofBeside Go.Proofs.YthkdlaohaekilaaDoor.ProofEnc Go.Proofs.YthkdlaohaekilaaDoor.ProofIdx Go.Proofs.YthkdlaohaekilaaDoor.ProofIdx2 Go.Proofs.YthkdlaohaekilaaDoor.IdxMem Go.Proofs.YthkdlaohaekilaaDoor.DecIncl Go.Proofs.YthkdlaohaekilaaDoor.Ref17 Go.Proofs.YthkdlaohaekilaaDoor.Ref17b Go.Proofs.YthkdlaohaekilaaDoor.Sides Go.Proofs.YthkdlaohaekilaaDoor.Beside17 Go.Proofs.YthkdlaohaekilaaDoor.Bytes17 Go.Proofs.YthkdlaohaekilaaDoor.Way17 Go.Proofs.YthkdlaohaekilaaDoor.Same17 Go.Proofs.YthkdlaohaekilaaDoor.Book Go.Proofs.YthkdlaohaekilaaDoor.Guard Go.Proofs.YthkdlaohaekilaaDoor.ReadIncl Go.Proofs.YthkdlaohaekilaaDoor.ReadIdx0 Go.Proofs.YthkdlaohaekilaaDoor.DecIdx Go.Proofs.YthkdlaohaekilaaDoor.DecIdx2 Go.Proofs.YthkdlaohaekilaaDoor.PieceP Go.Proofs.YthkdlaohaekilaaDoor.PieceBegins Go.Proofs.YthkdlaohaekilaaDoor.Prs Go.Proofs.YthkdlaohaekilaaDoor.Reach Go.Proofs.YthkdlaohaekilaaDoor.Octet4 Go.Proofs.YthkdlaohaekilaaDoor.PieceB Go.Proofs.YthkdlaohaekilaaDoor.PieceLay Go.Proofs.YthkdlaohaekilaaDoor.RefPiece Go.Proofs.YthkdlaohaekilaaDoor.PieceRead Go.Proofs.YthkdlaohaekilaaDoor.PieceMem Go.Proofs.YthkdlaohaekilaaDoor.PieceMem2 Go.Proofs.YthkdlaohaekilaaDoor.Way17S

theorem infoTx : (Tryd.prog.info? 27).map (fun i => (i.zero, i.size, i.bytes)) = some (some (.slice none 0 0), 1, 24) := by kernel_rfl
theorem infoIn : (Tryd.prog.info? 31).map (fun i => (i.zero, i.size, i.bytes)) = some (some (.agg #[.int .i64 0, .int .i64 0, .slice none 0 0]), 3, 40) := by kernel_rfl
theorem sizeIn : (Tryd.prog.info? 31).map (·.size) = some 3 := by kernel_rfl
theorem zeroIn : ((Tryd.prog.info? 31).bind (·.zero)).isSome = true := by kernel_rfl
end Go.Proofs.YthkdlaohaekilaaDoor.ReadPiece

namespace Go.Proofs.YthkdlaohaekilaaDoor.Law17d
open Go Go.RowKit Go.Proofs.YthkdlaohaekilaaDoor Go.Proofs.YthkdlaohaekilaaDoor.Mem Go.Proofs.YthkdlaohaekilaaDoor.Sha Go.Proofs.YthkdlaohaekilaaDoor.Bytes Go.Proofs.YthkdlaohaekilaaDoor.TreeMem Go.Proofs.YthkdlaohaekilaaDoor.TreeRoot Go.Proofs.YthkdlaohaekilaaDoor.Held Go.Proofs.YthkdlaohaekilaaDoor.Guard Go.Proofs.YthkdlaohaekilaaDoor.Book8 Go.Proofs.YthkdlaohaekilaaDoor.Law17a Go.Proofs.YthkdlaohaekilaaDoor.Prs Go.Proofs.YthkdlaohaekilaaDoor.PieceB Go.Proofs.YthkdlaohaekilaaDoor.PieceLay Go.Proofs.YthkdlaohaekilaaDoor.PieceRead Go.Proofs.YthkdlaohaekilaaDoor.PieceMem Go.Proofs.YthkdlaohaekilaaDoor.SamePiece Go.Proofs.YthkdlaohaekilaaDoor.DecPiece Go.Proofs.YthkdlaohaekilaaDoor.ReadPiece

theorem _root_.Go.Proofs.YthkdlaohaekilaaDoor.Mem.Blk.onw {w w' : World} {g : Nat} {t : TypeId} {cs : Array Value} (h : Blk w g t cs) (hb : Below w.heap.size w w') : Blk w' g t cs := (hb.block g h.lt).trans h
theorem _root_.Go.Proofs.YthkdlaohaekilaaDoor.Bytes.Pieces.onw {w w' : World} {A : Option Addr} {ps : List Text} (h : Pieces w A ps) (hb : Below w.heap.size w w') : Pieces w' A ps := h.below hb
/-- An answer at hand. -/
def Got (w : World) (X : Ans) (A A2 : Option Addr) (n : Nat) (ps : List Pr) : Prop := X.rows.length = n ∧ PsOf X.Z X.rows ps ∧ Pieces w A (X.rows.map (·.e)) ∧ Prs w A2 ps
theorem Got.below {w w' : World} {X : Ans} {A A2 : Option Addr} {n : Nat} {ps : List Pr} (h : Got w X A A2 n ps) (hb : Below w.heap.size w w') : Got w' X A A2 n ps := ⟨h.1, h.2.1, h.2.2.1.below hb, h.2.2.2.below hb⟩
end Go.Proofs.YthkdlaohaekilaaDoor.Law17d

namespace Go.Proofs.YthkdlaohaekilaaDoor.Law17e
open Go Go.RowKit Go.Proofs.YthkdlaohaekilaaDoor Go.Proofs.YthkdlaohaekilaaDoor.Mem Go.Proofs.YthkdlaohaekilaaDoor.Sha Go.Proofs.YthkdlaohaekilaaDoor.Bytes Go.Proofs.YthkdlaohaekilaaDoor.TreeMem Go.Proofs.YthkdlaohaekilaaDoor.Book Go.Proofs.YthkdlaohaekilaaDoor.Book8 Go.Proofs.YthkdlaohaekilaaDoor.Law17a Go.Proofs.YthkdlaohaekilaaDoor.Prs Go.Proofs.YthkdlaohaekilaaDoor.Reach Go.Proofs.YthkdlaohaekilaaDoor.PieceB Go.Proofs.YthkdlaohaekilaaDoor.PieceLay Go.Proofs.YthkdlaohaekilaaDoor.PieceRead Go.Proofs.YthkdlaohaekilaaDoor.PieceMem Go.Proofs.YthkdlaohaekilaaDoor.SamePiece Go.Proofs.YthkdlaohaekilaaDoor.HandM Go.Proofs.YthkdlaohaekilaaDoor.Hand Go.Proofs.YthkdlaohaekilaaDoor.Intact17

theorem undI : Tryd.prog.underlying 25 = some (.slice (Tryd.prog.elem 25)) := by kernel_rfl
theorem size3s (w : World) : (sizeOf (Tryd.prog.elem 25)).run Tryd.prog w = .ok 3 w := by kernel_rfl
theorem run_headI {A : Option Addr} {n c k : Nat} (hk : k ≤ c) (x : Int) (hx : x = k) (w : World) :
    (Instr.sliceAt 25 (.slice A n c) none (some (.int .i64 x)) none).run Tryd.prog w = .ok (.slice A k c) w := by
  subst hx
  rw [run_sliceAt_slice w _ _ _ _ _ undI, run_slice_h w _ A n c undI .i64 (k : Int) (by omega) (by omega), size3s]
  simp only [Result.andThen, sliced, Int.toNat_natCast, Nat.zero_mul, Nat.sub_zero]
  cases A with
  | none => simp
  | some a => simp [add_zero]
set_option maxRecDepth 100000 in
theorem fewE_yes (A : Option Addr) (n c N : Nat) (hn : n ≤ N) (w : World) :
    Calls Tryd.prog 9 #[.slice A n c, .int .i64 (N : Int)] w fun e w' => e = .returned (.slice A n c) ∧ w = w' := by
  have h1 : (n : Int) ≤ (N : Int) := by omega
  go_enter Tryd.func9, Tryd.ntmps9
  go_wp2_with fail
  go_ret
  exact ⟨rfl, rfl⟩
set_option maxRecDepth 100000 in
theorem fewE_no (A : Option Addr) (n c N : Nat) (hn : N < n) (hc : n ≤ c) (w : World) :
    Calls Tryd.prog 9 #[.slice A n c, .int .i64 (N : Int)] w fun e w' => e = .returned (.slice A N c) ∧ w = w' := by
  have h1 : (N : Int) < (n : Int) := by omega
  have X := run_headOf (P := Tryd.prog) (t := 24) (A := A) (n := n) (c := c) (m := N) Tryd.underlying24 (fun _ => rfl) (by omega) (N : Int) rfl
  go_enter Tryd.func9, Tryd.ntmps9
  go_wp2_with fail
  go_ret
  exact ⟨rfl, rfl⟩
theorem fewE_any (A : Option Addr) (n c N : Nat) (hc : n ≤ c) (w : World) :
    Calls Tryd.prog 9 #[.slice A n c, .int .i64 (N : Int)] w fun e w' => e = .returned (.slice A (min n N) c) ∧ w = w' := by
  by_cases h : n ≤ N
  · rw [Nat.min_eq_left h]
    exact fewE_yes A n c N h w
  · rw [Nat.min_eq_right (by omega)]
    exact fewE_no A n c N (by omega) hc w
set_option maxRecDepth 100000 in
theorem fewI_yes (A : Option Addr) (n c N : Nat) (hn : n ≤ N) (w : World) :
    Calls Tryd.prog 10 #[.slice A n c, .int .i64 (N : Int)] w fun e w' => e = .returned (.slice A n c) ∧ w = w' := by
  have h1 : (n : Int) ≤ (N : Int) := by omega
  go_enter Tryd.func10, Tryd.ntmps10
  go_wp2_with fail
  go_ret
  exact ⟨rfl, rfl⟩
set_option maxRecDepth 100000 in
theorem fewI_no (A : Option Addr) (n c N : Nat) (hn : N < n) (hc : n ≤ c) (w : World) :
    Calls Tryd.prog 10 #[.slice A n c, .int .i64 (N : Int)] w fun e w' => e = .returned (.slice A N c) ∧ w = w' := by
  have h1 : (N : Int) < (n : Int) := by omega
  have X := run_headI (A := A) (n := n) (c := c) (k := N) (by omega) (N : Int) rfl
  go_enter Tryd.func10, Tryd.ntmps10
  go_wp2_with fail
  go_ret
  exact ⟨rfl, rfl⟩
theorem fewI_any (A : Option Addr) (n c N : Nat) (hc : n ≤ c) (w : World) :
    Calls Tryd.prog 10 #[.slice A n c, .int .i64 (N : Int)] w fun e w' => e = .returned (.slice A (min n N) c) ∧ w = w' := by
  by_cases h : n ≤ N
  · rw [Nat.min_eq_left h]
    exact fewI_yes A n c N h w
  · rw [Nat.min_eq_right (by omega)]
    exact fewI_no A n c N (by omega) hc w

theorem Pieces.take_ {w : World} {A : Option Addr} {es : List Text} (h : Pieces w A es) (k : Nat) : Pieces w A (es.take k) := fun h0 => by
  obtain ⟨b, o, e, hb, hc⟩ := h (by rw [List.length_take] at h0; omega)
  refine ⟨b, o, e, hb, fun i q hq => hc i q ?_⟩
  rw [List.getElem?_take] at hq
  split at hq
  · exact hq
  · cases hq
theorem Prs.take_ {w : World} {A : Option Addr} {ps : List Pr} (h : Prs w A ps) (k : Nat) : Prs w A (ps.take k) := by
  refine ⟨⟨by rw [flat_len]; omega, fun h0 => ?_⟩, fun p hp => h.2 p (List.mem_of_mem_take hp)⟩
  rw [List.length_take] at h0
  obtain ⟨b, o, e, hb, hc⟩ := h.1.2 (by omega)
  refine ⟨b, o, e, hb, fun j u hu => hc j u ?_⟩
  have hl : j < 3 * (ps.take k).length := by rw [← flat_len]; exact (List.getElem?_eq_some_iff.1 hu).1
  rw [List.length_take] at hl
  have hi : j / 3 < ps.length := by omega
  have hp : ps[j / 3]? = some ps[j / 3] := List.getElem?_eq_getElem hi
  have hp2 : (ps.take k)[j / 3]? = some ps[j / 3] := by rw [List.getElem?_take, if_pos (by omega), hp]
  have e1 := flat_at ps (j / 3) _ (j % 3) hp (by omega)
  have e2 := flat_at (ps.take k) (j / 3) _ (j % 3) hp2 (by omega)
  rw [show 3 * (j / 3) + j % 3 = j by omega] at e1 e2
  rw [e1, ← e2]
  exact hu
/-- The copies as a piece's rows. -/
theorem HF.pieces {w0 W : World} {B n m : Nat} {E P V Q : Value} {gs hs : List Nat} {es : List Text} {ps : List Pr} (h : HF w0 W B E P V Q n m gs hs es ps) : ∃ AE cE, E = .slice AE n cE ∧ n ≤ cE ∧ (AE = none → n = 0 ∧ cE = 0) ∧ (es.length = n → Pieces W AE es) := by
  obtain ⟨A, c, e, hc, -, hnil, hr, -⟩ := Append.Own.reads h.oe
  refine ⟨A, c, e, hc, hnil, fun hl h0 => ?_⟩
  obtain ⟨b, o, e1, hb, hcs⟩ := hr.at_ (by omega)
  refine ⟨b, o, e1, hb, fun i q hq => ?_⟩
  have hi := (List.getElem?_eq_some_iff.1 hq).1
  have hg : gs[i]? = some (gs[i]'(by rw [h.roo.1]; exact hi)) := List.getElem?_eq_getElem _
  obtain ⟨h1, -⟩ := h.roo.2 i _ q hg hq
  exact ⟨_, _, hcs i _ (xsE_at hg hq), by omega, h1.reads, fun e => by cases e⟩
theorem HF.prs {w0 W : World} {B n m : Nat} {E P V Q : Value} {gs hs : List Nat} {es : List Text} {ps : List Pr} (h : HF w0 W B E P V Q n m gs hs es ps) (hl : ps.length = m) (hd : ∀ p ∈ ps, Digs p.ds ∧ p.ds.length = p.n) : ∃ AP cP, P = .slice AP m cP ∧ m ≤ cP ∧ (AP = none → m = 0 ∧ cP = 0) ∧ Prs W AP (psH hs ps) := by
  obtain ⟨A, c, e, hc, -, hnil, hr, -⟩ := Append.Own.reads h.op
  have hlen : (psH hs ps).length = m := by unfold psH; rw [List.length_zipWith, h.rod.1, Nat.min_self]; exact hl
  refine ⟨A, c, e, hc, hnil, by rw [hlen]; exact hr, fun p hp => ?_⟩
  obtain ⟨i, hi, rfl⟩ := List.getElem_of_mem hp
  have hi2 : i < ps.length := by omega
  have hg : hs[i]? = some (hs[i]'(by rw [h.rod.1]; exact hi2)) := List.getElem?_eq_getElem _
  have hx : ps[i]? = some ps[i] := List.getElem?_eq_getElem hi2
  obtain ⟨h1, -⟩ := h.rod.2 i _ _ hg hx
  have e1 := psH_at hg hx
  rw [List.getElem?_eq_getElem hi] at e1
  rw [Option.some.inj e1]
  obtain ⟨d1, d2⟩ := hd _ (List.getElem_mem hi2)
  have h3 := (RowD.rd h1 (d1.append_ (Digs.rep 80 mk0_len))).take_ (ps[i]).n (by rw [List.length_append]; omega)
  rw [List.take_left' d2] at h3
  exact ⟨h3, Nat.le_add_right _ _⟩
theorem psH_alike {w : World} {B : Nat} {hs : List Nat} {ps : List Pr} (h : Rod w B hs ps) : SamePiece.Alike (psH hs ps) ps := by
  unfold SamePiece.Alike
  apply List.ext_getElem?
  intro i
  rw [List.getElem?_map, List.getElem?_map]
  by_cases hi : i < ps.length
  · have hg : hs[i]? = some (hs[i]'(by rw [h.1]; exact hi)) := List.getElem?_eq_getElem _
    have hx : ps[i]? = some ps[i] := List.getElem?_eq_getElem hi
    rw [psH_at hg hx, hx]
    rfl
  · rw [List.getElem?_eq_none (by unfold psH; rw [List.length_zipWith, h.1, Nat.min_self]; omega), List.getElem?_eq_none (by omega)]
end Go.Proofs.YthkdlaohaekilaaDoor.Law17e

namespace Go.Proofs.YthkdlaohaekilaaDoor.CutQ
open Go Go.RowKit Go.Proofs.YthkdlaohaekilaaDoor Go.Proofs.YthkdlaohaekilaaDoor.Mem Go.Proofs.YthkdlaohaekilaaDoor.Sha Go.Proofs.YthkdlaohaekilaaDoor.Bytes Go.Proofs.YthkdlaohaekilaaDoor.TreeMem Go.Proofs.YthkdlaohaekilaaDoor.HeadMem Go.Proofs.YthkdlaohaekilaaDoor.ProofIdx Go.Proofs.YthkdlaohaekilaaDoor.PieceP Go.Proofs.YthkdlaohaekilaaDoor.PieceRow Go.Proofs.YthkdlaohaekilaaDoor.PieceBegins Go.Proofs.YthkdlaohaekilaaDoor.Prs Go.Proofs.YthkdlaohaekilaaDoor.Reach Go.Proofs.YthkdlaohaekilaaDoor.PieceLay Go.Proofs.YthkdlaohaekilaaDoor.PieceMem Go.Proofs.YthkdlaohaekilaaDoor.Pcs Go.Proofs.YthkdlaohaekilaaDoor.CutP Go.Proofs.YthkdlaohaekilaaDoor.CutM

/-- Where a part of a row begins. -/
def dropA (A : Option Addr) (l sz : Nat) : Option Addr := A.map (·.add (l * sz))
theorem run_from {P : Program} {t : TypeId} {A : Option Addr} {n c l sz : Nat} (h : P.underlying t = some (.slice (P.elem t))) (hs : ∀ w, (sizeOf (P.elem t)).run P w = .ok sz w) (hl : l < n) (hn : n ≤ c) (x : Int) (hx : x = l) (w : World) :
    (Instr.sliceAt t (.slice A n c) (some (.int .i64 x)) none none).run P w = .ok (.slice (dropA A l sz) (n - l) (c - l)) w := by
  subst hx
  rw [run_sliceAt_slice w t _ _ _ _ h, run_slice_l w t A n c h .i64 (l : Int) (by omega) (by omega), hs]
  simp [Result.andThen, sliced, dropA]
  omega
theorem run_part {P : Program} {t : TypeId} {A : Option Addr} {n c l m sz : Nat} (h : P.underlying t = some (.slice (P.elem t))) (hs : ∀ w, (sizeOf (P.elem t)).run P w = .ok sz w) (hl : l < m) (hm : m ≤ n) (hn : n ≤ c) (x y : Int) (hx : x = l) (hy : y = m) (w : World) :
    (Instr.sliceAt t (.slice A n c) (some (.int .i64 x)) (some (.int .i64 y)) none).run P w = .ok (.slice (dropA A l sz) (m - l) (c - l)) w := by
  subst hx hy
  rw [run_sliceAt_slice w t _ _ _ _ h, run_slice_lh w t A n c h .i64 .i64 (l : Int) (m : Int) (by omega) (by omega) (by omega), hs]
  simp [Result.andThen, sliced, dropA]
  omega
theorem pieces_drop {w : World} {A : Option Addr} {es : List Text} (h : Pieces w A es) (l : Nat) : Pieces w (dropA A l 1) (es.drop l) := fun h0 => by
  rw [List.length_drop] at h0
  obtain ⟨b, o, e, hb, hc⟩ := h (by omega)
  subst e
  refine ⟨b, o + l, by unfold dropA; rw [Option.map_some, add_at, Nat.mul_one], hb, fun i q hq => ?_⟩
  rw [List.getElem?_drop] at hq
  obtain ⟨Ai, ci, h1, h2⟩ := hc (l + i) q hq
  exact ⟨Ai, ci, by rw [Nat.add_assoc]; exact h1, h2⟩
theorem prs_drop {w : World} {A : Option Addr} {ps : List Pr} (h : Prs w A ps) (l : Nat) : Prs w (dropA A l 3) (ps.drop l) := by
  refine ⟨⟨by rw [flat_len]; omega, fun h0 => ?_⟩, fun p hp => h.2 p (List.mem_of_mem_drop hp)⟩
  rw [List.length_drop] at h0
  obtain ⟨b, o, e, hb, hc⟩ := h.1.2 (by omega)
  subst e
  refine ⟨b, o + l * 3, by unfold dropA; rw [Option.map_some, add_at], hb, fun j u hu => ?_⟩
  have hl : j < 3 * (ps.drop l).length := by rw [← flat_len]; exact (List.getElem?_eq_some_iff.1 hu).1
  rw [List.length_drop] at hl
  have hi : l + j / 3 < ps.length := by omega
  have hp : ps[l + j / 3]? = some ps[l + j / 3] := List.getElem?_eq_getElem hi
  have hp2 : (ps.drop l)[j / 3]? = some ps[l + j / 3] := by rw [List.getElem?_drop, hp]
  have e1 := flat_at ps (l + j / 3) _ (j % 3) hp (by omega)
  have e2 := flat_at (ps.drop l) (j / 3) _ (j % 3) hp2 (by omega)
  rw [show 3 * (j / 3) + j % 3 = j by omega] at e2
  rw [show 3 * (l + j / 3) + j % 3 = l * 3 + j by omega] at e1
  rw [e2, ← e1] at hu
  rw [Nat.add_assoc]
  exact hc _ _ hu

/-! ### What a row of pieces says -/
def Says (s : ByteArray) (es : List Text) (ps : List Pr) (p : Pc) (k : Cut) : Prop := p.s = s ∧ p.F = k.F ∧ p.b = k.b ∧ p.es = (es.drop k.lo).take k.n ∧ SamePiece.Alike p.ps ((ps.drop k.lo).take k.n)
def SaysR (s : ByteArray) (es : List Text) (ps : List Pr) (l : List Pc) (ks : List Cut) : Prop := l.length = ks.length ∧ ∀ (i : Nat) (p : Pc) (k : Cut), l[i]? = some p → ks[i]? = some k → Says s es ps p k
theorem SaysR.nil_ (s : ByteArray) (es : List Text) (ps : List Pr) : SaysR s es ps [] [] := ⟨rfl, fun i p k h => by cases h⟩
theorem SaysR.push {s : ByteArray} {es : List Text} {ps : List Pr} {l : List Pc} {ks : List Cut} (h : SaysR s es ps l ks) {p : Pc} {k : Cut} (hp : Says s es ps p k) : SaysR s es ps (l ++ [p]) (ks ++ [k]) := ⟨by simp [h.1], fun i p' k' e1 e2 => by
  rcases last_at e1 with ⟨l1, e1⟩ | ⟨l1, rfl⟩
  · rcases last_at e2 with ⟨l2, e2⟩ | ⟨l2, rfl⟩
    · exact h.2 i p' k' e1 e2
    · have := h.1; omega
  · rcases last_at e2 with ⟨l2, e2⟩ | ⟨l2, rfl⟩
    · have := h.1; omega
    · exact hp⟩
theorem SaysR.alike {s : ByteArray} {es : List Text} {ps qs : List Pr} {l l' : List Pc} {ks : List Cut} (h : SaysR s es ps l ks) (h' : SaysR s es qs l' ks) (hpq : SamePiece.Alike ps qs) : AlikeR l l' := ⟨h.1.trans h'.1.symm, fun i p q e1 e2 => by
  have hi : i < ks.length := by have := (List.getElem?_eq_some_iff.1 e1).1; have := h.1; omega
  obtain ⟨a1, a2, a3, a4, a5⟩ := h.2 i p _ e1 (List.getElem?_eq_getElem hi)
  obtain ⟨b1, b2, b3, b4, b5⟩ := h'.2 i q _ e2 (List.getElem?_eq_getElem hi)
  refine ⟨a1.trans b1.symm, a2.trans b2.symm, a3.trans b3.symm, a4.trans b4.symm, ?_⟩
  unfold SamePiece.Alike at a5 b5 hpq ⊢
  rw [a5, b5, List.map_take, List.map_drop, List.map_take, List.map_drop, hpq]⟩

/-! ### One round -/
theorem items_drop (es : List Text) (ps : List Pr) (l : Nat) : itemsOf (es.drop l) (ps.drop l) = (itemsOf es ps).drop l := by
  unfold itemsOf
  rw [List.drop_zipWith]
theorem items_len {es : List Text} {ps : List Pr} (h : es.length = ps.length) : (itemsOf es ps).length = es.length := by
  unfold itemsOf
  rw [List.length_zipWith]
  omega
theorem items_at {es : List Text} {ps : List Pr} {i : Nat} {e : Text} {p : Pr} (he : es[i]? = some e) (hp : ps[i]? = some p) : (itemsOf es ps)[i]? = some (itemOf e p) := by
  unfold itemsOf
  rw [List.getElem?_zipWith, he, hp]
theorem items_ways : ∀ {es : List Text} {ps : List Pr}, es.length = ps.length → (itemsOf es ps).map (·.ways) = ps.map Pr.n
  | [], [], _ => rfl
  | e :: es, p :: ps, h => by
    have := items_ways (es := es) (ps := ps) (by simpa using h)
    unfold itemsOf at this ⊢
    rw [List.zipWith_cons_cons, List.map_cons, List.map_cons, this]
    rfl
theorem rises_size (sz : Int) : ∀ (l : List PieceP.Item) (p : Option Int), rises sz p l = true → ∀ x ∈ l, x.size = sz
  | [], _, _, x, hx => by cases hx
  | y :: l, p, h, x, hx => by
    have h : (decide (y.size = sz) && (!PieceP.low p y.num && rises sz (some y.num) l)) = true := h
    simp only [Bool.and_eq_true, decide_eq_true_eq] at h
    rcases List.mem_cons.1 hx with rfl | hx
    · exact h.1
    · exact rises_size sz l _ h.2.2 x hx
/-- The bytes of what is cut off are bounded, and so are its digests. -/
theorem reach_bytes (F sz : Int) : ∀ (l : List PieceP.Item) (i b : Nat) (p : Option Int), i < reachFrom F sz i b p l → b + 32 * ((l.take (reachFrom F sz i b p l - i)).map (·.ways)).sum ≤ 2097152
  | [], i, b, p, h => absurd h (Nat.lt_irrefl _)
  | x :: l, i, b, p, h => by
    by_cases h1 : i = 1000 ∨ 2097152 < b + (12 + x.len + 32 * x.ways) ∨ x.fit = false ∨ x.size ≠ sz ∨ sz - i - 1 < F
    · rw [reach_stop h1] at h; omega
    · cases h2 : PieceP.low p x.num with
      | true => rw [reach_low h2] at h; omega
      | false =>
        rw [reach_on h1 h2] at h ⊢
        have hb : ¬ 2097152 < b + (12 + x.len + 32 * x.ways) := fun hh => h1 (.inr (.inl hh))
        have hge := reach_ge F sz l (i + 1) (b + (12 + x.len + 32 * x.ways)) (some x.num)
        generalize hr : reachFrom F sz (i + 1) (b + (12 + x.len + 32 * x.ways)) (some x.num) l = r at *
        rw [show r - i = (r - (i + 1)) + 1 by omega, List.take_succ_cons, List.map_cons, List.sum_cons]
        by_cases h3 : i + 1 < r
        · have := reach_bytes F sz l (i + 1) (b + (12 + x.len + 32 * x.ways)) (some x.num) (by rw [hr]; exact h3)
          rw [hr] at this
          omega
        · rw [show r - (i + 1) = 0 by omega, List.take_zero, List.map_nil, List.sum_nil]
          omega
/-- The program's count at a place is the plain one. -/
theorem reach_round {s : ByteArray} {F : Int} {b : Text} {es : List Text} {ps : List Pr} {lo : Nat} (hlen : es.length = ps.length) (hb : begB s.data.toList F b = true) (hr : rises (firstSize ps) none (itemsOf es ps) = true) (hlo : lo < es.length) :
    reachN s F b (es.drop lo) (ps.drop lo) = reachFrom F (firstSize ps) 0 (54 + s.size) none ((itemsOf es ps).drop lo) := by
  unfold reachN
  rw [if_pos hb, items_drop]
  have hp : ps[lo]? = some (ps[lo]'(by omega)) := List.getElem?_eq_getElem _
  have he : es[lo]? = some es[lo] := List.getElem?_eq_getElem _
  have hx := rises_size _ _ _ hr _ (List.mem_of_getElem? (items_at he hp))
  have : firstSize (ps.drop lo) = firstSize ps := by
    rw [← hx]
    show _ = (ps[lo]'(by omega)).x
    rw [List.drop_eq_getElem_cons (by omega)]
    rfl
  rw [this]
theorem reach_sumN {F sz : Int} {nb : Nat} {es : List Text} {ps : List Pr} {lo n : Nat} (hlen : es.length = ps.length) (h : reachFrom F sz 0 nb none ((itemsOf es ps).drop lo) = n) (hn : n ≠ 0) : sumN ((ps.drop lo).take n) ≤ 65536 := by
  have := reach_bytes F sz ((itemsOf es ps).drop lo) 0 nb none (by omega)
  rw [h, Nat.sub_zero, List.map_take, List.map_drop, items_ways hlen] at this
  unfold sumN
  rw [List.map_take, List.map_drop]
  omega
theorem beg_next {s : List UInt8} {F : Int} {b b' : Text} (h : begB s F b = true) {n : Nat} (hn : n ≠ 0) : begB s (F + (n : Nat)) b' = true := by
  unfold begB at h ⊢
  simp only [Bool.and_eq_true, Bool.or_eq_true, decide_eq_true_eq] at h ⊢
  exact ⟨h.1, by omega, .inl (by omega)⟩
theorem beg_pos {s : List UInt8} {F : Int} {b : Text} (h : begB s F b = true) : 0 ≤ F := by
  unfold begB at h
  simp only [Bool.and_eq_true, Bool.or_eq_true, decide_eq_true_eq] at h
  exact h.2.1
/-- Where something is cut off, the numbers stay small. -/
theorem reach_small {F : Int} {nb : Nat} {es : List Text} {ps : List Pr} {lo n : Nat} (h : reachFrom F (firstSize ps) 0 nb none ((itemsOf es ps).drop lo) = n) (hn : n ≠ 0) : F + (n : Nat) ≤ 1099511627776 := by
  have h1 := reach_sum F (firstSize ps) ((itemsOf es ps).drop lo) 0 nb none (by omega)
  obtain ⟨x, hx, hf, hs⟩ := reach_fit (F := F) (sz := firstSize ps) (b := nb) (p := none) (l := (itemsOf es ps).drop lo) (by omega)
  have hm : x ∈ itemsOf es ps := List.mem_of_mem_drop (List.mem_of_getElem? hx)
  obtain ⟨e, p, rfl⟩ : ∃ e p, x = itemOf e p := by
    unfold itemsOf at hm
    obtain ⟨i, hi⟩ := List.mem_iff_getElem?.1 hm
    rw [List.getElem?_zipWith] at hi
    split at hi
    · exact ⟨_, _, (Option.some.inj hi).symm⟩
    · cases hi
  have hf : fitB p.x p.y p.n e.length = true := hf
  unfold fitB ProofBeside.insideB at hf
  simp only [Bool.and_eq_true, decide_eq_true_eq] at hf
  have hs : p.x = firstSize ps := hs
  omega
end Go.Proofs.YthkdlaohaekilaaDoor.CutQ
