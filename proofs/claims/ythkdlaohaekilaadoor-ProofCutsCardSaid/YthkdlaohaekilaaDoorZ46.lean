/-
  Texts of the claim, put into one file: PiecesW.
-/
import Derived.Test.YthkdlaohaekilaaDoorZ35
import Derived.Test.YthkdlaohaekilaaDoorZ45
import Derived.Test.YthkdlaohaekilaaDoorZ41
import Derived.Test.YthkdlaohaekilaaDoorZ16

namespace Go.Proofs.YthkdlaohaekilaaDoor.PiecesW
open Go Go.RowKit Go.Proofs.YthkdlaohaekilaaDoor Go.Proofs.YthkdlaohaekilaaDoor.HeadMem Go.Proofs.YthkdlaohaekilaaDoor.Mem Go.Proofs.YthkdlaohaekilaaDoor.Sha Go.Proofs.YthkdlaohaekilaaDoor.Bytes Go.Proofs.YthkdlaohaekilaaDoor.HashMem Go.Proofs.YthkdlaohaekilaaDoor.DigestMem Go.Proofs.YthkdlaohaekilaaDoor.Digest Go.Proofs.YthkdlaohaekilaaDoor.DigestTop Go.Proofs.YthkdlaohaekilaaDoor.Chain Go.Proofs.YthkdlaohaekilaaDoor.Append Go.Proofs.YthkdlaohaekilaaDoor.TreeMem Go.Proofs.YthkdlaohaekilaaDoor.Held Go.Proofs.YthkdlaohaekilaaDoor.Own Go.Proofs.YthkdlaohaekilaaDoor.QuietTail Go.Proofs.YthkdlaohaekilaaDoor.Grown Go.Proofs.YthkdlaohaekilaaDoor.Guard Go.Proofs.YthkdlaohaekilaaDoor.Guard2 Go.Proofs.YthkdlaohaekilaaDoor.Want Go.Proofs.YthkdlaohaekilaaDoor.Plain Go.Proofs.YthkdlaohaekilaaDoor.ProofIdx Go.Proofs.YthkdlaohaekilaaDoor.Book Go.Proofs.YthkdlaohaekilaaDoor.PieceP Go.Proofs.YthkdlaohaekilaaDoor.PieceRow Go.Proofs.YthkdlaohaekilaaDoor.PieceBegins Go.Proofs.YthkdlaohaekilaaDoor.Prs Go.Proofs.YthkdlaohaekilaaDoor.Reach Go.Proofs.YthkdlaohaekilaaDoor.Reach2 Go.Proofs.YthkdlaohaekilaaDoor.PieceLay Go.Proofs.YthkdlaohaekilaaDoor.PieceMem Go.Proofs.YthkdlaohaekilaaDoor.PieceMem2 Go.Proofs.YthkdlaohaekilaaDoor.SamePiece Go.Proofs.YthkdlaohaekilaaDoor.Pcs Go.Proofs.YthkdlaohaekilaaDoor.CutP Go.Proofs.YthkdlaohaekilaaDoor.CutM Go.Proofs.YthkdlaohaekilaaDoor.CutQ Go.Proofs.YthkdlaohaekilaaDoor.CutW

/-- What both functions answer. -/
def cutsW (wd : Int) (s : ByteArray) (F : Int) (b : Text) (es : List Text) (ps : List Pr) : Option (List Cut) :=
  if es.length = ps.length ∧ begB s.data.toList F b = true ∧ rises (firstSize ps) none (itemsOf es ps) = true then cuts (firstSize ps) (54 + s.size) (Chain.chainOf wd) es (itemsOf es ps) es.length F b 0 else none
/-- The row of pieces cut off so far. -/
structure Lr (w0 W : World) (q : Nat) (Al : Option Addr) (cl : Nat) (l : List Pc) : Prop where
  ow : W.ownsRow (w0.heap.size + 1) 33 36 (.slice Al q cl) q (l.flatMap Pc.cells)
  fi : ∀ p ∈ l, Firm W (w0.heap.size + 1) p
def FirmR (w : World) (B : Nat) (A : Option Addr) (l : List Pc) : Prop := ∀ w', Kept (· < B) w w' → Pcs w' A l
def CPost (w : World) (s : ByteArray) (es : List Text) (ps : List Pr) (W : Option (List Cut)) (e : Ending) (w' : World) : Prop :=
  ∃ (A : Option Addr) (c : Nat) (l : List Pc) (err : Int), e = .returned (.tuple #[.slice A l.length c, .int .i64 err]) ∧ ((∃ ks, W = some ks ∧ SaysR s es ps l ks ∧ err = 0) ∨ (W = none ∧ l = [] ∧ err = 170)) ∧ FirmR w' w.heap.size A l ∧ Below w.heap.size w w'
/-- A piece as proof.cut answers it. -/
structure CutOk (W : World) (B : Nat) (es : List Text) (ps : List Pr) (r : Nat) (p : Pc) : Prop where
  s : p.s = ByteArray.empty
  F : p.F = 0
  b : p.b = List.replicate 32 0
  es : p.es = es
  ps : SamePiece.Alike p.ps ps
  n : p.n = r
  m : p.m = r
  fm : Firm W B p
theorem CutOk.below {W W' : World} {B r : Nat} {es : List Text} {ps : List Pr} {p : Pc} (h : CutOk W B es ps r p) (hb : Below W.heap.size W W') : CutOk W' B es ps r p := ⟨h.s, h.F, h.b, h.es, h.ps, h.n, h.m, h.fm.below hb⟩
theorem CutOk.keptN {W W' : World} {B r m : Nat} {cs : Array Value} {es : List Text} {ps : List Pr} {p : Pc} (h : CutOk W B es ps r p) (bb : Blk W m 33 cs) (hk : Kept (· = m) W W') : CutOk W' B es ps r p := ⟨h.s, h.F, h.b, h.es, h.ps, h.n, h.m, h.fm.kept (hk.mono (fun k _ (e : k = m) => .inr ⟨cs, by rw [e]; exact bb⟩))⟩
structure FitP (cs : Array Value) : Prop where
  size : (Tryd.prog.info? 33).map (·.size) = some cs.size
  zero : zP.size = cs.size
  one : (cs.all fun v => v.oneCell') = true
theorem CutOk.fit {W : World} {B r : Nat} {es : List Text} {ps : List Pr} {p : Pc} (h : CutOk W B es ps r p) : FitP p.cells.toArray := by
  have hb : p.b.length = 32 := h.fm.ok.hb
  exact ⟨pc_info hb, (pc_size hb).symm, pc_one rfl rfl⟩
theorem flat36 : ∀ l : List Pc, (∀ p ∈ l, p.b.length = 32) → (l.flatMap Pc.cells).length = l.length * 36
  | [], _ => rfl
  | p :: l, h => by
    rw [List.flatMap_cons, List.length_append, Pc.len (h p (by simp)), flat36 l (fun p hp => h p (by simp [hp])), List.length_cons]
    omega
theorem Lr.len {w0 W : World} {q cl : Nat} {Al : Option Addr} {l : List Pc} {s : ByteArray} {es : List Text} {ps : List Pr} {ks : List Cut} (h : Lr w0 W q Al cl l) (_ : SaysR s es ps l ks) : l.length = q := by
  have h1 := h.ow.1
  rw [flat36 l (fun p hp => (h.fi p hp).ok.hb)] at h1
  omega
theorem Lr.kept {w0 W W' : World} {q cl : Nat} {Al : Option Addr} {l : List Pc} (h : Lr w0 W q Al cl l) (hk : Kept (· < w0.heap.size + 1) W W') : Lr w0 W' q Al cl l :=
  ⟨own_keep h.ow hk (fun k e (s : k < w0.heap.size + 1) => by have := (h.ow.lt k e).1; omega), fun p hp => (h.fi p hp).kept (hk.mono (fun _ _ s => .inl s))⟩
theorem Lr.firm {w0 W : World} {q cl : Nat} {Al : Option Addr} {l : List Pc} (h : Lr w0 W q Al cl l) (hl : l.length = q) : FirmR W w0.heap.size Al l := fun w2 hk => by
  have h2 := h.kept (hk.mono (fun k _ (e : k < w0.heap.size) => show k < w0.heap.size + 1 by omega))
  obtain ⟨A3, c3, e3, -, -, -, hr, -⟩ := Own.reads h2.ow
  injection e3 with e3 _ _
  subst e3
  exact ⟨by rw [hl]; exact hr, fun p hp => (h2.fi p hp).ok⟩
/-- The piece with its three first fields set. -/
def Pc.put (p : Pc) (s : ByteArray) (F : Int) (b : Text) : Pc := { p with s := s, F := F, b := b }
theorem CutOk.put {W W' : World} {B r m : Nat} {es : List Text} {ps : List Pr} {p : Pc} {cs : Array Value} (h : CutOk W B es ps r p) (s : ByteArray) (F : Int) (b : Text) (hb : b.length = 32) (bb : Blk W m 33 cs) (hk : Kept (· = m) W W') : Firm W' B (Pc.put p s F b) := fun w' h2 => by
  have ok := (h.keptN bb hk).fm w' h2
  exact ⟨hb, ok.he, ok.hp, ok.e, ok.p⟩
theorem CutOk.says {W : World} {B r lo : Nat} {es : List Text} {ps : List Pr} {p : Pc} (h : CutOk W B ((es.drop lo).take r) ((ps.drop lo).take r) r p) (s : ByteArray) (F : Int) (b : Text) : Says s es ps (Pc.put p s F b) ⟨F, b, lo, r⟩ := ⟨rfl, rfl, rfl, h.es, h.ps⟩
theorem Lr.keptM {w0 W W' : World} {q cl m : Nat} {Al : Option Addr} {l : List Pc} {cs : Array Value} (h : Lr w0 W q Al cl l) (bb : Blk W m 33 cs) (hk : Kept (· = m) W W') (hm : ∀ k, Value.ownBlock (.slice Al q cl) = some k → k < m) : Lr w0 W' q Al cl l :=
  ⟨own_keep h.ow hk (fun k e (s : k = m) => by have := hm k e; omega), fun p hp => (h.fi p hp).kept (hk.mono (fun k _ (e : k = m) => .inr ⟨cs, by rw [e]; exact bb⟩))⟩
theorem own_px {W : World} {B q : Nat} {v : Value} {xs : List Value} (h : W.ownsRow B 33 36 v q xs) (B' k : Nat) (e : some k = v.ownBlock) : PX W B' k := by
  rcases h.2 with ⟨rfl, -⟩ | ⟨g, cap, cur, rfl, -, h3, -⟩
  · cases e
  · obtain rfl : k = g := Option.some.inj e
    exact .inr ⟨cur, h3⟩
theorem Lr.push {w0 W W1 W2 : World} {q cl : Nat} {Al : Option Addr} {l : List Pc} {p : Pc} {v' : Value} (h : Lr w0 W q Al cl l) (hb : Below W.heap.size W W1) (hG : Grew W1 (w0.heap.size + 1) 33 36 (.slice Al q cl) q 1 (l.flatMap Pc.cells) p.cells v' W2) (hp : Firm W (w0.heap.size + 1) p) :
    ∃ A' c', v' = .slice A' (q + 1) c' ∧ Lr w0 W2 (q + 1) A' c' (l ++ [p]) := by
  obtain ⟨A', c', e, -⟩ := Append.Own.reads hG.own
  have h1 : W1.ownsRow (w0.heap.size + 1) 33 36 (.slice Al q cl) q (l.flatMap Pc.cells) := own_keep h.ow (Kept.of_below (S := fun _ => False) hb) (fun _ _ x => x)
  have hk : Kept (PX W1 (w0.heap.size + 1)) W1 W2 := (grew_kept hG).mono (fun k _ s => own_px h1 _ k s)
  refine ⟨A', c', e, ?_, fun x hx => ?_⟩
  · rw [← e, List.flatMap_append, List.flatMap_singleton]
    exact hG.own
  · rcases List.mem_append.1 hx with hx | hx
    · exact ((h.fi x hx).below hb).kept hk
    · obtain rfl : x = p := by simpa using hx
      exact (hp.below hb).kept hk
theorem infoPc : (Tryd.prog.info? 33).map (fun i => (i.zero, i.size, i.bytes)) = some (some (.agg zP), 36, 104) := by kernel_rfl
theorem zeroPc : ((Tryd.prog.info? 33).bind (·.zero)).isSome = true := by kernel_rfl
/-- The three stores into a piece. -/
theorem three {w : World} {m : Nat} {s0 s : ByteArray} {F0 F : Int} {b0 : Text} {E P : Value} (h : Blk w m 33 (pieceCells s0 F0 b0 E P).toArray) :
    Blk (((w.setCell ⟨m, 0, none⟩ (.string s)).setCell ⟨m, 1, none⟩ (.int .i64 F)).drew) m 33 (pieceCells s F b0 E P).toArray ∧ Kept (· = m) w (((w.setCell ⟨m, 0, none⟩ (.string s)).setCell ⟨m, 1, none⟩ (.int .i64 F)).drew) := by
  refine ⟨?_, (((Kept.refl (· = m) w).setCell (.inl rfl) _).setCell (.inl rfl) _).drew⟩
  have h2 := (h.set_ 0 (.string s)).set_ 1 (.int .i64 F)
  rw [pc_set0, pc_set1] at h2
  exact h2
theorem cpost_no {w w' : World} {s : ByteArray} {es : List Text} {ps : List Pr} {W : Option (List Cut)} {e : Ending} (h : W = none) (he : e = .returned (.tuple #[.slice none 0 0, .int .i64 170])) (hb : Below w.heap.size w w') : CPost w s es ps W e w' :=
  ⟨none, 0, [], 170, he, .inr ⟨h, rfl, rfl⟩, fun w2 _ => ⟨Reads.nil_ _ _ _, fun p hp => by cases hp⟩, hb⟩
set_option maxRecDepth 100000 in
set_option maxHeartbeats 8000000 in
theorem pieces_any (wd : Int) (s : ByteArray) (hs : s.size ≤ 140737488355328) (F : Int) (b : Text) (hb : b.length = 32) (es : List Text) (n : Nat) (hn : es.length = n) (hn6 : n ≤ 1000000) (hsh : ∀ e ∈ es, e.length < 140737488355328) (ps : List Pr) (m : Nat) (hm : ps.length = m) (hm6 : m ≤ 1000000) (hnn : ∀ p ∈ ps, p.n < 140737488355328) (hnil : ∀ p ∈ ps, p.A = none → p.n = 0 ∧ p.c = 0) (A A2 : Option Addr) (c c2 : Nat) (hnc : n ≤ c) (hmc : m ≤ c2) (w : World) (hBs : Base w) (hp : Pieces w A es) (hq : Prs w A2 ps) :
    Calls Tryd.prog 12 #[.int .i64 wd, .string s, .int .i64 F, .agg (cells8 b).toArray, .slice A n c, .slice A2 m c2] w (CPost w s es ps (cutsW wd s F b es ps)) := by
  obtain ⟨W, hW⟩ : ∃ W, Hid (cutsW wd s F b es ps = W) := ⟨_, Lib.hid rfl⟩
  rw [hW.out]
  have hB0 : Hid (Blk (w.alloc (.cells (cells8 b).toArray 23)) w.heap.size 23 (cells8 b).toArray) := Blk.new w _ _
  have hb0 : Hid (Below w.heap.size w (w.alloc (.cells (cells8 b).toArray 23))) := Below.heap_below w _
  have sD := Lib.hid (dig_size b hb)
  replace hn := Lib.hid hn
  replace hm := Lib.hid hm
  replace hp := Lib.hid hp
  replace hq := Lib.hid hq
  replace hsh := Lib.hid hsh
  replace hnn := Lib.hid hnn
  replace hnil := Lib.hid hnil
  replace hBs := Lib.hid hBs
  replace hb := Lib.hid hb
  replace hs := Lib.hid hs
  obtain ⟨fb, hfb⟩ : ∃ x, Hid (begB s.data.toList F b = x) := ⟨_, Lib.hid rfl⟩
  have hbeg := Lib.hid (fun w' => begins_any s hs.out F b hb.out w')
  rw [hfb.out] at hbeg
  go_enter Tryd.func12, Tryd.ntmps12
  by_cases hnm : n = m
  · subst hnm
    have y1 : ((n : Int) == (n : Int)) = true := by simp
    cases fb with
    | false =>
      have hno : Hid (W = none) := by
        show _ = _
        rw [← hW.out]
        unfold cutsW
        rw [if_neg (fun h => by have := h.2.1; rw [hfb.out] at this; cases this)]
      clear hfb
      go_wp2_with (first
        | ((with_reducible change wpList _ _ _ ({ dst := some 29, op := _, type := _, pos := _, after := _, guard := _ } :: _) _ _); (with_reducible refine Veil.out ?_); refine wpList_rowW (o := ⟨some 29, _, _, _, _, _⟩) rfl 23 (.tmp 9) rfl (w.heap.size) rfl 23 ((cells8 b).toArray) (0, 0) _ hB0.out Tryd.underlying23 rfl sD.out ?_)
        | (go_at_call 51; refine (hbeg.out _).mono ?_; rintro e w1 ⟨rfl, hx1⟩; have hb1 : Hid (Below w.heap.size w w1) := hb0.out.trans (hx1.mono hb0.out.size); have hB1 : Hid (Blk w1 w.heap.size 23 (cells8 b).toArray) := (hx1.block _ hB0.out.lt).trans hB0.out; clear hx1 hbeg hB0 hb0))
      go_ret2
      exact cpost_no hno.out rfl hb1.out
    | true =>
      go_wp2_with (first
        | ((with_reducible change wpList _ _ _ ({ dst := some 29, op := _, type := _, pos := _, after := _, guard := _ } :: _) _ _); (with_reducible refine Veil.out ?_); refine wpList_rowW (o := ⟨some 29, _, _, _, _, _⟩) rfl 23 (.tmp 9) rfl (w.heap.size) rfl 23 ((cells8 b).toArray) (0, 0) _ hB0.out Tryd.underlying23 rfl sD.out ?_)
        | (go_at_call 51; refine (hbeg.out _).mono ?_; rintro e w1 ⟨rfl, hx1⟩; have hb1 : Hid (Below w.heap.size w w1) := hb0.out.trans (hx1.mono hb0.out.size); have hB1 : Hid (Blk w1 w.heap.size 23 (cells8 b).toArray) := (hx1.block _ hB0.out.lt).trans hB0.out; clear hx1 hbeg hB0 hb0))
      clear sD y1
      obtain ⟨its, hits⟩ : ∃ x, Hid (itemsOf es ps = x) := ⟨_, Lib.hid rfl⟩
      obtain ⟨sz, hsz⟩ : ∃ x, Hid (firstSize ps = x) := ⟨_, Lib.hid rfl⟩
      have hil : Hid (its.length = n) := by show _ = _; rw [← hits.out, CutQ.items_len (by rw [hn.out, hm.out]), hn.out]
      have hno : Hid (rises sz none its = false → W = none) := fun h => by
        rw [← hW.out]
        unfold cutsW
        rw [if_neg (fun hh => by have := hh.2.2; rw [hsz.out, hits.out, h] at this; cases this)]
      have hit : Hid (∀ (i : Nat) (x : Pr), ps[i]? = some x → ∃ y : PieceP.Item, its[i]? = some y ∧ y.size = x.x ∧ y.num = x.y) := fun i x hx => by
        have hi := (List.getElem?_eq_some_iff.1 hx).1
        have he : es[i]? = some (es[i]'(by have := hn.out; have := hm.out; omega)) := List.getElem?_eq_getElem _
        exact ⟨_, by rw [← hits.out]; exact CutQ.items_at he hx, rfl, rfl⟩
      have hr1 : Hid (rises sz none its = rises sz (if 1 = 0 then none else (ps[1 - 1]?).map (·.y)) (its.drop 1)) := by
        show _ = _
        rw [if_neg (by omega)]
        cases hps : ps with
        | nil =>
          have : its = [] := List.eq_nil_of_length_eq_zero (by have := hil.out; have := hm.out; rw [hps] at this; simp at this; omega)
          rw [this]
          rfl
        | cons x l =>
          obtain ⟨y, hy1, hy2, hy3⟩ := hit.out 0 x (by rw [hps]; rfl)
          have := rises_step sz none hy1
          rw [List.drop_zero] at this
          rw [this, hy2, ← hsz.out, hps]
          simp [firstSize, PieceP.low, hy3]
      go_loopw [14] (fun v wr => ∃ i : Nat, v = .int .i64 (i : Int) ∧ Hid (1 ≤ i) ∧ Hid (i ≤ n + 1) ∧ Hid (rises sz none its = rises sz (if i = 0 then none else (ps[i - 1]?).map (·.y)) (its.drop i)) ∧ Hid (Below w.heap.size w wr) ∧ Hid (Blk wr w.heap.size 23 (cells8 b).toArray)) (fun v _ => n + 1 - (intOf v).toNat)
      case atStart => exact ⟨1, rfl, Nat.le_refl _, Nat.le_add_left _ _, hr1.out, hb1.out, hB1.out⟩
      case round =>
        clear hr1 hb1 hB1
        obtain ⟨i, rfl, hi1, hin, hri, hbw, hBw⟩ := hrel
        have hi6 : (i : Int) ≤ 1000001 := by have := hin.out; omega
        by_cases hlt : i < n
        · have y3 : ((i : Int) < (n : Int)) := by omega
          have z0 : (0 : Int) ≤ (i : Int) := by omega
          have z1 : (0 : Int) < (n : Int) := by omega
          have z2 : ¬ n = 0 := by omega
          obtain ⟨x, hxi⟩ : ∃ x, Hid (ps[i]? = some x) := ⟨_, List.getElem?_eq_getElem (by have := hm.out; omega)⟩
          obtain ⟨kp, hkp⟩ : ∃ kp, Hid (i - 1 = kp) := ⟨_, Lib.hid rfl⟩
          obtain ⟨z, hzi⟩ : ∃ z, Hid (ps[kp]? = some z) := ⟨_, List.getElem?_eq_getElem (by have := hm.out; have := hkp.out; omega)⟩
          obtain ⟨f, hfi⟩ : ∃ f, Hid (ps[0]? = some f) := ⟨ps[0]'(by have := hm.out; omega), List.getElem?_eq_getElem _⟩
          obtain ⟨y, hy1, hy2, hy3⟩ := hit.out i x hxi.out
          have hfz : f.x = sz := by
            have h := hfi.out
            rw [← hsz.out]
            cases hps : ps with
            | nil => rw [hps] at h; cases h
            | cons a l => rw [hps] at h; obtain rfl := Option.some.inj h; rfl
          have hst := rises_step sz (some z.y) hy1
          rw [hy2, hy3] at hst
          have hpv : (if i = 0 then none else (ps[i - 1]?).map (·.y)) = some z.y := by rw [if_neg (by have := hi1.out; omega), hkp.out, hzi.out]; rfl
          have hri2 : Hid (rises sz none its = (decide (x.x = f.x) && (!decide (x.y ≤ z.y) && rises sz (some x.y) (its.drop (i + 1))))) := by
            have h := hri.out
            rw [hpv, hst] at h
            rw [hfz]
            exact h
          have hnx : Hid ((if i + 1 = 0 then none else (ps[i + 1 - 1]?).map (·.y)) = some x.y) := by show _ = _; rw [if_neg (by omega), Nat.add_sub_cancel, hxi.out]; rfl
          obtain ⟨bP, oP, rfl, hbP, -⟩ := hq.out.at_ hxi.out
          have hat : Hid (∀ (j : Nat) (p : Pr), ps[j]? = some p → ∀ w', Below w.heap.size w w' → ∀ fi u, p.cells[fi]? = some u → w'.cell? ⟨bP, oP + j * 3 + fi, none⟩ = some u) := fun j p hj w' hb fi u hu => by
            obtain ⟨b', o', e', hb', hc'⟩ := hq.out.at_ hj
            injection e' with e'
            injection e' with e1 e2
            subst e1 e2
            exact (hb.cell (p := ⟨bP, oP + j * 3 + fi, none⟩) hb').trans (by rw [show oP + j * 3 + fi = oP + (3 * j + fi) by omega]; exact hc' fi u hu)
          have hx := Lib.hid (hat.out i x hxi.out)
          have hz := Lib.hid (hat.out kp z hzi.out)
          have hf := Lib.hid (hat.out 0 f hfi.out)
          have z7 : IntKind.i64.wrap ((i : Int) - 1) = (kp : Int) := by rw [IntWalk.i64_in _ (by omega)]; have := hkp.out; have := hi1.out; omega
          have z8 : (kp : Int) < (n : Int) := by have := hkp.out; omega
          have z9 : (0 : Int) ≤ (kp : Int) := by omega
          have hlt' : Hid (i < n) := hlt
          clear hy1 hy2 hy3 hfz hst hpv hri hbP hat hlt
          go_upto_region 6 with fail
          by_cases hsx : x.x = f.x
          · by_cases hyz : x.y ≤ z.y
            · have hW0 : Hid (W = none) := hno.out (by rw [hri2.out, decide_eq_true hyz]; simp)
              refine q_region (Class wr) (by kernel_rfl) (by kernel_rfl) (Class.mk_ ((Below.refl _ _).drew)) ?_
              refine q_move rfl (.tmp 5) rfl ?_
              (intro K hK; go_simp; refine hK _ ?_; clear hK K)
              refine q_move rfl (.tmp 14) rfl ?_
              (intro K hK; go_simp; refine hK _ ?_; clear hK K)
              refine q_val (v := .pointer (some ⟨bP, oP + i * 3, none⟩)) rfl (fun w' hw' => by go_simp) ?_
              (intro K hK; go_simp; refine hK _ ?_; clear hK K)
              refine q_val (v := .pointer (some ⟨bP, oP + i * 3, none⟩)) rfl (fun w' hw' => by go_simp) ?_
              (intro K hK; go_simp; refine hK _ ?_; clear hK K)
              refine q_val (v := .int .i64 x.x) rfl (fun w' hw' => by have hc := hx.out w' (hbw.out.trans (hw'.below.mono hbw.out.size)) 0 _ rfl; rw [Nat.add_zero] at hc; go_simp) ?_
              (intro K hK; go_simp; refine hK _ ?_; clear hK K)
              refine q_move rfl (.tmp 5) rfl ?_
              (intro K hK; go_simp; refine hK _ ?_; clear hK K)
              refine q_val (v := .pointer (some ⟨bP, oP, none⟩)) rfl (fun w' hw' => by go_simp) ?_
              (intro K hK; go_simp; refine hK _ ?_; clear hK K)
              refine q_val (v := .pointer (some ⟨bP, oP, none⟩)) rfl (fun w' hw' => by go_simp) ?_
              (intro K hK; go_simp; refine hK _ ?_; clear hK K)
              refine q_val (v := .int .i64 f.x) rfl (fun w' hw' => by have hc := hf.out w' (hbw.out.trans (hw'.below.mono hbw.out.size)) 0 _ rfl; simp only [Nat.zero_mul, Nat.add_zero] at hc; go_simp) ?_
              (intro K hK; go_simp; refine hK _ ?_; clear hK K)
              refine q_val (v := .bool false) rfl (fun w' hw' => by go_simp) ?_
              (intro K hK; go_simp; refine hK _ ?_; clear hK K)
              refine q_val (v := .bool false) rfl (fun w' hw' => by go_simp) ?_
              (intro K hK; go_simp; refine hK _ ?_; clear hK K)
              refine q_move rfl (.tmp 5) rfl ?_
              (intro K hK; go_simp; refine hK _ ?_; clear hK K)
              refine q_move rfl (.tmp 14) rfl ?_
              (intro K hK; go_simp; refine hK _ ?_; clear hK K)
              refine q_val (v := .pointer (some ⟨bP, oP + i * 3, none⟩)) rfl (fun w' hw' => by go_simp) ?_
              (intro K hK; go_simp; refine hK _ ?_; clear hK K)
              refine q_val (v := .pointer (some ⟨bP, oP + i * 3 + 1, none⟩)) rfl (fun w' hw' => by go_simp) ?_
              (intro K hK; go_simp; refine hK _ ?_; clear hK K)
              refine q_val (v := .int .i64 x.y) rfl (fun w' hw' => by have hc := hx.out w' (hbw.out.trans (hw'.below.mono hbw.out.size)) 1 _ rfl; go_simp) ?_
              (intro K hK; go_simp; refine hK _ ?_; clear hK K)
              refine q_move rfl (.tmp 5) rfl ?_
              (intro K hK; go_simp; refine hK _ ?_; clear hK K)
              refine q_move rfl (.tmp 14) rfl ?_
              (intro K hK; go_simp; refine hK _ ?_; clear hK K)
              refine q_val (v := .int .i64 (kp : Int)) rfl (fun w' hw' => by go_simp) ?_
              (intro K hK; go_simp; refine hK _ ?_; clear hK K)
              refine q_val (v := .pointer (some ⟨bP, oP + kp * 3, none⟩)) rfl (fun w' hw' => by go_simp) ?_
              (intro K hK; go_simp; refine hK _ ?_; clear hK K)
              refine q_val (v := .pointer (some ⟨bP, oP + kp * 3 + 1, none⟩)) rfl (fun w' hw' => by go_simp) ?_
              (intro K hK; go_simp; refine hK _ ?_; clear hK K)
              refine q_val (v := .int .i64 z.y) rfl (fun w' hw' => by have hc := hz.out w' (hbw.out.trans (hw'.below.mono hbw.out.size)) 1 _ rfl; go_simp) ?_
              (intro K hK; go_simp; refine hK _ ?_; clear hK K)
              refine q_val (v := .bool true) rfl (fun w' hw' => by go_simp) ?_
              (intro K hK; go_simp; refine hK _ ?_; clear hK K)
              refine q_val (v := .bool true) rfl (fun w' hw' => by go_simp) ?_
              (intro K hK; go_simp; refine hK _ ?_; clear hK K)
              refine q_nil ?_
              intro w6 hw6
              have h6 : Hid (Below w.heap.size w w6) := hbw.out.trans (hw6.below.mono hbw.out.size)
              have hB6 : Hid (Blk w6 w.heap.size 23 (cells8 b).toArray) := (hw6.below.block _ hBw.out.lt).trans hBw.out
              clear hw6
              go_wp2_with fail
              go_ret2
              exact cpost_no hW0.out rfl h6.out
            · have hri3 : Hid (rises sz none its = rises sz (some x.y) (its.drop (i + 1))) := by
                show _ = _
                rw [hri2.out, decide_eq_true hsx, decide_eq_false hyz]
                simp
              refine q_region (Class wr) (by kernel_rfl) (by kernel_rfl) (Class.mk_ ((Below.refl _ _).drew)) ?_
              refine q_move rfl (.tmp 5) rfl ?_
              (intro K hK; go_simp; refine hK _ ?_; clear hK K)
              refine q_move rfl (.tmp 14) rfl ?_
              (intro K hK; go_simp; refine hK _ ?_; clear hK K)
              refine q_val (v := .pointer (some ⟨bP, oP + i * 3, none⟩)) rfl (fun w' hw' => by go_simp) ?_
              (intro K hK; go_simp; refine hK _ ?_; clear hK K)
              refine q_val (v := .pointer (some ⟨bP, oP + i * 3, none⟩)) rfl (fun w' hw' => by go_simp) ?_
              (intro K hK; go_simp; refine hK _ ?_; clear hK K)
              refine q_val (v := .int .i64 x.x) rfl (fun w' hw' => by have hc := hx.out w' (hbw.out.trans (hw'.below.mono hbw.out.size)) 0 _ rfl; rw [Nat.add_zero] at hc; go_simp) ?_
              (intro K hK; go_simp; refine hK _ ?_; clear hK K)
              refine q_move rfl (.tmp 5) rfl ?_
              (intro K hK; go_simp; refine hK _ ?_; clear hK K)
              refine q_val (v := .pointer (some ⟨bP, oP, none⟩)) rfl (fun w' hw' => by go_simp) ?_
              (intro K hK; go_simp; refine hK _ ?_; clear hK K)
              refine q_val (v := .pointer (some ⟨bP, oP, none⟩)) rfl (fun w' hw' => by go_simp) ?_
              (intro K hK; go_simp; refine hK _ ?_; clear hK K)
              refine q_val (v := .int .i64 f.x) rfl (fun w' hw' => by have hc := hf.out w' (hbw.out.trans (hw'.below.mono hbw.out.size)) 0 _ rfl; simp only [Nat.zero_mul, Nat.add_zero] at hc; go_simp) ?_
              (intro K hK; go_simp; refine hK _ ?_; clear hK K)
              refine q_val (v := .bool false) rfl (fun w' hw' => by go_simp) ?_
              (intro K hK; go_simp; refine hK _ ?_; clear hK K)
              refine q_val (v := .bool false) rfl (fun w' hw' => by go_simp) ?_
              (intro K hK; go_simp; refine hK _ ?_; clear hK K)
              refine q_move rfl (.tmp 5) rfl ?_
              (intro K hK; go_simp; refine hK _ ?_; clear hK K)
              refine q_move rfl (.tmp 14) rfl ?_
              (intro K hK; go_simp; refine hK _ ?_; clear hK K)
              refine q_val (v := .pointer (some ⟨bP, oP + i * 3, none⟩)) rfl (fun w' hw' => by go_simp) ?_
              (intro K hK; go_simp; refine hK _ ?_; clear hK K)
              refine q_val (v := .pointer (some ⟨bP, oP + i * 3 + 1, none⟩)) rfl (fun w' hw' => by go_simp) ?_
              (intro K hK; go_simp; refine hK _ ?_; clear hK K)
              refine q_val (v := .int .i64 x.y) rfl (fun w' hw' => by have hc := hx.out w' (hbw.out.trans (hw'.below.mono hbw.out.size)) 1 _ rfl; go_simp) ?_
              (intro K hK; go_simp; refine hK _ ?_; clear hK K)
              refine q_move rfl (.tmp 5) rfl ?_
              (intro K hK; go_simp; refine hK _ ?_; clear hK K)
              refine q_move rfl (.tmp 14) rfl ?_
              (intro K hK; go_simp; refine hK _ ?_; clear hK K)
              refine q_val (v := .int .i64 (kp : Int)) rfl (fun w' hw' => by go_simp) ?_
              (intro K hK; go_simp; refine hK _ ?_; clear hK K)
              refine q_val (v := .pointer (some ⟨bP, oP + kp * 3, none⟩)) rfl (fun w' hw' => by go_simp) ?_
              (intro K hK; go_simp; refine hK _ ?_; clear hK K)
              refine q_val (v := .pointer (some ⟨bP, oP + kp * 3 + 1, none⟩)) rfl (fun w' hw' => by go_simp) ?_
              (intro K hK; go_simp; refine hK _ ?_; clear hK K)
              refine q_val (v := .int .i64 z.y) rfl (fun w' hw' => by have hc := hz.out w' (hbw.out.trans (hw'.below.mono hbw.out.size)) 1 _ rfl; go_simp) ?_
              (intro K hK; go_simp; refine hK _ ?_; clear hK K)
              refine q_val (v := .bool false) rfl (fun w' hw' => by go_simp) ?_
              (intro K hK; go_simp; refine hK _ ?_; clear hK K)
              refine q_val (v := .bool false) rfl (fun w' hw' => by go_simp) ?_
              (intro K hK; go_simp; refine hK _ ?_; clear hK K)
              refine q_nil ?_
              intro w6 hw6
              have h6 : Hid (Below w.heap.size w w6) := hbw.out.trans (hw6.below.mono hbw.out.size)
              have hB6 : Hid (Blk w6 w.heap.size 23 (cells8 b).toArray) := (hw6.below.block _ hBw.out.lt).trans hBw.out
              clear hw6
              go_wp2_with fail
              go_roundw
              case rel => exact ⟨i + 1, by go_num, Nat.succ_le_succ (Nat.zero_le _), Nat.succ_le_succ (Nat.le_of_lt hlt'.out), (by show rises sz none its = _; rw [hnx.out]; exact hri3.out), h6.out, hB6.out⟩
              case measure => (have := hlt'.out; simp [intOf]; omega)
          · have hW0 : Hid (W = none) := hno.out (by rw [hri2.out, decide_eq_false hsx]; simp)
            refine q_region (Class wr) (by kernel_rfl) (by kernel_rfl) (Class.mk_ ((Below.refl _ _).drew)) ?_
            refine q_move rfl (.tmp 5) rfl ?_
            (intro K hK; go_simp; refine hK _ ?_; clear hK K)
            refine q_move rfl (.tmp 14) rfl ?_
            (intro K hK; go_simp; refine hK _ ?_; clear hK K)
            refine q_val (v := .pointer (some ⟨bP, oP + i * 3, none⟩)) rfl (fun w' hw' => by go_simp) ?_
            (intro K hK; go_simp; refine hK _ ?_; clear hK K)
            refine q_val (v := .pointer (some ⟨bP, oP + i * 3, none⟩)) rfl (fun w' hw' => by go_simp) ?_
            (intro K hK; go_simp; refine hK _ ?_; clear hK K)
            refine q_val (v := .int .i64 x.x) rfl (fun w' hw' => by have hc := hx.out w' (hbw.out.trans (hw'.below.mono hbw.out.size)) 0 _ rfl; rw [Nat.add_zero] at hc; go_simp) ?_
            (intro K hK; go_simp; refine hK _ ?_; clear hK K)
            refine q_move rfl (.tmp 5) rfl ?_
            (intro K hK; go_simp; refine hK _ ?_; clear hK K)
            refine q_val (v := .pointer (some ⟨bP, oP, none⟩)) rfl (fun w' hw' => by go_simp) ?_
            (intro K hK; go_simp; refine hK _ ?_; clear hK K)
            refine q_val (v := .pointer (some ⟨bP, oP, none⟩)) rfl (fun w' hw' => by go_simp) ?_
            (intro K hK; go_simp; refine hK _ ?_; clear hK K)
            refine q_val (v := .int .i64 f.x) rfl (fun w' hw' => by have hc := hf.out w' (hbw.out.trans (hw'.below.mono hbw.out.size)) 0 _ rfl; simp only [Nat.zero_mul, Nat.add_zero] at hc; go_simp) ?_
            (intro K hK; go_simp; refine hK _ ?_; clear hK K)
            refine q_val (v := .bool true) rfl (fun w' hw' => by go_simp) ?_
            (intro K hK; go_simp; refine hK _ ?_; clear hK K)
            refine q_val (v := .bool true) rfl (fun w' hw' => by go_simp) ?_
            (intro K hK; go_simp; refine hK _ ?_; clear hK K)
            refine q_skip rfl ?_
            (intro K hK; go_simp; refine hK _ ?_; clear hK K)
            refine q_skip rfl ?_
            (intro K hK; go_simp; refine hK _ ?_; clear hK K)
            refine q_skip rfl ?_
            (intro K hK; go_simp; refine hK _ ?_; clear hK K)
            refine q_skip rfl ?_
            (intro K hK; go_simp; refine hK _ ?_; clear hK K)
            refine q_skip rfl ?_
            (intro K hK; go_simp; refine hK _ ?_; clear hK K)
            refine q_skip rfl ?_
            (intro K hK; go_simp; refine hK _ ?_; clear hK K)
            refine q_skip rfl ?_
            (intro K hK; go_simp; refine hK _ ?_; clear hK K)
            refine q_skip rfl ?_
            (intro K hK; go_simp; refine hK _ ?_; clear hK K)
            refine q_skip rfl ?_
            (intro K hK; go_simp; refine hK _ ?_; clear hK K)
            refine q_skip rfl ?_
            (intro K hK; go_simp; refine hK _ ?_; clear hK K)
            refine q_skip rfl ?_
            (intro K hK; go_simp; refine hK _ ?_; clear hK K)
            refine q_skip rfl ?_
            (intro K hK; go_simp; refine hK _ ?_; clear hK K)
            refine q_val (v := .bool true) rfl (fun w' hw' => by go_simp) ?_
            (intro K hK; go_simp; refine hK _ ?_; clear hK K)
            refine q_nil ?_
            intro w6 hw6
            have h6 : Hid (Below w.heap.size w w6) := hbw.out.trans (hw6.below.mono hbw.out.size)
            have hB6 : Hid (Blk w6 w.heap.size 23 (cells8 b).toArray) := (hw6.below.block _ hBw.out.lt).trans hBw.out
            clear hw6
            go_wp2_with fail
            go_ret2
            exact cpost_no hW0.out rfl h6.out
        · have hall : Hid (rises sz none its = true) := by
            show _ = _
            rw [hri.out]
            exact rises_end sz _ (by have := hil.out; omega)
          have y3 : ¬ ((i : Int) < (n : Int)) := by omega
          clear hlt hri hno hit
          obtain ⟨wA, rfl⟩ : ∃ wA, wA = wr := ⟨_, rfl⟩
          go_wp2_with fail
          clear y3
          have hInv0 : Hid (Inv sz (54 + s.size) (Chain.chainOf wd) es its W [] F b 0) := by
            have e : W = cuts sz (54 + s.size) (Chain.chainOf wd) es its es.length F b 0 := by
              rw [← hW.out]
              unfold cutsW
              rw [if_pos ⟨by rw [hn.out, hm.out], hfb.out, by rw [hsz.out, hits.out]; exact hall.out⟩, hsz.out, hits.out]
            show Inv _ _ _ _ _ _ _ _ _ _
            rw [e]
            exact Inv.start F b
          have hL0 : Hid (Lr w wA 0 none 0 []) := ⟨World.ownsRow_nil _ _ _ _, fun p hp => by cases hp⟩
          clear hin hi1
          go_loopw [2, 15, 16] (fun v2 v15 v16 wr => ∃ (F' : Int) (b' : Text) (lo q cl : Nat) (Al : Option Addr) (ks : List Cut) (l : List Pc), v2 = .int .i64 F' ∧ v15 = .slice Al q cl ∧ v16 = .int .i64 (lo : Int) ∧ Hid (Inv sz (54 + s.size) (Chain.chainOf wd) es its W ks F' b' lo) ∧ Hid (begB s.data.toList F' b' = true) ∧ Hid (b'.length = 32) ∧ Hid (lo ≤ n) ∧ Hid (q ≤ lo) ∧ Hid (SaysR s es ps l ks) ∧ Hid (Lr w wr q Al cl l) ∧ Hid (Blk wr w.heap.size 23 (cells8 b').toArray) ∧ Hid (Below w.heap.size w wr)) (fun _ _ v _ => n - (intOf v).toNat)
          case atStart => exact ⟨F, b, 0, 0, 0, none, [], [], rfl, rfl, rfl, hInv0.out, hfb.out, hb.out, Nat.zero_le _, Nat.le_refl _, SaysR.nil_ _ _ _, hL0.out, hBw.out, hbw.out⟩
          case round =>
            clear hInv0 hL0 hBw hbw
            obtain ⟨F', b', lo, q, cl, Al, ks, l, rfl, rfl, rfl, hInv, hbg, hb', hlo, hql, hSa, hL, hB, hbe⟩ := hrel
            have hlo6 : (lo : Int) ≤ 1000000 := by have := hlo.out; omega
            by_cases hlt : lo < n
            · have y4 : ((lo : Int) < (n : Int)) := by omega
              have z0 : (0 : Int) ≤ (lo : Int) := by omega
              obtain ⟨r, hr⟩ : ∃ r, Hid (reachFrom F' sz 0 (54 + s.size) none (its.drop lo) = r) := ⟨_, Lib.hid rfl⟩
              obtain ⟨nl, hnl⟩ : ∃ x, Hid (n - lo = x) := ⟨_, Lib.hid rfl⟩
              obtain ⟨ce, hce⟩ : ∃ x, Hid (c - lo = x) := ⟨_, Lib.hid rfl⟩
              obtain ⟨cp, hcp⟩ : ∃ x, Hid (c2 - lo = x) := ⟨_, Lib.hid rfl⟩
              obtain ⟨eA, heA⟩ : ∃ x, Hid (dropA A lo 1 = x) := ⟨_, Lib.hid rfl⟩
              obtain ⟨pA, hpA⟩ : ∃ x, Hid (dropA A2 lo 3 = x) := ⟨_, Lib.hid rfl⟩
              have hXe : Hid (∀ w', (Instr.sliceAt 24 (.slice A n c) (some (.int .i64 (lo : Int))) none none).run Tryd.prog w' = .ok (.slice eA nl ce) w') := fun w' => by
                have := run_from (P := Tryd.prog) (t := 24) (A := A) (n := n) (c := c) (l := lo) (sz := 1) Tryd.underlying24 (fun _ => rfl) hlt hnc _ rfl w'
                rw [heA.out, hnl.out, hce.out] at this
                exact this
              have hXp : Hid (∀ w', (Instr.sliceAt 25 (.slice A2 n c2) (some (.int .i64 (lo : Int))) none none).run Tryd.prog w' = .ok (.slice pA nl cp) w') := fun w' => by
                have := run_from (P := Tryd.prog) (t := 25) (A := A2) (n := n) (c := c2) (l := lo) (sz := 3) Tryd.underlying25 (fun _ => rfl) hlt hmc _ rfl w'
                rw [hpA.out, hnl.out, hcp.out] at this
                exact this
              have hRe : Hid (∀ w', Below w.heap.size w w' → Calls Tryd.prog 52 #[.string s, .int .i64 F', .agg (cells8 b').toArray, .slice eA nl ce, .slice pA nl cp] w' fun e w'' => e = .returned (.int .i64 (r : Int)) ∧ Below w'.heap.size w' w'') := fun w' hbw' => by
                have := reach_any s hs.out F' b' hb'.out (es.drop lo) nl (by rw [List.length_drop, hn.out]; exact hnl.out) (by have := hnl.out; omega) eA ce (ps.drop lo) (by rw [List.length_drop, hm.out]; exact hnl.out) pA cp w' (by rw [← heA.out]; exact pieces_drop (hp.out.below hbw') lo) (by rw [← hpA.out]; exact prs_drop (hq.out.below hbw') lo) (fun e he => hsh.out e (List.mem_of_mem_drop he)) (fun p hp => hnn.out p (List.mem_of_mem_drop hp))
                rw [reach_round (by rw [hn.out, hm.out]) hbg.out (by rw [hsz.out, hits.out]; exact hall.out) (by rw [hn.out]; exact hlt), hsz.out, hits.out, hr.out] at this
                exact this
              have sD := Lib.hid (dig_size b' hb'.out)
              have hlt' : Hid (lo < n) := hlt
              go_upto_region 11 with fail
              refine wp_region_class_tail 10 (Class wr) (by kernel_rfl) (by kernel_rfl) (Class.mk_ ((Below.refl _ _).drew)) ?_
              refine wpQuiet_move rfl (.tmp 1) rfl ?_
              (intro K hK; go_simp; refine hK _ ?_; clear hK K)
              refine wpQuiet_move rfl (.tmp 2) rfl ?_
              (intro K hK; go_simp; refine hK _ ?_; clear hK K)
              refine wpQuiet_load_row rfl 23 (.tmp 9) rfl w.heap.size rfl 23 ((cells8 b').toArray) (0, 0) _ (fun w' hw' => (hw'.below.block _ hB.out.lt).trans hB.out) Tryd.underlying23 rfl sD.out ?_
              (intro K hK; go_simp; refine hK _ ?_; clear hK K)
              refine wpQuiet_move rfl (.tmp 4) rfl ?_
              (intro K hK; go_simp; refine hK _ ?_; clear hK K)
              refine wpQuiet_move rfl (.tmp 16) rfl ?_
              (intro K hK; go_simp; refine hK _ ?_; clear hK K)
              refine wpQuiet_val (v := .slice eA nl ce) rfl (fun w' hw' => by have hx := hXe.out w'; go_simp) ?_
              (intro K hK; go_simp; refine hK _ ?_; clear hK K)
              refine wpQuiet_move rfl (.tmp 5) rfl ?_
              (intro K hK; go_simp; refine hK _ ?_; clear hK K)
              refine wpQuiet_move rfl (.tmp 16) rfl ?_
              (intro K hK; go_simp; refine hK _ ?_; clear hK K)
              refine wpQuiet_val (v := .slice pA nl cp) rfl (fun w' hw' => by have hx := hXp.out w'; go_simp) ?_
              (intro K hK; go_simp; refine hK _ ?_; clear hK K)
              refine wpQuiet_fn (v := .int .i64 (r : Int)) (args := #[.string s, .int .i64 F', .agg (cells8 b').toArray, .slice eA nl ce, .slice pA nl cp]) rfl _ _ rfl rfl Tryd.func52 (by kernel_rfl) (by kernel_rfl) (fun w' hw' => (hRe.out w' (hbe.out.trans (hw'.below.mono hbe.out.size))).mono (fun e w'' ⟨he, hw⟩ => ⟨he, hw'.next hw⟩)) ?_
              (intro K hK; go_simp; refine hK _ ?_; clear hK K)
              refine wpQuiet_nil ?_
              intro wq hwq
              have hbq : Hid (Below w.heap.size w wq) := hbe.out.trans (hwq.below.mono hbe.out.size)
              have hBq : Hid (Blk wq w.heap.size 23 (cells8 b').toArray) := (hwq.below.block _ hB.out.lt).trans hB.out
              have hLq : Hid (Lr w wq q Al cl l) := hL.out.kept (Kept.of_below hwq.below)
              clear hwq hB hL hbe
              simp only [List.drop]
              clear hRe hXe hXp
              by_cases hr0 : r = 0
              · subst hr0
                have hW0 : Hid (W = none) := hInv.out.stuck (by have := hn.out; have := hlt'.out; omega) hr.out
                go_wp2_with fail
                go_ret2
                exact cpost_no hW0.out rfl hbq.out
              · have y5 : ¬ ((r : Int) = 0) := by omega
                have y6 : ¬ (r = 0) := hr0
                go_upto_region 14 with fail
                obtain ⟨hi_, hhi⟩ : ∃ x, Hid (lo + r = x) := ⟨_, Lib.hid rfl⟩
                have hrl : Hid (r ≤ nl) := by have := reach_lt hr.out hil.out; have := hnl.out; show _ ≤ _; omega
                have z6 : IntKind.i64.wrap ((lo : Int) + (r : Int)) = (hi_ : Int) := by rw [IntWalk.i64_in _ (by have := hrl.out; have := hnl.out; omega)]; have := hhi.out; omega
                have hXe2 : Hid (∀ w', (Instr.sliceAt 24 (.slice A n c) (some (.int .i64 (lo : Int))) (some (.int .i64 (hi_ : Int))) none).run Tryd.prog w' = .ok (.slice eA r ce) w') := fun w' => by
                  have := run_part (P := Tryd.prog) (t := 24) (A := A) (n := n) (c := c) (l := lo) (m := hi_) (sz := 1) Tryd.underlying24 (fun _ => rfl) (by have := hhi.out; omega) (by have := hhi.out; have := hrl.out; have := hnl.out; have := hlt'.out; omega) hnc _ _ rfl rfl w'
                  rw [heA.out, show hi_ - lo = r by have := hhi.out; omega, hce.out] at this
                  exact this
                have hXp2 : Hid (∀ w', (Instr.sliceAt 25 (.slice A2 n c2) (some (.int .i64 (lo : Int))) (some (.int .i64 (hi_ : Int))) none).run Tryd.prog w' = .ok (.slice pA r cp) w') := fun w' => by
                  have := run_part (P := Tryd.prog) (t := 25) (A := A2) (n := n) (c := c2) (l := lo) (m := hi_) (sz := 3) Tryd.underlying25 (fun _ => rfl) (by have := hhi.out; omega) (by have := hhi.out; have := hrl.out; have := hnl.out; have := hlt'.out; omega) hmc _ _ rfl rfl w'
                  rw [hpA.out, show hi_ - lo = r by have := hhi.out; omega, hcp.out] at this
                  exact this
                have hCu : Hid (∀ w', Below wq.heap.size wq w' → Calls Tryd.prog 53 #[.slice eA r ce, .slice pA r cp] w' fun e w'' => ∃ p : Pc, e = .returned (.agg p.cells.toArray) ∧ CutOk w'' (w.heap.size + 1) ((es.drop lo).take r) ((ps.drop lo).take r) r p ∧ Below w'.heap.size w' w'') := fun w' hbx => by
                  have hbw' := hbq.out.trans (hbx.mono hbq.out.size)
                  have hl1 : ((es.drop lo).take r).length = r := by rw [List.length_take, List.length_drop]; have := hrl.out; have := hnl.out; have := hn.out; omega
                  have hl2 : ((ps.drop lo).take r).length = r := by rw [List.length_take, List.length_drop]; have := hrl.out; have := hnl.out; have := hm.out; omega
                  have hsm := reach_sumN (F := F') (sz := sz) (nb := 54 + s.size) (es := es) (ps := ps) (lo := lo) (n := r) (by rw [hn.out, hm.out]) (by rw [hits.out]; exact hr.out) y6
                  refine (cut_any ((es.drop lo).take r) r hl1 (by have := hrl.out; have := hnl.out; omega) (fun e he => hsh.out e (List.mem_of_mem_drop (List.mem_of_mem_take he))) ((ps.drop lo).take r) hl2 (by omega) (fun p hp => hnil.out p (List.mem_of_mem_drop (List.mem_of_mem_take hp))) eA pA ce cp w' (by rw [← heA.out]; exact Law17e.Pieces.take_ (pieces_drop (hp.out.below hbw') lo) r) (by rw [← hpA.out]; exact Law17e.Prs.take_ (prs_drop (hq.out.below hbw') lo) r)).mono ?_
                  rintro e w'' ⟨p, he, a1, a2, a3, a4, a5, a6, a7, a8, a9⟩
                  exact ⟨p, he, ⟨a1, a2, a3, a4, a5, a6, a7, a8.mono (by have := hBq.out.lt; have := hbx.size; omega)⟩, a9⟩
                go_cut [18] from 78 to 91 (fun v wr' => ∃ (mb : Nat) (p : Pc), v = .pointer (some ⟨mb, 0, none⟩) ∧ Hid (wq.heap.size ≤ mb) ∧ Hid (Blk wr' mb 33 p.cells.toArray) ∧ Hid (CutOk wr' (w.heap.size + 1) ((es.drop lo).take r) ((ps.drop lo).take r) r p) ∧ Hid (Below wq.heap.size wq wr'))
                case first =>
                  have s0 : Hid (Below wq.heap.size wq wq.drew) := (Below.refl _ _).drew
                  refine held_start (fun w' => Below wq.heap.size wq w') 15 rfl (by kernel_rfl) ?_
                  refine held_take (i := 0) (v := .slice A n c) rfl (by kernel_rfl) (by kernel_rfl) (by kernel_rfl) (fun _ _ _ h => h) s0.out (by rfl) (fun w' hw' => run_mv (.tmp 4) rfl w') ?_
                  (intro K hK; go_simp; refine hK _ ?_; clear hK K)
                  refine held_take (i := 1) (v := .int .i64 (lo : Int)) rfl (by kernel_rfl) (by kernel_rfl) (by kernel_rfl) (fun _ _ _ h => h) s0.out (by rfl) (fun w' hw' => run_mv (.tmp 16) rfl w') ?_
                  (intro K hK; go_simp; refine hK _ ?_; clear hK K)
                  refine held_take (i := 2) (v := .int .i64 (lo : Int)) rfl (by kernel_rfl) (by kernel_rfl) (by kernel_rfl) (fun _ _ _ h => h) s0.out (by rfl) (fun w' hw' => run_mv (.tmp 16) rfl w') ?_
                  (intro K hK; go_simp; refine hK _ ?_; clear hK K)
                  refine held_take (i := 3) (v := .int .i64 (r : Int)) rfl (by kernel_rfl) (by kernel_rfl) (by kernel_rfl) (fun _ _ _ h => h) s0.out (by rfl) (fun w' hw' => run_mv (.tmp 17) rfl w') ?_
                  (intro K hK; go_simp; refine hK _ ?_; clear hK K)
                  refine held_take (i := 4) (v := .int .i64 (hi_ : Int)) rfl (by kernel_rfl) (by kernel_rfl) (by kernel_rfl) (fun _ _ _ h => h) s0.out (by rfl) (fun w' hw' => by go_simp) ?_
                  (intro K hK; go_simp; refine hK _ ?_; clear hK K)
                  refine held_take (i := 5) (v := .slice eA r ce) rfl (by kernel_rfl) (by kernel_rfl) (by kernel_rfl) (fun _ _ _ h => h) s0.out (by rfl) (fun w' hw' => by have hx := hXe2.out w'; go_simp) ?_
                  (intro K hK; go_simp; refine hK _ ?_; clear hK K)
                  refine held_take (i := 6) (v := .slice A2 n c2) rfl (by kernel_rfl) (by kernel_rfl) (by kernel_rfl) (fun _ _ _ h => h) s0.out (by rfl) (fun w' hw' => run_mv (.tmp 5) rfl w') ?_
                  (intro K hK; go_simp; refine hK _ ?_; clear hK K)
                  refine held_take (i := 7) (v := .int .i64 (lo : Int)) rfl (by kernel_rfl) (by kernel_rfl) (by kernel_rfl) (fun _ _ _ h => h) s0.out (by rfl) (fun w' hw' => run_mv (.tmp 16) rfl w') ?_
                  (intro K hK; go_simp; refine hK _ ?_; clear hK K)
                  refine held_take (i := 8) (v := .int .i64 (lo : Int)) rfl (by kernel_rfl) (by kernel_rfl) (by kernel_rfl) (fun _ _ _ h => h) s0.out (by rfl) (fun w' hw' => run_mv (.tmp 16) rfl w') ?_
                  (intro K hK; go_simp; refine hK _ ?_; clear hK K)
                  refine held_take (i := 9) (v := .int .i64 (r : Int)) rfl (by kernel_rfl) (by kernel_rfl) (by kernel_rfl) (fun _ _ _ h => h) s0.out (by rfl) (fun w' hw' => run_mv (.tmp 17) rfl w') ?_
                  (intro K hK; go_simp; refine hK _ ?_; clear hK K)
                  refine held_take (i := 10) (v := .int .i64 (hi_ : Int)) rfl (by kernel_rfl) (by kernel_rfl) (by kernel_rfl) (fun _ _ _ h => h) s0.out (by rfl) (fun w' hw' => by go_simp) ?_
                  (intro K hK; go_simp; refine hK _ ?_; clear hK K)
                  refine held_take (i := 11) (v := .slice pA r cp) rfl (by kernel_rfl) (by kernel_rfl) (by kernel_rfl) (fun _ _ _ h => h) s0.out (by rfl) (fun w' hw' => by have hx := hXp2.out w'; go_simp) ?_
                  (intro K hK; go_simp; refine hK _ ?_; clear hK K)
                  refine held_two (i := 12) (j := 13) rfl rfl (by kernel_rfl) (by rfl) (by rfl) (fun K hK => ?_) (fun K hK => ?_)
                  · refine wp_fn (R := fun v w'' => ∃ p : Pc, v = .agg p.cells.toArray ∧ CutOk w'' (w.heap.size + 1) ((es.drop lo).take r) ((ps.drop lo).take r) r p ∧ Below wq.heap.size wq w'' ∧ Below (wq.drew).heap.size (wq.drew) w'') (args := #[.slice eA r ce, .slice pA r cp]) _ _ rfl rfl Tryd.func53 (by kernel_rfl) (by kernel_rfl) ((hCu.out _ (s0.out)).mono fun e w'' ⟨p, he, hco, hb⟩ => ⟨_, he, p, rfl, hco, s0.out.trans (hb.mono s0.out.size), hb⟩) ?_
                    rintro qq w5 ⟨p, rfl, hCO, h5, kk1⟩
                    replace h5 := Lib.hid h5
                    replace kk1 := Lib.hid kk1
                    replace hCO := Lib.hid hCO
                    have hFP : Hid (FitP p.cells.toArray) := hCO.out.fit
                    clear kk1
                    go_simp
                    refine hK _ _ h5.out ?_
                    clear hK K
                    refine held_only (i := 13) rfl (by kernel_rfl) (by rfl) (fun K hK => ?_)
                    have h6 := Lib.hid (h5.out.alloc h5.out.size (.cells zP 33))
                    have bb : Hid (Blk (w5.alloc (.cells zP 33)) w5.heap.size 33 zP) := Blk.new _ _ _
                    replace hCO := Lib.hid (hCO.out.below (Below.heap_below _ (.cells zP 33)))
                    go_simp
                    refine hK _ _ h6.out ?_
                    clear hK K
                    refine held_only (i := 14) rfl (by kernel_rfl) (by rfl) (fun K hK => ?_)
                    refine wp_store_whole 33 (.tmp 18) (.tmp 91) rfl (w5.heap.size) (p.cells.toArray) rfl rfl 33 (zP) (bb.out) hFP.out.size hFP.out.zero hFP.out.one ?_
                    intro w99 B9 k9
                    have b9 : Hid (Below wq.heap.size wq w99) := h6.out.trans (Kept.below_of k9 (h5.out.size) h6.out.size)
                    replace hCO := Lib.hid (hCO.out.keptN bb.out k9)
                    go_simp
                    refine hK _ _ b9.out ?_
                    clear hK K
                    refine held_end (by kernel_rfl) ?_
                    go_wp2_with fail
                    go_meet
                    case rel => exact ⟨_, _, rfl, (by first | exact Nat.le_refl _ | exact h5.out.size | exact h6.out.size), B9, hCO.out, b9.out⟩
                  · have h5 := Lib.hid (s0.out.alloc s0.out.size (.cells zP 33))
                    have bb : Hid (Blk (wq.drew.alloc (.cells zP 33)) wq.heap.size 33 zP) := Blk.new _ _ _
                    go_simp
                    refine hK _ _ h5.out ?_
                    clear hK K
                    refine held_only (i := 12) rfl (by kernel_rfl) (by rfl) (fun K hK => ?_)
                    refine wp_fn (R := fun v w'' => ∃ p : Pc, v = .agg p.cells.toArray ∧ CutOk w'' (w.heap.size + 1) ((es.drop lo).take r) ((ps.drop lo).take r) r p ∧ Below wq.heap.size wq w'' ∧ Below ((wq.drew.alloc (.cells zP 33))).heap.size ((wq.drew.alloc (.cells zP 33))) w'') (args := #[.slice eA r ce, .slice pA r cp]) _ _ rfl rfl Tryd.func53 (by kernel_rfl) (by kernel_rfl) ((hCu.out _ (h5.out)).mono fun e w'' ⟨p, he, hco, hb⟩ => ⟨_, he, p, rfl, hco, h5.out.trans (hb.mono h5.out.size), hb⟩) ?_
                    rintro qq w6 ⟨p, rfl, hCO, h6, kk1⟩
                    replace h6 := Lib.hid h6
                    replace kk1 := Lib.hid kk1
                    replace hCO := Lib.hid hCO
                    have hFP : Hid (FitP p.cells.toArray) := hCO.out.fit
                    replace bb := Lib.hid ((kk1.out.block _ (Blk.lt bb.out)).trans bb.out)
                    clear kk1
                    go_simp
                    refine hK _ _ h6.out ?_
                    clear hK K
                    refine held_only (i := 14) rfl (by kernel_rfl) (by rfl) (fun K hK => ?_)
                    refine wp_store_whole 33 (.tmp 18) (.tmp 91) rfl (wq.heap.size) (p.cells.toArray) rfl rfl 33 (zP) (bb.out) hFP.out.size hFP.out.zero hFP.out.one ?_
                    intro w99 B9 k9
                    have b9 : Hid (Below wq.heap.size wq w99) := h6.out.trans (Kept.below_of k9 (s0.out.size) h6.out.size)
                    replace hCO := Lib.hid (hCO.out.keptN bb.out k9)
                    go_simp
                    refine hK _ _ b9.out ?_
                    clear hK K
                    refine held_end (by kernel_rfl) ?_
                    go_wp2_with fail
                    go_meet
                    case rel => exact ⟨_, _, rfl, (by first | exact Nat.le_refl _ | exact h5.out.size | exact h6.out.size), B9, hCO.out, b9.out⟩
                case rest =>
                  obtain ⟨mb, p, rfl, hmb, hM, hCO, hbc⟩ := hcut
                  obtain ⟨wm, rfl⟩ : ∃ wm, wm = wc := ⟨_, rfl⟩
                  clear hCu hXp2
                  have hBm : Hid (Blk wm w.heap.size 23 (cells8 b').toArray) := (hbc.out.block _ hBq.out.lt).trans hBq.out
                  have hbm : Hid (Below w.heap.size w wm) := hbq.out.trans (hbc.out.mono hbq.out.size)
                  have hLm : Hid (Lr w wm q Al cl l) := hLq.out.kept (Kept.of_below hbc.out)
                  have hmg : Hid (w.heap.size < mb) := Nat.lt_of_lt_of_le hBq.out.lt hmb.out
                  have hst : Hid (∀ (w' : World) (f : Nat) (u : Value), (Below w.heap.size w w' ∧ Blk w' w.heap.size 23 (cells8 b').toArray) → (Below w.heap.size w (w'.setCell ⟨mb, f, none⟩ u) ∧ Blk (w'.setCell ⟨mb, f, none⟩ u) w.heap.size 23 (cells8 b').toArray)) := fun w' f u ⟨h1, h2⟩ => ⟨h1.setCell (by show w.heap.size ≤ mb; have := hmg.out; omega) _, h2.kept ((Kept.refl (fun k => k = mb) w').setCell (.inl rfl) _) (by show ¬ w.heap.size = mb; have := hmg.out; omega)⟩
                  have cm0 : wm.cell? ⟨mb, 0, none⟩ = some (.string p.s) := (hM.out.cell 0).trans (by rw [List.getElem?_toArray]; exact pc_name)
                  have fm0 := hM.out.frozen 0
                  have cm1 : wm.cell? ⟨mb, 1, none⟩ = some (.int .i64 p.F) := (hM.out.cell 1).trans (by rw [List.getElem?_toArray]; exact pc_first)
                  have fm1 := hM.out.frozen 1
                  have hpb : Hid (p.b.length = 32) := hCO.out.fm.ok.hb
                  have hmo : Hid (∀ k, Value.ownBlock (.slice Al q cl) = some k → k < mb) := fun k e => Nat.lt_of_lt_of_le (hLq.out.ow.lt k e).2 hmb.out
                  have zd2 : (cells8 b').toArray.size = 32 := by rw [List.size_toArray, cells8_len, hb'.out]
                  have hdall : Hid (((cells8 b').toArray.all fun v => v.oneCell') = true) := by
                    show _ = _
                    rw [List.all_toArray]
                    exact List.all_eq_true.2 fun v hv => PieceMem.cells8_one v hv
                  go_upto_region 15 with fail
                  have s0 : Hid (Below w.heap.size w wm.drew ∧ Blk wm.drew w.heap.size 23 (cells8 b').toArray) := ⟨hbm.out.drew, hBm.out⟩
                  refine held_start (fun w' => Below w.heap.size w w' ∧ Blk w' w.heap.size 23 (cells8 b').toArray) 9 rfl (by kernel_rfl) ?_
                  refine held_take (i := 0) (v := .string s) rfl (by kernel_rfl) (by kernel_rfl) (by kernel_rfl) (fun _ _ _ h => h) s0.out (by rfl) (fun w' hw' => run_mv (.tmp 1) rfl w') ?_
                  (intro K hK; go_simp; refine hK _ ?_; clear hK K)
                  refine held_take (i := 1) (v := .int .i64 F') rfl (by kernel_rfl) (by kernel_rfl) (by kernel_rfl) (fun _ _ _ h => h) s0.out (by rfl) (fun w' hw' => run_mv (.tmp 2) rfl w') ?_
                  (intro K hK; go_simp; refine hK _ ?_; clear hK K)
                  refine held_take (i := 2) (v := .agg ((cells8 b').toArray)) rfl (by kernel_rfl) (by kernel_rfl) (by kernel_rfl) (fun _ _ _ h => h) s0.out (by rfl) (fun w' hw' => exec_row 23 (.tmp 9) rfl (w.heap.size) rfl 23 ((cells8 b').toArray) (0, 0) _ (hw'.2) Tryd.underlying23 rfl sD.out) ?_
                  (intro K hK; go_simp; refine hK _ ?_; clear hK K)
                  refine held_take (i := 3) (v := .pointer (some ⟨mb, 0, none⟩)) rfl (by kernel_rfl) (by kernel_rfl) (by kernel_rfl) (fun _ _ _ h => h) s0.out (by rfl) (fun w' hw' => by go_simp) ?_
                  (intro K hK; go_simp; refine hK _ ?_; clear hK K)
                  refine held_only (i := 4) rfl (by kernel_rfl) (by rfl) (fun K hK => ?_)
                  go_simp
                  refine hK _ _ (hst.out _ _ _ s0.out) ?_
                  clear hK K
                  refine held_take (i := 5) (v := .pointer (some ⟨mb, 1, none⟩)) rfl (by kernel_rfl) (by kernel_rfl) (by kernel_rfl) (fun _ _ _ h => h) (hst.out _ _ _ s0.out) (by rfl) (fun w' hw' => by go_simp) ?_
                  (intro K hK; go_simp; refine hK _ ?_; clear hK K)
                  refine held_only (i := 6) rfl (by kernel_rfl) (by rfl) (fun K hK => ?_)
                  go_simp
                  refine hK _ _ (hst.out _ _ _ (hst.out _ _ _ s0.out)) ?_
                  clear hK K
                  refine held_take (i := 7) (v := .pointer (some ⟨mb, 2, none⟩)) rfl (by kernel_rfl) (by kernel_rfl) (by kernel_rfl) (fun _ _ _ h => h) (hst.out _ _ _ (hst.out _ _ _ s0.out)) (by rfl) (fun w' hw' => by go_simp) ?_
                  (intro K hK; go_simp; refine hK _ ?_; clear hK K)
                  have hM2 : Hid (Blk (((wm.setCell ⟨mb, 0, none⟩ (.string s)).setCell ⟨mb, 1, none⟩ (.int .i64 F')).drew) mb 33 (pieceCells s F' p.b (.slice p.A p.n p.c) (.slice p.A2 p.m p.c2)).toArray) := (three hM.out).1
                  have hk2 : Hid (Kept (· = mb) wm (((wm.setCell ⟨mb, 0, none⟩ (.string s)).setCell ⟨mb, 1, none⟩ (.int .i64 F')).drew)) := (three (s := s) (F := F') hM.out).2
                  refine held_only (i := 8) rfl (by kernel_rfl) (by rfl) (fun K hK => ?_)
                  refine wp_store_part 23 (.tmp 97) (.tmp 94) rfl mb 2 (cells8 b').toArray rfl rfl 33 (pieceCells s F' p.b (.slice p.A p.n p.c) (.slice p.A2 p.m p.c2)).toArray hM2.out sD.out (by rw [zd2]; exact pc_fit hpb.out) hdall.out ?_
                  rw [pc_setB hpb.out hb'.out]
                  have hk3 : Hid (Kept (· = mb) wm ((((wm.setCell ⟨mb, 0, none⟩ (.string s)).setCell ⟨mb, 1, none⟩ (.int .i64 F')).drew).setRow mb (pieceCells s F' b' (.slice p.A p.n p.c) (.slice p.A2 p.m p.c2)).toArray)) := Bytes.Kept.setRow (S := (· = mb)) hk2.out rfl _
                  have hM3 : Hid (Blk ((((wm.setCell ⟨mb, 0, none⟩ (.string s)).setCell ⟨mb, 1, none⟩ (.int .i64 F')).drew).setRow mb (pieceCells s F' b' (.slice p.A p.n p.c) (.slice p.A2 p.m p.c2)).toArray) mb 33 (Pc.put p s F' b').cells.toArray) := setRow_heap _ _ _ _ _ _ hM2.out
                  generalize (((wm.setCell ⟨mb, 0, none⟩ (.string s)).setCell ⟨mb, 1, none⟩ (.int .i64 F')).drew).setRow mb (pieceCells s F' b' (.slice p.A p.n p.c) (.slice p.A2 p.m p.c2)).toArray = wn at *
                  have hbn : Hid (Below w.heap.size w wn) := below_kept hbm.out hk3.out (fun k _ (e : k = mb) => by have := hmg.out; omega) hbm.out.size
                  have hBn : Hid (Blk wn w.heap.size 23 (cells8 b').toArray) := hBm.out.kept hk3.out (fun e => by have := hmg.out; omega)
                  have hLn : Hid (Lr w wn q Al cl l) := Lr.keptM hLm.out hM.out hk3.out hmo.out
                  have hFn : Hid (Firm wn (w.heap.size + 1) (Pc.put p s F' b')) := CutOk.put hCO.out s F' b' hb'.out hM.out hk3.out
                  clear hM2 hk2
                  refine hK _ _ ⟨hbn.out, hBn.out⟩ ?_
                  clear hK K
                  refine held_end (by kernel_rfl) ?_
                  have sQ : Hid ((Tryd.prog.info? 33).map (·.size) = some (Pc.put p s F' b').cells.toArray.size) := pc_info hb'.out
                  have q1 : Hid (∀ v ∈ [(Pc.put p s F' b').cells], v.length = 36) := fun v hv => by
                    obtain rfl := List.mem_singleton.1 hv
                    exact Pc.len hb'.out
                  have x1 : Hid (([(Pc.put p s F' b').cells].flatten).toArray = (Pc.put p s F' b').cells.toArray) := by show _ = _; rw [List.flatten_singleton]
                  obtain ⟨n0, hn0, nz0, nz1, nz2⟩ := info_partsN infoPc
                  have hOn : Hid ((wn.alloc (.cells (Pc.put p s F' b').cells.toArray 33)).ownsRow (w.heap.size + 1) 33 36 (.slice Al q cl) q (l.flatMap Pc.cells)) := own_keep hLn.out.ow (Kept.of_below (S := fun _ => False) (Below.heap_below _ _)) (fun _ _ x => x)
                  have hnP : Hid (Reads (wn.alloc (.cells (Pc.put p s F' b').cells.toArray 33)) 36 (some ⟨wn.heap.size, 0, none⟩) 1 (Pc.put p s F' b').cells) := Blk.reads (Blk.new wn _ _) 0 _ (by rw [Pc.len hb'.out]) (fun j u hu => by rw [Nat.zero_add, List.getElem?_toArray]; exact hu)
                  have hone : Hid (∀ v ∈ (Pc.put p s F' b').cells, v.oneCell' = true) := fun v hv => by
                    have h := pc_one (s := s) (F := F') (b := b') (E := .slice p.A p.n p.c) (P := .slice p.A2 p.m p.c2) rfl rfl
                    rw [List.all_toArray] at h
                    exact List.all_eq_true.1 h v hv
                  have hw1 : Hid (q + 1 ≤ maxLen) := by show _ ≤ _; unfold maxLen; have := hql.out; omega
                  have hw2 : Hid ((q + 1) * 104 ≤ 140737488355328) := by show _ ≤ _; have := hql.out; omega
                  have hw3 : Hid (w.heap.size + 1 ≤ (wn.alloc (.cells (Pc.put p s F' b').cells.toArray 33)).heap.size) := by
                    show _ ≤ _
                    have := hBn.out.lt
                    simp
                    omega
                  clear hdall zd2 hM hBm hbm hLm hmo cm0 fm0 cm1 fm1 hst s0
                  go_upto_region 17 with (first
                    | ((with_reducible change wpList _ _ _ ({ dst := some 99, op := _, type := _, pos := _, after := _, guard := _ } :: _) _ _); refine wpList_load_row (o := ⟨some 99, _, _, _, _, _⟩) rfl 33 (.tmp 18) rfl (mb) rfl 33 ((Pc.put p s F' b').cells.toArray) (0, 0) _ hM3.out Tryd.underlying33 rfl sQ.out ?_)
                    | ((with_reducible change wpList _ _ _ ({ dst := some 100, op := _, type := _, pos := _, after := _, guard := _ } :: _) _ _); refine wpList_buildAggs (o := ⟨some 100, _, _, _, _, _⟩) rfl 38 33 1 _ rfl 36 (by decide) [(Pc.put p s F' b').cells] Tryd.underlying38 size36 zeroPc rfl (by decide) (by decide) q1.out rfl ?_; rw [x1.out])
                    | ((with_reducible change wpList _ _ _ ({ dst := some 101, op := _, type := _, pos := _, after := _, guard := _ } :: _) _ _); refine wpList_append_src _ (o := ⟨some 101, _, _, _, _, _⟩) rfl (.tmp 98) (.tmp 100) 38 rfl (w.heap.size + 1) 33 n0 (.agg zP) 36 104 Tryd.underlying38 hn0 nz0 nz1 nz2 rfl (by decide) (.slice Al q cl) q (l.flatMap Pc.cells) rfl hOn.out (some ⟨wn.heap.size, 0, none⟩) 1 1 (Pc.put p s F' b').cells rfl hnP.out (fun e => by cases e) hone.out hw1.out hw2.out hw3.out ?_; intro v9 w9 hG; obtain ⟨A9, c9, rfl, hL9⟩ := Lr.push hLn.out (Below.heap_below _ _) hG hFn.out; replace hL9 := Lib.hid hL9; have hk9 := (Kept.of_below (S := fun k => some k = Value.ownBlock (.slice Al q cl)) (Below.heap_below wn (.cells (Pc.put p s F' b').cells.toArray 33))).trans (grew_kept hG) (fun _ _ x => x); have hb9 : Hid (Below w.heap.size w w9) := below_kept hbn.out hk9 (fun k _ e => by have := (hLn.out.ow.lt k e.symm).1; omega) hbn.out.size; have hB9 : Hid (Blk w9 w.heap.size 23 (cells8 b').toArray) := hBn.out.kept hk9 (fun e => by have := (hLn.out.ow.lt _ e.symm).1; omega); have hx17 := hXe2.out w9; clear hG hk9))
                  clear hn0 nz0 nz1 nz2 hM3 hOn hnP hone hw1 hw2 hw3 q1 x1 sQ hk3
                  obtain ⟨et, het⟩ : ∃ x, Hid ((es.drop lo).take r = x) := ⟨_, Lib.hid rfl⟩
                  have hel : Hid (et.length = r) := by show _ = _; rw [← het.out, List.length_take, List.length_drop]; have := hrl.out; have := hnl.out; have := hn.out; omega
                  have hpt : Hid (Pieces w eA et) := by show Pieces _ _ _; rw [← heA.out, ← het.out]; exact Law17e.Pieces.take_ (pieces_drop hp.out lo) r
                  have hst3 : Hid (∀ e ∈ et, e.length < 140737488355328) := fun e he => hsh.out e (by rw [← het.out] at he; exact List.mem_of_mem_drop (List.mem_of_mem_take he))
                  obtain ⟨wB, rfl⟩ : ∃ wB, wB = wr := ⟨_, rfl⟩
                  go_wp2_with fail
                  clear hx17 hXe2
                  go_loopw [109] (fun v wr => ∃ i : Nat, v = .int .i64 (i : Int) ∧ Hid (i ≤ r) ∧ Hid (Blk wr w.heap.size 23 (cells8 (Chain.chainOf wd b' (et.take i))).toArray) ∧ Hid (Kept (· = w.heap.size) w9 wr)) (fun v _ => r - (intOf v).toNat)
                  case atStart => exact ⟨0, rfl, Nat.zero_le _, hB9.out, Kept.refl _ _⟩
                  case round =>
                    obtain ⟨i, rfl, hi2, hB3, hk3'⟩ := hrel
                    have hb3 : Hid (Below w.heap.size w wr) := below_kept hb9.out hk3'.out (fun k _ (e : k = w.heap.size) => Nat.le_of_eq e.symm) hb9.out.size
                    obtain ⟨w3, rfl⟩ : ∃ w3, w3 = wr := ⟨_, rfl⟩
                    have hi6 : (i : Int) ≤ 1000000 := by have := hi2.out; have := hrl.out; have := hnl.out; omega
                    by_cases hlt3 : i < r
                    · have hz : (i : Int) < (r : Int) := by omega
                      have hz0 : (0 : Int) ≤ (i : Int) := by omega
                      obtain ⟨qq, hqi⟩ : ∃ q, Hid (et[i]? = some q) := ⟨_, List.getElem?_eq_getElem (by rw [hel.out]; exact hlt3)⟩
                      obtain ⟨bA, o, heA2, hbA, hcs⟩ := hpt.out (by have := hel.out; omega)
                      subst heA2
                      obtain ⟨Ai, ci, hc1, hc2, hc3, hc4⟩ := hcs i qq hqi.out
                      have hcell : w3.cell? ⟨bA, o + i, none⟩ = some (.slice Ai qq.length ci) := (hb3.out.cell (p := ⟨bA, o + i, none⟩) hbA).trans hc1
                      obtain ⟨x, hx⟩ : ∃ x, Hid (x = Chain.chainOf wd b' (et.take i)) := ⟨_, Lib.hid rfl⟩
                      have hxl : Hid (x.length = 32) := by show _ = _; rw [hx.out]; exact Chain.chainOf_len wd b' hb'.out _
                      have hstc := Lib.hid (Chain.chainOf_step wd b' et i qq hqi.out)
                      rw [← hx.out] at hB3 hstc
                      obtain ⟨y, hy⟩ : ∃ y, Hid (y = Chain.leafOf wd qq) := ⟨_, Lib.hid rfl⟩
                      obtain ⟨z, hz2⟩ : ∃ z, Hid (z = Chain.linkOf wd x y) := ⟨_, Lib.hid rfl⟩
                      have hyl : Hid (y.length = 32) := by show _ = _; rw [hy.out]; exact Chain.leafOf_len _ _
                      have hzl : Hid (z.length = 32) := by show _ = _; rw [hz2.out]; exact Chain.linkOf_len _ _ _
                      rw [← hy.out, ← hz2.out] at hstc
                      have hql := Lib.hid (hst3.out qq (List.mem_of_getElem? hqi.out))
                      have hrq : Hid (Reads w3 1 Ai qq.length (cells8 qq)) := hc3.below hb3.out
                      replace hc2 := Lib.hid hc2
                      replace hc4 := Lib.hid hc4
                      clear hcs hc1 hc3
                      obtain ⟨mm, hmm⟩ : ∃ m, Hid (qq.length = m) := ⟨_, Lib.hid rfl⟩
                      rw [hmm.out] at hcell hrq hc2 hc4 hql
                      have hsx : Hid ((Tryd.prog.info? 23).map (·.size) = some (cells8 x).toArray.size) := dig_size x hxl.out
                      go_upto_region 20 with fail
                      refine wp_region_class_tail 6 (Class w3) (by kernel_rfl) (by kernel_rfl) (Class.mk_ ((Below.refl _ _).drew)) ?_
                      refine wpQuiet_move rfl (.tmp 0) rfl ?_
                      (intro K hK; go_simp; refine hK _ ?_; clear hK K)
                      refine wpQuiet_load_row rfl 23 (.tmp 9) rfl w.heap.size rfl 23 ((cells8 x).toArray) (0, 0) _ (fun w' hw' => (hw'.below.block _ hB3.out.lt).trans hB3.out) Tryd.underlying23 rfl hsx.out ?_
                      (intro K hK; go_simp; refine hK _ ?_; clear hK K)
                      refine wpQuiet_move rfl (.tmp 0) rfl ?_
                      (intro K hK; go_simp; refine hK _ ?_; clear hK K)
                      refine wpQuiet_move rfl (.tmp 20) rfl ?_
                      (intro K hK; go_simp; refine hK _ ?_; clear hK K)
                      refine wpQuiet_fn (v := .agg (cells8 y).toArray) (args := #[.int .i64 wd, .slice Ai mm ci]) rfl _ _ rfl rfl Tryd.func21 (by kernel_rfl) (by kernel_rfl) (fun w' hw' => ((leaf_any qq mm hmm.out Ai ci wd w' (hBs.out.below (hb3.out.trans (hw'.below.mono hb3.out.size)) hBs.out.1) hql.out (hrq.out.below hw'.below) hc2.out hc4.out).mono fun e w1 ⟨he, hb1⟩ => ⟨by rw [he, hy.out]; rfl, hw'.next hb1⟩)) ?_
                      (intro K hK; go_simp; refine hK _ ?_; clear hK K)
                      refine wpQuiet_fn (v := .agg (cells8 z).toArray) (args := #[.int .i64 wd, .agg (cells8 x).toArray, .agg (cells8 y).toArray]) rfl _ _ rfl rfl Tryd.func20 (by kernel_rfl) (by kernel_rfl) (fun w' hw' => ((link_any x y hxl.out hyl.out wd w' (hBs.out.below (hb3.out.trans (hw'.below.mono hb3.out.size)) hBs.out.1)).mono fun e w1 ⟨he, hb1⟩ => ⟨by rw [he, hz2.out]; rfl, hw'.next hb1⟩)) ?_
                      (intro K hK; go_simp; refine hK _ ?_; clear hK K)
                      refine wpQuiet_nil ?_
                      intro w4 hw4
                      have hB4 := Lib.hid ((hw4.below.block _ hB3.out.lt).trans hB3.out)
                      have hk4 := Lib.hid (hk3'.out.trans (Kept.of_below (S := (· = w.heap.size)) hw4.below) (fun _ _ h => h))
                      have hb4 := Lib.hid (hb3.out.trans (hw4.below.mono hb3.out.size))
                      clear hw4
                      simp only [List.drop]
                      have hs2 : Hid ((Tryd.prog.info? 23).map (·.size) = some (cells8 z).toArray.size) := dig_size z hzl.out
                      have hs3 : Hid ((cells8 x).toArray.size = (cells8 z).toArray.size) := by show _ = _; simp [cells8_len, hxl.out, hzl.out]
                      have hs4 := Lib.hid (dig_one z)
                      have hi3 : Hid (i + 1 ≤ r) := hlt3
                      clear hlt3
                      go_wp2_with ((with_reducible change wpList _ _ _ ({ dst := none, op := Op.store 23 _ _, type := _, pos := _, after := _, guard := _ } :: _) _ _); refine wpList_store_row (o := ⟨none, _, _, _, _, _⟩) rfl 23 (.tmp 9) (.tmp 118) rfl (w.heap.size) ((cells8 z).toArray) rfl rfl 23 ((cells8 x).toArray) hB4.out hs2.out hs3.out hs4.out ?_)
                      go_roundw
                      case rel => exact ⟨i + 1, by go_num, hi3.out, (show Blk _ _ _ _ by rw [hstc.out]; exact setRow_heap _ _ _ _ _ _ hB4.out), Bytes.Kept.setRow (S := (· = w.heap.size)) hk4.out rfl _⟩
                      case measure => (have := hi3.out; simp [intOf]; omega)
                    · obtain rfl : i = r := by have := hi2.out; omega
                      have hT : Hid (et.take i = et) := List.take_of_length_le (by have := hel.out; omega)
                      have hz : (i : Int) ≤ (i : Int) := by omega
                      rw [hT.out] at hB3
                      have hsm : Hid (F' + (i : Nat) ≤ 1099511627776) := reach_small (by rw [hsz.out, hits.out]; exact hr.out) y6
                      have hpos := Lib.hid (beg_pos hbg.out)
                      have z10 : IntKind.i64.wrap (F' + (i : Int)) = F' + (i : Int) := IntWalk.i64_in _ (by have := hsm.out; have := hpos.out; omega)
                      have hLz : Hid (Lr w w3 (q + 1) A9 c9 (l ++ [Pc.put p s F' b'])) := hL9.out.kept (hk3'.out.mono (fun k _ (e : k = w.heap.size) => by omega))
                      have hSz : Hid (SaysR s es ps (l ++ [Pc.put p s F' b']) (ks ++ [⟨F', b', lo, i⟩])) := hSa.out.push (CutOk.says hCO.out s F' b')
                      have hIz : Hid (Inv sz (54 + s.size) (Chain.chainOf wd) es its W (ks ++ [⟨F', b', lo, i⟩]) (F' + (i : Int)) (Chain.chainOf wd b' et) hi_) := by
                        have h := hInv.out.step (by have := hn.out; have := hlt'.out; omega) hr.out y6
                        rw [het.out, hhi.out] at h
                        exact h
                      have hbz : Hid (begB s.data.toList (F' + (i : Int)) (Chain.chainOf wd b' et) = true) := beg_next hbg.out y6
                      have hcz : Hid ((Chain.chainOf wd b' et).length = 32) := Chain.chainOf_len wd b' hb'.out _
                      have hhz : Hid (hi_ ≤ n) := by show _ ≤ _; have := hrl.out; have := hnl.out; have := hhi.out; have := hlt'.out; omega
                      have hqz : Hid (q + 1 ≤ hi_) := by show _ ≤ _; have := hql.out; have := hhi.out; omega
                      have hlz : Hid (lo < hi_) := by show _ < _; have := hhi.out; omega
                      clear hlt3 hsm hpos
                      go_wp2_with fail
                      go_roundw
                      case rel => exact ⟨F' + (i : Int), Chain.chainOf wd b' et, hi_, q + 1, c9, A9, _, _, by go_num, by go_num, by go_num, hIz.out, hbz.out, hcz.out, hhz.out, hqz.out, hSz.out, hLz.out, hB3.out, hb3.out⟩
                      case measure => (have := hlz.out; have := hhz.out; simp [intOf]; omega)
            · have hlo2 : lo = n := by have := hlo.out; omega
              subst hlo2
              have y4 : ¬ ((lo : Int) < (lo : Int)) := by omega
              have hWs : Hid (W = some ks) := hInv.out.done (by have := hn.out; omega)
              have hlq : Hid (l.length = q) := hL.out.len hSa.out
              clear hlt
              go_wp2_with fail
              go_ret2
              exact ⟨Al, cl, l, 0, by rw [hlq.out]; rfl, .inl ⟨ks, hWs.out, hSa.out, rfl⟩, hL.out.firm hlq.out, hbe.out⟩
  · have y1 : ((n : Int) == (m : Int)) = false := by simp; omega
    have y2 : ¬ ((n : Int) = (m : Int)) := by omega
    have hno : Hid (W = none) := by
      show _ = _
      rw [← hW.out]
      unfold cutsW
      rw [if_neg (fun h => by have := h.1; have := hn.out; have := hm.out; omega)]
    go_wp2_with fail
    go_ret2
    exact cpost_no hno.out rfl hb0.out
end Go.Proofs.YthkdlaohaekilaaDoor.PiecesW
