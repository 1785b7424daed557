/-
  Texts of the claim, put into one file: PiecesW, PiecesO, JoinM, JoinQ.
-/
import Derived.Test.YtgldkfaiofkhbaaDoorZ30
import Derived.Test.YtgldkfaiofkhbaaDoorZ31
import Derived.Test.YtgldkfaiofkhbaaDoorZ17
import Derived.Test.YtgldkfaiofkhbaaDoorZ3

namespace Go.Proofs.YtgldkfaiofkhbaaDoor.PiecesW
open Go Go.RowKit Go.Proofs.YtgldkfaiofkhbaaDoor Go.Proofs.YtgldkfaiofkhbaaDoor.HeadMem Go.Proofs.YtgldkfaiofkhbaaDoor.Mem Go.Proofs.YtgldkfaiofkhbaaDoor.Sha Go.Proofs.YtgldkfaiofkhbaaDoor.Bytes Go.Proofs.YtgldkfaiofkhbaaDoor.HashMem Go.Proofs.YtgldkfaiofkhbaaDoor.DigestMem Go.Proofs.YtgldkfaiofkhbaaDoor.Digest Go.Proofs.YtgldkfaiofkhbaaDoor.DigestTop Go.Proofs.YtgldkfaiofkhbaaDoor.Chain Go.Proofs.YtgldkfaiofkhbaaDoor.Append Go.Proofs.YtgldkfaiofkhbaaDoor.TreeMem Go.Proofs.YtgldkfaiofkhbaaDoor.Held Go.Proofs.YtgldkfaiofkhbaaDoor.Own Go.Proofs.YtgldkfaiofkhbaaDoor.QuietTail Go.Proofs.YtgldkfaiofkhbaaDoor.Grown Go.Proofs.YtgldkfaiofkhbaaDoor.Guard Go.Proofs.YtgldkfaiofkhbaaDoor.Guard2 Go.Proofs.YtgldkfaiofkhbaaDoor.Want Go.Proofs.YtgldkfaiofkhbaaDoor.Plain Go.Proofs.YtgldkfaiofkhbaaDoor.ProofIdx Go.Proofs.YtgldkfaiofkhbaaDoor.Book Go.Proofs.YtgldkfaiofkhbaaDoor.PieceP Go.Proofs.YtgldkfaiofkhbaaDoor.PieceRow Go.Proofs.YtgldkfaiofkhbaaDoor.PieceBegins Go.Proofs.YtgldkfaiofkhbaaDoor.Prs Go.Proofs.YtgldkfaiofkhbaaDoor.Reach Go.Proofs.YtgldkfaiofkhbaaDoor.Reach2 Go.Proofs.YtgldkfaiofkhbaaDoor.PieceLay Go.Proofs.YtgldkfaiofkhbaaDoor.PieceMem Go.Proofs.YtgldkfaiofkhbaaDoor.PieceMem2 Go.Proofs.YtgldkfaiofkhbaaDoor.SamePiece Go.Proofs.YtgldkfaiofkhbaaDoor.Pcs Go.Proofs.YtgldkfaiofkhbaaDoor.CutP Go.Proofs.YtgldkfaiofkhbaaDoor.CutM Go.Proofs.YtgldkfaiofkhbaaDoor.CutQ Go.Proofs.YtgldkfaiofkhbaaDoor.CutW

/-- What both functions answer. -/
def cutsW (wd : Int) (s : ByteArray) (F : Int) (b : Text) (es : List Text) (ps : List Pr) : Option (List Cut) :=
  if es.length = ps.length ∧ begB s.data.toList F b = true ∧ rises (firstSize ps) none (itemsOf es ps) = true then cuts (firstSize ps) (54 + s.size) (Chain.chainOf wd) es (itemsOf es ps) es.length F b 0 else none
/-- The row of pieces cut off so far. -/
structure Lr (w0 W : World) (q : Nat) (Al : Option Addr) (cl : Nat) (l : List Pc) : Prop where
  ow : W.ownsRow (w0.heap.size + 1) 83 36 (.slice Al q cl) q (l.flatMap Pc.cells)
  fi : ∀ p ∈ l, Firm W (w0.heap.size + 1) p
/-- A piece as proof.cut answers it. -/
structure CutOk (W : World) (B : Nat) (es : List Text) (ps : List Pr) (r : Nat) (p : Pc) : Prop where
  s : p.s = ByteArray.empty
  F : p.F = 0
  b : p.b = List.replicate 32 0
  es : p.es = es
  ps : SamePiece.Alike p.ps ps
  n : p.n = r
  m : p.m = r
  fm : Firm W B p
theorem CutOk.below {W W' : World} {B r : Nat} {es : List Text} {ps : List Pr} {p : Pc} (h : CutOk W B es ps r p) (hb : Below W.heap.size W W') : CutOk W' B es ps r p := ⟨h.s, h.F, h.b, h.es, h.ps, h.n, h.m, h.fm.below hb⟩
theorem CutOk.keptN {W W' : World} {B r m : Nat} {cs : Array Value} {es : List Text} {ps : List Pr} {p : Pc} (h : CutOk W B es ps r p) (bb : Blk W m 83 cs) (hk : Kept (· = m) W W') : CutOk W' B es ps r p := ⟨h.s, h.F, h.b, h.es, h.ps, h.n, h.m, h.fm.kept (hk.mono (fun k _ (e : k = m) => .inr ⟨cs, by rw [e]; exact bb⟩))⟩
structure FitP (cs : Array Value) : Prop where
  size : (Tryd.prog.info? 83).map (·.size) = some cs.size
  zero : zP.size = cs.size
  one : (cs.all fun v => v.oneCell') = true
theorem CutOk.fit {W : World} {B r : Nat} {es : List Text} {ps : List Pr} {p : Pc} (h : CutOk W B es ps r p) : FitP p.cells.toArray := by
  have hb : p.b.length = 32 := h.fm.ok.hb
  exact ⟨pc_info hb, (pc_size hb).symm, pc_one rfl rfl⟩
theorem flat36 : ∀ l : List Pc, (∀ p ∈ l, p.b.length = 32) → (l.flatMap Pc.cells).length = l.length * 36
  | [], _ => rfl
  | p :: l, h => by
    rw [List.flatMap_cons, List.length_append, Pc.len (h p (by simp)), flat36 l (fun p hp => h p (by simp [hp])), List.length_cons]
    omega
theorem Lr.len {w0 W : World} {q cl : Nat} {Al : Option Addr} {l : List Pc} {s : ByteArray} {es : List Text} {ps : List Pr} {ks : List Cut} (h : Lr w0 W q Al cl l) (_ : SaysR s es ps l ks) : l.length = q := by
  have h1 := h.ow.1
  rw [flat36 l (fun p hp => (h.fi p hp).ok.hb)] at h1
  omega
theorem Lr.kept {w0 W W' : World} {q cl : Nat} {Al : Option Addr} {l : List Pc} (h : Lr w0 W q Al cl l) (hk : Kept (· < w0.heap.size + 1) W W') : Lr w0 W' q Al cl l :=
  ⟨own_keep h.ow hk (fun k e (s : k < w0.heap.size + 1) => by have := (h.ow.lt k e).1; omega), fun p hp => (h.fi p hp).kept (hk.mono (fun _ _ s => .inl s))⟩
/-- The piece with its three first fields set. -/
def Pc.put (p : Pc) (s : ByteArray) (F : Int) (b : Text) : Pc := { p with s := s, F := F, b := b }
theorem CutOk.put {W W' : World} {B r m : Nat} {es : List Text} {ps : List Pr} {p : Pc} {cs : Array Value} (h : CutOk W B es ps r p) (s : ByteArray) (F : Int) (b : Text) (hb : b.length = 32) (bb : Blk W m 83 cs) (hk : Kept (· = m) W W') : Firm W' B (Pc.put p s F b) := fun w' h2 => by
  have ok := (h.keptN bb hk).fm w' h2
  exact ⟨hb, ok.he, ok.hp, ok.e, ok.p⟩
theorem CutOk.says {W : World} {B r lo : Nat} {es : List Text} {ps : List Pr} {p : Pc} (h : CutOk W B ((es.drop lo).take r) ((ps.drop lo).take r) r p) (s : ByteArray) (F : Int) (b : Text) : Says s es ps (Pc.put p s F b) ⟨F, b, lo, r⟩ := ⟨rfl, rfl, rfl, h.es, h.ps⟩
theorem Lr.keptM {w0 W W' : World} {q cl m : Nat} {Al : Option Addr} {l : List Pc} {cs : Array Value} (h : Lr w0 W q Al cl l) (bb : Blk W m 83 cs) (hk : Kept (· = m) W W') (hm : ∀ k, Value.ownBlock (.slice Al q cl) = some k → k < m) : Lr w0 W' q Al cl l :=
  ⟨own_keep h.ow hk (fun k e (s : k = m) => by have := hm k e; omega), fun p hp => (h.fi p hp).kept (hk.mono (fun k _ (e : k = m) => .inr ⟨cs, by rw [e]; exact bb⟩))⟩
theorem own_px {W : World} {B q : Nat} {v : Value} {xs : List Value} (h : W.ownsRow B 83 36 v q xs) (B' k : Nat) (e : some k = v.ownBlock) : PX W B' k := by
  rcases h.2 with ⟨rfl, -⟩ | ⟨g, cap, cur, rfl, -, h3, -⟩
  · cases e
  · obtain rfl : k = g := Option.some.inj e
    exact .inr ⟨cur, h3⟩
theorem Lr.push {w0 W W1 W2 : World} {q cl : Nat} {Al : Option Addr} {l : List Pc} {p : Pc} {v' : Value} (h : Lr w0 W q Al cl l) (hb : Below W.heap.size W W1) (hG : Grew W1 (w0.heap.size + 1) 83 36 (.slice Al q cl) q 1 (l.flatMap Pc.cells) p.cells v' W2) (hp : Firm W (w0.heap.size + 1) p) :
    ∃ A' c', v' = .slice A' (q + 1) c' ∧ Lr w0 W2 (q + 1) A' c' (l ++ [p]) := by
  obtain ⟨A', c', e, -⟩ := Append.Own.reads hG.own
  have h1 : W1.ownsRow (w0.heap.size + 1) 83 36 (.slice Al q cl) q (l.flatMap Pc.cells) := own_keep h.ow (Kept.of_below (S := fun _ => False) hb) (fun _ _ x => x)
  have hk : Kept (PX W1 (w0.heap.size + 1)) W1 W2 := (grew_kept hG).mono (fun k _ s => own_px h1 _ k s)
  refine ⟨A', c', e, ?_, fun x hx => ?_⟩
  · rw [← e, List.flatMap_append, List.flatMap_singleton]
    exact hG.own
  · rcases List.mem_append.1 hx with hx | hx
    · exact ((h.fi x hx).below hb).kept hk
    · obtain rfl : x = p := by simpa using hx
      exact (hp.below hb).kept hk
theorem infoPc : (Tryd.prog.info? 83).map (fun i => (i.zero, i.size, i.bytes)) = some (some (.agg zP), 36, 104) := by kernel_rfl
theorem zeroPc : ((Tryd.prog.info? 83).bind (·.zero)).isSome = true := by kernel_rfl
/-- The three stores into a piece. -/
theorem three {w : World} {m : Nat} {s0 s : ByteArray} {F0 F : Int} {b0 : Text} {E P : Value} (h : Blk w m 83 (pieceCells s0 F0 b0 E P).toArray) :
    Blk (((w.setCell ⟨m, 0, none⟩ (.string s)).setCell ⟨m, 1, none⟩ (.int .i64 F)).drew) m 83 (pieceCells s F b0 E P).toArray ∧ Kept (· = m) w (((w.setCell ⟨m, 0, none⟩ (.string s)).setCell ⟨m, 1, none⟩ (.int .i64 F)).drew) := by
  refine ⟨?_, (((Kept.refl (· = m) w).setCell (.inl rfl) _).setCell (.inl rfl) _).drew⟩
  have h2 := (h.set_ 0 (.string s)).set_ 1 (.int .i64 F)
  rw [pc_set0, pc_set1] at h2
  exact h2
end Go.Proofs.YtgldkfaiofkhbaaDoor.PiecesW

namespace Go.Proofs.YtgldkfaiofkhbaaDoor.PiecesO
open Go Go.RowKit Go.Proofs.YtgldkfaiofkhbaaDoor Go.Proofs.YtgldkfaiofkhbaaDoor.HeadMem Go.Proofs.YtgldkfaiofkhbaaDoor.Mem Go.Proofs.YtgldkfaiofkhbaaDoor.Sha Go.Proofs.YtgldkfaiofkhbaaDoor.Bytes Go.Proofs.YtgldkfaiofkhbaaDoor.HashMem Go.Proofs.YtgldkfaiofkhbaaDoor.DigestMem Go.Proofs.YtgldkfaiofkhbaaDoor.Digest Go.Proofs.YtgldkfaiofkhbaaDoor.DigestTop Go.Proofs.YtgldkfaiofkhbaaDoor.Chain Go.Proofs.YtgldkfaiofkhbaaDoor.Append Go.Proofs.YtgldkfaiofkhbaaDoor.TreeMem Go.Proofs.YtgldkfaiofkhbaaDoor.Held Go.Proofs.YtgldkfaiofkhbaaDoor.Own Go.Proofs.YtgldkfaiofkhbaaDoor.QuietTail Go.Proofs.YtgldkfaiofkhbaaDoor.Grown Go.Proofs.YtgldkfaiofkhbaaDoor.Guard Go.Proofs.YtgldkfaiofkhbaaDoor.Guard2 Go.Proofs.YtgldkfaiofkhbaaDoor.Want Go.Proofs.YtgldkfaiofkhbaaDoor.Plain Go.Proofs.YtgldkfaiofkhbaaDoor.ProofIdx Go.Proofs.YtgldkfaiofkhbaaDoor.Book Go.Proofs.YtgldkfaiofkhbaaDoor.PieceP Go.Proofs.YtgldkfaiofkhbaaDoor.PieceRow Go.Proofs.YtgldkfaiofkhbaaDoor.PieceBegins Go.Proofs.YtgldkfaiofkhbaaDoor.Prs Go.Proofs.YtgldkfaiofkhbaaDoor.Reach Go.Proofs.YtgldkfaiofkhbaaDoor.Reach2 Go.Proofs.YtgldkfaiofkhbaaDoor.PieceLay Go.Proofs.YtgldkfaiofkhbaaDoor.PieceMem Go.Proofs.YtgldkfaiofkhbaaDoor.PieceMem2 Go.Proofs.YtgldkfaiofkhbaaDoor.SamePiece Go.Proofs.YtgldkfaiofkhbaaDoor.Pcs Go.Proofs.YtgldkfaiofkhbaaDoor.CutP Go.Proofs.YtgldkfaiofkhbaaDoor.CutM Go.Proofs.YtgldkfaiofkhbaaDoor.CutQ Go.Proofs.YtgldkfaiofkhbaaDoor.PiecesW Go.Proofs.YtgldkfaiofkhbaaDoor.CutO Go.Proofs.YtgldkfaiofkhbaaDoor.CutWO

/-- The row of pieces cut off so far. -/
structure LrO (w0 W : World) (q : Nat) (Al : Option Addr) (cl : Nat) (l : List Pc) : Prop where
  ow : W.ownsRow (w0.heap.size + 1) 83 36 (.slice Al q cl) q (l.flatMap Pc.cells)
  fi : ∃ f, Lad W (w0.heap.size + 1) 0 l f
def CPostO (w : World) (s : ByteArray) (es : List Text) (ps : List Pr) (W : Option (List Cut)) (e : Ending) (w' : World) : Prop :=
  ∃ (A : Option Addr) (c : Nat) (l : List Pc) (err : Int), e = .returned (.tuple #[.slice A l.length c, .int .i64 err]) ∧ ((∃ ks, W = some ks ∧ SaysR s es ps l ks ∧ err = 0) ∨ (W = none ∧ l = [] ∧ err = 170)) ∧ LrO w w' l.length A c l ∧ Below w.heap.size w w'
/-- A piece as proof.cut answers it. -/
structure CutOO (W : World) (B : Nat) (es : List Text) (ps : List Pr) (r : Nat) (p : Pc) : Prop where
  s : p.s = ByteArray.empty
  F : p.F = 0
  b : p.b = List.replicate 32 0
  es : p.es = es
  ps : SamePiece.Alike p.ps ps
  n : p.n = r
  m : p.m = r
  fm : PcO W B p
section
variable {w0 W W' W1 W2 : World} {B r m q cl Bq : Nat} {cs : Array Value} {s : ByteArray} {es : List Text} {ps : List Pr} {p : Pc} {l : List Pc} {ks : List Cut} {Al : Option Addr} {v' : Value}
theorem CutOO.below (h : CutOO W B es ps r p) (hb : Below W.heap.size W W') : CutOO W' B es ps r p := ⟨h.s, h.F, h.b, h.es, h.ps, h.n, h.m, h.fm.below hb⟩
theorem CutOO.keptN (h : CutOO W B es ps r p) (bb : Blk W m 83 cs) (hk : Kept (· = m) W W') : CutOO W' B es ps r p := ⟨h.s, h.F, h.b, h.es, h.ps, h.n, h.m, h.fm.kept (hk.mono (fun k _ (e : k = m) => .inr ⟨cs, by rw [e]; exact bb⟩))⟩
theorem CutOO.fit (h : CutOO W B es ps r p) : FitP p.cells.toArray := by
  have hb : p.b.length = 32 := h.fm.hb
  exact ⟨pc_info hb, (pc_size hb).symm, pc_one rfl rfl⟩
theorem CutOO.put (h : CutOO W B es ps r p) (s : ByteArray) (F : Int) (b : Text) (hb : b.length = 32) (bb : Blk W m 83 cs) (hk : Kept (· = m) W W') : PcO W' B (Pc.put p s F b) := by
  have ok := (h.keptN bb hk).fm
  exact ⟨hb, ok.oe, ok.op, ok.ow⟩
theorem CutOO.says {lo : Nat} (h : CutOO W B ((es.drop lo).take r) ((ps.drop lo).take r) r p) (s : ByteArray) (F : Int) (b : Text) : Says s es ps (Pc.put p s F b) ⟨F, b, lo, r⟩ := ⟨rfl, rfl, rfl, h.es, h.ps⟩
theorem LrO.hb (h : LrO w0 W q Al cl l) : ∀ p ∈ l, p.b.length = 32 := by
  obtain ⟨f, hf⟩ := h.fi
  exact fun p hp => (hf.ok p hp).hb
theorem LrO.len (h : LrO w0 W q Al cl l) (_ : SaysR s es ps l ks) : l.length = q := by
  have h1 := h.ow.1
  rw [flat36 l h.hb] at h1
  omega
theorem LrO.kept (h : LrO w0 W q Al cl l) (hk : Kept (· < w0.heap.size + 1) W W') : LrO w0 W' q Al cl l := by
  obtain ⟨f, hf⟩ := h.fi
  exact ⟨own_keep h.ow hk (fun k e (s : k < w0.heap.size + 1) => by have := (h.ow.lt k e).1; omega), f, hf.kept (hk.mono (fun _ _ s => .inl s))⟩
theorem LrO.keptM (h : LrO w0 W q Al cl l) (bb : Blk W m 83 cs) (hk : Kept (· = m) W W') (hm : ∀ k, Value.ownBlock (.slice Al q cl) = some k → k < m) : LrO w0 W' q Al cl l := by
  obtain ⟨f, hf⟩ := h.fi
  exact ⟨own_keep h.ow hk (fun k e (s : k = m) => by have := hm k e; omega), f, hf.kept (hk.mono (fun k _ (e : k = m) => .inr ⟨cs, by rw [e]; exact bb⟩))⟩
theorem LrO.push (h : LrO w0 W q Al cl l) (hb : Below W.heap.size W W1) (hG : Grew W1 (w0.heap.size + 1) 83 36 (.slice Al q cl) q 1 (l.flatMap Pc.cells) p.cells v' W2) (hp : PcO W Bq p) (hB : w0.heap.size + 1 ≤ Bq) (hu : ∀ (k : Nat) (p : Pc), l[k]? = some p → CutO.under p Bq) :
    ∃ A' c', v' = .slice A' (q + 1) c' ∧ LrO w0 W2 (q + 1) A' c' (l ++ [p]) := by
  obtain ⟨A', c', e, -⟩ := Append.Own.reads hG.own
  have h1 : W1.ownsRow (w0.heap.size + 1) 83 36 (.slice Al q cl) q (l.flatMap Pc.cells) := own_keep h.ow (Kept.of_below (S := fun _ => False) hb) (fun _ _ x => x)
  have hk : ∀ B, Kept (PX W1 B) W1 W2 := fun B => (grew_kept hG).mono (fun k _ s => own_px h1 _ k s)
  obtain ⟨f, hf⟩ := h.fi
  refine ⟨A', c', e, ?_, ((hf.below hb).kept (hk _)).push hu hB ((hp.below hb).kept (hk _))⟩
  rw [← e, List.flatMap_append, List.flatMap_singleton]
  exact hG.own
theorem LrO.under (h : LrO w0 W q Al cl l) : ∀ (k : Nat) (p : Pc), l[k]? = some p → CutO.under p W.heap.size := by
  obtain ⟨f, hf⟩ := h.fi
  exact hf.under
theorem cpostO_no {w w' : World} {W : Option (List Cut)} {e : Ending} (h : W = none) (he : e = .returned (.tuple #[.slice none 0 0, .int .i64 170])) (hb : Below w.heap.size w w') : CPostO w s es ps W e w' :=
  ⟨none, 0, [], 170, he, .inr ⟨h, rfl, rfl⟩, ⟨World.ownsRow_nil _ _ _ _, _, Lad.nil_ _ _ _⟩, hb⟩
end
set_option maxRecDepth 100000 in
set_option maxHeartbeats 8000000 in
theorem piecesO_any (wd : Int) (s : ByteArray) (hs : s.size ≤ 140737488355328) (F : Int) (b : Text) (hb : b.length = 32) (es : List Text) (n : Nat) (hn : es.length = n) (hn6 : n ≤ 1000000) (hsh : ∀ e ∈ es, e.length < 140737488355328) (ps : List Pr) (m : Nat) (hm : ps.length = m) (hm6 : m ≤ 1000000) (hnn : ∀ p ∈ ps, p.n < 140737488355328) (hnil : ∀ p ∈ ps, p.A = none → p.n = 0 ∧ p.c = 0) (A A2 : Option Addr) (c c2 : Nat) (hnc : n ≤ c) (hmc : m ≤ c2) (w : World) (hBs : Base w) (hp : Pieces w A es) (hq : Prs w A2 ps) :
    Calls Tryd.prog 34 #[.int .i64 wd, .string s, .int .i64 F, .agg (cells8 b).toArray, .slice A n c, .slice A2 m c2] w (CPostO w s es ps (cutsW wd s F b es ps)) := by
  obtain ⟨W, hW⟩ : ∃ W, Hid (cutsW wd s F b es ps = W) := ⟨_, Lib.hid rfl⟩
  rw [hW.out]
  have hB0 : Hid (Blk (w.alloc (.cells (cells8 b).toArray 23)) w.heap.size 23 (cells8 b).toArray) := Blk.new w _ _
  have hb0 : Hid (Below w.heap.size w (w.alloc (.cells (cells8 b).toArray 23))) := Below.heap_below w _
  have sD := Lib.hid (dig_size b hb)
  replace hn := Lib.hid hn
  replace hm := Lib.hid hm
  replace hp := Lib.hid hp
  replace hq := Lib.hid hq
  replace hsh := Lib.hid hsh
  replace hnn := Lib.hid hnn
  replace hnil := Lib.hid hnil
  replace hBs := Lib.hid hBs
  replace hb := Lib.hid hb
  replace hs := Lib.hid hs
  obtain ⟨fb, hfb⟩ : ∃ x, Hid (begB s.data.toList F b = x) := ⟨_, Lib.hid rfl⟩
  have hbeg := Lib.hid (fun w' => begins_any s hs.out F b hb.out w')
  rw [hfb.out] at hbeg
  go_enter Tryd.func34, Tryd.ntmps34
  by_cases hnm : n = m
  · subst hnm
    have y1 : ((n : Int) == (n : Int)) = true := by simp
    cases fb with
    | false =>
      have hno : Hid (W = none) := by
        show _ = _
        rw [← hW.out]
        unfold cutsW
        rw [if_neg (fun h => by have := h.2.1; rw [hfb.out] at this; cases this)]
      clear hfb
      go_wp2_with (first
        | ((with_reducible change wpList _ _ _ ({ dst := some 29, op := _, type := _, pos := _, after := _, guard := _ } :: _) _ _); (with_reducible refine Veil.out ?_); refine wpList_rowW (o := ⟨some 29, _, _, _, _, _⟩) rfl 23 (.tmp 9) rfl (w.heap.size) rfl 23 ((cells8 b).toArray) (0, 0) _ hB0.out Tryd.underlying23 rfl sD.out ?_)
        | (go_at_call 82; refine (hbeg.out _).mono ?_; rintro e w1 ⟨rfl, hx1⟩; have hb1 : Hid (Below w.heap.size w w1) := hb0.out.trans (hx1.mono hb0.out.size); have hB1 : Hid (Blk w1 w.heap.size 23 (cells8 b).toArray) := (hx1.block _ hB0.out.lt).trans hB0.out; clear hx1 hbeg hB0 hb0))
      go_ret2
      exact cpostO_no hno.out rfl hb1.out
    | true =>
      go_wp2_with (first
        | ((with_reducible change wpList _ _ _ ({ dst := some 29, op := _, type := _, pos := _, after := _, guard := _ } :: _) _ _); (with_reducible refine Veil.out ?_); refine wpList_rowW (o := ⟨some 29, _, _, _, _, _⟩) rfl 23 (.tmp 9) rfl (w.heap.size) rfl 23 ((cells8 b).toArray) (0, 0) _ hB0.out Tryd.underlying23 rfl sD.out ?_)
        | (go_at_call 82; refine (hbeg.out _).mono ?_; rintro e w1 ⟨rfl, hx1⟩; have hb1 : Hid (Below w.heap.size w w1) := hb0.out.trans (hx1.mono hb0.out.size); have hB1 : Hid (Blk w1 w.heap.size 23 (cells8 b).toArray) := (hx1.block _ hB0.out.lt).trans hB0.out; clear hx1 hbeg hB0 hb0))
      clear sD y1
      obtain ⟨its, hits⟩ : ∃ x, Hid (itemsOf es ps = x) := ⟨_, Lib.hid rfl⟩
      obtain ⟨sz, hsz⟩ : ∃ x, Hid (firstSize ps = x) := ⟨_, Lib.hid rfl⟩
      have hil : Hid (its.length = n) := by show _ = _; rw [← hits.out, CutQ.items_len (by rw [hn.out, hm.out]), hn.out]
      have hno : Hid (rises sz none its = false → W = none) := fun h => by
        rw [← hW.out]
        unfold cutsW
        rw [if_neg (fun hh => by have := hh.2.2; rw [hsz.out, hits.out, h] at this; cases this)]
      have hit : Hid (∀ (i : Nat) (x : Pr), ps[i]? = some x → ∃ y : PieceP.Item, its[i]? = some y ∧ y.size = x.x ∧ y.num = x.y) := fun i x hx => by
        have hi := (List.getElem?_eq_some_iff.1 hx).1
        have he : es[i]? = some (es[i]'(by have := hn.out; have := hm.out; omega)) := List.getElem?_eq_getElem _
        exact ⟨_, by rw [← hits.out]; exact CutQ.items_at he hx, rfl, rfl⟩
      have hr1 : Hid (rises sz none its = rises sz (if 1 = 0 then none else (ps[1 - 1]?).map (·.y)) (its.drop 1)) := by
        show _ = _
        rw [if_neg (by omega)]
        cases hps : ps with
        | nil =>
          have : its = [] := List.eq_nil_of_length_eq_zero (by have := hil.out; have := hm.out; rw [hps] at this; simp at this; omega)
          rw [this]
          rfl
        | cons x l =>
          obtain ⟨y, hy1, hy2, hy3⟩ := hit.out 0 x (by rw [hps]; rfl)
          have := rises_step sz none hy1
          rw [List.drop_zero] at this
          rw [this, hy2, ← hsz.out, hps]
          simp [firstSize, PieceP.low, hy3]
      go_loopw [14] (fun v wr => ∃ i : Nat, v = .int .i64 (i : Int) ∧ Hid (1 ≤ i) ∧ Hid (i ≤ n + 1) ∧ Hid (rises sz none its = rises sz (if i = 0 then none else (ps[i - 1]?).map (·.y)) (its.drop i)) ∧ Hid (Below w.heap.size w wr) ∧ Hid (Blk wr w.heap.size 23 (cells8 b).toArray)) (fun v _ => n + 1 - (intOf v).toNat)
      case atStart => exact ⟨1, rfl, Nat.le_refl _, Nat.le_add_left _ _, hr1.out, hb1.out, hB1.out⟩
      case round =>
        clear hr1 hb1 hB1
        obtain ⟨i, rfl, hi1, hin, hri, hbw, hBw⟩ := hrel
        have hi6 : (i : Int) ≤ 1000001 := by have := hin.out; omega
        by_cases hlt : i < n
        · have y3 : ((i : Int) < (n : Int)) := by omega
          have z0 : (0 : Int) ≤ (i : Int) := by omega
          have z1 : (0 : Int) < (n : Int) := by omega
          have z2 : ¬ n = 0 := by omega
          obtain ⟨x, hxi⟩ : ∃ x, Hid (ps[i]? = some x) := ⟨_, List.getElem?_eq_getElem (by have := hm.out; omega)⟩
          obtain ⟨kp, hkp⟩ : ∃ kp, Hid (i - 1 = kp) := ⟨_, Lib.hid rfl⟩
          obtain ⟨z, hzi⟩ : ∃ z, Hid (ps[kp]? = some z) := ⟨_, List.getElem?_eq_getElem (by have := hm.out; have := hkp.out; omega)⟩
          obtain ⟨f, hfi⟩ : ∃ f, Hid (ps[0]? = some f) := ⟨ps[0]'(by have := hm.out; omega), List.getElem?_eq_getElem _⟩
          obtain ⟨y, hy1, hy2, hy3⟩ := hit.out i x hxi.out
          have hfz : f.x = sz := by
            have h := hfi.out
            rw [← hsz.out]
            cases hps : ps with
            | nil => rw [hps] at h; cases h
            | cons a l => rw [hps] at h; obtain rfl := Option.some.inj h; rfl
          have hst := rises_step sz (some z.y) hy1
          rw [hy2, hy3] at hst
          have hpv : (if i = 0 then none else (ps[i - 1]?).map (·.y)) = some z.y := by rw [if_neg (by have := hi1.out; omega), hkp.out, hzi.out]; rfl
          have hri2 : Hid (rises sz none its = (decide (x.x = f.x) && (!decide (x.y ≤ z.y) && rises sz (some x.y) (its.drop (i + 1))))) := by
            have h := hri.out
            rw [hpv, hst] at h
            rw [hfz]
            exact h
          have hnx : Hid ((if i + 1 = 0 then none else (ps[i + 1 - 1]?).map (·.y)) = some x.y) := by show _ = _; rw [if_neg (by omega), Nat.add_sub_cancel, hxi.out]; rfl
          obtain ⟨bP, oP, rfl, hbP, -⟩ := hq.out.at_ hxi.out
          have hat : Hid (∀ (j : Nat) (p : Pr), ps[j]? = some p → ∀ w', Below w.heap.size w w' → ∀ fi u, p.cells[fi]? = some u → w'.cell? ⟨bP, oP + j * 3 + fi, none⟩ = some u) := fun j p hj w' hb fi u hu => by
            obtain ⟨b', o', e', hb', hc'⟩ := hq.out.at_ hj
            injection e' with e'
            injection e' with e1 e2
            subst e1 e2
            exact (hb.cell (p := ⟨bP, oP + j * 3 + fi, none⟩) hb').trans (by rw [show oP + j * 3 + fi = oP + (3 * j + fi) by omega]; exact hc' fi u hu)
          have hx := Lib.hid (hat.out i x hxi.out)
          have hz := Lib.hid (hat.out kp z hzi.out)
          have hf := Lib.hid (hat.out 0 f hfi.out)
          have z7 : IntKind.i64.wrap ((i : Int) - 1) = (kp : Int) := by rw [IntWalk.i64_in _ (by omega)]; have := hkp.out; have := hi1.out; omega
          have z8 : (kp : Int) < (n : Int) := by have := hkp.out; omega
          have z9 : (0 : Int) ≤ (kp : Int) := by omega
          have hlt' : Hid (i < n) := hlt
          clear hy1 hy2 hy3 hfz hst hpv hri hbP hat hlt
          go_upto_region 6 with fail
          by_cases hsx : x.x = f.x
          · by_cases hyz : x.y ≤ z.y
            · have hW0 : Hid (W = none) := hno.out (by rw [hri2.out, decide_eq_true hyz]; simp)
              refine q_region (Class wr) (by kernel_rfl) (by kernel_rfl) (Class.mk_ ((Below.refl _ _).drew)) ?_
              refine q_move rfl (.tmp 5) rfl ?_
              (intro K hK; go_simp; refine hK _ ?_; clear hK K)
              refine q_move rfl (.tmp 14) rfl ?_
              (intro K hK; go_simp; refine hK _ ?_; clear hK K)
              refine q_val (v := .pointer (some ⟨bP, oP + i * 3, none⟩)) rfl (fun w' hw' => by go_simp) ?_
              (intro K hK; go_simp; refine hK _ ?_; clear hK K)
              refine q_val (v := .pointer (some ⟨bP, oP + i * 3, none⟩)) rfl (fun w' hw' => by go_simp) ?_
              (intro K hK; go_simp; refine hK _ ?_; clear hK K)
              refine q_val (v := .int .i64 x.x) rfl (fun w' hw' => by have hc := hx.out w' (hbw.out.trans (hw'.below.mono hbw.out.size)) 0 _ rfl; rw [Nat.add_zero] at hc; go_simp) ?_
              (intro K hK; go_simp; refine hK _ ?_; clear hK K)
              refine q_move rfl (.tmp 5) rfl ?_
              (intro K hK; go_simp; refine hK _ ?_; clear hK K)
              refine q_val (v := .pointer (some ⟨bP, oP, none⟩)) rfl (fun w' hw' => by go_simp) ?_
              (intro K hK; go_simp; refine hK _ ?_; clear hK K)
              refine q_val (v := .pointer (some ⟨bP, oP, none⟩)) rfl (fun w' hw' => by go_simp) ?_
              (intro K hK; go_simp; refine hK _ ?_; clear hK K)
              refine q_val (v := .int .i64 f.x) rfl (fun w' hw' => by have hc := hf.out w' (hbw.out.trans (hw'.below.mono hbw.out.size)) 0 _ rfl; simp only [Nat.zero_mul, Nat.add_zero] at hc; go_simp) ?_
              (intro K hK; go_simp; refine hK _ ?_; clear hK K)
              refine q_val (v := .bool false) rfl (fun w' hw' => by go_simp) ?_
              (intro K hK; go_simp; refine hK _ ?_; clear hK K)
              refine q_val (v := .bool false) rfl (fun w' hw' => by go_simp) ?_
              (intro K hK; go_simp; refine hK _ ?_; clear hK K)
              refine q_move rfl (.tmp 5) rfl ?_
              (intro K hK; go_simp; refine hK _ ?_; clear hK K)
              refine q_move rfl (.tmp 14) rfl ?_
              (intro K hK; go_simp; refine hK _ ?_; clear hK K)
              refine q_val (v := .pointer (some ⟨bP, oP + i * 3, none⟩)) rfl (fun w' hw' => by go_simp) ?_
              (intro K hK; go_simp; refine hK _ ?_; clear hK K)
              refine q_val (v := .pointer (some ⟨bP, oP + i * 3 + 1, none⟩)) rfl (fun w' hw' => by go_simp) ?_
              (intro K hK; go_simp; refine hK _ ?_; clear hK K)
              refine q_val (v := .int .i64 x.y) rfl (fun w' hw' => by have hc := hx.out w' (hbw.out.trans (hw'.below.mono hbw.out.size)) 1 _ rfl; go_simp) ?_
              (intro K hK; go_simp; refine hK _ ?_; clear hK K)
              refine q_move rfl (.tmp 5) rfl ?_
              (intro K hK; go_simp; refine hK _ ?_; clear hK K)
              refine q_move rfl (.tmp 14) rfl ?_
              (intro K hK; go_simp; refine hK _ ?_; clear hK K)
              refine q_val (v := .int .i64 (kp : Int)) rfl (fun w' hw' => by go_simp) ?_
              (intro K hK; go_simp; refine hK _ ?_; clear hK K)
              refine q_val (v := .pointer (some ⟨bP, oP + kp * 3, none⟩)) rfl (fun w' hw' => by go_simp) ?_
              (intro K hK; go_simp; refine hK _ ?_; clear hK K)
              refine q_val (v := .pointer (some ⟨bP, oP + kp * 3 + 1, none⟩)) rfl (fun w' hw' => by go_simp) ?_
              (intro K hK; go_simp; refine hK _ ?_; clear hK K)
              refine q_val (v := .int .i64 z.y) rfl (fun w' hw' => by have hc := hz.out w' (hbw.out.trans (hw'.below.mono hbw.out.size)) 1 _ rfl; go_simp) ?_
              (intro K hK; go_simp; refine hK _ ?_; clear hK K)
              refine q_val (v := .bool true) rfl (fun w' hw' => by go_simp) ?_
              (intro K hK; go_simp; refine hK _ ?_; clear hK K)
              refine q_val (v := .bool true) rfl (fun w' hw' => by go_simp) ?_
              (intro K hK; go_simp; refine hK _ ?_; clear hK K)
              refine q_nil ?_
              intro w6 hw6
              have h6 : Hid (Below w.heap.size w w6) := hbw.out.trans (hw6.below.mono hbw.out.size)
              have hB6 : Hid (Blk w6 w.heap.size 23 (cells8 b).toArray) := (hw6.below.block _ hBw.out.lt).trans hBw.out
              clear hw6
              go_wp2_with fail
              go_ret2
              exact cpostO_no hW0.out rfl h6.out
            · have hri3 : Hid (rises sz none its = rises sz (some x.y) (its.drop (i + 1))) := by
                show _ = _
                rw [hri2.out, decide_eq_true hsx, decide_eq_false hyz]
                simp
              refine q_region (Class wr) (by kernel_rfl) (by kernel_rfl) (Class.mk_ ((Below.refl _ _).drew)) ?_
              refine q_move rfl (.tmp 5) rfl ?_
              (intro K hK; go_simp; refine hK _ ?_; clear hK K)
              refine q_move rfl (.tmp 14) rfl ?_
              (intro K hK; go_simp; refine hK _ ?_; clear hK K)
              refine q_val (v := .pointer (some ⟨bP, oP + i * 3, none⟩)) rfl (fun w' hw' => by go_simp) ?_
              (intro K hK; go_simp; refine hK _ ?_; clear hK K)
              refine q_val (v := .pointer (some ⟨bP, oP + i * 3, none⟩)) rfl (fun w' hw' => by go_simp) ?_
              (intro K hK; go_simp; refine hK _ ?_; clear hK K)
              refine q_val (v := .int .i64 x.x) rfl (fun w' hw' => by have hc := hx.out w' (hbw.out.trans (hw'.below.mono hbw.out.size)) 0 _ rfl; rw [Nat.add_zero] at hc; go_simp) ?_
              (intro K hK; go_simp; refine hK _ ?_; clear hK K)
              refine q_move rfl (.tmp 5) rfl ?_
              (intro K hK; go_simp; refine hK _ ?_; clear hK K)
              refine q_val (v := .pointer (some ⟨bP, oP, none⟩)) rfl (fun w' hw' => by go_simp) ?_
              (intro K hK; go_simp; refine hK _ ?_; clear hK K)
              refine q_val (v := .pointer (some ⟨bP, oP, none⟩)) rfl (fun w' hw' => by go_simp) ?_
              (intro K hK; go_simp; refine hK _ ?_; clear hK K)
              refine q_val (v := .int .i64 f.x) rfl (fun w' hw' => by have hc := hf.out w' (hbw.out.trans (hw'.below.mono hbw.out.size)) 0 _ rfl; simp only [Nat.zero_mul, Nat.add_zero] at hc; go_simp) ?_
              (intro K hK; go_simp; refine hK _ ?_; clear hK K)
              refine q_val (v := .bool false) rfl (fun w' hw' => by go_simp) ?_
              (intro K hK; go_simp; refine hK _ ?_; clear hK K)
              refine q_val (v := .bool false) rfl (fun w' hw' => by go_simp) ?_
              (intro K hK; go_simp; refine hK _ ?_; clear hK K)
              refine q_move rfl (.tmp 5) rfl ?_
              (intro K hK; go_simp; refine hK _ ?_; clear hK K)
              refine q_move rfl (.tmp 14) rfl ?_
              (intro K hK; go_simp; refine hK _ ?_; clear hK K)
              refine q_val (v := .pointer (some ⟨bP, oP + i * 3, none⟩)) rfl (fun w' hw' => by go_simp) ?_
              (intro K hK; go_simp; refine hK _ ?_; clear hK K)
              refine q_val (v := .pointer (some ⟨bP, oP + i * 3 + 1, none⟩)) rfl (fun w' hw' => by go_simp) ?_
              (intro K hK; go_simp; refine hK _ ?_; clear hK K)
              refine q_val (v := .int .i64 x.y) rfl (fun w' hw' => by have hc := hx.out w' (hbw.out.trans (hw'.below.mono hbw.out.size)) 1 _ rfl; go_simp) ?_
              (intro K hK; go_simp; refine hK _ ?_; clear hK K)
              refine q_move rfl (.tmp 5) rfl ?_
              (intro K hK; go_simp; refine hK _ ?_; clear hK K)
              refine q_move rfl (.tmp 14) rfl ?_
              (intro K hK; go_simp; refine hK _ ?_; clear hK K)
              refine q_val (v := .int .i64 (kp : Int)) rfl (fun w' hw' => by go_simp) ?_
              (intro K hK; go_simp; refine hK _ ?_; clear hK K)
              refine q_val (v := .pointer (some ⟨bP, oP + kp * 3, none⟩)) rfl (fun w' hw' => by go_simp) ?_
              (intro K hK; go_simp; refine hK _ ?_; clear hK K)
              refine q_val (v := .pointer (some ⟨bP, oP + kp * 3 + 1, none⟩)) rfl (fun w' hw' => by go_simp) ?_
              (intro K hK; go_simp; refine hK _ ?_; clear hK K)
              refine q_val (v := .int .i64 z.y) rfl (fun w' hw' => by have hc := hz.out w' (hbw.out.trans (hw'.below.mono hbw.out.size)) 1 _ rfl; go_simp) ?_
              (intro K hK; go_simp; refine hK _ ?_; clear hK K)
              refine q_val (v := .bool false) rfl (fun w' hw' => by go_simp) ?_
              (intro K hK; go_simp; refine hK _ ?_; clear hK K)
              refine q_val (v := .bool false) rfl (fun w' hw' => by go_simp) ?_
              (intro K hK; go_simp; refine hK _ ?_; clear hK K)
              refine q_nil ?_
              intro w6 hw6
              have h6 : Hid (Below w.heap.size w w6) := hbw.out.trans (hw6.below.mono hbw.out.size)
              have hB6 : Hid (Blk w6 w.heap.size 23 (cells8 b).toArray) := (hw6.below.block _ hBw.out.lt).trans hBw.out
              clear hw6
              go_wp2_with fail
              go_roundw
              case rel => exact ⟨i + 1, by go_num, Nat.succ_le_succ (Nat.zero_le _), Nat.succ_le_succ (Nat.le_of_lt hlt'.out), (by show rises sz none its = _; rw [hnx.out]; exact hri3.out), h6.out, hB6.out⟩
              case measure => (have := hlt'.out; simp [intOf]; omega)
          · have hW0 : Hid (W = none) := hno.out (by rw [hri2.out, decide_eq_false hsx]; simp)
            refine q_region (Class wr) (by kernel_rfl) (by kernel_rfl) (Class.mk_ ((Below.refl _ _).drew)) ?_
            refine q_move rfl (.tmp 5) rfl ?_
            (intro K hK; go_simp; refine hK _ ?_; clear hK K)
            refine q_move rfl (.tmp 14) rfl ?_
            (intro K hK; go_simp; refine hK _ ?_; clear hK K)
            refine q_val (v := .pointer (some ⟨bP, oP + i * 3, none⟩)) rfl (fun w' hw' => by go_simp) ?_
            (intro K hK; go_simp; refine hK _ ?_; clear hK K)
            refine q_val (v := .pointer (some ⟨bP, oP + i * 3, none⟩)) rfl (fun w' hw' => by go_simp) ?_
            (intro K hK; go_simp; refine hK _ ?_; clear hK K)
            refine q_val (v := .int .i64 x.x) rfl (fun w' hw' => by have hc := hx.out w' (hbw.out.trans (hw'.below.mono hbw.out.size)) 0 _ rfl; rw [Nat.add_zero] at hc; go_simp) ?_
            (intro K hK; go_simp; refine hK _ ?_; clear hK K)
            refine q_move rfl (.tmp 5) rfl ?_
            (intro K hK; go_simp; refine hK _ ?_; clear hK K)
            refine q_val (v := .pointer (some ⟨bP, oP, none⟩)) rfl (fun w' hw' => by go_simp) ?_
            (intro K hK; go_simp; refine hK _ ?_; clear hK K)
            refine q_val (v := .pointer (some ⟨bP, oP, none⟩)) rfl (fun w' hw' => by go_simp) ?_
            (intro K hK; go_simp; refine hK _ ?_; clear hK K)
            refine q_val (v := .int .i64 f.x) rfl (fun w' hw' => by have hc := hf.out w' (hbw.out.trans (hw'.below.mono hbw.out.size)) 0 _ rfl; simp only [Nat.zero_mul, Nat.add_zero] at hc; go_simp) ?_
            (intro K hK; go_simp; refine hK _ ?_; clear hK K)
            refine q_val (v := .bool true) rfl (fun w' hw' => by go_simp) ?_
            (intro K hK; go_simp; refine hK _ ?_; clear hK K)
            refine q_val (v := .bool true) rfl (fun w' hw' => by go_simp) ?_
            (intro K hK; go_simp; refine hK _ ?_; clear hK K)
            refine q_skip rfl ?_
            (intro K hK; go_simp; refine hK _ ?_; clear hK K)
            refine q_skip rfl ?_
            (intro K hK; go_simp; refine hK _ ?_; clear hK K)
            refine q_skip rfl ?_
            (intro K hK; go_simp; refine hK _ ?_; clear hK K)
            refine q_skip rfl ?_
            (intro K hK; go_simp; refine hK _ ?_; clear hK K)
            refine q_skip rfl ?_
            (intro K hK; go_simp; refine hK _ ?_; clear hK K)
            refine q_skip rfl ?_
            (intro K hK; go_simp; refine hK _ ?_; clear hK K)
            refine q_skip rfl ?_
            (intro K hK; go_simp; refine hK _ ?_; clear hK K)
            refine q_skip rfl ?_
            (intro K hK; go_simp; refine hK _ ?_; clear hK K)
            refine q_skip rfl ?_
            (intro K hK; go_simp; refine hK _ ?_; clear hK K)
            refine q_skip rfl ?_
            (intro K hK; go_simp; refine hK _ ?_; clear hK K)
            refine q_skip rfl ?_
            (intro K hK; go_simp; refine hK _ ?_; clear hK K)
            refine q_skip rfl ?_
            (intro K hK; go_simp; refine hK _ ?_; clear hK K)
            refine q_val (v := .bool true) rfl (fun w' hw' => by go_simp) ?_
            (intro K hK; go_simp; refine hK _ ?_; clear hK K)
            refine q_nil ?_
            intro w6 hw6
            have h6 : Hid (Below w.heap.size w w6) := hbw.out.trans (hw6.below.mono hbw.out.size)
            have hB6 : Hid (Blk w6 w.heap.size 23 (cells8 b).toArray) := (hw6.below.block _ hBw.out.lt).trans hBw.out
            clear hw6
            go_wp2_with fail
            go_ret2
            exact cpostO_no hW0.out rfl h6.out
        · have hall : Hid (rises sz none its = true) := by
            show _ = _
            rw [hri.out]
            exact rises_end sz _ (by have := hil.out; omega)
          have y3 : ¬ ((i : Int) < (n : Int)) := by omega
          clear hlt hri hno hit
          obtain ⟨wA, rfl⟩ : ∃ wA, wA = wr := ⟨_, rfl⟩
          go_wp2_with fail
          clear y3
          have hInv0 : Hid (Inv sz (54 + s.size) (Chain.chainOf wd) es its W [] F b 0) := by
            have e : W = cuts sz (54 + s.size) (Chain.chainOf wd) es its es.length F b 0 := by
              rw [← hW.out]
              unfold cutsW
              rw [if_pos ⟨by rw [hn.out, hm.out], hfb.out, by rw [hsz.out, hits.out]; exact hall.out⟩, hsz.out, hits.out]
            show Inv _ _ _ _ _ _ _ _ _ _
            rw [e]
            exact Inv.start F b
          have hL0 : Hid (LrO w wA 0 none 0 []) := ⟨World.ownsRow_nil _ _ _ _, _, Lad.nil_ _ _ _⟩
          clear hin hi1
          go_loopw [2, 15, 16] (fun v2 v15 v16 wr => ∃ (F' : Int) (b' : Text) (lo q cl : Nat) (Al : Option Addr) (ks : List Cut) (l : List Pc), v2 = .int .i64 F' ∧ v15 = .slice Al q cl ∧ v16 = .int .i64 (lo : Int) ∧ Hid (Inv sz (54 + s.size) (Chain.chainOf wd) es its W ks F' b' lo) ∧ Hid (begB s.data.toList F' b' = true) ∧ Hid (b'.length = 32) ∧ Hid (lo ≤ n) ∧ Hid (q ≤ lo) ∧ Hid (SaysR s es ps l ks) ∧ Hid (LrO w wr q Al cl l) ∧ Hid (Blk wr w.heap.size 23 (cells8 b').toArray) ∧ Hid (Below w.heap.size w wr)) (fun _ _ v _ => n - (intOf v).toNat)
          case atStart => exact ⟨F, b, 0, 0, 0, none, [], [], rfl, rfl, rfl, hInv0.out, hfb.out, hb.out, Nat.zero_le _, Nat.le_refl _, SaysR.nil_ _ _ _, hL0.out, hBw.out, hbw.out⟩
          case round =>
            clear hInv0 hL0 hBw hbw
            obtain ⟨F', b', lo, q, cl, Al, ks, l, rfl, rfl, rfl, hInv, hbg, hb', hlo, hql, hSa, hL, hB, hbe⟩ := hrel
            have hlo6 : (lo : Int) ≤ 1000000 := by have := hlo.out; omega
            by_cases hlt : lo < n
            · have y4 : ((lo : Int) < (n : Int)) := by omega
              have z0 : (0 : Int) ≤ (lo : Int) := by omega
              obtain ⟨r, hr⟩ : ∃ r, Hid (reachFrom F' sz 0 (54 + s.size) none (its.drop lo) = r) := ⟨_, Lib.hid rfl⟩
              obtain ⟨nl, hnl⟩ : ∃ x, Hid (n - lo = x) := ⟨_, Lib.hid rfl⟩
              obtain ⟨ce, hce⟩ : ∃ x, Hid (c - lo = x) := ⟨_, Lib.hid rfl⟩
              obtain ⟨cp, hcp⟩ : ∃ x, Hid (c2 - lo = x) := ⟨_, Lib.hid rfl⟩
              obtain ⟨eA, heA⟩ : ∃ x, Hid (dropA A lo 1 = x) := ⟨_, Lib.hid rfl⟩
              obtain ⟨pA, hpA⟩ : ∃ x, Hid (dropA A2 lo 3 = x) := ⟨_, Lib.hid rfl⟩
              have hXe : Hid (∀ w', (Instr.sliceAt 24 (.slice A n c) (some (.int .i64 (lo : Int))) none none).run Tryd.prog w' = .ok (.slice eA nl ce) w') := fun w' => by
                have := run_from (P := Tryd.prog) (t := 24) (A := A) (n := n) (c := c) (l := lo) (sz := 1) Tryd.underlying24 (fun _ => rfl) hlt hnc _ rfl w'
                rw [heA.out, hnl.out, hce.out] at this
                exact this
              have hXp : Hid (∀ w', (Instr.sliceAt 77 (.slice A2 n c2) (some (.int .i64 (lo : Int))) none none).run Tryd.prog w' = .ok (.slice pA nl cp) w') := fun w' => by
                have := run_from (P := Tryd.prog) (t := 77) (A := A2) (n := n) (c := c2) (l := lo) (sz := 3) Tryd.underlying77 (fun _ => rfl) hlt hmc _ rfl w'
                rw [hpA.out, hnl.out, hcp.out] at this
                exact this
              have hRe : Hid (∀ w', Below w.heap.size w w' → Calls Tryd.prog 83 #[.string s, .int .i64 F', .agg (cells8 b').toArray, .slice eA nl ce, .slice pA nl cp] w' fun e w'' => e = .returned (.int .i64 (r : Int)) ∧ Below w'.heap.size w' w'') := fun w' hbw' => by
                have := reach_any s hs.out F' b' hb'.out (es.drop lo) nl (by rw [List.length_drop, hn.out]; exact hnl.out) (by have := hnl.out; omega) eA ce (ps.drop lo) (by rw [List.length_drop, hm.out]; exact hnl.out) pA cp w' (by rw [← heA.out]; exact pieces_drop (hp.out.below hbw') lo) (by rw [← hpA.out]; exact prs_drop (hq.out.below hbw') lo) (fun e he => hsh.out e (List.mem_of_mem_drop he)) (fun p hp => hnn.out p (List.mem_of_mem_drop hp))
                rw [reach_round (by rw [hn.out, hm.out]) hbg.out (by rw [hsz.out, hits.out]; exact hall.out) (by rw [hn.out]; exact hlt), hsz.out, hits.out, hr.out] at this
                exact this
              have sD := Lib.hid (dig_size b' hb'.out)
              have hlt' : Hid (lo < n) := hlt
              go_upto_region 11 with fail
              refine wp_region_class_tail 10 (Class wr) (by kernel_rfl) (by kernel_rfl) (Class.mk_ ((Below.refl _ _).drew)) ?_
              refine wpQuiet_move rfl (.tmp 1) rfl ?_
              (intro K hK; go_simp; refine hK _ ?_; clear hK K)
              refine wpQuiet_move rfl (.tmp 2) rfl ?_
              (intro K hK; go_simp; refine hK _ ?_; clear hK K)
              refine wpQuiet_load_row rfl 23 (.tmp 9) rfl w.heap.size rfl 23 ((cells8 b').toArray) (0, 0) _ (fun w' hw' => (hw'.below.block _ hB.out.lt).trans hB.out) Tryd.underlying23 rfl sD.out ?_
              (intro K hK; go_simp; refine hK _ ?_; clear hK K)
              refine wpQuiet_move rfl (.tmp 4) rfl ?_
              (intro K hK; go_simp; refine hK _ ?_; clear hK K)
              refine wpQuiet_move rfl (.tmp 16) rfl ?_
              (intro K hK; go_simp; refine hK _ ?_; clear hK K)
              refine wpQuiet_val (v := .slice eA nl ce) rfl (fun w' hw' => by have hx := hXe.out w'; go_simp) ?_
              (intro K hK; go_simp; refine hK _ ?_; clear hK K)
              refine wpQuiet_move rfl (.tmp 5) rfl ?_
              (intro K hK; go_simp; refine hK _ ?_; clear hK K)
              refine wpQuiet_move rfl (.tmp 16) rfl ?_
              (intro K hK; go_simp; refine hK _ ?_; clear hK K)
              refine wpQuiet_val (v := .slice pA nl cp) rfl (fun w' hw' => by have hx := hXp.out w'; go_simp) ?_
              (intro K hK; go_simp; refine hK _ ?_; clear hK K)
              refine wpQuiet_fn (v := .int .i64 (r : Int)) (args := #[.string s, .int .i64 F', .agg (cells8 b').toArray, .slice eA nl ce, .slice pA nl cp]) rfl _ _ rfl rfl Tryd.func83 (by kernel_rfl) (by kernel_rfl) (fun w' hw' => (hRe.out w' (hbe.out.trans (hw'.below.mono hbe.out.size))).mono (fun e w'' ⟨he, hw⟩ => ⟨he, hw'.next hw⟩)) ?_
              (intro K hK; go_simp; refine hK _ ?_; clear hK K)
              refine wpQuiet_nil ?_
              intro wq hwq
              have hbq : Hid (Below w.heap.size w wq) := hbe.out.trans (hwq.below.mono hbe.out.size)
              have hBq : Hid (Blk wq w.heap.size 23 (cells8 b').toArray) := (hwq.below.block _ hB.out.lt).trans hB.out
              have hLq : Hid (LrO w wq q Al cl l) := hL.out.kept (Kept.of_below hwq.below)
              have hunq : Hid (∀ (k : Nat) (p : Pc), l[k]? = some p → CutO.under p wq.heap.size) := hLq.out.under
              have hwq1 : Hid (w.heap.size + 1 ≤ wq.heap.size) := by have := hBq.out.lt; show _ ≤ _; omega
              clear hwq hB hL hbe
              simp only [List.drop]
              clear hRe hXe hXp
              by_cases hr0 : r = 0
              · subst hr0
                have hW0 : Hid (W = none) := hInv.out.stuck (by have := hn.out; have := hlt'.out; omega) hr.out
                go_wp2_with fail
                go_ret2
                exact cpostO_no hW0.out rfl hbq.out
              · have y5 : ¬ ((r : Int) = 0) := by omega
                have y6 : ¬ (r = 0) := hr0
                go_upto_region 14 with fail
                obtain ⟨hi_, hhi⟩ : ∃ x, Hid (lo + r = x) := ⟨_, Lib.hid rfl⟩
                have hrl : Hid (r ≤ nl) := by have := reach_lt hr.out hil.out; have := hnl.out; show _ ≤ _; omega
                have z6 : IntKind.i64.wrap ((lo : Int) + (r : Int)) = (hi_ : Int) := by rw [IntWalk.i64_in _ (by have := hrl.out; have := hnl.out; omega)]; have := hhi.out; omega
                have hXe2 : Hid (∀ w', (Instr.sliceAt 24 (.slice A n c) (some (.int .i64 (lo : Int))) (some (.int .i64 (hi_ : Int))) none).run Tryd.prog w' = .ok (.slice eA r ce) w') := fun w' => by
                  have := run_part (P := Tryd.prog) (t := 24) (A := A) (n := n) (c := c) (l := lo) (m := hi_) (sz := 1) Tryd.underlying24 (fun _ => rfl) (by have := hhi.out; omega) (by have := hhi.out; have := hrl.out; have := hnl.out; have := hlt'.out; omega) hnc _ _ rfl rfl w'
                  rw [heA.out, show hi_ - lo = r by have := hhi.out; omega, hce.out] at this
                  exact this
                have hXp2 : Hid (∀ w', (Instr.sliceAt 77 (.slice A2 n c2) (some (.int .i64 (lo : Int))) (some (.int .i64 (hi_ : Int))) none).run Tryd.prog w' = .ok (.slice pA r cp) w') := fun w' => by
                  have := run_part (P := Tryd.prog) (t := 77) (A := A2) (n := n) (c := c2) (l := lo) (m := hi_) (sz := 3) Tryd.underlying77 (fun _ => rfl) (by have := hhi.out; omega) (by have := hhi.out; have := hrl.out; have := hnl.out; have := hlt'.out; omega) hmc _ _ rfl rfl w'
                  rw [hpA.out, show hi_ - lo = r by have := hhi.out; omega, hcp.out] at this
                  exact this
                have hCu : Hid (∀ w', Below wq.heap.size wq w' → Calls Tryd.prog 84 #[.slice eA r ce, .slice pA r cp] w' fun e w'' => ∃ p : Pc, e = .returned (.agg p.cells.toArray) ∧ CutOO w'' wq.heap.size ((es.drop lo).take r) ((ps.drop lo).take r) r p ∧ Below w'.heap.size w' w'') := fun w' hbx => by
                  have hbw' := hbq.out.trans (hbx.mono hbq.out.size)
                  have hl1 : ((es.drop lo).take r).length = r := by rw [List.length_take, List.length_drop]; have := hrl.out; have := hnl.out; have := hn.out; omega
                  have hl2 : ((ps.drop lo).take r).length = r := by rw [List.length_take, List.length_drop]; have := hrl.out; have := hnl.out; have := hm.out; omega
                  have hsm := reach_sumN (F := F') (sz := sz) (nb := 54 + s.size) (es := es) (ps := ps) (lo := lo) (n := r) (by rw [hn.out, hm.out]) (by rw [hits.out]; exact hr.out) y6
                  refine (cutO_any ((es.drop lo).take r) r hl1 (by have := hrl.out; have := hnl.out; omega) (fun e he => hsh.out e (List.mem_of_mem_drop (List.mem_of_mem_take he))) ((ps.drop lo).take r) hl2 (by omega) (fun p hp => hnil.out p (List.mem_of_mem_drop (List.mem_of_mem_take hp))) eA pA ce cp w' (by rw [← heA.out]; exact Law17e.Pieces.take_ (pieces_drop (hp.out.below hbw') lo) r) (by rw [← hpA.out]; exact Law17e.Prs.take_ (prs_drop (hq.out.below hbw') lo) r)).mono ?_
                  rintro e w'' ⟨p, he, a1, a2, a3, a4, a5, a6, a7, a8, a9⟩
                  exact ⟨p, he, ⟨a1, a2, a3, a4, a5, a6, a7, a8.mono hbx.size⟩, a9⟩
                go_cut [18] from 78 to 91 (fun v wr' => ∃ (mb : Nat) (p : Pc), v = .pointer (some ⟨mb, 0, none⟩) ∧ Hid (wq.heap.size ≤ mb) ∧ Hid (Blk wr' mb 83 p.cells.toArray) ∧ Hid (CutOO wr' wq.heap.size ((es.drop lo).take r) ((ps.drop lo).take r) r p) ∧ Hid (Below wq.heap.size wq wr'))
                case first =>
                  have s0 : Hid (Below wq.heap.size wq wq.drew) := (Below.refl _ _).drew
                  refine held_start (fun w' => Below wq.heap.size wq w') 15 rfl (by kernel_rfl) ?_
                  refine held_take (i := 0) (v := .slice A n c) rfl (by kernel_rfl) (by kernel_rfl) (by kernel_rfl) (fun _ _ _ h => h) s0.out (by rfl) (fun w' hw' => run_mv (.tmp 4) rfl w') ?_
                  (intro K hK; go_simp; refine hK _ ?_; clear hK K)
                  refine held_take (i := 1) (v := .int .i64 (lo : Int)) rfl (by kernel_rfl) (by kernel_rfl) (by kernel_rfl) (fun _ _ _ h => h) s0.out (by rfl) (fun w' hw' => run_mv (.tmp 16) rfl w') ?_
                  (intro K hK; go_simp; refine hK _ ?_; clear hK K)
                  refine held_take (i := 2) (v := .int .i64 (lo : Int)) rfl (by kernel_rfl) (by kernel_rfl) (by kernel_rfl) (fun _ _ _ h => h) s0.out (by rfl) (fun w' hw' => run_mv (.tmp 16) rfl w') ?_
                  (intro K hK; go_simp; refine hK _ ?_; clear hK K)
                  refine held_take (i := 3) (v := .int .i64 (r : Int)) rfl (by kernel_rfl) (by kernel_rfl) (by kernel_rfl) (fun _ _ _ h => h) s0.out (by rfl) (fun w' hw' => run_mv (.tmp 17) rfl w') ?_
                  (intro K hK; go_simp; refine hK _ ?_; clear hK K)
                  refine held_take (i := 4) (v := .int .i64 (hi_ : Int)) rfl (by kernel_rfl) (by kernel_rfl) (by kernel_rfl) (fun _ _ _ h => h) s0.out (by rfl) (fun w' hw' => by go_simp) ?_
                  (intro K hK; go_simp; refine hK _ ?_; clear hK K)
                  refine held_take (i := 5) (v := .slice eA r ce) rfl (by kernel_rfl) (by kernel_rfl) (by kernel_rfl) (fun _ _ _ h => h) s0.out (by rfl) (fun w' hw' => by have hx := hXe2.out w'; go_simp) ?_
                  (intro K hK; go_simp; refine hK _ ?_; clear hK K)
                  refine held_take (i := 6) (v := .slice A2 n c2) rfl (by kernel_rfl) (by kernel_rfl) (by kernel_rfl) (fun _ _ _ h => h) s0.out (by rfl) (fun w' hw' => run_mv (.tmp 5) rfl w') ?_
                  (intro K hK; go_simp; refine hK _ ?_; clear hK K)
                  refine held_take (i := 7) (v := .int .i64 (lo : Int)) rfl (by kernel_rfl) (by kernel_rfl) (by kernel_rfl) (fun _ _ _ h => h) s0.out (by rfl) (fun w' hw' => run_mv (.tmp 16) rfl w') ?_
                  (intro K hK; go_simp; refine hK _ ?_; clear hK K)
                  refine held_take (i := 8) (v := .int .i64 (lo : Int)) rfl (by kernel_rfl) (by kernel_rfl) (by kernel_rfl) (fun _ _ _ h => h) s0.out (by rfl) (fun w' hw' => run_mv (.tmp 16) rfl w') ?_
                  (intro K hK; go_simp; refine hK _ ?_; clear hK K)
                  refine held_take (i := 9) (v := .int .i64 (r : Int)) rfl (by kernel_rfl) (by kernel_rfl) (by kernel_rfl) (fun _ _ _ h => h) s0.out (by rfl) (fun w' hw' => run_mv (.tmp 17) rfl w') ?_
                  (intro K hK; go_simp; refine hK _ ?_; clear hK K)
                  refine held_take (i := 10) (v := .int .i64 (hi_ : Int)) rfl (by kernel_rfl) (by kernel_rfl) (by kernel_rfl) (fun _ _ _ h => h) s0.out (by rfl) (fun w' hw' => by go_simp) ?_
                  (intro K hK; go_simp; refine hK _ ?_; clear hK K)
                  refine held_take (i := 11) (v := .slice pA r cp) rfl (by kernel_rfl) (by kernel_rfl) (by kernel_rfl) (fun _ _ _ h => h) s0.out (by rfl) (fun w' hw' => by have hx := hXp2.out w'; go_simp) ?_
                  (intro K hK; go_simp; refine hK _ ?_; clear hK K)
                  refine held_two (i := 12) (j := 13) rfl rfl (by kernel_rfl) (by rfl) (by rfl) (fun K hK => ?_) (fun K hK => ?_)
                  · refine wp_fn (R := fun v w'' => ∃ p : Pc, v = .agg p.cells.toArray ∧ CutOO w'' wq.heap.size ((es.drop lo).take r) ((ps.drop lo).take r) r p ∧ Below wq.heap.size wq w'' ∧ Below (wq.drew).heap.size (wq.drew) w'') (args := #[.slice eA r ce, .slice pA r cp]) _ _ rfl rfl Tryd.func84 (by kernel_rfl) (by kernel_rfl) ((hCu.out _ (s0.out)).mono fun e w'' ⟨p, he, hco, hb⟩ => ⟨_, he, p, rfl, hco, s0.out.trans (hb.mono s0.out.size), hb⟩) ?_
                    rintro qq w5 ⟨p, rfl, hCO, h5, kk1⟩
                    replace h5 := Lib.hid h5
                    replace kk1 := Lib.hid kk1
                    replace hCO := Lib.hid hCO
                    have hFP : Hid (FitP p.cells.toArray) := hCO.out.fit
                    clear kk1
                    go_simp
                    refine hK _ _ h5.out ?_
                    clear hK K
                    refine held_only (i := 13) rfl (by kernel_rfl) (by rfl) (fun K hK => ?_)
                    have h6 := Lib.hid (h5.out.alloc h5.out.size (.cells zP 83))
                    have bb : Hid (Blk (w5.alloc (.cells zP 83)) w5.heap.size 83 zP) := Blk.new _ _ _
                    replace hCO := Lib.hid (hCO.out.below (Below.heap_below _ (.cells zP 83)))
                    go_simp
                    refine hK _ _ h6.out ?_
                    clear hK K
                    refine held_only (i := 14) rfl (by kernel_rfl) (by rfl) (fun K hK => ?_)
                    refine wp_store_whole 83 (.tmp 18) (.tmp 91) rfl (w5.heap.size) (p.cells.toArray) rfl rfl 83 (zP) (bb.out) hFP.out.size hFP.out.zero hFP.out.one ?_
                    intro w99 B9 k9
                    have b9 : Hid (Below wq.heap.size wq w99) := h6.out.trans (Kept.below_of k9 (h5.out.size) h6.out.size)
                    replace hCO := Lib.hid (hCO.out.keptN bb.out k9)
                    go_simp
                    refine hK _ _ b9.out ?_
                    clear hK K
                    refine held_end (by kernel_rfl) ?_
                    go_wp2_with fail
                    go_meet
                    case rel => exact ⟨_, _, rfl, (by first | exact Nat.le_refl _ | exact h5.out.size | exact h6.out.size), B9, hCO.out, b9.out⟩
                  · have h5 := Lib.hid (s0.out.alloc s0.out.size (.cells zP 83))
                    have bb : Hid (Blk (wq.drew.alloc (.cells zP 83)) wq.heap.size 83 zP) := Blk.new _ _ _
                    go_simp
                    refine hK _ _ h5.out ?_
                    clear hK K
                    refine held_only (i := 12) rfl (by kernel_rfl) (by rfl) (fun K hK => ?_)
                    refine wp_fn (R := fun v w'' => ∃ p : Pc, v = .agg p.cells.toArray ∧ CutOO w'' wq.heap.size ((es.drop lo).take r) ((ps.drop lo).take r) r p ∧ Below wq.heap.size wq w'' ∧ Below ((wq.drew.alloc (.cells zP 83))).heap.size ((wq.drew.alloc (.cells zP 83))) w'') (args := #[.slice eA r ce, .slice pA r cp]) _ _ rfl rfl Tryd.func84 (by kernel_rfl) (by kernel_rfl) ((hCu.out _ (h5.out)).mono fun e w'' ⟨p, he, hco, hb⟩ => ⟨_, he, p, rfl, hco, h5.out.trans (hb.mono h5.out.size), hb⟩) ?_
                    rintro qq w6 ⟨p, rfl, hCO, h6, kk1⟩
                    replace h6 := Lib.hid h6
                    replace kk1 := Lib.hid kk1
                    replace hCO := Lib.hid hCO
                    have hFP : Hid (FitP p.cells.toArray) := hCO.out.fit
                    replace bb := Lib.hid ((kk1.out.block _ (Blk.lt bb.out)).trans bb.out)
                    clear kk1
                    go_simp
                    refine hK _ _ h6.out ?_
                    clear hK K
                    refine held_only (i := 14) rfl (by kernel_rfl) (by rfl) (fun K hK => ?_)
                    refine wp_store_whole 83 (.tmp 18) (.tmp 91) rfl (wq.heap.size) (p.cells.toArray) rfl rfl 83 (zP) (bb.out) hFP.out.size hFP.out.zero hFP.out.one ?_
                    intro w99 B9 k9
                    have b9 : Hid (Below wq.heap.size wq w99) := h6.out.trans (Kept.below_of k9 (s0.out.size) h6.out.size)
                    replace hCO := Lib.hid (hCO.out.keptN bb.out k9)
                    go_simp
                    refine hK _ _ b9.out ?_
                    clear hK K
                    refine held_end (by kernel_rfl) ?_
                    go_wp2_with fail
                    go_meet
                    case rel => exact ⟨_, _, rfl, (by first | exact Nat.le_refl _ | exact h5.out.size | exact h6.out.size), B9, hCO.out, b9.out⟩
                case rest =>
                  obtain ⟨mb, p, rfl, hmb, hM, hCO, hbc⟩ := hcut
                  obtain ⟨wm, rfl⟩ : ∃ wm, wm = wc := ⟨_, rfl⟩
                  clear hCu hXp2
                  have hBm : Hid (Blk wm w.heap.size 23 (cells8 b').toArray) := (hbc.out.block _ hBq.out.lt).trans hBq.out
                  have hbm : Hid (Below w.heap.size w wm) := hbq.out.trans (hbc.out.mono hbq.out.size)
                  have hLm : Hid (LrO w wm q Al cl l) := hLq.out.kept (Kept.of_below hbc.out)
                  have hmg : Hid (w.heap.size < mb) := Nat.lt_of_lt_of_le hBq.out.lt hmb.out
                  have hst : Hid (∀ (w' : World) (f : Nat) (u : Value), (Below w.heap.size w w' ∧ Blk w' w.heap.size 23 (cells8 b').toArray) → (Below w.heap.size w (w'.setCell ⟨mb, f, none⟩ u) ∧ Blk (w'.setCell ⟨mb, f, none⟩ u) w.heap.size 23 (cells8 b').toArray)) := fun w' f u ⟨h1, h2⟩ => ⟨h1.setCell (by show w.heap.size ≤ mb; have := hmg.out; omega) _, h2.kept ((Kept.refl (fun k => k = mb) w').setCell (.inl rfl) _) (by show ¬ w.heap.size = mb; have := hmg.out; omega)⟩
                  have cm0 : wm.cell? ⟨mb, 0, none⟩ = some (.string p.s) := (hM.out.cell 0).trans (by rw [List.getElem?_toArray]; exact pc_name)
                  have fm0 := hM.out.frozen 0
                  have cm1 : wm.cell? ⟨mb, 1, none⟩ = some (.int .i64 p.F) := (hM.out.cell 1).trans (by rw [List.getElem?_toArray]; exact pc_first)
                  have fm1 := hM.out.frozen 1
                  have hpb : Hid (p.b.length = 32) := hCO.out.fm.hb
                  have hmo : Hid (∀ k, Value.ownBlock (.slice Al q cl) = some k → k < mb) := fun k e => Nat.lt_of_lt_of_le (hLq.out.ow.lt k e).2 hmb.out
                  have zd2 : (cells8 b').toArray.size = 32 := by rw [List.size_toArray, cells8_len, hb'.out]
                  have hdall : Hid (((cells8 b').toArray.all fun v => v.oneCell') = true) := by
                    show _ = _
                    rw [List.all_toArray]
                    exact List.all_eq_true.2 fun v hv => PieceMem.cells8_one v hv
                  go_upto_region 15 with fail
                  have s0 : Hid (Below w.heap.size w wm.drew ∧ Blk wm.drew w.heap.size 23 (cells8 b').toArray) := ⟨hbm.out.drew, hBm.out⟩
                  refine held_start (fun w' => Below w.heap.size w w' ∧ Blk w' w.heap.size 23 (cells8 b').toArray) 9 rfl (by kernel_rfl) ?_
                  refine held_take (i := 0) (v := .string s) rfl (by kernel_rfl) (by kernel_rfl) (by kernel_rfl) (fun _ _ _ h => h) s0.out (by rfl) (fun w' hw' => run_mv (.tmp 1) rfl w') ?_
                  (intro K hK; go_simp; refine hK _ ?_; clear hK K)
                  refine held_take (i := 1) (v := .int .i64 F') rfl (by kernel_rfl) (by kernel_rfl) (by kernel_rfl) (fun _ _ _ h => h) s0.out (by rfl) (fun w' hw' => run_mv (.tmp 2) rfl w') ?_
                  (intro K hK; go_simp; refine hK _ ?_; clear hK K)
                  refine held_take (i := 2) (v := .agg ((cells8 b').toArray)) rfl (by kernel_rfl) (by kernel_rfl) (by kernel_rfl) (fun _ _ _ h => h) s0.out (by rfl) (fun w' hw' => exec_row 23 (.tmp 9) rfl (w.heap.size) rfl 23 ((cells8 b').toArray) (0, 0) _ (hw'.2) Tryd.underlying23 rfl sD.out) ?_
                  (intro K hK; go_simp; refine hK _ ?_; clear hK K)
                  refine held_take (i := 3) (v := .pointer (some ⟨mb, 0, none⟩)) rfl (by kernel_rfl) (by kernel_rfl) (by kernel_rfl) (fun _ _ _ h => h) s0.out (by rfl) (fun w' hw' => by go_simp) ?_
                  (intro K hK; go_simp; refine hK _ ?_; clear hK K)
                  refine held_only (i := 4) rfl (by kernel_rfl) (by rfl) (fun K hK => ?_)
                  go_simp
                  refine hK _ _ (hst.out _ _ _ s0.out) ?_
                  clear hK K
                  refine held_take (i := 5) (v := .pointer (some ⟨mb, 1, none⟩)) rfl (by kernel_rfl) (by kernel_rfl) (by kernel_rfl) (fun _ _ _ h => h) (hst.out _ _ _ s0.out) (by rfl) (fun w' hw' => by go_simp) ?_
                  (intro K hK; go_simp; refine hK _ ?_; clear hK K)
                  refine held_only (i := 6) rfl (by kernel_rfl) (by rfl) (fun K hK => ?_)
                  go_simp
                  refine hK _ _ (hst.out _ _ _ (hst.out _ _ _ s0.out)) ?_
                  clear hK K
                  refine held_take (i := 7) (v := .pointer (some ⟨mb, 2, none⟩)) rfl (by kernel_rfl) (by kernel_rfl) (by kernel_rfl) (fun _ _ _ h => h) (hst.out _ _ _ (hst.out _ _ _ s0.out)) (by rfl) (fun w' hw' => by go_simp) ?_
                  (intro K hK; go_simp; refine hK _ ?_; clear hK K)
                  have hM2 : Hid (Blk (((wm.setCell ⟨mb, 0, none⟩ (.string s)).setCell ⟨mb, 1, none⟩ (.int .i64 F')).drew) mb 83 (pieceCells s F' p.b (.slice p.A p.n p.c) (.slice p.A2 p.m p.c2)).toArray) := (three hM.out).1
                  have hk2 : Hid (Kept (· = mb) wm (((wm.setCell ⟨mb, 0, none⟩ (.string s)).setCell ⟨mb, 1, none⟩ (.int .i64 F')).drew)) := (three (s := s) (F := F') hM.out).2
                  refine held_only (i := 8) rfl (by kernel_rfl) (by rfl) (fun K hK => ?_)
                  refine wp_store_part 23 (.tmp 97) (.tmp 94) rfl mb 2 (cells8 b').toArray rfl rfl 83 (pieceCells s F' p.b (.slice p.A p.n p.c) (.slice p.A2 p.m p.c2)).toArray hM2.out sD.out (by rw [zd2]; exact pc_fit hpb.out) hdall.out ?_
                  rw [pc_setB hpb.out hb'.out]
                  have hk3 : Hid (Kept (· = mb) wm ((((wm.setCell ⟨mb, 0, none⟩ (.string s)).setCell ⟨mb, 1, none⟩ (.int .i64 F')).drew).setRow mb (pieceCells s F' b' (.slice p.A p.n p.c) (.slice p.A2 p.m p.c2)).toArray)) := Bytes.Kept.setRow (S := (· = mb)) hk2.out rfl _
                  have hM3 : Hid (Blk ((((wm.setCell ⟨mb, 0, none⟩ (.string s)).setCell ⟨mb, 1, none⟩ (.int .i64 F')).drew).setRow mb (pieceCells s F' b' (.slice p.A p.n p.c) (.slice p.A2 p.m p.c2)).toArray) mb 83 (Pc.put p s F' b').cells.toArray) := setRow_heap _ _ _ _ _ _ hM2.out
                  generalize (((wm.setCell ⟨mb, 0, none⟩ (.string s)).setCell ⟨mb, 1, none⟩ (.int .i64 F')).drew).setRow mb (pieceCells s F' b' (.slice p.A p.n p.c) (.slice p.A2 p.m p.c2)).toArray = wn at *
                  have hbn : Hid (Below w.heap.size w wn) := below_kept hbm.out hk3.out (fun k _ (e : k = mb) => by have := hmg.out; omega) hbm.out.size
                  have hBn : Hid (Blk wn w.heap.size 23 (cells8 b').toArray) := hBm.out.kept hk3.out (fun e => by have := hmg.out; omega)
                  have hLn : Hid (LrO w wn q Al cl l) := LrO.keptM hLm.out hM.out hk3.out hmo.out
                  have hFn : Hid (PcO wn wq.heap.size (Pc.put p s F' b')) := CutOO.put hCO.out s F' b' hb'.out hM.out hk3.out
                  clear hM2 hk2
                  refine hK _ _ ⟨hbn.out, hBn.out⟩ ?_
                  clear hK K
                  refine held_end (by kernel_rfl) ?_
                  have sQ : Hid ((Tryd.prog.info? 83).map (·.size) = some (Pc.put p s F' b').cells.toArray.size) := pc_info hb'.out
                  have q1 : Hid (∀ v ∈ [(Pc.put p s F' b').cells], v.length = 36) := fun v hv => by
                    obtain rfl := List.mem_singleton.1 hv
                    exact Pc.len hb'.out
                  have x1 : Hid (([(Pc.put p s F' b').cells].flatten).toArray = (Pc.put p s F' b').cells.toArray) := by show _ = _; rw [List.flatten_singleton]
                  obtain ⟨n0, hn0, nz0, nz1, nz2⟩ := info_partsN infoPc
                  have hOn : Hid ((wn.alloc (.cells (Pc.put p s F' b').cells.toArray 83)).ownsRow (w.heap.size + 1) 83 36 (.slice Al q cl) q (l.flatMap Pc.cells)) := own_keep hLn.out.ow (Kept.of_below (S := fun _ => False) (Below.heap_below _ _)) (fun _ _ x => x)
                  have hnP : Hid (Reads (wn.alloc (.cells (Pc.put p s F' b').cells.toArray 83)) 36 (some ⟨wn.heap.size, 0, none⟩) 1 (Pc.put p s F' b').cells) := Blk.reads (Blk.new wn _ _) 0 _ (by rw [Pc.len hb'.out]) (fun j u hu => by rw [Nat.zero_add, List.getElem?_toArray]; exact hu)
                  have hone : Hid (∀ v ∈ (Pc.put p s F' b').cells, v.oneCell' = true) := fun v hv => by
                    have h := pc_one (s := s) (F := F') (b := b') (E := .slice p.A p.n p.c) (P := .slice p.A2 p.m p.c2) rfl rfl
                    rw [List.all_toArray] at h
                    exact List.all_eq_true.1 h v hv
                  have hw1 : Hid (q + 1 ≤ maxLen) := by show _ ≤ _; unfold maxLen; have := hql.out; omega
                  have hw2 : Hid ((q + 1) * 104 ≤ 140737488355328) := by show _ ≤ _; have := hql.out; omega
                  have hw3 : Hid (w.heap.size + 1 ≤ (wn.alloc (.cells (Pc.put p s F' b').cells.toArray 83)).heap.size) := by
                    show _ ≤ _
                    have := hBn.out.lt
                    simp
                    omega
                  clear hdall zd2 hM hBm hbm hLm hmo cm0 fm0 cm1 fm1 hst s0
                  go_upto_region 17 with (first
                    | ((with_reducible change wpList _ _ _ ({ dst := some 99, op := _, type := _, pos := _, after := _, guard := _ } :: _) _ _); refine wpList_load_row (o := ⟨some 99, _, _, _, _, _⟩) rfl 83 (.tmp 18) rfl (mb) rfl 83 ((Pc.put p s F' b').cells.toArray) (0, 0) _ hM3.out Tryd.underlying83 rfl sQ.out ?_)
                    | ((with_reducible change wpList _ _ _ ({ dst := some 100, op := _, type := _, pos := _, after := _, guard := _ } :: _) _ _); refine wpList_buildAggs (o := ⟨some 100, _, _, _, _, _⟩) rfl 79 83 1 _ rfl 36 (by decide) [(Pc.put p s F' b').cells] Tryd.underlying79 size36 zeroPc rfl (by decide) (by decide) q1.out rfl ?_; rw [x1.out])
                    | ((with_reducible change wpList _ _ _ ({ dst := some 101, op := _, type := _, pos := _, after := _, guard := _ } :: _) _ _); refine wpList_append_src _ (o := ⟨some 101, _, _, _, _, _⟩) rfl (.tmp 98) (.tmp 100) 79 rfl (w.heap.size + 1) 83 n0 (.agg zP) 36 104 Tryd.underlying79 hn0 nz0 nz1 nz2 rfl (by decide) (.slice Al q cl) q (l.flatMap Pc.cells) rfl hOn.out (some ⟨wn.heap.size, 0, none⟩) 1 1 (Pc.put p s F' b').cells rfl hnP.out (fun e => by cases e) hone.out hw1.out hw2.out hw3.out ?_; intro v9 w9 hG; obtain ⟨A9, c9, rfl, hL9⟩ := LrO.push hLn.out (Below.heap_below _ _) hG hFn.out hwq1.out hunq.out; replace hL9 := Lib.hid hL9; have hk9 := (Kept.of_below (S := fun k => some k = Value.ownBlock (.slice Al q cl)) (Below.heap_below wn (.cells (Pc.put p s F' b').cells.toArray 83))).trans (grew_kept hG) (fun _ _ x => x); have hb9 : Hid (Below w.heap.size w w9) := below_kept hbn.out hk9 (fun k _ e => by have := (hLn.out.ow.lt k e.symm).1; omega) hbn.out.size; have hB9 : Hid (Blk w9 w.heap.size 23 (cells8 b').toArray) := hBn.out.kept hk9 (fun e => by have := (hLn.out.ow.lt _ e.symm).1; omega); have hx17 := hXe2.out w9; clear hG hk9))
                  clear hn0 nz0 nz1 nz2 hM3 hOn hnP hone hw1 hw2 hw3 q1 x1 sQ hk3
                  obtain ⟨et, het⟩ : ∃ x, Hid ((es.drop lo).take r = x) := ⟨_, Lib.hid rfl⟩
                  have hel : Hid (et.length = r) := by show _ = _; rw [← het.out, List.length_take, List.length_drop]; have := hrl.out; have := hnl.out; have := hn.out; omega
                  have hpt : Hid (Pieces w eA et) := by show Pieces _ _ _; rw [← heA.out, ← het.out]; exact Law17e.Pieces.take_ (pieces_drop hp.out lo) r
                  have hst3 : Hid (∀ e ∈ et, e.length < 140737488355328) := fun e he => hsh.out e (by rw [← het.out] at he; exact List.mem_of_mem_drop (List.mem_of_mem_take he))
                  obtain ⟨wB, rfl⟩ : ∃ wB, wB = wr := ⟨_, rfl⟩
                  go_wp2_with fail
                  clear hx17 hXe2
                  go_loopw [109] (fun v wr => ∃ i : Nat, v = .int .i64 (i : Int) ∧ Hid (i ≤ r) ∧ Hid (Blk wr w.heap.size 23 (cells8 (Chain.chainOf wd b' (et.take i))).toArray) ∧ Hid (Kept (· = w.heap.size) w9 wr)) (fun v _ => r - (intOf v).toNat)
                  case atStart => exact ⟨0, rfl, Nat.zero_le _, hB9.out, Kept.refl _ _⟩
                  case round =>
                    obtain ⟨i, rfl, hi2, hB3, hk3'⟩ := hrel
                    have hb3 : Hid (Below w.heap.size w wr) := below_kept hb9.out hk3'.out (fun k _ (e : k = w.heap.size) => Nat.le_of_eq e.symm) hb9.out.size
                    obtain ⟨w3, rfl⟩ : ∃ w3, w3 = wr := ⟨_, rfl⟩
                    have hi6 : (i : Int) ≤ 1000000 := by have := hi2.out; have := hrl.out; have := hnl.out; omega
                    by_cases hlt3 : i < r
                    · have hz : (i : Int) < (r : Int) := by omega
                      have hz0 : (0 : Int) ≤ (i : Int) := by omega
                      obtain ⟨qq, hqi⟩ : ∃ q, Hid (et[i]? = some q) := ⟨_, List.getElem?_eq_getElem (by rw [hel.out]; exact hlt3)⟩
                      obtain ⟨bA, o, heA2, hbA, hcs⟩ := hpt.out (by have := hel.out; omega)
                      subst heA2
                      obtain ⟨Ai, ci, hc1, hc2, hc3, hc4⟩ := hcs i qq hqi.out
                      have hcell : w3.cell? ⟨bA, o + i, none⟩ = some (.slice Ai qq.length ci) := (hb3.out.cell (p := ⟨bA, o + i, none⟩) hbA).trans hc1
                      obtain ⟨x, hx⟩ : ∃ x, Hid (x = Chain.chainOf wd b' (et.take i)) := ⟨_, Lib.hid rfl⟩
                      have hxl : Hid (x.length = 32) := by show _ = _; rw [hx.out]; exact Chain.chainOf_len wd b' hb'.out _
                      have hstc := Lib.hid (Chain.chainOf_step wd b' et i qq hqi.out)
                      rw [← hx.out] at hB3 hstc
                      obtain ⟨y, hy⟩ : ∃ y, Hid (y = Chain.leafOf wd qq) := ⟨_, Lib.hid rfl⟩
                      obtain ⟨z, hz2⟩ : ∃ z, Hid (z = Chain.linkOf wd x y) := ⟨_, Lib.hid rfl⟩
                      have hyl : Hid (y.length = 32) := by show _ = _; rw [hy.out]; exact Chain.leafOf_len _ _
                      have hzl : Hid (z.length = 32) := by show _ = _; rw [hz2.out]; exact Chain.linkOf_len _ _ _
                      rw [← hy.out, ← hz2.out] at hstc
                      have hql := Lib.hid (hst3.out qq (List.mem_of_getElem? hqi.out))
                      have hrq : Hid (Reads w3 1 Ai qq.length (cells8 qq)) := hc3.below hb3.out
                      replace hc2 := Lib.hid hc2
                      replace hc4 := Lib.hid hc4
                      clear hcs hc1 hc3
                      obtain ⟨mm, hmm⟩ : ∃ m, Hid (qq.length = m) := ⟨_, Lib.hid rfl⟩
                      rw [hmm.out] at hcell hrq hc2 hc4 hql
                      have hsx : Hid ((Tryd.prog.info? 23).map (·.size) = some (cells8 x).toArray.size) := dig_size x hxl.out
                      go_upto_region 20 with fail
                      refine wp_region_class_tail 6 (Class w3) (by kernel_rfl) (by kernel_rfl) (Class.mk_ ((Below.refl _ _).drew)) ?_
                      refine wpQuiet_move rfl (.tmp 0) rfl ?_
                      (intro K hK; go_simp; refine hK _ ?_; clear hK K)
                      refine wpQuiet_load_row rfl 23 (.tmp 9) rfl w.heap.size rfl 23 ((cells8 x).toArray) (0, 0) _ (fun w' hw' => (hw'.below.block _ hB3.out.lt).trans hB3.out) Tryd.underlying23 rfl hsx.out ?_
                      (intro K hK; go_simp; refine hK _ ?_; clear hK K)
                      refine wpQuiet_move rfl (.tmp 0) rfl ?_
                      (intro K hK; go_simp; refine hK _ ?_; clear hK K)
                      refine wpQuiet_move rfl (.tmp 20) rfl ?_
                      (intro K hK; go_simp; refine hK _ ?_; clear hK K)
                      refine wpQuiet_fn (v := .agg (cells8 y).toArray) (args := #[.int .i64 wd, .slice Ai mm ci]) rfl _ _ rfl rfl Tryd.func38 (by kernel_rfl) (by kernel_rfl) (fun w' hw' => ((leaf_any qq mm hmm.out Ai ci wd w' (hBs.out.below (hb3.out.trans (hw'.below.mono hb3.out.size)) hBs.out.1) hql.out (hrq.out.below hw'.below) hc2.out hc4.out).mono fun e w1 ⟨he, hb1⟩ => ⟨by rw [he, hy.out]; rfl, hw'.next hb1⟩)) ?_
                      (intro K hK; go_simp; refine hK _ ?_; clear hK K)
                      refine wpQuiet_fn (v := .agg (cells8 z).toArray) (args := #[.int .i64 wd, .agg (cells8 x).toArray, .agg (cells8 y).toArray]) rfl _ _ rfl rfl Tryd.func37 (by kernel_rfl) (by kernel_rfl) (fun w' hw' => ((link_any x y hxl.out hyl.out wd w' (hBs.out.below (hb3.out.trans (hw'.below.mono hb3.out.size)) hBs.out.1)).mono fun e w1 ⟨he, hb1⟩ => ⟨by rw [he, hz2.out]; rfl, hw'.next hb1⟩)) ?_
                      (intro K hK; go_simp; refine hK _ ?_; clear hK K)
                      refine wpQuiet_nil ?_
                      intro w4 hw4
                      have hB4 := Lib.hid ((hw4.below.block _ hB3.out.lt).trans hB3.out)
                      have hk4 := Lib.hid (hk3'.out.trans (Kept.of_below (S := (· = w.heap.size)) hw4.below) (fun _ _ h => h))
                      have hb4 := Lib.hid (hb3.out.trans (hw4.below.mono hb3.out.size))
                      clear hw4
                      simp only [List.drop]
                      have hs2 : Hid ((Tryd.prog.info? 23).map (·.size) = some (cells8 z).toArray.size) := dig_size z hzl.out
                      have hs3 : Hid ((cells8 x).toArray.size = (cells8 z).toArray.size) := by show _ = _; simp [cells8_len, hxl.out, hzl.out]
                      have hs4 := Lib.hid (dig_one z)
                      have hi3 : Hid (i + 1 ≤ r) := hlt3
                      clear hlt3
                      go_wp2_with ((with_reducible change wpList _ _ _ ({ dst := none, op := Op.store 23 _ _, type := _, pos := _, after := _, guard := _ } :: _) _ _); refine wpList_store_row (o := ⟨none, _, _, _, _, _⟩) rfl 23 (.tmp 9) (.tmp 118) rfl (w.heap.size) ((cells8 z).toArray) rfl rfl 23 ((cells8 x).toArray) hB4.out hs2.out hs3.out hs4.out ?_)
                      go_roundw
                      case rel => exact ⟨i + 1, by go_num, hi3.out, (show Blk _ _ _ _ by rw [hstc.out]; exact setRow_heap _ _ _ _ _ _ hB4.out), Bytes.Kept.setRow (S := (· = w.heap.size)) hk4.out rfl _⟩
                      case measure => (have := hi3.out; simp [intOf]; omega)
                    · obtain rfl : i = r := by have := hi2.out; omega
                      have hT : Hid (et.take i = et) := List.take_of_length_le (by have := hel.out; omega)
                      have hz : (i : Int) ≤ (i : Int) := by omega
                      rw [hT.out] at hB3
                      have hsm : Hid (F' + (i : Nat) ≤ 1099511627776) := reach_small (by rw [hsz.out, hits.out]; exact hr.out) y6
                      have hpos := Lib.hid (beg_pos hbg.out)
                      have z10 : IntKind.i64.wrap (F' + (i : Int)) = F' + (i : Int) := IntWalk.i64_in _ (by have := hsm.out; have := hpos.out; omega)
                      have hLz : Hid (LrO w w3 (q + 1) A9 c9 (l ++ [Pc.put p s F' b'])) := hL9.out.kept (hk3'.out.mono (fun k _ (e : k = w.heap.size) => by omega))
                      have hSz : Hid (SaysR s es ps (l ++ [Pc.put p s F' b']) (ks ++ [⟨F', b', lo, i⟩])) := hSa.out.push (CutOO.says hCO.out s F' b')
                      have hIz : Hid (Inv sz (54 + s.size) (Chain.chainOf wd) es its W (ks ++ [⟨F', b', lo, i⟩]) (F' + (i : Int)) (Chain.chainOf wd b' et) hi_) := by
                        have h := hInv.out.step (by have := hn.out; have := hlt'.out; omega) hr.out y6
                        rw [het.out, hhi.out] at h
                        exact h
                      have hbz : Hid (begB s.data.toList (F' + (i : Int)) (Chain.chainOf wd b' et) = true) := beg_next hbg.out y6
                      have hcz : Hid ((Chain.chainOf wd b' et).length = 32) := Chain.chainOf_len wd b' hb'.out _
                      have hhz : Hid (hi_ ≤ n) := by show _ ≤ _; have := hrl.out; have := hnl.out; have := hhi.out; have := hlt'.out; omega
                      have hqz : Hid (q + 1 ≤ hi_) := by show _ ≤ _; have := hql.out; have := hhi.out; omega
                      have hlz : Hid (lo < hi_) := by show _ < _; have := hhi.out; omega
                      clear hlt3 hsm hpos
                      go_wp2_with fail
                      go_roundw
                      case rel => exact ⟨F' + (i : Int), Chain.chainOf wd b' et, hi_, q + 1, c9, A9, _, _, by go_num, by go_num, by go_num, hIz.out, hbz.out, hcz.out, hhz.out, hqz.out, hSz.out, hLz.out, hB3.out, hb3.out⟩
                      case measure => (have := hlz.out; have := hhz.out; simp [intOf]; omega)
            · have hlo2 : lo = n := by have := hlo.out; omega
              subst hlo2
              have y4 : ¬ ((lo : Int) < (lo : Int)) := by omega
              have hWs : Hid (W = some ks) := hInv.out.done (by have := hn.out; omega)
              have hlq : Hid (l.length = q) := hL.out.len hSa.out
              clear hlt
              go_wp2_with fail
              go_ret2
              exact ⟨Al, cl, l, 0, by rw [hlq.out]; rfl, .inl ⟨ks, hWs.out, hSa.out, rfl⟩, by rw [hlq.out]; exact hL.out, hbe.out⟩
  · have y1 : ((n : Int) == (m : Int)) = false := by simp; omega
    have y2 : ¬ ((n : Int) = (m : Int)) := by omega
    have hno : Hid (W = none) := by
      show _ = _
      rw [← hW.out]
      unfold cutsW
      rw [if_neg (fun h => by have := h.1; have := hn.out; have := hm.out; omega)]
    go_wp2_with fail
    go_ret2
    exact cpostO_no hno.out rfl hb0.out
end Go.Proofs.YtgldkfaiofkhbaaDoor.PiecesO

namespace Go.Proofs.YtgldkfaiofkhbaaDoor.JoinM
open Go Go.RowKit Go.Proofs.YtgldkfaiofkhbaaDoor Go.Proofs.YtgldkfaiofkhbaaDoor.Mem Go.Proofs.YtgldkfaiofkhbaaDoor.Sha Go.Proofs.YtgldkfaiofkhbaaDoor.Bytes Go.Proofs.YtgldkfaiofkhbaaDoor.Append Go.Proofs.YtgldkfaiofkhbaaDoor.Own Go.Proofs.YtgldkfaiofkhbaaDoor.TreeMem Go.Proofs.YtgldkfaiofkhbaaDoor.HeadMem Go.Proofs.YtgldkfaiofkhbaaDoor.Prs Go.Proofs.YtgldkfaiofkhbaaDoor.PieceLay Go.Proofs.YtgldkfaiofkhbaaDoor.PieceMem Go.Proofs.YtgldkfaiofkhbaaDoor.PieceMem2 Go.Proofs.YtgldkfaiofkhbaaDoor.SamePiece Go.Proofs.YtgldkfaiofkhbaaDoor.Pcs Go.Proofs.YtgldkfaiofkhbaaDoor.CutM Go.Proofs.YtgldkfaiofkhbaaDoor.CutO Go.Proofs.YtgldkfaiofkhbaaDoor.CutQ Go.Proofs.YtgldkfaiofkhbaaDoor.PiecesW Go.Proofs.YtgldkfaiofkhbaaDoor.PiecesO

/-- The blocks that hold the events and the proofs of the pieces ahead. -/
def Sx (l : List Pc) (i k : Nat) : Prop := ∃ (j : Nat) (p : Pc), j < i ∧ l[j]? = some p ∧ (Value.ownBlock (.slice p.A p.n p.c) = some k ∨ Value.ownBlock (.slice p.A2 p.m p.c2) = some k)
/-- A row of pieces was answered in W3; since then the pieces ahead of i alone were appended to. -/
structure St (w0 W3 W : World) (q : Nat) (Al : Option Addr) (cl : Nat) (l : List Pc) (i : Nat) : Prop where
  lr : LrO w0 W3 q Al cl l
  k : Kept (Sx l i) W3 W
section
variable {w0 W3 W W' : World} {q cl i j k g : Nat} {Al : Option Addr} {l : List Pc} {p : Pc}
theorem Sx.mono (h : Sx l i k) (hij : i ≤ j) : Sx l j k := by
  obtain ⟨m, p, h1, h2⟩ := h
  exact ⟨m, p, by omega, h2⟩
theorem sx_own (h : LrO w0 W3 q Al cl l) (hs : Sx l i k) : w0.heap.size + 1 ≤ k ∧ k < W3.heap.size ∧ ∃ e cs, (e = 31 ∨ e = 51) ∧ W3.heap[k]? = some (.cells cs e (0, 0)) := by
  obtain ⟨m, p, -, h2, h3⟩ := hs
  obtain ⟨f, hf⟩ := h.fi
  have hp := hf.at_ m p (Nat.zero_le _) h2
  have hB := hf.lo m (List.getElem?_eq_some_iff.1 h2).1
  obtain ⟨xs, h4, -⟩ := hp.oe
  rcases h3 with h3 | h3
  · have hl := h4.lt k h3
    rcases h4.2 with ⟨e, -⟩ | ⟨g, cap, cur, e, -, hb, -⟩
    · rw [e] at h3; cases h3
    · rw [e] at h3
      obtain rfl : g = k := Option.some.inj h3
      exact ⟨by omega, hl.2, _, _, .inl rfl, hb⟩
  · have hl := hp.op.lt k h3
    rcases hp.op.2 with ⟨e, -⟩ | ⟨g, cap, cur, e, -, hb, -⟩
    · rw [e] at h3; cases h3
    · rw [e] at h3
      obtain rfl : g = k := Option.some.inj h3
      exact ⟨by omega, hl.2, _, _, .inr rfl, hb⟩
theorem St.start (h : LrO w0 W3 q Al cl l) : St w0 W3 W3 q Al cl l 0 := ⟨h, Kept.refl _ _⟩
theorem St.step {S : Nat → Prop} (h : St w0 W3 W q Al cl l i) (hij : i ≤ j) (hk : Kept S W W') (hS : ∀ k, S k → Sx l j k ∨ W3.heap.size ≤ k) : St w0 W3 W' q Al cl l j :=
  ⟨h.lr, (h.k.mono (fun _ _ s => s.mono hij)).trans hk (fun k hlt s => (hS k s).elim id (fun s => by omega))⟩
theorem St.below (h : St w0 W3 W q Al cl l i) (hb : Below W.heap.size W W') : St w0 W3 W' q Al cl l i := h.step (S := fun _ => False) (Nat.le_refl _) (Kept.of_below hb) (fun _ s => s.elim)
theorem St.kept_ge (h : St w0 W3 W q Al cl l i) (hk : Kept (· = g) W W') (hg : W3.heap.size ≤ g) : St w0 W3 W' q Al cl l i := h.step (Nat.le_refl _) hk (fun k (e : k = g) => .inr (by omega))
theorem St.size (h : St w0 W3 W q Al cl l i) : W3.heap.size ≤ W.heap.size := h.k.size
theorem St.old (h : St w0 W3 W q Al cl l i) (hb : Below w0.heap.size w0 W3) : Below w0.heap.size w0 W := below_kept hb h.k (fun k _ s => by have := (sx_own h.lr s).1; omega) hb.size
theorem St.old_of {R : Nat} {w : World} (h : St w0 W3 W q Al cl l i) (hb : Below R w W3) (hR : R ≤ w0.heap.size) (hR3 : R ≤ W3.heap.size) : Below R w W := below_kept hb h.k (fun k _ s => by have := (sx_own h.lr s).1; omega) hR3
theorem St.blk {t : TypeId} {cs : Array Value} (h : St w0 W3 W q Al cl l i) (hb : Blk W3 g t cs) (hg : g ≤ w0.heap.size) : Blk W g t cs := hb.kept h.k (fun s => by have := (sx_own h.lr s).1; omega)
theorem St.row (h : St w0 W3 W q Al cl l i) : W.ownsRow (w0.heap.size + 1) 83 36 (.slice Al q cl) q (l.flatMap Pc.cells) := own_keep h.lr.ow h.k (fun k e s => by
  obtain ⟨-, -, t, cs, ht, hb⟩ := sx_own h.lr s
  exact blk_own (t := t) (cs := cs) hb h.lr.ow (by rcases ht with rfl | rfl <;> decide) e.symm)
theorem St.cell (h : St w0 W3 W q (some ⟨g, 0, none⟩) cl l i) (hp : l[k]? = some p) {m : Nat} {u : Value} (hu : p.cells[m]? = some u) : W.cell? ⟨g, k * 36 + m, none⟩ = some u := by
  have hb : ∀ p ∈ l, p.b.length = 32 := h.lr.hb
  have hm : m < 36 := by rw [← Pc.len (hb p (List.mem_of_getElem? hp))]; exact (List.getElem?_eq_some_iff.1 hu).1
  have := h.row.cells (g := g) rfl (k * 36 + m) u (by rw [flat_at36 l hb k p m hp hm]; exact hu)
  rwa [add_at, Nat.zero_add] at this
/-- The pieces from i on stand. -/
theorem St.pc (h : St w0 W3 W q Al cl l i) (hik : i ≤ k) (hp : l[k]? = some p) : ∃ B, w0.heap.size + 1 ≤ B ∧ PcO W B p := by
  obtain ⟨f, hf⟩ := h.lr.fi
  have hl := (List.getElem?_eq_some_iff.1 hp).1
  refine ⟨f k, hf.lo k hl, (hf.at_ k p (Nat.zero_le _) hp).keptS h.k (fun _ o g e s => ?_)⟩
  obtain ⟨m, p', h1, h2, h3⟩ := s
  have hu := hf.sep m p' k h2 (by omega) hl
  have := (o.lt g e).1
  rcases h3 with h3 | h3
  · have := hu.1 g h3; omega
  · have := hu.2 g h3; omega
/-- Of two pieces the later one is the higher. -/
theorem St.pc2 (h : St w0 W3 W q Al cl l i) {p2 : Pc} (hik : i ≤ k) (hp : l[k]? = some p) (hp2 : l[k + 1]? = some p2) : ∃ B B2, w0.heap.size + 1 ≤ B ∧ w0.heap.size + 1 ≤ B2 ∧ PcO W B p ∧ PcO W B2 p2 := by
  obtain ⟨B, h1, h2⟩ := h.pc hik hp
  obtain ⟨B2, h3, h4⟩ := h.pc (Nat.le_succ_of_le hik) hp2
  exact ⟨B, B2, h1, h3, h2, h4⟩
theorem sx_E (hp : l[i]? = some p) (hk : Value.ownBlock (.slice p.A p.n p.c) = some k) : Sx l (i + 1) k := ⟨i, p, by omega, hp, .inl hk⟩
theorem sx_P (hp : l[i]? = some p) (hk : Value.ownBlock (.slice p.A2 p.m p.c2) = some k) : Sx l (i + 1) k := ⟨i, p, by omega, hp, .inr hk⟩
end

/-! ### An event and a proof more -/
section
variable {W W1 W2 : World} {B gp : Nat} {p : Pc} {E' P' : Value} {cs : Array Value}
/-- The events with one more. -/
def withE (p : Pc) (e : Text) (A : Option Addr) (c : Nat) : Pc := { p with es := p.es ++ [e], A := A, n := p.n + 1, c := c }
def withP (p : Pc) (x : Pr) (A : Option Addr) (c : Nat) : Pc := { p with ps := p.ps ++ [x], A2 := A, m := p.m + 1, c2 := c }
theorem keptE (hb : Below W.heap.size W W1) {S : Nat → Prop} (hk : Kept S W1 W2) : Kept S W W2 := (Kept.of_below (S := S) hb).trans hk (fun _ _ s => s)
theorem pushE (h : PcO W B p) {xs : List Value} (hoe : W.ownsRow B 31 1 (.slice p.A p.n p.c) p.n xs) (htv : Tov W B xs p.es) (hgp : Blk W gp 83 cs) (hb : Below W.heap.size W W1)
    {v : Value} {e : Text} {k : Nat} (hk : e.length = k) (hv : W.ownsRow B 5 1 v k (cells8 e)) {A' : Option Addr} {c' : Nat}
    (hG : Grew W1 B 31 1 (.slice p.A p.n p.c) p.n 1 xs [v] (.slice A' (p.n + 1) c') W2) :
    PcO (W2.setCell ⟨gp, 34, none⟩ (.slice A' (p.n + 1) c')) B (withE p e A' c') ∧ Blk W2 gp 83 cs ∧ Kept (fun k => some k = Value.ownBlock (.slice p.A p.n p.c) ∨ k = gp) W (W2.setCell ⟨gp, 34, none⟩ (.slice A' (p.n + 1) c')) := by
  have K1 : Kept (fun k => some k = Value.ownBlock (.slice p.A p.n p.c)) W W2 := keptE hb (grew_kept hG)
  have K2 : Kept (fun k => some k = Value.ownBlock (.slice p.A p.n p.c) ∨ k = gp) W (W2.setCell ⟨gp, 34, none⟩ (.slice A' (p.n + 1) c')) := (K1.mono (fun _ _ x => .inl x)).setCell (.inl (.inr rfl)) _
  have K3 : Kept (fun k => k = gp) W2 (W2.setCell ⟨gp, 34, none⟩ (.slice A' (p.n + 1) c')) := (Kept.refl (fun k => k = gp) W2).setCell (.inl rfl) _
  have hbk2 : Blk W2 gp 83 cs := hgp.kept K1 (blk_own hgp hoe (by decide))
  have hno : ∀ {e : TypeId} {size n : Nat} {v : Value} {ys : List Value}, W.ownsRow B e size v n ys → e ≠ 31 → e ≠ 83 → (W2.setCell ⟨gp, 34, none⟩ (.slice A' (p.n + 1) c')).ownsRow B e size v n ys := fun o n1 n2 => own_keep o K2 (fun k e s => s.elim (fun s => own_own o hoe n1 k e s.symm) (fun s => blk_own hgp o (fun x => n2 x.symm) (by rw [e, s])))
  obtain ⟨A, t, c, dl, h3, h4⟩ := h.ow
  have hO := own_keep hG.own K3 (fun k e s => blk_own hbk2 hG.own (by decide) (by rw [e, s]))
  refine ⟨⟨h.hb, ⟨xs ++ [v], hO, (htv.push hk hv).keep (fun v n ys o => hno o (by decide) (by decide))⟩, hno h.op (by decide) (by decide), ⟨A, t, c, dl, hno h3 (by decide) (by decide), h4⟩⟩, hbk2, K2⟩
theorem pushP (h : PcO W B p) (hgp : Blk W gp 83 cs) (hb : Below W.heap.size W W1) {x : Pr} {A' : Option Addr} {c' : Nat}
    (hG : Grew W1 B 51 3 (.slice p.A2 p.m p.c2) p.m 1 (p.ps.flatMap Pr.cells) x.cells (.slice A' (p.m + 1) c') W2) :
    (∀ W4, Below (W2.setCell ⟨gp, 35, none⟩ (.slice A' (p.m + 1) c')).heap.size (W2.setCell ⟨gp, 35, none⟩ (.slice A' (p.m + 1) c')) W4 → (RdD W4 x.A x.n x.ds ∧ x.n ≤ x.c) → (withP p x A' c').Ok W4) ∧ Blk W2 gp 83 cs ∧ Kept (fun k => some k = Value.ownBlock (.slice p.A2 p.m p.c2) ∨ k = gp) W (W2.setCell ⟨gp, 35, none⟩ (.slice A' (p.m + 1) c')) := by
  have K1 : Kept (fun k => some k = Value.ownBlock (.slice p.A2 p.m p.c2)) W W2 := keptE hb (grew_kept hG)
  have K2 : Kept (fun k => some k = Value.ownBlock (.slice p.A2 p.m p.c2) ∨ k = gp) W (W2.setCell ⟨gp, 35, none⟩ (.slice A' (p.m + 1) c')) := (K1.mono (fun _ _ x => .inl x)).setCell (.inl (.inr rfl)) _
  have K3 : Kept (fun k => k = gp) W2 (W2.setCell ⟨gp, 35, none⟩ (.slice A' (p.m + 1) c')) := (Kept.refl (fun k => k = gp) W2).setCell (.inl rfl) _
  have hbk2 : Blk W2 gp 83 cs := hgp.kept K1 (blk_own hgp h.op (by decide))
  have hno : ∀ {e : TypeId} {size n : Nat} {v : Value} {ys : List Value}, W.ownsRow B e size v n ys → e ≠ 51 → e ≠ 83 → (W2.setCell ⟨gp, 35, none⟩ (.slice A' (p.m + 1) c')).ownsRow B e size v n ys := fun o n1 n2 => own_keep o K2 (fun k e s => s.elim (fun s => own_own o h.op n1 k e s.symm) (fun s => blk_own hgp o (fun x => n2 x.symm) (by rw [e, s])))
  obtain ⟨A, t, c, dl, h3, h4, h5, h6⟩ := h.ow
  obtain ⟨xs, hoe, htv⟩ := h.oe
  refine ⟨fun W4 hb4 hx => ?_, hbk2, K2⟩
  have up : ∀ {e : TypeId} {size n : Nat} {v : Value} {ys : List Value}, W.ownsRow B e size v n ys → e ≠ 51 → e ≠ 83 → W4.ownsRow B e size v n ys := fun o n1 n2 => own_keep (hno o n1 n2) (Kept.of_below (S := fun _ => False) hb4) (fun _ _ x => x)
  have hP := own_keep (own_keep hG.own K3 (fun k e s => blk_own hbk2 hG.own (by decide) (by rw [e, s]))) (Kept.of_below (S := fun _ => False) hb4) (fun _ _ x => x)
  obtain ⟨A1, c1, e1, -, -, hp, hl⟩ := Tov.pieces (up hoe (by decide) (by decide)) (htv.keep (fun v n ys o => up o (by decide) (by decide)))
  injection e1 with e1 _ _
  subst e1
  obtain ⟨A2, c2, e2, -, -, -, hr2, -⟩ := Own.reads hP
  injection e2 with e2 _ _
  subst e2
  obtain ⟨A3, c3, e3, -, -, -, hr3, -⟩ := Own.reads (up h3 (by decide) (by decide))
  injection e3 with e3 _ _
  subst e3
  have hl2 : (p.ps ++ [x]).length = p.m + 1 := by rw [List.length_append, List.length_singleton, h.lenP]
  refine ⟨h.hb, hl, hl2, hp, ⟨?_, fun y hy => ?_⟩⟩
  · show Reads W4 3 A' (p.ps ++ [x]).length ((p.ps ++ [x]).flatMap Pr.cells)
    rw [hl2, List.flatMap_append, List.flatMap_singleton]
    exact hr2
  · rcases List.mem_append.1 hy with hy | hy
    · exact h6 W4 ⟨h4, h5, hr3⟩ y hy
    · obtain rfl : y = x := by simpa using hy
      exact hx
end
end Go.Proofs.YtgldkfaiofkhbaaDoor.JoinM

namespace Go.Proofs.YtgldkfaiofkhbaaDoor.JoinQ
open Go Go.RowKit Go.Proofs.YtgldkfaiofkhbaaDoor Go.Proofs.YtgldkfaiofkhbaaDoor.Mem Go.Proofs.YtgldkfaiofkhbaaDoor.Sha Go.Proofs.YtgldkfaiofkhbaaDoor.Bytes Go.Proofs.YtgldkfaiofkhbaaDoor.TreeMem Go.Proofs.YtgldkfaiofkhbaaDoor.PieceP Go.Proofs.YtgldkfaiofkhbaaDoor.PieceRow Go.Proofs.YtgldkfaiofkhbaaDoor.PieceBegins Go.Proofs.YtgldkfaiofkhbaaDoor.Prs Go.Proofs.YtgldkfaiofkhbaaDoor.Reach Go.Proofs.YtgldkfaiofkhbaaDoor.PieceLay Go.Proofs.YtgldkfaiofkhbaaDoor.SamePiece Go.Proofs.YtgldkfaiofkhbaaDoor.Pcs Go.Proofs.YtgldkfaiofkhbaaDoor.CutP Go.Proofs.YtgldkfaiofkhbaaDoor.CutQ Go.Proofs.YtgldkfaiofkhbaaDoor.PiecesW Go.Proofs.YtgldkfaiofkhbaaDoor.JoinP

theorem items_alike {ps qs : List Pr} (h : SamePiece.Alike ps qs) (es : List Text) : itemsOf es ps = itemsOf es qs := by
  have e : ∀ l : List Pr, itemsOf es l = List.zipWith (fun (e : Text) (k : Int × Int × Nat × List Text) => (⟨e.length, k.1, k.2.1, k.2.2.1, PieceRow.fitB k.1 k.2.1 k.2.2.1 e.length⟩ : PieceP.Item)) es (l.map (fun p => (p.x, p.y, p.n, p.ds))) := fun l => by
    rw [List.zipWith_map_right]
    rfl
  rw [e, e, h]
theorem first_alike {ps qs : List Pr} (h : SamePiece.Alike ps qs) : firstSize ps = firstSize qs := by
  cases ps with
  | nil =>
    have := h.len
    cases qs with
    | nil => rfl
    | cons q qs => simp at this
  | cons p ps =>
    cases qs with
    | nil => have := h.len; simp at this
    | cons q qs => exact (h.at_ (i := 0) rfl rfl).1
theorem items_take (es : List Text) (ps : List Pr) (l : Nat) : itemsOf (es.take l) (ps.take l) = (itemsOf es ps).take l := by
  unfold itemsOf
  rw [List.take_zipWith]
theorem rises_take (sz : Int) : ∀ (l : List PieceP.Item) (p : Option Int) (m : Nat), rises sz p l = true → rises sz p (l.take m) = true
  | [], _, m, _ => by rw [List.take_nil]; rfl
  | x :: l, p, 0, _ => rfl
  | x :: l, p, m + 1, h => by
    have h : (decide (x.size = sz) && (!PieceP.low p x.num && rises sz (some x.num) l)) = true := h
    show (decide (x.size = sz) && (!PieceP.low p x.num && rises sz (some x.num) (l.take m))) = true
    simp only [Bool.and_eq_true] at h ⊢
    exact ⟨h.1, h.2.1, rises_take sz l _ m h.2.2⟩
theorem items_nil (es : List Text) : itemsOf es [] = [] := by unfold itemsOf; rw [List.zipWith_nil_right]
/-- The first size of a part. -/
theorem first_part {es : List Text} {ps : List Pr} (hlen : es.length = ps.length) (hr : rises (firstSize ps) none (itemsOf es ps) = true) {lo m : Nat} (hlo : lo < es.length) (hm : m ≠ 0) : firstSize ((ps.drop lo).take m) = firstSize ps := by
  have hp : ps[lo]? = some (ps[lo]'(by omega)) := List.getElem?_eq_getElem _
  have he : es[lo]? = some es[lo] := List.getElem?_eq_getElem _
  have hx := rises_size _ _ _ hr _ (List.mem_of_getElem? (CutQ.items_at he hp))
  rw [← hx]
  show _ = (ps[lo]'(by omega)).x
  rw [List.drop_eq_getElem_cons (by omega)]
  cases m with
  | zero => exact absurd rfl hm
  | succ m => rfl
theorem reach_part {s : ByteArray} {F : Int} {b : Text} {es qes : List Text} {ps qs : List Pr} {lo m : Nat} (hlen : es.length = ps.length) (hr : rises (firstSize ps) none (itemsOf es ps) = true) (hb : begB s.data.toList F b = true) (hlo : lo < es.length) (hm : m ≠ 0) (h1 : qes = (es.drop lo).take m) (h2 : SamePiece.Alike qs ((ps.drop lo).take m)) :
    reachN s F b qes qs = reachFrom F (firstSize ps) 0 (54 + s.size) none (((itemsOf es ps).drop lo).take m) := by
  unfold reachN
  rw [if_pos hb, items_alike h2, first_alike h2, h1, items_take, items_drop, first_part hlen hr hlo hm]
theorem join_ok {s : ByteArray} {F : Int} {b : Text} {es qes : List Text} {ps qs : List Pr} {lo n : Nat} (hlen : es.length = ps.length) (hr : rises (firstSize ps) none (itemsOf es ps) = true) (hb : begB s.data.toList F b = true) (hlo : lo + n ≤ es.length) (hn : n ≠ 0) (hre : reachFrom F (firstSize ps) 0 (54 + s.size) none ((itemsOf es ps).drop lo) = n) (h1 : qes = (es.drop lo).take n) (h2 : SamePiece.Alike qs ((ps.drop lo).take n)) : okP s F b qes qs := by
  have l1 : qes.length = n := by rw [h1, List.length_take, List.length_drop]; omega
  have l2 : qs.length = n := by rw [h2.len, List.length_take, List.length_drop]; omega
  refine ⟨by omega, by omega, ?_⟩
  rw [reach_part hlen hr hb (by omega) hn h1 h2, reach_take _ _ _ _ _ _ _ (by omega), l1]
  omega
theorem join_no {s : ByteArray} {F : Int} {b : Text} {es qes : List Text} {ps qs : List Pr} {lo n : Nat} (hlen : es.length = ps.length) (hr : rises (firstSize ps) none (itemsOf es ps) = true) (hb : begB s.data.toList F b = true) (hlo : lo + n < es.length) (hre : reachFrom F (firstSize ps) 0 (54 + s.size) none ((itemsOf es ps).drop lo) = n) (h1 : qes = (es.drop lo).take n) (h2 : SamePiece.Alike qs ((ps.drop lo).take n)) {e : Text} {x y : Pr} (he : es[lo + n]? = some e) (hy : ps[lo + n]? = some y) (hx : SamePiece.Alike [x] [y]) : ¬ okP s F b (qes ++ [e]) (qs ++ [x]) := by
  have l1 : qes.length = n := by rw [h1, List.length_take, List.length_drop]; omega
  have e1 : qes ++ [e] = (es.drop lo).take (n + 1) := by rw [List.take_add_one, List.getElem?_drop, he, h1]; rfl
  have e2 : SamePiece.Alike (qs ++ [x]) ((ps.drop lo).take (n + 1)) := by
    rw [List.take_add_one, List.getElem?_drop, hy]
    unfold SamePiece.Alike at h2 hx ⊢
    rw [List.map_append, h2, hx, List.map_append]
    rfl
  rintro ⟨-, -, h3⟩
  rw [reach_part hlen hr hb (by omega) (by omega) e1 e2, reach_more _ _ _ _ _ _ _ (by omega), List.length_append, List.length_singleton] at h3
  omega

/-! ### The pieces one behind the other -/
theorem cutsW_some {wd : Int} {s : ByteArray} {F : Int} {b : Text} {es : List Text} {ps : List Pr} {ks : List Cut} (h : cutsW wd s F b es ps = some ks) : es.length = ps.length ∧ begB s.data.toList F b = true ∧ rises (firstSize ps) none (itemsOf es ps) = true ∧ Chn (firstSize ps) (54 + s.size) (Chain.chainOf wd) es (itemsOf es ps) F b 0 ks := by
  unfold cutsW at h
  split at h
  · rename_i hc
    exact ⟨hc.1, hc.2.1, hc.2.2, cuts_chn _ _ _ _ _ h⟩
  · cases h
/-- Where the walk over the pieces stands. -/
structure Jn (wd : Int) (s : ByteArray) (F : Int) (b : Text) (es : List Text) (ps : List Pr) (ks : List Cut) (i : Nat) (F' : Int) (b' : Text) (lo : Nat) : Prop where
  chn : Chn (firstSize ps) (54 + s.size) (Chain.chainOf wd) es (itemsOf es ps) F' b' lo (ks.drop i)
  F : F' = F + (lo : Nat)
  b : b' = Chain.chainOf wd b (es.take lo)
  lo : lo ≤ es.length
  beg : begB s.data.toList F' b' = true
  le : i ≤ ks.length
section
variable {wd : Int} {s : ByteArray} {F F' : Int} {b b' : Text} {es : List Text} {ps : List Pr} {ks : List Cut} {i lo : Nat}
theorem Jn.start (h : cutsW wd s F b es ps = some ks) : Jn wd s F b es ps ks 0 F b 0 :=
  ⟨(cutsW_some h).2.2.2, by simp, rfl, Nat.zero_le _, (cutsW_some h).2.1, Nat.zero_le _⟩
theorem Jn.next (hlen : es.length = ps.length) (h : Jn wd s F b es ps ks i F' b' lo) (hi : i < ks.length) : ∃ n, ks[i]? = some ⟨F', b', lo, n⟩ ∧ n ≠ 0 ∧ lo + n ≤ es.length ∧ reachFrom F' (firstSize ps) 0 (54 + s.size) none ((itemsOf es ps).drop lo) = n ∧ Jn wd s F b es ps ks (i + 1) (F' + (n : Nat)) (Chain.chainOf wd b' ((es.drop lo).take n)) (lo + n) := by
  have hc := h.chn
  rw [List.drop_eq_getElem_cons hi] at hc
  have hk : ks[i]? = some ks[i] := List.getElem?_eq_getElem hi
  generalize ks[i] = k at hc hk
  cases hc with
  | @more _ _ _ n _ hlt hr hn hrest =>
    have hle : n ≤ (itemsOf es ps).length - lo := by
      have := reach_le F' (firstSize ps) ((itemsOf es ps).drop lo) 0 (54 + s.size) none
      rw [hr, List.length_drop] at this
      omega
    rw [CutQ.items_len hlen] at hle
    refine ⟨n, hk, hn, by omega, hr, hrest, ?_, ?_, by omega, beg_next h.beg hn, hi⟩
    · have := h.F; omega
    · rw [h.b, ← Chain.chainOf_append, List.take_add]
theorem Jn.done (h : Jn wd s F b es ps ks i F' b' lo) (hi : i = ks.length) : lo = es.length ∧ b' = Chain.chainOf wd b es := by
  have hc := h.chn
  rw [hi, List.drop_length] at hc
  have hl := h.lo
  cases hc with
  | done hd =>
    have e : lo = es.length := by omega
    exact ⟨e, by rw [h.b, e, List.take_length]⟩
end
/-- The pieces' lengths. -/
theorem chn_sum {sz : Int} {nb : Nat} {ch : Text → List Text → Text} {es : List Text} {its : List PieceP.Item} {F : Int} {b : Text} {lo : Nat} {ks : List Cut} (hlen : its.length = es.length) (h : Chn sz nb ch es its F b lo ks) : (ks.map (·.n)).sum = es.length - lo ∧ ∀ k ∈ ks, k.lo + k.n ≤ es.length := by
  induction h with
  | done hl => exact ⟨by simp; omega, fun k hk => by cases hk⟩
  | @more F b lo n l hlt hr hn h ih =>
    have hle : n ≤ its.length - lo := by
      have := reach_le F sz (its.drop lo) 0 nb none
      rw [hr, List.length_drop] at this
      omega
    refine ⟨by rw [List.map_cons, List.sum_cons, ih.1]; simp only; omega, fun k hk => ?_⟩
    rcases List.mem_cons.1 hk with rfl | hk
    · simp only; omega
    · exact ih.2 k hk
section
variable {wd : Int} {s : ByteArray} {F : Int} {b : Text} {es : List Text} {ps : List Pr} {ks : List Cut} {l : List Pc}
theorem says_len (h : cutsW wd s F b es ps = some ks) (hs : SaysR s es ps l ks) {i : Nat} {p : Pc} {k : Cut} (hp : l[i]? = some p) (hk : ks[i]? = some k) : p.es.length = k.n := by
  obtain ⟨hlen, -, -, hc⟩ := cutsW_some h
  have := (chn_sum (CutQ.items_len hlen) hc).2 k (List.mem_of_getElem? hk)
  rw [(hs.2 i p k hp hk).2.2.2.1, List.length_take, List.length_drop]
  omega
theorem says_sum (h : cutsW wd s F b es ps = some ks) (hs : SaysR s es ps l ks) : (l.map (fun p => p.es.length)).sum = es.length := by
  obtain ⟨hlen, -, -, hc⟩ := cutsW_some h
  have e : l.map (fun p => p.es.length) = ks.map (·.n) := by
    refine List.ext_getElem (by simp [hs.1]) (fun i h1 h2 => ?_)
    rw [List.getElem_map, List.getElem_map]
    exact says_len h hs (List.getElem?_eq_getElem (by simpa using h1)) (List.getElem?_eq_getElem (by simpa using h2))
  rw [e, (chn_sum (CutQ.items_len hlen) hc).1]
  rfl
theorem says_last (h : cutsW wd s F b es ps = some ks) (hs : SaysR s es ps l ks) {p : Pc} (hp : l.getLast? = some p) : Chain.chainOf wd p.b p.es = Chain.chainOf wd b es := by
  obtain ⟨hlen, -, -, hc⟩ := cutsW_some h
  rw [List.getLast?_eq_getElem?] at hp
  have hi : l.length - 1 < l.length := (List.getElem?_eq_some_iff.1 hp).1
  have hk : ks[l.length - 1]? = some (ks[l.length - 1]'(by rw [← hs.1]; exact hi)) := List.getElem?_eq_getElem _
  generalize ks[l.length - 1]'(by rw [← hs.1]; exact hi) = k at hk
  have hl : ks.getLast? = some k := by rw [List.getLast?_eq_getElem?, ← hs.1]; exact hk
  obtain ⟨-, -, e3, e4, -⟩ := hs.2 _ p k hp hk
  have := (hc.last (CutQ.items_len hlen) (fun b x y => (Chain.chainOf_append wd b x y).symm) k hl).1
  rw [e3, e4, this, List.drop_zero]
theorem says_nil (h : cutsW wd s F b es ps = some ks) (hs : SaysR s es ps l ks) (hl : l = []) : es = [] := by
  have := says_sum h hs
  rw [hl] at this
  exact List.eq_nil_of_length_eq_zero (by simpa using this.symm)

/-! ### Cut at another place -/
theorem good_at (h : cutsW wd s F b es ps = some ks) {j : Nat} {x : PieceP.Item} (hx : (itemsOf es ps)[j]? = some x) : good (firstSize ps) (54 + s.size) (F + (j : Nat)) x := by
  obtain ⟨hlen, -, -, hc⟩ := cutsW_some h
  have := hc.good (CutQ.items_len hlen) j x (Nat.zero_le _) hx
  simpa using this
theorem cut_take (h : cutsW wd s F b es ps = some ks) (m : Nat) (hm : m ≤ es.length) : ∃ ka, cutsW wd s F b (es.take m) (ps.take m) = some ka := by
  obtain ⟨hlen, hb, hr, hc⟩ := cutsW_some h
  by_cases h0 : m = 0
  · subst h0
    refine ⟨[], ?_⟩
    unfold cutsW
    rw [if_pos ⟨by simp, hb, rfl⟩]
    rfl
  · have hf : firstSize (ps.take m) = firstSize ps := by
      have := first_part hlen hr (lo := 0) (m := m) (by omega) h0
      rwa [List.drop_zero] at this
    have hl : (itemsOf (es.take m) (ps.take m)).length = (es.take m).length := CutQ.items_len (by simp [hlen])
    obtain ⟨ka, hka⟩ := good_cuts (sz := firstSize ps) (nb := 54 + s.size) (ch := Chain.chainOf wd) (es := es.take m) (its := itemsOf (es.take m) (ps.take m)) hl (es.take m).length F b 0 (by omega) (fun j x _ hx => by
      rw [items_take, List.getElem?_take] at hx
      split at hx
      · have := good_at h hx
        simpa using this
      · cases hx)
    refine ⟨ka, ?_⟩
    unfold cutsW
    rw [if_pos ⟨by simp [hlen], hb, by rw [hf, items_take]; exact rises_take _ _ _ _ hr⟩, hf, hka]
theorem cut_drop (h : cutsW wd s F b es ps = some ks) (m : Nat) (hm : m ≤ es.length) (h0 : m ≠ 0) (b' : Text) : ∃ kb, cutsW wd s (F + (m : Nat)) b' (es.drop m) (ps.drop m) = some kb := by
  obtain ⟨hlen, hb, hr, hc⟩ := cutsW_some h
  have hb2 : begB s.data.toList (F + (m : Nat)) b' = true := beg_next hb h0
  by_cases he : m = es.length
  · subst he
    refine ⟨[], ?_⟩
    unfold cutsW
    rw [if_pos ⟨by simp [hlen], hb2, by rw [hlen, List.drop_length, ← hlen, items_nil]; rfl⟩, List.drop_length]
    rfl
  · have hf : firstSize (ps.drop m) = firstSize ps := by
      have := first_part hlen hr (lo := m) (m := ps.length) (by omega) (by omega)
      rwa [List.take_of_length_le (by rw [List.length_drop]; omega)] at this
    have hl : (itemsOf (es.drop m) (ps.drop m)).length = (es.drop m).length := CutQ.items_len (by simp [hlen])
    obtain ⟨kb, hkb⟩ := good_cuts (sz := firstSize ps) (nb := 54 + s.size) (ch := Chain.chainOf wd) (es := es.drop m) (its := itemsOf (es.drop m) (ps.drop m)) hl (es.drop m).length (F + (m : Nat)) b' 0 (by omega) (fun j x _ hx => by
      rw [items_drop, List.getElem?_drop] at hx
      have := good_at h hx
      have e : F + ((m + j : Nat) : Int) = F + (m : Nat) + ((j - 0 : Nat) : Int) := by omega
      rwa [e] at this)
    refine ⟨kb, ?_⟩
    unfold cutsW
    rw [if_pos ⟨by simp [hlen], hb2, by rw [hf, items_drop]; exact rises_drop _ _ _ _ hr⟩, hf, hkb]
end
/-- Both parts put together. -/
theorem joined {wd : Int} {s : ByteArray} {F : Int} {b : Text} {es : List Text} {ps : List Pr} {m : Nat} {ka kb : List Cut} {la lb : List Pc} (ha : cutsW wd s F b (es.take m) (ps.take m) = some ka) (hsa : SaysR s (es.take m) (ps.take m) la ka) (hb : cutsW wd s (F + (m : Nat)) (Chain.chainOf wd b (es.take m)) (es.drop m) (ps.drop m) = some kb) (hsb : SaysR s (es.drop m) (ps.drop m) lb kb) :
    ((la ++ lb).map (fun p => p.es.length)).sum = es.length ∧ ∀ p, (la ++ lb).getLast? = some p → Chain.chainOf wd p.b p.es = Chain.chainOf wd b es := by
  refine ⟨?_, fun p hp => ?_⟩
  · rw [List.map_append, List.sum_append, says_sum ha hsa, says_sum hb hsb, List.length_take, List.length_drop]
    omega
  · cases hl : lb.getLast? with
    | none =>
      have hn : lb = [] := List.getLast?_eq_none_iff.1 hl
      rw [hn, List.append_nil] at hp
      have he := says_nil hb hsb hn
      have ht := List.take_append_drop m es
      rw [he, List.append_nil] at ht
      rw [says_last ha hsa hp, ht]
    | some q =>
      have e : (la ++ lb).getLast? = some q := by rw [List.getLast?_append, hl]; rfl
      rw [e] at hp
      obtain rfl := Option.some.inj hp
      rw [says_last hb hsb hl, ← Chain.chainOf_append, List.take_append_drop]
end Go.Proofs.YtgldkfaiofkhbaaDoor.JoinQ
