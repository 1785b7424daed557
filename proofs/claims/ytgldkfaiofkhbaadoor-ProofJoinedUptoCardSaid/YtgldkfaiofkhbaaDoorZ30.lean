/-
  Texts of the claim, put into one file: PieceRead, PieceMem, Pcs, PieceMem2, CutM, CutO, HandM, Hand, CutWO, CutW, Intact17, DecPieceM, DecPiece, ReadPiece, Law17d, Law17e, CutQ, SpeltP.
-/
import Derived.Test.YtgldkfaiofkhbaaDoorZ29
import Derived.Test.YtgldkfaiofkhbaaDoorZ23
import Derived.Test.YtgldkfaiofkhbaaDoorZ5
import Derived.Test.YtgldkfaiofkhbaaDoorZ19
import Derived.Test.YtgldkfaiofkhbaaDoorZ4
import Derived.Test.YtgldkfaiofkhbaaDoorZ21
import Derived.Test.YtgldkfaiofkhbaaDoorZ17
import Derived.Test.YtgldkfaiofkhbaaDoorZ20
import Derived.Test.YtgldkfaiofkhbaaDoorZ16
import Derived.Test.YtgldkfaiofkhbaaDoorZ24
import Derived.Test.YtgldkfaiofkhbaaDoorZ3

namespace Go.Proofs.YtgldkfaiofkhbaaDoor.PieceRead
open Go Go.RowKit Go.Proofs.YtgldkfaiofkhbaaDoor Go.Proofs.YtgldkfaiofkhbaaDoor.Mem Go.Proofs.YtgldkfaiofkhbaaDoor.Sha Go.Proofs.YtgldkfaiofkhbaaDoor.Bytes Go.Proofs.YtgldkfaiofkhbaaDoor.Octet Go.Proofs.YtgldkfaiofkhbaaDoor.Octet4 Go.Proofs.YtgldkfaiofkhbaaDoor.TreeMem Go.Proofs.YtgldkfaiofkhbaaDoor.Reader Go.Proofs.YtgldkfaiofkhbaaDoor.Reader4 Go.Proofs.YtgldkfaiofkhbaaDoor.ProofBeside Go.Proofs.YtgldkfaiofkhbaaDoor.ProofEnc Go.Proofs.YtgldkfaiofkhbaaDoor.ProofIdx Go.Proofs.YtgldkfaiofkhbaaDoor.ProofIdx2 Go.Proofs.YtgldkfaiofkhbaaDoor.PieceP Go.Proofs.YtgldkfaiofkhbaaDoor.PieceRow Go.Proofs.YtgldkfaiofkhbaaDoor.PieceBegins Go.Proofs.YtgldkfaiofkhbaaDoor.Prs Go.Proofs.YtgldkfaiofkhbaaDoor.Reach Go.Proofs.YtgldkfaiofkhbaaDoor.PieceB Go.Proofs.YtgldkfaiofkhbaaDoor.PieceLay Go.Proofs.YtgldkfaiofkhbaaDoor.IdxMem

/-- How many digests the way of a number has. -/
def cz (Z y : Nat) : Nat := (PieceRow.bsNum (Z : Int) (y : Int)).toNat
def pcL (q : Text) : Nat := (q.getD 1 0).toNat
def pcS (q : Text) : Text := (q.drop 2).take (pcL q)
def pcF (q : Text) : Nat := n8 q (2 + pcL q)
def pcB (q : Text) : Text := (q.drop (10 + pcL q)).take 32
def pcZ (q : Text) : Nat := n8 q (42 + pcL q)
def pcN (q : Text) : Nat := n4 q (50 + pcL q)
def pcRows (q : Text) : List Row := rowsAt (cz (pcZ q)) q (54 + pcL q) (pcN q)
def pcEnd (q : Text) : Nat := endAt (cz (pcZ q)) q (54 + pcL q) (pcN q)
/-- A row as the count sees it. -/
def itemR (Z : Int) (r : Row) : PieceP.Item := ⟨r.e.length, Z, r.y, r.ds.length, fitB Z r.y r.ds.length r.e.length⟩
/-- May the rows be a piece? -/
def okR (s : ByteArray) (F : Int) (b : Text) (Z : Int) (rows : List Row) : Prop := begB s.data.toList F b = true ∧ 0 < rows.length ∧ rows.length ≤ 1000 ∧ goodFrom Z (54 + s.size) none (rows.map (itemR Z)) = true ∧ F ≤ Z - rows.length
instance (s : ByteArray) (F : Int) (b : Text) (Z : Int) (rows : List Row) : Decidable (okR s F b Z rows) := by unfold okR; infer_instance
/-- The rows, as proofs in memory. -/
def PsOf (Z : Int) (rows : List Row) (ps : List Pr) : Prop := ps.map (fun p => (p.x, p.y, p.n, p.ds)) = rows.map (fun r => (Z, (r.y : Int), r.ds.length, r.ds))
theorem PsOf.len {Z : Int} {rows : List Row} {ps : List Pr} (h : PsOf Z rows ps) : ps.length = rows.length := by
  have := congrArg List.length h
  simpa using this
theorem PsOf.at_ {Z : Int} {rows : List Row} {ps : List Pr} (h : PsOf Z rows ps) {i : Nat} {p : Pr} {r : Row} (hp : ps[i]? = some p) (hr : rows[i]? = some r) : p.x = Z ∧ p.y = (r.y : Int) ∧ p.n = r.ds.length ∧ p.ds = r.ds := by
  have e := congrArg (fun l => l[i]?) h
  simp only [List.getElem?_map, hp, hr, Option.map_some, Option.some.injEq, Prod.mk.injEq] at e
  exact e
theorem PsOf.nil_ (Z : Int) : PsOf Z [] [] := rfl
/-- Are these bytes a piece? -/
def pcOk (q : Text) : Prop := q.getD 0 0 = 51 ∧ pcEnd q = q.length ∧ okR (strT (pcS q)) (pcF q : Int) (pcB q) (pcZ q : Int) (pcRows q)
instance (q : Text) : Decidable (pcOk q) := by unfold pcOk; infer_instance
structure Ans where
  s : ByteArray
  F : Int
  b : Text
  Z : Int
  rows : List Row
  err : Int
theorem two {q : Text} (h : 2 ≤ q.length) : q = [q.getD 0 0, q.getD 1 0] ++ q.drop 2 := by
  match q, h with
  | a :: b :: r, _ => rfl
  | [_], h => simp at h
  | [], h => simp at h
end Go.Proofs.YtgldkfaiofkhbaaDoor.PieceRead

namespace Go.Proofs.YtgldkfaiofkhbaaDoor.PieceMem
open Go Go.RowKit Go.Proofs.YtgldkfaiofkhbaaDoor Go.Proofs.YtgldkfaiofkhbaaDoor.Mem Go.Proofs.YtgldkfaiofkhbaaDoor.Sha Go.Proofs.YtgldkfaiofkhbaaDoor.Bytes Go.Proofs.YtgldkfaiofkhbaaDoor.Append Go.Proofs.YtgldkfaiofkhbaaDoor.Own Go.Proofs.YtgldkfaiofkhbaaDoor.TreeMem Go.Proofs.YtgldkfaiofkhbaaDoor.Prs Go.Proofs.YtgldkfaiofkhbaaDoor.PieceLay Go.Proofs.YtgldkfaiofkhbaaDoor.HeadMem

/-! ### What lies in a block of another type is apart -/
theorem blk_own {w : World} {g B size n : Nat} {t e : TypeId} {cs : Array Value} {v : Value} {xs : List Value} (hb : Blk w g t cs) (ho : w.ownsRow B e size v n xs) (hne : t ≠ e) : some g ≠ v.ownBlock := fun h => by
  rcases ho.2 with ⟨rfl, -⟩ | ⟨g', cap, cur, rfl, -, h3, -⟩
  · cases h
  · obtain rfl : g = g' := Option.some.inj h
    have h2 : w.heap[g]? = some (.cells cs t (0, 0)) := hb
    rw [h3] at h2
    injection h2 with h2
    injection h2 with _ h2
    exact hne h2.symm
theorem own_own {w : World} {B B' size n size' n' : Nat} {e e' : TypeId} {v v' : Value} {xs xs' : List Value} (h : w.ownsRow B e size v n xs) (h' : w.ownsRow B' e' size' v' n' xs') (hne : e ≠ e') : ∀ k, v.ownBlock = some k → v'.ownBlock ≠ some k := fun k hk => by
  rcases h.2 with ⟨rfl, -⟩ | ⟨g, cap, cur, rfl, -, h3, -⟩
  · cases hk
  · obtain rfl : g = k := Option.some.inj hk
    exact fun e2 => blk_own (g := g) (t := e) (cs := cur) h3 h' hne e2.symm
theorem own_keep {S : Nat → Prop} {w w' : World} {base e size n : Nat} {v : Value} {xs : List Value} (h : w.ownsRow base e size v n xs) (hk : Kept S w w') (hS : ∀ k, v.ownBlock = some k → ¬ S k) : w'.ownsRow base e size v n xs := by
  refine ⟨h.1, h.2.imp id fun ⟨g, cap, cur, h1, h2, h3, h4⟩ => ⟨g, cap, cur, h1, h2, ?_, h4⟩⟩
  rw [hk.block g (Array.getElem?_eq_some_iff.1 h3).1 (hS g (by rw [h1]; rfl)), h3]
theorem grew_kept {w w' : World} {base e size n m : Nat} {v v' : Value} {xs news : List Value} (h : Grew w base e size v n m xs news v' w') : Kept (fun k => some k = v.ownBlock) w w' := ⟨h.grow.os, h.grow.tape, h.grow.output, h.grow.size, fun k hk hne => h.grow.block k hk hne⟩
theorem grew_new {w w' : World} {base e size n m : Nat} {v v' : Value} {xs news : List Value} (h : Grew w base e size v n m xs news v' w') : ∀ k, v'.ownBlock = some k → v.ownBlock = some k ∨ w.heap.size ≤ k := fun k hk => by
  rcases h.at_ with h1 | h1
  · exact .inl (h1.symm.trans hk)
  · rw [h1] at hk
    exact .inr (Nat.le_of_eq (Option.some.inj hk))

/-! ### Texts in a row -/
/-- Each text of a row lies somewhere, apart from the blocks that turn. -/
def Txa (w : World) (X : Nat → Prop) (xs : List Value) (ts : List Text) : Prop := xs.length = ts.length ∧ ∀ (i : Nat) (q : Text), ts[i]? = some q → ∃ A c, xs[i]? = some (.slice A q.length c) ∧ q.length ≤ c ∧ (A = none → q.length = 0 ∧ c = 0) ∧ Reads w 1 A q.length (cells8 q) ∧ ∀ a, A = some a → 0 < q.length → a.block < w.heap.size ∧ ¬ X a.block
theorem Txa.nil_ (w : World) (X : Nat → Prop) : Txa w X [] [] := ⟨rfl, fun i q h => by cases h⟩
theorem Txa.step {w w' : World} {X X' S : Nat → Prop} {xs : List Value} {ts : List Text} (h : Txa w X xs ts) (hk : Kept S w w') (hS : ∀ k, k < w.heap.size → S k → X k) (hX : ∀ k, k < w.heap.size → X' k → X k) : Txa w' X' xs ts := ⟨h.1, fun i q hq => by
  obtain ⟨A, c, a1, a2, a3, a4, a5⟩ := h.2 i q hq
  refine ⟨A, c, a1, a2, a3, a4.kept0 hk (fun h0 b o e hs => (a5 _ e (by omega)).2 (hS b (a5 _ e (by omega)).1 hs)), fun a e h0 => ⟨Nat.lt_of_lt_of_le (a5 a e h0).1 hk.size, fun hx => (a5 a e h0).2 (hX _ (a5 a e h0).1 hx)⟩⟩⟩
theorem Txa.push {w : World} {X : Nat → Prop} {xs : List Value} {ts : List Text} (h : Txa w X xs ts) {A : Option Addr} {c k : Nat} {q : Text} (hk : q.length = k) (hc : k ≤ c) (hn : A = none → k = 0 ∧ c = 0) (hr : Reads w 1 A k (cells8 q)) (ha : ∀ a, A = some a → 0 < k → a.block < w.heap.size ∧ ¬ X a.block) : Txa w X (xs ++ [.slice A k c]) (ts ++ [q]) := by
  subst hk
  refine ⟨by simp [h.1], fun i p hp => ?_⟩
  rcases Nat.lt_or_ge i ts.length with hi | hi
  · rw [List.getElem?_append_left hi] at hp
    obtain ⟨A', c', a1, a2⟩ := h.2 i p hp
    exact ⟨A', c', by rw [List.getElem?_append_left (by have := h.1; omega)]; exact a1, a2⟩
  · rw [List.getElem?_append_right hi] at hp
    have hi0 : i = ts.length := by
      have := (List.getElem?_eq_some_iff.1 hp).1
      simp at this
      omega
    subst hi0
    rw [Nat.sub_self] at hp
    obtain rfl := Option.some.inj hp
    exact ⟨A, c, by rw [← h.1, List.getElem?_append_right (Nat.le_refl _), Nat.sub_self]; rfl, hc, hn, hr, ha⟩
theorem Txa.one {w : World} {X : Nat → Prop} {xs : List Value} {ts : List Text} (h : Txa w X xs ts) : ∀ u ∈ xs, u.oneCell' = true := by
  intro u hu
  obtain ⟨j, hj, rfl⟩ := List.mem_iff_getElem.1 hu
  obtain ⟨A, c, h1, -⟩ := h.2 j _ (List.getElem?_eq_getElem (show j < ts.length by have := h.1; omega))
  rw [List.getElem?_eq_getElem hj] at h1
  rw [Option.some.inj h1]
  rfl
theorem Txa.pieces {w : World} {X : Nat → Prop} {B : Nat} {v : Value} {xs : List Value} {ts : List Text} {n : Nat} (hO : w.ownsRow B 31 1 v n xs) (hx : Txa w X xs ts) : ∃ A c, v = .slice A n c ∧ n ≤ c ∧ (A = none → n = 0 ∧ c = 0) ∧ Pieces w A ts ∧ ts.length = n := by
  obtain ⟨A, c, e, hc, -, hnil, hr, -⟩ := Own.reads hO
  have hl : ts.length = n := by have := hO.1; have := hx.1; omega
  refine ⟨A, c, e, hc, hnil, fun h0 => ?_, hl⟩
  obtain ⟨b, o, e1, hb, hcs⟩ := hr.at_ (by omega)
  refine ⟨b, o, e1, hb, fun i q hq => ?_⟩
  obtain ⟨A', c', a1, a2, a3, a4, -⟩ := hx.2 i q hq
  exact ⟨A', c', hcs i _ a1, a2, a4, a3⟩

/-! ### Proofs in a row -/
def Pra (w : World) (X : Nat → Prop) (ps : List Pr) : Prop := ∀ p ∈ ps, RdD w p.A p.n p.ds ∧ p.n ≤ p.c ∧ ∀ a, p.A = some a → a.block < w.heap.size ∧ ¬ X a.block
theorem Pra.nil_ (w : World) (X : Nat → Prop) : Pra w X [] := fun p h => by cases h
theorem Pra.step {w w' : World} {X X' S : Nat → Prop} {ps : List Pr} (h : Pra w X ps) (hk : Kept S w w') (hS : ∀ k, k < w.heap.size → S k → X k) (hX : ∀ k, k < w.heap.size → X' k → X k) : Pra w' X' ps := fun p hp => by
  obtain ⟨a1, a2, a3⟩ := h p hp
  exact ⟨⟨a1.1, a1.2.1, a1.2.2.kept hk (fun b o e hs => (a3 _ e).2 (hS b (a3 _ e).1 hs))⟩, a2, fun a e => ⟨Nat.lt_of_lt_of_le (a3 a e).1 hk.size, fun hx => (a3 a e).2 (hX _ (a3 a e).1 hx)⟩⟩
theorem Pra.push {w : World} {X : Nat → Prop} {ps : List Pr} (h : Pra w X ps) {p : Pr} (h1 : RdD w p.A p.n p.ds) (h2 : p.n ≤ p.c) (h3 : ∀ a, p.A = some a → a.block < w.heap.size ∧ ¬ X a.block) : Pra w X (ps ++ [p]) := fun x hx => by
  rcases List.mem_append.1 hx with hx | hx
  · exact h x hx
  · obtain rfl := List.mem_singleton.1 hx
    exact ⟨h1, h2, h3⟩
theorem flat_len (ps : List Pr) : (ps.flatMap Pr.cells).length = 3 * ps.length := by
  induction ps with
  | nil => rfl
  | cons p ps ih =>
    rw [List.flatMap_cons, List.length_append, ih, List.length_cons]
    show 3 + _ = _
    omega
theorem Pra.prs {w : World} {X : Nat → Prop} {B : Nat} {v : Value} {ps : List Pr} {n : Nat} (hO : w.ownsRow B 51 3 v n (ps.flatMap Pr.cells)) (hx : Pra w X ps) : ∃ A c, v = .slice A n c ∧ n ≤ c ∧ (A = none → n = 0 ∧ c = 0) ∧ Prs w A ps ∧ ps.length = n := by
  obtain ⟨A, c, e, hc, -, hnil, hr, -⟩ := Own.reads hO
  have hl : ps.length = n := by have := hO.1; rw [flat_len] at this; omega
  exact ⟨A, c, e, hc, hnil, ⟨by rw [hl]; exact hr, fun p hp => ⟨(hx p hp).1, (hx p hp).2.1⟩⟩, hl⟩
theorem flat_snoc (ps : List Pr) (p : Pr) : (ps ++ [p]).flatMap Pr.cells = ps.flatMap Pr.cells ++ p.cells := by rw [List.flatMap_append, List.flatMap_singleton]

/-! ### A piece in a block -/
section
variable {s s' : ByteArray} {F F' : Int} {b b' : Text} {E E' P P' : Value}
theorem pc_set0 : (pieceCells s F b E P).toArray.setIfInBounds 0 (.string s') = (pieceCells s' F b E P).toArray := by
  rw [List.setIfInBounds_toArray]
  rfl
theorem pc_set1 : (pieceCells s F b E P).toArray.setIfInBounds 1 (.int .i64 F') = (pieceCells s F' b E P).toArray := by
  rw [List.setIfInBounds_toArray]
  rfl
theorem pc_setE (hb : b.length = 32) : (pieceCells s F b E P).toArray.setIfInBounds 34 E' = (pieceCells s F b E' P).toArray := by
  rw [List.setIfInBounds_toArray]
  congr 1
  unfold pieceCells
  rw [List.set_append_right _ _ (by simp [cells8_len, hb])]
  simp [cells8_len, hb]
theorem pc_setP (hb : b.length = 32) : (pieceCells s F b E P).toArray.setIfInBounds 35 P' = (pieceCells s F b E P').toArray := by
  rw [List.setIfInBounds_toArray]
  congr 1
  unfold pieceCells
  rw [List.set_append_right _ _ (by simp [cells8_len, hb])]
  simp [cells8_len, hb]
theorem pc_setB (h : b.length = 32) (h' : b'.length = 32) : (((pieceCells s F b E P).toArray.toList.take 2 ++ (cells8 b').toArray.toList ++ (pieceCells s F b E P).toArray.toList.drop (2 + (cells8 b').toArray.size)).toArray : Array Value) = (pieceCells s F b' E P).toArray := by
  have hz : (cells8 b').toArray.size = 32 := by rw [List.size_toArray, cells8_len, h']
  rw [hz]
  congr 1
  have e : pieceCells s F b E P = [Value.string s, Value.int .i64 F] ++ cells8 b ++ [E, P] := rfl
  show (pieceCells s F b E P).take 2 ++ cells8 b' ++ (pieceCells s F b E P).drop (2 + 32) = _
  rw [e]
  have t1 : ([Value.string s, Value.int .i64 F] ++ cells8 b ++ [E, P]).take 2 = [Value.string s, Value.int .i64 F] := by simp
  have t2 : ([Value.string s, Value.int .i64 F] ++ cells8 b ++ [E, P]).drop (2 + 32) = [E, P] := by rw [List.drop_left' (by simp [cells8_len, h])]
  rw [t1, t2]
  rfl
theorem pc_size (hb : b.length = 32) : (pieceCells s F b E P).toArray.size = 36 := by rw [List.size_toArray, pc_len hb]
theorem pc_fit (hb : b.length = 32) : 2 + 32 ≤ (pieceCells s F b E P).toArray.size := by rw [pc_size hb]; omega
theorem cells8_one {t : Text} (v : Value) (hv : v ∈ cells8 t) : v.oneCell' = true := by
  unfold cells8 at hv
  obtain ⟨x, -, rfl⟩ := List.mem_map.1 hv
  rfl
theorem pc_one (hE : E.oneCell' = true) (hP : P.oneCell' = true) : ((pieceCells s F b E P).toArray.all fun v => v.oneCell') = true := by
  rw [List.all_toArray]
  refine List.all_eq_true.2 fun v hv => ?_
  simp only [pieceCells, List.mem_append, List.mem_cons, List.not_mem_nil, or_false] at hv
  rcases hv with ((rfl | rfl) | h) | (rfl | rfl)
  · rfl
  · rfl
  · exact cells8_one v h
  · exact hE
  · exact hP
theorem pc_info (hb : b.length = 32) : (Tryd.prog.info? 83).map (·.size) = some (pieceCells s F b E P).toArray.size := by rw [pc_size hb]; exact size36
end
/-- The zero api.Piece. -/
def zP : Array Value := (pieceCells ByteArray.empty 0 (List.replicate 32 0) (.slice none 0 0) (.slice none 0 0)).toArray
end Go.Proofs.YtgldkfaiofkhbaaDoor.PieceMem

namespace Go.Proofs.YtgldkfaiofkhbaaDoor.Pcs
open Go Go.RowKit Go.Proofs.YtgldkfaiofkhbaaDoor Go.Proofs.YtgldkfaiofkhbaaDoor.Mem Go.Proofs.YtgldkfaiofkhbaaDoor.Sha Go.Proofs.YtgldkfaiofkhbaaDoor.Bytes Go.Proofs.YtgldkfaiofkhbaaDoor.TreeMem Go.Proofs.YtgldkfaiofkhbaaDoor.Held Go.Proofs.YtgldkfaiofkhbaaDoor.Grown Go.Proofs.YtgldkfaiofkhbaaDoor.Guard Go.Proofs.YtgldkfaiofkhbaaDoor.Guard2 Go.Proofs.YtgldkfaiofkhbaaDoor.Want Go.Proofs.YtgldkfaiofkhbaaDoor.Plain Go.Proofs.YtgldkfaiofkhbaaDoor.HeadMem Go.Proofs.YtgldkfaiofkhbaaDoor.StructEq Go.Proofs.YtgldkfaiofkhbaaDoor.ProofEnc Go.Proofs.YtgldkfaiofkhbaaDoor.ProofIdx Go.Proofs.YtgldkfaiofkhbaaDoor.SameIdx Go.Proofs.YtgldkfaiofkhbaaDoor.Prs Go.Proofs.YtgldkfaiofkhbaaDoor.Reach2 Go.Proofs.YtgldkfaiofkhbaaDoor.PieceLay Go.Proofs.YtgldkfaiofkhbaaDoor.SamePiece Go.Proofs.YtgldkfaiofkhbaaDoor.PieceMem

/-- A piece in a row: what it says, and where its rows lie. -/
structure Pc where
  s : ByteArray
  F : Int
  b : Text
  es : List Text
  ps : List Pr
  A : Option Addr
  n : Nat
  c : Nat
  A2 : Option Addr
  m : Nat
  c2 : Nat
def Pc.cells (p : Pc) : List Value := pieceCells p.s p.F p.b (.slice p.A p.n p.c) (.slice p.A2 p.m p.c2)
/-- What it says lies there. -/
structure Pc.Ok (w : World) (p : Pc) : Prop where
  hb : p.b.length = 32
  he : p.es.length = p.n
  hp : p.ps.length = p.m
  e : Pieces w p.A p.es
  p : Prs w p.A2 p.ps
theorem Pc.Ok.below {w w' : World} {p : Pc} (h : p.Ok w) (hb : Below w.heap.size w w') : p.Ok w' := ⟨h.hb, h.he, h.hp, h.e.below hb, h.p.below hb⟩
theorem Pc.len {p : Pc} (h : p.b.length = 32) : p.cells.length = 36 := by
  unfold Pc.cells pieceCells
  simp [cells8_len, h]
def Pcs (w : World) (A : Option Addr) (l : List Pc) : Prop := Reads w 36 A l.length (l.flatMap Pc.cells) ∧ ∀ p ∈ l, p.Ok w
theorem Pcs.below {w w' : World} {A : Option Addr} {l : List Pc} (h : Pcs w A l) (hb : Below w.heap.size w w') : Pcs w' A l := ⟨h.1.below hb, fun p hp => (h.2 p hp).below hb⟩
theorem flat_at36 : ∀ (l : List Pc), (∀ p ∈ l, p.b.length = 32) → ∀ (i : Nat) (p : Pc) (j : Nat), l[i]? = some p → j < 36 → (l.flatMap Pc.cells)[i * 36 + j]? = p.cells[j]? := by
  intro l
  induction l with
  | nil => intro _ i p j h; cases h
  | cons q l ih =>
    intro hl i p j h hj
    rw [List.flatMap_cons]
    have hq : q.cells.length = 36 := Pc.len (hl q (by simp))
    cases i with
    | zero =>
      obtain rfl : q = p := Option.some.inj h
      rw [Nat.zero_mul, Nat.zero_add, List.getElem?_append_left (by omega)]
    | succ i =>
      rw [List.getElem?_append_right (by omega), hq, show (i + 1) * 36 + j - 36 = i * 36 + j by omega]
      exact ih (fun p hp => hl p (by simp [hp])) i p j h hj
theorem Pcs.at_ {w : World} {A : Option Addr} {l : List Pc} (h : Pcs w A l) {i : Nat} {p : Pc} (hp : l[i]? = some p) : ∃ b o, A = some ⟨b, o, none⟩ ∧ b < w.heap.size ∧ ∀ j u, p.cells[j]? = some u → w.cell? ⟨b, o + i * 36 + j, none⟩ = some u := by
  have hi : i < l.length := (List.getElem?_eq_some_iff.1 hp).1
  obtain ⟨b, o, e, hlt, hc⟩ := h.1.2 (by omega)
  refine ⟨b, o, e, hlt, fun j u hu => ?_⟩
  have hj : j < p.cells.length := (List.getElem?_eq_some_iff.1 hu).1
  rw [Pc.len (h.2 p (List.mem_of_getElem? hp)).hb] at hj
  rw [show o + i * 36 + j = o + (i * 36 + j) by omega]
  refine hc _ _ ?_
  rw [flat_at36 l (fun p hp => (h.2 p hp).hb) i p j hp hj]
  exact hu
end Go.Proofs.YtgldkfaiofkhbaaDoor.Pcs

namespace Go.Proofs.YtgldkfaiofkhbaaDoor.PieceMem2
open Go Go.RowKit Go.Proofs.YtgldkfaiofkhbaaDoor Go.Proofs.YtgldkfaiofkhbaaDoor.Mem Go.Proofs.YtgldkfaiofkhbaaDoor.Sha Go.Proofs.YtgldkfaiofkhbaaDoor.Bytes Go.Proofs.YtgldkfaiofkhbaaDoor.Append Go.Proofs.YtgldkfaiofkhbaaDoor.Own Go.Proofs.YtgldkfaiofkhbaaDoor.TreeMem Go.Proofs.YtgldkfaiofkhbaaDoor.Prs Go.Proofs.YtgldkfaiofkhbaaDoor.PieceLay Go.Proofs.YtgldkfaiofkhbaaDoor.HeadMem Go.Proofs.YtgldkfaiofkhbaaDoor.PieceMem

/-- The blocks that turn: all below a base, some others, and the two rows'. -/
def XB (B : Nat) (Y : Nat → Prop) (E P : Value) (k : Nat) : Prop := k < B ∨ Y k ∨ some k = E.ownBlock ∨ some k = P.ownBlock
structure Pk (w0 W : World) (R B gp : Nat) (cs : Array Value) (E P : Value) (i j : Nat) (xs : List Value) (ts : List Text) (ps : List Pr) (X : Nat → Prop) : Prop where
  bk : Blk W gp 83 cs
  rs : Blk W R 83 zP
  oe : W.ownsRow B 31 1 E i xs
  op : W.ownsRow B 51 3 P j (ps.flatMap Pr.cells)
  tx : Txa W X xs ts
  pa : Pra W X ps
  be : Below R w0 W
theorem below_kept {S : Nat → Prop} {R : Nat} {w0 W W' : World} (h : Below R w0 W) (hk : Kept S W W') (hS : ∀ k, k < W.heap.size → S k → R ≤ k) (hR : R ≤ W.heap.size) : Below R w0 W' :=
  h.trans ⟨hk.os, hk.tape, hk.output, hk.size, fun k hlt => hk.block k (by omega) (fun hs => by have := hS k (by omega) hs; omega)⟩
section
variable {w0 W W' : World} {R B gp : Nat} {cs : Array Value} {E P : Value} {i j : Nat} {xs : List Value} {ts : List Text} {ps : List Pr} {X X' : Nat → Prop}
theorem Pk.kept {S : Nat → Prop} (h : Pk w0 W R B gp cs E P i j xs ts ps X) (hk : Kept S W W') (hS : ∀ k, k < W.heap.size → S k → R < k ∧ k ≠ gp ∧ some k ≠ E.ownBlock ∧ some k ≠ P.ownBlock ∧ X k) : Pk w0 W' R B gp cs E P i j xs ts ps X :=
  ⟨h.bk.kept hk (fun s => (hS _ h.bk.lt s).2.1 rfl), h.rs.kept hk (fun s => by have := (hS _ h.rs.lt s).1; omega), own_keep h.oe hk (fun k e s => (hS k (h.oe.lt k e).2 s).2.2.1 e.symm), own_keep h.op hk (fun k e s => (hS k (h.op.lt k e).2 s).2.2.2.1 e.symm),
   h.tx.step hk (fun k hl s => (hS k hl s).2.2.2.2) (fun _ _ x => x), h.pa.step hk (fun k hl s => (hS k hl s).2.2.2.2) (fun _ _ x => x), below_kept h.be hk (fun k hl s => by have := (hS k hl s).1; omega) (Nat.le_of_lt h.rs.lt)⟩
theorem Pk.weak (h : Pk w0 W R B gp cs E P i j xs ts ps X) (hX : ∀ k, k < W.heap.size → X' k → X k) : Pk w0 W R B gp cs E P i j xs ts ps X' :=
  ⟨h.bk, h.rs, h.oe, h.op, h.tx.step (S := fun _ => False) (Kept.refl _ _) (fun _ _ s => s.elim) hX, h.pa.step (S := fun _ => False) (Kept.refl _ _) (fun _ _ s => s.elim) hX, h.be⟩
theorem Pk.below (h : Pk w0 W R B gp cs E P i j xs ts ps X) (hb : Below W.heap.size W W') : Pk w0 W' R B gp cs E P i j xs ts ps X := h.kept (S := fun _ => False) (Kept.of_below hb) (fun _ _ s => s.elim)
theorem Pk.alloc (h : Pk w0 W R B gp cs E P i j xs ts ps X) (o : Obj) : Pk w0 (W.alloc o) R B gp cs E P i j xs ts ps X := h.below (Below.heap_below W o)
/-- A store into a field. -/
theorem Pk.set_ (h : Pk w0 W R B gp cs E P i j xs ts ps X) (hRg : R < gp) (hX : X gp) (f : Nat) (u : Value) (cs' : Array Value) (hcs : cs.setIfInBounds f u = cs') : Pk w0 (W.setCell ⟨gp, f, none⟩ u) R B gp cs' E P i j xs ts ps X := by
  have hk : Kept (· = gp) W (W.setCell ⟨gp, f, none⟩ u) := (Kept.refl (· = gp) W).setCell (.inl rfl) _
  refine ⟨by rw [← hcs]; exact h.bk.set_ f u, h.rs.kept hk (by omega), own_keep h.oe hk (fun k e s => ?_), own_keep h.op hk (fun k e s => ?_), h.tx.step hk (fun k _ s => by rw [s]; exact hX) (fun _ _ x => x), h.pa.step hk (fun k _ s => by rw [s]; exact hX) (fun _ _ x => x), below_kept h.be hk (fun k _ s => by rw [s]; omega) (Nat.le_of_lt h.rs.lt)⟩
  · exact blk_own h.bk h.oe (by decide) (by rw [e, s])
  · exact blk_own h.bk h.op (by decide) (by rw [e, s])
end
section
variable {w0 W W2 : World} {R B gp : Nat} {s : ByteArray} {F : Int} {b : Text} {E P E' P' : Value} {i j : Nat} {xs : List Value} {ts : List Text} {ps : List Pr} {Y : Nat → Prop}
/-- A text more. -/
theorem Pk.pushE (h : Pk w0 W R B gp (pieceCells s F b E P).toArray E P i j xs ts ps (XB B Y E P)) (hb : b.length = 32) (hRg : R < gp) (hgB : gp < B) {A : Option Addr} {c k : Nat} {q : Text} (hk : q.length = k) (hc : k ≤ c) (hn : A = none → k = 0 ∧ c = 0) (hr : Reads W 1 A k (cells8 q)) (ha : ∀ a, A = some a → 0 < k → a.block < W.heap.size ∧ ¬ XB B Y E P a.block)
    (hG : Grew (W.alloc (.cells #[.slice A k c] 31)) B 31 1 E i 1 xs [.slice A k c] E' W2) :
    Pk w0 (W2.setCell ⟨gp, 34, none⟩ E') R B gp (pieceCells s F b E' P).toArray E' P (i + 1) j (xs ++ [.slice A k c]) (ts ++ [q]) ps (XB B Y E' P) ∧ Kept (fun k => some k = E.ownBlock ∨ k = gp) W (W2.setCell ⟨gp, 34, none⟩ E') ∧ W.heap.size < W2.heap.size ∧ (∀ k, E'.ownBlock = some k → E.ownBlock = some k ∨ W.heap.size ≤ k) ∧ Blk W2 gp 83 (pieceCells s F b E P).toArray := by
  have K1 : Kept (fun k => some k = E.ownBlock) W W2 := ((Kept.refl (fun k => some k = E.ownBlock) W).alloc _).trans (grew_kept hG) (fun _ _ x => x)
  have K2 : Kept (fun k => some k = E.ownBlock ∨ k = gp) W (W2.setCell ⟨gp, 34, none⟩ E') := (K1.mono (fun _ _ x => .inl x)).setCell (.inl (.inr rfl)) _
  have hsz : W.heap.size < W2.heap.size := by have := hG.grow.size; simp at this; omega
  have hge : some gp ≠ E.ownBlock := blk_own h.bk h.oe (by decide)
  have hbk2 : Blk W2 gp 83 (pieceCells s F b E P).toArray := h.bk.kept K1 hge
  have hge' : some gp ≠ E'.ownBlock := blk_own hbk2 hG.own (by decide)
  have hnew : ∀ k, E'.ownBlock = some k → E.ownBlock = some k ∨ W.heap.size ≤ k := fun k e => by
    rcases grew_new hG k e with h1 | h1
    · exact .inl h1
    · simp at h1; exact .inr (by omega)
  have hSX : ∀ k, k < W.heap.size → (some k = E.ownBlock ∨ k = gp) → XB B Y E P k := fun k _ hs => by
    rcases hs with hs | hs
    · exact .inr (.inr (.inl hs))
    · exact .inl (by omega)
  have hXX : ∀ k, k < W.heap.size → XB B Y E' P k → XB B Y E P k := fun k hl hx => by
    rcases hx with hx | hx | hx | hx
    · exact .inl hx
    · exact .inr (.inl hx)
    · rcases hnew k hx.symm with h1 | h1
      · exact .inr (.inr (.inl h1.symm))
      · omega
    · exact .inr (.inr (.inr hx))
  have hsz3 : W2.heap.size = (W2.setCell ⟨gp, 34, none⟩ E').heap.size := by simp
  refine ⟨⟨?_, h.rs.kept K2 ?_, ?_, ?_, ?_, h.pa.step K2 hSX hXX, ?_⟩, K2, hsz, hnew, hbk2⟩
  · have := hbk2.set_ 34 E'
    rw [pc_setE hb] at this
    exact this
  · rintro (hs | hs)
    · exact blk_own h.rs h.oe (by decide) hs
    · omega
  · exact own_keep hG.own ((Kept.refl (· = gp) W2).setCell (.inl rfl) _) (fun k e hs => hge' (by rw [e, hs]))
  · refine own_keep h.op K2 (fun k e hs => ?_)
    rcases hs with hs | hs
    · exact own_own h.op h.oe (by decide) k e hs.symm
    · exact blk_own h.bk h.op (by decide) (by rw [e, hs])
  · refine (h.tx.step K2 hSX hXX).push hk hc hn (hr.kept0 K2 (fun h0 b o e hs => (ha _ e (by omega)).2 (hSX b (ha _ e (by omega)).1 hs))) (fun a e h0 => ⟨by have := (ha a e h0).1; rw [← hsz3]; omega, fun hx => (ha a e h0).2 (hXX _ (ha a e h0).1 hx)⟩)
  · refine below_kept h.be K2 (fun k hl hs => ?_) (Nat.le_of_lt h.rs.lt)
    rcases hs with hs | hs
    · have := (h.oe.lt k hs.symm).1; omega
    · omega
/-- A proof more. -/
theorem Pk.pushP (h : Pk w0 W R B gp (pieceCells s F b E P).toArray E P i j xs ts ps (XB B Y E P)) (hb : b.length = 32) (hRg : R < gp) (hgB : gp < B) (p : Pr) (h1 : RdD W p.A p.n p.ds) (h2 : p.n ≤ p.c) (ha : ∀ a, p.A = some a → a.block < W.heap.size ∧ ¬ XB B Y E P a.block)
    (hG : Grew (W.alloc (.cells p.cells.toArray 51)) B 51 3 P j 1 (ps.flatMap Pr.cells) p.cells P' W2) :
    Pk w0 (W2.setCell ⟨gp, 35, none⟩ P') R B gp (pieceCells s F b E P').toArray E P' i (j + 1) xs ts (ps ++ [p]) (XB B Y E P') ∧ Kept (fun k => some k = P.ownBlock ∨ k = gp) W (W2.setCell ⟨gp, 35, none⟩ P') ∧ W.heap.size < W2.heap.size ∧ (∀ k, P'.ownBlock = some k → P.ownBlock = some k ∨ W.heap.size ≤ k) ∧ Blk W2 gp 83 (pieceCells s F b E P).toArray := by
  have K1 : Kept (fun k => some k = P.ownBlock) W W2 := ((Kept.refl (fun k => some k = P.ownBlock) W).alloc _).trans (grew_kept hG) (fun _ _ x => x)
  have K2 : Kept (fun k => some k = P.ownBlock ∨ k = gp) W (W2.setCell ⟨gp, 35, none⟩ P') := (K1.mono (fun _ _ x => .inl x)).setCell (.inl (.inr rfl)) _
  have hsz : W.heap.size < W2.heap.size := by have := hG.grow.size; simp at this; omega
  have hge : some gp ≠ P.ownBlock := blk_own h.bk h.op (by decide)
  have hbk2 : Blk W2 gp 83 (pieceCells s F b E P).toArray := h.bk.kept K1 hge
  have hge' : some gp ≠ P'.ownBlock := blk_own hbk2 hG.own (by decide)
  have hnew : ∀ k, P'.ownBlock = some k → P.ownBlock = some k ∨ W.heap.size ≤ k := fun k e => by
    rcases grew_new hG k e with h1 | h1
    · exact .inl h1
    · simp at h1; exact .inr (by omega)
  have hSX : ∀ k, k < W.heap.size → (some k = P.ownBlock ∨ k = gp) → XB B Y E P k := fun k _ hs => by
    rcases hs with hs | hs
    · exact .inr (.inr (.inr hs))
    · exact .inl (by omega)
  have hXX : ∀ k, k < W.heap.size → XB B Y E P' k → XB B Y E P k := fun k hl hx => by
    rcases hx with hx | hx | hx | hx
    · exact .inl hx
    · exact .inr (.inl hx)
    · exact .inr (.inr (.inl hx))
    · rcases hnew k hx.symm with h1 | h1
      · exact .inr (.inr (.inr h1.symm))
      · omega
  have hsz3 : W2.heap.size = (W2.setCell ⟨gp, 35, none⟩ P').heap.size := by simp
  refine ⟨⟨?_, h.rs.kept K2 ?_, ?_, ?_, h.tx.step K2 hSX hXX, ?_, ?_⟩, K2, hsz, hnew, hbk2⟩
  · have := hbk2.set_ 35 P'
    rw [pc_setP hb] at this
    exact this
  · rintro (hs | hs)
    · exact blk_own h.rs h.op (by decide) hs
    · omega
  · refine own_keep h.oe K2 (fun k e hs => ?_)
    rcases hs with hs | hs
    · exact own_own h.oe h.op (by decide) k e hs.symm
    · exact blk_own h.bk h.oe (by decide) (by rw [e, hs])
  · rw [flat_snoc]
    exact own_keep hG.own ((Kept.refl (· = gp) W2).setCell (.inl rfl) _) (fun k e hs => hge' (by rw [e, hs]))
  · exact (h.pa.step K2 hSX hXX).push ⟨h1.1, h1.2.1, h1.2.2.kept K2 (fun b o e hs => (ha _ e).2 (hSX b (ha _ e).1 hs))⟩ h2 (fun a e => ⟨by have := (ha a e).1; rw [← hsz3]; omega, fun hx => (ha a e).2 (hXX _ (ha a e).1 hx)⟩)
  · refine below_kept h.be K2 (fun k hl hs => ?_) (Nat.le_of_lt h.rs.lt)
    rcases hs with hs | hs
    · have := (h.op.lt k hs.symm).1; omega
    · omega
end
section
variable {w0 W W' : World} {R B gp g : Nat} {cs : Array Value} {E P : Value} {i j : Nat} {xs : List Value} {ts : List Text} {ps : List Pr} {Y : Nat → Prop}
/-- All blocks that turn lie in the world. -/
theorem Pk.lt (h : Pk w0 W R B gp cs E P i j xs ts ps (XB B Y E P)) (hB : B ≤ W.heap.size) (hY : ∀ k, Y k → k < W.heap.size) : ∀ k, XB B Y E P k → k < W.heap.size := fun k hx => by
  rcases hx with hx | hx | hx | hx
  · omega
  · exact hY k hx
  · exact (h.oe.lt k hx.symm).2
  · exact (h.op.lt k hx.symm).2
end
end Go.Proofs.YtgldkfaiofkhbaaDoor.PieceMem2

namespace Go.Proofs.YtgldkfaiofkhbaaDoor.CutM
open Go Go.RowKit Go.Proofs.YtgldkfaiofkhbaaDoor Go.Proofs.YtgldkfaiofkhbaaDoor.Mem Go.Proofs.YtgldkfaiofkhbaaDoor.Sha Go.Proofs.YtgldkfaiofkhbaaDoor.Bytes Go.Proofs.YtgldkfaiofkhbaaDoor.Append Go.Proofs.YtgldkfaiofkhbaaDoor.Own Go.Proofs.YtgldkfaiofkhbaaDoor.TreeMem Go.Proofs.YtgldkfaiofkhbaaDoor.HeadMem Go.Proofs.YtgldkfaiofkhbaaDoor.Prs Go.Proofs.YtgldkfaiofkhbaaDoor.PieceLay Go.Proofs.YtgldkfaiofkhbaaDoor.PieceMem Go.Proofs.YtgldkfaiofkhbaaDoor.PieceMem2 Go.Proofs.YtgldkfaiofkhbaaDoor.SamePiece Go.Proofs.YtgldkfaiofkhbaaDoor.Pcs

/-- Copies of texts: each a row of its own. -/
def Tov (w : World) (B : Nat) (xs : List Value) (ts : List Text) : Prop := xs.length = ts.length ∧ ∀ (i : Nat) (v : Value) (q : Text), xs[i]? = some v → ts[i]? = some q → w.ownsRow B 5 1 v q.length (cells8 q)
theorem Tov.nil_ (w : World) (B : Nat) : Tov w B [] [] := ⟨rfl, fun i v q h => by cases h⟩
theorem Tov.keep {w w' : World} {B : Nat} {xs : List Value} {ts : List Text} (h : Tov w B xs ts) (hk : ∀ v n ys, w.ownsRow B 5 1 v n ys → w'.ownsRow B 5 1 v n ys) : Tov w' B xs ts := ⟨h.1, fun i v q h1 h2 => hk _ _ _ (h.2 i v q h1 h2)⟩
theorem last_at {α : Type} {l : List α} {a b : α} {i : Nat} (h : (l ++ [a])[i]? = some b) : (i < l.length ∧ l[i]? = some b) ∨ (i = l.length ∧ a = b) := by
  by_cases hi : i < l.length
  · rw [List.getElem?_append_left hi] at h
    exact .inl ⟨hi, h⟩
  · have hl := (List.getElem?_eq_some_iff.1 h).1
    rw [List.length_append, List.length_singleton] at hl
    obtain rfl : i = l.length := by omega
    rw [List.getElem?_append_right (Nat.le_refl _), Nat.sub_self] at h
    exact .inr ⟨rfl, by simpa using h⟩
theorem Tov.push {w : World} {B : Nat} {xs : List Value} {ts : List Text} (h : Tov w B xs ts) {v : Value} {q : Text} {k : Nat} (hk : q.length = k) (ho : w.ownsRow B 5 1 v k (cells8 q)) : Tov w B (xs ++ [v]) (ts ++ [q]) := ⟨by simp [h.1], fun i v' q' e1 e2 => by
  rcases last_at e1 with ⟨l1, e1⟩ | ⟨l1, rfl⟩
  · rcases last_at e2 with ⟨l2, e2⟩ | ⟨l2, rfl⟩
    · exact h.2 i v' q' e1 e2
    · have := h.1; omega
  · rcases last_at e2 with ⟨l2, e2⟩ | ⟨l2, rfl⟩
    · have := h.1; omega
    · rw [hk]; exact ho⟩
theorem Tov.pieces {w : World} {B B' : Nat} {v : Value} {xs : List Value} {ts : List Text} {n : Nat} (hO : w.ownsRow B' 31 1 v n xs) (hx : Tov w B xs ts) : ∃ A c, v = .slice A n c ∧ n ≤ c ∧ (A = none → n = 0 ∧ c = 0) ∧ Pieces w A ts ∧ ts.length = n := by
  obtain ⟨A, c, e, hc, -, hnil, hr, -⟩ := Own.reads hO
  have hl : ts.length = n := by have := hO.1; have := hx.1; omega
  refine ⟨A, c, e, hc, hnil, fun h0 => ?_, hl⟩
  obtain ⟨b, o, e1, hb, hcs⟩ := hr.at_ (by omega)
  refine ⟨b, o, e1, hb, fun i q hq => ?_⟩
  have hi : i < xs.length := by have := (List.getElem?_eq_some_iff.1 hq).1; have := hx.1; omega
  obtain ⟨A', c', a1, a2, -, a3, a4, -⟩ := Own.reads (hx.2 i xs[i] q (List.getElem?_eq_getElem hi) hq)
  exact ⟨A', c', hcs i _ (by rw [List.getElem?_eq_getElem hi, a1]), a2, a4, a3⟩

/-! ### The ways, cut out of one row -/
/-- Where a way begins in the row of all. -/
def at3 (A : Option Addr) (l m : Nat) : Option Addr := if m = l then A else A.map (·.add (l * 32))
theorem run_midD {A : Option Addr} {n c l h : Nat} (h1 : l ≤ h) (h2 : h ≤ c) (x y z : Int) (hx : x = l) (hy : y = h) (hz : z = h) (w : World) :
    (Instr.sliceAt 42 (.slice A n c) (some (.int .i64 x)) (some (.int .i64 y)) (some (.int .i64 z))).run Tryd.prog w = .ok (.slice (at3 A l h) (h - l) (h - l)) w := by
  subst hx hy hz
  rw [run_sliceAt_slice w _ _ _ _ _ undD, run_slice_lhm w _ A n c undD .i64 .i64 .i64 (l : Int) (h : Int) (h : Int) (by omega) (by omega) (by omega) (by omega), size32s]
  simp [Result.andThen, sliced, at3]
theorem rd_part {w : World} {A : Option Addr} {t : Nat} {dl : List Text} (h : RdD w A t dl) {l k : Nat} (hk : l + k ≤ t) : RdD w (at3 A l (l + k)) k ((dl.drop l).take k) := by
  have hl := h.1
  refine ⟨by rw [List.length_take, List.length_drop]; omega, (h.2.1.drop_ l).take_ k, ?_⟩
  refine ⟨by rw [flatMap_len _ ((h.2.1.drop_ l).take_ k), List.length_take, List.length_drop]; congr 1; omega, fun h0 => ?_⟩
  obtain ⟨b, o, e, hb, hcs⟩ := h.2.2.2 (by omega)
  subst e
  refine ⟨b, o + l * 32, by unfold at3; rw [if_neg (by omega), Option.map_some, add_at], hb, fun j u hu => ?_⟩
  rw [Nat.add_assoc]
  apply hcs
  rw [← flatMap_take _ k (h.2.1.drop_ l), ← flatMap_drop dl l h.2.1, List.getElem?_take] at hu
  by_cases hj : j < k * 32
  · rw [if_pos hj, List.getElem?_drop] at hu
    exact hu
  · rw [if_neg hj] at hu
    cases hu
def sumN (ps : List Pr) : Nat := (ps.map Pr.n).sum
theorem sumN_snoc (ps : List Pr) (p : Pr) : sumN (ps ++ [p]) = sumN ps + p.n := by simp [sumN]
theorem sumN_cons (p : Pr) (ps : List Pr) : sumN (p :: ps) = p.n + sumN ps := by simp [sumN]
theorem sumN_take (ps : List Pr) (i : Nat) : sumN (ps.take i) ≤ sumN ps := by
  have := congrArg (fun l => (l.map Pr.n).sum) (List.take_append_drop i ps)
  simp only [List.map_append, List.sum_append] at this
  unfold sumN
  omega
/-- The proofs with their ways cut out of one row. -/
def cutPs (A : Option Addr) : Nat → List Pr → List Pr
  | _, [] => []
  | l, p :: ps => ⟨p.x, p.y, p.ds, at3 A l (l + p.n), p.n, p.n⟩ :: cutPs A (l + p.n) ps
theorem cutPs_snoc (A : Option Addr) (p : Pr) : ∀ (ps : List Pr) (l : Nat), cutPs A l (ps ++ [p]) = cutPs A l ps ++ [⟨p.x, p.y, p.ds, at3 A (l + sumN ps) (l + sumN ps + p.n), p.n, p.n⟩]
  | [], l => by simp [cutPs, sumN]
  | q :: ps, l => by
    rw [List.cons_append, cutPs, cutPs_snoc A p ps, cutPs, List.cons_append, sumN_cons]
    simp only [Nat.add_assoc]
theorem cutPs_alike (A : Option Addr) : ∀ (ps : List Pr) (l : Nat), SamePiece.Alike (cutPs A l ps) ps
  | [], _ => rfl
  | p :: ps, l => by
    have := cutPs_alike A ps (l + p.n)
    unfold SamePiece.Alike at this ⊢
    simp only [cutPs, List.map_cons, this]
theorem cutPs_rd {w : World} {A : Option Addr} {t : Nat} {dl : List Text} (h : RdD w A t dl) : ∀ (ps : List Pr) (l : Nat), (∀ p ∈ ps, p.ds.length = p.n) → dl.drop l = ps.flatMap Pr.ds → l + sumN ps = t → ∀ p ∈ cutPs A l ps, RdD w p.A p.n p.ds ∧ p.n ≤ p.c
  | [], _, _, _, _ => fun p hp => by cases hp
  | q :: ps, l, hl, hd, ht => fun p hp => by
    have hq := hl q (by simp)
    rw [sumN_cons] at ht
    rw [List.flatMap_cons] at hd
    rcases List.mem_cons.1 hp with rfl | hp
    · refine ⟨?_, Nat.le_refl _⟩
      have := rd_part h (l := l) (k := q.n) (by omega)
      rw [hd, List.take_append_of_le_length (by omega), List.take_of_length_le (by omega)] at this
      exact this
    · refine cutPs_rd h ps (l + q.n) (fun p hp => hl p (by simp [hp])) ?_ (by omega) p hp
      rw [← List.drop_drop, hd, List.drop_append_of_le_length (by omega), List.drop_of_length_le (by omega), List.nil_append]

/-! ### What stays -/
/-- The blocks whose turning does not matter: those below a base, and those that hold pieces. -/
def PX (w : World) (B k : Nat) : Prop := k < B ∨ ∃ cs, Blk w k 83 cs
/-- It stays whatever is written there. -/
def Firm (w : World) (B : Nat) (p : Pc) : Prop := ∀ w', Kept (PX w B) w w' → p.Ok w'
theorem Firm.ok {w : World} {B : Nat} {p : Pc} (h : Firm w B p) : p.Ok w := h w (Kept.refl _ _)
theorem Firm.kept {w w' : World} {B : Nat} {p : Pc} (h : Firm w B p) (hk : Kept (PX w B) w w') : Firm w' B p := fun w2 h2 => h w2 ⟨h2.os.trans hk.os, h2.tape.trans hk.tape, h2.output.trans hk.output, Nat.le_trans hk.size h2.size, fun k hl hn => by
  have e := hk.block k hl hn
  refine (h2.block k (Nat.lt_of_lt_of_le hl hk.size) (fun s => hn ?_)).trans e
  rcases s with s | ⟨cs, s⟩
  · exact .inl s
  · exact .inr ⟨cs, by unfold Blk at s ⊢; rw [← e]; exact s⟩⟩
theorem Firm.mono {w : World} {B B' : Nat} {p : Pc} (h : Firm w B p) (hB : B' ≤ B) : Firm w B' p := fun w' hk => h w' (hk.mono (fun k _ s => s.elim (fun s => .inl (by omega)) .inr))
theorem Firm.below {w w' : World} {B : Nat} {p : Pc} (h : Firm w B p) (hb : Below w.heap.size w w') : Firm w' B p := h.kept (Kept.of_below hb)
/-- The blocks of a piece that is being cut. -/
structure Ck (w0 W : World) (R B gp : Nat) (E P Wy : Value) (i j t : Nat) (xs : List Value) (ts : List Text) (pc : List Value) (dl : List Text) : Prop where
  bk : Blk W gp 83 (pieceCells ByteArray.empty 0 (List.replicate 32 0) E P).toArray
  rs : Blk W R 83 zP
  oe : W.ownsRow B 31 1 E i xs
  op : W.ownsRow B 51 3 P j pc
  ow : W.ownsRow B 23 32 Wy t (dl.flatMap cells8)
  tx : Tov W B xs ts
  be : Below R w0 W
section
variable {w0 W W' : World} {R B gp : Nat} {E P Wy : Value} {i j t : Nat} {xs : List Value} {ts : List Text} {pc : List Value} {dl : List Text}
theorem Ck.below (h : Ck w0 W R B gp E P Wy i j t xs ts pc dl) (hb : Below W.heap.size W W') : Ck w0 W' R B gp E P Wy i j t xs ts pc dl :=
  have K : Kept (fun _ => False) W W' := Kept.of_below hb
  ⟨h.bk.kept K (fun x => x), h.rs.kept K (fun x => x), own_keep h.oe K (fun _ _ x => x), own_keep h.op K (fun _ _ x => x), own_keep h.ow K (fun _ _ x => x), h.tx.keep (fun _ _ _ o => own_keep o K (fun _ _ x => x)), below_kept h.be K (fun _ _ x => x.elim) (Nat.le_of_lt h.rs.lt)⟩
/-- The ways have grown in place. -/
theorem Ck.pushW {g t' : Nat} {dl' : List Text} {Wy' : Value} (h : Ck w0 W R B gp E P Wy i j t xs ts pc dl) (hg : Wy.ownBlock = some g) (hRB : R < B) (ho : W'.ownsRow B 23 32 Wy' t' (dl'.flatMap cells8)) (hgr : W.grownBy W' (some g)) : Ck w0 W' R B gp E P Wy' i j t' xs ts pc dl' := by
  have K : Kept (fun k => some k = Wy.ownBlock) W W' := ⟨hgr.os, hgr.tape, hgr.output, hgr.size, fun k hk hne => hgr.block k hk (by rw [← hg]; exact hne)⟩
  refine ⟨h.bk.kept K (blk_own h.bk h.ow (by decide)), h.rs.kept K (blk_own h.rs h.ow (by decide)), own_keep h.oe K (fun k e s => own_own h.oe h.ow (by decide) k e s.symm), own_keep h.op K (fun k e s => own_own h.op h.ow (by decide) k e s.symm), ho, h.tx.keep (fun v n ys o => own_keep o K (fun k e s => own_own o h.ow (by decide) k e s.symm)), below_kept h.be K (fun k _ s => ?_) (Nat.le_of_lt h.rs.lt)⟩
  have := (h.ow.lt k s.symm).1
  omega
end
section
variable {w0 W W1 W2 : World} {R B gp : Nat} {E P Wy E' P' : Value} {i j t : Nat} {xs : List Value} {ts : List Text} {pc : List Value} {dl : List Text}
/-- A copy of an event more. -/
theorem Ck.pushE (h : Ck w0 W R B gp E P Wy i j t xs ts pc dl) (hRg : R < gp) (hgB : gp < B) {v : Value} {q : Text} {k : Nat} (hk : q.length = k) (hW1 : Below W.heap.size W W1) (hq : W1.ownsRow B 5 1 v k (cells8 q))
    (hG : Grew W1 B 31 1 E i 1 xs [v] E' W2) :
    Ck w0 (W2.setCell ⟨gp, 34, none⟩ E') R B gp E' P Wy (i + 1) j t (xs ++ [v]) (ts ++ [q]) pc dl ∧ Blk W2 gp 83 (pieceCells ByteArray.empty 0 (List.replicate 32 0) E P).toArray := by
  have h1 := h.below hW1
  have K1 : Kept (fun k => some k = E.ownBlock) W1 W2 := grew_kept hG
  have K2 : Kept (fun k => some k = E.ownBlock ∨ k = gp) W1 (W2.setCell ⟨gp, 34, none⟩ E') := (K1.mono (fun _ _ x => .inl x)).setCell (.inl (.inr rfl)) _
  have K3 : Kept (fun k => k = gp) W2 (W2.setCell ⟨gp, 34, none⟩ E') := (Kept.refl (fun k => k = gp) W2).setCell (.inl rfl) _
  have hbk2 := h1.bk.kept K1 (blk_own h1.bk h1.oe (by decide))
  have hno : ∀ {e : TypeId} {size n : Nat} {v : Value} {ys : List Value}, W1.ownsRow B e size v n ys → e ≠ 31 → e ≠ 83 → (W2.setCell ⟨gp, 34, none⟩ E').ownsRow B e size v n ys := fun o n1 n2 => own_keep o K2 (fun k e s => s.elim (fun s => own_own o h1.oe n1 k e s.symm) (fun s => blk_own h1.bk o (fun x => n2 x.symm) (by rw [e, s])))
  refine ⟨⟨?_, h1.rs.kept K2 (fun s => s.elim (blk_own h1.rs h1.oe (by decide)) (fun s => by omega)), own_keep hG.own K3 (fun k e s => blk_own hbk2 hG.own (by decide) (by rw [e, s])), hno h1.op (by decide) (by decide), hno h1.ow (by decide) (by decide), (h1.tx.push hk hq).keep (fun v n ys o => hno o (by decide) (by decide)), below_kept h1.be K2 (fun k _ s => ?_) (Nat.le_of_lt h1.rs.lt)⟩, hbk2⟩
  · have := hbk2.set_ 34 E'
    rwa [pc_setE rfl] at this
  · rcases s with s | s
    · have := (h1.oe.lt k s.symm).1; omega
    · omega
/-- A copy of a proof more. -/
theorem Ck.pushP (h : Ck w0 W R B gp E P Wy i j t xs ts pc dl) (hRg : R < gp) (hgB : gp < B) {news : List Value} (hW1 : Below W.heap.size W W1)
    (hG : Grew W1 B 51 3 P j 1 pc news P' W2) :
    Ck w0 (W2.setCell ⟨gp, 35, none⟩ P') R B gp E P' Wy i (j + 1) t xs ts (pc ++ news) dl ∧ Blk W2 gp 83 (pieceCells ByteArray.empty 0 (List.replicate 32 0) E P).toArray := by
  have h1 := h.below hW1
  have K1 : Kept (fun k => some k = P.ownBlock) W1 W2 := grew_kept hG
  have K2 : Kept (fun k => some k = P.ownBlock ∨ k = gp) W1 (W2.setCell ⟨gp, 35, none⟩ P') := (K1.mono (fun _ _ x => .inl x)).setCell (.inl (.inr rfl)) _
  have K3 : Kept (fun k => k = gp) W2 (W2.setCell ⟨gp, 35, none⟩ P') := (Kept.refl (fun k => k = gp) W2).setCell (.inl rfl) _
  have hbk2 := h1.bk.kept K1 (blk_own h1.bk h1.op (by decide))
  have hno : ∀ {e : TypeId} {size n : Nat} {v : Value} {ys : List Value}, W1.ownsRow B e size v n ys → e ≠ 51 → e ≠ 83 → (W2.setCell ⟨gp, 35, none⟩ P').ownsRow B e size v n ys := fun o n1 n2 => own_keep o K2 (fun k e s => s.elim (fun s => own_own o h1.op n1 k e s.symm) (fun s => blk_own h1.bk o (fun x => n2 x.symm) (by rw [e, s])))
  refine ⟨⟨?_, h1.rs.kept K2 (fun s => s.elim (blk_own h1.rs h1.op (by decide)) (fun s => by omega)), hno h1.oe (by decide) (by decide), own_keep hG.own K3 (fun k e s => blk_own hbk2 hG.own (by decide) (by rw [e, s])), hno h1.ow (by decide) (by decide), h1.tx.keep (fun v n ys o => hno o (by decide) (by decide)), below_kept h1.be K2 (fun k _ s => ?_) (Nat.le_of_lt h1.rs.lt)⟩, hbk2⟩
  · have := hbk2.set_ 35 P'
    rwa [pc_setP rfl] at this
  · rcases s with s | s
    · have := (h1.op.lt k s.symm).1; omega
    · omega
end
theorem all_digs : ∀ ps : List Pr, (∀ p ∈ ps, Digs p.ds ∧ p.ds.length = p.n) → (ps.flatMap Pr.ds).length = sumN ps ∧ Digs (ps.flatMap Pr.ds)
  | [], _ => ⟨rfl, fun d hd => by cases hd⟩
  | p :: ps, hd => by
    obtain ⟨i1, i2⟩ := all_digs ps (fun p hp => hd p (by simp [hp]))
    obtain ⟨d1, d2⟩ := hd p (by simp)
    refine ⟨by rw [List.flatMap_cons, List.length_append, i1, d2, sumN_cons], fun d hdm => ?_⟩
    rw [List.flatMap_cons] at hdm
    rcases List.mem_append.1 hdm with hdm | hdm
    · exact d1 d hdm
    · exact i2 d hdm
/-- A piece whose rows are owned stays, whatever is written below. -/
theorem firm_of {w0 W : World} {R B gp : Nat} {AE AP Aw : Option Addr} {n cE cP cw : Nat} {xs : List Value} {es : List Text} {ps : List Pr} (h : Ck w0 W R B gp (.slice AE n cE) (.slice AP n cP) (.slice Aw (sumN ps) cw) n n (sumN ps) xs es ((cutPs Aw 0 ps).flatMap Pr.cells) (ps.flatMap Pr.ds)) (hd : ∀ p ∈ ps, Digs p.ds ∧ p.ds.length = p.n) (hR : R < B) :
    ∀ w', Kept (· = R) W w' → Firm w' B ⟨ByteArray.empty, 0, List.replicate 32 0, es, cutPs Aw 0 ps, AE, n, cE, AP, n, cP⟩ := fun w' hk w2 hk2 => by
  have up : ∀ {e : TypeId} {size m : Nat} {v : Value} {ys : List Value}, 83 ≠ e → W.ownsRow B e size v m ys → w2.ownsRow B e size v m ys := fun hne o => by
    have o1 := own_keep o hk (fun k e (s : k = R) => by have := (o.lt k e).1; omega)
    exact own_keep o1 hk2 (fun k e s => s.elim (fun s => by have := (o.lt k e).1; omega) (fun ⟨cs, hb⟩ => blk_own hb o1 hne e.symm))
  obtain ⟨A1, c1, e1, -, -, hp, hl⟩ := Tov.pieces (up (by decide) h.oe) (h.tx.keep (fun v n ys o => up (by decide) o))
  injection e1 with e1 _ _
  subst e1
  obtain ⟨A2, c2, e2, -, -, -, hr2, -⟩ := Own.reads (up (by decide) h.op)
  injection e2 with e2 _ _
  subst e2
  obtain ⟨A3, c3, e3, -, -, -, hr3, -⟩ := Own.reads (up (by decide) h.ow)
  injection e3 with e3 _ _
  subst e3
  have hpl : (cutPs Aw 0 ps).length = n := by have := h.op.1; rw [flat_len] at this; omega
  have hdl := all_digs ps hd
  refine ⟨rfl, hl, hpl, hp, ⟨?_, fun p hp' => ?_⟩⟩
  · show Reads w2 3 AP (cutPs Aw 0 ps).length _
    rw [hpl]
    exact hr2
  · exact cutPs_rd ⟨hdl.1, hdl.2, hr3⟩ ps 0 (fun p hp => (hd p hp).2) (by rw [List.drop_zero]) (by omega) p hp'
end Go.Proofs.YtgldkfaiofkhbaaDoor.CutM

namespace Go.Proofs.YtgldkfaiofkhbaaDoor.CutO
open Go Go.RowKit Go.Proofs.YtgldkfaiofkhbaaDoor Go.Proofs.YtgldkfaiofkhbaaDoor.Mem Go.Proofs.YtgldkfaiofkhbaaDoor.Sha Go.Proofs.YtgldkfaiofkhbaaDoor.Bytes Go.Proofs.YtgldkfaiofkhbaaDoor.Append Go.Proofs.YtgldkfaiofkhbaaDoor.Own Go.Proofs.YtgldkfaiofkhbaaDoor.TreeMem Go.Proofs.YtgldkfaiofkhbaaDoor.HeadMem Go.Proofs.YtgldkfaiofkhbaaDoor.Prs Go.Proofs.YtgldkfaiofkhbaaDoor.PieceLay Go.Proofs.YtgldkfaiofkhbaaDoor.PieceMem Go.Proofs.YtgldkfaiofkhbaaDoor.PieceMem2 Go.Proofs.YtgldkfaiofkhbaaDoor.SamePiece Go.Proofs.YtgldkfaiofkhbaaDoor.Pcs Go.Proofs.YtgldkfaiofkhbaaDoor.CutM

theorem own_mono {w : World} {base base' e size n : Nat} {v : Value} {xs : List Value} (h : w.ownsRow base e size v n xs) (hb : base' ≤ base) : w.ownsRow base' e size v n xs := Append.ownsRow_base h hb
theorem Tov.mono {w : World} {B B' : Nat} {xs : List Value} {ts : List Text} (h : Tov w B xs ts) (hb : B' ≤ B) : Tov w B' xs ts := ⟨h.1, fun i v q h1 h2 => own_mono (h.2 i v q h1 h2) hb⟩
/-- The four kinds of rows that a piece owns. -/
def Kind4 (e : TypeId) : Prop := e = 31 ∨ e = 51 ∨ e = 23 ∨ e = 5
theorem Kind4.ne {e : TypeId} (h : Kind4 e) : 83 ≠ e := by rcases h with rfl | rfl | rfl | rfl <;> decide
/-- A piece whose rows are its own. -/
structure PcO (W : World) (B : Nat) (p : Pc) : Prop where
  hb : p.b.length = 32
  oe : ∃ xs, W.ownsRow B 31 1 (.slice p.A p.n p.c) p.n xs ∧ Tov W B xs p.es
  op : W.ownsRow B 51 3 (.slice p.A2 p.m p.c2) p.m (p.ps.flatMap Pr.cells)
  ow : ∃ (A : Option Addr) (t c : Nat) (dl : List Text), W.ownsRow B 23 32 (.slice A t c) t (dl.flatMap cells8) ∧ dl.length = t ∧ Digs dl ∧ ∀ w', RdD w' A t dl → ∀ x ∈ p.ps, RdD w' x.A x.n x.ds ∧ x.n ≤ x.c
section
variable {W W' : World} {B B' : Nat} {p : Pc}
theorem PcO.keptS {S : Nat → Prop} (h : PcO W B p) (hk : Kept S W W') (hS : ∀ {e size n : Nat} {v : Value} {ys : List Value}, Kind4 e → W.ownsRow B e size v n ys → ∀ k, v.ownBlock = some k → ¬ S k) : PcO W' B p := by
  obtain ⟨xs, h1, h2⟩ := h.oe
  obtain ⟨A, t, c, dl, h3, h4⟩ := h.ow
  exact ⟨h.hb, ⟨xs, own_keep h1 hk (hS (.inl rfl) h1), h2.keep (fun v n ys o => own_keep o hk (hS (.inr (.inr (.inr rfl))) o))⟩, own_keep h.op hk (hS (.inr (.inl rfl)) h.op), ⟨A, t, c, dl, own_keep h3 hk (hS (.inr (.inr (.inl rfl))) h3), h4⟩⟩
theorem PcO.kept (h : PcO W B p) (hk : Kept (PX W B) W W') : PcO W' B p := h.keptS hk (fun h4 o k e s => s.elim (fun s => by have := (o.lt k e).1; omega) (fun ⟨_, hb⟩ => blk_own hb o h4.ne e.symm))
theorem PcO.mono (h : PcO W B p) (hB : B' ≤ B) : PcO W B' p := by
  obtain ⟨xs, h1, h2⟩ := h.oe
  obtain ⟨A, t, c, dl, h3, h4⟩ := h.ow
  exact ⟨h.hb, ⟨xs, own_mono h1 hB, Tov.mono h2 hB⟩, own_mono h.op hB, ⟨A, t, c, dl, own_mono h3 hB, h4⟩⟩
theorem PcO.below (h : PcO W B p) (hb : Below W.heap.size W W') : PcO W' B p := h.keptS (Kept.of_below (S := fun _ => False) hb) (fun _ _ _ _ x => x)
theorem PcO.lenP (h : PcO W B p) : p.ps.length = p.m := by have := h.op.1; rw [flat_len] at this; omega
theorem PcO.ways (h : PcO W B p) : ∀ x ∈ p.ps, RdD W x.A x.n x.ds ∧ x.n ≤ x.c := by
  obtain ⟨A, t, c, dl, h3, h4, h5, h6⟩ := h.ow
  obtain ⟨A3, c3, e3, -, -, -, hr3, -⟩ := Own.reads h3
  injection e3 with e3 _ _
  subst e3
  exact h6 W ⟨h4, h5, hr3⟩
theorem PcO.ok (h : PcO W B p) : p.Ok W := by
  obtain ⟨xs, h1, h2⟩ := h.oe
  obtain ⟨A1, c1, e1, -, -, hp, hl⟩ := Tov.pieces h1 h2
  injection e1 with e1 _ _
  subst e1
  obtain ⟨A2, c2, e2, -, -, -, hr2, -⟩ := Own.reads h.op
  injection e2 with e2 _ _
  subst e2
  refine ⟨h.hb, hl, h.lenP, hp, ⟨?_, h.ways⟩⟩
  rw [h.lenP]
  exact hr2
end
/-- A piece that was cut owns its rows. -/
theorem pco_of {w0 W : World} {R B gp : Nat} {AE AP Aw : Option Addr} {n cE cP cw : Nat} {xs : List Value} {es : List Text} {ps : List Pr} (h : Ck w0 W R B gp (.slice AE n cE) (.slice AP n cP) (.slice Aw (sumN ps) cw) n n (sumN ps) xs es ((cutPs Aw 0 ps).flatMap Pr.cells) (ps.flatMap Pr.ds)) (hd : ∀ p ∈ ps, Digs p.ds ∧ p.ds.length = p.n) (hR : R < B) :
    ∀ w', Kept (· = R) W w' → PcO w' B ⟨ByteArray.empty, 0, List.replicate 32 0, es, cutPs Aw 0 ps, AE, n, cE, AP, n, cP⟩ := fun w' hk => by
  have up : ∀ {e : TypeId} {size m : Nat} {v : Value} {ys : List Value}, W.ownsRow B e size v m ys → w'.ownsRow B e size v m ys := fun o =>
    own_keep o hk (fun k e (s : k = R) => by have := (o.lt k e).1; omega)
  have hdl := all_digs ps hd
  exact ⟨rfl, ⟨xs, up h.oe, h.tx.keep (fun v n ys o => up o)⟩, up h.op, ⟨Aw, sumN ps, cw, _, up h.ow, hdl.1, hdl.2, fun w2 hr => cutPs_rd hr ps 0 (fun p hp => (hd p hp).2) (by rw [List.drop_zero]) (by omega)⟩⟩

/-! ### A row of pieces, each with rows of its own, laid one behind the other -/
def under (p : Pc) (B : Nat) : Prop := (∀ g, Value.ownBlock (.slice p.A p.n p.c) = some g → g < B) ∧ ∀ g, Value.ownBlock (.slice p.A2 p.m p.c2) = some g → g < B
theorem PcO.under {W : World} {B : Nat} {p : Pc} (h : PcO W B p) : under p W.heap.size := by
  obtain ⟨xs, h1, -⟩ := h.oe
  exact ⟨fun g e => (h1.lt g e).2, fun g e => (h.op.lt g e).2⟩
/-- From the piece i on each owns its rows; those ahead lie below it. -/
structure Lad (W : World) (B i : Nat) (l : List Pc) (f : Nat → Nat) : Prop where
  at_ : ∀ k p, i ≤ k → l[k]? = some p → PcO W (f k) p
  lo : ∀ k, k < l.length → B ≤ f k
  sep : ∀ k p j, l[k]? = some p → k < j → j < l.length → CutO.under p (f j)
section
variable {W W' : World} {B i j : Nat} {l : List Pc} {f : Nat → Nat}
theorem Lad.nil_ (W : World) (B i : Nat) : Lad W B i [] (fun _ => 0) := ⟨fun k p _ h => by (cases h), fun k h => absurd h (Nat.not_lt_zero _), fun k p j h => by (cases h)⟩
theorem Lad.kept (h : Lad W B i l f) (hk : Kept (PX W B) W W') : Lad W' B i l f := ⟨fun k p hi hp => (h.at_ k p hi hp).kept (hk.mono (fun _ _ s => s.imp (fun s => Nat.lt_of_lt_of_le s (h.lo k (List.getElem?_eq_some_iff.1 hp).1)) id)), h.lo, h.sep⟩
theorem Lad.below (h : Lad W B i l f) (hb : Below W.heap.size W W') : Lad W' B i l f := ⟨fun k p hi hp => (h.at_ k p hi hp).below hb, h.lo, h.sep⟩
theorem Lad.under (h : Lad W B 0 l f) : ∀ (k : Nat) (p : Pc), l[k]? = some p → CutO.under p W.heap.size := fun k p hp => (h.at_ k p (Nat.zero_le _) hp).under
theorem Lad.ok (h : Lad W B 0 l f) : ∀ p ∈ l, p.Ok W := fun p hp => by
  obtain ⟨k, hk⟩ := List.mem_iff_getElem?.1 hp
  exact (h.at_ k p (Nat.zero_le _) hk).ok
theorem Lad.push (h : Lad W B 0 l f) {Bq : Nat} {p : Pc} (hu : ∀ (k : Nat) (p : Pc), l[k]? = some p → CutO.under p Bq) (hB : B ≤ Bq) (hp : PcO W Bq p) : ∃ f', Lad W B 0 (l ++ [p]) f' := by
  refine ⟨fun k => if k < l.length then f k else Bq, fun k q _ hq => ?_, fun k hk => ?_, fun k q j hq hkj hj => ?_⟩
  · rcases last_at hq with ⟨hk, hq⟩ | ⟨rfl, rfl⟩
    · rw [if_pos hk]; exact h.at_ k q (Nat.zero_le _) hq
    · rw [if_neg (Nat.lt_irrefl _)]; exact hp
  · show B ≤ if k < l.length then f k else Bq
    split
    · rename_i hk; exact h.lo k hk
    · exact hB
  · rw [List.length_append, List.length_singleton] at hj
    rcases last_at hq with ⟨hk, hq⟩ | ⟨rfl, rfl⟩
    · show CutO.under q (if j < l.length then f j else Bq)
      split
      · rename_i hj2; exact h.sep k q j hq hkj hj2
      · exact hu k q hq
    · omega
end
end Go.Proofs.YtgldkfaiofkhbaaDoor.CutO

namespace Go.Proofs.YtgldkfaiofkhbaaDoor.HandM
open Go Go.RowKit Go.Proofs.YtgldkfaiofkhbaaDoor Go.Proofs.YtgldkfaiofkhbaaDoor.Mem Go.Proofs.YtgldkfaiofkhbaaDoor.Sha Go.Proofs.YtgldkfaiofkhbaaDoor.Bytes Go.Proofs.YtgldkfaiofkhbaaDoor.Append Go.Proofs.YtgldkfaiofkhbaaDoor.Own Go.Proofs.YtgldkfaiofkhbaaDoor.TreeMem Go.Proofs.YtgldkfaiofkhbaaDoor.Book Go.Proofs.YtgldkfaiofkhbaaDoor.Book8 Go.Proofs.YtgldkfaiofkhbaaDoor.Law17a Go.Proofs.YtgldkfaiofkhbaaDoor.Prs Go.Proofs.YtgldkfaiofkhbaaDoor.PieceLay Go.Proofs.YtgldkfaiofkhbaaDoor.PieceMem Go.Proofs.YtgldkfaiofkhbaaDoor.PieceMem2

/-- A given as cells: the piece, the lists of bytes, the ways. -/
def hc (E P V Q : Value) : List Value := pieceCells ByteArray.empty 0 (List.replicate 32 0) E P ++ [V, Q]
section
variable {E P V Q u : Value}
end
/-- The blocks of the copies. -/
def Roo (w : World) (B : Nat) (gs : List Nat) (es : List Text) : Prop := gs.length = es.length ∧ ∀ (i g : Nat) (q : Text), gs[i]? = some g → es[i]? = some q → RoomB w g q 165 ∧ B ≤ g
def Rod (w : World) (B : Nat) (hs : List Nat) (ps : List Pr) : Prop := hs.length = ps.length ∧ ∀ (i g : Nat) (p : Pr), hs[i]? = some g → ps[i]? = some p → RowD w g (p.ds ++ List.replicate 80 mk0) ∧ B ≤ g
def xsE (gs : List Nat) (es : List Text) : List Value := List.zipWith (fun g q => Value.slice (some ⟨g, 0, none⟩) q.length (q.length + 80)) gs es
def xsV (gs : List Nat) (es : List Text) : List Value := List.zipWith (fun g q => Value.slice (some ⟨g, 0, none⟩) (q.length + 80) (q.length + 80)) gs es
def xsQ (hs : List Nat) (ps : List Pr) : List Value := List.zipWith (fun g p => Value.slice (some ⟨g, 0, none⟩) (p.n + 80) (p.n + 80)) hs ps
def psH (hs : List Nat) (ps : List Pr) : List Pr := List.zipWith (fun g p => ⟨p.x, p.y, p.ds, some ⟨g, 0, none⟩, p.n, p.n + 80⟩) hs ps
theorem Roo.nil_ (w : World) (B : Nat) : Roo w B [] [] := ⟨rfl, fun i g q h => by cases h⟩
theorem Rod.nil_ (w : World) (B : Nat) : Rod w B [] [] := ⟨rfl, fun i g q h => by cases h⟩
theorem Roo.keep {w w' : World} {B : Nat} {gs : List Nat} {es : List Text} (h : Roo w B gs es) (hk : ∀ g cs, Blk w g 5 cs → Blk w' g 5 cs) : Roo w' B gs es := ⟨h.1, fun i g q h1 h2 => by
  obtain ⟨⟨cs, a1, a2, a3⟩, a4⟩ := h.2 i g q h1 h2
  exact ⟨⟨cs, hk g cs a1, a2, a3⟩, a4⟩⟩
theorem Rod.keep {w w' : World} {B : Nat} {hs : List Nat} {ps : List Pr} (h : Rod w B hs ps) (hk : ∀ g cs, Blk w g 23 cs → Blk w' g 23 cs) : Rod w' B hs ps := ⟨h.1, fun i g p h1 h2 => by
  obtain ⟨a1, a2⟩ := h.2 i g p h1 h2
  exact ⟨hk g _ a1, a2⟩⟩
theorem last_at {α : Type} {l : List α} {a b : α} {i : Nat} (h : (l ++ [a])[i]? = some b) : (i < l.length ∧ l[i]? = some b) ∨ (i = l.length ∧ a = b) := by
  rcases Nat.lt_or_ge i l.length with hi | hi
  · rw [List.getElem?_append_left hi] at h
    exact .inl ⟨hi, h⟩
  · rw [List.getElem?_append_right hi] at h
    have hi0 : i = l.length := by
      have := (List.getElem?_eq_some_iff.1 h).1
      simp at this
      omega
    subst hi0
    rw [Nat.sub_self] at h
    exact .inr ⟨rfl, Option.some.inj h⟩
theorem Roo.push {w : World} {B g : Nat} {gs : List Nat} {es : List Text} {q : Text} (h : Roo w B gs es) (h1 : RoomB w g q 165) (h2 : B ≤ g) : Roo w B (gs ++ [g]) (es ++ [q]) := ⟨by simp [h.1], fun i g' q' e1 e2 => by
  rcases last_at e1 with ⟨i1, e1⟩ | ⟨i1, rfl⟩ <;> rcases last_at e2 with ⟨i2, e2⟩ | ⟨i2, rfl⟩
  · exact h.2 i g' q' e1 e2
  · have := h.1; omega
  · have := h.1; omega
  · exact ⟨h1, h2⟩⟩
theorem Rod.push {w : World} {B g : Nat} {hs : List Nat} {ps : List Pr} {p : Pr} (h : Rod w B hs ps) (h1 : RowD w g (p.ds ++ List.replicate 80 mk0)) (h2 : B ≤ g) : Rod w B (hs ++ [g]) (ps ++ [p]) := ⟨by simp [h.1], fun i g' q' e1 e2 => by
  rcases last_at e1 with ⟨i1, e1⟩ | ⟨i1, rfl⟩ <;> rcases last_at e2 with ⟨i2, e2⟩ | ⟨i2, rfl⟩
  · exact h.2 i g' q' e1 e2
  · have := h.1; omega
  · have := h.1; omega
  · exact ⟨h1, h2⟩⟩
section
variable {w : World} {B g : Nat} {gs hs : List Nat} {es : List Text} {ps : List Pr} {q : Text} {p : Pr}
theorem xsE_at {i : Nat} (h1 : gs[i]? = some g) (h2 : es[i]? = some q) : (xsE gs es)[i]? = some (.slice (some ⟨g, 0, none⟩) q.length (q.length + 80)) := by
  unfold xsE
  rw [List.getElem?_zipWith, h1, h2]
theorem psH_at {i : Nat} (h1 : hs[i]? = some g) (h2 : ps[i]? = some p) : (psH hs ps)[i]? = some ⟨p.x, p.y, p.ds, some ⟨g, 0, none⟩, p.n, p.n + 80⟩ := by
  unfold psH
  rw [List.getElem?_zipWith, h1, h2]
end

section
variable {w0 W W' : World} {R B gg ne np nv nq : Nat} {E P V Q : Value} {xe xp xv xq : List Value}
end
end Go.Proofs.YtgldkfaiofkhbaaDoor.HandM

namespace Go.Proofs.YtgldkfaiofkhbaaDoor.Hand
open Go Go.RowKit Go.Proofs.YtgldkfaiofkhbaaDoor Go.Proofs.YtgldkfaiofkhbaaDoor.HeadMem Go.Proofs.YtgldkfaiofkhbaaDoor.Mem Go.Proofs.YtgldkfaiofkhbaaDoor.Sha Go.Proofs.YtgldkfaiofkhbaaDoor.Bytes Go.Proofs.YtgldkfaiofkhbaaDoor.Append Go.Proofs.YtgldkfaiofkhbaaDoor.TreeMem Go.Proofs.YtgldkfaiofkhbaaDoor.Held Go.Proofs.YtgldkfaiofkhbaaDoor.Own Go.Proofs.YtgldkfaiofkhbaaDoor.QuietTail Go.Proofs.YtgldkfaiofkhbaaDoor.Grown Go.Proofs.YtgldkfaiofkhbaaDoor.Book Go.Proofs.YtgldkfaiofkhbaaDoor.Book8 Go.Proofs.YtgldkfaiofkhbaaDoor.Law17a Go.Proofs.YtgldkfaiofkhbaaDoor.Prs Go.Proofs.YtgldkfaiofkhbaaDoor.Reach2 Go.Proofs.YtgldkfaiofkhbaaDoor.PieceLay Go.Proofs.YtgldkfaiofkhbaaDoor.PieceMem Go.Proofs.YtgldkfaiofkhbaaDoor.PieceMem2 Go.Proofs.YtgldkfaiofkhbaaDoor.HandM

theorem infoTx : (Tryd.prog.info? 31).map (fun i => (i.zero, i.size, i.bytes)) = some (some (.slice none 0 0), 1, 24) := by kernel_rfl
theorem infoIn : (Tryd.prog.info? 51).map (fun i => (i.zero, i.size, i.bytes)) = some (some (.agg #[.int .i64 0, .int .i64 0, .slice none 0 0]), 3, 40) := by kernel_rfl
theorem sizeIn : (Tryd.prog.info? 51).map (·.size) = some 3 := by kernel_rfl
theorem zeroIn : ((Tryd.prog.info? 51).bind (·.zero)).isSome = true := by kernel_rfl
/-- What hand leaves. -/
structure HF (w0 W : World) (B : Nat) (E P V Q : Value) (n m : Nat) (gs hs : List Nat) (es : List Text) (ps : List Pr) : Prop where
  oe : W.ownsRow B 31 1 E n (xsE gs es)
  op : W.ownsRow B 51 3 P m ((psH hs ps).flatMap Pr.cells)
  ov : W.ownsRow B 31 1 V n (xsV gs es)
  oq : W.ownsRow B 42 1 Q m (xsQ hs ps)
  roo : Roo W B gs es
  rod : Rod W B hs ps
  be : Below w0.heap.size w0 W
  hb : w0.heap.size ≤ B
end Go.Proofs.YtgldkfaiofkhbaaDoor.Hand

namespace Go.Proofs.YtgldkfaiofkhbaaDoor.CutWO
open Go Go.RowKit Go.Proofs.YtgldkfaiofkhbaaDoor Go.Proofs.YtgldkfaiofkhbaaDoor.HeadMem Go.Proofs.YtgldkfaiofkhbaaDoor.Mem Go.Proofs.YtgldkfaiofkhbaaDoor.Sha Go.Proofs.YtgldkfaiofkhbaaDoor.Bytes Go.Proofs.YtgldkfaiofkhbaaDoor.Append Go.Proofs.YtgldkfaiofkhbaaDoor.TreeMem Go.Proofs.YtgldkfaiofkhbaaDoor.Held Go.Proofs.YtgldkfaiofkhbaaDoor.Own Go.Proofs.YtgldkfaiofkhbaaDoor.QuietTail Go.Proofs.YtgldkfaiofkhbaaDoor.Grown Go.Proofs.YtgldkfaiofkhbaaDoor.Book Go.Proofs.YtgldkfaiofkhbaaDoor.Prs Go.Proofs.YtgldkfaiofkhbaaDoor.Reach2 Go.Proofs.YtgldkfaiofkhbaaDoor.PieceLay Go.Proofs.YtgldkfaiofkhbaaDoor.PieceMem Go.Proofs.YtgldkfaiofkhbaaDoor.PieceMem2 Go.Proofs.YtgldkfaiofkhbaaDoor.SamePiece Go.Proofs.YtgldkfaiofkhbaaDoor.Pcs Go.Proofs.YtgldkfaiofkhbaaDoor.CutM Go.Proofs.YtgldkfaiofkhbaaDoor.CutO
theorem infoU8 : (Tryd.prog.info? 5).map (fun i => (i.zero, i.size, i.bytes)) = some (some (.int .u8 0), 1, 1) := by kernel_rfl
theorem reads_cells {w : World} {A : Option Addr} {n : Nat} {xs : List Value} (h : Reads w 32 A n xs) : ∀ ad, A = some ad → ∀ j u, xs[j]? = some u → w.cell? (ad.add j) = some u := fun ad e j u hu => by
  have hj := (List.getElem?_eq_some_iff.1 hu).1
  obtain ⟨b, o, e2, -, hc⟩ := h.2 (by rw [← h.1]; omega)
  rw [e] at e2
  obtain rfl := Option.some.inj e2
  rw [add_at]
  exact hc j u hu
theorem digs_one (ds : List Text) : ∀ v ∈ ds.flatMap cells8, v.oneCell' = true := fun v hv => by
  obtain ⟨d, _, hd⟩ := List.mem_flatMap.1 hv
  exact PieceMem.cells8_one v hd
set_option maxRecDepth 100000 in
set_option maxHeartbeats 8000000 in
theorem cutO_any (es : List Text) (n : Nat) (hn : es.length = n) (hn6 : n ≤ 1000000) (hsh : ∀ e ∈ es, e.length < 140737488355328) (ps : List Pr) (hm : ps.length = n) (hsum : sumN ps ≤ 1000000) (hnil : ∀ p ∈ ps, p.A = none → p.n = 0 ∧ p.c = 0) (A A2 : Option Addr) (c c2 : Nat) (w : World) (hp : Pieces w A es) (hq : Prs w A2 ps) :
    Calls Tryd.prog 84 #[.slice A n c, .slice A2 n c2] w fun e w' => ∃ p : Pc, e = .returned (.agg p.cells.toArray) ∧ p.s = ByteArray.empty ∧ p.F = 0 ∧ p.b = List.replicate 32 0 ∧ p.es = es ∧ SamePiece.Alike p.ps ps ∧ p.n = n ∧ p.m = n ∧ PcO w' w.heap.size p ∧ Below w.heap.size w w' := by
  obtain ⟨j0, hj, jz0, jz1, jz2⟩ := info_partsN Hand.infoTx
  obtain ⟨d0, hd, dz0, dz1, dz2⟩ := info_partsN info32
  obtain ⟨n0, hn0, nz0, nz1, nz2⟩ := info_partsN Hand.infoIn
  obtain ⟨u0, hu0, uz0, uz1, uz2⟩ := info_partsN infoU8
  have hCk2 : Hid (Ck w ((w.alloc (.cells zP 83)).alloc (.cells zP 83)) w.heap.size (w.heap.size + 2) (w.heap.size + 1) (.slice none 0 0) (.slice none 0 0) (.slice none 0 0) 0 0 0 [] [] [] []) := by
    have h2 : Blk ((w.alloc (.cells zP 83)).alloc (.cells zP 83)) (w.heap.size + 1) 83 zP := by
      have := Blk.new (w.alloc (.cells zP 83)) 83 zP
      rwa [show (w.alloc (.cells zP 83)).heap.size = w.heap.size + 1 by simp] at this
    exact ⟨h2, (Blk.new w _ _).alloc _, World.ownsRow_nil _ _ _ _, World.ownsRow_nil _ _ _ _, World.ownsRow_nil _ _ _ _, Tov.nil_ _ _, (Below.heap_below w _).alloc (by simp) _⟩
  have hdd : Hid (∀ p ∈ ps, Digs p.ds ∧ p.ds.length = p.n) := fun p hp => ⟨(hq.2 p hp).1.2.1, (hq.2 p hp).1.1⟩
  replace hn := Lib.hid hn
  replace hm := Lib.hid hm
  replace hn6 := Lib.hid hn6
  replace hp := Lib.hid hp
  replace hq := Lib.hid hq
  replace hsh := Lib.hid hsh
  replace hnil := Lib.hid hnil
  obtain ⟨T, hT⟩ : ∃ x, Hid (sumN ps = x) := ⟨_, Lib.hid rfl⟩
  have hT6 : Hid (T ≤ 1000000) := by have := hT.out; show _ ≤ _; omega
  have htk : Hid (∀ j, sumN (ps.take j) ≤ T) := fun j => by have := sumN_take ps j; have := hT.out; omega
  clear hsum
  go_enter Tryd.func84, Tryd.ntmps84
  go_wp2_with fail
  obtain ⟨gp, hgp⟩ : ∃ x, Hid (w.heap.size + 1 = x) := ⟨_, Lib.hid rfl⟩
  obtain ⟨B, hBe⟩ : ∃ x, Hid (gp + 1 = x) := ⟨_, Lib.hid rfl⟩
  have hB2 : w.heap.size + 2 = B := by have := hgp.out; have := hBe.out; omega
  rw [hgp.out, hB2] at hCk2
  rw [hgp.out]
  clear hB2
  have hRg : Hid (w.heap.size < gp) := by have := hgp.out; show _ < _; omega
  have hgB : Hid (gp < B) := by have := hBe.out; show _ < _; omega
  go_loopw [15, 6] (fun v15 v6 wr => ∃ (j S : Nat), v15 = .int .i64 (j : Int) ∧ v6 = .int .i64 (S : Int) ∧ Hid (sumN (ps.take j) = S) ∧ Hid (j ≤ n) ∧ Hid (Ck w wr w.heap.size B gp (.slice none 0 0) (.slice none 0 0) (.slice none 0 0) 0 0 0 [] [] [] [])) (fun v _ _ => n - (intOf v).toNat)
  case atStart => exact ⟨0, 0, rfl, rfl, rfl, Nat.zero_le _, hCk2.out⟩
  case round =>
    clear hCk2
    obtain ⟨j, S, rfl, rfl, hS, hjn, hCk⟩ := hrel
    have hj6 : (j : Int) ≤ 1000000 := by have := hjn.out; have := hn6.out; omega
    have hS6 : (S : Int) ≤ 1000000 := by have := htk.out j; have := hS.out; have := hT6.out; omega
    by_cases hlt : j < n
    · have y3 : ((j : Int) < (n : Int)) := by omega
      have hz0 : (0 : Int) ≤ (j : Int) := by omega
      obtain ⟨x, hxi⟩ : ∃ x, Hid (ps[j]? = some x) := ⟨_, List.getElem?_eq_getElem (by rw [hm.out]; exact hlt)⟩
      obtain ⟨bP, oP, rfl, hbP, hcx⟩ := hq.out.at_ hxi.out
      obtain ⟨xn, hxn⟩ : ∃ y, Hid (x.n = y) := ⟨_, Lib.hid rfl⟩
      have hfx : Hid (∀ f u, [Value.int .i64 x.x, .int .i64 x.y, .slice x.A xn x.c][f]? = some u → wr.cell? ⟨bP, oP + j * 3 + f, none⟩ = some u) := fun f u hu => (hCk.out.be.cell (p := ⟨bP, oP + j * 3 + f, none⟩) hbP).trans (by rw [show oP + j * 3 + f = oP + (3 * j + f) by omega]; rw [← hxn.out] at hu; exact hcx f u hu)
      have hlt' : Hid (j < n) := hlt
      have ht1 : Hid (sumN (ps.take (j + 1)) = S + xn) := by show _ = _; rw [List.take_add_one, hxi.out, ← hS.out, ← hxn.out]; exact sumN_snoc _ _
      have hxn6 : (xn : Int) ≤ 1000000 := by have := htk.out (j + 1); have := ht1.out; have := hT6.out; omega
      clear hcx hbP hlt
      go_wp2_with ((with_reducible change wpList _ _ _ ({ dst := some 18, op := _, type := _, pos := _, after := _, guard := _ } :: _) _ _); refine wpList_load_part (o := ⟨some 18, _, _, _, _, _⟩) rfl 51 (.tmp 17) rfl (bP) (oP + j * 3) rfl ([Value.int .i64 x.x, .int .i64 x.y, .slice x.A xn x.c]) _ hfx.out Tryd.underlying51 rfl size3 ?_)
      go_roundw
      case rel => exact ⟨j + 1, S + xn, by go_num, by go_num, ht1.out, hlt'.out, hCk.out.below (Below.heap_below _ _)⟩
      case measure => (have := hlt'.out; simp [intOf]; omega)
    · have hjn2 : j = n := by have := hjn.out; omega
      subst hjn2
      have y3 : ¬ ((j : Int) < (j : Int)) := by omega
      have hST : Hid (S = T) := by have h := hS.out; rw [List.take_of_length_le (by rw [hm.out]; exact Nat.le_refl _), hT.out] at h; exact h.symm
      obtain rfl := hST.out
      obtain ⟨wA, rfl⟩ : ∃ wA, wA = wr := ⟨_, rfl⟩
      have b2 : Hid (d0.bytes * S ≤ 281474976710656) := by show _ ≤ _; rw [dz2]; omega
      have b3 : Hid (S ≤ maxLen) := by show _ ≤ _; unfold maxLen; omega
      have b4 : Hid (B ≤ wA.heap.size) := by have := hCk.out.bk.lt; have := hBe.out; show _ ≤ _; omega
      clear hlt hS hjn hST
      go_wp2_with (at_make; refine wpList_make_own _ rfl (.const (.int .i64 0)) (.tmp 25) 42 rfl B 23 d0 (.agg Z32) 32 Tryd.underlying42 hd dz0 dz1 .i64 .i64 (S : Int) S rfl rfl rfl b2.out b3.out b4.out ?_; intro w1 hown hgr; have hbl : Below wA.heap.size wA w1 := (Below.refl _ _).grown hgr (Nat.le_refl _) (fun _ e => by cases e); have hCk1 : Hid (Ck w w1 w.heap.size B gp (.slice none 0 0) (.slice none 0 0) (.slice (some ⟨wA.heap.size, 0, none⟩) 0 S) 0 0 0 [] [] [] []) := (by have h := hCk.out.below hbl; exact ⟨h.bk, h.rs, h.oe, h.op, hown, h.tx, h.be⟩); clear hbl hown hgr hCk; generalize wA.heap.size = gw at *)
      clear b2 b3 b4 y3
      go_loopw [29, 9] (fun v29 v9 wr => ∃ (i s cE cP : Nat) (AE AP : Option Addr) (xs : List Value), v29 = .int .i64 (i : Int) ∧ v9 = .slice (some ⟨gw, 0, none⟩) s S ∧ Hid (sumN (ps.take i) = s) ∧ Hid (i ≤ j) ∧ Hid (Ck w wr w.heap.size B gp (.slice AE i cE) (.slice AP i cP) (.slice (some ⟨gw, 0, none⟩) s S) i i s xs (es.take i) ((cutPs (some ⟨gw, 0, none⟩) 0 (ps.take i)).flatMap Pr.cells) ((ps.take i).flatMap Pr.ds))) (fun v _ _ => j - (intOf v).toNat)
      case atStart => exact ⟨0, 0, 0, 0, none, none, [], rfl, rfl, rfl, Nat.zero_le _, hCk1.out⟩
      case round =>
        clear hCk1
        obtain ⟨i, s, cE, cP, AE, AP, xs, rfl, rfl, hs, hin, hCk⟩ := hrel
        have hi6 : (i : Int) ≤ 1000000 := by have := hin.out; have := hn6.out; omega
        by_cases hlt : i < j
        · have y3 : ((i : Int) < (j : Int)) := by omega
          have hz0 : (0 : Int) ≤ (i : Int) := by omega
          obtain ⟨q, hqi⟩ : ∃ q, Hid (es[i]? = some q) := ⟨_, List.getElem?_eq_getElem (by rw [hn.out]; exact hlt)⟩
          obtain ⟨bA, oA, rfl, hbA, hcs⟩ := hp.out (by have := hn.out; omega)
          obtain ⟨Ae, ce, hc1, hc2, hc3, hc4⟩ := hcs i q hqi.out
          obtain ⟨k, hk⟩ : ∃ k, Hid (q.length = k) := ⟨_, Lib.hid rfl⟩
          have hk47 : Hid (k < 140737488355328) := by have := hsh.out q (List.mem_of_getElem? hqi.out); have := hk.out; show _ < _; omega
          have cev : wr.cell? ⟨bA, oA + i, none⟩ = some (.slice Ae k ce) := (hCk.out.be.cell (p := ⟨bA, oA + i, none⟩) hbA).trans (by rw [← hk.out]; exact hc1)
          have hrd : Hid (∀ w', Below w.heap.size w w' → Reads w' 1 Ae k (cells8 q)) := fun w' hb => by rw [← hk.out]; exact hc3.below hb
          have hne : Hid (Ae = none → k = 0 ∧ ce = 0) := fun e => by rw [← hk.out]; exact hc4 e
          obtain ⟨x, hxi⟩ : ∃ x, Hid (ps[i]? = some x) := ⟨_, List.getElem?_eq_getElem (by rw [hm.out]; exact hlt)⟩
          obtain ⟨bP, oP, rfl, hbP, hcx⟩ := hq.out.at_ hxi.out
          obtain ⟨xn, hxn⟩ : ∃ y, Hid (x.n = y) := ⟨_, Lib.hid rfl⟩
          obtain ⟨xA, hxA⟩ : ∃ y, Hid (x.A = y) := ⟨_, Lib.hid rfl⟩
          obtain ⟨xc, hxc⟩ : ∃ y, Hid (x.c = y) := ⟨_, Lib.hid rfl⟩
          have hfx : Hid (∀ w', Below w.heap.size w w' → ∀ f u, [Value.int .i64 x.x, .int .i64 x.y, .slice xA xn xc][f]? = some u → w'.cell? ⟨bP, oP + i * 3 + f, none⟩ = some u) := fun w' hb f u hu => (hb.cell (p := ⟨bP, oP + i * 3 + f, none⟩) hbP).trans (by rw [show oP + i * 3 + f = oP + (3 * i + f) by omega]; rw [← hxn.out, ← hxA.out, ← hxc.out] at hu; exact hcx f u hu)
          have cw2 : wr.cell? ⟨bP, oP + i * 3 + 2, none⟩ = some (.slice xA xn xc) := hfx.out wr hCk.out.be 2 _ rfl
          have hxr : Hid (RdD wr xA xn x.ds) := by
            have h := ((hq.out.2 x (List.mem_of_getElem? hxi.out)).1).below hCk.out.be
            rw [hxn.out, hxA.out] at h
            exact h
          have hxl : Hid (xA = none → xn = 0 ∧ xc = 0) := fun e => by
            have := hnil.out x (List.mem_of_getElem? hxi.out)
            rw [hxn.out, hxA.out, hxc.out] at this
            exact this e
          have hlt' : Hid (i < j) := hlt
          have ht1 : Hid (sumN (ps.take (i + 1)) = s + xn) := by show _ = _; rw [List.take_add_one, hxi.out, ← hs.out, ← hxn.out]; exact sumN_snoc _ _
          have hte : Hid (es.take (i + 1) = es.take i ++ [q]) := by show _ = _; rw [List.take_add_one, hqi.out]; rfl
          have htp : Hid (ps.take (i + 1) = ps.take i ++ [x]) := by show _ = _; rw [List.take_add_one, hxi.out]; rfl
          have hsS : Hid (s + xn ≤ S) := by have := htk.out (i + 1); have := ht1.out; show _ ≤ _; omega
          have hs6 : (s : Int) ≤ 1000000 := by have := hsS.out; have := hT6.out; omega
          have how : Hid (wr.ownsRow B 23 32 (.slice (some ⟨gw, 0, none⟩) s S) s (((ps.take i).flatMap Pr.ds).flatMap cells8)) := hCk.out.ow
          clear hcs hc1 hc2 hc3 hc4 hbA hcx hbP hlt
          go_upto_region 14 with ((with_reducible change wpList _ _ _ ({ dst := some 42, op := _, type := _, pos := _, after := _, guard := _ } :: _) _ _); refine wpList_append_fits_any _ (o := ⟨some 42, _, _, _, _, _⟩) rfl (.tmp 36) (.tmp 41) 42 rfl B 23 d0 32 Tryd.underlying42 hd dz1 gw s S (((ps.take i).flatMap Pr.ds).flatMap cells8) rfl how.out xA xn xc (x.ds.flatMap cells8) rfl hxr.out.2.2.1 hxl.out (reads_cells hxr.out.2.2) (digs_one _) hsS.out ?_; intro w3 hown hgr; have hCk3 : Hid (Ck w w3 w.heap.size B gp (.slice AE i cE) (.slice AP i cP) (.slice (some ⟨gw, 0, none⟩) (s + xn) S) i i (s + xn) xs (es.take i) ((cutPs (some ⟨gw, 0, none⟩) 0 (ps.take i)).flatMap Pr.cells) ((ps.take (i + 1)).flatMap Pr.ds)) := hCk.out.pushW rfl (Nat.lt_trans hRg.out hgB.out) (by rw [htp.out, List.flatMap_append, List.flatMap_singleton, List.flatMap_append]; exact hown) hgr; clear hown hgr)
          obtain ⟨s', hs'⟩ : ∃ y, Hid (s + xn = y) := ⟨_, Lib.hid rfl⟩
          rw [hs'.out] at hCk3 ht1 hsS
          rw [hs'.out]
          clear hCk how hxr hxl cev cw2
          have c34 : w3.cell? ⟨gp, 34, none⟩ = some (.slice AE i cE) := (hCk3.out.bk.cell 34).trans (by rw [List.getElem?_toArray]; exact pc_events rfl)
          have s0 : Hid (Below w.heap.size w w3.drew) := hCk3.out.be.drew
          have hB3 : Hid (B ≤ w3.heap.size) := by have := hCk3.out.bk.lt; have := hBe.out; show _ ≤ _; omega
          have hk1 : Hid (0 + k ≤ maxLen) := by have := hk47.out; show _ ≤ _; unfold maxLen; omega
          have hk2 : Hid ((0 + k) * 1 ≤ 140737488355328) := by have := hk47.out; show _ ≤ _; omega
          have hs1 : Hid (i + 1 ≤ maxLen) := by show _ ≤ _; unfold maxLen; omega
          have hs2 : Hid ((i + 1) * 24 ≤ 140737488355328) := by show _ ≤ _; omega
          go_cut [12] from 43 to 49 (fun v wr' => ∃ (cE' : Nat) (AE' : Option Addr) (vv : Value), v = .int .i64 (s : Int) ∧ Hid (Ck w wr' w.heap.size B gp (.slice AE' (i + 1) cE') (.slice AP i cP) (.slice (some ⟨gw, 0, none⟩) s' S) (i + 1) i s' (xs ++ [vv]) (es.take (i + 1)) ((cutPs (some ⟨gw, 0, none⟩) 0 (ps.take i)).flatMap Pr.cells) ((ps.take (i + 1)).flatMap Pr.ds)))
          case first =>
            refine held_start (fun w' => Below w.heap.size w w') 8 rfl (by kernel_rfl) ?_
            refine held_take (i := 0) (v := .pointer (some ⟨gp, 34, none⟩)) rfl (by kernel_rfl) (by kernel_rfl) (by kernel_rfl) (fun _ _ _ h => h) s0.out (by rfl) (fun w' hw' => by go_simp) ?_
            (intro K hK; go_simp; refine hK _ ?_; clear hK K)
            refine held_take (i := 2) (v := .slice Ae k ce) rfl (by kernel_rfl) (by kernel_rfl) (by kernel_rfl) (fun _ _ _ h => h) s0.out (by rfl) (fun w' hw' => run_mv (.tmp 11) rfl w') ?_
            (intro K hK; go_simp; refine hK _ ?_; clear hK K)
            refine held_two (i := 1) (j := 3) rfl rfl (by kernel_rfl) (by rfl) (by rfl) (fun K hK => ?_) (fun K hK => ?_)
            · go_simp
              refine hK _ _ s0.out ?_
              clear hK K
              refine held_only (i := 3) rfl (by kernel_rfl) (by rfl) (fun K hK => ?_)
              refine wp_append_src _ (.const (.slice none 0 0)) (.tmp 45) 31 rfl B 5 u0 (.int .u8 0) 1 1 Tryd.underlying31 hu0 uz0 uz1 uz2 rfl (by decide) (.slice none 0 0) 0 [] rfl (World.ownsRow_nil _ _ _ _) Ae k ce (cells8 q) rfl (hrd.out _ s0.out) hne.out (fun v hv => PieceMem.cells8_one v hv) hk1.out hk2.out hB3.out ?_
              intro v5 w5 hG5
              have hO5 : Hid (w5.ownsRow B 5 1 v5 k (cells8 q)) := by have h := hG5.own; rw [Nat.zero_add, List.nil_append] at h; exact h
              obtain ⟨Av, cv, rfl, -⟩ := Append.Own.reads hO5.out
              have b5 : Hid (Below w3.heap.size w3 w5) := hG5.below ((Below.refl _ _).drew) (Nat.le_refl _) (fun k e => by cases e)
              have hCk5 := Lib.hid (hCk3.out.below b5.out)
              have s5 := Lib.hid hCk5.out.be
              clear hG5
              go_simp
              refine hK _ _ s5.out ?_
              clear hK K
              refine held_only (i := 4) rfl (by kernel_rfl) (by rfl) (fun K hK => ?_)
              go_simp
              refine hK _ _ (s5.out.alloc s5.out.size _) ?_
              clear hK K
              have hCk6 := Lib.hid (hCk5.out.below (Below.heap_below _ (.cells #[.slice Av k cv] 31)))
              have hnE : Hid (Reads (w5.alloc (.cells #[.slice Av k cv] 31)) 1 (some ⟨w5.heap.size, 0, none⟩) 1 [.slice Av k cv]) := Blk.reads (Blk.new w5 31 #[.slice Av k cv]) 0 _ rfl (fun j u hu => by rw [Nat.zero_add]; simpa using hu)
              have hOE := Lib.hid hCk6.out.oe
              have hs3 : Hid (B ≤ (w5.alloc (.cells #[.slice Av k cv] 31)).heap.size) := by have := hCk6.out.bk.lt; have := hBe.out; show _ ≤ _; omega
              refine held_only (i := 5) rfl (by kernel_rfl) (by rfl) (fun K hK => ?_)
              refine wp_append_src _ (.tmp 44) (.tmp 47) 24 rfl B 31 j0 (.slice none 0 0) 1 24 Tryd.underlying24 hj jz0 jz1 jz2 rfl (by decide) (.slice AE i cE) i xs rfl hOE.out (some ⟨w5.heap.size, 0, none⟩) 1 1 [.slice Av k cv] rfl hnE.out (fun e => by cases e) (by intro v hv; simp only [List.mem_singleton] at hv; rw [hv]; rfl) hs1.out hs2.out hs3.out ?_
              intro v7 w7 hG
              obtain ⟨AE7, cE7, rfl, -⟩ := Append.Own.reads hG.own
              have hpk := Lib.hid (hCk3.out.pushE hRg.out hgB.out hk.out (b5.out.trans ((Below.heap_below w5 (.cells #[.slice Av k cv] 31)).mono b5.out.size)) (World.ownsRow.alloc (w := w5) hO5.out _) hG)
              have cE34 : w7.cell? ⟨gp, 34, none⟩ = some (.slice AE i cE) := (hpk.out.2.cell 34).trans (by rw [List.getElem?_toArray]; exact pc_events rfl)
              have fE34 := hpk.out.2.frozen 34
              have b7 : Hid (Below w.heap.size w w7) := hG.below hCk6.out.be hCk6.out.be.size (fun k e => by have := (hCk6.out.oe.lt k e).1; have := hRg.out; have := hgB.out; omega)
              clear hG
              go_simp
              refine hK _ _ b7.out ?_
              clear hK K
              refine held_take (i := 6) (v := .pointer (some ⟨gp, 34, none⟩)) rfl (by kernel_rfl) (by kernel_rfl) (by kernel_rfl) (fun _ _ _ h => h) b7.out (by rfl) (fun w' hw' => by go_simp) ?_
              (intro K hK; go_simp; refine hK _ ?_; clear hK K)
              refine held_only (i := 7) rfl (by kernel_rfl) (by rfl) (fun K hK => ?_)
              go_simp
              refine hK _ _ (b7.out.setCell (by show w.heap.size ≤ gp; have := hRg.out; omega) _) ?_
              clear hK K
              refine held_end (by kernel_rfl) ?_
              go_wp2_with fail
              go_meet
              case rel => exact ⟨cE7, AE7, _, rfl, by show Ck _ _ _ _ _ _ _ _ _ _ _ _ _ _ _; rw [hte.out]; exact hpk.out.1⟩
            · refine wp_append_src _ (.const (.slice none 0 0)) (.tmp 45) 31 rfl B 5 u0 (.int .u8 0) 1 1 Tryd.underlying31 hu0 uz0 uz1 uz2 rfl (by decide) (.slice none 0 0) 0 [] rfl (World.ownsRow_nil _ _ _ _) Ae k ce (cells8 q) rfl (hrd.out _ s0.out) hne.out (fun v hv => PieceMem.cells8_one v hv) hk1.out hk2.out hB3.out ?_
              intro v5 w5 hG5
              have hO5 : Hid (w5.ownsRow B 5 1 v5 k (cells8 q)) := by have h := hG5.own; rw [Nat.zero_add, List.nil_append] at h; exact h
              obtain ⟨Av, cv, rfl, -⟩ := Append.Own.reads hO5.out
              have b5 : Hid (Below w3.heap.size w3 w5) := hG5.below ((Below.refl _ _).drew) (Nat.le_refl _) (fun k e => by cases e)
              have hCk5 := Lib.hid (hCk3.out.below b5.out)
              have s5 := Lib.hid hCk5.out.be
              clear hG5
              go_simp
              refine hK _ _ s5.out ?_
              clear hK K
              refine held_two (i := 1) (j := 4) rfl rfl (by kernel_rfl) (by rfl) (by rfl) (fun K hK => ?_) (fun K hK => ?_)
              · have c34b : w5.cell? ⟨gp, 34, none⟩ = some (.slice AE i cE) := (hCk5.out.bk.cell 34).trans (by rw [List.getElem?_toArray]; exact pc_events rfl)
                go_simp
                refine hK _ _ s5.out ?_
                clear hK K
                clear c34b
                refine held_only (i := 4) rfl (by kernel_rfl) (by rfl) (fun K hK => ?_)
                go_simp
                refine hK _ _ (s5.out.alloc s5.out.size _) ?_
                clear hK K
                have hCk6 := Lib.hid (hCk5.out.below (Below.heap_below _ (.cells #[.slice Av k cv] 31)))
                have hnE : Hid (Reads (w5.alloc (.cells #[.slice Av k cv] 31)) 1 (some ⟨w5.heap.size, 0, none⟩) 1 [.slice Av k cv]) := Blk.reads (Blk.new w5 31 #[.slice Av k cv]) 0 _ rfl (fun j u hu => by rw [Nat.zero_add]; simpa using hu)
                have hOE := Lib.hid hCk6.out.oe
                have hs3 : Hid (B ≤ (w5.alloc (.cells #[.slice Av k cv] 31)).heap.size) := by have := hCk6.out.bk.lt; have := hBe.out; show _ ≤ _; omega
                refine held_only (i := 5) rfl (by kernel_rfl) (by rfl) (fun K hK => ?_)
                refine wp_append_src _ (.tmp 44) (.tmp 47) 24 rfl B 31 j0 (.slice none 0 0) 1 24 Tryd.underlying24 hj jz0 jz1 jz2 rfl (by decide) (.slice AE i cE) i xs rfl hOE.out (some ⟨w5.heap.size, 0, none⟩) 1 1 [.slice Av k cv] rfl hnE.out (fun e => by cases e) (by intro v hv; simp only [List.mem_singleton] at hv; rw [hv]; rfl) hs1.out hs2.out hs3.out ?_
                intro v7 w7 hG
                obtain ⟨AE7, cE7, rfl, -⟩ := Append.Own.reads hG.own
                have hpk := Lib.hid (hCk3.out.pushE hRg.out hgB.out hk.out (b5.out.trans ((Below.heap_below w5 (.cells #[.slice Av k cv] 31)).mono b5.out.size)) (World.ownsRow.alloc (w := w5) hO5.out _) hG)
                have cE34 : w7.cell? ⟨gp, 34, none⟩ = some (.slice AE i cE) := (hpk.out.2.cell 34).trans (by rw [List.getElem?_toArray]; exact pc_events rfl)
                have fE34 := hpk.out.2.frozen 34
                have b7 : Hid (Below w.heap.size w w7) := hG.below hCk6.out.be hCk6.out.be.size (fun k e => by have := (hCk6.out.oe.lt k e).1; have := hRg.out; have := hgB.out; omega)
                clear hG
                go_simp
                refine hK _ _ b7.out ?_
                clear hK K
                refine held_take (i := 6) (v := .pointer (some ⟨gp, 34, none⟩)) rfl (by kernel_rfl) (by kernel_rfl) (by kernel_rfl) (fun _ _ _ h => h) b7.out (by rfl) (fun w' hw' => by go_simp) ?_
                (intro K hK; go_simp; refine hK _ ?_; clear hK K)
                refine held_only (i := 7) rfl (by kernel_rfl) (by rfl) (fun K hK => ?_)
                go_simp
                refine hK _ _ (b7.out.setCell (by show w.heap.size ≤ gp; have := hRg.out; omega) _) ?_
                clear hK K
                refine held_end (by kernel_rfl) ?_
                go_wp2_with fail
                go_meet
                case rel => exact ⟨cE7, AE7, _, rfl, by show Ck _ _ _ _ _ _ _ _ _ _ _ _ _ _ _; rw [hte.out]; exact hpk.out.1⟩
              · go_simp
                refine hK _ _ (s5.out.alloc s5.out.size _) ?_
                clear hK K
                have c34c : (w5.alloc (.cells #[.slice Av k cv] 31)).cell? ⟨gp, 34, none⟩ = some (.slice AE i cE) := ((hCk5.out.below (Below.heap_below _ (.cells #[.slice Av k cv] 31))).bk.cell 34).trans (by rw [List.getElem?_toArray]; exact pc_events rfl)
                refine held_only (i := 1) rfl (by kernel_rfl) (by rfl) (fun K hK => ?_)
                go_simp
                refine hK _ _ (s5.out.alloc s5.out.size _) ?_
                clear hK K
                clear c34c
                have hCk6 := Lib.hid (hCk5.out.below (Below.heap_below _ (.cells #[.slice Av k cv] 31)))
                have hnE : Hid (Reads (w5.alloc (.cells #[.slice Av k cv] 31)) 1 (some ⟨w5.heap.size, 0, none⟩) 1 [.slice Av k cv]) := Blk.reads (Blk.new w5 31 #[.slice Av k cv]) 0 _ rfl (fun j u hu => by rw [Nat.zero_add]; simpa using hu)
                have hOE := Lib.hid hCk6.out.oe
                have hs3 : Hid (B ≤ (w5.alloc (.cells #[.slice Av k cv] 31)).heap.size) := by have := hCk6.out.bk.lt; have := hBe.out; show _ ≤ _; omega
                refine held_only (i := 5) rfl (by kernel_rfl) (by rfl) (fun K hK => ?_)
                refine wp_append_src _ (.tmp 44) (.tmp 47) 24 rfl B 31 j0 (.slice none 0 0) 1 24 Tryd.underlying24 hj jz0 jz1 jz2 rfl (by decide) (.slice AE i cE) i xs rfl hOE.out (some ⟨w5.heap.size, 0, none⟩) 1 1 [.slice Av k cv] rfl hnE.out (fun e => by cases e) (by intro v hv; simp only [List.mem_singleton] at hv; rw [hv]; rfl) hs1.out hs2.out hs3.out ?_
                intro v7 w7 hG
                obtain ⟨AE7, cE7, rfl, -⟩ := Append.Own.reads hG.own
                have hpk := Lib.hid (hCk3.out.pushE hRg.out hgB.out hk.out (b5.out.trans ((Below.heap_below w5 (.cells #[.slice Av k cv] 31)).mono b5.out.size)) (World.ownsRow.alloc (w := w5) hO5.out _) hG)
                have cE34 : w7.cell? ⟨gp, 34, none⟩ = some (.slice AE i cE) := (hpk.out.2.cell 34).trans (by rw [List.getElem?_toArray]; exact pc_events rfl)
                have fE34 := hpk.out.2.frozen 34
                have b7 : Hid (Below w.heap.size w w7) := hG.below hCk6.out.be hCk6.out.be.size (fun k e => by have := (hCk6.out.oe.lt k e).1; have := hRg.out; have := hgB.out; omega)
                clear hG
                go_simp
                refine hK _ _ b7.out ?_
                clear hK K
                refine held_take (i := 6) (v := .pointer (some ⟨gp, 34, none⟩)) rfl (by kernel_rfl) (by kernel_rfl) (by kernel_rfl) (fun _ _ _ h => h) b7.out (by rfl) (fun w' hw' => by go_simp) ?_
                (intro K hK; go_simp; refine hK _ ?_; clear hK K)
                refine held_only (i := 7) rfl (by kernel_rfl) (by rfl) (fun K hK => ?_)
                go_simp
                refine hK _ _ (b7.out.setCell (by show w.heap.size ≤ gp; have := hRg.out; omega) _) ?_
                clear hK K
                refine held_end (by kernel_rfl) ?_
                go_wp2_with fail
                go_meet
                case rel => exact ⟨cE7, AE7, _, rfl, by show Ck _ _ _ _ _ _ _ _ _ _ _ _ _ _ _; rw [hte.out]; exact hpk.out.1⟩
          case rest =>
            obtain ⟨cE', AE', vv, rfl, hCk4⟩ := hcut
            obtain ⟨w4, rfl⟩ : ∃ w4, w4 = wc := ⟨_, rfl⟩
            clear hCk3 c34 s0 hB3 hk1 hk2 hs2 hrd hne
            have c35 : w4.cell? ⟨gp, 35, none⟩ = some (.slice AP i cP) := (hCk4.out.bk.cell 35).trans (by rw [List.getElem?_toArray]; exact pc_proofs rfl)
            have s0 : Hid (Below w.heap.size w w4.drew) := hCk4.out.be.drew
            have hB4 : Hid (B ≤ w4.heap.size) := by have := hCk4.out.bk.lt; have := hBe.out; show _ ≤ _; omega
            have hs2 : Hid ((i + 1) * 40 ≤ 140737488355328) := by show _ ≤ _; omega
            obtain ⟨fA, hfA⟩ : ∃ y, Hid (at3 (some ⟨gw, 0, none⟩) s s' = y) := ⟨_, Lib.hid rfl⟩
            have hX : Hid (∀ w', (Instr.sliceAt 42 (.slice (some ⟨gw, 0, none⟩) s' S) (some (.int .i64 (s : Int))) (some (.int .i64 (s' : Int))) (some (.int .i64 (s' : Int)))).run Tryd.prog w' = .ok (.slice fA xn xn) w') := fun w' => by
              have := run_midD (A := some ⟨gw, 0, none⟩) (n := s') (c := S) (l := s) (h := s') (by have := hs'.out; omega) hsS.out _ _ _ rfl rfl rfl w'
              rw [hfA.out, show s' - s = xn by have := hs'.out; omega] at this
              exact this
            obtain ⟨pr, hpr⟩ : ∃ pr : Pr, Hid (pr = ⟨x.x, x.y, x.ds, fA, xn, xn⟩) := ⟨_, Lib.hid rfl⟩
            have hprc : Hid (pr.cells = [.int .i64 x.x, .int .i64 x.y, .slice fA xn xn]) := by show _ = _; rw [hpr.out]; rfl
            have q1 : Hid (∀ v ∈ [pr.cells], v.length = 3) := by intro v hv; simp only [List.mem_singleton] at hv; rw [hv]; rfl
            have x1 : Hid ([pr.cells].flatten.toArray = pr.cells.toArray) := by show _ = _; simp
            have hone : Hid (∀ v ∈ pr.cells, v.oneCell' = true) := by intro v hv; rw [hprc.out] at hv; simp only [List.mem_cons, List.not_mem_nil, or_false] at hv; rcases hv with rfl | rfl | rfl <;> rfl
            have hsn : Hid (cutPs (some ⟨gw, 0, none⟩) 0 (ps.take (i + 1)) = cutPs (some ⟨gw, 0, none⟩) 0 (ps.take i) ++ [pr]) := by
              show _ = _
              rw [htp.out, cutPs_snoc, hpr.out, hs.out, Nat.zero_add, hxn.out, hs'.out, hfA.out]
            go_upto_region 15 with fail
            refine held_start (fun w' => Below w.heap.size w w') 24 rfl (by kernel_rfl) ?_
            refine held_take (i := 0) (v := .pointer (some ⟨gp, 35, none⟩)) rfl (by kernel_rfl) (by kernel_rfl) (by kernel_rfl) (fun _ _ _ h => h) s0.out (by rfl) (fun w' hw' => by go_simp) ?_
            (intro K hK; go_simp; refine hK _ ?_; clear hK K)
            refine held_take (i := 2) (v := .slice (some ⟨bP, oP, none⟩) j c2) rfl (by kernel_rfl) (by kernel_rfl) (by kernel_rfl) (fun _ _ _ h => h) s0.out (by rfl) (fun w' hw' => run_mv (.tmp 1) rfl w') ?_
            (intro K hK; go_simp; refine hK _ ?_; clear hK K)
            refine held_take (i := 3) (v := .int .i64 (i : Int)) rfl (by kernel_rfl) (by kernel_rfl) (by kernel_rfl) (fun _ _ _ h => h) s0.out (by rfl) (fun w' hw' => run_mv (.tmp 10) rfl w') ?_
            (intro K hK; go_simp; refine hK _ ?_; clear hK K)
            refine held_take (i := 4) (v := .pointer (some ⟨bP, oP + i * 3, none⟩)) rfl (by kernel_rfl) (by kernel_rfl) (by kernel_rfl) (fun _ _ _ h => h) s0.out (by rfl) (fun w' hw' => by go_simp) ?_
            (intro K hK; go_simp; refine hK _ ?_; clear hK K)
            refine held_take (i := 5) (v := .pointer (some ⟨bP, oP + i * 3, none⟩)) rfl (by kernel_rfl) (by kernel_rfl) (by kernel_rfl) (fun _ _ _ h => h) s0.out (by rfl) (fun w' hw' => by go_simp) ?_
            (intro K hK; go_simp; refine hK _ ?_; clear hK K)
            refine held_take (i := 6) (v := .int .i64 x.x) rfl (by kernel_rfl) (by kernel_rfl) (by kernel_rfl) (fun _ _ _ h => h) s0.out (by rfl) (fun w' hw' => by have hx := hfx.out w' hw' 0 _ rfl; rw [Nat.add_zero] at hx; go_simp) ?_
            (intro K hK; go_simp; refine hK _ ?_; clear hK K)
            refine held_take (i := 7) (v := .slice (some ⟨bP, oP, none⟩) j c2) rfl (by kernel_rfl) (by kernel_rfl) (by kernel_rfl) (fun _ _ _ h => h) s0.out (by rfl) (fun w' hw' => run_mv (.tmp 1) rfl w') ?_
            (intro K hK; go_simp; refine hK _ ?_; clear hK K)
            refine held_take (i := 8) (v := .int .i64 (i : Int)) rfl (by kernel_rfl) (by kernel_rfl) (by kernel_rfl) (fun _ _ _ h => h) s0.out (by rfl) (fun w' hw' => run_mv (.tmp 10) rfl w') ?_
            (intro K hK; go_simp; refine hK _ ?_; clear hK K)
            refine held_take (i := 9) (v := .pointer (some ⟨bP, oP + i * 3, none⟩)) rfl (by kernel_rfl) (by kernel_rfl) (by kernel_rfl) (fun _ _ _ h => h) s0.out (by rfl) (fun w' hw' => by go_simp) ?_
            (intro K hK; go_simp; refine hK _ ?_; clear hK K)
            refine held_take (i := 10) (v := .pointer (some ⟨bP, oP + i * 3 + 1, none⟩)) rfl (by kernel_rfl) (by kernel_rfl) (by kernel_rfl) (fun _ _ _ h => h) s0.out (by rfl) (fun w' hw' => by go_simp) ?_
            (intro K hK; go_simp; refine hK _ ?_; clear hK K)
            refine held_take (i := 11) (v := .int .i64 x.y) rfl (by kernel_rfl) (by kernel_rfl) (by kernel_rfl) (fun _ _ _ h => h) s0.out (by rfl) (fun w' hw' => by have hx := hfx.out w' hw' 1 _ rfl; go_simp) ?_
            (intro K hK; go_simp; refine hK _ ?_; clear hK K)
            refine held_take (i := 12) (v := .slice (some ⟨gw, 0, none⟩) s' S) rfl (by kernel_rfl) (by kernel_rfl) (by kernel_rfl) (fun _ _ _ h => h) s0.out (by rfl) (fun w' hw' => run_mv (.tmp 9) rfl w') ?_
            (intro K hK; go_simp; refine hK _ ?_; clear hK K)
            refine held_take (i := 13) (v := .int .i64 (s : Int)) rfl (by kernel_rfl) (by kernel_rfl) (by kernel_rfl) (fun _ _ _ h => h) s0.out (by rfl) (fun w' hw' => run_mv (.tmp 12) rfl w') ?_
            (intro K hK; go_simp; refine hK _ ?_; clear hK K)
            refine held_take (i := 14) (v := .slice (some ⟨gw, 0, none⟩) s' S) rfl (by kernel_rfl) (by kernel_rfl) (by kernel_rfl) (fun _ _ _ h => h) s0.out (by rfl) (fun w' hw' => run_mv (.tmp 9) rfl w') ?_
            (intro K hK; go_simp; refine hK _ ?_; clear hK K)
            refine held_take (i := 15) (v := .int .i64 (s' : Int)) rfl (by kernel_rfl) (by kernel_rfl) (by kernel_rfl) (fun _ _ _ h => h) s0.out (by rfl) (fun w' hw' => by go_simp) ?_
            (intro K hK; go_simp; refine hK _ ?_; clear hK K)
            refine held_take (i := 16) (v := .slice (some ⟨gw, 0, none⟩) s' S) rfl (by kernel_rfl) (by kernel_rfl) (by kernel_rfl) (fun _ _ _ h => h) s0.out (by rfl) (fun w' hw' => run_mv (.tmp 9) rfl w') ?_
            (intro K hK; go_simp; refine hK _ ?_; clear hK K)
            refine held_take (i := 17) (v := .int .i64 (s' : Int)) rfl (by kernel_rfl) (by kernel_rfl) (by kernel_rfl) (fun _ _ _ h => h) s0.out (by rfl) (fun w' hw' => by go_simp) ?_
            (intro K hK; go_simp; refine hK _ ?_; clear hK K)
            refine held_take (i := 18) (v := .slice fA xn xn) rfl (by kernel_rfl) (by kernel_rfl) (by kernel_rfl) (fun _ _ _ h => h) s0.out (by rfl) (fun w' hw' => by have hx := hX.out w'; go_simp) ?_
            (intro K hK; go_simp; refine hK _ ?_; clear hK K)
            refine held_take (i := 19) (v := .agg #[.int .i64 x.x, .int .i64 x.y, .slice fA xn xn]) rfl (by kernel_rfl) (by kernel_rfl) (by kernel_rfl) (fun _ _ _ h => h) s0.out (by rfl) (fun w' hw' => by go_simp) ?_
            (intro K hK; go_simp; refine hK _ ?_; clear hK K)
            refine held_two (i := 1) (j := 20) rfl rfl (by kernel_rfl) (by rfl) (by rfl) (fun K hK => ?_) (fun K hK => ?_)
            · go_simp
              refine hK _ _ s0.out ?_
              clear hK K
              refine held_only (i := 20) rfl (by kernel_rfl) (by rfl) (fun K hK => ?_)
              refine wp_buildAggs 77 51 1 _ rfl 3 (by decide) [pr.cells] Tryd.underlying77 Hand.sizeIn Hand.zeroIn rfl (by decide) (by decide) q1.out (by rw [hprc.out]; rfl) ?_
              rw [x1.out]
              refine hK _ _ (s0.out.alloc s0.out.size _) ?_
              clear hK K
              have hCk5 := Lib.hid (hCk4.out.below ((Below.refl _ _).drew.trans (Below.heap_below w4.drew (.cells pr.cells.toArray 51))))
              have hnP : Hid (Reads (w4.drew.alloc (.cells pr.cells.toArray 51)) 3 (some ⟨w4.heap.size, 0, none⟩) 1 pr.cells) := Blk.reads (Blk.new w4.drew 51 pr.cells.toArray) 0 _ rfl (fun j u hu => by rw [Nat.zero_add, List.getElem?_toArray]; exact hu)
              have hOP := Lib.hid hCk5.out.op
              have hs3 : Hid (B ≤ (w4.drew.alloc (.cells pr.cells.toArray 51)).heap.size) := by have := hCk5.out.bk.lt; have := hBe.out; show _ ≤ _; omega
              refine held_only (i := 21) rfl (by kernel_rfl) (by rfl) (fun K hK => ?_)
              refine wp_append_src _ (.tmp 51) (.tmp 70) 77 rfl B 51 n0 (.agg #[.int .i64 0, .int .i64 0, .slice none 0 0]) 3 40 Tryd.underlying77 hn0 nz0 nz1 nz2 rfl (by decide) (.slice AP i cP) i ((cutPs (some ⟨gw, 0, none⟩) 0 (ps.take i)).flatMap Pr.cells) rfl hOP.out (some ⟨w4.heap.size, 0, none⟩) 1 1 pr.cells rfl hnP.out (fun e => by cases e) hone.out hs1.out hs2.out hs3.out ?_
              intro v7 w7 hG
              obtain ⟨AP7, cP7, rfl, -⟩ := Append.Own.reads hG.own
              have hpk := Lib.hid (hCk4.out.pushP hRg.out hgB.out ((Below.refl _ _).drew.trans (Below.heap_below w4.drew (.cells pr.cells.toArray 51))) hG)
              have cP35 : w7.cell? ⟨gp, 35, none⟩ = some (.slice AP i cP) := (hpk.out.2.cell 35).trans (by rw [List.getElem?_toArray]; exact pc_proofs rfl)
              have fP35 := hpk.out.2.frozen 35
              have b7 : Hid (Below w.heap.size w w7) := hG.below hCk5.out.be hCk5.out.be.size (fun k e => by have := (hCk5.out.op.lt k e).1; have := hRg.out; have := hgB.out; omega)
              clear hG
              go_simp
              refine hK _ _ b7.out ?_
              clear hK K
              refine held_take (i := 22) (v := .pointer (some ⟨gp, 35, none⟩)) rfl (by kernel_rfl) (by kernel_rfl) (by kernel_rfl) (fun _ _ _ h => h) b7.out (by rfl) (fun w' hw' => by go_simp) ?_
              (intro K hK; go_simp; refine hK _ ?_; clear hK K)
              refine held_only (i := 23) rfl (by kernel_rfl) (by rfl) (fun K hK => ?_)
              go_simp
              refine hK _ _ (b7.out.setCell (by show w.heap.size ≤ gp; have := hRg.out; omega) _) ?_
              clear hK K
              refine held_end (by kernel_rfl) ?_
              have hCkF : Hid (Ck w (w7.setCell ⟨gp, 35, none⟩ (.slice AP7 (i + 1) cP7)) w.heap.size B gp (.slice AE' (i + 1) cE') (.slice AP7 (i + 1) cP7) (.slice (some ⟨gw, 0, none⟩) s' S) (i + 1) (i + 1) s' (xs ++ [vv]) (es.take (i + 1)) ((cutPs (some ⟨gw, 0, none⟩) 0 (ps.take (i + 1))).flatMap Pr.cells) ((ps.take (i + 1)).flatMap Pr.ds)) := by
                have hh := hpk.out.1
                show Ck _ _ _ _ _ _ _ _ _ _ _ _ _ _ _
                rw [hsn.out, flat_snoc]
                exact hh
              have hinF : Hid (i + 1 ≤ j) := hlt'.out
              clear hpk cP35 fP35 c35 hs1 hs2 hs3 hnP hOP hCk4 hCk5
              go_wp2_with fail
              go_roundw
              case rel => exact ⟨i + 1, s', cE', cP7, AE', AP7, xs ++ [vv], by go_num, rfl, ht1.out, hinF.out, hCkF.out⟩
              case measure => (have := hinF.out; simp [intOf]; omega)
            · refine wp_buildAggs 77 51 1 _ rfl 3 (by decide) [pr.cells] Tryd.underlying77 Hand.sizeIn Hand.zeroIn rfl (by decide) (by decide) q1.out (by rw [hprc.out]; rfl) ?_
              rw [x1.out]
              refine hK _ _ (s0.out.alloc s0.out.size _) ?_
              clear hK K
              have c35b : (w4.alloc (.cells pr.cells.toArray 51)).cell? ⟨gp, 35, none⟩ = some (.slice AP i cP) := ((hCk4.out.bk.alloc _).cell 35).trans (by rw [List.getElem?_toArray]; exact pc_proofs rfl)
              refine held_only (i := 1) rfl (by kernel_rfl) (by rfl) (fun K hK => ?_)
              go_simp
              refine hK _ _ (s0.out.alloc s0.out.size _) ?_
              clear hK K c35b
              have hCk5 := Lib.hid (hCk4.out.below ((Below.refl _ _).drew.trans (Below.heap_below w4.drew (.cells pr.cells.toArray 51))))
              have hnP : Hid (Reads (w4.drew.alloc (.cells pr.cells.toArray 51)) 3 (some ⟨w4.heap.size, 0, none⟩) 1 pr.cells) := Blk.reads (Blk.new w4.drew 51 pr.cells.toArray) 0 _ rfl (fun j u hu => by rw [Nat.zero_add, List.getElem?_toArray]; exact hu)
              have hOP := Lib.hid hCk5.out.op
              have hs3 : Hid (B ≤ (w4.drew.alloc (.cells pr.cells.toArray 51)).heap.size) := by have := hCk5.out.bk.lt; have := hBe.out; show _ ≤ _; omega
              refine held_only (i := 21) rfl (by kernel_rfl) (by rfl) (fun K hK => ?_)
              refine wp_append_src _ (.tmp 51) (.tmp 70) 77 rfl B 51 n0 (.agg #[.int .i64 0, .int .i64 0, .slice none 0 0]) 3 40 Tryd.underlying77 hn0 nz0 nz1 nz2 rfl (by decide) (.slice AP i cP) i ((cutPs (some ⟨gw, 0, none⟩) 0 (ps.take i)).flatMap Pr.cells) rfl hOP.out (some ⟨w4.heap.size, 0, none⟩) 1 1 pr.cells rfl hnP.out (fun e => by cases e) hone.out hs1.out hs2.out hs3.out ?_
              intro v7 w7 hG
              obtain ⟨AP7, cP7, rfl, -⟩ := Append.Own.reads hG.own
              have hpk := Lib.hid (hCk4.out.pushP hRg.out hgB.out ((Below.refl _ _).drew.trans (Below.heap_below w4.drew (.cells pr.cells.toArray 51))) hG)
              have cP35 : w7.cell? ⟨gp, 35, none⟩ = some (.slice AP i cP) := (hpk.out.2.cell 35).trans (by rw [List.getElem?_toArray]; exact pc_proofs rfl)
              have fP35 := hpk.out.2.frozen 35
              have b7 : Hid (Below w.heap.size w w7) := hG.below hCk5.out.be hCk5.out.be.size (fun k e => by have := (hCk5.out.op.lt k e).1; have := hRg.out; have := hgB.out; omega)
              clear hG
              go_simp
              refine hK _ _ b7.out ?_
              clear hK K
              refine held_take (i := 22) (v := .pointer (some ⟨gp, 35, none⟩)) rfl (by kernel_rfl) (by kernel_rfl) (by kernel_rfl) (fun _ _ _ h => h) b7.out (by rfl) (fun w' hw' => by go_simp) ?_
              (intro K hK; go_simp; refine hK _ ?_; clear hK K)
              refine held_only (i := 23) rfl (by kernel_rfl) (by rfl) (fun K hK => ?_)
              go_simp
              refine hK _ _ (b7.out.setCell (by show w.heap.size ≤ gp; have := hRg.out; omega) _) ?_
              clear hK K
              refine held_end (by kernel_rfl) ?_
              have hCkF : Hid (Ck w (w7.setCell ⟨gp, 35, none⟩ (.slice AP7 (i + 1) cP7)) w.heap.size B gp (.slice AE' (i + 1) cE') (.slice AP7 (i + 1) cP7) (.slice (some ⟨gw, 0, none⟩) s' S) (i + 1) (i + 1) s' (xs ++ [vv]) (es.take (i + 1)) ((cutPs (some ⟨gw, 0, none⟩) 0 (ps.take (i + 1))).flatMap Pr.cells) ((ps.take (i + 1)).flatMap Pr.ds)) := by
                have hh := hpk.out.1
                show Ck _ _ _ _ _ _ _ _ _ _ _ _ _ _ _
                rw [hsn.out, flat_snoc]
                exact hh
              have hinF : Hid (i + 1 ≤ j) := hlt'.out
              clear hpk cP35 fP35 c35 hs1 hs2 hs3 hnP hOP hCk4 hCk5
              go_wp2_with fail
              go_roundw
              case rel => exact ⟨i + 1, s', cE', cP7, AE', AP7, xs ++ [vv], by go_num, rfl, ht1.out, hinF.out, hCkF.out⟩
              case measure => (have := hinF.out; simp [intOf]; omega)
        · have hin2 : i = j := by have := hin.out; omega
          subst hin2
          have y3 : ¬ ((i : Int) < (i : Int)) := by omega
          have e1 : es.take i = es := List.take_of_length_le (by rw [hn.out]; exact Nat.le_refl _)
          have e2 : ps.take i = ps := List.take_of_length_le (by rw [hm.out]; exact Nat.le_refl _)
          rw [e1, e2] at hCk
          rw [e2] at hs
          have hsS : s = sumN ps := hs.out.symm
          have hbk := Lib.hid hCk.out.bk
          have hrs := Lib.hid hCk.out.rs
          have hRB : Hid (w.heap.size < B) := Nat.lt_trans hRg.out hgB.out
          have hCkF := hCk
          rw [hsS] at hCkF
          have hfirm := Lib.hid (pco_of hCkF.out hdd.out hRB.out)
          clear hlt e1 e2 hsS hCkF
          go_wp2_with (first
            | ((with_reducible change wpList _ _ _ ({ dst := some 74, op := _, type := _, pos := _, after := _, guard := _ } :: _) _ _); refine wpList_load_row (o := ⟨some 74, _, _, _, _, _⟩) rfl 83 (.tmp 5) rfl (gp) rfl 83 ((pieceCells ByteArray.empty 0 (List.replicate 32 0) (.slice AE i cE) (.slice AP i cP)).toArray) (0, 0) _ hbk.out Tryd.underlying83 rfl (pc_info rfl) ?_)
            | ((with_reducible change wpList _ _ _ ({ dst := none, op := Op.store 83 _ _, type := _, pos := _, after := _, guard := _ } :: _) _ _); refine wpList_store_row (o := ⟨none, _, _, _, _, _⟩) rfl 83 (.tmp 4) (.tmp 74) rfl (w.heap.size) ((pieceCells ByteArray.empty 0 (List.replicate 32 0) (.slice AE i cE) (.slice AP i cP)).toArray) rfl rfl 83 (zP) hrs.out (pc_info rfl) (pc_size rfl).symm (pc_one rfl rfl) ?_))
          refine bodyPost_ret (results_cell_row rfl _ _ w.heap.size 83 (pieceCells ByteArray.empty 0 (List.replicate 32 0) (.slice AE i cE) (.slice AP i cP)).toArray (0, 0) _ rfl (setRow_heap _ _ _ _ _ _ hrs.out) Tryd.underlying83 rfl (pc_info rfl)) rfl ?_
          have hK : Kept (· = w.heap.size) wr (wr.setRow w.heap.size (pieceCells ByteArray.empty 0 (List.replicate 32 0) (.slice AE i cE) (.slice AP i cP)).toArray) := Bytes.Kept.setRow (S := (· = w.heap.size)) (Kept.refl _ _) rfl _
          exact ⟨⟨ByteArray.empty, 0, List.replicate 32 0, es, cutPs (some ⟨gw, 0, none⟩) 0 ps, AE, i, cE, AP, i, cP⟩, rfl, rfl, rfl, rfl, rfl, cutPs_alike _ _ _, rfl, rfl, PcO.mono (hfirm.out _ hK) (Nat.le_of_lt hRB.out), below_setRow hCk.out.be (Nat.le_refl _) _⟩
end Go.Proofs.YtgldkfaiofkhbaaDoor.CutWO

namespace Go.Proofs.YtgldkfaiofkhbaaDoor.CutW
open Go Go.RowKit Go.Proofs.YtgldkfaiofkhbaaDoor Go.Proofs.YtgldkfaiofkhbaaDoor.HeadMem Go.Proofs.YtgldkfaiofkhbaaDoor.Mem Go.Proofs.YtgldkfaiofkhbaaDoor.Sha Go.Proofs.YtgldkfaiofkhbaaDoor.Bytes Go.Proofs.YtgldkfaiofkhbaaDoor.Append Go.Proofs.YtgldkfaiofkhbaaDoor.TreeMem Go.Proofs.YtgldkfaiofkhbaaDoor.Held Go.Proofs.YtgldkfaiofkhbaaDoor.Own Go.Proofs.YtgldkfaiofkhbaaDoor.QuietTail Go.Proofs.YtgldkfaiofkhbaaDoor.Grown Go.Proofs.YtgldkfaiofkhbaaDoor.Book Go.Proofs.YtgldkfaiofkhbaaDoor.Prs Go.Proofs.YtgldkfaiofkhbaaDoor.Reach2 Go.Proofs.YtgldkfaiofkhbaaDoor.PieceLay Go.Proofs.YtgldkfaiofkhbaaDoor.PieceMem Go.Proofs.YtgldkfaiofkhbaaDoor.PieceMem2 Go.Proofs.YtgldkfaiofkhbaaDoor.SamePiece Go.Proofs.YtgldkfaiofkhbaaDoor.Pcs Go.Proofs.YtgldkfaiofkhbaaDoor.CutM
theorem infoU8 : (Tryd.prog.info? 5).map (fun i => (i.zero, i.size, i.bytes)) = some (some (.int .u8 0), 1, 1) := by kernel_rfl
theorem reads_cells {w : World} {A : Option Addr} {n : Nat} {xs : List Value} (h : Reads w 32 A n xs) : ∀ ad, A = some ad → ∀ j u, xs[j]? = some u → w.cell? (ad.add j) = some u := fun ad e j u hu => by
  have hj := (List.getElem?_eq_some_iff.1 hu).1
  obtain ⟨b, o, e2, -, hc⟩ := h.2 (by rw [← h.1]; omega)
  rw [e] at e2
  obtain rfl := Option.some.inj e2
  rw [add_at]
  exact hc j u hu
theorem digs_one (ds : List Text) : ∀ v ∈ ds.flatMap cells8, v.oneCell' = true := fun v hv => by
  obtain ⟨d, _, hd⟩ := List.mem_flatMap.1 hv
  exact PieceMem.cells8_one v hd
set_option maxRecDepth 100000 in
set_option maxHeartbeats 8000000 in
theorem cut_any (es : List Text) (n : Nat) (hn : es.length = n) (hn6 : n ≤ 1000000) (hsh : ∀ e ∈ es, e.length < 140737488355328) (ps : List Pr) (hm : ps.length = n) (hsum : sumN ps ≤ 1000000) (hnil : ∀ p ∈ ps, p.A = none → p.n = 0 ∧ p.c = 0) (A A2 : Option Addr) (c c2 : Nat) (w : World) (hp : Pieces w A es) (hq : Prs w A2 ps) :
    Calls Tryd.prog 84 #[.slice A n c, .slice A2 n c2] w fun e w' => ∃ p : Pc, e = .returned (.agg p.cells.toArray) ∧ p.s = ByteArray.empty ∧ p.F = 0 ∧ p.b = List.replicate 32 0 ∧ p.es = es ∧ SamePiece.Alike p.ps ps ∧ p.n = n ∧ p.m = n ∧ Firm w' w.heap.size p ∧ Below w.heap.size w w' := by
  obtain ⟨j0, hj, jz0, jz1, jz2⟩ := info_partsN Hand.infoTx
  obtain ⟨d0, hd, dz0, dz1, dz2⟩ := info_partsN info32
  obtain ⟨n0, hn0, nz0, nz1, nz2⟩ := info_partsN Hand.infoIn
  obtain ⟨u0, hu0, uz0, uz1, uz2⟩ := info_partsN infoU8
  have hCk2 : Hid (Ck w ((w.alloc (.cells zP 83)).alloc (.cells zP 83)) w.heap.size (w.heap.size + 2) (w.heap.size + 1) (.slice none 0 0) (.slice none 0 0) (.slice none 0 0) 0 0 0 [] [] [] []) := by
    have h2 : Blk ((w.alloc (.cells zP 83)).alloc (.cells zP 83)) (w.heap.size + 1) 83 zP := by
      have := Blk.new (w.alloc (.cells zP 83)) 83 zP
      rwa [show (w.alloc (.cells zP 83)).heap.size = w.heap.size + 1 by simp] at this
    exact ⟨h2, (Blk.new w _ _).alloc _, World.ownsRow_nil _ _ _ _, World.ownsRow_nil _ _ _ _, World.ownsRow_nil _ _ _ _, Tov.nil_ _ _, (Below.heap_below w _).alloc (by simp) _⟩
  have hdd : Hid (∀ p ∈ ps, Digs p.ds ∧ p.ds.length = p.n) := fun p hp => ⟨(hq.2 p hp).1.2.1, (hq.2 p hp).1.1⟩
  replace hn := Lib.hid hn
  replace hm := Lib.hid hm
  replace hn6 := Lib.hid hn6
  replace hp := Lib.hid hp
  replace hq := Lib.hid hq
  replace hsh := Lib.hid hsh
  replace hnil := Lib.hid hnil
  obtain ⟨T, hT⟩ : ∃ x, Hid (sumN ps = x) := ⟨_, Lib.hid rfl⟩
  have hT6 : Hid (T ≤ 1000000) := by have := hT.out; show _ ≤ _; omega
  have htk : Hid (∀ j, sumN (ps.take j) ≤ T) := fun j => by have := sumN_take ps j; have := hT.out; omega
  clear hsum
  go_enter Tryd.func84, Tryd.ntmps84
  go_wp2_with fail
  obtain ⟨gp, hgp⟩ : ∃ x, Hid (w.heap.size + 1 = x) := ⟨_, Lib.hid rfl⟩
  obtain ⟨B, hBe⟩ : ∃ x, Hid (gp + 1 = x) := ⟨_, Lib.hid rfl⟩
  have hB2 : w.heap.size + 2 = B := by have := hgp.out; have := hBe.out; omega
  rw [hgp.out, hB2] at hCk2
  rw [hgp.out]
  clear hB2
  have hRg : Hid (w.heap.size < gp) := by have := hgp.out; show _ < _; omega
  have hgB : Hid (gp < B) := by have := hBe.out; show _ < _; omega
  go_loopw [15, 6] (fun v15 v6 wr => ∃ (j S : Nat), v15 = .int .i64 (j : Int) ∧ v6 = .int .i64 (S : Int) ∧ Hid (sumN (ps.take j) = S) ∧ Hid (j ≤ n) ∧ Hid (Ck w wr w.heap.size B gp (.slice none 0 0) (.slice none 0 0) (.slice none 0 0) 0 0 0 [] [] [] [])) (fun v _ _ => n - (intOf v).toNat)
  case atStart => exact ⟨0, 0, rfl, rfl, rfl, Nat.zero_le _, hCk2.out⟩
  case round =>
    clear hCk2
    obtain ⟨j, S, rfl, rfl, hS, hjn, hCk⟩ := hrel
    have hj6 : (j : Int) ≤ 1000000 := by have := hjn.out; have := hn6.out; omega
    have hS6 : (S : Int) ≤ 1000000 := by have := htk.out j; have := hS.out; have := hT6.out; omega
    by_cases hlt : j < n
    · have y3 : ((j : Int) < (n : Int)) := by omega
      have hz0 : (0 : Int) ≤ (j : Int) := by omega
      obtain ⟨x, hxi⟩ : ∃ x, Hid (ps[j]? = some x) := ⟨_, List.getElem?_eq_getElem (by rw [hm.out]; exact hlt)⟩
      obtain ⟨bP, oP, rfl, hbP, hcx⟩ := hq.out.at_ hxi.out
      obtain ⟨xn, hxn⟩ : ∃ y, Hid (x.n = y) := ⟨_, Lib.hid rfl⟩
      have hfx : Hid (∀ f u, [Value.int .i64 x.x, .int .i64 x.y, .slice x.A xn x.c][f]? = some u → wr.cell? ⟨bP, oP + j * 3 + f, none⟩ = some u) := fun f u hu => (hCk.out.be.cell (p := ⟨bP, oP + j * 3 + f, none⟩) hbP).trans (by rw [show oP + j * 3 + f = oP + (3 * j + f) by omega]; rw [← hxn.out] at hu; exact hcx f u hu)
      have hlt' : Hid (j < n) := hlt
      have ht1 : Hid (sumN (ps.take (j + 1)) = S + xn) := by show _ = _; rw [List.take_add_one, hxi.out, ← hS.out, ← hxn.out]; exact sumN_snoc _ _
      have hxn6 : (xn : Int) ≤ 1000000 := by have := htk.out (j + 1); have := ht1.out; have := hT6.out; omega
      clear hcx hbP hlt
      go_wp2_with ((with_reducible change wpList _ _ _ ({ dst := some 18, op := _, type := _, pos := _, after := _, guard := _ } :: _) _ _); refine wpList_load_part (o := ⟨some 18, _, _, _, _, _⟩) rfl 51 (.tmp 17) rfl (bP) (oP + j * 3) rfl ([Value.int .i64 x.x, .int .i64 x.y, .slice x.A xn x.c]) _ hfx.out Tryd.underlying51 rfl size3 ?_)
      go_roundw
      case rel => exact ⟨j + 1, S + xn, by go_num, by go_num, ht1.out, hlt'.out, hCk.out.below (Below.heap_below _ _)⟩
      case measure => (have := hlt'.out; simp [intOf]; omega)
    · have hjn2 : j = n := by have := hjn.out; omega
      subst hjn2
      have y3 : ¬ ((j : Int) < (j : Int)) := by omega
      have hST : Hid (S = T) := by have h := hS.out; rw [List.take_of_length_le (by rw [hm.out]; exact Nat.le_refl _), hT.out] at h; exact h.symm
      obtain rfl := hST.out
      obtain ⟨wA, rfl⟩ : ∃ wA, wA = wr := ⟨_, rfl⟩
      have b2 : Hid (d0.bytes * S ≤ 281474976710656) := by show _ ≤ _; rw [dz2]; omega
      have b3 : Hid (S ≤ maxLen) := by show _ ≤ _; unfold maxLen; omega
      have b4 : Hid (B ≤ wA.heap.size) := by have := hCk.out.bk.lt; have := hBe.out; show _ ≤ _; omega
      clear hlt hS hjn hST
      go_wp2_with (at_make; refine wpList_make_own _ rfl (.const (.int .i64 0)) (.tmp 25) 42 rfl B 23 d0 (.agg Z32) 32 Tryd.underlying42 hd dz0 dz1 .i64 .i64 (S : Int) S rfl rfl rfl b2.out b3.out b4.out ?_; intro w1 hown hgr; have hbl : Below wA.heap.size wA w1 := (Below.refl _ _).grown hgr (Nat.le_refl _) (fun _ e => by cases e); have hCk1 : Hid (Ck w w1 w.heap.size B gp (.slice none 0 0) (.slice none 0 0) (.slice (some ⟨wA.heap.size, 0, none⟩) 0 S) 0 0 0 [] [] [] []) := (by have h := hCk.out.below hbl; exact ⟨h.bk, h.rs, h.oe, h.op, hown, h.tx, h.be⟩); clear hbl hown hgr hCk; generalize wA.heap.size = gw at *)
      clear b2 b3 b4 y3
      go_loopw [29, 9] (fun v29 v9 wr => ∃ (i s cE cP : Nat) (AE AP : Option Addr) (xs : List Value), v29 = .int .i64 (i : Int) ∧ v9 = .slice (some ⟨gw, 0, none⟩) s S ∧ Hid (sumN (ps.take i) = s) ∧ Hid (i ≤ j) ∧ Hid (Ck w wr w.heap.size B gp (.slice AE i cE) (.slice AP i cP) (.slice (some ⟨gw, 0, none⟩) s S) i i s xs (es.take i) ((cutPs (some ⟨gw, 0, none⟩) 0 (ps.take i)).flatMap Pr.cells) ((ps.take i).flatMap Pr.ds))) (fun v _ _ => j - (intOf v).toNat)
      case atStart => exact ⟨0, 0, 0, 0, none, none, [], rfl, rfl, rfl, Nat.zero_le _, hCk1.out⟩
      case round =>
        clear hCk1
        obtain ⟨i, s, cE, cP, AE, AP, xs, rfl, rfl, hs, hin, hCk⟩ := hrel
        have hi6 : (i : Int) ≤ 1000000 := by have := hin.out; have := hn6.out; omega
        by_cases hlt : i < j
        · have y3 : ((i : Int) < (j : Int)) := by omega
          have hz0 : (0 : Int) ≤ (i : Int) := by omega
          obtain ⟨q, hqi⟩ : ∃ q, Hid (es[i]? = some q) := ⟨_, List.getElem?_eq_getElem (by rw [hn.out]; exact hlt)⟩
          obtain ⟨bA, oA, rfl, hbA, hcs⟩ := hp.out (by have := hn.out; omega)
          obtain ⟨Ae, ce, hc1, hc2, hc3, hc4⟩ := hcs i q hqi.out
          obtain ⟨k, hk⟩ : ∃ k, Hid (q.length = k) := ⟨_, Lib.hid rfl⟩
          have hk47 : Hid (k < 140737488355328) := by have := hsh.out q (List.mem_of_getElem? hqi.out); have := hk.out; show _ < _; omega
          have cev : wr.cell? ⟨bA, oA + i, none⟩ = some (.slice Ae k ce) := (hCk.out.be.cell (p := ⟨bA, oA + i, none⟩) hbA).trans (by rw [← hk.out]; exact hc1)
          have hrd : Hid (∀ w', Below w.heap.size w w' → Reads w' 1 Ae k (cells8 q)) := fun w' hb => by rw [← hk.out]; exact hc3.below hb
          have hne : Hid (Ae = none → k = 0 ∧ ce = 0) := fun e => by rw [← hk.out]; exact hc4 e
          obtain ⟨x, hxi⟩ : ∃ x, Hid (ps[i]? = some x) := ⟨_, List.getElem?_eq_getElem (by rw [hm.out]; exact hlt)⟩
          obtain ⟨bP, oP, rfl, hbP, hcx⟩ := hq.out.at_ hxi.out
          obtain ⟨xn, hxn⟩ : ∃ y, Hid (x.n = y) := ⟨_, Lib.hid rfl⟩
          obtain ⟨xA, hxA⟩ : ∃ y, Hid (x.A = y) := ⟨_, Lib.hid rfl⟩
          obtain ⟨xc, hxc⟩ : ∃ y, Hid (x.c = y) := ⟨_, Lib.hid rfl⟩
          have hfx : Hid (∀ w', Below w.heap.size w w' → ∀ f u, [Value.int .i64 x.x, .int .i64 x.y, .slice xA xn xc][f]? = some u → w'.cell? ⟨bP, oP + i * 3 + f, none⟩ = some u) := fun w' hb f u hu => (hb.cell (p := ⟨bP, oP + i * 3 + f, none⟩) hbP).trans (by rw [show oP + i * 3 + f = oP + (3 * i + f) by omega]; rw [← hxn.out, ← hxA.out, ← hxc.out] at hu; exact hcx f u hu)
          have cw2 : wr.cell? ⟨bP, oP + i * 3 + 2, none⟩ = some (.slice xA xn xc) := hfx.out wr hCk.out.be 2 _ rfl
          have hxr : Hid (RdD wr xA xn x.ds) := by
            have h := ((hq.out.2 x (List.mem_of_getElem? hxi.out)).1).below hCk.out.be
            rw [hxn.out, hxA.out] at h
            exact h
          have hxl : Hid (xA = none → xn = 0 ∧ xc = 0) := fun e => by
            have := hnil.out x (List.mem_of_getElem? hxi.out)
            rw [hxn.out, hxA.out, hxc.out] at this
            exact this e
          have hlt' : Hid (i < j) := hlt
          have ht1 : Hid (sumN (ps.take (i + 1)) = s + xn) := by show _ = _; rw [List.take_add_one, hxi.out, ← hs.out, ← hxn.out]; exact sumN_snoc _ _
          have hte : Hid (es.take (i + 1) = es.take i ++ [q]) := by show _ = _; rw [List.take_add_one, hqi.out]; rfl
          have htp : Hid (ps.take (i + 1) = ps.take i ++ [x]) := by show _ = _; rw [List.take_add_one, hxi.out]; rfl
          have hsS : Hid (s + xn ≤ S) := by have := htk.out (i + 1); have := ht1.out; show _ ≤ _; omega
          have hs6 : (s : Int) ≤ 1000000 := by have := hsS.out; have := hT6.out; omega
          have how : Hid (wr.ownsRow B 23 32 (.slice (some ⟨gw, 0, none⟩) s S) s (((ps.take i).flatMap Pr.ds).flatMap cells8)) := hCk.out.ow
          clear hcs hc1 hc2 hc3 hc4 hbA hcx hbP hlt
          go_upto_region 14 with ((with_reducible change wpList _ _ _ ({ dst := some 42, op := _, type := _, pos := _, after := _, guard := _ } :: _) _ _); refine wpList_append_fits_any _ (o := ⟨some 42, _, _, _, _, _⟩) rfl (.tmp 36) (.tmp 41) 42 rfl B 23 d0 32 Tryd.underlying42 hd dz1 gw s S (((ps.take i).flatMap Pr.ds).flatMap cells8) rfl how.out xA xn xc (x.ds.flatMap cells8) rfl hxr.out.2.2.1 hxl.out (reads_cells hxr.out.2.2) (digs_one _) hsS.out ?_; intro w3 hown hgr; have hCk3 : Hid (Ck w w3 w.heap.size B gp (.slice AE i cE) (.slice AP i cP) (.slice (some ⟨gw, 0, none⟩) (s + xn) S) i i (s + xn) xs (es.take i) ((cutPs (some ⟨gw, 0, none⟩) 0 (ps.take i)).flatMap Pr.cells) ((ps.take (i + 1)).flatMap Pr.ds)) := hCk.out.pushW rfl (Nat.lt_trans hRg.out hgB.out) (by rw [htp.out, List.flatMap_append, List.flatMap_singleton, List.flatMap_append]; exact hown) hgr; clear hown hgr)
          obtain ⟨s', hs'⟩ : ∃ y, Hid (s + xn = y) := ⟨_, Lib.hid rfl⟩
          rw [hs'.out] at hCk3 ht1 hsS
          rw [hs'.out]
          clear hCk how hxr hxl cev cw2
          have c34 : w3.cell? ⟨gp, 34, none⟩ = some (.slice AE i cE) := (hCk3.out.bk.cell 34).trans (by rw [List.getElem?_toArray]; exact pc_events rfl)
          have s0 : Hid (Below w.heap.size w w3.drew) := hCk3.out.be.drew
          have hB3 : Hid (B ≤ w3.heap.size) := by have := hCk3.out.bk.lt; have := hBe.out; show _ ≤ _; omega
          have hk1 : Hid (0 + k ≤ maxLen) := by have := hk47.out; show _ ≤ _; unfold maxLen; omega
          have hk2 : Hid ((0 + k) * 1 ≤ 140737488355328) := by have := hk47.out; show _ ≤ _; omega
          have hs1 : Hid (i + 1 ≤ maxLen) := by show _ ≤ _; unfold maxLen; omega
          have hs2 : Hid ((i + 1) * 24 ≤ 140737488355328) := by show _ ≤ _; omega
          go_cut [12] from 43 to 49 (fun v wr' => ∃ (cE' : Nat) (AE' : Option Addr) (vv : Value), v = .int .i64 (s : Int) ∧ Hid (Ck w wr' w.heap.size B gp (.slice AE' (i + 1) cE') (.slice AP i cP) (.slice (some ⟨gw, 0, none⟩) s' S) (i + 1) i s' (xs ++ [vv]) (es.take (i + 1)) ((cutPs (some ⟨gw, 0, none⟩) 0 (ps.take i)).flatMap Pr.cells) ((ps.take (i + 1)).flatMap Pr.ds)))
          case first =>
            refine held_start (fun w' => Below w.heap.size w w') 8 rfl (by kernel_rfl) ?_
            refine held_take (i := 0) (v := .pointer (some ⟨gp, 34, none⟩)) rfl (by kernel_rfl) (by kernel_rfl) (by kernel_rfl) (fun _ _ _ h => h) s0.out (by rfl) (fun w' hw' => by go_simp) ?_
            (intro K hK; go_simp; refine hK _ ?_; clear hK K)
            refine held_take (i := 2) (v := .slice Ae k ce) rfl (by kernel_rfl) (by kernel_rfl) (by kernel_rfl) (fun _ _ _ h => h) s0.out (by rfl) (fun w' hw' => run_mv (.tmp 11) rfl w') ?_
            (intro K hK; go_simp; refine hK _ ?_; clear hK K)
            refine held_two (i := 1) (j := 3) rfl rfl (by kernel_rfl) (by rfl) (by rfl) (fun K hK => ?_) (fun K hK => ?_)
            · go_simp
              refine hK _ _ s0.out ?_
              clear hK K
              refine held_only (i := 3) rfl (by kernel_rfl) (by rfl) (fun K hK => ?_)
              refine wp_append_src _ (.const (.slice none 0 0)) (.tmp 45) 31 rfl B 5 u0 (.int .u8 0) 1 1 Tryd.underlying31 hu0 uz0 uz1 uz2 rfl (by decide) (.slice none 0 0) 0 [] rfl (World.ownsRow_nil _ _ _ _) Ae k ce (cells8 q) rfl (hrd.out _ s0.out) hne.out (fun v hv => PieceMem.cells8_one v hv) hk1.out hk2.out hB3.out ?_
              intro v5 w5 hG5
              have hO5 : Hid (w5.ownsRow B 5 1 v5 k (cells8 q)) := by have h := hG5.own; rw [Nat.zero_add, List.nil_append] at h; exact h
              obtain ⟨Av, cv, rfl, -⟩ := Append.Own.reads hO5.out
              have b5 : Hid (Below w3.heap.size w3 w5) := hG5.below ((Below.refl _ _).drew) (Nat.le_refl _) (fun k e => by cases e)
              have hCk5 := Lib.hid (hCk3.out.below b5.out)
              have s5 := Lib.hid hCk5.out.be
              clear hG5
              go_simp
              refine hK _ _ s5.out ?_
              clear hK K
              refine held_only (i := 4) rfl (by kernel_rfl) (by rfl) (fun K hK => ?_)
              go_simp
              refine hK _ _ (s5.out.alloc s5.out.size _) ?_
              clear hK K
              have hCk6 := Lib.hid (hCk5.out.below (Below.heap_below _ (.cells #[.slice Av k cv] 31)))
              have hnE : Hid (Reads (w5.alloc (.cells #[.slice Av k cv] 31)) 1 (some ⟨w5.heap.size, 0, none⟩) 1 [.slice Av k cv]) := Blk.reads (Blk.new w5 31 #[.slice Av k cv]) 0 _ rfl (fun j u hu => by rw [Nat.zero_add]; simpa using hu)
              have hOE := Lib.hid hCk6.out.oe
              have hs3 : Hid (B ≤ (w5.alloc (.cells #[.slice Av k cv] 31)).heap.size) := by have := hCk6.out.bk.lt; have := hBe.out; show _ ≤ _; omega
              refine held_only (i := 5) rfl (by kernel_rfl) (by rfl) (fun K hK => ?_)
              refine wp_append_src _ (.tmp 44) (.tmp 47) 24 rfl B 31 j0 (.slice none 0 0) 1 24 Tryd.underlying24 hj jz0 jz1 jz2 rfl (by decide) (.slice AE i cE) i xs rfl hOE.out (some ⟨w5.heap.size, 0, none⟩) 1 1 [.slice Av k cv] rfl hnE.out (fun e => by cases e) (by intro v hv; simp only [List.mem_singleton] at hv; rw [hv]; rfl) hs1.out hs2.out hs3.out ?_
              intro v7 w7 hG
              obtain ⟨AE7, cE7, rfl, -⟩ := Append.Own.reads hG.own
              have hpk := Lib.hid (hCk3.out.pushE hRg.out hgB.out hk.out (b5.out.trans ((Below.heap_below w5 (.cells #[.slice Av k cv] 31)).mono b5.out.size)) (World.ownsRow.alloc (w := w5) hO5.out _) hG)
              have cE34 : w7.cell? ⟨gp, 34, none⟩ = some (.slice AE i cE) := (hpk.out.2.cell 34).trans (by rw [List.getElem?_toArray]; exact pc_events rfl)
              have fE34 := hpk.out.2.frozen 34
              have b7 : Hid (Below w.heap.size w w7) := hG.below hCk6.out.be hCk6.out.be.size (fun k e => by have := (hCk6.out.oe.lt k e).1; have := hRg.out; have := hgB.out; omega)
              clear hG
              go_simp
              refine hK _ _ b7.out ?_
              clear hK K
              refine held_take (i := 6) (v := .pointer (some ⟨gp, 34, none⟩)) rfl (by kernel_rfl) (by kernel_rfl) (by kernel_rfl) (fun _ _ _ h => h) b7.out (by rfl) (fun w' hw' => by go_simp) ?_
              (intro K hK; go_simp; refine hK _ ?_; clear hK K)
              refine held_only (i := 7) rfl (by kernel_rfl) (by rfl) (fun K hK => ?_)
              go_simp
              refine hK _ _ (b7.out.setCell (by show w.heap.size ≤ gp; have := hRg.out; omega) _) ?_
              clear hK K
              refine held_end (by kernel_rfl) ?_
              go_wp2_with fail
              go_meet
              case rel => exact ⟨cE7, AE7, _, rfl, by show Ck _ _ _ _ _ _ _ _ _ _ _ _ _ _ _; rw [hte.out]; exact hpk.out.1⟩
            · refine wp_append_src _ (.const (.slice none 0 0)) (.tmp 45) 31 rfl B 5 u0 (.int .u8 0) 1 1 Tryd.underlying31 hu0 uz0 uz1 uz2 rfl (by decide) (.slice none 0 0) 0 [] rfl (World.ownsRow_nil _ _ _ _) Ae k ce (cells8 q) rfl (hrd.out _ s0.out) hne.out (fun v hv => PieceMem.cells8_one v hv) hk1.out hk2.out hB3.out ?_
              intro v5 w5 hG5
              have hO5 : Hid (w5.ownsRow B 5 1 v5 k (cells8 q)) := by have h := hG5.own; rw [Nat.zero_add, List.nil_append] at h; exact h
              obtain ⟨Av, cv, rfl, -⟩ := Append.Own.reads hO5.out
              have b5 : Hid (Below w3.heap.size w3 w5) := hG5.below ((Below.refl _ _).drew) (Nat.le_refl _) (fun k e => by cases e)
              have hCk5 := Lib.hid (hCk3.out.below b5.out)
              have s5 := Lib.hid hCk5.out.be
              clear hG5
              go_simp
              refine hK _ _ s5.out ?_
              clear hK K
              refine held_two (i := 1) (j := 4) rfl rfl (by kernel_rfl) (by rfl) (by rfl) (fun K hK => ?_) (fun K hK => ?_)
              · have c34b : w5.cell? ⟨gp, 34, none⟩ = some (.slice AE i cE) := (hCk5.out.bk.cell 34).trans (by rw [List.getElem?_toArray]; exact pc_events rfl)
                go_simp
                refine hK _ _ s5.out ?_
                clear hK K
                clear c34b
                refine held_only (i := 4) rfl (by kernel_rfl) (by rfl) (fun K hK => ?_)
                go_simp
                refine hK _ _ (s5.out.alloc s5.out.size _) ?_
                clear hK K
                have hCk6 := Lib.hid (hCk5.out.below (Below.heap_below _ (.cells #[.slice Av k cv] 31)))
                have hnE : Hid (Reads (w5.alloc (.cells #[.slice Av k cv] 31)) 1 (some ⟨w5.heap.size, 0, none⟩) 1 [.slice Av k cv]) := Blk.reads (Blk.new w5 31 #[.slice Av k cv]) 0 _ rfl (fun j u hu => by rw [Nat.zero_add]; simpa using hu)
                have hOE := Lib.hid hCk6.out.oe
                have hs3 : Hid (B ≤ (w5.alloc (.cells #[.slice Av k cv] 31)).heap.size) := by have := hCk6.out.bk.lt; have := hBe.out; show _ ≤ _; omega
                refine held_only (i := 5) rfl (by kernel_rfl) (by rfl) (fun K hK => ?_)
                refine wp_append_src _ (.tmp 44) (.tmp 47) 24 rfl B 31 j0 (.slice none 0 0) 1 24 Tryd.underlying24 hj jz0 jz1 jz2 rfl (by decide) (.slice AE i cE) i xs rfl hOE.out (some ⟨w5.heap.size, 0, none⟩) 1 1 [.slice Av k cv] rfl hnE.out (fun e => by cases e) (by intro v hv; simp only [List.mem_singleton] at hv; rw [hv]; rfl) hs1.out hs2.out hs3.out ?_
                intro v7 w7 hG
                obtain ⟨AE7, cE7, rfl, -⟩ := Append.Own.reads hG.own
                have hpk := Lib.hid (hCk3.out.pushE hRg.out hgB.out hk.out (b5.out.trans ((Below.heap_below w5 (.cells #[.slice Av k cv] 31)).mono b5.out.size)) (World.ownsRow.alloc (w := w5) hO5.out _) hG)
                have cE34 : w7.cell? ⟨gp, 34, none⟩ = some (.slice AE i cE) := (hpk.out.2.cell 34).trans (by rw [List.getElem?_toArray]; exact pc_events rfl)
                have fE34 := hpk.out.2.frozen 34
                have b7 : Hid (Below w.heap.size w w7) := hG.below hCk6.out.be hCk6.out.be.size (fun k e => by have := (hCk6.out.oe.lt k e).1; have := hRg.out; have := hgB.out; omega)
                clear hG
                go_simp
                refine hK _ _ b7.out ?_
                clear hK K
                refine held_take (i := 6) (v := .pointer (some ⟨gp, 34, none⟩)) rfl (by kernel_rfl) (by kernel_rfl) (by kernel_rfl) (fun _ _ _ h => h) b7.out (by rfl) (fun w' hw' => by go_simp) ?_
                (intro K hK; go_simp; refine hK _ ?_; clear hK K)
                refine held_only (i := 7) rfl (by kernel_rfl) (by rfl) (fun K hK => ?_)
                go_simp
                refine hK _ _ (b7.out.setCell (by show w.heap.size ≤ gp; have := hRg.out; omega) _) ?_
                clear hK K
                refine held_end (by kernel_rfl) ?_
                go_wp2_with fail
                go_meet
                case rel => exact ⟨cE7, AE7, _, rfl, by show Ck _ _ _ _ _ _ _ _ _ _ _ _ _ _ _; rw [hte.out]; exact hpk.out.1⟩
              · go_simp
                refine hK _ _ (s5.out.alloc s5.out.size _) ?_
                clear hK K
                have c34c : (w5.alloc (.cells #[.slice Av k cv] 31)).cell? ⟨gp, 34, none⟩ = some (.slice AE i cE) := ((hCk5.out.below (Below.heap_below _ (.cells #[.slice Av k cv] 31))).bk.cell 34).trans (by rw [List.getElem?_toArray]; exact pc_events rfl)
                refine held_only (i := 1) rfl (by kernel_rfl) (by rfl) (fun K hK => ?_)
                go_simp
                refine hK _ _ (s5.out.alloc s5.out.size _) ?_
                clear hK K
                clear c34c
                have hCk6 := Lib.hid (hCk5.out.below (Below.heap_below _ (.cells #[.slice Av k cv] 31)))
                have hnE : Hid (Reads (w5.alloc (.cells #[.slice Av k cv] 31)) 1 (some ⟨w5.heap.size, 0, none⟩) 1 [.slice Av k cv]) := Blk.reads (Blk.new w5 31 #[.slice Av k cv]) 0 _ rfl (fun j u hu => by rw [Nat.zero_add]; simpa using hu)
                have hOE := Lib.hid hCk6.out.oe
                have hs3 : Hid (B ≤ (w5.alloc (.cells #[.slice Av k cv] 31)).heap.size) := by have := hCk6.out.bk.lt; have := hBe.out; show _ ≤ _; omega
                refine held_only (i := 5) rfl (by kernel_rfl) (by rfl) (fun K hK => ?_)
                refine wp_append_src _ (.tmp 44) (.tmp 47) 24 rfl B 31 j0 (.slice none 0 0) 1 24 Tryd.underlying24 hj jz0 jz1 jz2 rfl (by decide) (.slice AE i cE) i xs rfl hOE.out (some ⟨w5.heap.size, 0, none⟩) 1 1 [.slice Av k cv] rfl hnE.out (fun e => by cases e) (by intro v hv; simp only [List.mem_singleton] at hv; rw [hv]; rfl) hs1.out hs2.out hs3.out ?_
                intro v7 w7 hG
                obtain ⟨AE7, cE7, rfl, -⟩ := Append.Own.reads hG.own
                have hpk := Lib.hid (hCk3.out.pushE hRg.out hgB.out hk.out (b5.out.trans ((Below.heap_below w5 (.cells #[.slice Av k cv] 31)).mono b5.out.size)) (World.ownsRow.alloc (w := w5) hO5.out _) hG)
                have cE34 : w7.cell? ⟨gp, 34, none⟩ = some (.slice AE i cE) := (hpk.out.2.cell 34).trans (by rw [List.getElem?_toArray]; exact pc_events rfl)
                have fE34 := hpk.out.2.frozen 34
                have b7 : Hid (Below w.heap.size w w7) := hG.below hCk6.out.be hCk6.out.be.size (fun k e => by have := (hCk6.out.oe.lt k e).1; have := hRg.out; have := hgB.out; omega)
                clear hG
                go_simp
                refine hK _ _ b7.out ?_
                clear hK K
                refine held_take (i := 6) (v := .pointer (some ⟨gp, 34, none⟩)) rfl (by kernel_rfl) (by kernel_rfl) (by kernel_rfl) (fun _ _ _ h => h) b7.out (by rfl) (fun w' hw' => by go_simp) ?_
                (intro K hK; go_simp; refine hK _ ?_; clear hK K)
                refine held_only (i := 7) rfl (by kernel_rfl) (by rfl) (fun K hK => ?_)
                go_simp
                refine hK _ _ (b7.out.setCell (by show w.heap.size ≤ gp; have := hRg.out; omega) _) ?_
                clear hK K
                refine held_end (by kernel_rfl) ?_
                go_wp2_with fail
                go_meet
                case rel => exact ⟨cE7, AE7, _, rfl, by show Ck _ _ _ _ _ _ _ _ _ _ _ _ _ _ _; rw [hte.out]; exact hpk.out.1⟩
          case rest =>
            obtain ⟨cE', AE', vv, rfl, hCk4⟩ := hcut
            obtain ⟨w4, rfl⟩ : ∃ w4, w4 = wc := ⟨_, rfl⟩
            clear hCk3 c34 s0 hB3 hk1 hk2 hs2 hrd hne
            have c35 : w4.cell? ⟨gp, 35, none⟩ = some (.slice AP i cP) := (hCk4.out.bk.cell 35).trans (by rw [List.getElem?_toArray]; exact pc_proofs rfl)
            have s0 : Hid (Below w.heap.size w w4.drew) := hCk4.out.be.drew
            have hB4 : Hid (B ≤ w4.heap.size) := by have := hCk4.out.bk.lt; have := hBe.out; show _ ≤ _; omega
            have hs2 : Hid ((i + 1) * 40 ≤ 140737488355328) := by show _ ≤ _; omega
            obtain ⟨fA, hfA⟩ : ∃ y, Hid (at3 (some ⟨gw, 0, none⟩) s s' = y) := ⟨_, Lib.hid rfl⟩
            have hX : Hid (∀ w', (Instr.sliceAt 42 (.slice (some ⟨gw, 0, none⟩) s' S) (some (.int .i64 (s : Int))) (some (.int .i64 (s' : Int))) (some (.int .i64 (s' : Int)))).run Tryd.prog w' = .ok (.slice fA xn xn) w') := fun w' => by
              have := run_midD (A := some ⟨gw, 0, none⟩) (n := s') (c := S) (l := s) (h := s') (by have := hs'.out; omega) hsS.out _ _ _ rfl rfl rfl w'
              rw [hfA.out, show s' - s = xn by have := hs'.out; omega] at this
              exact this
            obtain ⟨pr, hpr⟩ : ∃ pr : Pr, Hid (pr = ⟨x.x, x.y, x.ds, fA, xn, xn⟩) := ⟨_, Lib.hid rfl⟩
            have hprc : Hid (pr.cells = [.int .i64 x.x, .int .i64 x.y, .slice fA xn xn]) := by show _ = _; rw [hpr.out]; rfl
            have q1 : Hid (∀ v ∈ [pr.cells], v.length = 3) := by intro v hv; simp only [List.mem_singleton] at hv; rw [hv]; rfl
            have x1 : Hid ([pr.cells].flatten.toArray = pr.cells.toArray) := by show _ = _; simp
            have hone : Hid (∀ v ∈ pr.cells, v.oneCell' = true) := by intro v hv; rw [hprc.out] at hv; simp only [List.mem_cons, List.not_mem_nil, or_false] at hv; rcases hv with rfl | rfl | rfl <;> rfl
            have hsn : Hid (cutPs (some ⟨gw, 0, none⟩) 0 (ps.take (i + 1)) = cutPs (some ⟨gw, 0, none⟩) 0 (ps.take i) ++ [pr]) := by
              show _ = _
              rw [htp.out, cutPs_snoc, hpr.out, hs.out, Nat.zero_add, hxn.out, hs'.out, hfA.out]
            go_upto_region 15 with fail
            refine held_start (fun w' => Below w.heap.size w w') 24 rfl (by kernel_rfl) ?_
            refine held_take (i := 0) (v := .pointer (some ⟨gp, 35, none⟩)) rfl (by kernel_rfl) (by kernel_rfl) (by kernel_rfl) (fun _ _ _ h => h) s0.out (by rfl) (fun w' hw' => by go_simp) ?_
            (intro K hK; go_simp; refine hK _ ?_; clear hK K)
            refine held_take (i := 2) (v := .slice (some ⟨bP, oP, none⟩) j c2) rfl (by kernel_rfl) (by kernel_rfl) (by kernel_rfl) (fun _ _ _ h => h) s0.out (by rfl) (fun w' hw' => run_mv (.tmp 1) rfl w') ?_
            (intro K hK; go_simp; refine hK _ ?_; clear hK K)
            refine held_take (i := 3) (v := .int .i64 (i : Int)) rfl (by kernel_rfl) (by kernel_rfl) (by kernel_rfl) (fun _ _ _ h => h) s0.out (by rfl) (fun w' hw' => run_mv (.tmp 10) rfl w') ?_
            (intro K hK; go_simp; refine hK _ ?_; clear hK K)
            refine held_take (i := 4) (v := .pointer (some ⟨bP, oP + i * 3, none⟩)) rfl (by kernel_rfl) (by kernel_rfl) (by kernel_rfl) (fun _ _ _ h => h) s0.out (by rfl) (fun w' hw' => by go_simp) ?_
            (intro K hK; go_simp; refine hK _ ?_; clear hK K)
            refine held_take (i := 5) (v := .pointer (some ⟨bP, oP + i * 3, none⟩)) rfl (by kernel_rfl) (by kernel_rfl) (by kernel_rfl) (fun _ _ _ h => h) s0.out (by rfl) (fun w' hw' => by go_simp) ?_
            (intro K hK; go_simp; refine hK _ ?_; clear hK K)
            refine held_take (i := 6) (v := .int .i64 x.x) rfl (by kernel_rfl) (by kernel_rfl) (by kernel_rfl) (fun _ _ _ h => h) s0.out (by rfl) (fun w' hw' => by have hx := hfx.out w' hw' 0 _ rfl; rw [Nat.add_zero] at hx; go_simp) ?_
            (intro K hK; go_simp; refine hK _ ?_; clear hK K)
            refine held_take (i := 7) (v := .slice (some ⟨bP, oP, none⟩) j c2) rfl (by kernel_rfl) (by kernel_rfl) (by kernel_rfl) (fun _ _ _ h => h) s0.out (by rfl) (fun w' hw' => run_mv (.tmp 1) rfl w') ?_
            (intro K hK; go_simp; refine hK _ ?_; clear hK K)
            refine held_take (i := 8) (v := .int .i64 (i : Int)) rfl (by kernel_rfl) (by kernel_rfl) (by kernel_rfl) (fun _ _ _ h => h) s0.out (by rfl) (fun w' hw' => run_mv (.tmp 10) rfl w') ?_
            (intro K hK; go_simp; refine hK _ ?_; clear hK K)
            refine held_take (i := 9) (v := .pointer (some ⟨bP, oP + i * 3, none⟩)) rfl (by kernel_rfl) (by kernel_rfl) (by kernel_rfl) (fun _ _ _ h => h) s0.out (by rfl) (fun w' hw' => by go_simp) ?_
            (intro K hK; go_simp; refine hK _ ?_; clear hK K)
            refine held_take (i := 10) (v := .pointer (some ⟨bP, oP + i * 3 + 1, none⟩)) rfl (by kernel_rfl) (by kernel_rfl) (by kernel_rfl) (fun _ _ _ h => h) s0.out (by rfl) (fun w' hw' => by go_simp) ?_
            (intro K hK; go_simp; refine hK _ ?_; clear hK K)
            refine held_take (i := 11) (v := .int .i64 x.y) rfl (by kernel_rfl) (by kernel_rfl) (by kernel_rfl) (fun _ _ _ h => h) s0.out (by rfl) (fun w' hw' => by have hx := hfx.out w' hw' 1 _ rfl; go_simp) ?_
            (intro K hK; go_simp; refine hK _ ?_; clear hK K)
            refine held_take (i := 12) (v := .slice (some ⟨gw, 0, none⟩) s' S) rfl (by kernel_rfl) (by kernel_rfl) (by kernel_rfl) (fun _ _ _ h => h) s0.out (by rfl) (fun w' hw' => run_mv (.tmp 9) rfl w') ?_
            (intro K hK; go_simp; refine hK _ ?_; clear hK K)
            refine held_take (i := 13) (v := .int .i64 (s : Int)) rfl (by kernel_rfl) (by kernel_rfl) (by kernel_rfl) (fun _ _ _ h => h) s0.out (by rfl) (fun w' hw' => run_mv (.tmp 12) rfl w') ?_
            (intro K hK; go_simp; refine hK _ ?_; clear hK K)
            refine held_take (i := 14) (v := .slice (some ⟨gw, 0, none⟩) s' S) rfl (by kernel_rfl) (by kernel_rfl) (by kernel_rfl) (fun _ _ _ h => h) s0.out (by rfl) (fun w' hw' => run_mv (.tmp 9) rfl w') ?_
            (intro K hK; go_simp; refine hK _ ?_; clear hK K)
            refine held_take (i := 15) (v := .int .i64 (s' : Int)) rfl (by kernel_rfl) (by kernel_rfl) (by kernel_rfl) (fun _ _ _ h => h) s0.out (by rfl) (fun w' hw' => by go_simp) ?_
            (intro K hK; go_simp; refine hK _ ?_; clear hK K)
            refine held_take (i := 16) (v := .slice (some ⟨gw, 0, none⟩) s' S) rfl (by kernel_rfl) (by kernel_rfl) (by kernel_rfl) (fun _ _ _ h => h) s0.out (by rfl) (fun w' hw' => run_mv (.tmp 9) rfl w') ?_
            (intro K hK; go_simp; refine hK _ ?_; clear hK K)
            refine held_take (i := 17) (v := .int .i64 (s' : Int)) rfl (by kernel_rfl) (by kernel_rfl) (by kernel_rfl) (fun _ _ _ h => h) s0.out (by rfl) (fun w' hw' => by go_simp) ?_
            (intro K hK; go_simp; refine hK _ ?_; clear hK K)
            refine held_take (i := 18) (v := .slice fA xn xn) rfl (by kernel_rfl) (by kernel_rfl) (by kernel_rfl) (fun _ _ _ h => h) s0.out (by rfl) (fun w' hw' => by have hx := hX.out w'; go_simp) ?_
            (intro K hK; go_simp; refine hK _ ?_; clear hK K)
            refine held_take (i := 19) (v := .agg #[.int .i64 x.x, .int .i64 x.y, .slice fA xn xn]) rfl (by kernel_rfl) (by kernel_rfl) (by kernel_rfl) (fun _ _ _ h => h) s0.out (by rfl) (fun w' hw' => by go_simp) ?_
            (intro K hK; go_simp; refine hK _ ?_; clear hK K)
            refine held_two (i := 1) (j := 20) rfl rfl (by kernel_rfl) (by rfl) (by rfl) (fun K hK => ?_) (fun K hK => ?_)
            · go_simp
              refine hK _ _ s0.out ?_
              clear hK K
              refine held_only (i := 20) rfl (by kernel_rfl) (by rfl) (fun K hK => ?_)
              refine wp_buildAggs 77 51 1 _ rfl 3 (by decide) [pr.cells] Tryd.underlying77 Hand.sizeIn Hand.zeroIn rfl (by decide) (by decide) q1.out (by rw [hprc.out]; rfl) ?_
              rw [x1.out]
              refine hK _ _ (s0.out.alloc s0.out.size _) ?_
              clear hK K
              have hCk5 := Lib.hid (hCk4.out.below ((Below.refl _ _).drew.trans (Below.heap_below w4.drew (.cells pr.cells.toArray 51))))
              have hnP : Hid (Reads (w4.drew.alloc (.cells pr.cells.toArray 51)) 3 (some ⟨w4.heap.size, 0, none⟩) 1 pr.cells) := Blk.reads (Blk.new w4.drew 51 pr.cells.toArray) 0 _ rfl (fun j u hu => by rw [Nat.zero_add, List.getElem?_toArray]; exact hu)
              have hOP := Lib.hid hCk5.out.op
              have hs3 : Hid (B ≤ (w4.drew.alloc (.cells pr.cells.toArray 51)).heap.size) := by have := hCk5.out.bk.lt; have := hBe.out; show _ ≤ _; omega
              refine held_only (i := 21) rfl (by kernel_rfl) (by rfl) (fun K hK => ?_)
              refine wp_append_src _ (.tmp 51) (.tmp 70) 77 rfl B 51 n0 (.agg #[.int .i64 0, .int .i64 0, .slice none 0 0]) 3 40 Tryd.underlying77 hn0 nz0 nz1 nz2 rfl (by decide) (.slice AP i cP) i ((cutPs (some ⟨gw, 0, none⟩) 0 (ps.take i)).flatMap Pr.cells) rfl hOP.out (some ⟨w4.heap.size, 0, none⟩) 1 1 pr.cells rfl hnP.out (fun e => by cases e) hone.out hs1.out hs2.out hs3.out ?_
              intro v7 w7 hG
              obtain ⟨AP7, cP7, rfl, -⟩ := Append.Own.reads hG.own
              have hpk := Lib.hid (hCk4.out.pushP hRg.out hgB.out ((Below.refl _ _).drew.trans (Below.heap_below w4.drew (.cells pr.cells.toArray 51))) hG)
              have cP35 : w7.cell? ⟨gp, 35, none⟩ = some (.slice AP i cP) := (hpk.out.2.cell 35).trans (by rw [List.getElem?_toArray]; exact pc_proofs rfl)
              have fP35 := hpk.out.2.frozen 35
              have b7 : Hid (Below w.heap.size w w7) := hG.below hCk5.out.be hCk5.out.be.size (fun k e => by have := (hCk5.out.op.lt k e).1; have := hRg.out; have := hgB.out; omega)
              clear hG
              go_simp
              refine hK _ _ b7.out ?_
              clear hK K
              refine held_take (i := 22) (v := .pointer (some ⟨gp, 35, none⟩)) rfl (by kernel_rfl) (by kernel_rfl) (by kernel_rfl) (fun _ _ _ h => h) b7.out (by rfl) (fun w' hw' => by go_simp) ?_
              (intro K hK; go_simp; refine hK _ ?_; clear hK K)
              refine held_only (i := 23) rfl (by kernel_rfl) (by rfl) (fun K hK => ?_)
              go_simp
              refine hK _ _ (b7.out.setCell (by show w.heap.size ≤ gp; have := hRg.out; omega) _) ?_
              clear hK K
              refine held_end (by kernel_rfl) ?_
              have hCkF : Hid (Ck w (w7.setCell ⟨gp, 35, none⟩ (.slice AP7 (i + 1) cP7)) w.heap.size B gp (.slice AE' (i + 1) cE') (.slice AP7 (i + 1) cP7) (.slice (some ⟨gw, 0, none⟩) s' S) (i + 1) (i + 1) s' (xs ++ [vv]) (es.take (i + 1)) ((cutPs (some ⟨gw, 0, none⟩) 0 (ps.take (i + 1))).flatMap Pr.cells) ((ps.take (i + 1)).flatMap Pr.ds)) := by
                have hh := hpk.out.1
                show Ck _ _ _ _ _ _ _ _ _ _ _ _ _ _ _
                rw [hsn.out, flat_snoc]
                exact hh
              have hinF : Hid (i + 1 ≤ j) := hlt'.out
              clear hpk cP35 fP35 c35 hs1 hs2 hs3 hnP hOP hCk4 hCk5
              go_wp2_with fail
              go_roundw
              case rel => exact ⟨i + 1, s', cE', cP7, AE', AP7, xs ++ [vv], by go_num, rfl, ht1.out, hinF.out, hCkF.out⟩
              case measure => (have := hinF.out; simp [intOf]; omega)
            · refine wp_buildAggs 77 51 1 _ rfl 3 (by decide) [pr.cells] Tryd.underlying77 Hand.sizeIn Hand.zeroIn rfl (by decide) (by decide) q1.out (by rw [hprc.out]; rfl) ?_
              rw [x1.out]
              refine hK _ _ (s0.out.alloc s0.out.size _) ?_
              clear hK K
              have c35b : (w4.alloc (.cells pr.cells.toArray 51)).cell? ⟨gp, 35, none⟩ = some (.slice AP i cP) := ((hCk4.out.bk.alloc _).cell 35).trans (by rw [List.getElem?_toArray]; exact pc_proofs rfl)
              refine held_only (i := 1) rfl (by kernel_rfl) (by rfl) (fun K hK => ?_)
              go_simp
              refine hK _ _ (s0.out.alloc s0.out.size _) ?_
              clear hK K c35b
              have hCk5 := Lib.hid (hCk4.out.below ((Below.refl _ _).drew.trans (Below.heap_below w4.drew (.cells pr.cells.toArray 51))))
              have hnP : Hid (Reads (w4.drew.alloc (.cells pr.cells.toArray 51)) 3 (some ⟨w4.heap.size, 0, none⟩) 1 pr.cells) := Blk.reads (Blk.new w4.drew 51 pr.cells.toArray) 0 _ rfl (fun j u hu => by rw [Nat.zero_add, List.getElem?_toArray]; exact hu)
              have hOP := Lib.hid hCk5.out.op
              have hs3 : Hid (B ≤ (w4.drew.alloc (.cells pr.cells.toArray 51)).heap.size) := by have := hCk5.out.bk.lt; have := hBe.out; show _ ≤ _; omega
              refine held_only (i := 21) rfl (by kernel_rfl) (by rfl) (fun K hK => ?_)
              refine wp_append_src _ (.tmp 51) (.tmp 70) 77 rfl B 51 n0 (.agg #[.int .i64 0, .int .i64 0, .slice none 0 0]) 3 40 Tryd.underlying77 hn0 nz0 nz1 nz2 rfl (by decide) (.slice AP i cP) i ((cutPs (some ⟨gw, 0, none⟩) 0 (ps.take i)).flatMap Pr.cells) rfl hOP.out (some ⟨w4.heap.size, 0, none⟩) 1 1 pr.cells rfl hnP.out (fun e => by cases e) hone.out hs1.out hs2.out hs3.out ?_
              intro v7 w7 hG
              obtain ⟨AP7, cP7, rfl, -⟩ := Append.Own.reads hG.own
              have hpk := Lib.hid (hCk4.out.pushP hRg.out hgB.out ((Below.refl _ _).drew.trans (Below.heap_below w4.drew (.cells pr.cells.toArray 51))) hG)
              have cP35 : w7.cell? ⟨gp, 35, none⟩ = some (.slice AP i cP) := (hpk.out.2.cell 35).trans (by rw [List.getElem?_toArray]; exact pc_proofs rfl)
              have fP35 := hpk.out.2.frozen 35
              have b7 : Hid (Below w.heap.size w w7) := hG.below hCk5.out.be hCk5.out.be.size (fun k e => by have := (hCk5.out.op.lt k e).1; have := hRg.out; have := hgB.out; omega)
              clear hG
              go_simp
              refine hK _ _ b7.out ?_
              clear hK K
              refine held_take (i := 22) (v := .pointer (some ⟨gp, 35, none⟩)) rfl (by kernel_rfl) (by kernel_rfl) (by kernel_rfl) (fun _ _ _ h => h) b7.out (by rfl) (fun w' hw' => by go_simp) ?_
              (intro K hK; go_simp; refine hK _ ?_; clear hK K)
              refine held_only (i := 23) rfl (by kernel_rfl) (by rfl) (fun K hK => ?_)
              go_simp
              refine hK _ _ (b7.out.setCell (by show w.heap.size ≤ gp; have := hRg.out; omega) _) ?_
              clear hK K
              refine held_end (by kernel_rfl) ?_
              have hCkF : Hid (Ck w (w7.setCell ⟨gp, 35, none⟩ (.slice AP7 (i + 1) cP7)) w.heap.size B gp (.slice AE' (i + 1) cE') (.slice AP7 (i + 1) cP7) (.slice (some ⟨gw, 0, none⟩) s' S) (i + 1) (i + 1) s' (xs ++ [vv]) (es.take (i + 1)) ((cutPs (some ⟨gw, 0, none⟩) 0 (ps.take (i + 1))).flatMap Pr.cells) ((ps.take (i + 1)).flatMap Pr.ds)) := by
                have hh := hpk.out.1
                show Ck _ _ _ _ _ _ _ _ _ _ _ _ _ _ _
                rw [hsn.out, flat_snoc]
                exact hh
              have hinF : Hid (i + 1 ≤ j) := hlt'.out
              clear hpk cP35 fP35 c35 hs1 hs2 hs3 hnP hOP hCk4 hCk5
              go_wp2_with fail
              go_roundw
              case rel => exact ⟨i + 1, s', cE', cP7, AE', AP7, xs ++ [vv], by go_num, rfl, ht1.out, hinF.out, hCkF.out⟩
              case measure => (have := hinF.out; simp [intOf]; omega)
        · have hin2 : i = j := by have := hin.out; omega
          subst hin2
          have y3 : ¬ ((i : Int) < (i : Int)) := by omega
          have e1 : es.take i = es := List.take_of_length_le (by rw [hn.out]; exact Nat.le_refl _)
          have e2 : ps.take i = ps := List.take_of_length_le (by rw [hm.out]; exact Nat.le_refl _)
          rw [e1, e2] at hCk
          rw [e2] at hs
          have hsS : s = sumN ps := hs.out.symm
          have hbk := Lib.hid hCk.out.bk
          have hrs := Lib.hid hCk.out.rs
          have hRB : Hid (w.heap.size < B) := Nat.lt_trans hRg.out hgB.out
          have hCkF := hCk
          rw [hsS] at hCkF
          have hfirm := Lib.hid (firm_of hCkF.out hdd.out hRB.out)
          clear hlt e1 e2 hsS hCkF
          go_wp2_with (first
            | ((with_reducible change wpList _ _ _ ({ dst := some 74, op := _, type := _, pos := _, after := _, guard := _ } :: _) _ _); refine wpList_load_row (o := ⟨some 74, _, _, _, _, _⟩) rfl 83 (.tmp 5) rfl (gp) rfl 83 ((pieceCells ByteArray.empty 0 (List.replicate 32 0) (.slice AE i cE) (.slice AP i cP)).toArray) (0, 0) _ hbk.out Tryd.underlying83 rfl (pc_info rfl) ?_)
            | ((with_reducible change wpList _ _ _ ({ dst := none, op := Op.store 83 _ _, type := _, pos := _, after := _, guard := _ } :: _) _ _); refine wpList_store_row (o := ⟨none, _, _, _, _, _⟩) rfl 83 (.tmp 4) (.tmp 74) rfl (w.heap.size) ((pieceCells ByteArray.empty 0 (List.replicate 32 0) (.slice AE i cE) (.slice AP i cP)).toArray) rfl rfl 83 (zP) hrs.out (pc_info rfl) (pc_size rfl).symm (pc_one rfl rfl) ?_))
          refine bodyPost_ret (results_cell_row rfl _ _ w.heap.size 83 (pieceCells ByteArray.empty 0 (List.replicate 32 0) (.slice AE i cE) (.slice AP i cP)).toArray (0, 0) _ rfl (setRow_heap _ _ _ _ _ _ hrs.out) Tryd.underlying83 rfl (pc_info rfl)) rfl ?_
          have hK : Kept (· = w.heap.size) wr (wr.setRow w.heap.size (pieceCells ByteArray.empty 0 (List.replicate 32 0) (.slice AE i cE) (.slice AP i cP)).toArray) := Bytes.Kept.setRow (S := (· = w.heap.size)) (Kept.refl _ _) rfl _
          exact ⟨⟨ByteArray.empty, 0, List.replicate 32 0, es, cutPs (some ⟨gw, 0, none⟩) 0 ps, AE, i, cE, AP, i, cP⟩, rfl, rfl, rfl, rfl, rfl, cutPs_alike _ _ _, rfl, rfl, Firm.mono (hfirm.out _ hK) (Nat.le_of_lt hRB.out), below_setRow hCk.out.be (Nat.le_refl _) _⟩
end Go.Proofs.YtgldkfaiofkhbaaDoor.CutW

namespace Go.Proofs.YtgldkfaiofkhbaaDoor.Intact17
open Go Go.RowKit Go.Proofs.YtgldkfaiofkhbaaDoor Go.Proofs.YtgldkfaiofkhbaaDoor.HeadMem Go.Proofs.YtgldkfaiofkhbaaDoor.Mem Go.Proofs.YtgldkfaiofkhbaaDoor.Sha Go.Proofs.YtgldkfaiofkhbaaDoor.Bytes Go.Proofs.YtgldkfaiofkhbaaDoor.Append Go.Proofs.YtgldkfaiofkhbaaDoor.TreeMem Go.Proofs.YtgldkfaiofkhbaaDoor.Held Go.Proofs.YtgldkfaiofkhbaaDoor.Own Go.Proofs.YtgldkfaiofkhbaaDoor.QuietTail Go.Proofs.YtgldkfaiofkhbaaDoor.Grown Go.Proofs.YtgldkfaiofkhbaaDoor.Want Go.Proofs.YtgldkfaiofkhbaaDoor.Plain Go.Proofs.YtgldkfaiofkhbaaDoor.Guard Go.Proofs.YtgldkfaiofkhbaaDoor.Guard2 Go.Proofs.YtgldkfaiofkhbaaDoor.Book Go.Proofs.YtgldkfaiofkhbaaDoor.Book2 Go.Proofs.YtgldkfaiofkhbaaDoor.Book8 Go.Proofs.YtgldkfaiofkhbaaDoor.Same8 Go.Proofs.YtgldkfaiofkhbaaDoor.Law17a Go.Proofs.YtgldkfaiofkhbaaDoor.Prs Go.Proofs.YtgldkfaiofkhbaaDoor.Reach2 Go.Proofs.YtgldkfaiofkhbaaDoor.PieceLay Go.Proofs.YtgldkfaiofkhbaaDoor.PieceMem Go.Proofs.YtgldkfaiofkhbaaDoor.PieceMem2 Go.Proofs.YtgldkfaiofkhbaaDoor.HandM Go.Proofs.YtgldkfaiofkhbaaDoor.Hand

theorem HF.below {w0 W W' : World} {B n m : Nat} {E P V Q : Value} {gs hs : List Nat} {es : List Text} {ps : List Pr} (h : HF w0 W B E P V Q n m gs hs es ps) (hb : Below W.heap.size W W') : HF w0 W' B E P V Q n m gs hs es ps :=
  ⟨own_below h.oe hb, own_below h.op hb, own_below h.ov hb, own_below h.oq hb, h.roo.keep (fun _ _ hx => (hb.block _ hx.lt).trans hx), h.rod.keep (fun _ _ hx => (hb.block _ hx.lt).trans hx), h.be.trans (hb.mono h.be.size), h.hb⟩
/-- A row of one's own: where it lies. -/
theorem own_at {w : World} {B e n size : Nat} {v : Value} {xs : List Value} (hs : 0 < size) (h : w.ownsRow B e size v n xs) (h0 : 0 < n) : ∃ b o c, v = .slice (some ⟨b, o, none⟩) n c ∧ b < w.heap.size ∧ ∀ j u, xs[j]? = some u → w.cell? ⟨b, o + j, none⟩ = some u := by
  obtain ⟨A, c, e1, -, -, -, hr, -⟩ := Append.Own.reads h
  obtain ⟨b, o, e2, hb, hc⟩ := hr.at_ (Nat.mul_pos h0 hs)
  exact ⟨b, o, c, by rw [e1, e2], hb, hc⟩
theorem own_len {w : World} {B e n size : Nat} {v : Value} {xs : List Value} (h : w.ownsRow B e size v n xs) : ∃ A c, v = .slice A n c := by
  obtain ⟨A, c, e1, -⟩ := Append.Own.reads h
  exact ⟨A, c, e1⟩
end Go.Proofs.YtgldkfaiofkhbaaDoor.Intact17

namespace Go.Proofs.YtgldkfaiofkhbaaDoor.DecPieceM
open Go Go.RowKit Go.Proofs.YtgldkfaiofkhbaaDoor Go.Proofs.YtgldkfaiofkhbaaDoor.Mem Go.Proofs.YtgldkfaiofkhbaaDoor.Sha Go.Proofs.YtgldkfaiofkhbaaDoor.Bytes Go.Proofs.YtgldkfaiofkhbaaDoor.Append Go.Proofs.YtgldkfaiofkhbaaDoor.TreeMem Go.Proofs.YtgldkfaiofkhbaaDoor.Reader Go.Proofs.YtgldkfaiofkhbaaDoor.Reader2 Go.Proofs.YtgldkfaiofkhbaaDoor.Reader3 Go.Proofs.YtgldkfaiofkhbaaDoor.Reader4 Go.Proofs.YtgldkfaiofkhbaaDoor.DecIncl Go.Proofs.YtgldkfaiofkhbaaDoor.ProofBeside Go.Proofs.YtgldkfaiofkhbaaDoor.PieceB Go.Proofs.YtgldkfaiofkhbaaDoor.Prs Go.Proofs.YtgldkfaiofkhbaaDoor.PieceLay Go.Proofs.YtgldkfaiofkhbaaDoor.PieceRead Go.Proofs.YtgldkfaiofkhbaaDoor.PieceMem Go.Proofs.YtgldkfaiofkhbaaDoor.PieceMem2 Go.Proofs.YtgldkfaiofkhbaaDoor.OctetBytes

/-- How many digests lie ahead of the j-th row's. -/
def low (ks : List Nat) (j : Nat) : Nat := (ks.take j).sum
/-- Where a way begins in the row of all. -/
def at3 (A : Option Addr) (l m : Nat) : Option Addr := if m = l then A else A.map (·.add (l * 32))
/-- The j-th proof, its way cut out of the row of all. -/
def prAt (Z : Int) (ys : List Int) (ks : List Nat) (dl : List Text) (A : Option Addr) (j : Nat) : Pr :=
  ⟨Z, ys.getD j 0, (dl.drop (low ks j)).take (ks.getD j 0), at3 A (low ks j) (low ks (j + 1)), ks.getD j 0, ks.getD j 0⟩
def prs (Z : Int) (ys : List Int) (ks : List Nat) (dl : List Text) (A : Option Addr) : List Pr := (List.range ks.length).map (prAt Z ys ks dl A)
/-- A part of a row of digests. -/
theorem rd_part {w : World} {A : Option Addr} {t : Nat} {dl : List Text} (h : RdD w A t dl) {l k : Nat} (hk : l + k ≤ t) : RdD w (at3 A l (l + k)) k ((dl.drop l).take k) := by
  have hl := h.1
  refine ⟨by rw [List.length_take, List.length_drop]; omega, (h.2.1.drop_ l).take_ k, ?_⟩
  refine ⟨by rw [flatMap_len _ ((h.2.1.drop_ l).take_ k), List.length_take, List.length_drop]; congr 1; omega, fun h0 => ?_⟩
  obtain ⟨b, o, e, hb, hcs⟩ := h.2.2.2 (by omega)
  subst e
  refine ⟨b, o + l * 32, by unfold at3; rw [if_neg (by omega), Option.map_some, add_at], hb, fun j u hu => ?_⟩
  rw [Nat.add_assoc]
  apply hcs
  rw [← flatMap_take _ k (h.2.1.drop_ l), ← flatMap_drop dl l h.2.1, List.getElem?_take] at hu
  by_cases hj : j < k * 32
  · rw [if_pos hj, List.getElem?_drop] at hu
    exact hu
  · rw [if_neg hj] at hu
    cases hu
theorem run_midD {A : Option Addr} {n c l h : Nat} (h1 : l ≤ h) (h2 : h ≤ c) (x y z : Int) (hx : x = l) (hy : y = h) (hz : z = h) (w : World) :
    (Instr.sliceAt 42 (.slice A n c) (some (.int .i64 x)) (some (.int .i64 y)) (some (.int .i64 z))).run Tryd.prog w = .ok (.slice (at3 A l h) (h - l) (h - l)) w := by
  subst hx hy hz
  rw [run_sliceAt_slice w _ _ _ _ _ undD, run_slice_lhm w _ A n c undD .i64 .i64 .i64 (l : Int) (h : Int) (h : Int) (by omega) (by omega) (by omega) (by omega), size32s]
  simp [Result.andThen, sliced, at3]
/-- The cells of a row of proofs, one by one. -/
theorem flat_back (ps : List Pr) (j : Nat) (u : Value) (h : (ps.flatMap Pr.cells)[j]? = some u) : ∃ p, ps[j / 3]? = some p ∧ p.cells[j % 3]? = some u := by
  have hl : j < 3 * ps.length := by rw [← flat_len]; exact (List.getElem?_eq_some_iff.1 h).1
  have hi : j / 3 < ps.length := by omega
  refine ⟨ps[j / 3], List.getElem?_eq_getElem hi, ?_⟩
  rw [← flat_at ps (j / 3) _ (j % 3) (List.getElem?_eq_getElem hi) (by omega), show 3 * (j / 3) + j % 3 = j by omega]
  exact h
/-- The row of proofs while the ways are laid in. -/
def RowP (w : World) (g n j : Nat) (f0 f1 : Nat → Pr) : Prop := ∃ cur : Array Value, Blk w g 51 cur ∧ ∀ r, r < n → ∀ i u, (if r < j then f1 r else f0 r).cells[i]? = some u → cur[3 * r + i]? = some u
theorem RowP.cell {w : World} {g n j : Nat} {f0 f1 : Nat → Pr} (h : RowP w g n j f0 f1) {r i : Nat} {u : Value} (hr : r < n) (hu : (if r < j then f1 r else f0 r).cells[i]? = some u) : w.cell? ⟨g, 3 * r + i, none⟩ = some u := by
  obtain ⟨cur, hb, hc⟩ := h
  rw [hb.cell]
  exact hc r hr i u hu
theorem RowP.lt {w : World} {g n j : Nat} {f0 f1 : Nat → Pr} (h : RowP w g n j f0 f1) : g < w.heap.size := by obtain ⟨cur, hb, -⟩ := h; exact hb.lt
theorem RowP.frozen {w : World} {g n j : Nat} {f0 f1 : Nat → Pr} (h : RowP w g n j f0 f1) (i : Nat) : w.frozen? ⟨g, i, none⟩ = false := by obtain ⟨cur, hb, -⟩ := h; exact hb.frozen i
theorem RowP.kept {S : Nat → Prop} {w w' : World} {g n j : Nat} {f0 f1 : Nat → Pr} (h : RowP w g n j f0 f1) (hk : Kept S w w') (hS : ¬ S g) : RowP w' g n j f0 f1 := by
  obtain ⟨cur, hb, hc⟩ := h
  exact ⟨cur, hb.kept hk hS, hc⟩
theorem RowP.step {w : World} {g n j : Nat} {f0 f1 : Nat → Pr} (h : RowP w g n j f0 f1) (hj : j < n) (h0 : (f1 j).x = (f0 j).x) (h1 : (f1 j).y = (f0 j).y) : RowP (w.setCell ⟨g, 3 * j + 2, none⟩ (.slice (f1 j).A (f1 j).n (f1 j).c)) g n (j + 1) f0 f1 := by
  obtain ⟨cur, hb, hc⟩ := h
  refine ⟨_, hb.set_ _ _, fun r hr i u hu => ?_⟩
  have hi : i < 3 := by
    have := (List.getElem?_eq_some_iff.1 hu).1
    exact this
  have hin : 3 * j + 2 < cur.size := by
    have := hc j hj 2 (.slice (f0 j).A (f0 j).n (f0 j).c) (by rw [if_neg (by omega)]; rfl)
    exact (Array.getElem?_eq_some_iff.1 this).1
  by_cases hrj : r = j
  · subst hrj
    rw [if_pos (by omega)] at hu
    by_cases h2 : i = 2
    · subst h2
      rw [Array.getElem?_setIfInBounds_self_of_lt hin]
      exact hu
    · rw [Array.getElem?_setIfInBounds_ne (by omega)]
      refine hc r hr i u ?_
      rw [if_neg (by omega)]
      rw [← hu]
      rcases (show i = 0 ∨ i = 1 by omega) with rfl | rfl
      · show some (Value.int .i64 (f0 r).x) = some (Value.int .i64 (f1 r).x)
        rw [h0]
      · show some (Value.int .i64 (f0 r).y) = some (Value.int .i64 (f1 r).y)
        rw [h1]
  · rw [Array.getElem?_setIfInBounds_ne (by omega)]
    refine hc r hr i u ?_
    by_cases hlt : r < j
    · rw [if_pos (by omega)] at hu
      rw [if_pos hlt]
      exact hu
    · rw [if_neg (by omega)] at hu
      rw [if_neg hlt]
      exact hu
theorem RowP.first {w : World} {g B n cap : Nat} {ps : List Pr} (f0 f1 : Nat → Pr) (h : w.ownsRow B 51 3 (.slice (some ⟨g, 0, none⟩) n cap) n (ps.flatMap Pr.cells)) (hf : ∀ r, r < n → ps[r]? = some (f0 r)) : RowP w g n 0 f0 f1 := by
  rcases h.2 with ⟨e, -⟩ | ⟨g', cap', cur, e, -, h3, -, -, -, h7⟩
  · cases e
  · injection e with e _ _
    injection e with e
    injection e with e
    subst e
    refine ⟨cur, h3, fun r hr i u hu => ?_⟩
    rw [if_neg (Nat.not_lt_zero _)] at hu
    have hi : i < 3 := (List.getElem?_eq_some_iff.1 hu).1
    have e2 := flat_at ps r (f0 r) i (hf r hr) hi
    rw [← h7, List.getElem?_take] at e2
    rw [if_pos (by omega), hu, Array.getElem?_toList] at e2
    exact e2
theorem RowP.reads {w : World} {g n : Nat} {ps : List Pr} {f0 f1 : Nat → Pr} (h : RowP w g n n f0 f1) (hl : ps.length = n) (hf : ∀ r, r < n → ps[r]? = some (f1 r)) : Reads w 3 (some ⟨g, 0, none⟩) n (ps.flatMap Pr.cells) := by
  obtain ⟨cur, hb, hc⟩ := h
  refine ⟨by rw [flat_len, hl]; omega, fun _ => ⟨g, 0, rfl, hb.lt, fun j u hu => ?_⟩⟩
  have hj : j < 3 * n := by rw [← hl, ← flat_len]; exact (List.getElem?_eq_some_iff.1 hu).1
  obtain ⟨p, hp, hpu⟩ := flat_back ps j u hu
  rw [hf _ (by omega)] at hp
  obtain rfl := Option.some.inj hp
  rw [Nat.zero_add, hb.cell]
  have := hc (j / 3) (by omega) (j % 3) u (by rw [if_pos (by omega)]; exact hpu)
  rwa [show 3 * (j / 3) + j % 3 = j by omega] at this
theorem digs_one (ds : List Text) : ∀ v ∈ ds.flatMap cells8, v.oneCell' = true := by
  intro v hv
  obtain ⟨d, -, h⟩ := List.mem_flatMap.1 hv
  exact Bytes.cells8_one d v h
/-- Another row has grown. -/
theorem Pk.grow {w0 W W1 W2 : World} {R B gp size n m : Nat} {e : TypeId} {cs : Array Value} {E P v v' : Value} {i j : Nat} {xs xs' news : List Value} {ts : List Text} {ps : List Pr} {Y Y' : Nat → Prop} (h : Pk w0 W R B gp cs E P i j xs ts ps (XB B Y E P)) (ho : W.ownsRow B e size v n xs') (hb : Below W.heap.size W W1)
    (hG : Grew W1 B e size v n m xs' news v' W2) (he1 : e ≠ 31) (he2 : e ≠ 51) (hR : R < B) (hgp : gp < B) (hY : ∀ k, some k = v.ownBlock → Y k) (hY' : ∀ k, Y' k → Y k ∨ some k = v'.ownBlock) :
    Pk w0 W2 R B gp cs E P i j xs ts ps (XB B Y' E P) ∧ Kept (fun k => some k = v.ownBlock) W W2 := by
  have K : Kept (fun k => some k = v.ownBlock) W W2 := (Kept.of_below hb).trans (grew_kept hG) (fun _ _ x => x)
  have h1 : Pk w0 W2 R B gp cs E P i j xs ts ps (XB B Y E P) := h.kept K (fun k _ s => by
    have h2 := (ho.lt k s.symm).1
    exact ⟨by omega, by omega, fun e2 => own_own ho h.oe he1 k s.symm e2.symm, fun e2 => own_own ho h.op he2 k s.symm e2.symm, .inr (.inl (hY k s))⟩)
  have hX : ∀ k, k < W.heap.size → XB B Y' E P k → XB B Y E P k := fun k hl hx => by
    rcases hx with hx | hx | hx
    · exact .inl hx
    · rcases hY' k hx with h2 | h2
      · exact .inr (.inl h2)
      · rcases grew_new hG k h2.symm with h3 | h3
        · exact .inr (.inl (hY k h3.symm))
        · have := hb.size; omega
    · exact .inr (.inr hx)
  exact ⟨⟨h1.bk, h1.rs, h1.oe, h1.op, h.tx.step K (fun k _ s => .inr (.inl (hY k s))) hX, h.pa.step K (fun k _ s => .inr (.inl (hY k s))) hX, h1.be⟩, K⟩
end Go.Proofs.YtgldkfaiofkhbaaDoor.DecPieceM

namespace Go.Proofs.YtgldkfaiofkhbaaDoor.DecPiece
open Go Go.RowKit Go.Proofs.YtgldkfaiofkhbaaDoor Go.Proofs.YtgldkfaiofkhbaaDoor.HeadMem Go.Proofs.YtgldkfaiofkhbaaDoor.Mem Go.Proofs.YtgldkfaiofkhbaaDoor.Sha Go.Proofs.YtgldkfaiofkhbaaDoor.Bytes Go.Proofs.YtgldkfaiofkhbaaDoor.Append Go.Proofs.YtgldkfaiofkhbaaDoor.Octet Go.Proofs.YtgldkfaiofkhbaaDoor.TreeMath Go.Proofs.YtgldkfaiofkhbaaDoor.TreeMem Go.Proofs.YtgldkfaiofkhbaaDoor.TreeRoot Go.Proofs.YtgldkfaiofkhbaaDoor.Held Go.Proofs.YtgldkfaiofkhbaaDoor.Own Go.Proofs.YtgldkfaiofkhbaaDoor.QuietTail Go.Proofs.YtgldkfaiofkhbaaDoor.Grown Go.Proofs.YtgldkfaiofkhbaaDoor.Reader Go.Proofs.YtgldkfaiofkhbaaDoor.Reader2 Go.Proofs.YtgldkfaiofkhbaaDoor.Reader3 Go.Proofs.YtgldkfaiofkhbaaDoor.Reader4 Go.Proofs.YtgldkfaiofkhbaaDoor.Reader6 Go.Proofs.YtgldkfaiofkhbaaDoor.Reader7 Go.Proofs.YtgldkfaiofkhbaaDoor.OctetBytes Go.Proofs.YtgldkfaiofkhbaaDoor.ProofBeside Go.Proofs.YtgldkfaiofkhbaaDoor.ProofEnc Go.Proofs.YtgldkfaiofkhbaaDoor.ProofIdx Go.Proofs.YtgldkfaiofkhbaaDoor.ProofIdx2 Go.Proofs.YtgldkfaiofkhbaaDoor.IdxMem Go.Proofs.YtgldkfaiofkhbaaDoor.DecIncl Go.Proofs.YtgldkfaiofkhbaaDoor.Book Go.Proofs.YtgldkfaiofkhbaaDoor.Guard Go.Proofs.YtgldkfaiofkhbaaDoor.Guard2 Go.Proofs.YtgldkfaiofkhbaaDoor.Want Go.Proofs.YtgldkfaiofkhbaaDoor.Plain Go.Proofs.YtgldkfaiofkhbaaDoor.DecIdx Go.Proofs.YtgldkfaiofkhbaaDoor.DecIdx2 Go.Proofs.YtgldkfaiofkhbaaDoor.PieceP Go.Proofs.YtgldkfaiofkhbaaDoor.PieceBegins Go.Proofs.YtgldkfaiofkhbaaDoor.PieceRow Go.Proofs.YtgldkfaiofkhbaaDoor.Prs Go.Proofs.YtgldkfaiofkhbaaDoor.Reach Go.Proofs.YtgldkfaiofkhbaaDoor.Reach2 Go.Proofs.YtgldkfaiofkhbaaDoor.Octet4 Go.Proofs.YtgldkfaiofkhbaaDoor.PieceB Go.Proofs.YtgldkfaiofkhbaaDoor.PieceLay Go.Proofs.YtgldkfaiofkhbaaDoor.PieceRead Go.Proofs.YtgldkfaiofkhbaaDoor.PieceMem Go.Proofs.YtgldkfaiofkhbaaDoor.PieceMem2 Go.Proofs.YtgldkfaiofkhbaaDoor.DecPiece0 Go.Proofs.YtgldkfaiofkhbaaDoor.DecPieceM

theorem infoTx : (Tryd.prog.info? 31).map (fun i => (i.zero, i.size, i.bytes)) = some (some (.slice none 0 0), 1, 24) := by kernel_rfl
theorem infoIn : (Tryd.prog.info? 51).map (fun i => (i.zero, i.size, i.bytes)) = some (some (.agg #[.int .i64 0, .int .i64 0, .slice none 0 0]), 3, 40) := by kernel_rfl
theorem sizeIn : (Tryd.prog.info? 51).map (·.size) = some 3 := by kernel_rfl
theorem zeroIn : ((Tryd.prog.info? 51).bind (·.zero)).isSome = true := by kernel_rfl
end Go.Proofs.YtgldkfaiofkhbaaDoor.DecPiece

namespace Go.Proofs.YtgldkfaiofkhbaaDoor.ReadPiece
open Go Go.RowKit Go.Proofs.YtgldkfaiofkhbaaDoor Go.Proofs.YtgldkfaiofkhbaaDoor.HeadMem Go.Proofs.YtgldkfaiofkhbaaDoor.Mem Go.Proofs.YtgldkfaiofkhbaaDoor.Sha Go.Proofs.YtgldkfaiofkhbaaDoor.Bytes Go.Proofs.YtgldkfaiofkhbaaDoor.Append Go.Proofs.YtgldkfaiofkhbaaDoor.Octet Go.Proofs.YtgldkfaiofkhbaaDoor.TreeMath Go.Proofs.YtgldkfaiofkhbaaDoor.TreeMem Go.Proofs.YtgldkfaiofkhbaaDoor.TreeRoot Go.Proofs.YtgldkfaiofkhbaaDoor.Held Go.Proofs.YtgldkfaiofkhbaaDoor.Own Go.Proofs.YtgldkfaiofkhbaaDoor.Reader Go.Proofs.YtgldkfaiofkhbaaDoor.Reader4 Go.Proofs.YtgldkfaiofkhbaaDoor.ProofBeside Go.Proofs.YtgldkfaiofkhbaaDoor.ProofEnc Go.Proofs.YtgldkfaiofkhbaaDoor.ProofIdx Go.Proofs.YtgldkfaiofkhbaaDoor.ProofIdx2 Go.Proofs.YtgldkfaiofkhbaaDoor.IdxMem Go.Proofs.YtgldkfaiofkhbaaDoor.DecIncl Go.Proofs.YtgldkfaiofkhbaaDoor.Ref17 Go.Proofs.YtgldkfaiofkhbaaDoor.Ref17b Go.Proofs.YtgldkfaiofkhbaaDoor.Sides Go.Proofs.YtgldkfaiofkhbaaDoor.Beside17 Go.Proofs.YtgldkfaiofkhbaaDoor.Bytes17 Go.Proofs.YtgldkfaiofkhbaaDoor.Way17 Go.Proofs.YtgldkfaiofkhbaaDoor.Same17 Go.Proofs.YtgldkfaiofkhbaaDoor.Book Go.Proofs.YtgldkfaiofkhbaaDoor.Guard Go.Proofs.YtgldkfaiofkhbaaDoor.ReadIncl Go.Proofs.YtgldkfaiofkhbaaDoor.ReadIdx0 Go.Proofs.YtgldkfaiofkhbaaDoor.DecIdx Go.Proofs.YtgldkfaiofkhbaaDoor.DecIdx2 Go.Proofs.YtgldkfaiofkhbaaDoor.PieceP Go.Proofs.YtgldkfaiofkhbaaDoor.PieceBegins Go.Proofs.YtgldkfaiofkhbaaDoor.Prs Go.Proofs.YtgldkfaiofkhbaaDoor.Reach Go.Proofs.YtgldkfaiofkhbaaDoor.Octet4 Go.Proofs.YtgldkfaiofkhbaaDoor.PieceB Go.Proofs.YtgldkfaiofkhbaaDoor.PieceLay Go.Proofs.YtgldkfaiofkhbaaDoor.RefPiece Go.Proofs.YtgldkfaiofkhbaaDoor.PieceRead Go.Proofs.YtgldkfaiofkhbaaDoor.PieceMem Go.Proofs.YtgldkfaiofkhbaaDoor.PieceMem2 Go.Proofs.YtgldkfaiofkhbaaDoor.Way17S

theorem infoTx : (Tryd.prog.info? 31).map (fun i => (i.zero, i.size, i.bytes)) = some (some (.slice none 0 0), 1, 24) := by kernel_rfl
theorem infoIn : (Tryd.prog.info? 51).map (fun i => (i.zero, i.size, i.bytes)) = some (some (.agg #[.int .i64 0, .int .i64 0, .slice none 0 0]), 3, 40) := by kernel_rfl
theorem sizeIn : (Tryd.prog.info? 51).map (·.size) = some 3 := by kernel_rfl
theorem zeroIn : ((Tryd.prog.info? 51).bind (·.zero)).isSome = true := by kernel_rfl
end Go.Proofs.YtgldkfaiofkhbaaDoor.ReadPiece

namespace Go.Proofs.YtgldkfaiofkhbaaDoor.Law17d
open Go Go.RowKit Go.Proofs.YtgldkfaiofkhbaaDoor Go.Proofs.YtgldkfaiofkhbaaDoor.Mem Go.Proofs.YtgldkfaiofkhbaaDoor.Sha Go.Proofs.YtgldkfaiofkhbaaDoor.Bytes Go.Proofs.YtgldkfaiofkhbaaDoor.TreeMem Go.Proofs.YtgldkfaiofkhbaaDoor.TreeRoot Go.Proofs.YtgldkfaiofkhbaaDoor.Held Go.Proofs.YtgldkfaiofkhbaaDoor.Guard Go.Proofs.YtgldkfaiofkhbaaDoor.Book8 Go.Proofs.YtgldkfaiofkhbaaDoor.Law17a Go.Proofs.YtgldkfaiofkhbaaDoor.Prs Go.Proofs.YtgldkfaiofkhbaaDoor.PieceB Go.Proofs.YtgldkfaiofkhbaaDoor.PieceLay Go.Proofs.YtgldkfaiofkhbaaDoor.PieceRead Go.Proofs.YtgldkfaiofkhbaaDoor.PieceMem Go.Proofs.YtgldkfaiofkhbaaDoor.SamePiece Go.Proofs.YtgldkfaiofkhbaaDoor.DecPiece Go.Proofs.YtgldkfaiofkhbaaDoor.ReadPiece

/-- An answer at hand. -/
def Got (w : World) (X : Ans) (A A2 : Option Addr) (n : Nat) (ps : List Pr) : Prop := X.rows.length = n ∧ PsOf X.Z X.rows ps ∧ Pieces w A (X.rows.map (·.e)) ∧ Prs w A2 ps
theorem Got.below {w w' : World} {X : Ans} {A A2 : Option Addr} {n : Nat} {ps : List Pr} (h : Got w X A A2 n ps) (hb : Below w.heap.size w w') : Got w' X A A2 n ps := ⟨h.1, h.2.1, h.2.2.1.below hb, h.2.2.2.below hb⟩
end Go.Proofs.YtgldkfaiofkhbaaDoor.Law17d

namespace Go.Proofs.YtgldkfaiofkhbaaDoor.Law17e
open Go Go.RowKit Go.Proofs.YtgldkfaiofkhbaaDoor Go.Proofs.YtgldkfaiofkhbaaDoor.Mem Go.Proofs.YtgldkfaiofkhbaaDoor.Sha Go.Proofs.YtgldkfaiofkhbaaDoor.Bytes Go.Proofs.YtgldkfaiofkhbaaDoor.TreeMem Go.Proofs.YtgldkfaiofkhbaaDoor.Book Go.Proofs.YtgldkfaiofkhbaaDoor.Book8 Go.Proofs.YtgldkfaiofkhbaaDoor.Law17a Go.Proofs.YtgldkfaiofkhbaaDoor.Prs Go.Proofs.YtgldkfaiofkhbaaDoor.Reach Go.Proofs.YtgldkfaiofkhbaaDoor.PieceB Go.Proofs.YtgldkfaiofkhbaaDoor.PieceLay Go.Proofs.YtgldkfaiofkhbaaDoor.PieceRead Go.Proofs.YtgldkfaiofkhbaaDoor.PieceMem Go.Proofs.YtgldkfaiofkhbaaDoor.SamePiece Go.Proofs.YtgldkfaiofkhbaaDoor.HandM Go.Proofs.YtgldkfaiofkhbaaDoor.Hand Go.Proofs.YtgldkfaiofkhbaaDoor.Intact17

theorem undI : Tryd.prog.underlying 77 = some (.slice (Tryd.prog.elem 77)) := by kernel_rfl
theorem size3s (w : World) : (sizeOf (Tryd.prog.elem 77)).run Tryd.prog w = .ok 3 w := by kernel_rfl
theorem run_headI {A : Option Addr} {n c k : Nat} (hk : k ≤ c) (x : Int) (hx : x = k) (w : World) :
    (Instr.sliceAt 77 (.slice A n c) none (some (.int .i64 x)) none).run Tryd.prog w = .ok (.slice A k c) w := by
  subst hx
  rw [run_sliceAt_slice w _ _ _ _ _ undI, run_slice_h w _ A n c undI .i64 (k : Int) (by omega) (by omega), size3s]
  simp only [Result.andThen, sliced, Int.toNat_natCast, Nat.zero_mul, Nat.sub_zero]
  cases A with
  | none => simp
  | some a => simp [add_zero]
set_option maxRecDepth 100000 in
theorem fewE_yes (A : Option Addr) (n c N : Nat) (hn : n ≤ N) (w : World) :
    Calls Tryd.prog 32 #[.slice A n c, .int .i64 (N : Int)] w fun e w' => e = .returned (.slice A n c) ∧ w = w' := by
  have h1 : (n : Int) ≤ (N : Int) := by omega
  go_enter Tryd.func32, Tryd.ntmps32
  go_wp2_with fail
  go_ret
  exact ⟨rfl, rfl⟩
set_option maxRecDepth 100000 in
theorem fewE_no (A : Option Addr) (n c N : Nat) (hn : N < n) (hc : n ≤ c) (w : World) :
    Calls Tryd.prog 32 #[.slice A n c, .int .i64 (N : Int)] w fun e w' => e = .returned (.slice A N c) ∧ w = w' := by
  have h1 : (N : Int) < (n : Int) := by omega
  have X := run_headOf (P := Tryd.prog) (t := 24) (A := A) (n := n) (c := c) (m := N) Tryd.underlying24 (fun _ => rfl) (by omega) (N : Int) rfl
  go_enter Tryd.func32, Tryd.ntmps32
  go_wp2_with fail
  go_ret
  exact ⟨rfl, rfl⟩
theorem fewE_any (A : Option Addr) (n c N : Nat) (hc : n ≤ c) (w : World) :
    Calls Tryd.prog 32 #[.slice A n c, .int .i64 (N : Int)] w fun e w' => e = .returned (.slice A (min n N) c) ∧ w = w' := by
  by_cases h : n ≤ N
  · rw [Nat.min_eq_left h]
    exact fewE_yes A n c N h w
  · rw [Nat.min_eq_right (by omega)]
    exact fewE_no A n c N (by omega) hc w
set_option maxRecDepth 100000 in
theorem fewI_yes (A : Option Addr) (n c N : Nat) (hn : n ≤ N) (w : World) :
    Calls Tryd.prog 33 #[.slice A n c, .int .i64 (N : Int)] w fun e w' => e = .returned (.slice A n c) ∧ w = w' := by
  have h1 : (n : Int) ≤ (N : Int) := by omega
  go_enter Tryd.func33, Tryd.ntmps33
  go_wp2_with fail
  go_ret
  exact ⟨rfl, rfl⟩
set_option maxRecDepth 100000 in
theorem fewI_no (A : Option Addr) (n c N : Nat) (hn : N < n) (hc : n ≤ c) (w : World) :
    Calls Tryd.prog 33 #[.slice A n c, .int .i64 (N : Int)] w fun e w' => e = .returned (.slice A N c) ∧ w = w' := by
  have h1 : (N : Int) < (n : Int) := by omega
  have X := run_headI (A := A) (n := n) (c := c) (k := N) (by omega) (N : Int) rfl
  go_enter Tryd.func33, Tryd.ntmps33
  go_wp2_with fail
  go_ret
  exact ⟨rfl, rfl⟩
theorem fewI_any (A : Option Addr) (n c N : Nat) (hc : n ≤ c) (w : World) :
    Calls Tryd.prog 33 #[.slice A n c, .int .i64 (N : Int)] w fun e w' => e = .returned (.slice A (min n N) c) ∧ w = w' := by
  by_cases h : n ≤ N
  · rw [Nat.min_eq_left h]
    exact fewI_yes A n c N h w
  · rw [Nat.min_eq_right (by omega)]
    exact fewI_no A n c N (by omega) hc w

theorem Pieces.take_ {w : World} {A : Option Addr} {es : List Text} (h : Pieces w A es) (k : Nat) : Pieces w A (es.take k) := fun h0 => by
  obtain ⟨b, o, e, hb, hc⟩ := h (by rw [List.length_take] at h0; omega)
  refine ⟨b, o, e, hb, fun i q hq => hc i q ?_⟩
  rw [List.getElem?_take] at hq
  split at hq
  · exact hq
  · cases hq
theorem Prs.take_ {w : World} {A : Option Addr} {ps : List Pr} (h : Prs w A ps) (k : Nat) : Prs w A (ps.take k) := by
  refine ⟨⟨by rw [flat_len]; omega, fun h0 => ?_⟩, fun p hp => h.2 p (List.mem_of_mem_take hp)⟩
  rw [List.length_take] at h0
  obtain ⟨b, o, e, hb, hc⟩ := h.1.2 (by omega)
  refine ⟨b, o, e, hb, fun j u hu => hc j u ?_⟩
  have hl : j < 3 * (ps.take k).length := by rw [← flat_len]; exact (List.getElem?_eq_some_iff.1 hu).1
  rw [List.length_take] at hl
  have hi : j / 3 < ps.length := by omega
  have hp : ps[j / 3]? = some ps[j / 3] := List.getElem?_eq_getElem hi
  have hp2 : (ps.take k)[j / 3]? = some ps[j / 3] := by rw [List.getElem?_take, if_pos (by omega), hp]
  have e1 := flat_at ps (j / 3) _ (j % 3) hp (by omega)
  have e2 := flat_at (ps.take k) (j / 3) _ (j % 3) hp2 (by omega)
  rw [show 3 * (j / 3) + j % 3 = j by omega] at e1 e2
  rw [e1, ← e2]
  exact hu
/-- The copies as a piece's rows. -/
theorem HF.pieces {w0 W : World} {B n m : Nat} {E P V Q : Value} {gs hs : List Nat} {es : List Text} {ps : List Pr} (h : HF w0 W B E P V Q n m gs hs es ps) : ∃ AE cE, E = .slice AE n cE ∧ n ≤ cE ∧ (AE = none → n = 0 ∧ cE = 0) ∧ (es.length = n → Pieces W AE es) := by
  obtain ⟨A, c, e, hc, -, hnil, hr, -⟩ := Append.Own.reads h.oe
  refine ⟨A, c, e, hc, hnil, fun hl h0 => ?_⟩
  obtain ⟨b, o, e1, hb, hcs⟩ := hr.at_ (by omega)
  refine ⟨b, o, e1, hb, fun i q hq => ?_⟩
  have hi := (List.getElem?_eq_some_iff.1 hq).1
  have hg : gs[i]? = some (gs[i]'(by rw [h.roo.1]; exact hi)) := List.getElem?_eq_getElem _
  obtain ⟨h1, -⟩ := h.roo.2 i _ q hg hq
  exact ⟨_, _, hcs i _ (xsE_at hg hq), by omega, h1.reads, fun e => by cases e⟩
theorem HF.prs {w0 W : World} {B n m : Nat} {E P V Q : Value} {gs hs : List Nat} {es : List Text} {ps : List Pr} (h : HF w0 W B E P V Q n m gs hs es ps) (hl : ps.length = m) (hd : ∀ p ∈ ps, Digs p.ds ∧ p.ds.length = p.n) : ∃ AP cP, P = .slice AP m cP ∧ m ≤ cP ∧ (AP = none → m = 0 ∧ cP = 0) ∧ Prs W AP (psH hs ps) := by
  obtain ⟨A, c, e, hc, -, hnil, hr, -⟩ := Append.Own.reads h.op
  have hlen : (psH hs ps).length = m := by unfold psH; rw [List.length_zipWith, h.rod.1, Nat.min_self]; exact hl
  refine ⟨A, c, e, hc, hnil, by rw [hlen]; exact hr, fun p hp => ?_⟩
  obtain ⟨i, hi, rfl⟩ := List.getElem_of_mem hp
  have hi2 : i < ps.length := by omega
  have hg : hs[i]? = some (hs[i]'(by rw [h.rod.1]; exact hi2)) := List.getElem?_eq_getElem _
  have hx : ps[i]? = some ps[i] := List.getElem?_eq_getElem hi2
  obtain ⟨h1, -⟩ := h.rod.2 i _ _ hg hx
  have e1 := psH_at hg hx
  rw [List.getElem?_eq_getElem hi] at e1
  rw [Option.some.inj e1]
  obtain ⟨d1, d2⟩ := hd _ (List.getElem_mem hi2)
  have h3 := (RowD.rd h1 (d1.append_ (Digs.rep 80 mk0_len))).take_ (ps[i]).n (by rw [List.length_append]; omega)
  rw [List.take_left' d2] at h3
  exact ⟨h3, Nat.le_add_right _ _⟩
end Go.Proofs.YtgldkfaiofkhbaaDoor.Law17e

namespace Go.Proofs.YtgldkfaiofkhbaaDoor.CutQ
open Go Go.RowKit Go.Proofs.YtgldkfaiofkhbaaDoor Go.Proofs.YtgldkfaiofkhbaaDoor.Mem Go.Proofs.YtgldkfaiofkhbaaDoor.Sha Go.Proofs.YtgldkfaiofkhbaaDoor.Bytes Go.Proofs.YtgldkfaiofkhbaaDoor.TreeMem Go.Proofs.YtgldkfaiofkhbaaDoor.HeadMem Go.Proofs.YtgldkfaiofkhbaaDoor.ProofIdx Go.Proofs.YtgldkfaiofkhbaaDoor.PieceP Go.Proofs.YtgldkfaiofkhbaaDoor.PieceRow Go.Proofs.YtgldkfaiofkhbaaDoor.PieceBegins Go.Proofs.YtgldkfaiofkhbaaDoor.Prs Go.Proofs.YtgldkfaiofkhbaaDoor.Reach Go.Proofs.YtgldkfaiofkhbaaDoor.PieceLay Go.Proofs.YtgldkfaiofkhbaaDoor.PieceMem Go.Proofs.YtgldkfaiofkhbaaDoor.Pcs Go.Proofs.YtgldkfaiofkhbaaDoor.CutP Go.Proofs.YtgldkfaiofkhbaaDoor.CutM

/-- Where a part of a row begins. -/
def dropA (A : Option Addr) (l sz : Nat) : Option Addr := A.map (·.add (l * sz))
theorem run_from {P : Program} {t : TypeId} {A : Option Addr} {n c l sz : Nat} (h : P.underlying t = some (.slice (P.elem t))) (hs : ∀ w, (sizeOf (P.elem t)).run P w = .ok sz w) (hl : l < n) (hn : n ≤ c) (x : Int) (hx : x = l) (w : World) :
    (Instr.sliceAt t (.slice A n c) (some (.int .i64 x)) none none).run P w = .ok (.slice (dropA A l sz) (n - l) (c - l)) w := by
  subst hx
  rw [run_sliceAt_slice w t _ _ _ _ h, run_slice_l w t A n c h .i64 (l : Int) (by omega) (by omega), hs]
  simp [Result.andThen, sliced, dropA]
  omega
theorem run_part {P : Program} {t : TypeId} {A : Option Addr} {n c l m sz : Nat} (h : P.underlying t = some (.slice (P.elem t))) (hs : ∀ w, (sizeOf (P.elem t)).run P w = .ok sz w) (hl : l < m) (hm : m ≤ n) (hn : n ≤ c) (x y : Int) (hx : x = l) (hy : y = m) (w : World) :
    (Instr.sliceAt t (.slice A n c) (some (.int .i64 x)) (some (.int .i64 y)) none).run P w = .ok (.slice (dropA A l sz) (m - l) (c - l)) w := by
  subst hx hy
  rw [run_sliceAt_slice w t _ _ _ _ h, run_slice_lh w t A n c h .i64 .i64 (l : Int) (m : Int) (by omega) (by omega) (by omega), hs]
  simp [Result.andThen, sliced, dropA]
  omega
theorem pieces_drop {w : World} {A : Option Addr} {es : List Text} (h : Pieces w A es) (l : Nat) : Pieces w (dropA A l 1) (es.drop l) := fun h0 => by
  rw [List.length_drop] at h0
  obtain ⟨b, o, e, hb, hc⟩ := h (by omega)
  subst e
  refine ⟨b, o + l, by unfold dropA; rw [Option.map_some, add_at, Nat.mul_one], hb, fun i q hq => ?_⟩
  rw [List.getElem?_drop] at hq
  obtain ⟨Ai, ci, h1, h2⟩ := hc (l + i) q hq
  exact ⟨Ai, ci, by rw [Nat.add_assoc]; exact h1, h2⟩
theorem prs_drop {w : World} {A : Option Addr} {ps : List Pr} (h : Prs w A ps) (l : Nat) : Prs w (dropA A l 3) (ps.drop l) := by
  refine ⟨⟨by rw [flat_len]; omega, fun h0 => ?_⟩, fun p hp => h.2 p (List.mem_of_mem_drop hp)⟩
  rw [List.length_drop] at h0
  obtain ⟨b, o, e, hb, hc⟩ := h.1.2 (by omega)
  subst e
  refine ⟨b, o + l * 3, by unfold dropA; rw [Option.map_some, add_at], hb, fun j u hu => ?_⟩
  have hl : j < 3 * (ps.drop l).length := by rw [← flat_len]; exact (List.getElem?_eq_some_iff.1 hu).1
  rw [List.length_drop] at hl
  have hi : l + j / 3 < ps.length := by omega
  have hp : ps[l + j / 3]? = some ps[l + j / 3] := List.getElem?_eq_getElem hi
  have hp2 : (ps.drop l)[j / 3]? = some ps[l + j / 3] := by rw [List.getElem?_drop, hp]
  have e1 := flat_at ps (l + j / 3) _ (j % 3) hp (by omega)
  have e2 := flat_at (ps.drop l) (j / 3) _ (j % 3) hp2 (by omega)
  rw [show 3 * (j / 3) + j % 3 = j by omega] at e2
  rw [show 3 * (l + j / 3) + j % 3 = l * 3 + j by omega] at e1
  rw [e2, ← e1] at hu
  rw [Nat.add_assoc]
  exact hc _ _ hu

/-! ### What a row of pieces says -/
def Says (s : ByteArray) (es : List Text) (ps : List Pr) (p : Pc) (k : Cut) : Prop := p.s = s ∧ p.F = k.F ∧ p.b = k.b ∧ p.es = (es.drop k.lo).take k.n ∧ SamePiece.Alike p.ps ((ps.drop k.lo).take k.n)
def SaysR (s : ByteArray) (es : List Text) (ps : List Pr) (l : List Pc) (ks : List Cut) : Prop := l.length = ks.length ∧ ∀ (i : Nat) (p : Pc) (k : Cut), l[i]? = some p → ks[i]? = some k → Says s es ps p k
theorem SaysR.nil_ (s : ByteArray) (es : List Text) (ps : List Pr) : SaysR s es ps [] [] := ⟨rfl, fun i p k h => by cases h⟩
theorem SaysR.push {s : ByteArray} {es : List Text} {ps : List Pr} {l : List Pc} {ks : List Cut} (h : SaysR s es ps l ks) {p : Pc} {k : Cut} (hp : Says s es ps p k) : SaysR s es ps (l ++ [p]) (ks ++ [k]) := ⟨by simp [h.1], fun i p' k' e1 e2 => by
  rcases last_at e1 with ⟨l1, e1⟩ | ⟨l1, rfl⟩
  · rcases last_at e2 with ⟨l2, e2⟩ | ⟨l2, rfl⟩
    · exact h.2 i p' k' e1 e2
    · have := h.1; omega
  · rcases last_at e2 with ⟨l2, e2⟩ | ⟨l2, rfl⟩
    · have := h.1; omega
    · exact hp⟩
/-! ### One round -/
theorem items_drop (es : List Text) (ps : List Pr) (l : Nat) : itemsOf (es.drop l) (ps.drop l) = (itemsOf es ps).drop l := by
  unfold itemsOf
  rw [List.drop_zipWith]
theorem items_len {es : List Text} {ps : List Pr} (h : es.length = ps.length) : (itemsOf es ps).length = es.length := by
  unfold itemsOf
  rw [List.length_zipWith]
  omega
theorem items_at {es : List Text} {ps : List Pr} {i : Nat} {e : Text} {p : Pr} (he : es[i]? = some e) (hp : ps[i]? = some p) : (itemsOf es ps)[i]? = some (itemOf e p) := by
  unfold itemsOf
  rw [List.getElem?_zipWith, he, hp]
theorem items_ways : ∀ {es : List Text} {ps : List Pr}, es.length = ps.length → (itemsOf es ps).map (·.ways) = ps.map Pr.n
  | [], [], _ => rfl
  | e :: es, p :: ps, h => by
    have := items_ways (es := es) (ps := ps) (by simpa using h)
    unfold itemsOf at this ⊢
    rw [List.zipWith_cons_cons, List.map_cons, List.map_cons, this]
    rfl
theorem rises_size (sz : Int) : ∀ (l : List PieceP.Item) (p : Option Int), rises sz p l = true → ∀ x ∈ l, x.size = sz
  | [], _, _, x, hx => by cases hx
  | y :: l, p, h, x, hx => by
    have h : (decide (y.size = sz) && (!PieceP.low p y.num && rises sz (some y.num) l)) = true := h
    simp only [Bool.and_eq_true, decide_eq_true_eq] at h
    rcases List.mem_cons.1 hx with rfl | hx
    · exact h.1
    · exact rises_size sz l _ h.2.2 x hx
/-- The bytes of what is cut off are bounded, and so are its digests. -/
theorem reach_bytes (F sz : Int) : ∀ (l : List PieceP.Item) (i b : Nat) (p : Option Int), i < reachFrom F sz i b p l → b + 32 * ((l.take (reachFrom F sz i b p l - i)).map (·.ways)).sum ≤ 2097152
  | [], i, b, p, h => absurd h (Nat.lt_irrefl _)
  | x :: l, i, b, p, h => by
    by_cases h1 : i = 1000 ∨ 2097152 < b + (12 + x.len + 32 * x.ways) ∨ x.fit = false ∨ x.size ≠ sz ∨ sz - i - 1 < F
    · rw [reach_stop h1] at h; omega
    · cases h2 : PieceP.low p x.num with
      | true => rw [reach_low h2] at h; omega
      | false =>
        rw [reach_on h1 h2] at h ⊢
        have hb : ¬ 2097152 < b + (12 + x.len + 32 * x.ways) := fun hh => h1 (.inr (.inl hh))
        have hge := reach_ge F sz l (i + 1) (b + (12 + x.len + 32 * x.ways)) (some x.num)
        generalize hr : reachFrom F sz (i + 1) (b + (12 + x.len + 32 * x.ways)) (some x.num) l = r at *
        rw [show r - i = (r - (i + 1)) + 1 by omega, List.take_succ_cons, List.map_cons, List.sum_cons]
        by_cases h3 : i + 1 < r
        · have := reach_bytes F sz l (i + 1) (b + (12 + x.len + 32 * x.ways)) (some x.num) (by rw [hr]; exact h3)
          rw [hr] at this
          omega
        · rw [show r - (i + 1) = 0 by omega, List.take_zero, List.map_nil, List.sum_nil]
          omega
/-- The program's count at a place is the plain one. -/
theorem reach_round {s : ByteArray} {F : Int} {b : Text} {es : List Text} {ps : List Pr} {lo : Nat} (hlen : es.length = ps.length) (hb : begB s.data.toList F b = true) (hr : rises (firstSize ps) none (itemsOf es ps) = true) (hlo : lo < es.length) :
    reachN s F b (es.drop lo) (ps.drop lo) = reachFrom F (firstSize ps) 0 (54 + s.size) none ((itemsOf es ps).drop lo) := by
  unfold reachN
  rw [if_pos hb, items_drop]
  have hp : ps[lo]? = some (ps[lo]'(by omega)) := List.getElem?_eq_getElem _
  have he : es[lo]? = some es[lo] := List.getElem?_eq_getElem _
  have hx := rises_size _ _ _ hr _ (List.mem_of_getElem? (items_at he hp))
  have : firstSize (ps.drop lo) = firstSize ps := by
    rw [← hx]
    show _ = (ps[lo]'(by omega)).x
    rw [List.drop_eq_getElem_cons (by omega)]
    rfl
  rw [this]
theorem reach_sumN {F sz : Int} {nb : Nat} {es : List Text} {ps : List Pr} {lo n : Nat} (hlen : es.length = ps.length) (h : reachFrom F sz 0 nb none ((itemsOf es ps).drop lo) = n) (hn : n ≠ 0) : sumN ((ps.drop lo).take n) ≤ 65536 := by
  have := reach_bytes F sz ((itemsOf es ps).drop lo) 0 nb none (by omega)
  rw [h, Nat.sub_zero, List.map_take, List.map_drop, items_ways hlen] at this
  unfold sumN
  rw [List.map_take, List.map_drop]
  omega
theorem beg_next {s : List UInt8} {F : Int} {b b' : Text} (h : begB s F b = true) {n : Nat} (hn : n ≠ 0) : begB s (F + (n : Nat)) b' = true := by
  unfold begB at h ⊢
  simp only [Bool.and_eq_true, Bool.or_eq_true, decide_eq_true_eq] at h ⊢
  exact ⟨h.1, by omega, .inl (by omega)⟩
theorem beg_pos {s : List UInt8} {F : Int} {b : Text} (h : begB s F b = true) : 0 ≤ F := by
  unfold begB at h
  simp only [Bool.and_eq_true, Bool.or_eq_true, decide_eq_true_eq] at h
  exact h.2.1
/-- Where something is cut off, the numbers stay small. -/
theorem reach_small {F : Int} {nb : Nat} {es : List Text} {ps : List Pr} {lo n : Nat} (h : reachFrom F (firstSize ps) 0 nb none ((itemsOf es ps).drop lo) = n) (hn : n ≠ 0) : F + (n : Nat) ≤ 1099511627776 := by
  have h1 := reach_sum F (firstSize ps) ((itemsOf es ps).drop lo) 0 nb none (by omega)
  obtain ⟨x, hx, hf, hs⟩ := reach_fit (F := F) (sz := firstSize ps) (b := nb) (p := none) (l := (itemsOf es ps).drop lo) (by omega)
  have hm : x ∈ itemsOf es ps := List.mem_of_mem_drop (List.mem_of_getElem? hx)
  obtain ⟨e, p, rfl⟩ : ∃ e p, x = itemOf e p := by
    unfold itemsOf at hm
    obtain ⟨i, hi⟩ := List.mem_iff_getElem?.1 hm
    rw [List.getElem?_zipWith] at hi
    split at hi
    · exact ⟨_, _, (Option.some.inj hi).symm⟩
    · cases hi
  have hf : fitB p.x p.y p.n e.length = true := hf
  unfold fitB ProofBeside.insideB at hf
  simp only [Bool.and_eq_true, decide_eq_true_eq] at hf
  have hs : p.x = firstSize ps := hs
  omega
end Go.Proofs.YtgldkfaiofkhbaaDoor.CutQ

namespace Go.Proofs.YtgldkfaiofkhbaaDoor.SpeltP
open Go Go.RowKit Go.Proofs.YtgldkfaiofkhbaaDoor Go.Proofs.YtgldkfaiofkhbaaDoor.Mem Go.Proofs.YtgldkfaiofkhbaaDoor.Sha Go.Proofs.YtgldkfaiofkhbaaDoor.Bytes Go.Proofs.YtgldkfaiofkhbaaDoor.Octet Go.Proofs.YtgldkfaiofkhbaaDoor.Octet2 Go.Proofs.YtgldkfaiofkhbaaDoor.TreeMath Go.Proofs.YtgldkfaiofkhbaaDoor.Sides Go.Proofs.YtgldkfaiofkhbaaDoor.TreeMem Go.Proofs.YtgldkfaiofkhbaaDoor.Reader Go.Proofs.YtgldkfaiofkhbaaDoor.Reader2 Go.Proofs.YtgldkfaiofkhbaaDoor.Reader4 Go.Proofs.YtgldkfaiofkhbaaDoor.ProofBeside Go.Proofs.YtgldkfaiofkhbaaDoor.ProofEnc Go.Proofs.YtgldkfaiofkhbaaDoor.Ref17 Go.Proofs.YtgldkfaiofkhbaaDoor.DecIncl Go.Proofs.YtgldkfaiofkhbaaDoor.ReadIncl Go.Proofs.YtgldkfaiofkhbaaDoor.Subs Go.Proofs.YtgldkfaiofkhbaaDoor.EncCons Go.Proofs.YtgldkfaiofkhbaaDoor.RefCons Go.Proofs.YtgldkfaiofkhbaaDoor.DecCons Go.Proofs.YtgldkfaiofkhbaaDoor.ReadCons Go.Proofs.YtgldkfaiofkhbaaDoor.PieceB Go.Proofs.YtgldkfaiofkhbaaDoor.ProofIdx Go.Proofs.YtgldkfaiofkhbaaDoor.ProofIdx2 Go.Proofs.YtgldkfaiofkhbaaDoor.StructEq Go.Proofs.YtgldkfaiofkhbaaDoor.IdxAny Go.Proofs.YtgldkfaiofkhbaaDoor.IdxEnc Go.Proofs.YtgldkfaiofkhbaaDoor.IdxMem

/-! ### Inclusion proofs -/
/-! ### Consistency proofs -/
/-! ### What an index says -/
end Go.Proofs.YtgldkfaiofkhbaaDoor.SpeltP
