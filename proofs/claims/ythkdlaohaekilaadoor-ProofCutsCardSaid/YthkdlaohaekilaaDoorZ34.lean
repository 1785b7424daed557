/-
  Texts of the claim, put into one file: PieceRead, PieceMem, Pcs, PieceMem2, CutM, HandM, DecPieceM, DecPiece.
-/
import Derived.Test.YthkdlaohaekilaaDoorZ33
import Derived.Test.YthkdlaohaekilaaDoorZ24
import Derived.Test.YthkdlaohaekilaaDoorZ6
import Derived.Test.YthkdlaohaekilaaDoorZ14
import Derived.Test.YthkdlaohaekilaaDoorZ4
import Derived.Test.YthkdlaohaekilaaDoorZ18
import Derived.Test.YthkdlaohaekilaaDoorZ15
import Derived.Test.YthkdlaohaekilaaDoorZ13
import Derived.Test.YthkdlaohaekilaaDoorZ26

namespace Go.Proofs.YthkdlaohaekilaaDoor.PieceRead
open Go Go.RowKit Go.Proofs.YthkdlaohaekilaaDoor Go.Proofs.YthkdlaohaekilaaDoor.Mem Go.Proofs.YthkdlaohaekilaaDoor.Sha Go.Proofs.YthkdlaohaekilaaDoor.Bytes Go.Proofs.YthkdlaohaekilaaDoor.Octet Go.Proofs.YthkdlaohaekilaaDoor.Octet4 Go.Proofs.YthkdlaohaekilaaDoor.TreeMem Go.Proofs.YthkdlaohaekilaaDoor.Reader Go.Proofs.YthkdlaohaekilaaDoor.Reader4 Go.Proofs.YthkdlaohaekilaaDoor.ProofBeside Go.Proofs.YthkdlaohaekilaaDoor.ProofEnc Go.Proofs.YthkdlaohaekilaaDoor.ProofIdx Go.Proofs.YthkdlaohaekilaaDoor.ProofIdx2 Go.Proofs.YthkdlaohaekilaaDoor.PieceP Go.Proofs.YthkdlaohaekilaaDoor.PieceRow Go.Proofs.YthkdlaohaekilaaDoor.PieceBegins Go.Proofs.YthkdlaohaekilaaDoor.Prs Go.Proofs.YthkdlaohaekilaaDoor.Reach Go.Proofs.YthkdlaohaekilaaDoor.PieceB Go.Proofs.YthkdlaohaekilaaDoor.PieceLay Go.Proofs.YthkdlaohaekilaaDoor.IdxMem

/-- How many digests the way of a number has. -/
def cz (Z y : Nat) : Nat := (PieceRow.bsNum (Z : Int) (y : Int)).toNat
def pcL (q : Text) : Nat := (q.getD 1 0).toNat
def pcS (q : Text) : Text := (q.drop 2).take (pcL q)
def pcF (q : Text) : Nat := n8 q (2 + pcL q)
def pcB (q : Text) : Text := (q.drop (10 + pcL q)).take 32
def pcZ (q : Text) : Nat := n8 q (42 + pcL q)
def pcN (q : Text) : Nat := n4 q (50 + pcL q)
def pcRows (q : Text) : List Row := rowsAt (cz (pcZ q)) q (54 + pcL q) (pcN q)
def pcEnd (q : Text) : Nat := endAt (cz (pcZ q)) q (54 + pcL q) (pcN q)
/-- A row as the count sees it. -/
def itemR (Z : Int) (r : Row) : PieceP.Item := ⟨r.e.length, Z, r.y, r.ds.length, fitB Z r.y r.ds.length r.e.length⟩
/-- May the rows be a piece? -/
def okR (s : ByteArray) (F : Int) (b : Text) (Z : Int) (rows : List Row) : Prop := begB s.data.toList F b = true ∧ 0 < rows.length ∧ rows.length ≤ 1000 ∧ goodFrom Z (54 + s.size) none (rows.map (itemR Z)) = true ∧ F ≤ Z - rows.length
instance (s : ByteArray) (F : Int) (b : Text) (Z : Int) (rows : List Row) : Decidable (okR s F b Z rows) := by unfold okR; infer_instance
/-- The rows, as proofs in memory. -/
def PsOf (Z : Int) (rows : List Row) (ps : List Pr) : Prop := ps.map (fun p => (p.x, p.y, p.n, p.ds)) = rows.map (fun r => (Z, (r.y : Int), r.ds.length, r.ds))
theorem PsOf.len {Z : Int} {rows : List Row} {ps : List Pr} (h : PsOf Z rows ps) : ps.length = rows.length := by
  have := congrArg List.length h
  simpa using this
theorem PsOf.at_ {Z : Int} {rows : List Row} {ps : List Pr} (h : PsOf Z rows ps) {i : Nat} {p : Pr} {r : Row} (hp : ps[i]? = some p) (hr : rows[i]? = some r) : p.x = Z ∧ p.y = (r.y : Int) ∧ p.n = r.ds.length ∧ p.ds = r.ds := by
  have e := congrArg (fun l => l[i]?) h
  simp only [List.getElem?_map, hp, hr, Option.map_some, Option.some.injEq, Prod.mk.injEq] at e
  exact e
theorem PsOf.nil_ (Z : Int) : PsOf Z [] [] := rfl
/-- Are these bytes a piece? -/
def pcOk (q : Text) : Prop := q.getD 0 0 = 51 ∧ pcEnd q = q.length ∧ okR (strT (pcS q)) (pcF q : Int) (pcB q) (pcZ q : Int) (pcRows q)
instance (q : Text) : Decidable (pcOk q) := by unfold pcOk; infer_instance
structure Ans where
  s : ByteArray
  F : Int
  b : Text
  Z : Int
  rows : List Row
  err : Int
theorem two {q : Text} (h : 2 ≤ q.length) : q = [q.getD 0 0, q.getD 1 0] ++ q.drop 2 := by
  match q, h with
  | a :: b :: r, _ => rfl
  | [_], h => simp at h
  | [], h => simp at h
end Go.Proofs.YthkdlaohaekilaaDoor.PieceRead

namespace Go.Proofs.YthkdlaohaekilaaDoor.PieceMem
open Go Go.RowKit Go.Proofs.YthkdlaohaekilaaDoor Go.Proofs.YthkdlaohaekilaaDoor.Mem Go.Proofs.YthkdlaohaekilaaDoor.Sha Go.Proofs.YthkdlaohaekilaaDoor.Bytes Go.Proofs.YthkdlaohaekilaaDoor.Append Go.Proofs.YthkdlaohaekilaaDoor.Own Go.Proofs.YthkdlaohaekilaaDoor.TreeMem Go.Proofs.YthkdlaohaekilaaDoor.Prs Go.Proofs.YthkdlaohaekilaaDoor.PieceLay Go.Proofs.YthkdlaohaekilaaDoor.HeadMem

/-! ### What lies in a block of another type is apart -/
theorem blk_own {w : World} {g B size n : Nat} {t e : TypeId} {cs : Array Value} {v : Value} {xs : List Value} (hb : Blk w g t cs) (ho : w.ownsRow B e size v n xs) (hne : t ≠ e) : some g ≠ v.ownBlock := fun h => by
  rcases ho.2 with ⟨rfl, -⟩ | ⟨g', cap, cur, rfl, -, h3, -⟩
  · cases h
  · obtain rfl : g = g' := Option.some.inj h
    have h2 : w.heap[g]? = some (.cells cs t (0, 0)) := hb
    rw [h3] at h2
    injection h2 with h2
    injection h2 with _ h2
    exact hne h2.symm
theorem own_own {w : World} {B B' size n size' n' : Nat} {e e' : TypeId} {v v' : Value} {xs xs' : List Value} (h : w.ownsRow B e size v n xs) (h' : w.ownsRow B' e' size' v' n' xs') (hne : e ≠ e') : ∀ k, v.ownBlock = some k → v'.ownBlock ≠ some k := fun k hk => by
  rcases h.2 with ⟨rfl, -⟩ | ⟨g, cap, cur, rfl, -, h3, -⟩
  · cases hk
  · obtain rfl : g = k := Option.some.inj hk
    exact fun e2 => blk_own (g := g) (t := e) (cs := cur) h3 h' hne e2.symm
theorem own_keep {S : Nat → Prop} {w w' : World} {base e size n : Nat} {v : Value} {xs : List Value} (h : w.ownsRow base e size v n xs) (hk : Kept S w w') (hS : ∀ k, v.ownBlock = some k → ¬ S k) : w'.ownsRow base e size v n xs := by
  refine ⟨h.1, h.2.imp id fun ⟨g, cap, cur, h1, h2, h3, h4⟩ => ⟨g, cap, cur, h1, h2, ?_, h4⟩⟩
  rw [hk.block g (Array.getElem?_eq_some_iff.1 h3).1 (hS g (by rw [h1]; rfl)), h3]
theorem grew_kept {w w' : World} {base e size n m : Nat} {v v' : Value} {xs news : List Value} (h : Grew w base e size v n m xs news v' w') : Kept (fun k => some k = v.ownBlock) w w' := ⟨h.grow.os, h.grow.tape, h.grow.output, h.grow.size, fun k hk hne => h.grow.block k hk hne⟩
theorem grew_new {w w' : World} {base e size n m : Nat} {v v' : Value} {xs news : List Value} (h : Grew w base e size v n m xs news v' w') : ∀ k, v'.ownBlock = some k → v.ownBlock = some k ∨ w.heap.size ≤ k := fun k hk => by
  rcases h.at_ with h1 | h1
  · exact .inl (h1.symm.trans hk)
  · rw [h1] at hk
    exact .inr (Nat.le_of_eq (Option.some.inj hk))

/-! ### Texts in a row -/
/-- Each text of a row lies somewhere, apart from the blocks that turn. -/
def Txa (w : World) (X : Nat → Prop) (xs : List Value) (ts : List Text) : Prop := xs.length = ts.length ∧ ∀ (i : Nat) (q : Text), ts[i]? = some q → ∃ A c, xs[i]? = some (.slice A q.length c) ∧ q.length ≤ c ∧ (A = none → q.length = 0 ∧ c = 0) ∧ Reads w 1 A q.length (cells8 q) ∧ ∀ a, A = some a → 0 < q.length → a.block < w.heap.size ∧ ¬ X a.block
theorem Txa.nil_ (w : World) (X : Nat → Prop) : Txa w X [] [] := ⟨rfl, fun i q h => by cases h⟩
theorem Txa.step {w w' : World} {X X' S : Nat → Prop} {xs : List Value} {ts : List Text} (h : Txa w X xs ts) (hk : Kept S w w') (hS : ∀ k, k < w.heap.size → S k → X k) (hX : ∀ k, k < w.heap.size → X' k → X k) : Txa w' X' xs ts := ⟨h.1, fun i q hq => by
  obtain ⟨A, c, a1, a2, a3, a4, a5⟩ := h.2 i q hq
  refine ⟨A, c, a1, a2, a3, a4.kept0 hk (fun h0 b o e hs => (a5 _ e (by omega)).2 (hS b (a5 _ e (by omega)).1 hs)), fun a e h0 => ⟨Nat.lt_of_lt_of_le (a5 a e h0).1 hk.size, fun hx => (a5 a e h0).2 (hX _ (a5 a e h0).1 hx)⟩⟩⟩
theorem Txa.push {w : World} {X : Nat → Prop} {xs : List Value} {ts : List Text} (h : Txa w X xs ts) {A : Option Addr} {c k : Nat} {q : Text} (hk : q.length = k) (hc : k ≤ c) (hn : A = none → k = 0 ∧ c = 0) (hr : Reads w 1 A k (cells8 q)) (ha : ∀ a, A = some a → 0 < k → a.block < w.heap.size ∧ ¬ X a.block) : Txa w X (xs ++ [.slice A k c]) (ts ++ [q]) := by
  subst hk
  refine ⟨by simp [h.1], fun i p hp => ?_⟩
  rcases Nat.lt_or_ge i ts.length with hi | hi
  · rw [List.getElem?_append_left hi] at hp
    obtain ⟨A', c', a1, a2⟩ := h.2 i p hp
    exact ⟨A', c', by rw [List.getElem?_append_left (by have := h.1; omega)]; exact a1, a2⟩
  · rw [List.getElem?_append_right hi] at hp
    have hi0 : i = ts.length := by
      have := (List.getElem?_eq_some_iff.1 hp).1
      simp at this
      omega
    subst hi0
    rw [Nat.sub_self] at hp
    obtain rfl := Option.some.inj hp
    exact ⟨A, c, by rw [← h.1, List.getElem?_append_right (Nat.le_refl _), Nat.sub_self]; rfl, hc, hn, hr, ha⟩
theorem Txa.one {w : World} {X : Nat → Prop} {xs : List Value} {ts : List Text} (h : Txa w X xs ts) : ∀ u ∈ xs, u.oneCell' = true := by
  intro u hu
  obtain ⟨j, hj, rfl⟩ := List.mem_iff_getElem.1 hu
  obtain ⟨A, c, h1, -⟩ := h.2 j _ (List.getElem?_eq_getElem (show j < ts.length by have := h.1; omega))
  rw [List.getElem?_eq_getElem hj] at h1
  rw [Option.some.inj h1]
  rfl
theorem Txa.pieces {w : World} {X : Nat → Prop} {B : Nat} {v : Value} {xs : List Value} {ts : List Text} {n : Nat} (hO : w.ownsRow B 27 1 v n xs) (hx : Txa w X xs ts) : ∃ A c, v = .slice A n c ∧ n ≤ c ∧ (A = none → n = 0 ∧ c = 0) ∧ Pieces w A ts ∧ ts.length = n := by
  obtain ⟨A, c, e, hc, -, hnil, hr, -⟩ := Own.reads hO
  have hl : ts.length = n := by have := hO.1; have := hx.1; omega
  refine ⟨A, c, e, hc, hnil, fun h0 => ?_, hl⟩
  obtain ⟨b, o, e1, hb, hcs⟩ := hr.at_ (by omega)
  refine ⟨b, o, e1, hb, fun i q hq => ?_⟩
  obtain ⟨A', c', a1, a2, a3, a4, -⟩ := hx.2 i q hq
  exact ⟨A', c', hcs i _ a1, a2, a4, a3⟩

/-! ### Proofs in a row -/
def Pra (w : World) (X : Nat → Prop) (ps : List Pr) : Prop := ∀ p ∈ ps, RdD w p.A p.n p.ds ∧ p.n ≤ p.c ∧ ∀ a, p.A = some a → a.block < w.heap.size ∧ ¬ X a.block
theorem Pra.nil_ (w : World) (X : Nat → Prop) : Pra w X [] := fun p h => by cases h
theorem Pra.step {w w' : World} {X X' S : Nat → Prop} {ps : List Pr} (h : Pra w X ps) (hk : Kept S w w') (hS : ∀ k, k < w.heap.size → S k → X k) (hX : ∀ k, k < w.heap.size → X' k → X k) : Pra w' X' ps := fun p hp => by
  obtain ⟨a1, a2, a3⟩ := h p hp
  exact ⟨⟨a1.1, a1.2.1, a1.2.2.kept hk (fun b o e hs => (a3 _ e).2 (hS b (a3 _ e).1 hs))⟩, a2, fun a e => ⟨Nat.lt_of_lt_of_le (a3 a e).1 hk.size, fun hx => (a3 a e).2 (hX _ (a3 a e).1 hx)⟩⟩
theorem Pra.push {w : World} {X : Nat → Prop} {ps : List Pr} (h : Pra w X ps) {p : Pr} (h1 : RdD w p.A p.n p.ds) (h2 : p.n ≤ p.c) (h3 : ∀ a, p.A = some a → a.block < w.heap.size ∧ ¬ X a.block) : Pra w X (ps ++ [p]) := fun x hx => by
  rcases List.mem_append.1 hx with hx | hx
  · exact h x hx
  · obtain rfl := List.mem_singleton.1 hx
    exact ⟨h1, h2, h3⟩
theorem flat_len (ps : List Pr) : (ps.flatMap Pr.cells).length = 3 * ps.length := by
  induction ps with
  | nil => rfl
  | cons p ps ih =>
    rw [List.flatMap_cons, List.length_append, ih, List.length_cons]
    show 3 + _ = _
    omega
theorem Pra.prs {w : World} {X : Nat → Prop} {B : Nat} {v : Value} {ps : List Pr} {n : Nat} (hO : w.ownsRow B 31 3 v n (ps.flatMap Pr.cells)) (hx : Pra w X ps) : ∃ A c, v = .slice A n c ∧ n ≤ c ∧ (A = none → n = 0 ∧ c = 0) ∧ Prs w A ps ∧ ps.length = n := by
  obtain ⟨A, c, e, hc, -, hnil, hr, -⟩ := Own.reads hO
  have hl : ps.length = n := by have := hO.1; rw [flat_len] at this; omega
  exact ⟨A, c, e, hc, hnil, ⟨by rw [hl]; exact hr, fun p hp => ⟨(hx p hp).1, (hx p hp).2.1⟩⟩, hl⟩
theorem flat_snoc (ps : List Pr) (p : Pr) : (ps ++ [p]).flatMap Pr.cells = ps.flatMap Pr.cells ++ p.cells := by rw [List.flatMap_append, List.flatMap_singleton]

/-! ### A piece in a block -/
section
variable {s s' : ByteArray} {F F' : Int} {b b' : Text} {E E' P P' : Value}
theorem pc_set0 : (pieceCells s F b E P).toArray.setIfInBounds 0 (.string s') = (pieceCells s' F b E P).toArray := by
  rw [List.setIfInBounds_toArray]
  rfl
theorem pc_set1 : (pieceCells s F b E P).toArray.setIfInBounds 1 (.int .i64 F') = (pieceCells s F' b E P).toArray := by
  rw [List.setIfInBounds_toArray]
  rfl
theorem pc_setE (hb : b.length = 32) : (pieceCells s F b E P).toArray.setIfInBounds 34 E' = (pieceCells s F b E' P).toArray := by
  rw [List.setIfInBounds_toArray]
  congr 1
  unfold pieceCells
  rw [List.set_append_right _ _ (by simp [cells8_len, hb])]
  simp [cells8_len, hb]
theorem pc_setP (hb : b.length = 32) : (pieceCells s F b E P).toArray.setIfInBounds 35 P' = (pieceCells s F b E P').toArray := by
  rw [List.setIfInBounds_toArray]
  congr 1
  unfold pieceCells
  rw [List.set_append_right _ _ (by simp [cells8_len, hb])]
  simp [cells8_len, hb]
theorem pc_setB (h : b.length = 32) (h' : b'.length = 32) : (((pieceCells s F b E P).toArray.toList.take 2 ++ (cells8 b').toArray.toList ++ (pieceCells s F b E P).toArray.toList.drop (2 + (cells8 b').toArray.size)).toArray : Array Value) = (pieceCells s F b' E P).toArray := by
  have hz : (cells8 b').toArray.size = 32 := by rw [List.size_toArray, cells8_len, h']
  rw [hz]
  congr 1
  have e : pieceCells s F b E P = [Value.string s, Value.int .i64 F] ++ cells8 b ++ [E, P] := rfl
  show (pieceCells s F b E P).take 2 ++ cells8 b' ++ (pieceCells s F b E P).drop (2 + 32) = _
  rw [e]
  have t1 : ([Value.string s, Value.int .i64 F] ++ cells8 b ++ [E, P]).take 2 = [Value.string s, Value.int .i64 F] := by simp
  have t2 : ([Value.string s, Value.int .i64 F] ++ cells8 b ++ [E, P]).drop (2 + 32) = [E, P] := by rw [List.drop_left' (by simp [cells8_len, h])]
  rw [t1, t2]
  rfl
theorem pc_size (hb : b.length = 32) : (pieceCells s F b E P).toArray.size = 36 := by rw [List.size_toArray, pc_len hb]
theorem pc_fit (hb : b.length = 32) : 2 + 32 ≤ (pieceCells s F b E P).toArray.size := by rw [pc_size hb]; omega
theorem cells8_one {t : Text} (v : Value) (hv : v ∈ cells8 t) : v.oneCell' = true := by
  unfold cells8 at hv
  obtain ⟨x, -, rfl⟩ := List.mem_map.1 hv
  rfl
theorem pc_one (hE : E.oneCell' = true) (hP : P.oneCell' = true) : ((pieceCells s F b E P).toArray.all fun v => v.oneCell') = true := by
  rw [List.all_toArray]
  refine List.all_eq_true.2 fun v hv => ?_
  simp only [pieceCells, List.mem_append, List.mem_cons, List.not_mem_nil, or_false] at hv
  rcases hv with ((rfl | rfl) | h) | (rfl | rfl)
  · rfl
  · rfl
  · exact cells8_one v h
  · exact hE
  · exact hP
theorem pc_info (hb : b.length = 32) : (Tryd.prog.info? 33).map (·.size) = some (pieceCells s F b E P).toArray.size := by rw [pc_size hb]; exact size36
end
/-- The zero api.Piece. -/
def zP : Array Value := (pieceCells ByteArray.empty 0 (List.replicate 32 0) (.slice none 0 0) (.slice none 0 0)).toArray
end Go.Proofs.YthkdlaohaekilaaDoor.PieceMem

namespace Go.Proofs.YthkdlaohaekilaaDoor.Pcs
open Go Go.RowKit Go.Proofs.YthkdlaohaekilaaDoor Go.Proofs.YthkdlaohaekilaaDoor.Mem Go.Proofs.YthkdlaohaekilaaDoor.Sha Go.Proofs.YthkdlaohaekilaaDoor.Bytes Go.Proofs.YthkdlaohaekilaaDoor.TreeMem Go.Proofs.YthkdlaohaekilaaDoor.Held Go.Proofs.YthkdlaohaekilaaDoor.Grown Go.Proofs.YthkdlaohaekilaaDoor.Guard Go.Proofs.YthkdlaohaekilaaDoor.Guard2 Go.Proofs.YthkdlaohaekilaaDoor.Want Go.Proofs.YthkdlaohaekilaaDoor.Plain Go.Proofs.YthkdlaohaekilaaDoor.HeadMem Go.Proofs.YthkdlaohaekilaaDoor.StructEq Go.Proofs.YthkdlaohaekilaaDoor.ProofEnc Go.Proofs.YthkdlaohaekilaaDoor.ProofIdx Go.Proofs.YthkdlaohaekilaaDoor.SameIdx Go.Proofs.YthkdlaohaekilaaDoor.Prs Go.Proofs.YthkdlaohaekilaaDoor.Reach2 Go.Proofs.YthkdlaohaekilaaDoor.PieceLay Go.Proofs.YthkdlaohaekilaaDoor.SamePiece Go.Proofs.YthkdlaohaekilaaDoor.PieceMem

/-- A piece in a row: what it says, and where its rows lie. -/
structure Pc where
  s : ByteArray
  F : Int
  b : Text
  es : List Text
  ps : List Pr
  A : Option Addr
  n : Nat
  c : Nat
  A2 : Option Addr
  m : Nat
  c2 : Nat
def Pc.cells (p : Pc) : List Value := pieceCells p.s p.F p.b (.slice p.A p.n p.c) (.slice p.A2 p.m p.c2)
/-- What it says lies there. -/
structure Pc.Ok (w : World) (p : Pc) : Prop where
  hb : p.b.length = 32
  he : p.es.length = p.n
  hp : p.ps.length = p.m
  e : Pieces w p.A p.es
  p : Prs w p.A2 p.ps
theorem Pc.Ok.below {w w' : World} {p : Pc} (h : p.Ok w) (hb : Below w.heap.size w w') : p.Ok w' := ⟨h.hb, h.he, h.hp, h.e.below hb, h.p.below hb⟩
theorem Pc.len {p : Pc} (h : p.b.length = 32) : p.cells.length = 36 := by
  unfold Pc.cells pieceCells
  simp [cells8_len, h]
def Pcs (w : World) (A : Option Addr) (l : List Pc) : Prop := Reads w 36 A l.length (l.flatMap Pc.cells) ∧ ∀ p ∈ l, p.Ok w
theorem Pcs.below {w w' : World} {A : Option Addr} {l : List Pc} (h : Pcs w A l) (hb : Below w.heap.size w w') : Pcs w' A l := ⟨h.1.below hb, fun p hp => (h.2 p hp).below hb⟩
theorem flat_at36 : ∀ (l : List Pc), (∀ p ∈ l, p.b.length = 32) → ∀ (i : Nat) (p : Pc) (j : Nat), l[i]? = some p → j < 36 → (l.flatMap Pc.cells)[i * 36 + j]? = p.cells[j]? := by
  intro l
  induction l with
  | nil => intro _ i p j h; cases h
  | cons q l ih =>
    intro hl i p j h hj
    rw [List.flatMap_cons]
    have hq : q.cells.length = 36 := Pc.len (hl q (by simp))
    cases i with
    | zero =>
      obtain rfl : q = p := Option.some.inj h
      rw [Nat.zero_mul, Nat.zero_add, List.getElem?_append_left (by omega)]
    | succ i =>
      rw [List.getElem?_append_right (by omega), hq, show (i + 1) * 36 + j - 36 = i * 36 + j by omega]
      exact ih (fun p hp => hl p (by simp [hp])) i p j h hj
theorem Pcs.at_ {w : World} {A : Option Addr} {l : List Pc} (h : Pcs w A l) {i : Nat} {p : Pc} (hp : l[i]? = some p) : ∃ b o, A = some ⟨b, o, none⟩ ∧ b < w.heap.size ∧ ∀ j u, p.cells[j]? = some u → w.cell? ⟨b, o + i * 36 + j, none⟩ = some u := by
  have hi : i < l.length := (List.getElem?_eq_some_iff.1 hp).1
  obtain ⟨b, o, e, hlt, hc⟩ := h.1.2 (by omega)
  refine ⟨b, o, e, hlt, fun j u hu => ?_⟩
  have hj : j < p.cells.length := (List.getElem?_eq_some_iff.1 hu).1
  rw [Pc.len (h.2 p (List.mem_of_getElem? hp)).hb] at hj
  rw [show o + i * 36 + j = o + (i * 36 + j) by omega]
  refine hc _ _ ?_
  rw [flat_at36 l (fun p hp => (h.2 p hp).hb) i p j hp hj]
  exact hu
/-- Two that say the same. -/
def AlikeC (p q : Pc) : Prop := p.s = q.s ∧ p.F = q.F ∧ p.b = q.b ∧ p.es = q.es ∧ SamePiece.Alike p.ps q.ps
def AlikeR (l k : List Pc) : Prop := l.length = k.length ∧ ∀ (i : Nat) (p q : Pc), l[i]? = some p → k[i]? = some q → AlikeC p q
/-- It is not too long. -/
def Pc.Few (p : Pc) : Prop := p.n < 140737488355328 ∧ p.m < 140737488355328 ∧ (∀ e ∈ p.es, e.length < 140737488355328) ∧ ∀ x ∈ p.ps, x.n < 140737488355328
set_option maxRecDepth 100000 in
set_option maxHeartbeats 2000000 in
theorem sameRows_yes (l k : List Pc) (hal : AlikeR l k) (n : Nat) (hn : l.length = n) (hn47 : n < 140737488355328) (hf : ∀ p ∈ l, p.Few) (A1 A2 : Option Addr) (c1 c2 : Nat) (w : World) (h1 : Pcs w A1 l) (h2 : Pcs w A2 k) :
    Calls Tryd.prog 14 #[.slice A1 n c1, .slice A2 n c2] w fun e w' => e = .returned (.bool true) ∧ Below w.heap.size w w' := by
  have hnh : Hid (n < 140737488355328) := hn47
  replace h1 := Lib.hid h1
  replace h2 := Lib.hid h2
  replace hal := Lib.hid hal
  replace hn := Lib.hid hn
  replace hf := Lib.hid hf
  clear hn47
  go_enter Tryd.func14, Tryd.ntmps14
  go_wp2_with fail
  go_loopw [5] (fun v wr => ∃ i : Nat, v = .int .i64 (i : Int) ∧ Hid (i ≤ n) ∧ Hid (Below w.heap.size w wr)) (fun v _ => n - (intOf v).toNat)
  case atStart => exact ⟨0, rfl, Nat.zero_le _, Below.refl _ _⟩
  case round =>
    obtain ⟨i, rfl, hi, hB⟩ := hrel
    by_cases hlt : i < n
    · have hz : (i : Int) < (n : Int) := by omega
      have hz0 : (0 : Int) ≤ (i : Int) := by omega
      have hk47 : (i : Int) < 140737488355328 := by have := hnh.out; omega
      obtain ⟨x, hxi⟩ : ∃ x, l[i]? = some x := ⟨_, List.getElem?_eq_getElem (by rw [hn.out]; exact hlt)⟩
      obtain ⟨y, hyi⟩ : ∃ y, k[i]? = some y := ⟨k[i]'(by have := hal.out.1; have := hn.out; omega), List.getElem?_eq_getElem _⟩
      obtain ⟨q1, q2, q3, q4, q5⟩ := hal.out.2 i x y hxi hyi
      obtain ⟨g1, o1, rfl, hg1, hs1⟩ := h1.out.at_ hxi
      obtain ⟨g2, o2, rfl, hg2, hs2⟩ := h2.out.at_ hyi
      have ho1 := h1.out.2 x (List.mem_of_getElem? hxi)
      have ho2 := h2.out.2 y (List.mem_of_getElem? hyi)
      obtain ⟨f1, f2, f3, f4⟩ := hf.out x (List.mem_of_getElem? hxi)
      have hB2 := hB.out
      have hu1 : Hid (∀ w', Below wr.heap.size wr w' → ∀ j u, x.cells[j]? = some u → w'.cell? ⟨g1, o1 + i * 36 + j, none⟩ = some u) := fun w' h j u hu => ((hB2.trans (h.mono hB2.size)).cell (p := ⟨g1, o1 + i * 36 + j, none⟩) hg1).trans (hs1 j u hu)
      have hu2 : Hid (∀ w', Below wr.heap.size wr w' → ∀ j u, y.cells[j]? = some u → w'.cell? ⟨g2, o2 + i * 36 + j, none⟩ = some u) := fun w' h j u hu => ((hB2.trans (h.mono hB2.size)).cell (p := ⟨g2, o2 + i * 36 + j, none⟩) hg2).trans (hs2 j u hu)
      have hS : Hid (∀ w', Below wr.heap.size wr w' → Calls Tryd.prog 58 #[.agg x.cells.toArray, .agg y.cells.toArray] w' fun e w'' => e = .returned (.bool true) ∧ Below w'.heap.size w' w'') := fun w' h => by
        have hb' := hB2.trans (h.mono hB2.size)
        have g1 := ho1.below hb'
        have g2 := ho2.below hb'
        have e1 : y.n = x.n := by rw [← ho1.he, ← ho2.he, q4]
        have e2 : y.m = x.m := by rw [← ho1.hp, ← ho2.hp, q5.len]
        have := samePieces_yes x.s x.F x.b ho1.hb x.es x.n ho1.he f1 f3 x.ps y.ps q5 x.m ho1.hp f2 f4 x.A y.A x.A2 y.A2 x.c y.c x.c2 y.c2 w' g1.e (by rw [q4]; exact g2.e) g1.p g2.p
        unfold Pc.cells
        rw [← q1, ← q2, ← q3, e1, e2]
        exact this
      have sX : Hid ((Tryd.prog.info? 33).map (·.size) = some x.cells.length) := agg_hi size36 (Pc.len ho1.hb)
      have sY : Hid ((Tryd.prog.info? 33).map (·.size) = some y.cells.length) := agg_hi size36 (Pc.len ho2.hb)
      have hk1 : Hid (i + 1 ≤ n) := hlt
      clear hs1 hs2 hxi hyi q1 q2 q3 q4 q5 ho1 ho2 f1 f2 f3 f4 hg1 hg2 hB2
      go_upto_region 6 with fail
      refine q_region (Class wr) (by kernel_rfl) (by kernel_rfl) (Class.mk_ ((Below.refl _ _).drew)) ?_
      refine q_move rfl (.tmp 0) rfl ?_
      (intro K hK; go_simp; refine hK _ ?_; clear hK K)
      refine q_move rfl (.tmp 5) rfl ?_
      (intro K hK; go_simp; refine hK _ ?_; clear hK K)
      refine q_val (v := .pointer (some ⟨g1, o1 + i * 36, none⟩)) rfl (fun w' hw' => by go_simp) ?_
      (intro K hK; go_simp; refine hK _ ?_; clear hK K)
      refine q_part rfl 33 (.tmp 19) rfl g1 ((o1 + i * 36)) rfl (x.cells) _ (fun w' hw' => hu1.out w' hw'.below) Tryd.underlying33 rfl sX.out ?_
      (intro K hK; go_simp; refine hK _ ?_; clear hK K)
      refine q_move rfl (.tmp 1) rfl ?_
      (intro K hK; go_simp; refine hK _ ?_; clear hK K)
      refine q_move rfl (.tmp 5) rfl ?_
      (intro K hK; go_simp; refine hK _ ?_; clear hK K)
      refine q_val (v := .pointer (some ⟨g2, o2 + i * 36, none⟩)) rfl (fun w' hw' => by go_simp) ?_
      (intro K hK; go_simp; refine hK _ ?_; clear hK K)
      refine q_part rfl 33 (.tmp 23) rfl g2 ((o2 + i * 36)) rfl (y.cells) _ (fun w' hw' => hu2.out w' hw'.below) Tryd.underlying33 rfl sY.out ?_
      (intro K hK; go_simp; refine hK _ ?_; clear hK K)
      refine q_fn (v := .bool true) (args := #[.agg x.cells.toArray, .agg y.cells.toArray]) rfl _ _ rfl rfl Tryd.func58 (by kernel_rfl) (by kernel_rfl) (fun w' hw' => (hS.out w' hw'.below).mono (fun e w'' ⟨he, hw⟩ => ⟨he, hw'.next hw⟩)) ?_
      (intro K hK; go_simp; refine hK _ ?_; clear hK K)
      refine q_val (v := .bool false) rfl (fun w' hw' => by go_simp) ?_
      (intro K hK; go_simp; refine hK _ ?_; clear hK K)
      refine q_nil ?_
      intro w6 hw6
      have h6 : Hid (Below w.heap.size w w6) := hB.out.trans (hw6.below.mono hB.out.size)
      go_wp2_with fail
      go_roundw
      case rel => exact ⟨i + 1, by go_num, hk1.out, h6.out⟩
      case measure => (have := hk1.out; simp [intOf]; omega)
    · obtain rfl : i = n := by have := hi.out; omega
      have hz : ¬ (i : Int) < (i : Int) := by omega
      clear hlt
      go_wp2_with fail
      go_ret
      exact ⟨rfl, hB.out⟩
end Go.Proofs.YthkdlaohaekilaaDoor.Pcs

namespace Go.Proofs.YthkdlaohaekilaaDoor.PieceMem2
open Go Go.RowKit Go.Proofs.YthkdlaohaekilaaDoor Go.Proofs.YthkdlaohaekilaaDoor.Mem Go.Proofs.YthkdlaohaekilaaDoor.Sha Go.Proofs.YthkdlaohaekilaaDoor.Bytes Go.Proofs.YthkdlaohaekilaaDoor.Append Go.Proofs.YthkdlaohaekilaaDoor.Own Go.Proofs.YthkdlaohaekilaaDoor.TreeMem Go.Proofs.YthkdlaohaekilaaDoor.Prs Go.Proofs.YthkdlaohaekilaaDoor.PieceLay Go.Proofs.YthkdlaohaekilaaDoor.HeadMem Go.Proofs.YthkdlaohaekilaaDoor.PieceMem

/-- The blocks that turn: all below a base, some others, and the two rows'. -/
def XB (B : Nat) (Y : Nat → Prop) (E P : Value) (k : Nat) : Prop := k < B ∨ Y k ∨ some k = E.ownBlock ∨ some k = P.ownBlock
structure Pk (w0 W : World) (R B gp : Nat) (cs : Array Value) (E P : Value) (i j : Nat) (xs : List Value) (ts : List Text) (ps : List Pr) (X : Nat → Prop) : Prop where
  bk : Blk W gp 33 cs
  rs : Blk W R 33 zP
  oe : W.ownsRow B 27 1 E i xs
  op : W.ownsRow B 31 3 P j (ps.flatMap Pr.cells)
  tx : Txa W X xs ts
  pa : Pra W X ps
  be : Below R w0 W
theorem below_kept {S : Nat → Prop} {R : Nat} {w0 W W' : World} (h : Below R w0 W) (hk : Kept S W W') (hS : ∀ k, k < W.heap.size → S k → R ≤ k) (hR : R ≤ W.heap.size) : Below R w0 W' :=
  h.trans ⟨hk.os, hk.tape, hk.output, hk.size, fun k hlt => hk.block k (by omega) (fun hs => by have := hS k (by omega) hs; omega)⟩
section
variable {w0 W W' : World} {R B gp : Nat} {cs : Array Value} {E P : Value} {i j : Nat} {xs : List Value} {ts : List Text} {ps : List Pr} {X X' : Nat → Prop}
theorem Pk.kept {S : Nat → Prop} (h : Pk w0 W R B gp cs E P i j xs ts ps X) (hk : Kept S W W') (hS : ∀ k, k < W.heap.size → S k → R < k ∧ k ≠ gp ∧ some k ≠ E.ownBlock ∧ some k ≠ P.ownBlock ∧ X k) : Pk w0 W' R B gp cs E P i j xs ts ps X :=
  ⟨h.bk.kept hk (fun s => (hS _ h.bk.lt s).2.1 rfl), h.rs.kept hk (fun s => by have := (hS _ h.rs.lt s).1; omega), own_keep h.oe hk (fun k e s => (hS k (h.oe.lt k e).2 s).2.2.1 e.symm), own_keep h.op hk (fun k e s => (hS k (h.op.lt k e).2 s).2.2.2.1 e.symm),
   h.tx.step hk (fun k hl s => (hS k hl s).2.2.2.2) (fun _ _ x => x), h.pa.step hk (fun k hl s => (hS k hl s).2.2.2.2) (fun _ _ x => x), below_kept h.be hk (fun k hl s => by have := (hS k hl s).1; omega) (Nat.le_of_lt h.rs.lt)⟩
theorem Pk.weak (h : Pk w0 W R B gp cs E P i j xs ts ps X) (hX : ∀ k, k < W.heap.size → X' k → X k) : Pk w0 W R B gp cs E P i j xs ts ps X' :=
  ⟨h.bk, h.rs, h.oe, h.op, h.tx.step (S := fun _ => False) (Kept.refl _ _) (fun _ _ s => s.elim) hX, h.pa.step (S := fun _ => False) (Kept.refl _ _) (fun _ _ s => s.elim) hX, h.be⟩
theorem Pk.below (h : Pk w0 W R B gp cs E P i j xs ts ps X) (hb : Below W.heap.size W W') : Pk w0 W' R B gp cs E P i j xs ts ps X := h.kept (S := fun _ => False) (Kept.of_below hb) (fun _ _ s => s.elim)
theorem Pk.alloc (h : Pk w0 W R B gp cs E P i j xs ts ps X) (o : Obj) : Pk w0 (W.alloc o) R B gp cs E P i j xs ts ps X := h.below (Below.heap_below W o)
/-- A store into a field. -/
theorem Pk.set_ (h : Pk w0 W R B gp cs E P i j xs ts ps X) (hRg : R < gp) (hX : X gp) (f : Nat) (u : Value) (cs' : Array Value) (hcs : cs.setIfInBounds f u = cs') : Pk w0 (W.setCell ⟨gp, f, none⟩ u) R B gp cs' E P i j xs ts ps X := by
  have hk : Kept (· = gp) W (W.setCell ⟨gp, f, none⟩ u) := (Kept.refl (· = gp) W).setCell (.inl rfl) _
  refine ⟨by rw [← hcs]; exact h.bk.set_ f u, h.rs.kept hk (by omega), own_keep h.oe hk (fun k e s => ?_), own_keep h.op hk (fun k e s => ?_), h.tx.step hk (fun k _ s => by rw [s]; exact hX) (fun _ _ x => x), h.pa.step hk (fun k _ s => by rw [s]; exact hX) (fun _ _ x => x), below_kept h.be hk (fun k _ s => by rw [s]; omega) (Nat.le_of_lt h.rs.lt)⟩
  · exact blk_own h.bk h.oe (by decide) (by rw [e, s])
  · exact blk_own h.bk h.op (by decide) (by rw [e, s])
end
section
variable {w0 W W2 : World} {R B gp : Nat} {s : ByteArray} {F : Int} {b : Text} {E P E' P' : Value} {i j : Nat} {xs : List Value} {ts : List Text} {ps : List Pr} {Y : Nat → Prop}
/-- A text more. -/
theorem Pk.pushE (h : Pk w0 W R B gp (pieceCells s F b E P).toArray E P i j xs ts ps (XB B Y E P)) (hb : b.length = 32) (hRg : R < gp) (hgB : gp < B) {A : Option Addr} {c k : Nat} {q : Text} (hk : q.length = k) (hc : k ≤ c) (hn : A = none → k = 0 ∧ c = 0) (hr : Reads W 1 A k (cells8 q)) (ha : ∀ a, A = some a → 0 < k → a.block < W.heap.size ∧ ¬ XB B Y E P a.block)
    (hG : Grew (W.alloc (.cells #[.slice A k c] 27)) B 27 1 E i 1 xs [.slice A k c] E' W2) :
    Pk w0 (W2.setCell ⟨gp, 34, none⟩ E') R B gp (pieceCells s F b E' P).toArray E' P (i + 1) j (xs ++ [.slice A k c]) (ts ++ [q]) ps (XB B Y E' P) ∧ Kept (fun k => some k = E.ownBlock ∨ k = gp) W (W2.setCell ⟨gp, 34, none⟩ E') ∧ W.heap.size < W2.heap.size ∧ (∀ k, E'.ownBlock = some k → E.ownBlock = some k ∨ W.heap.size ≤ k) ∧ Blk W2 gp 33 (pieceCells s F b E P).toArray := by
  have K1 : Kept (fun k => some k = E.ownBlock) W W2 := ((Kept.refl (fun k => some k = E.ownBlock) W).alloc _).trans (grew_kept hG) (fun _ _ x => x)
  have K2 : Kept (fun k => some k = E.ownBlock ∨ k = gp) W (W2.setCell ⟨gp, 34, none⟩ E') := (K1.mono (fun _ _ x => .inl x)).setCell (.inl (.inr rfl)) _
  have hsz : W.heap.size < W2.heap.size := by have := hG.grow.size; simp at this; omega
  have hge : some gp ≠ E.ownBlock := blk_own h.bk h.oe (by decide)
  have hbk2 : Blk W2 gp 33 (pieceCells s F b E P).toArray := h.bk.kept K1 hge
  have hge' : some gp ≠ E'.ownBlock := blk_own hbk2 hG.own (by decide)
  have hnew : ∀ k, E'.ownBlock = some k → E.ownBlock = some k ∨ W.heap.size ≤ k := fun k e => by
    rcases grew_new hG k e with h1 | h1
    · exact .inl h1
    · simp at h1; exact .inr (by omega)
  have hSX : ∀ k, k < W.heap.size → (some k = E.ownBlock ∨ k = gp) → XB B Y E P k := fun k _ hs => by
    rcases hs with hs | hs
    · exact .inr (.inr (.inl hs))
    · exact .inl (by omega)
  have hXX : ∀ k, k < W.heap.size → XB B Y E' P k → XB B Y E P k := fun k hl hx => by
    rcases hx with hx | hx | hx | hx
    · exact .inl hx
    · exact .inr (.inl hx)
    · rcases hnew k hx.symm with h1 | h1
      · exact .inr (.inr (.inl h1.symm))
      · omega
    · exact .inr (.inr (.inr hx))
  have hsz3 : W2.heap.size = (W2.setCell ⟨gp, 34, none⟩ E').heap.size := by simp
  refine ⟨⟨?_, h.rs.kept K2 ?_, ?_, ?_, ?_, h.pa.step K2 hSX hXX, ?_⟩, K2, hsz, hnew, hbk2⟩
  · have := hbk2.set_ 34 E'
    rw [pc_setE hb] at this
    exact this
  · rintro (hs | hs)
    · exact blk_own h.rs h.oe (by decide) hs
    · omega
  · exact own_keep hG.own ((Kept.refl (· = gp) W2).setCell (.inl rfl) _) (fun k e hs => hge' (by rw [e, hs]))
  · refine own_keep h.op K2 (fun k e hs => ?_)
    rcases hs with hs | hs
    · exact own_own h.op h.oe (by decide) k e hs.symm
    · exact blk_own h.bk h.op (by decide) (by rw [e, hs])
  · refine (h.tx.step K2 hSX hXX).push hk hc hn (hr.kept0 K2 (fun h0 b o e hs => (ha _ e (by omega)).2 (hSX b (ha _ e (by omega)).1 hs))) (fun a e h0 => ⟨by have := (ha a e h0).1; rw [← hsz3]; omega, fun hx => (ha a e h0).2 (hXX _ (ha a e h0).1 hx)⟩)
  · refine below_kept h.be K2 (fun k hl hs => ?_) (Nat.le_of_lt h.rs.lt)
    rcases hs with hs | hs
    · have := (h.oe.lt k hs.symm).1; omega
    · omega
/-- A proof more. -/
theorem Pk.pushP (h : Pk w0 W R B gp (pieceCells s F b E P).toArray E P i j xs ts ps (XB B Y E P)) (hb : b.length = 32) (hRg : R < gp) (hgB : gp < B) (p : Pr) (h1 : RdD W p.A p.n p.ds) (h2 : p.n ≤ p.c) (ha : ∀ a, p.A = some a → a.block < W.heap.size ∧ ¬ XB B Y E P a.block)
    (hG : Grew (W.alloc (.cells p.cells.toArray 31)) B 31 3 P j 1 (ps.flatMap Pr.cells) p.cells P' W2) :
    Pk w0 (W2.setCell ⟨gp, 35, none⟩ P') R B gp (pieceCells s F b E P').toArray E P' i (j + 1) xs ts (ps ++ [p]) (XB B Y E P') ∧ Kept (fun k => some k = P.ownBlock ∨ k = gp) W (W2.setCell ⟨gp, 35, none⟩ P') ∧ W.heap.size < W2.heap.size ∧ (∀ k, P'.ownBlock = some k → P.ownBlock = some k ∨ W.heap.size ≤ k) ∧ Blk W2 gp 33 (pieceCells s F b E P).toArray := by
  have K1 : Kept (fun k => some k = P.ownBlock) W W2 := ((Kept.refl (fun k => some k = P.ownBlock) W).alloc _).trans (grew_kept hG) (fun _ _ x => x)
  have K2 : Kept (fun k => some k = P.ownBlock ∨ k = gp) W (W2.setCell ⟨gp, 35, none⟩ P') := (K1.mono (fun _ _ x => .inl x)).setCell (.inl (.inr rfl)) _
  have hsz : W.heap.size < W2.heap.size := by have := hG.grow.size; simp at this; omega
  have hge : some gp ≠ P.ownBlock := blk_own h.bk h.op (by decide)
  have hbk2 : Blk W2 gp 33 (pieceCells s F b E P).toArray := h.bk.kept K1 hge
  have hge' : some gp ≠ P'.ownBlock := blk_own hbk2 hG.own (by decide)
  have hnew : ∀ k, P'.ownBlock = some k → P.ownBlock = some k ∨ W.heap.size ≤ k := fun k e => by
    rcases grew_new hG k e with h1 | h1
    · exact .inl h1
    · simp at h1; exact .inr (by omega)
  have hSX : ∀ k, k < W.heap.size → (some k = P.ownBlock ∨ k = gp) → XB B Y E P k := fun k _ hs => by
    rcases hs with hs | hs
    · exact .inr (.inr (.inr hs))
    · exact .inl (by omega)
  have hXX : ∀ k, k < W.heap.size → XB B Y E P' k → XB B Y E P k := fun k hl hx => by
    rcases hx with hx | hx | hx | hx
    · exact .inl hx
    · exact .inr (.inl hx)
    · exact .inr (.inr (.inl hx))
    · rcases hnew k hx.symm with h1 | h1
      · exact .inr (.inr (.inr h1.symm))
      · omega
  have hsz3 : W2.heap.size = (W2.setCell ⟨gp, 35, none⟩ P').heap.size := by simp
  refine ⟨⟨?_, h.rs.kept K2 ?_, ?_, ?_, h.tx.step K2 hSX hXX, ?_, ?_⟩, K2, hsz, hnew, hbk2⟩
  · have := hbk2.set_ 35 P'
    rw [pc_setP hb] at this
    exact this
  · rintro (hs | hs)
    · exact blk_own h.rs h.op (by decide) hs
    · omega
  · refine own_keep h.oe K2 (fun k e hs => ?_)
    rcases hs with hs | hs
    · exact own_own h.oe h.op (by decide) k e hs.symm
    · exact blk_own h.bk h.oe (by decide) (by rw [e, hs])
  · rw [flat_snoc]
    exact own_keep hG.own ((Kept.refl (· = gp) W2).setCell (.inl rfl) _) (fun k e hs => hge' (by rw [e, hs]))
  · exact (h.pa.step K2 hSX hXX).push ⟨h1.1, h1.2.1, h1.2.2.kept K2 (fun b o e hs => (ha _ e).2 (hSX b (ha _ e).1 hs))⟩ h2 (fun a e => ⟨by have := (ha a e).1; rw [← hsz3]; omega, fun hx => (ha a e).2 (hXX _ (ha a e).1 hx)⟩)
  · refine below_kept h.be K2 (fun k hl hs => ?_) (Nat.le_of_lt h.rs.lt)
    rcases hs with hs | hs
    · have := (h.op.lt k hs.symm).1; omega
    · omega
end
section
variable {w0 W W' : World} {R B gp g : Nat} {cs : Array Value} {E P : Value} {i j : Nat} {xs : List Value} {ts : List Text} {ps : List Pr} {Y : Nat → Prop}
/-- All blocks that turn lie in the world. -/
theorem Pk.lt (h : Pk w0 W R B gp cs E P i j xs ts ps (XB B Y E P)) (hB : B ≤ W.heap.size) (hY : ∀ k, Y k → k < W.heap.size) : ∀ k, XB B Y E P k → k < W.heap.size := fun k hx => by
  rcases hx with hx | hx | hx | hx
  · omega
  · exact hY k hx
  · exact (h.oe.lt k hx.symm).2
  · exact (h.op.lt k hx.symm).2
end
end Go.Proofs.YthkdlaohaekilaaDoor.PieceMem2

namespace Go.Proofs.YthkdlaohaekilaaDoor.CutM
open Go Go.RowKit Go.Proofs.YthkdlaohaekilaaDoor Go.Proofs.YthkdlaohaekilaaDoor.Mem Go.Proofs.YthkdlaohaekilaaDoor.Sha Go.Proofs.YthkdlaohaekilaaDoor.Bytes Go.Proofs.YthkdlaohaekilaaDoor.Append Go.Proofs.YthkdlaohaekilaaDoor.Own Go.Proofs.YthkdlaohaekilaaDoor.TreeMem Go.Proofs.YthkdlaohaekilaaDoor.HeadMem Go.Proofs.YthkdlaohaekilaaDoor.Prs Go.Proofs.YthkdlaohaekilaaDoor.PieceLay Go.Proofs.YthkdlaohaekilaaDoor.PieceMem Go.Proofs.YthkdlaohaekilaaDoor.PieceMem2 Go.Proofs.YthkdlaohaekilaaDoor.SamePiece Go.Proofs.YthkdlaohaekilaaDoor.Pcs

/-- Copies of texts: each a row of its own. -/
def Tov (w : World) (B : Nat) (xs : List Value) (ts : List Text) : Prop := xs.length = ts.length ∧ ∀ (i : Nat) (v : Value) (q : Text), xs[i]? = some v → ts[i]? = some q → w.ownsRow B 5 1 v q.length (cells8 q)
theorem Tov.nil_ (w : World) (B : Nat) : Tov w B [] [] := ⟨rfl, fun i v q h => by cases h⟩
theorem Tov.keep {w w' : World} {B : Nat} {xs : List Value} {ts : List Text} (h : Tov w B xs ts) (hk : ∀ v n ys, w.ownsRow B 5 1 v n ys → w'.ownsRow B 5 1 v n ys) : Tov w' B xs ts := ⟨h.1, fun i v q h1 h2 => hk _ _ _ (h.2 i v q h1 h2)⟩
theorem last_at {α : Type} {l : List α} {a b : α} {i : Nat} (h : (l ++ [a])[i]? = some b) : (i < l.length ∧ l[i]? = some b) ∨ (i = l.length ∧ a = b) := by
  by_cases hi : i < l.length
  · rw [List.getElem?_append_left hi] at h
    exact .inl ⟨hi, h⟩
  · have hl := (List.getElem?_eq_some_iff.1 h).1
    rw [List.length_append, List.length_singleton] at hl
    obtain rfl : i = l.length := by omega
    rw [List.getElem?_append_right (Nat.le_refl _), Nat.sub_self] at h
    exact .inr ⟨rfl, by simpa using h⟩
theorem Tov.push {w : World} {B : Nat} {xs : List Value} {ts : List Text} (h : Tov w B xs ts) {v : Value} {q : Text} {k : Nat} (hk : q.length = k) (ho : w.ownsRow B 5 1 v k (cells8 q)) : Tov w B (xs ++ [v]) (ts ++ [q]) := ⟨by simp [h.1], fun i v' q' e1 e2 => by
  rcases last_at e1 with ⟨l1, e1⟩ | ⟨l1, rfl⟩
  · rcases last_at e2 with ⟨l2, e2⟩ | ⟨l2, rfl⟩
    · exact h.2 i v' q' e1 e2
    · have := h.1; omega
  · rcases last_at e2 with ⟨l2, e2⟩ | ⟨l2, rfl⟩
    · have := h.1; omega
    · rw [hk]; exact ho⟩
theorem Tov.pieces {w : World} {B B' : Nat} {v : Value} {xs : List Value} {ts : List Text} {n : Nat} (hO : w.ownsRow B' 27 1 v n xs) (hx : Tov w B xs ts) : ∃ A c, v = .slice A n c ∧ n ≤ c ∧ (A = none → n = 0 ∧ c = 0) ∧ Pieces w A ts ∧ ts.length = n := by
  obtain ⟨A, c, e, hc, -, hnil, hr, -⟩ := Own.reads hO
  have hl : ts.length = n := by have := hO.1; have := hx.1; omega
  refine ⟨A, c, e, hc, hnil, fun h0 => ?_, hl⟩
  obtain ⟨b, o, e1, hb, hcs⟩ := hr.at_ (by omega)
  refine ⟨b, o, e1, hb, fun i q hq => ?_⟩
  have hi : i < xs.length := by have := (List.getElem?_eq_some_iff.1 hq).1; have := hx.1; omega
  obtain ⟨A', c', a1, a2, -, a3, a4, -⟩ := Own.reads (hx.2 i xs[i] q (List.getElem?_eq_getElem hi) hq)
  exact ⟨A', c', hcs i _ (by rw [List.getElem?_eq_getElem hi, a1]), a2, a4, a3⟩

/-! ### The ways, cut out of one row -/
/-- Where a way begins in the row of all. -/
def at3 (A : Option Addr) (l m : Nat) : Option Addr := if m = l then A else A.map (·.add (l * 32))
theorem run_midD {A : Option Addr} {n c l h : Nat} (h1 : l ≤ h) (h2 : h ≤ c) (x y z : Int) (hx : x = l) (hy : y = h) (hz : z = h) (w : World) :
    (Instr.sliceAt 29 (.slice A n c) (some (.int .i64 x)) (some (.int .i64 y)) (some (.int .i64 z))).run Tryd.prog w = .ok (.slice (at3 A l h) (h - l) (h - l)) w := by
  subst hx hy hz
  rw [run_sliceAt_slice w _ _ _ _ _ undD, run_slice_lhm w _ A n c undD .i64 .i64 .i64 (l : Int) (h : Int) (h : Int) (by omega) (by omega) (by omega) (by omega), size32s]
  simp [Result.andThen, sliced, at3]
theorem rd_part {w : World} {A : Option Addr} {t : Nat} {dl : List Text} (h : RdD w A t dl) {l k : Nat} (hk : l + k ≤ t) : RdD w (at3 A l (l + k)) k ((dl.drop l).take k) := by
  have hl := h.1
  refine ⟨by rw [List.length_take, List.length_drop]; omega, (h.2.1.drop_ l).take_ k, ?_⟩
  refine ⟨by rw [flatMap_len _ ((h.2.1.drop_ l).take_ k), List.length_take, List.length_drop]; congr 1; omega, fun h0 => ?_⟩
  obtain ⟨b, o, e, hb, hcs⟩ := h.2.2.2 (by omega)
  subst e
  refine ⟨b, o + l * 32, by unfold at3; rw [if_neg (by omega), Option.map_some, add_at], hb, fun j u hu => ?_⟩
  rw [Nat.add_assoc]
  apply hcs
  rw [← flatMap_take _ k (h.2.1.drop_ l), ← flatMap_drop dl l h.2.1, List.getElem?_take] at hu
  by_cases hj : j < k * 32
  · rw [if_pos hj, List.getElem?_drop] at hu
    exact hu
  · rw [if_neg hj] at hu
    cases hu
def sumN (ps : List Pr) : Nat := (ps.map Pr.n).sum
theorem sumN_snoc (ps : List Pr) (p : Pr) : sumN (ps ++ [p]) = sumN ps + p.n := by simp [sumN]
theorem sumN_cons (p : Pr) (ps : List Pr) : sumN (p :: ps) = p.n + sumN ps := by simp [sumN]
theorem sumN_take (ps : List Pr) (i : Nat) : sumN (ps.take i) ≤ sumN ps := by
  have := congrArg (fun l => (l.map Pr.n).sum) (List.take_append_drop i ps)
  simp only [List.map_append, List.sum_append] at this
  unfold sumN
  omega
/-- The proofs with their ways cut out of one row. -/
def cutPs (A : Option Addr) : Nat → List Pr → List Pr
  | _, [] => []
  | l, p :: ps => ⟨p.x, p.y, p.ds, at3 A l (l + p.n), p.n, p.n⟩ :: cutPs A (l + p.n) ps
theorem cutPs_snoc (A : Option Addr) (p : Pr) : ∀ (ps : List Pr) (l : Nat), cutPs A l (ps ++ [p]) = cutPs A l ps ++ [⟨p.x, p.y, p.ds, at3 A (l + sumN ps) (l + sumN ps + p.n), p.n, p.n⟩]
  | [], l => by simp [cutPs, sumN]
  | q :: ps, l => by
    rw [List.cons_append, cutPs, cutPs_snoc A p ps, cutPs, List.cons_append, sumN_cons]
    simp only [Nat.add_assoc]
theorem cutPs_alike (A : Option Addr) : ∀ (ps : List Pr) (l : Nat), SamePiece.Alike (cutPs A l ps) ps
  | [], _ => rfl
  | p :: ps, l => by
    have := cutPs_alike A ps (l + p.n)
    unfold SamePiece.Alike at this ⊢
    simp only [cutPs, List.map_cons, this]
theorem cutPs_rd {w : World} {A : Option Addr} {t : Nat} {dl : List Text} (h : RdD w A t dl) : ∀ (ps : List Pr) (l : Nat), (∀ p ∈ ps, p.ds.length = p.n) → dl.drop l = ps.flatMap Pr.ds → l + sumN ps = t → ∀ p ∈ cutPs A l ps, RdD w p.A p.n p.ds ∧ p.n ≤ p.c
  | [], _, _, _, _ => fun p hp => by cases hp
  | q :: ps, l, hl, hd, ht => fun p hp => by
    have hq := hl q (by simp)
    rw [sumN_cons] at ht
    rw [List.flatMap_cons] at hd
    rcases List.mem_cons.1 hp with rfl | hp
    · refine ⟨?_, Nat.le_refl _⟩
      have := rd_part h (l := l) (k := q.n) (by omega)
      rw [hd, List.take_append_of_le_length (by omega), List.take_of_length_le (by omega)] at this
      exact this
    · refine cutPs_rd h ps (l + q.n) (fun p hp => hl p (by simp [hp])) ?_ (by omega) p hp
      rw [← List.drop_drop, hd, List.drop_append_of_le_length (by omega), List.drop_of_length_le (by omega), List.nil_append]

/-! ### What stays -/
/-- The blocks whose turning does not matter: those below a base, and those that hold pieces. -/
def PX (w : World) (B k : Nat) : Prop := k < B ∨ ∃ cs, Blk w k 33 cs
/-- It stays whatever is written there. -/
def Firm (w : World) (B : Nat) (p : Pc) : Prop := ∀ w', Kept (PX w B) w w' → p.Ok w'
theorem Firm.ok {w : World} {B : Nat} {p : Pc} (h : Firm w B p) : p.Ok w := h w (Kept.refl _ _)
theorem Firm.kept {w w' : World} {B : Nat} {p : Pc} (h : Firm w B p) (hk : Kept (PX w B) w w') : Firm w' B p := fun w2 h2 => h w2 ⟨h2.os.trans hk.os, h2.tape.trans hk.tape, h2.output.trans hk.output, Nat.le_trans hk.size h2.size, fun k hl hn => by
  have e := hk.block k hl hn
  refine (h2.block k (Nat.lt_of_lt_of_le hl hk.size) (fun s => hn ?_)).trans e
  rcases s with s | ⟨cs, s⟩
  · exact .inl s
  · exact .inr ⟨cs, by unfold Blk at s ⊢; rw [← e]; exact s⟩⟩
theorem Firm.mono {w : World} {B B' : Nat} {p : Pc} (h : Firm w B p) (hB : B' ≤ B) : Firm w B' p := fun w' hk => h w' (hk.mono (fun k _ s => s.elim (fun s => .inl (by omega)) .inr))
theorem Firm.below {w w' : World} {B : Nat} {p : Pc} (h : Firm w B p) (hb : Below w.heap.size w w') : Firm w' B p := h.kept (Kept.of_below hb)
/-- The blocks of a piece that is being cut. -/
structure Ck (w0 W : World) (R B gp : Nat) (E P Wy : Value) (i j t : Nat) (xs : List Value) (ts : List Text) (pc : List Value) (dl : List Text) : Prop where
  bk : Blk W gp 33 (pieceCells ByteArray.empty 0 (List.replicate 32 0) E P).toArray
  rs : Blk W R 33 zP
  oe : W.ownsRow B 27 1 E i xs
  op : W.ownsRow B 31 3 P j pc
  ow : W.ownsRow B 23 32 Wy t (dl.flatMap cells8)
  tx : Tov W B xs ts
  be : Below R w0 W
section
variable {w0 W W' : World} {R B gp : Nat} {E P Wy : Value} {i j t : Nat} {xs : List Value} {ts : List Text} {pc : List Value} {dl : List Text}
theorem Ck.below (h : Ck w0 W R B gp E P Wy i j t xs ts pc dl) (hb : Below W.heap.size W W') : Ck w0 W' R B gp E P Wy i j t xs ts pc dl :=
  have K : Kept (fun _ => False) W W' := Kept.of_below hb
  ⟨h.bk.kept K (fun x => x), h.rs.kept K (fun x => x), own_keep h.oe K (fun _ _ x => x), own_keep h.op K (fun _ _ x => x), own_keep h.ow K (fun _ _ x => x), h.tx.keep (fun _ _ _ o => own_keep o K (fun _ _ x => x)), below_kept h.be K (fun _ _ x => x.elim) (Nat.le_of_lt h.rs.lt)⟩
/-- The ways have grown in place. -/
theorem Ck.pushW {g t' : Nat} {dl' : List Text} {Wy' : Value} (h : Ck w0 W R B gp E P Wy i j t xs ts pc dl) (hg : Wy.ownBlock = some g) (hRB : R < B) (ho : W'.ownsRow B 23 32 Wy' t' (dl'.flatMap cells8)) (hgr : W.grownBy W' (some g)) : Ck w0 W' R B gp E P Wy' i j t' xs ts pc dl' := by
  have K : Kept (fun k => some k = Wy.ownBlock) W W' := ⟨hgr.os, hgr.tape, hgr.output, hgr.size, fun k hk hne => hgr.block k hk (by rw [← hg]; exact hne)⟩
  refine ⟨h.bk.kept K (blk_own h.bk h.ow (by decide)), h.rs.kept K (blk_own h.rs h.ow (by decide)), own_keep h.oe K (fun k e s => own_own h.oe h.ow (by decide) k e s.symm), own_keep h.op K (fun k e s => own_own h.op h.ow (by decide) k e s.symm), ho, h.tx.keep (fun v n ys o => own_keep o K (fun k e s => own_own o h.ow (by decide) k e s.symm)), below_kept h.be K (fun k _ s => ?_) (Nat.le_of_lt h.rs.lt)⟩
  have := (h.ow.lt k s.symm).1
  omega
end
section
variable {w0 W W1 W2 : World} {R B gp : Nat} {E P Wy E' P' : Value} {i j t : Nat} {xs : List Value} {ts : List Text} {pc : List Value} {dl : List Text}
/-- A copy of an event more. -/
theorem Ck.pushE (h : Ck w0 W R B gp E P Wy i j t xs ts pc dl) (hRg : R < gp) (hgB : gp < B) {v : Value} {q : Text} {k : Nat} (hk : q.length = k) (hW1 : Below W.heap.size W W1) (hq : W1.ownsRow B 5 1 v k (cells8 q))
    (hG : Grew W1 B 27 1 E i 1 xs [v] E' W2) :
    Ck w0 (W2.setCell ⟨gp, 34, none⟩ E') R B gp E' P Wy (i + 1) j t (xs ++ [v]) (ts ++ [q]) pc dl ∧ Blk W2 gp 33 (pieceCells ByteArray.empty 0 (List.replicate 32 0) E P).toArray := by
  have h1 := h.below hW1
  have K1 : Kept (fun k => some k = E.ownBlock) W1 W2 := grew_kept hG
  have K2 : Kept (fun k => some k = E.ownBlock ∨ k = gp) W1 (W2.setCell ⟨gp, 34, none⟩ E') := (K1.mono (fun _ _ x => .inl x)).setCell (.inl (.inr rfl)) _
  have K3 : Kept (fun k => k = gp) W2 (W2.setCell ⟨gp, 34, none⟩ E') := (Kept.refl (fun k => k = gp) W2).setCell (.inl rfl) _
  have hbk2 := h1.bk.kept K1 (blk_own h1.bk h1.oe (by decide))
  have hno : ∀ {e : TypeId} {size n : Nat} {v : Value} {ys : List Value}, W1.ownsRow B e size v n ys → e ≠ 27 → e ≠ 33 → (W2.setCell ⟨gp, 34, none⟩ E').ownsRow B e size v n ys := fun o n1 n2 => own_keep o K2 (fun k e s => s.elim (fun s => own_own o h1.oe n1 k e s.symm) (fun s => blk_own h1.bk o (fun x => n2 x.symm) (by rw [e, s])))
  refine ⟨⟨?_, h1.rs.kept K2 (fun s => s.elim (blk_own h1.rs h1.oe (by decide)) (fun s => by omega)), own_keep hG.own K3 (fun k e s => blk_own hbk2 hG.own (by decide) (by rw [e, s])), hno h1.op (by decide) (by decide), hno h1.ow (by decide) (by decide), (h1.tx.push hk hq).keep (fun v n ys o => hno o (by decide) (by decide)), below_kept h1.be K2 (fun k _ s => ?_) (Nat.le_of_lt h1.rs.lt)⟩, hbk2⟩
  · have := hbk2.set_ 34 E'
    rwa [pc_setE rfl] at this
  · rcases s with s | s
    · have := (h1.oe.lt k s.symm).1; omega
    · omega
/-- A copy of a proof more. -/
theorem Ck.pushP (h : Ck w0 W R B gp E P Wy i j t xs ts pc dl) (hRg : R < gp) (hgB : gp < B) {news : List Value} (hW1 : Below W.heap.size W W1)
    (hG : Grew W1 B 31 3 P j 1 pc news P' W2) :
    Ck w0 (W2.setCell ⟨gp, 35, none⟩ P') R B gp E P' Wy i (j + 1) t xs ts (pc ++ news) dl ∧ Blk W2 gp 33 (pieceCells ByteArray.empty 0 (List.replicate 32 0) E P).toArray := by
  have h1 := h.below hW1
  have K1 : Kept (fun k => some k = P.ownBlock) W1 W2 := grew_kept hG
  have K2 : Kept (fun k => some k = P.ownBlock ∨ k = gp) W1 (W2.setCell ⟨gp, 35, none⟩ P') := (K1.mono (fun _ _ x => .inl x)).setCell (.inl (.inr rfl)) _
  have K3 : Kept (fun k => k = gp) W2 (W2.setCell ⟨gp, 35, none⟩ P') := (Kept.refl (fun k => k = gp) W2).setCell (.inl rfl) _
  have hbk2 := h1.bk.kept K1 (blk_own h1.bk h1.op (by decide))
  have hno : ∀ {e : TypeId} {size n : Nat} {v : Value} {ys : List Value}, W1.ownsRow B e size v n ys → e ≠ 31 → e ≠ 33 → (W2.setCell ⟨gp, 35, none⟩ P').ownsRow B e size v n ys := fun o n1 n2 => own_keep o K2 (fun k e s => s.elim (fun s => own_own o h1.op n1 k e s.symm) (fun s => blk_own h1.bk o (fun x => n2 x.symm) (by rw [e, s])))
  refine ⟨⟨?_, h1.rs.kept K2 (fun s => s.elim (blk_own h1.rs h1.op (by decide)) (fun s => by omega)), hno h1.oe (by decide) (by decide), own_keep hG.own K3 (fun k e s => blk_own hbk2 hG.own (by decide) (by rw [e, s])), hno h1.ow (by decide) (by decide), h1.tx.keep (fun v n ys o => hno o (by decide) (by decide)), below_kept h1.be K2 (fun k _ s => ?_) (Nat.le_of_lt h1.rs.lt)⟩, hbk2⟩
  · have := hbk2.set_ 35 P'
    rwa [pc_setP rfl] at this
  · rcases s with s | s
    · have := (h1.op.lt k s.symm).1; omega
    · omega
end
theorem all_digs : ∀ ps : List Pr, (∀ p ∈ ps, Digs p.ds ∧ p.ds.length = p.n) → (ps.flatMap Pr.ds).length = sumN ps ∧ Digs (ps.flatMap Pr.ds)
  | [], _ => ⟨rfl, fun d hd => by cases hd⟩
  | p :: ps, hd => by
    obtain ⟨i1, i2⟩ := all_digs ps (fun p hp => hd p (by simp [hp]))
    obtain ⟨d1, d2⟩ := hd p (by simp)
    refine ⟨by rw [List.flatMap_cons, List.length_append, i1, d2, sumN_cons], fun d hdm => ?_⟩
    rw [List.flatMap_cons] at hdm
    rcases List.mem_append.1 hdm with hdm | hdm
    · exact d1 d hdm
    · exact i2 d hdm
/-- A piece whose rows are owned stays, whatever is written below. -/
theorem firm_of {w0 W : World} {R B gp : Nat} {AE AP Aw : Option Addr} {n cE cP cw : Nat} {xs : List Value} {es : List Text} {ps : List Pr} (h : Ck w0 W R B gp (.slice AE n cE) (.slice AP n cP) (.slice Aw (sumN ps) cw) n n (sumN ps) xs es ((cutPs Aw 0 ps).flatMap Pr.cells) (ps.flatMap Pr.ds)) (hd : ∀ p ∈ ps, Digs p.ds ∧ p.ds.length = p.n) (hR : R < B) :
    ∀ w', Kept (· = R) W w' → Firm w' B ⟨ByteArray.empty, 0, List.replicate 32 0, es, cutPs Aw 0 ps, AE, n, cE, AP, n, cP⟩ := fun w' hk w2 hk2 => by
  have up : ∀ {e : TypeId} {size m : Nat} {v : Value} {ys : List Value}, 33 ≠ e → W.ownsRow B e size v m ys → w2.ownsRow B e size v m ys := fun hne o => by
    have o1 := own_keep o hk (fun k e (s : k = R) => by have := (o.lt k e).1; omega)
    exact own_keep o1 hk2 (fun k e s => s.elim (fun s => by have := (o.lt k e).1; omega) (fun ⟨cs, hb⟩ => blk_own hb o1 hne e.symm))
  obtain ⟨A1, c1, e1, -, -, hp, hl⟩ := Tov.pieces (up (by decide) h.oe) (h.tx.keep (fun v n ys o => up (by decide) o))
  injection e1 with e1 _ _
  subst e1
  obtain ⟨A2, c2, e2, -, -, -, hr2, -⟩ := Own.reads (up (by decide) h.op)
  injection e2 with e2 _ _
  subst e2
  obtain ⟨A3, c3, e3, -, -, -, hr3, -⟩ := Own.reads (up (by decide) h.ow)
  injection e3 with e3 _ _
  subst e3
  have hpl : (cutPs Aw 0 ps).length = n := by have := h.op.1; rw [flat_len] at this; omega
  have hdl := all_digs ps hd
  refine ⟨rfl, hl, hpl, hp, ⟨?_, fun p hp' => ?_⟩⟩
  · show Reads w2 3 AP (cutPs Aw 0 ps).length _
    rw [hpl]
    exact hr2
  · exact cutPs_rd ⟨hdl.1, hdl.2, hr3⟩ ps 0 (fun p hp => (hd p hp).2) (by rw [List.drop_zero]) (by omega) p hp'
end Go.Proofs.YthkdlaohaekilaaDoor.CutM

namespace Go.Proofs.YthkdlaohaekilaaDoor.HandM
open Go Go.RowKit Go.Proofs.YthkdlaohaekilaaDoor Go.Proofs.YthkdlaohaekilaaDoor.Mem Go.Proofs.YthkdlaohaekilaaDoor.Sha Go.Proofs.YthkdlaohaekilaaDoor.Bytes Go.Proofs.YthkdlaohaekilaaDoor.Append Go.Proofs.YthkdlaohaekilaaDoor.Own Go.Proofs.YthkdlaohaekilaaDoor.TreeMem Go.Proofs.YthkdlaohaekilaaDoor.Book Go.Proofs.YthkdlaohaekilaaDoor.Book8 Go.Proofs.YthkdlaohaekilaaDoor.Law17a Go.Proofs.YthkdlaohaekilaaDoor.Prs Go.Proofs.YthkdlaohaekilaaDoor.PieceLay Go.Proofs.YthkdlaohaekilaaDoor.PieceMem Go.Proofs.YthkdlaohaekilaaDoor.PieceMem2

/-- A given as cells: the piece, the lists of bytes, the ways. -/
def hc (E P V Q : Value) : List Value := pieceCells ByteArray.empty 0 (List.replicate 32 0) E P ++ [V, Q]
def zG : Array Value := (hc (.slice none 0 0) (.slice none 0 0) (.slice none 0 0) (.slice none 0 0)).toArray
section
variable {E P V Q u : Value}
theorem hc_E : (hc E P V Q).toArray[34]? = some E := rfl
theorem hc_P : (hc E P V Q).toArray[35]? = some P := rfl
theorem hc_V : (hc E P V Q).toArray[36]? = some V := rfl
theorem hc_Q : (hc E P V Q).toArray[37]? = some Q := rfl
theorem hc_setE : (hc E P V Q).toArray.setIfInBounds 34 u = (hc u P V Q).toArray := by rw [List.setIfInBounds_toArray]; rfl
theorem hc_setP : (hc E P V Q).toArray.setIfInBounds 35 u = (hc E u V Q).toArray := by rw [List.setIfInBounds_toArray]; rfl
theorem hc_setV : (hc E P V Q).toArray.setIfInBounds 36 u = (hc E P u Q).toArray := by rw [List.setIfInBounds_toArray]; rfl
theorem hc_setQ : (hc E P V Q).toArray.setIfInBounds 37 u = (hc E P V u).toArray := by rw [List.setIfInBounds_toArray]; rfl
end
theorem sizeG : (Tryd.prog.info? 36).map (·.size) = some 38 := by kernel_rfl
theorem hc_info {E P V Q : Value} : (Tryd.prog.info? 36).map (·.size) = some (hc E P V Q).toArray.size := sizeG
theorem hc_one {E P V Q : Value} (hE : E.oneCell' = true) (hP : P.oneCell' = true) (hV : V.oneCell' = true) (hQ : Q.oneCell' = true) : ((hc E P V Q).toArray.all fun v => v.oneCell') = true := by
  rw [List.all_toArray]
  refine List.all_eq_true.2 fun v hv => ?_
  unfold hc at hv
  rcases List.mem_append.1 hv with hv | hv
  · have := pc_one (s := ByteArray.empty) (F := 0) (b := List.replicate 32 0) hE hP
    rw [List.all_toArray] at this
    exact List.all_eq_true.1 this v hv
  · simp only [List.mem_cons, List.not_mem_nil, or_false] at hv
    rcases hv with rfl | rfl
    · exact hV
    · exact hQ

/-- The blocks of the copies. -/
def Roo (w : World) (B : Nat) (gs : List Nat) (es : List Text) : Prop := gs.length = es.length ∧ ∀ (i g : Nat) (q : Text), gs[i]? = some g → es[i]? = some q → RoomB w g q 165 ∧ B ≤ g
def Rod (w : World) (B : Nat) (hs : List Nat) (ps : List Pr) : Prop := hs.length = ps.length ∧ ∀ (i g : Nat) (p : Pr), hs[i]? = some g → ps[i]? = some p → RowD w g (p.ds ++ List.replicate 80 mk0) ∧ B ≤ g
def xsE (gs : List Nat) (es : List Text) : List Value := List.zipWith (fun g q => Value.slice (some ⟨g, 0, none⟩) q.length (q.length + 80)) gs es
def xsV (gs : List Nat) (es : List Text) : List Value := List.zipWith (fun g q => Value.slice (some ⟨g, 0, none⟩) (q.length + 80) (q.length + 80)) gs es
def xsQ (hs : List Nat) (ps : List Pr) : List Value := List.zipWith (fun g p => Value.slice (some ⟨g, 0, none⟩) (p.n + 80) (p.n + 80)) hs ps
def psH (hs : List Nat) (ps : List Pr) : List Pr := List.zipWith (fun g p => ⟨p.x, p.y, p.ds, some ⟨g, 0, none⟩, p.n, p.n + 80⟩) hs ps
theorem Roo.nil_ (w : World) (B : Nat) : Roo w B [] [] := ⟨rfl, fun i g q h => by cases h⟩
theorem Rod.nil_ (w : World) (B : Nat) : Rod w B [] [] := ⟨rfl, fun i g q h => by cases h⟩
theorem Roo.keep {w w' : World} {B : Nat} {gs : List Nat} {es : List Text} (h : Roo w B gs es) (hk : ∀ g cs, Blk w g 5 cs → Blk w' g 5 cs) : Roo w' B gs es := ⟨h.1, fun i g q h1 h2 => by
  obtain ⟨⟨cs, a1, a2, a3⟩, a4⟩ := h.2 i g q h1 h2
  exact ⟨⟨cs, hk g cs a1, a2, a3⟩, a4⟩⟩
theorem Rod.keep {w w' : World} {B : Nat} {hs : List Nat} {ps : List Pr} (h : Rod w B hs ps) (hk : ∀ g cs, Blk w g 23 cs → Blk w' g 23 cs) : Rod w' B hs ps := ⟨h.1, fun i g p h1 h2 => by
  obtain ⟨a1, a2⟩ := h.2 i g p h1 h2
  exact ⟨hk g _ a1, a2⟩⟩
theorem last_at {α : Type} {l : List α} {a b : α} {i : Nat} (h : (l ++ [a])[i]? = some b) : (i < l.length ∧ l[i]? = some b) ∨ (i = l.length ∧ a = b) := by
  rcases Nat.lt_or_ge i l.length with hi | hi
  · rw [List.getElem?_append_left hi] at h
    exact .inl ⟨hi, h⟩
  · rw [List.getElem?_append_right hi] at h
    have hi0 : i = l.length := by
      have := (List.getElem?_eq_some_iff.1 h).1
      simp at this
      omega
    subst hi0
    rw [Nat.sub_self] at h
    exact .inr ⟨rfl, Option.some.inj h⟩
theorem Roo.push {w : World} {B g : Nat} {gs : List Nat} {es : List Text} {q : Text} (h : Roo w B gs es) (h1 : RoomB w g q 165) (h2 : B ≤ g) : Roo w B (gs ++ [g]) (es ++ [q]) := ⟨by simp [h.1], fun i g' q' e1 e2 => by
  rcases last_at e1 with ⟨i1, e1⟩ | ⟨i1, rfl⟩ <;> rcases last_at e2 with ⟨i2, e2⟩ | ⟨i2, rfl⟩
  · exact h.2 i g' q' e1 e2
  · have := h.1; omega
  · have := h.1; omega
  · exact ⟨h1, h2⟩⟩
theorem Rod.push {w : World} {B g : Nat} {hs : List Nat} {ps : List Pr} {p : Pr} (h : Rod w B hs ps) (h1 : RowD w g (p.ds ++ List.replicate 80 mk0)) (h2 : B ≤ g) : Rod w B (hs ++ [g]) (ps ++ [p]) := ⟨by simp [h.1], fun i g' q' e1 e2 => by
  rcases last_at e1 with ⟨i1, e1⟩ | ⟨i1, rfl⟩ <;> rcases last_at e2 with ⟨i2, e2⟩ | ⟨i2, rfl⟩
  · exact h.2 i g' q' e1 e2
  · have := h.1; omega
  · have := h.1; omega
  · exact ⟨h1, h2⟩⟩
section
variable {w : World} {B g : Nat} {gs hs : List Nat} {es : List Text} {ps : List Pr} {q : Text} {p : Pr}
theorem xsE_snoc (h : gs.length = es.length) : xsE (gs ++ [g]) (es ++ [q]) = xsE gs es ++ [.slice (some ⟨g, 0, none⟩) q.length (q.length + 80)] := by
  unfold xsE
  rw [List.zipWith_append h]
  rfl
theorem xsV_snoc (h : gs.length = es.length) : xsV (gs ++ [g]) (es ++ [q]) = xsV gs es ++ [.slice (some ⟨g, 0, none⟩) (q.length + 80) (q.length + 80)] := by
  unfold xsV
  rw [List.zipWith_append h]
  rfl
theorem xsQ_snoc (h : hs.length = ps.length) : xsQ (hs ++ [g]) (ps ++ [p]) = xsQ hs ps ++ [.slice (some ⟨g, 0, none⟩) (p.n + 80) (p.n + 80)] := by
  unfold xsQ
  rw [List.zipWith_append h]
  rfl
theorem psH_snoc (h : hs.length = ps.length) : psH (hs ++ [g]) (ps ++ [p]) = psH hs ps ++ [⟨p.x, p.y, p.ds, some ⟨g, 0, none⟩, p.n, p.n + 80⟩] := by
  unfold psH
  rw [List.zipWith_append h]
  rfl
theorem xsE_at {i : Nat} (h1 : gs[i]? = some g) (h2 : es[i]? = some q) : (xsE gs es)[i]? = some (.slice (some ⟨g, 0, none⟩) q.length (q.length + 80)) := by
  unfold xsE
  rw [List.getElem?_zipWith, h1, h2]
theorem xsV_at {i : Nat} (h1 : gs[i]? = some g) (h2 : es[i]? = some q) : (xsV gs es)[i]? = some (.slice (some ⟨g, 0, none⟩) (q.length + 80) (q.length + 80)) := by
  unfold xsV
  rw [List.getElem?_zipWith, h1, h2]
theorem xsQ_at {i : Nat} (h1 : hs[i]? = some g) (h2 : ps[i]? = some p) : (xsQ hs ps)[i]? = some (.slice (some ⟨g, 0, none⟩) (p.n + 80) (p.n + 80)) := by
  unfold xsQ
  rw [List.getElem?_zipWith, h1, h2]
theorem psH_at {i : Nat} (h1 : hs[i]? = some g) (h2 : ps[i]? = some p) : (psH hs ps)[i]? = some ⟨p.x, p.y, p.ds, some ⟨g, 0, none⟩, p.n, p.n + 80⟩ := by
  unfold psH
  rw [List.getElem?_zipWith, h1, h2]
end

/-- All that a given holds while it grows. -/
structure Hd (w0 W : World) (R B gg : Nat) (E P V Q : Value) (ne np nv nq : Nat) (xe xp xv xq : List Value) : Prop where
  bk : Blk W gg 36 (hc E P V Q).toArray
  rs : Blk W R 36 zG
  oe : W.ownsRow B 27 1 E ne xe
  op : W.ownsRow B 31 3 P np xp
  ov : W.ownsRow B 27 1 V nv xv
  oq : W.ownsRow B 29 1 Q nq xq
  ev : ∀ k, E.ownBlock = some k → V.ownBlock ≠ some k
  be : Below R w0 W
section
variable {w0 W W' : World} {R B gg ne np nv nq : Nat} {E P V Q : Value} {xe xp xv xq : List Value}
theorem Hd.kept {S : Nat → Prop} (h : Hd w0 W R B gg E P V Q ne np nv nq xe xp xv xq) (hk : Kept S W W') (hS : ∀ k, k < W.heap.size → S k → R < k ∧ k ≠ gg ∧ some k ≠ E.ownBlock ∧ some k ≠ P.ownBlock ∧ some k ≠ V.ownBlock ∧ some k ≠ Q.ownBlock) : Hd w0 W' R B gg E P V Q ne np nv nq xe xp xv xq :=
  ⟨h.bk.kept hk (fun s => (hS _ h.bk.lt s).2.1 rfl), h.rs.kept hk (fun s => by have := (hS _ h.rs.lt s).1; omega), own_keep h.oe hk (fun k e s => (hS k (h.oe.lt k e).2 s).2.2.1 e.symm), own_keep h.op hk (fun k e s => (hS k (h.op.lt k e).2 s).2.2.2.1 e.symm),
   own_keep h.ov hk (fun k e s => (hS k (h.ov.lt k e).2 s).2.2.2.2.1 e.symm), own_keep h.oq hk (fun k e s => (hS k (h.oq.lt k e).2 s).2.2.2.2.2 e.symm), h.ev, below_kept h.be hk (fun k hl s => by have := (hS k hl s).1; omega) (Nat.le_of_lt h.rs.lt)⟩
theorem Hd.below (h : Hd w0 W R B gg E P V Q ne np nv nq xe xp xv xq) (hb : Below W.heap.size W W') : Hd w0 W' R B gg E P V Q ne np nv nq xe xp xv xq := h.kept (S := fun _ => False) (Kept.of_below hb) (fun _ _ s => s.elim)
end
/-- A copy of an event more. -/
theorem Hd.pushE {w0 W W1 W2 : World} {R B gg ne np nv nq : Nat} {E P V Q E' : Value} {xe xp xv xq news : List Value} (h : Hd w0 W R B gg E P V Q ne np nv nq xe xp xv xq) (hRg : R < gg) (hgB : gg < B) (hW1 : Below W.heap.size W W1)
    (hG : Grew W1 B 27 1 E ne 1 xe news E' W2) :
    Hd w0 (W2.setCell ⟨gg, 34, none⟩ E') R B gg E' P V Q (ne + 1) np nv nq (xe ++ news) xp xv xq ∧ (∀ k t cs, t ≠ 27 → t ≠ 36 → Blk W k t cs → Blk (W2.setCell ⟨gg, 34, none⟩ E') k t cs) ∧ Blk W2 gg 36 (hc E P V Q).toArray ∧ Below R W (W2.setCell ⟨gg, 34, none⟩ E') := by
  have K1 : Kept (fun k => some k = E.ownBlock) W W2 := (Kept.of_below hW1).trans (grew_kept hG) (fun _ _ x => x)
  have K2 : Kept (fun k => some k = E.ownBlock ∨ k = gg) W (W2.setCell ⟨gg, 34, none⟩ E') := (K1.mono (fun _ _ x => .inl x)).setCell (.inl (.inr rfl)) _
  have hge : some gg ≠ E.ownBlock := blk_own h.bk h.oe (by decide)
  have hbk2 : Blk W2 gg 36 (hc E P V Q).toArray := h.bk.kept K1 hge
  have hge' : some gg ≠ E'.ownBlock := blk_own hbk2 hG.own (by decide)
  have hnew : ∀ k, E'.ownBlock = some k → E.ownBlock = some k ∨ W.heap.size ≤ k := fun k e => by
    rcases grew_new hG k e with h1 | h1
    · exact .inl h1
    · have := hW1.size; exact .inr (by omega)
  have hSR : ∀ k, k < W.heap.size → (some k = E.ownBlock ∨ k = gg) → R ≤ k := fun k _ hs => by
    rcases hs with hs | hs
    · have := (h.oe.lt k hs.symm).1; omega
    · omega
  refine ⟨⟨?_, h.rs.kept K2 ?_, own_keep hG.own ((Kept.refl (· = gg) W2).setCell (.inl rfl) _) (fun k e hs => hge' (by rw [e, hs])), own_keep h.op K2 (fun k e hs => by
      rcases hs with hs | hs
      · exact own_own h.op h.oe (by decide) k e hs.symm
      · exact blk_own h.bk h.op (by decide) (by rw [e, hs])), own_keep h.ov K2 (fun k e hs => by
      rcases hs with hs | hs
      · exact (fun e2 => h.ev k e2 e) hs.symm
      · exact blk_own h.bk h.ov (by decide) (by rw [e, hs])), own_keep h.oq K2 (fun k e hs => by
      rcases hs with hs | hs
      · exact own_own h.oq h.oe (by decide) k e hs.symm
      · exact blk_own h.bk h.oq (by decide) (by rw [e, hs])), fun k e e2 => by
      rcases hnew k e with h1 | h1
      · exact h.ev k h1 e2
      · have := (h.ov.lt k e2).2; omega, below_kept h.be K2 hSR (Nat.le_of_lt h.rs.lt)⟩, fun k t cs h1 h2 hb => hb.kept K2 (fun hs => ?_), hbk2, below_kept (Below.refl _ _) K2 hSR (Nat.le_of_lt h.rs.lt)⟩
  · have := hbk2.set_ 34 E'
    rw [hc_setE] at this
    exact this
  · rintro (hs | hs)
    · exact blk_own h.rs h.oe (by decide) hs
    · omega
  · rcases hs with hs | hs
    · exact blk_own hb h.oe h1 hs
    · subst hs
      have e1 : W.heap[k]? = some (.cells cs t (0, 0)) := hb
      have e2 : W.heap[k]? = some (.cells _ 36 (0, 0)) := h.bk
      rw [e1] at e2
      injection e2 with e2
      injection e2 with _ e2
      exact h2 e2
/-- A proof more. -/
theorem Hd.pushP {w0 W W1 W2 : World} {R B gg ne np nv nq : Nat} {E P V Q P' : Value} {xe xp xv xq news : List Value} (h : Hd w0 W R B gg E P V Q ne np nv nq xe xp xv xq) (hRg : R < gg) (hgB : gg < B) (hW1 : Below W.heap.size W W1)
    (hG : Grew W1 B 31 3 P np 1 xp news P' W2) :
    Hd w0 (W2.setCell ⟨gg, 35, none⟩ P') R B gg E P' V Q ne (np + 1) nv nq xe (xp ++ news) xv xq ∧ (∀ k t cs, t ≠ 31 → t ≠ 36 → Blk W k t cs → Blk (W2.setCell ⟨gg, 35, none⟩ P') k t cs) ∧ Blk W2 gg 36 (hc E P V Q).toArray ∧ Below R W (W2.setCell ⟨gg, 35, none⟩ P') := by
  have K1 : Kept (fun k => some k = P.ownBlock) W W2 := (Kept.of_below hW1).trans (grew_kept hG) (fun _ _ x => x)
  have K2 : Kept (fun k => some k = P.ownBlock ∨ k = gg) W (W2.setCell ⟨gg, 35, none⟩ P') := (K1.mono (fun _ _ x => .inl x)).setCell (.inl (.inr rfl)) _
  have hge : some gg ≠ P.ownBlock := blk_own h.bk h.op (by decide)
  have hbk2 : Blk W2 gg 36 (hc E P V Q).toArray := h.bk.kept K1 hge
  have hge' : some gg ≠ P'.ownBlock := blk_own hbk2 hG.own (by decide)
  have hnew : ∀ k, P'.ownBlock = some k → P.ownBlock = some k ∨ W.heap.size ≤ k := fun k e => by
    rcases grew_new hG k e with h1 | h1
    · exact .inl h1
    · have := hW1.size; exact .inr (by omega)
  have hSR : ∀ k, k < W.heap.size → (some k = P.ownBlock ∨ k = gg) → R ≤ k := fun k _ hs => by
    rcases hs with hs | hs
    · have := (h.op.lt k hs.symm).1; omega
    · omega
  refine ⟨⟨?_, h.rs.kept K2 ?_, own_keep h.oe K2 (fun k e hs => by
      rcases hs with hs | hs
      · exact own_own h.oe h.op (by decide) k e hs.symm
      · exact blk_own h.bk h.oe (by decide) (by rw [e, hs])), own_keep hG.own ((Kept.refl (· = gg) W2).setCell (.inl rfl) _) (fun k e hs => hge' (by rw [e, hs])), own_keep h.ov K2 (fun k e hs => by
      rcases hs with hs | hs
      · exact own_own h.ov h.op (by decide) k e hs.symm
      · exact blk_own h.bk h.ov (by decide) (by rw [e, hs])), own_keep h.oq K2 (fun k e hs => by
      rcases hs with hs | hs
      · exact own_own h.oq h.op (by decide) k e hs.symm
      · exact blk_own h.bk h.oq (by decide) (by rw [e, hs])), h.ev, below_kept h.be K2 hSR (Nat.le_of_lt h.rs.lt)⟩, fun k t cs h1 h2 hb => hb.kept K2 (fun hs => ?_), hbk2, below_kept (Below.refl _ _) K2 hSR (Nat.le_of_lt h.rs.lt)⟩
  · have := hbk2.set_ 35 P'
    rw [hc_setP] at this
    exact this
  · rintro (hs | hs)
    · exact blk_own h.rs h.op (by decide) hs
    · omega
  · rcases hs with hs | hs
    · exact blk_own hb h.op h1 hs
    · subst hs
      have e1 : W.heap[k]? = some (.cells cs t (0, 0)) := hb
      have e2 : W.heap[k]? = some (.cells _ 36 (0, 0)) := h.bk
      rw [e1] at e2
      injection e2 with e2
      injection e2 with _ e2
      exact h2 e2
/-- A list of bytes more. -/
theorem Hd.pushV {w0 W W1 W2 : World} {R B gg ne np nv nq : Nat} {E P V Q V' : Value} {xe xp xv xq news : List Value} (h : Hd w0 W R B gg E P V Q ne np nv nq xe xp xv xq) (hRg : R < gg) (hgB : gg < B) (hW1 : Below W.heap.size W W1)
    (hG : Grew W1 B 27 1 V nv 1 xv news V' W2) :
    Hd w0 (W2.setCell ⟨gg, 36, none⟩ V') R B gg E P V' Q ne np (nv + 1) nq xe xp (xv ++ news) xq ∧ (∀ k t cs, t ≠ 27 → t ≠ 36 → Blk W k t cs → Blk (W2.setCell ⟨gg, 36, none⟩ V') k t cs) ∧ Blk W2 gg 36 (hc E P V Q).toArray ∧ Below R W (W2.setCell ⟨gg, 36, none⟩ V') := by
  have K1 : Kept (fun k => some k = V.ownBlock) W W2 := (Kept.of_below hW1).trans (grew_kept hG) (fun _ _ x => x)
  have K2 : Kept (fun k => some k = V.ownBlock ∨ k = gg) W (W2.setCell ⟨gg, 36, none⟩ V') := (K1.mono (fun _ _ x => .inl x)).setCell (.inl (.inr rfl)) _
  have hge : some gg ≠ V.ownBlock := blk_own h.bk h.ov (by decide)
  have hbk2 : Blk W2 gg 36 (hc E P V Q).toArray := h.bk.kept K1 hge
  have hge' : some gg ≠ V'.ownBlock := blk_own hbk2 hG.own (by decide)
  have hnew : ∀ k, V'.ownBlock = some k → V.ownBlock = some k ∨ W.heap.size ≤ k := fun k e => by
    rcases grew_new hG k e with h1 | h1
    · exact .inl h1
    · have := hW1.size; exact .inr (by omega)
  have hSR : ∀ k, k < W.heap.size → (some k = V.ownBlock ∨ k = gg) → R ≤ k := fun k _ hs => by
    rcases hs with hs | hs
    · have := (h.ov.lt k hs.symm).1; omega
    · omega
  refine ⟨⟨?_, h.rs.kept K2 ?_, own_keep h.oe K2 (fun k e hs => by
      rcases hs with hs | hs
      · exact h.ev k e hs.symm
      · exact blk_own h.bk h.oe (by decide) (by rw [e, hs])), own_keep h.op K2 (fun k e hs => by
      rcases hs with hs | hs
      · exact own_own h.op h.ov (by decide) k e hs.symm
      · exact blk_own h.bk h.op (by decide) (by rw [e, hs])), own_keep hG.own ((Kept.refl (· = gg) W2).setCell (.inl rfl) _) (fun k e hs => hge' (by rw [e, hs])), own_keep h.oq K2 (fun k e hs => by
      rcases hs with hs | hs
      · exact own_own h.oq h.ov (by decide) k e hs.symm
      · exact blk_own h.bk h.oq (by decide) (by rw [e, hs])), fun k e e2 => by
      rcases hnew k e2 with h1 | h1
      · exact h.ev k e h1
      · have := (h.oe.lt k e).2; omega, below_kept h.be K2 hSR (Nat.le_of_lt h.rs.lt)⟩, fun k t cs h1 h2 hb => hb.kept K2 (fun hs => ?_), hbk2, below_kept (Below.refl _ _) K2 hSR (Nat.le_of_lt h.rs.lt)⟩
  · have := hbk2.set_ 36 V'
    rw [hc_setV] at this
    exact this
  · rintro (hs | hs)
    · exact blk_own h.rs h.ov (by decide) hs
    · omega
  · rcases hs with hs | hs
    · exact blk_own hb h.ov h1 hs
    · subst hs
      have e1 : W.heap[k]? = some (.cells cs t (0, 0)) := hb
      have e2 : W.heap[k]? = some (.cells _ 36 (0, 0)) := h.bk
      rw [e1] at e2
      injection e2 with e2
      injection e2 with _ e2
      exact h2 e2
/-- A way more. -/
theorem Hd.pushQ {w0 W W1 W2 : World} {R B gg ne np nv nq : Nat} {E P V Q Q' : Value} {xe xp xv xq news : List Value} (h : Hd w0 W R B gg E P V Q ne np nv nq xe xp xv xq) (hRg : R < gg) (hgB : gg < B) (hW1 : Below W.heap.size W W1)
    (hG : Grew W1 B 29 1 Q nq 1 xq news Q' W2) :
    Hd w0 (W2.setCell ⟨gg, 37, none⟩ Q') R B gg E P V Q' ne np nv (nq + 1) xe xp xv (xq ++ news) ∧ (∀ k t cs, t ≠ 29 → t ≠ 36 → Blk W k t cs → Blk (W2.setCell ⟨gg, 37, none⟩ Q') k t cs) ∧ Blk W2 gg 36 (hc E P V Q).toArray ∧ Below R W (W2.setCell ⟨gg, 37, none⟩ Q') := by
  have K1 : Kept (fun k => some k = Q.ownBlock) W W2 := (Kept.of_below hW1).trans (grew_kept hG) (fun _ _ x => x)
  have K2 : Kept (fun k => some k = Q.ownBlock ∨ k = gg) W (W2.setCell ⟨gg, 37, none⟩ Q') := (K1.mono (fun _ _ x => .inl x)).setCell (.inl (.inr rfl)) _
  have hge : some gg ≠ Q.ownBlock := blk_own h.bk h.oq (by decide)
  have hbk2 : Blk W2 gg 36 (hc E P V Q).toArray := h.bk.kept K1 hge
  have hge' : some gg ≠ Q'.ownBlock := blk_own hbk2 hG.own (by decide)
  have hnew : ∀ k, Q'.ownBlock = some k → Q.ownBlock = some k ∨ W.heap.size ≤ k := fun k e => by
    rcases grew_new hG k e with h1 | h1
    · exact .inl h1
    · have := hW1.size; exact .inr (by omega)
  have hSR : ∀ k, k < W.heap.size → (some k = Q.ownBlock ∨ k = gg) → R ≤ k := fun k _ hs => by
    rcases hs with hs | hs
    · have := (h.oq.lt k hs.symm).1; omega
    · omega
  refine ⟨⟨?_, h.rs.kept K2 ?_, own_keep h.oe K2 (fun k e hs => by
      rcases hs with hs | hs
      · exact own_own h.oe h.oq (by decide) k e hs.symm
      · exact blk_own h.bk h.oe (by decide) (by rw [e, hs])), own_keep h.op K2 (fun k e hs => by
      rcases hs with hs | hs
      · exact own_own h.op h.oq (by decide) k e hs.symm
      · exact blk_own h.bk h.op (by decide) (by rw [e, hs])), own_keep h.ov K2 (fun k e hs => by
      rcases hs with hs | hs
      · exact own_own h.ov h.oq (by decide) k e hs.symm
      · exact blk_own h.bk h.ov (by decide) (by rw [e, hs])), own_keep hG.own ((Kept.refl (· = gg) W2).setCell (.inl rfl) _) (fun k e hs => hge' (by rw [e, hs])), h.ev, below_kept h.be K2 hSR (Nat.le_of_lt h.rs.lt)⟩, fun k t cs h1 h2 hb => hb.kept K2 (fun hs => ?_), hbk2, below_kept (Below.refl _ _) K2 hSR (Nat.le_of_lt h.rs.lt)⟩
  · have := hbk2.set_ 37 Q'
    rw [hc_setQ] at this
    exact this
  · rintro (hs | hs)
    · exact blk_own h.rs h.oq (by decide) hs
    · omega
  · rcases hs with hs | hs
    · exact blk_own hb h.oq h1 hs
    · subst hs
      have e1 : W.heap[k]? = some (.cells cs t (0, 0)) := hb
      have e2 : W.heap[k]? = some (.cells _ 36 (0, 0)) := h.bk
      rw [e1] at e2
      injection e2 with e2
      injection e2 with _ e2
      exact h2 e2
end Go.Proofs.YthkdlaohaekilaaDoor.HandM

namespace Go.Proofs.YthkdlaohaekilaaDoor.DecPieceM
open Go Go.RowKit Go.Proofs.YthkdlaohaekilaaDoor Go.Proofs.YthkdlaohaekilaaDoor.Mem Go.Proofs.YthkdlaohaekilaaDoor.Sha Go.Proofs.YthkdlaohaekilaaDoor.Bytes Go.Proofs.YthkdlaohaekilaaDoor.Append Go.Proofs.YthkdlaohaekilaaDoor.TreeMem Go.Proofs.YthkdlaohaekilaaDoor.Reader Go.Proofs.YthkdlaohaekilaaDoor.Reader2 Go.Proofs.YthkdlaohaekilaaDoor.Reader3 Go.Proofs.YthkdlaohaekilaaDoor.Reader4 Go.Proofs.YthkdlaohaekilaaDoor.DecIncl Go.Proofs.YthkdlaohaekilaaDoor.ProofBeside Go.Proofs.YthkdlaohaekilaaDoor.PieceB Go.Proofs.YthkdlaohaekilaaDoor.Prs Go.Proofs.YthkdlaohaekilaaDoor.PieceLay Go.Proofs.YthkdlaohaekilaaDoor.PieceRead Go.Proofs.YthkdlaohaekilaaDoor.PieceMem Go.Proofs.YthkdlaohaekilaaDoor.PieceMem2 Go.Proofs.YthkdlaohaekilaaDoor.OctetBytes

/-- How many digests lie ahead of the j-th row's. -/
def low (ks : List Nat) (j : Nat) : Nat := (ks.take j).sum
/-- Where a way begins in the row of all. -/
def at3 (A : Option Addr) (l m : Nat) : Option Addr := if m = l then A else A.map (·.add (l * 32))
/-- The j-th proof, its way cut out of the row of all. -/
def prAt (Z : Int) (ys : List Int) (ks : List Nat) (dl : List Text) (A : Option Addr) (j : Nat) : Pr :=
  ⟨Z, ys.getD j 0, (dl.drop (low ks j)).take (ks.getD j 0), at3 A (low ks j) (low ks (j + 1)), ks.getD j 0, ks.getD j 0⟩
def prs (Z : Int) (ys : List Int) (ks : List Nat) (dl : List Text) (A : Option Addr) : List Pr := (List.range ks.length).map (prAt Z ys ks dl A)
/-- A part of a row of digests. -/
theorem rd_part {w : World} {A : Option Addr} {t : Nat} {dl : List Text} (h : RdD w A t dl) {l k : Nat} (hk : l + k ≤ t) : RdD w (at3 A l (l + k)) k ((dl.drop l).take k) := by
  have hl := h.1
  refine ⟨by rw [List.length_take, List.length_drop]; omega, (h.2.1.drop_ l).take_ k, ?_⟩
  refine ⟨by rw [flatMap_len _ ((h.2.1.drop_ l).take_ k), List.length_take, List.length_drop]; congr 1; omega, fun h0 => ?_⟩
  obtain ⟨b, o, e, hb, hcs⟩ := h.2.2.2 (by omega)
  subst e
  refine ⟨b, o + l * 32, by unfold at3; rw [if_neg (by omega), Option.map_some, add_at], hb, fun j u hu => ?_⟩
  rw [Nat.add_assoc]
  apply hcs
  rw [← flatMap_take _ k (h.2.1.drop_ l), ← flatMap_drop dl l h.2.1, List.getElem?_take] at hu
  by_cases hj : j < k * 32
  · rw [if_pos hj, List.getElem?_drop] at hu
    exact hu
  · rw [if_neg hj] at hu
    cases hu
theorem run_midD {A : Option Addr} {n c l h : Nat} (h1 : l ≤ h) (h2 : h ≤ c) (x y z : Int) (hx : x = l) (hy : y = h) (hz : z = h) (w : World) :
    (Instr.sliceAt 29 (.slice A n c) (some (.int .i64 x)) (some (.int .i64 y)) (some (.int .i64 z))).run Tryd.prog w = .ok (.slice (at3 A l h) (h - l) (h - l)) w := by
  subst hx hy hz
  rw [run_sliceAt_slice w _ _ _ _ _ undD, run_slice_lhm w _ A n c undD .i64 .i64 .i64 (l : Int) (h : Int) (h : Int) (by omega) (by omega) (by omega) (by omega), size32s]
  simp [Result.andThen, sliced, at3]
/-- The cells of a row of proofs, one by one. -/
theorem flat_back (ps : List Pr) (j : Nat) (u : Value) (h : (ps.flatMap Pr.cells)[j]? = some u) : ∃ p, ps[j / 3]? = some p ∧ p.cells[j % 3]? = some u := by
  have hl : j < 3 * ps.length := by rw [← flat_len]; exact (List.getElem?_eq_some_iff.1 h).1
  have hi : j / 3 < ps.length := by omega
  refine ⟨ps[j / 3], List.getElem?_eq_getElem hi, ?_⟩
  rw [← flat_at ps (j / 3) _ (j % 3) (List.getElem?_eq_getElem hi) (by omega), show 3 * (j / 3) + j % 3 = j by omega]
  exact h
/-- The row of proofs while the ways are laid in. -/
def RowP (w : World) (g n j : Nat) (f0 f1 : Nat → Pr) : Prop := ∃ cur : Array Value, Blk w g 31 cur ∧ ∀ r, r < n → ∀ i u, (if r < j then f1 r else f0 r).cells[i]? = some u → cur[3 * r + i]? = some u
theorem RowP.cell {w : World} {g n j : Nat} {f0 f1 : Nat → Pr} (h : RowP w g n j f0 f1) {r i : Nat} {u : Value} (hr : r < n) (hu : (if r < j then f1 r else f0 r).cells[i]? = some u) : w.cell? ⟨g, 3 * r + i, none⟩ = some u := by
  obtain ⟨cur, hb, hc⟩ := h
  rw [hb.cell]
  exact hc r hr i u hu
theorem RowP.lt {w : World} {g n j : Nat} {f0 f1 : Nat → Pr} (h : RowP w g n j f0 f1) : g < w.heap.size := by obtain ⟨cur, hb, -⟩ := h; exact hb.lt
theorem RowP.frozen {w : World} {g n j : Nat} {f0 f1 : Nat → Pr} (h : RowP w g n j f0 f1) (i : Nat) : w.frozen? ⟨g, i, none⟩ = false := by obtain ⟨cur, hb, -⟩ := h; exact hb.frozen i
theorem RowP.kept {S : Nat → Prop} {w w' : World} {g n j : Nat} {f0 f1 : Nat → Pr} (h : RowP w g n j f0 f1) (hk : Kept S w w') (hS : ¬ S g) : RowP w' g n j f0 f1 := by
  obtain ⟨cur, hb, hc⟩ := h
  exact ⟨cur, hb.kept hk hS, hc⟩
theorem RowP.step {w : World} {g n j : Nat} {f0 f1 : Nat → Pr} (h : RowP w g n j f0 f1) (hj : j < n) (h0 : (f1 j).x = (f0 j).x) (h1 : (f1 j).y = (f0 j).y) : RowP (w.setCell ⟨g, 3 * j + 2, none⟩ (.slice (f1 j).A (f1 j).n (f1 j).c)) g n (j + 1) f0 f1 := by
  obtain ⟨cur, hb, hc⟩ := h
  refine ⟨_, hb.set_ _ _, fun r hr i u hu => ?_⟩
  have hi : i < 3 := by
    have := (List.getElem?_eq_some_iff.1 hu).1
    exact this
  have hin : 3 * j + 2 < cur.size := by
    have := hc j hj 2 (.slice (f0 j).A (f0 j).n (f0 j).c) (by rw [if_neg (by omega)]; rfl)
    exact (Array.getElem?_eq_some_iff.1 this).1
  by_cases hrj : r = j
  · subst hrj
    rw [if_pos (by omega)] at hu
    by_cases h2 : i = 2
    · subst h2
      rw [Array.getElem?_setIfInBounds_self_of_lt hin]
      exact hu
    · rw [Array.getElem?_setIfInBounds_ne (by omega)]
      refine hc r hr i u ?_
      rw [if_neg (by omega)]
      rw [← hu]
      rcases (show i = 0 ∨ i = 1 by omega) with rfl | rfl
      · show some (Value.int .i64 (f0 r).x) = some (Value.int .i64 (f1 r).x)
        rw [h0]
      · show some (Value.int .i64 (f0 r).y) = some (Value.int .i64 (f1 r).y)
        rw [h1]
  · rw [Array.getElem?_setIfInBounds_ne (by omega)]
    refine hc r hr i u ?_
    by_cases hlt : r < j
    · rw [if_pos (by omega)] at hu
      rw [if_pos hlt]
      exact hu
    · rw [if_neg (by omega)] at hu
      rw [if_neg hlt]
      exact hu
theorem RowP.first {w : World} {g B n cap : Nat} {ps : List Pr} (f0 f1 : Nat → Pr) (h : w.ownsRow B 31 3 (.slice (some ⟨g, 0, none⟩) n cap) n (ps.flatMap Pr.cells)) (hf : ∀ r, r < n → ps[r]? = some (f0 r)) : RowP w g n 0 f0 f1 := by
  rcases h.2 with ⟨e, -⟩ | ⟨g', cap', cur, e, -, h3, -, -, -, h7⟩
  · cases e
  · injection e with e _ _
    injection e with e
    injection e with e
    subst e
    refine ⟨cur, h3, fun r hr i u hu => ?_⟩
    rw [if_neg (Nat.not_lt_zero _)] at hu
    have hi : i < 3 := (List.getElem?_eq_some_iff.1 hu).1
    have e2 := flat_at ps r (f0 r) i (hf r hr) hi
    rw [← h7, List.getElem?_take] at e2
    rw [if_pos (by omega), hu, Array.getElem?_toList] at e2
    exact e2
theorem RowP.reads {w : World} {g n : Nat} {ps : List Pr} {f0 f1 : Nat → Pr} (h : RowP w g n n f0 f1) (hl : ps.length = n) (hf : ∀ r, r < n → ps[r]? = some (f1 r)) : Reads w 3 (some ⟨g, 0, none⟩) n (ps.flatMap Pr.cells) := by
  obtain ⟨cur, hb, hc⟩ := h
  refine ⟨by rw [flat_len, hl]; omega, fun _ => ⟨g, 0, rfl, hb.lt, fun j u hu => ?_⟩⟩
  have hj : j < 3 * n := by rw [← hl, ← flat_len]; exact (List.getElem?_eq_some_iff.1 hu).1
  obtain ⟨p, hp, hpu⟩ := flat_back ps j u hu
  rw [hf _ (by omega)] at hp
  obtain rfl := Option.some.inj hp
  rw [Nat.zero_add, hb.cell]
  have := hc (j / 3) (by omega) (j % 3) u (by rw [if_pos (by omega)]; exact hpu)
  rwa [show 3 * (j / 3) + j % 3 = j by omega] at this
theorem digs_one (ds : List Text) : ∀ v ∈ ds.flatMap cells8, v.oneCell' = true := by
  intro v hv
  obtain ⟨d, -, h⟩ := List.mem_flatMap.1 hv
  exact Bytes.cells8_one d v h
/-- Another row has grown. -/
theorem Pk.grow {w0 W W1 W2 : World} {R B gp size n m : Nat} {e : TypeId} {cs : Array Value} {E P v v' : Value} {i j : Nat} {xs xs' news : List Value} {ts : List Text} {ps : List Pr} {Y Y' : Nat → Prop} (h : Pk w0 W R B gp cs E P i j xs ts ps (XB B Y E P)) (ho : W.ownsRow B e size v n xs') (hb : Below W.heap.size W W1)
    (hG : Grew W1 B e size v n m xs' news v' W2) (he1 : e ≠ 27) (he2 : e ≠ 31) (hR : R < B) (hgp : gp < B) (hY : ∀ k, some k = v.ownBlock → Y k) (hY' : ∀ k, Y' k → Y k ∨ some k = v'.ownBlock) :
    Pk w0 W2 R B gp cs E P i j xs ts ps (XB B Y' E P) ∧ Kept (fun k => some k = v.ownBlock) W W2 := by
  have K : Kept (fun k => some k = v.ownBlock) W W2 := (Kept.of_below hb).trans (grew_kept hG) (fun _ _ x => x)
  have h1 : Pk w0 W2 R B gp cs E P i j xs ts ps (XB B Y E P) := h.kept K (fun k _ s => by
    have h2 := (ho.lt k s.symm).1
    exact ⟨by omega, by omega, fun e2 => own_own ho h.oe he1 k s.symm e2.symm, fun e2 => own_own ho h.op he2 k s.symm e2.symm, .inr (.inl (hY k s))⟩)
  have hX : ∀ k, k < W.heap.size → XB B Y' E P k → XB B Y E P k := fun k hl hx => by
    rcases hx with hx | hx | hx
    · exact .inl hx
    · rcases hY' k hx with h2 | h2
      · exact .inr (.inl h2)
      · rcases grew_new hG k h2.symm with h3 | h3
        · exact .inr (.inl (hY k h3.symm))
        · have := hb.size; omega
    · exact .inr (.inr hx)
  exact ⟨⟨h1.bk, h1.rs, h1.oe, h1.op, h.tx.step K (fun k _ s => .inr (.inl (hY k s))) hX, h.pa.step K (fun k _ s => .inr (.inl (hY k s))) hX, h1.be⟩, K⟩
end Go.Proofs.YthkdlaohaekilaaDoor.DecPieceM

namespace Go.Proofs.YthkdlaohaekilaaDoor.DecPiece
open Go Go.RowKit Go.Proofs.YthkdlaohaekilaaDoor Go.Proofs.YthkdlaohaekilaaDoor.HeadMem Go.Proofs.YthkdlaohaekilaaDoor.Mem Go.Proofs.YthkdlaohaekilaaDoor.Sha Go.Proofs.YthkdlaohaekilaaDoor.Bytes Go.Proofs.YthkdlaohaekilaaDoor.Append Go.Proofs.YthkdlaohaekilaaDoor.Octet Go.Proofs.YthkdlaohaekilaaDoor.TreeMath Go.Proofs.YthkdlaohaekilaaDoor.TreeMem Go.Proofs.YthkdlaohaekilaaDoor.TreeRoot Go.Proofs.YthkdlaohaekilaaDoor.Held Go.Proofs.YthkdlaohaekilaaDoor.Own Go.Proofs.YthkdlaohaekilaaDoor.QuietTail Go.Proofs.YthkdlaohaekilaaDoor.Grown Go.Proofs.YthkdlaohaekilaaDoor.Reader Go.Proofs.YthkdlaohaekilaaDoor.Reader2 Go.Proofs.YthkdlaohaekilaaDoor.Reader3 Go.Proofs.YthkdlaohaekilaaDoor.Reader4 Go.Proofs.YthkdlaohaekilaaDoor.Reader6 Go.Proofs.YthkdlaohaekilaaDoor.Reader7 Go.Proofs.YthkdlaohaekilaaDoor.OctetBytes Go.Proofs.YthkdlaohaekilaaDoor.ProofBeside Go.Proofs.YthkdlaohaekilaaDoor.ProofEnc Go.Proofs.YthkdlaohaekilaaDoor.ProofIdx Go.Proofs.YthkdlaohaekilaaDoor.ProofIdx2 Go.Proofs.YthkdlaohaekilaaDoor.IdxMem Go.Proofs.YthkdlaohaekilaaDoor.DecIncl Go.Proofs.YthkdlaohaekilaaDoor.Book Go.Proofs.YthkdlaohaekilaaDoor.Guard Go.Proofs.YthkdlaohaekilaaDoor.Guard2 Go.Proofs.YthkdlaohaekilaaDoor.Want Go.Proofs.YthkdlaohaekilaaDoor.Plain Go.Proofs.YthkdlaohaekilaaDoor.DecIdx Go.Proofs.YthkdlaohaekilaaDoor.DecIdx2 Go.Proofs.YthkdlaohaekilaaDoor.PieceP Go.Proofs.YthkdlaohaekilaaDoor.PieceBegins Go.Proofs.YthkdlaohaekilaaDoor.PieceRow Go.Proofs.YthkdlaohaekilaaDoor.Prs Go.Proofs.YthkdlaohaekilaaDoor.Reach Go.Proofs.YthkdlaohaekilaaDoor.Reach2 Go.Proofs.YthkdlaohaekilaaDoor.Octet4 Go.Proofs.YthkdlaohaekilaaDoor.PieceB Go.Proofs.YthkdlaohaekilaaDoor.PieceLay Go.Proofs.YthkdlaohaekilaaDoor.PieceRead Go.Proofs.YthkdlaohaekilaaDoor.PieceMem Go.Proofs.YthkdlaohaekilaaDoor.PieceMem2 Go.Proofs.YthkdlaohaekilaaDoor.DecPiece0 Go.Proofs.YthkdlaohaekilaaDoor.DecPieceM

theorem infoTx : (Tryd.prog.info? 27).map (fun i => (i.zero, i.size, i.bytes)) = some (some (.slice none 0 0), 1, 24) := by kernel_rfl
theorem infoIn : (Tryd.prog.info? 31).map (fun i => (i.zero, i.size, i.bytes)) = some (some (.agg #[.int .i64 0, .int .i64 0, .slice none 0 0]), 3, 40) := by kernel_rfl
theorem sizeIn : (Tryd.prog.info? 31).map (·.size) = some 3 := by kernel_rfl
theorem zeroIn : ((Tryd.prog.info? 31).bind (·.zero)).isSome = true := by kernel_rfl
end Go.Proofs.YthkdlaohaekilaaDoor.DecPiece
