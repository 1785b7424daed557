/-
  Texts of the claim, put into one file: CutR.
-/
import Derived.Test.YthkdlaohaekilaaDoorZ45
import Derived.Test.YthkdlaohaekilaaDoorZ8
import Derived.Test.YthkdlaohaekilaaDoorZ14

namespace Go.Proofs.YthkdlaohaekilaaDoor.CutR
open Go Go.RowKit Go.Proofs.YthkdlaohaekilaaDoor Go.Proofs.YthkdlaohaekilaaDoor.Mem Go.Proofs.YthkdlaohaekilaaDoor.Sha Go.Proofs.YthkdlaohaekilaaDoor.Bytes Go.Proofs.YthkdlaohaekilaaDoor.Append Go.Proofs.YthkdlaohaekilaaDoor.Own Go.Proofs.YthkdlaohaekilaaDoor.TreeMem Go.Proofs.YthkdlaohaekilaaDoor.HeadMem Go.Proofs.YthkdlaohaekilaaDoor.Book Go.Proofs.YthkdlaohaekilaaDoor.Prs Go.Proofs.YthkdlaohaekilaaDoor.PieceLay Go.Proofs.YthkdlaohaekilaaDoor.PieceMem Go.Proofs.YthkdlaohaekilaaDoor.PieceMem2 Go.Proofs.YthkdlaohaekilaaDoor.SamePiece Go.Proofs.YthkdlaohaekilaaDoor.Pcs Go.Proofs.YthkdlaohaekilaaDoor.CutP Go.Proofs.YthkdlaohaekilaaDoor.CutM Go.Proofs.YthkdlaohaekilaaDoor.CutQ Go.Proofs.YthkdlaohaekilaaDoor.Fill

theorem placed (parts : List (Nat × Value)) : Tryd.prog.built 33 parts = Instr.fill (#[((0 : Nat), (1 : Nat)), (1, 1), (2, 32), (34, 1), (35, 1)][·]?) zP parts := by kernel_rfl
theorem built_pc (s : ByteArray) (F : Int) (b : Text) (hb : b.length = 32) (A A2 : Option Addr) (n c n2 c2 : Nat) :
    Tryd.prog.built 33 [(0, Value.string s), (1, Value.int .i64 F), (2, .agg (cells8 b).toArray), (3, Value.slice A n c), (4, Value.slice A2 n2 c2)] = some (pieceCells s F b (Value.slice A n c) (Value.slice A2 n2 c2)).toArray := by
  rw [placed]
  have e0 : zP = (([] : List Value) ++ [Value.string ByteArray.empty] ++ ([Value.int .i64 0] ++ cells8 (List.replicate 32 0) ++ [Value.slice none 0 0, Value.slice none 0 0])).toArray := rfl
  rw [e0, fill_one (xs := [Value.string s]) (off := 0) (size := 1) rfl rfl rfl rfl rfl]
  have e1 : (([] : List Value) ++ [Value.string s] ++ ([Value.int .i64 0] ++ cells8 (List.replicate 32 0) ++ [Value.slice none 0 0, Value.slice none 0 0])).toArray = (([Value.string s] : List Value) ++ [Value.int .i64 0] ++ (cells8 (List.replicate 32 0) ++ [Value.slice none 0 0, Value.slice none 0 0])).toArray := rfl
  rw [e1, fill_one (xs := [Value.int .i64 F]) (off := 1) (size := 1) rfl rfl rfl rfl rfl]
  have e2 : (([Value.string s] : List Value) ++ [Value.int .i64 F] ++ (cells8 (List.replicate 32 0) ++ [Value.slice none 0 0, Value.slice none 0 0])).toArray = (([Value.string s, Value.int .i64 F] : List Value) ++ cells8 (List.replicate 32 0) ++ [Value.slice none 0 0, Value.slice none 0 0]).toArray := rfl
  rw [e2, fill_one (xs := cells8 b) (off := 2) (size := 32) rfl rfl (by rw [cells8_len, hb]) rfl rfl]
  have e3 : (([Value.string s, Value.int .i64 F] : List Value) ++ cells8 b ++ [Value.slice none 0 0, Value.slice none 0 0]).toArray = (([Value.string s, Value.int .i64 F] ++ cells8 b : List Value) ++ [Value.slice none 0 0] ++ [Value.slice none 0 0]).toArray := by simp
  rw [e3, fill_one (xs := [Value.slice A n c]) (off := 34) (size := 1) rfl rfl rfl (by simp [cells8_len, hb]) rfl]
  have e4 : (([Value.string s, Value.int .i64 F] ++ cells8 b : List Value) ++ [Value.slice A n c] ++ [Value.slice none 0 0]).toArray = (([Value.string s, Value.int .i64 F] ++ cells8 b ++ [Value.slice A n c] : List Value) ++ [Value.slice none 0 0] ++ []).toArray := by simp
  rw [e4, fill_one (xs := [Value.slice A2 n2 c2]) (off := 35) (size := 1) rfl rfl rfl (by simp [cells8_len, hb]) rfl, fill_nil]
  simp [pieceCells]
theorem run_pc (s : ByteArray) (F : Int) (b : Text) (hb : b.length = 32) (A A2 : Option Addr) (n c n2 c2 : Nat) (w : World) :
    (Instr.build 33 #[(0, .string s), (1, .int .i64 F), (2, .agg (cells8 b).toArray), (3, .slice A n c), (4, .slice A2 n2 c2)]).run Tryd.prog w = .ok (.agg (pieceCells s F b (.slice A n c) (.slice A2 n2 c2)).toArray) w :=
  run_build w _ _ _ (built_pc s F b hb A A2 n c n2 c2)

/-- A piece that is a part of the given rows. -/
structure RPart (A A2 : Option Addr) (es : List Text) (ps : List Pr) (p : Pc) : Prop where
  hb : p.b.length = 32
  m : p.m = p.n
  part : ∃ lo, lo + p.n ≤ es.length ∧ p.es = (es.drop lo).take p.n ∧ p.ps = (ps.drop lo).take p.n ∧ p.A = dropA A lo 1 ∧ p.A2 = dropA A2 lo 3
theorem RPart.ok {W : World} {A A2 : Option Addr} {es : List Text} {ps : List Pr} {p : Pc} (h : RPart A A2 es ps p) (hl : es.length = ps.length) (hp : Pieces W A es) (hq : Prs W A2 ps) : p.Ok W := by
  obtain ⟨lo, h1, h2, h3, h4, h5⟩ := h.part
  refine ⟨h.hb, by rw [h2, List.length_take, List.length_drop]; omega, by rw [h3, h.m, List.length_take, List.length_drop]; omega, ?_, ?_⟩
  · rw [h2, h4]; exact Law17e.Pieces.take_ (pieces_drop hp lo) p.n
  · rw [h3, h5]; exact Law17e.Prs.take_ (prs_drop hq lo) p.n
/-- The row of such pieces. -/
structure RL (B : Nat) (A A2 : Option Addr) (es : List Text) (ps : List Pr) (W : World) (q : Nat) (Al : Option Addr) (cl : Nat) (l : List Pc) : Prop where
  ow : W.ownsRow B 33 36 (.slice Al q cl) q (l.flatMap Pc.cells)
  pt : ∀ p ∈ l, RPart A A2 es ps p
theorem flat36R : ∀ l : List Pc, (∀ p ∈ l, p.b.length = 32) → (l.flatMap Pc.cells).length = l.length * 36
  | [], _ => rfl
  | p :: l, h => by
    rw [List.flatMap_cons, List.length_append, Pc.len (h p (by simp)), flat36R l (fun p hp => h p (by simp [hp])), List.length_cons]
    omega
section
variable {B q cl : Nat} {A A2 Al : Option Addr} {es : List Text} {ps : List Pr} {W W' : World} {l : List Pc}
theorem RL.nil_ (B : Nat) (A A2 : Option Addr) (es : List Text) (ps : List Pr) (W : World) : RL B A A2 es ps W 0 none 0 [] := ⟨World.ownsRow_nil _ _ _ _, fun p hp => by cases hp⟩
theorem RL.kept {S : Nat → Prop} (h : RL B A A2 es ps W q Al cl l) (hk : Kept S W W') (hS : ∀ k, Value.ownBlock (.slice Al q cl) = some k → ¬ S k) : RL B A A2 es ps W' q Al cl l := ⟨own_keep h.ow hk hS, h.pt⟩
theorem RL.below (h : RL B A A2 es ps W q Al cl l) (hb : Below W.heap.size W W') : RL B A A2 es ps W' q Al cl l := h.kept (S := fun _ => False) (Kept.of_below hb) (fun _ _ x => x)
theorem RL.len (h : RL B A A2 es ps W q Al cl l) : l.length = q := by
  have h1 := h.ow.1
  rw [flat36R l (fun p hp => (h.pt p hp).hb)] at h1
  omega
theorem RL.pcs (h : RL B A A2 es ps W q Al cl l) (hl : l ≠ [] → es.length = ps.length) (hp : Pieces W A es) (hq : Prs W A2 ps) : Pcs W Al l := by
  obtain ⟨A3, c3, e3, -, -, -, hr, -⟩ := Own.reads h.ow
  injection e3 with e3 _ _
  subst e3
  exact ⟨by rw [h.len]; exact hr, fun p hp' => (h.pt p hp').ok (hl (List.ne_nil_of_mem hp')) hp hq⟩
theorem RL.push {W1 W2 : World} {p : Pc} {v' : Value} (h : RL B A A2 es ps W q Al cl l) (hG : Grew W1 B 33 36 (.slice Al q cl) q 1 (l.flatMap Pc.cells) p.cells v' W2) (hp : RPart A A2 es ps p) :
    ∃ A' c', v' = .slice A' (q + 1) c' ∧ RL B A A2 es ps W2 (q + 1) A' c' (l ++ [p]) := by
  obtain ⟨A', c', e, -⟩ := Append.Own.reads hG.own
  refine ⟨A', c', e, ?_, fun x hx => ?_⟩
  · rw [← e, List.flatMap_append, List.flatMap_singleton]
    exact hG.own
  · rcases List.mem_append.1 hx with hx | hx
    · exact h.pt x hx
    · obtain rfl : x = p := by simpa using hx
      exact hp
end
/-- What docketref17.Pieces answers. -/
def RPost (w : World) (A A2 : Option Addr) (s : ByteArray) (es : List Text) (ps : List Pr) (W : Option (List Cut)) (e : Ending) (w' : World) : Prop :=
  ∃ (Al : Option Addr) (q c : Nat) (l : List Pc) (err : Int), e = .returned (.tuple #[.slice Al q c, .int .i64 err]) ∧ ((∃ ks, W = some ks ∧ SaysR s es ps l ks ∧ err = 0) ∨ (W = none ∧ l = [] ∧ err = 170)) ∧ RL w.heap.size A A2 es ps w' q Al c l ∧ Below w.heap.size w w'
theorem rpost_no {w w' : World} {A A2 : Option Addr} {s : ByteArray} {es : List Text} {ps : List Pr} {W : Option (List Cut)} {e : Ending} (h : W = none) (he : e = .returned (.tuple #[.slice none 0 0, .int .i64 170])) (hb : Below w.heap.size w w') : RPost w A A2 s es ps W e w' :=
  ⟨none, 0, 0, [], 170, he, .inr ⟨h, rfl, rfl⟩, RL.nil_ _ _ _ _ _ _, hb⟩
/-- One round of the document's count. -/
theorem cut_stop {F : Int} {n : Nat} {r : Int} {x : PieceP.Item} {l : List PieceP.Item} (h1 : n ≠ 1000) (h : r - (12 + x.len + 32 * x.ways : Nat) < 0 ∨ x.fit = false ∨ x.size - n - 1 < F) : PieceP.cutFrom F n r (x :: l) = n := by
  rw [PieceP.cutFrom, if_neg h1, if_pos h]
theorem cut_on {F : Int} {n : Nat} {r : Int} {x : PieceP.Item} {l : List PieceP.Item} (h1 : n ≠ 1000) (h : ¬ (r - (12 + x.len + 32 * x.ways : Nat) < 0 ∨ x.fit = false ∨ x.size - n - 1 < F)) : PieceP.cutFrom F n r (x :: l) = PieceP.cutFrom F (n + 1) (r - (12 + x.len + 32 * x.ways : Nat)) l := by
  rw [PieceP.cutFrom, if_neg h1, if_neg h]
theorem cut_full {F : Int} {r : Int} (l : List PieceP.Item) : PieceP.cutFrom F 1000 r l = 1000 := by
  cases l with
  | nil => rfl
  | cons x l => rw [PieceP.cutFrom, if_pos rfl]
theorem cut_none {F : Int} {n : Nat} {r : Int} : PieceP.cutFrom F n r [] = n := rfl
end Go.Proofs.YthkdlaohaekilaaDoor.CutR
