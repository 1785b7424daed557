/-
  Texts of the claim, put into one file: TreeRefRoot, TreeRoots, WayP, RevP, Way, Joint, Levels, SubRef.
-/
import Derived.Test.YtgldkfaiofkhbaaDoorZ16
import Derived.Test.YtgldkfaiofkhbaaDoorZ5
import Derived.Test.YtgldkfaiofkhbaaDoorZ13
import Derived.Test.YtgldkfaiofkhbaaDoorZ21
import Derived.Test.YtgldkfaiofkhbaaDoorZ0
import Derived.Outline

namespace Go.Proofs.YtgldkfaiofkhbaaDoor.TreeRefRoot
open Go Go.RowKit Go.Proofs.YtgldkfaiofkhbaaDoor Go.Proofs.YtgldkfaiofkhbaaDoor.Digest Go.Proofs.YtgldkfaiofkhbaaDoor.Mem Go.Proofs.YtgldkfaiofkhbaaDoor.Sha Go.Proofs.YtgldkfaiofkhbaaDoor.ShaWalk Go.Proofs.YtgldkfaiofkhbaaDoor.Bytes Go.Proofs.YtgldkfaiofkhbaaDoor.HashMem Go.Proofs.YtgldkfaiofkhbaaDoor.DigestMem Go.Proofs.YtgldkfaiofkhbaaDoor.DigestTop Go.Proofs.YtgldkfaiofkhbaaDoor.RefTop Go.Proofs.YtgldkfaiofkhbaaDoor.QuietTail Go.Proofs.YtgldkfaiofkhbaaDoor.Grown Go.Proofs.YtgldkfaiofkhbaaDoor.Chain Go.Proofs.YtgldkfaiofkhbaaDoor.TreeMath Go.Proofs.YtgldkfaiofkhbaaDoor.TreeMem Go.Proofs.YtgldkfaiofkhbaaDoor.TreeRoot Go.Proofs.YtgldkfaiofkhbaaDoor.Book Go.Proofs.YtgldkfaiofkhbaaDoor.Book2 Go.Proofs.YtgldkfaiofkhbaaDoor.Append Go.Proofs.YtgldkfaiofkhbaaDoor.TreeFold Go.Proofs.YtgldkfaiofkhbaaDoor.Held

theorem own_below {w w' : World} {base e size n : Nat} {v : Value} {xs : List Value} (h : w.ownsRow base e size v n xs) (hb : Below w.heap.size w w') : w'.ownsRow base e size v n xs := by
  refine ⟨h.1, h.2.imp id fun ⟨g, cap, cur, h1, h2, h3, h4⟩ => ⟨g, cap, cur, h1, h2, ?_, h4⟩⟩
  rw [hb.block g (Array.getElem?_eq_some_iff.1 h3).1, h3]
end Go.Proofs.YtgldkfaiofkhbaaDoor.TreeRefRoot

namespace Go.Proofs.YtgldkfaiofkhbaaDoor.TreeRoots
open Go Go.RowKit Go.Proofs.YtgldkfaiofkhbaaDoor Go.Proofs.YtgldkfaiofkhbaaDoor.Digest Go.Proofs.YtgldkfaiofkhbaaDoor.Mem Go.Proofs.YtgldkfaiofkhbaaDoor.Sha Go.Proofs.YtgldkfaiofkhbaaDoor.ShaWalk Go.Proofs.YtgldkfaiofkhbaaDoor.Bytes Go.Proofs.YtgldkfaiofkhbaaDoor.HashMem Go.Proofs.YtgldkfaiofkhbaaDoor.DigestMem Go.Proofs.YtgldkfaiofkhbaaDoor.DigestTop Go.Proofs.YtgldkfaiofkhbaaDoor.RefTop Go.Proofs.YtgldkfaiofkhbaaDoor.QuietTail Go.Proofs.YtgldkfaiofkhbaaDoor.Grown Go.Proofs.YtgldkfaiofkhbaaDoor.Chain Go.Proofs.YtgldkfaiofkhbaaDoor.TreeMath Go.Proofs.YtgldkfaiofkhbaaDoor.TreeMem Go.Proofs.YtgldkfaiofkhbaaDoor.TreeRoot Go.Proofs.YtgldkfaiofkhbaaDoor.TreeFold Go.Proofs.YtgldkfaiofkhbaaDoor.Book Go.Proofs.YtgldkfaiofkhbaaDoor.Book2 Go.Proofs.YtgldkfaiofkhbaaDoor.TreeRefRoot

end Go.Proofs.YtgldkfaiofkhbaaDoor.TreeRoots

namespace Go.Proofs.YtgldkfaiofkhbaaDoor.WayP
open Go Go.RowKit Go.Proofs.YtgldkfaiofkhbaaDoor Go.Proofs.YtgldkfaiofkhbaaDoor.Digest Go.Proofs.YtgldkfaiofkhbaaDoor.Mem Go.Proofs.YtgldkfaiofkhbaaDoor.Sha Go.Proofs.YtgldkfaiofkhbaaDoor.ShaWalk Go.Proofs.YtgldkfaiofkhbaaDoor.Bytes Go.Proofs.YtgldkfaiofkhbaaDoor.HashMem Go.Proofs.YtgldkfaiofkhbaaDoor.DigestMem Go.Proofs.YtgldkfaiofkhbaaDoor.DigestTop Go.Proofs.YtgldkfaiofkhbaaDoor.RefTop Go.Proofs.YtgldkfaiofkhbaaDoor.QuietTail Go.Proofs.YtgldkfaiofkhbaaDoor.Grown Go.Proofs.YtgldkfaiofkhbaaDoor.Chain Go.Proofs.YtgldkfaiofkhbaaDoor.TreeMath Go.Proofs.YtgldkfaiofkhbaaDoor.TreeMem Go.Proofs.YtgldkfaiofkhbaaDoor.TreeRoot Go.Proofs.YtgldkfaiofkhbaaDoor.TreeFold Go.Proofs.YtgldkfaiofkhbaaDoor.Book Go.Proofs.YtgldkfaiofkhbaaDoor.Book2 Go.Proofs.YtgldkfaiofkhbaaDoor.Append Go.Proofs.YtgldkfaiofkhbaaDoor.TreeRefRoot Go.Proofs.YtgldkfaiofkhbaaDoor.Held Go.Proofs.YtgldkfaiofkhbaaDoor.Sides

/-- Parts as cells. -/
def pcells (p : Nat × Nat) : List Value := [.int .i64 (p.1 : Int), .int .i64 (p.2 : Int)]
def flatP (l : List (Nat × Nat)) : List Value := l.flatMap pcells
theorem flatP_snoc (l : List (Nat × Nat)) (p : Nat × Nat) : flatP (l ++ [p]) = flatP l ++ pcells p := by simp [flatP]
theorem pcells_one (p : Nat × Nat) : ∀ v ∈ pcells p, v.oneCell' = true := by
  intro v hv
  simp only [pcells, List.mem_cons, List.not_mem_nil, or_false] at hv
  rcases hv with rfl | rfl <;> rfl
theorem infoP : (Tryd.prog.info? 176).map (fun i => (i.zero, i.size, i.bytes)) = some (some (.agg #[.int .i64 0, .int .i64 0]), 2, 16) := by kernel_rfl
theorem sizeP : (Tryd.prog.info? 176).map (·.size) = some 2 := by kernel_rfl
theorem zeroP : ((Tryd.prog.info? 176).bind (·.zero)).isSome = true := by kernel_rfl
/-- To the right of i? -/
def sd (i : Nat) (p : Nat × Nat) : Bool := decide (i < p.1)

/-- What stands at the head of a round of way's loop. -/
structure WayAt (w : World) (B size i : Nat) (wr : World) (l : Value) (gp a b : Nat) (acc : List (Nat × Nat)) : Prop where
  blk : Blk wr gp 176 #[.int .i64 (a : Int), .int .i64 (b : Int)]
  own : wr.ownsRow B 176 2 l acc.length (flatP acc)
  below : Below B w wr
  lo : B ≤ gp
  apart : ∀ k, l.ownBlock = some k → k ≠ gp
  ai : a ≤ i
  ib : i < b
  bs : b ≤ size
  sides : sides size i = Sides.sides (b - a) (i - a) ++ (acc.map (sd i)).reverse
  few : acc.length + (b - a) ≤ size
theorem grown_set (w : World) (g f : Nat) (u : Value) : w.grownBy (w.setCell ⟨g, f, none⟩ u) (some g) := ⟨rfl, rfl, rfl, by simp, fun k _ hk => heap_setCell_other w ⟨g, f, none⟩ k u (fun e => hk (by simp [e]))⟩
theorem WayAt.next {w wr w3 : World} {B size i gp a b f a' b' : Nat} {l v3 u : Value} {acc : List (Nat × Nat)} {q : Nat × Nat} (h : WayAt w B size i wr l gp a b acc) (hb : Below B w w3) (ho : w3.ownsRow B 176 2 v3 (acc.length + 1) (flatP (acc ++ [q])))
    (hap : ∀ k, v3.ownBlock = some k → k ≠ gp) (hB : B ≤ w3.heap.size) (h1 : a' ≤ i) (h2 : i < b') (h3 : b' ≤ size) (h4 : Sides.sides (b - a) (i - a) = Sides.sides (b' - a') (i - a') ++ [sd i q]) (h5 : b' - a' + 1 ≤ b - a) :
    WayAt w B size i ((w3.setCell ⟨gp, f, none⟩ u).alloc (.cells #[.int .i64 (a' : Int), .int .i64 (b' : Int)] 176)) v3 w3.heap.size a' b' (acc ++ [q]) := by
  have hs : (w3.setCell ⟨gp, f, none⟩ u).heap.size = w3.heap.size := by simp
  refine ⟨?_, ?_, ?_, hB, fun k e => ?_, h1, h2, h3, ?_, ?_⟩
  · have := Blk.new (w3.setCell ⟨gp, f, none⟩ u) 176 #[.int .i64 (a' : Int), .int .i64 (b' : Int)]
    rwa [hs] at this
  · rw [show (acc ++ [q]).length = acc.length + 1 by simp]
    refine World.ownsRow.alloc (World.ownsRow.kept ho (grown_set w3 gp f u) ?_) _
    cases e : v3.ownBlock with
    | none => exact .inl rfl
    | some k => exact .inr (fun e2 => hap k e (Option.some.inj e2))
  · exact (hb.setCell h.lo u).alloc (by rw [hs]; exact hB) _
  · have := (ho.lt k e).2
    omega
  · rw [h.sides, h4, List.map_append, List.reverse_append, List.append_assoc]
    rfl
  · have := h.few
    rw [List.length_append]
    simp only [List.length_cons, List.length_nil]
    omega
theorem cap_parts {n : Nat} (h : n ≤ 1099511627776) : n ≤ maxLen ∧ n * 16 ≤ 140737488355328 := by unfold maxLen; omega

end Go.Proofs.YtgldkfaiofkhbaaDoor.WayP

namespace Go.Proofs.YtgldkfaiofkhbaaDoor.RevP
open Go Go.RowKit Go.Proofs.YtgldkfaiofkhbaaDoor Go.Proofs.YtgldkfaiofkhbaaDoor.Digest Go.Proofs.YtgldkfaiofkhbaaDoor.Mem Go.Proofs.YtgldkfaiofkhbaaDoor.Sha Go.Proofs.YtgldkfaiofkhbaaDoor.ShaWalk Go.Proofs.YtgldkfaiofkhbaaDoor.Bytes Go.Proofs.YtgldkfaiofkhbaaDoor.HashMem Go.Proofs.YtgldkfaiofkhbaaDoor.DigestMem Go.Proofs.YtgldkfaiofkhbaaDoor.DigestTop Go.Proofs.YtgldkfaiofkhbaaDoor.RefTop Go.Proofs.YtgldkfaiofkhbaaDoor.QuietTail Go.Proofs.YtgldkfaiofkhbaaDoor.Grown Go.Proofs.YtgldkfaiofkhbaaDoor.Chain Go.Proofs.YtgldkfaiofkhbaaDoor.TreeMath Go.Proofs.YtgldkfaiofkhbaaDoor.TreeMem Go.Proofs.YtgldkfaiofkhbaaDoor.TreeRoot Go.Proofs.YtgldkfaiofkhbaaDoor.TreeFold Go.Proofs.YtgldkfaiofkhbaaDoor.Book Go.Proofs.YtgldkfaiofkhbaaDoor.Book2 Go.Proofs.YtgldkfaiofkhbaaDoor.Append Go.Proofs.YtgldkfaiofkhbaaDoor.TreeRefRoot Go.Proofs.YtgldkfaiofkhbaaDoor.Held Go.Proofs.YtgldkfaiofkhbaaDoor.Sides Go.Proofs.YtgldkfaiofkhbaaDoor.WayP

theorem flatP_len (l : List (Nat × Nat)) : (flatP l).length = l.length * 2 := by
  induction l with
  | nil => rfl
  | cons p l ih => simp only [flatP, List.flatMap_cons, List.length_append, List.length_cons] at ih ⊢; rw [ih]; simp [pcells]; omega
theorem flatP_drop : ∀ (l : List (Nat × Nat)) (k : Nat), (flatP l).drop (k * 2) = flatP (l.drop k)
  | [], k => by simp [flatP]
  | p :: l, 0 => by simp [flatP]
  | p :: l, k + 1 => by
    have h1 := flatP_drop l k
    simp only [flatP, List.flatMap_cons, List.drop_succ_cons] at h1 ⊢
    rw [List.drop_append, List.drop_of_length_le (by simp [pcells]; omega), show (k + 1) * 2 - (pcells p).length = k * 2 by simp [pcells]; omega, h1, List.nil_append]
theorem flatP_at (l : List (Nat × Nat)) (rest : List Value) (i : Nat) (q : Nat × Nat) (h : l[i]? = some q) (j : Nat) (v : Value) (hv : (pcells q)[j]? = some v) : (flatP l ++ rest).toArray[i * 2 + j]? = some v := by
  have hi : i < l.length := (List.getElem?_eq_some_iff.1 h).1
  have hj : j < 2 := (List.getElem?_eq_some_iff.1 hv).1
  rw [List.getElem?_toArray, List.getElem?_append_left (by rw [flatP_len]; omega)]
  have h1 := flatP_drop l i
  have h3 : (flatP l)[i * 2 + j]? = ((flatP l).drop (i * 2))[j]? := by rw [List.getElem?_drop]
  rw [h3, h1, List.drop_eq_getElem_cons hi]
  have h4 : l[i] = q := by rw [List.getElem?_eq_getElem hi] at h; exact Option.some.inj h
  rw [h4]
  simp only [flatP, List.flatMap_cons]
  rw [List.getElem?_append_left (by simp [pcells]; omega)]
  exact hv

end Go.Proofs.YtgldkfaiofkhbaaDoor.RevP

namespace Go.Proofs.YtgldkfaiofkhbaaDoor.Way
open Go Go.RowKit Go.Proofs.YtgldkfaiofkhbaaDoor Go.Proofs.YtgldkfaiofkhbaaDoor.Digest Go.Proofs.YtgldkfaiofkhbaaDoor.Mem Go.Proofs.YtgldkfaiofkhbaaDoor.Sha Go.Proofs.YtgldkfaiofkhbaaDoor.ShaWalk Go.Proofs.YtgldkfaiofkhbaaDoor.Bytes Go.Proofs.YtgldkfaiofkhbaaDoor.HashMem Go.Proofs.YtgldkfaiofkhbaaDoor.DigestMem Go.Proofs.YtgldkfaiofkhbaaDoor.DigestTop Go.Proofs.YtgldkfaiofkhbaaDoor.RefTop Go.Proofs.YtgldkfaiofkhbaaDoor.QuietTail Go.Proofs.YtgldkfaiofkhbaaDoor.Grown Go.Proofs.YtgldkfaiofkhbaaDoor.Chain Go.Proofs.YtgldkfaiofkhbaaDoor.TreeMath Go.Proofs.YtgldkfaiofkhbaaDoor.TreeMem Go.Proofs.YtgldkfaiofkhbaaDoor.TreeRoot Go.Proofs.YtgldkfaiofkhbaaDoor.TreeFold Go.Proofs.YtgldkfaiofkhbaaDoor.Book Go.Proofs.YtgldkfaiofkhbaaDoor.Book2 Go.Proofs.YtgldkfaiofkhbaaDoor.Append Go.Proofs.YtgldkfaiofkhbaaDoor.TreeRefRoot Go.Proofs.YtgldkfaiofkhbaaDoor.Held Go.Proofs.YtgldkfaiofkhbaaDoor.Sides Go.Proofs.YtgldkfaiofkhbaaDoor.WayP Go.Proofs.YtgldkfaiofkhbaaDoor.RevP

end Go.Proofs.YtgldkfaiofkhbaaDoor.Way

namespace Go.Proofs.YtgldkfaiofkhbaaDoor.Joint
open Go Go.RowKit Go.Proofs.YtgldkfaiofkhbaaDoor Go.Proofs.YtgldkfaiofkhbaaDoor.Mem Go.Proofs.YtgldkfaiofkhbaaDoor.Sha Go.Proofs.YtgldkfaiofkhbaaDoor.Bytes Go.Proofs.YtgldkfaiofkhbaaDoor.Append Go.Proofs.YtgldkfaiofkhbaaDoor.QuietTail Go.Proofs.YtgldkfaiofkhbaaDoor.Grown Go.Proofs.YtgldkfaiofkhbaaDoor.TreeMath Go.Proofs.YtgldkfaiofkhbaaDoor.TreeMem Go.Proofs.YtgldkfaiofkhbaaDoor.Held Go.Proofs.YtgldkfaiofkhbaaDoor.Book Go.Proofs.YtgldkfaiofkhbaaDoor.TreeRefRoot Go.Proofs.YtgldkfaiofkhbaaDoor.Subs Go.Proofs.YtgldkfaiofkhbaaDoor.RowsP Go.Proofs.YtgldkfaiofkhbaaDoor.WayP

/-- What joint leaves: the rows as parts in new memory. -/
def JPost (T : TypeId) (w : World) (L : List (Nat × Nat)) (e : Ending) (w' : World) : Prop := ∃ v, e = .returned v ∧ w'.ownsRow w.heap.size T 2 v L.length (flatP L) ∧ Below w.heap.size w w'

set_option maxRecDepth 100000 in
set_option maxHeartbeats 1000000 in
theorem joint_known (fr tu : Nat) (w : World) : Calls Tryd.prog 117 #[.agg #[.int .i64 (fr : Int), .int .i64 (tu : Int)], .int .i64 (tu : Int), .bool true] w (JPost 176 w []) := by
  have hb1 : Hid (Below w.heap.size w (w.alloc (.cells #[.int .i64 (fr : Int), .int .i64 (tu : Int)] 176))) := Below.heap_below w _
  have y1 : ((tu : Int) == (tu : Int)) = true := beq_self_eq_true _
  go_enter Tryd.func117, Tryd.ntmps117
  go_wp2_with fail
  go_ret
  exact ⟨_, rfl, World.ownsRow_nil _ _ _ _, hb1.out⟩
set_option maxRecDepth 100000 in
set_option maxHeartbeats 1000000 in
theorem joint_spot (fr tu : Nat) (w : World) : Calls Tryd.prog 117 #[.agg #[.int .i64 (fr : Int), .int .i64 (tu : Int)], .int .i64 (tu : Int), .bool false] w (JPost 176 w [(fr, tu)]) := by
  obtain ⟨w1, hw1⟩ : ∃ w1, Hid (w1 = w.alloc (.cells #[.int .i64 (fr : Int), .int .i64 (tu : Int)] 176)) := ⟨_, rfl⟩
  have hb1 : Hid (Below w.heap.size w w1) := by show Below _ _ _; rw [hw1.out]; exact Below.heap_below w _
  have hP1 : Hid (Blk w1 w.heap.size 176 #[.int .i64 (fr : Int), .int .i64 (tu : Int)]) := by show Blk _ _ _ _; rw [hw1.out]; exact Blk.new w _ _
  have y1 : ((tu : Int) == (tu : Int)) = true := beq_self_eq_true _
  have hO : Hid ((w1.alloc (.cells (pcells (fr, tu)).toArray 176)).ownsRow w.heap.size 176 2 (.slice (some ⟨w1.heap.size, 0, none⟩) 1 1) 1 (pcells (fr, tu))) :=
    ⟨rfl, .inr ⟨w1.heap.size, 1, (pcells (fr, tu)).toArray, rfl, hb1.out.size, heap_alloc_new w1 _, Nat.le_refl _, by decide, rfl, rfl⟩⟩
  go_enter Tryd.func117, Tryd.ntmps117
  go_wp2_with fail
  go_ret
  have hz : w1.heap.size = w.heap.size + 1 := by rw [hw1.out]; simp
  have h := hO.out
  have h2 := hb1.out.alloc hb1.out.size (.cells (pcells (fr, tu)).toArray 176)
  rw [hz, hw1.out] at h
  rw [hw1.out] at h2
  exact ⟨_, rfl, h, h2⟩

set_option maxRecDepth 100000 in
set_option maxHeartbeats 1000000 in
theorem joint_left (fr tu old : Nat) (h1 : fr < old) (h2 : old < tu) (h40 : tu ≤ 1099511627776) (hl : old - fr ≤ half (tu - fr)) (kn : Bool) (L : List (Nat × Nat)) (hn : L.length ≤ 41) (w : World)
    (ih : ∀ w, Calls Tryd.prog 117 #[.agg #[.int .i64 (fr : Int), .int .i64 ((fr + half (tu - fr) : Nat) : Int)], .int .i64 (old : Int), .bool kn] w (JPost 176 w L)) :
    Calls Tryd.prog 117 #[.agg #[.int .i64 (fr : Int), .int .i64 (tu : Int)], .int .i64 (old : Int), .bool kn] w (JPost 176 w (L ++ [(fr + half (tu - fr), tu)])) := by
  obtain ⟨i0, ii, iz0, iz1, iz2⟩ := info_partsN infoP
  obtain ⟨w1, hw1⟩ : ∃ w1, Hid (w1 = w.alloc (.cells #[.int .i64 (fr : Int), .int .i64 (tu : Int)] 176)) := ⟨_, rfl⟩
  have hb1 : Hid (Below w.heap.size w w1) := by show Below _ _ _; rw [hw1.out]; exact Below.heap_below w _
  have hP1 : Hid (Blk w1 w.heap.size 176 #[.int .i64 (fr : Int), .int .i64 (tu : Int)]) := by show Blk _ _ _ _; rw [hw1.out]; exact Blk.new w _ _
  have y1 : ((old : Int) == (tu : Int)) = false := beq_eq_false_iff_ne.2 (by omega)
  have y2 : ¬ old = tu := by omega
  obtain ⟨d, hd⟩ : ∃ d, tu - fr = d := ⟨_, rfl⟩
  have hd2 : 2 ≤ d := by omega
  have hlt := half_lt hd2
  have hLf := Lib.hid (fun w' => left_any d hd2 (by omega) w')
  rw [hd] at ih hl ⊢
  obtain ⟨hh, hhe⟩ : ∃ h, half d = h := ⟨_, rfl⟩
  rw [hhe] at ih hl hLf hlt ⊢
  obtain ⟨k, hk⟩ : ∃ k, fr + hh = k := ⟨_, rfl⟩
  rw [hk] at ih ⊢
  have x0 : (tu : Int) - (fr : Int) = (d : Int) := by omega
  have x1 : (fr : Int) + (hh : Int) = (k : Int) := by omega
  have x2 : IntKind.i64.wrap ((tu : Int) - (fr : Int)) = (d : Int) := by rw [x0]; exact IntWalk.i64_in _ (by omega)
  have x3 : IntKind.i64.wrap ((fr : Int) + (hh : Int)) = (k : Int) := by rw [x1]; exact IntWalk.i64_in _ (by omega)
  have x4 : IntKind.i64.wrap (d : Int) = (d : Int) := IntWalk.i64_in _ (by omega)
  have x5 : IntKind.i64.wrap (k : Int) = (k : Int) := IntWalk.i64_in _ (by omega)
  have z1 : ((old : Int) ≤ (k : Int)) := by omega
  have hC : Hid (∀ w', Below w1.heap.size w1 w' → w'.cell? ⟨w.heap.size, 0, none⟩ = some (.int .i64 (fr : Int)) ∧ w'.cell? ⟨w.heap.size, 1, none⟩ = some (.int .i64 (tu : Int))) := fun w' hb => ⟨(hb.cell (p := ⟨w.heap.size, 0, none⟩) hP1.out.lt).trans (hP1.out.cell 0), (hb.cell (p := ⟨w.heap.size, 1, none⟩) hP1.out.lt).trans (hP1.out.cell 1)⟩
  obtain ⟨m, hm⟩ : ∃ m, L.length = m := ⟨_, rfl⟩
  have hm41 : Hid (m ≤ 41) := by show _ ≤ _; omega
  replace hm := Lib.hid hm
  replace ih := Lib.hid ih
  clear h1 h2 h40 hl hd hd2 hlt hhe hk hn
  go_enter Tryd.func117, Tryd.ntmps117
  go_wp2_with fail
  change (Code.region _ _ _).wp _ _ _ (w.alloc (.cells #[.int .i64 (fr : Int), .int .i64 (tu : Int)] 176))
  rw [← hw1.out]
  clear hw1
  refine wp_region_class (Class w1) (by kernel_rfl) (by kernel_rfl) (Class.mk_ ((Below.refl _ _).drew)) ?_
  refine wpQuiet_val (v := .pointer (some ⟨w.heap.size, 0, none⟩)) rfl (fun w' hw' => by go_simp) ?_
  (intro K hK; go_simp; refine hK _ ?_; clear hK K)
  refine wpQuiet_val (v := .int .i64 (fr : Int)) rfl (fun w' hw' => by have hc := (hC.out w' hw'.below).1; go_simp) ?_
  (intro K hK; go_simp; refine hK _ ?_; clear hK K)
  refine wpQuiet_val (v := .pointer (some ⟨w.heap.size, 1, none⟩)) rfl (fun w' hw' => by go_simp) ?_
  (intro K hK; go_simp; refine hK _ ?_; clear hK K)
  refine wpQuiet_val (v := .int .i64 (tu : Int)) rfl (fun w' hw' => by have hc := (hC.out w' hw'.below).2; go_simp) ?_
  (intro K hK; go_simp; refine hK _ ?_; clear hK K)
  refine wpQuiet_val (v := .pointer (some ⟨w.heap.size, 0, none⟩)) rfl (fun w' hw' => by go_simp) ?_
  (intro K hK; go_simp; refine hK _ ?_; clear hK K)
  refine wpQuiet_val (v := .int .i64 (fr : Int)) rfl (fun w' hw' => by have hc := (hC.out w' hw'.below).1; go_simp) ?_
  (intro K hK; go_simp; refine hK _ ?_; clear hK K)
  refine wpQuiet_val (v := .int .i64 (d : Int)) rfl (fun w' hw' => by go_simp) ?_
  (intro K hK; go_simp; refine hK _ ?_; clear hK K)
  refine wpQuiet_fn (v := .int .i64 (hh : Int)) (args := #[.int .i64 (d : Int)]) rfl _ _ rfl rfl Tryd.func111 (by kernel_rfl) (by kernel_rfl) (fun w' hw' => (hLf.out w').mono (fun e w'' ⟨he, hb⟩ => ⟨he, by rw [← hb]; exact hw'⟩)) ?_
  (intro K hK; go_simp; refine hK _ ?_; clear hK K)
  refine wpQuiet_val (v := .int .i64 (k : Int)) rfl (fun w' hw' => by go_simp) ?_
  (intro K hK; go_simp; refine hK _ ?_; clear hK K)
  refine wpQuiet_val (v := .int .i64 (k : Int)) rfl (fun w' hw' => by go_simp) ?_
  (intro K hK; go_simp; refine hK _ ?_; clear hK K)
  refine wpQuiet_nil ?_
  intro w2 hw2
  have hb2 : Hid (Below w.heap.size w w2) := hb1.out.trans (hw2.below.mono hb1.out.size)
  have hC2 : Hid (∀ w', Below w2.heap.size w2 w' → w'.cell? ⟨w.heap.size, 0, none⟩ = some (.int .i64 (fr : Int)) ∧ w'.cell? ⟨w.heap.size, 1, none⟩ = some (.int .i64 (tu : Int))) := fun w' hb => hC.out w' (hw2.below.trans (hb.mono hw2.below.size))
  clear hw2 hC hP1 hb1
  go_wp2_with fail
  have s0 : Hid (Below w2.heap.size w2 w2.drew) := (Below.refl _ _).drew
  refine held_start (fun w' => Below w2.heap.size w2 w') 14 rfl (by kernel_rfl) ?_
  refine held_take (i := 0) (v := .pointer (some ⟨w.heap.size, 0, none⟩)) rfl (by kernel_rfl) (by kernel_rfl) (by kernel_rfl) (fun _ _ _ h => h) s0.out (by rfl) (fun w' hw' => by go_simp) ?_
  (intro K hK; go_simp; refine hK _ ?_; clear hK K)
  refine held_take (i := 1) (v := .int .i64 (fr : Int)) rfl (by kernel_rfl) (by kernel_rfl) (by kernel_rfl) (fun _ _ _ h => h) s0.out (by rfl) (fun w' hw' => by have h := (hC2.out w' hw').1; go_simp) ?_
  (intro K hK; go_simp; refine hK _ ?_; clear hK K)
  refine held_take (i := 2) (v := .int .i64 (k : Int)) rfl (by kernel_rfl) (by kernel_rfl) (by kernel_rfl) (fun _ _ _ h => h) s0.out (by rfl) (fun w' hw' => run_mv (.tmp 7) rfl w') ?_
  (intro K hK; go_simp; refine hK _ ?_; clear hK K)
  refine held_take (i := 3) (v := .agg #[.int .i64 (fr : Int), .int .i64 (k : Int)]) rfl (by kernel_rfl) (by kernel_rfl) (by kernel_rfl) (fun _ _ _ h => h) s0.out (by rfl) (fun w' hw' => by go_simp) ?_
  (intro K hK; go_simp; refine hK _ ?_; clear hK K)
  refine held_take (i := 4) (v := .int .i64 (old : Int)) rfl (by kernel_rfl) (by kernel_rfl) (by kernel_rfl) (fun _ _ _ h => h) s0.out (by rfl) (fun w' hw' => run_mv (.tmp 1) rfl w') ?_
  (intro K hK; go_simp; refine hK _ ?_; clear hK K)
  refine held_take (i := 5) (v := .bool kn) rfl (by kernel_rfl) (by kernel_rfl) (by kernel_rfl) (fun _ _ _ h => h) s0.out (by rfl) (fun w' hw' => run_mv (.tmp 2) rfl w') ?_
  (intro K hK; go_simp; refine hK _ ?_; clear hK K)
  refine held_take (i := 7) (v := .int .i64 (k : Int)) rfl (by kernel_rfl) (by kernel_rfl) (by kernel_rfl) (fun _ _ _ h => h) s0.out (by rfl) (fun w' hw' => run_mv (.tmp 7) rfl w') ?_
  (intro K hK; go_simp; refine hK _ ?_; clear hK K)
  refine held_take (i := 8) (v := .pointer (some ⟨w.heap.size, 1, none⟩)) rfl (by kernel_rfl) (by kernel_rfl) (by kernel_rfl) (fun _ _ _ h => h) s0.out (by rfl) (fun w' hw' => by go_simp) ?_
  (intro K hK; go_simp; refine hK _ ?_; clear hK K)
  refine held_take (i := 9) (v := .int .i64 (tu : Int)) rfl (by kernel_rfl) (by kernel_rfl) (by kernel_rfl) (fun _ _ _ h => h) s0.out (by rfl) (fun w' hw' => by have h := (hC2.out w' hw').2; go_simp) ?_
  (intro K hK; go_simp; refine hK _ ?_; clear hK K)
  refine held_take (i := 10) (v := .agg #[.int .i64 (k : Int), .int .i64 (tu : Int)]) rfl (by kernel_rfl) (by kernel_rfl) (by kernel_rfl) (fun _ _ _ h => h) s0.out (by rfl) (fun w' hw' => by go_simp) ?_
  (intro K hK; go_simp; refine hK _ ?_; clear hK K)
  refine held_two (i := 6) (j := 11) rfl rfl (by kernel_rfl) (by rfl) (by rfl) (fun K hK => ?_) (fun K hK => ?_)
  · refine wp_fn (R := fun v w'' => w''.ownsRow w2.heap.size 176 2 v m (flatP L) ∧ Below w2.heap.size w2 w'' ∧ Below (w2.drew).heap.size (w2.drew) w'') (args := #[.agg #[.int .i64 (fr : Int), .int .i64 (k : Int)], .int .i64 (old : Int), .bool kn]) _ _ rfl rfl Tryd.func117 (by kernel_rfl) (by kernel_rfl) ((ih.out _).mono fun e w'' ⟨v, he, ho, hb⟩ => ⟨_, he, by rw [← hm.out]; exact ownsRow_base ho s0.out.size, s0.out.trans (hb.mono s0.out.size), hb⟩) ?_
    rintro v5 w5 ⟨hO, h5, kk⟩
    obtain ⟨Av, cv, rfl, -⟩ := Append.Own.reads hO
    replace hO := Lib.hid hO
    replace h5 := Lib.hid h5
    clear kk
    go_simp
    refine hK _ _ h5.out ?_
    clear hK K
    refine held_only (i := 11) rfl (by kernel_rfl) (by rfl) (fun K hK => ?_)
    refine wp_buildAggs 126 176 1 _ rfl 2 (by decide) [pcells (k, tu)] Tryd.underlying126 sizeP zeroP rfl (by decide) (by decide) (fun v hv => by simp only [List.mem_singleton] at hv; rw [hv]; rfl) rfl ?_
    have h6 : Hid (Below w2.heap.size w2 (w5.alloc (.cells (pcells (k, tu)).toArray 176))) := h5.out.alloc h5.out.size _
    have hN : Hid (Reads (w5.alloc (.cells (pcells (k, tu)).toArray 176)) 2 (some ⟨w5.heap.size, 0, none⟩) 1 (pcells (k, tu))) := Blk.reads (Blk.new w5 176 (pcells (k, tu)).toArray) 0 _ rfl (fun j u hu => by rw [Nat.zero_add, List.getElem?_toArray]; exact hu)
    change K _ (w5.alloc (.cells (pcells (k, tu)).toArray 176))
    replace hO : Hid ((w5.alloc (.cells (pcells (k, tu)).toArray 176)).ownsRow w2.heap.size 176 2 (.slice Av m cv) m (flatP L)) := own_below hO.out (Below.heap_below _ _)
    go_simp
    refine hK _ _ h6.out ?_
    clear hK K
    refine held_only (i := 12) rfl (by kernel_rfl) (by rfl) (fun K hK => ?_)
    refine wp_append_src _ (.tmp 33) (.tmp 38) 126 rfl w2.heap.size 176 i0 (.agg #[.int .i64 0, .int .i64 0]) 2 16 Tryd.underlying126 ii iz0 iz1 iz2 rfl (by decide) (.slice Av m cv) m (flatP L) rfl hO.out (some ⟨w5.heap.size, 0, none⟩) 1 1 (pcells (k, tu)) rfl hN.out (fun e => by cases e) (pcells_one _) (cap_parts (by have := hm41.out; omega)).1 (cap_parts (by have := hm41.out; omega)).2 h6.out.size ?_
    intro v8 w8 hG
    have hO8 : w8.ownsRow w2.heap.size 176 2 v8 (m + 1) (flatP (L ++ [(k, tu)])) := by rw [flatP_snoc]; exact hG.own
    have hin : Below w2.heap.size w2 w8 := hG.below h6.out h6.out.size (fun q e => (hO.out.lt q e).1)
    have hb8 : Hid (Below w.heap.size w w8) := hb2.out.trans (hin.mono hb2.out.size)
    obtain ⟨A8, c8, rfl, -⟩ := Append.Own.reads hO8
    replace hO8 := Lib.hid hO8
    go_simp
    refine hK _ _ hin ?_
    clear hK K
    refine held_take (i := 13) (v := .slice A8 (m + 1) c8) rfl (by kernel_rfl) (by kernel_rfl) (by kernel_rfl) (fun _ _ _ h => h) hin (by rfl) (fun w' hw' => by first | go_simp | rfl) ?_
    (intro K hK; go_simp; refine hK _ ?_; clear hK K)
    refine held_end (by kernel_rfl) ?_
    go_wp2_with fail
    go_ret
    exact ⟨_, rfl, by rw [List.length_append, hm.out]; exact ownsRow_base hO8.out hb2.out.size, hb8.out⟩
  · refine wp_buildAggs 126 176 1 _ rfl 2 (by decide) [pcells (k, tu)] Tryd.underlying126 sizeP zeroP rfl (by decide) (by decide) (fun v hv => by simp only [List.mem_singleton] at hv; rw [hv]; rfl) rfl ?_
    have h5 : Hid (Below w2.heap.size w2 (w2.drew.alloc (.cells (pcells (k, tu)).toArray 176))) := s0.out.alloc s0.out.size _
    have hN : Hid (Reads (w2.drew.alloc (.cells (pcells (k, tu)).toArray 176)) 2 (some ⟨w2.drew.heap.size, 0, none⟩) 1 (pcells (k, tu))) := Blk.reads (Blk.new w2.drew 176 (pcells (k, tu)).toArray) 0 _ rfl (fun j u hu => by rw [Nat.zero_add, List.getElem?_toArray]; exact hu)
    change K _ (w2.drew.alloc (.cells (pcells (k, tu)).toArray 176))
    go_simp
    refine hK _ _ h5.out ?_
    clear hK K
    refine held_only (i := 6) rfl (by kernel_rfl) (by rfl) (fun K hK => ?_)
    refine wp_fn (R := fun v w'' => w''.ownsRow w2.heap.size 176 2 v m (flatP L) ∧ Below w2.heap.size w2 w'' ∧ Below (w2.drew.alloc (.cells (pcells (k, tu)).toArray 176)).heap.size (w2.drew.alloc (.cells (pcells (k, tu)).toArray 176)) w'') (args := #[.agg #[.int .i64 (fr : Int), .int .i64 (k : Int)], .int .i64 (old : Int), .bool kn]) _ _ rfl rfl Tryd.func117 (by kernel_rfl) (by kernel_rfl) ((ih.out _).mono fun e w'' ⟨v, he, ho, hb⟩ => ⟨_, he, by rw [← hm.out]; exact ownsRow_base ho h5.out.size, h5.out.trans (hb.mono h5.out.size), hb⟩) ?_
    rintro v6 w6 ⟨hO, h6, kk⟩
    obtain ⟨Av, cv, rfl, -⟩ := Append.Own.reads hO
    replace hO := Lib.hid hO
    replace h6 := Lib.hid h6
    replace hN := Lib.hid (hN.out.below kk)
    clear kk
    go_simp
    refine hK _ _ h6.out ?_
    clear hK K
    refine held_only (i := 12) rfl (by kernel_rfl) (by rfl) (fun K hK => ?_)
    refine wp_append_src _ (.tmp 33) (.tmp 38) 126 rfl w2.heap.size 176 i0 (.agg #[.int .i64 0, .int .i64 0]) 2 16 Tryd.underlying126 ii iz0 iz1 iz2 rfl (by decide) (.slice Av m cv) m (flatP L) rfl hO.out (some ⟨w2.drew.heap.size, 0, none⟩) 1 1 (pcells (k, tu)) rfl hN.out (fun e => by cases e) (pcells_one _) (cap_parts (by have := hm41.out; omega)).1 (cap_parts (by have := hm41.out; omega)).2 h6.out.size ?_
    intro v8 w8 hG
    have hO8 : w8.ownsRow w2.heap.size 176 2 v8 (m + 1) (flatP (L ++ [(k, tu)])) := by rw [flatP_snoc]; exact hG.own
    have hin : Below w2.heap.size w2 w8 := hG.below h6.out h6.out.size (fun q e => (hO.out.lt q e).1)
    have hb8 : Hid (Below w.heap.size w w8) := hb2.out.trans (hin.mono hb2.out.size)
    obtain ⟨A8, c8, rfl, -⟩ := Append.Own.reads hO8
    replace hO8 := Lib.hid hO8
    go_simp
    refine hK _ _ hin ?_
    clear hK K
    refine held_take (i := 13) (v := .slice A8 (m + 1) c8) rfl (by kernel_rfl) (by kernel_rfl) (by kernel_rfl) (fun _ _ _ h => h) hin (by rfl) (fun w' hw' => by first | go_simp | rfl) ?_
    (intro K hK; go_simp; refine hK _ ?_; clear hK K)
    refine held_end (by kernel_rfl) ?_
    go_wp2_with fail
    go_ret
    exact ⟨_, rfl, by rw [List.length_append, hm.out]; exact ownsRow_base hO8.out hb2.out.size, hb8.out⟩

set_option maxRecDepth 100000 in
set_option maxHeartbeats 1000000 in
theorem joint_right (fr tu old : Nat) (h1 : fr < old) (h2 : old < tu) (h40 : tu ≤ 1099511627776) (hl : half (tu - fr) < old - fr) (kn : Bool) (L : List (Nat × Nat)) (hn : L.length ≤ 41) (w : World)
    (ih : ∀ w, Calls Tryd.prog 117 #[.agg #[.int .i64 ((fr + half (tu - fr) : Nat) : Int), .int .i64 (tu : Int)], .int .i64 (old : Int), .bool false] w (JPost 176 w L)) :
    Calls Tryd.prog 117 #[.agg #[.int .i64 (fr : Int), .int .i64 (tu : Int)], .int .i64 (old : Int), .bool kn] w (JPost 176 w (L ++ [(fr, fr + half (tu - fr))])) := by
  obtain ⟨i0, ii, iz0, iz1, iz2⟩ := info_partsN infoP
  obtain ⟨w1, hw1⟩ : ∃ w1, Hid (w1 = w.alloc (.cells #[.int .i64 (fr : Int), .int .i64 (tu : Int)] 176)) := ⟨_, rfl⟩
  have hb1 : Hid (Below w.heap.size w w1) := by show Below _ _ _; rw [hw1.out]; exact Below.heap_below w _
  have hP1 : Hid (Blk w1 w.heap.size 176 #[.int .i64 (fr : Int), .int .i64 (tu : Int)]) := by show Blk _ _ _ _; rw [hw1.out]; exact Blk.new w _ _
  have y1 : ((old : Int) == (tu : Int)) = false := beq_eq_false_iff_ne.2 (by omega)
  have y2 : ¬ old = tu := by omega
  obtain ⟨d, hd⟩ : ∃ d, tu - fr = d := ⟨_, rfl⟩
  have hd2 : 2 ≤ d := by omega
  have hlt := half_lt hd2
  have hLf := Lib.hid (fun w' => left_any d hd2 (by omega) w')
  rw [hd] at ih hl ⊢
  obtain ⟨hh, hhe⟩ : ∃ h, half d = h := ⟨_, rfl⟩
  rw [hhe] at ih hl hLf hlt ⊢
  obtain ⟨k, hk⟩ : ∃ k, fr + hh = k := ⟨_, rfl⟩
  rw [hk] at ih ⊢
  have x0 : (tu : Int) - (fr : Int) = (d : Int) := by omega
  have x1 : (fr : Int) + (hh : Int) = (k : Int) := by omega
  have x2 : IntKind.i64.wrap ((tu : Int) - (fr : Int)) = (d : Int) := by rw [x0]; exact IntWalk.i64_in _ (by omega)
  have x3 : IntKind.i64.wrap ((fr : Int) + (hh : Int)) = (k : Int) := by rw [x1]; exact IntWalk.i64_in _ (by omega)
  have x4 : IntKind.i64.wrap (d : Int) = (d : Int) := IntWalk.i64_in _ (by omega)
  have x5 : IntKind.i64.wrap (k : Int) = (k : Int) := IntWalk.i64_in _ (by omega)
  have z1 : ¬ ((old : Int) ≤ (k : Int)) := by omega
  have hC : Hid (∀ w', Below w1.heap.size w1 w' → w'.cell? ⟨w.heap.size, 0, none⟩ = some (.int .i64 (fr : Int)) ∧ w'.cell? ⟨w.heap.size, 1, none⟩ = some (.int .i64 (tu : Int))) := fun w' hb => ⟨(hb.cell (p := ⟨w.heap.size, 0, none⟩) hP1.out.lt).trans (hP1.out.cell 0), (hb.cell (p := ⟨w.heap.size, 1, none⟩) hP1.out.lt).trans (hP1.out.cell 1)⟩
  obtain ⟨m, hm⟩ : ∃ m, L.length = m := ⟨_, rfl⟩
  have hm41 : Hid (m ≤ 41) := by show _ ≤ _; omega
  replace hm := Lib.hid hm
  replace ih := Lib.hid ih
  clear h1 h2 h40 hl hd hd2 hlt hhe hk hn
  go_enter Tryd.func117, Tryd.ntmps117
  go_wp2_with fail
  change (Code.region _ _ _).wp _ _ _ (w.alloc (.cells #[.int .i64 (fr : Int), .int .i64 (tu : Int)] 176))
  rw [← hw1.out]
  clear hw1
  refine wp_region_class (Class w1) (by kernel_rfl) (by kernel_rfl) (Class.mk_ ((Below.refl _ _).drew)) ?_
  refine wpQuiet_val (v := .pointer (some ⟨w.heap.size, 0, none⟩)) rfl (fun w' hw' => by go_simp) ?_
  (intro K hK; go_simp; refine hK _ ?_; clear hK K)
  refine wpQuiet_val (v := .int .i64 (fr : Int)) rfl (fun w' hw' => by have hc := (hC.out w' hw'.below).1; go_simp) ?_
  (intro K hK; go_simp; refine hK _ ?_; clear hK K)
  refine wpQuiet_val (v := .pointer (some ⟨w.heap.size, 1, none⟩)) rfl (fun w' hw' => by go_simp) ?_
  (intro K hK; go_simp; refine hK _ ?_; clear hK K)
  refine wpQuiet_val (v := .int .i64 (tu : Int)) rfl (fun w' hw' => by have hc := (hC.out w' hw'.below).2; go_simp) ?_
  (intro K hK; go_simp; refine hK _ ?_; clear hK K)
  refine wpQuiet_val (v := .pointer (some ⟨w.heap.size, 0, none⟩)) rfl (fun w' hw' => by go_simp) ?_
  (intro K hK; go_simp; refine hK _ ?_; clear hK K)
  refine wpQuiet_val (v := .int .i64 (fr : Int)) rfl (fun w' hw' => by have hc := (hC.out w' hw'.below).1; go_simp) ?_
  (intro K hK; go_simp; refine hK _ ?_; clear hK K)
  refine wpQuiet_val (v := .int .i64 (d : Int)) rfl (fun w' hw' => by go_simp) ?_
  (intro K hK; go_simp; refine hK _ ?_; clear hK K)
  refine wpQuiet_fn (v := .int .i64 (hh : Int)) (args := #[.int .i64 (d : Int)]) rfl _ _ rfl rfl Tryd.func111 (by kernel_rfl) (by kernel_rfl) (fun w' hw' => (hLf.out w').mono (fun e w'' ⟨he, hb⟩ => ⟨he, by rw [← hb]; exact hw'⟩)) ?_
  (intro K hK; go_simp; refine hK _ ?_; clear hK K)
  refine wpQuiet_val (v := .int .i64 (k : Int)) rfl (fun w' hw' => by go_simp) ?_
  (intro K hK; go_simp; refine hK _ ?_; clear hK K)
  refine wpQuiet_val (v := .int .i64 (k : Int)) rfl (fun w' hw' => by go_simp) ?_
  (intro K hK; go_simp; refine hK _ ?_; clear hK K)
  refine wpQuiet_nil ?_
  intro w2 hw2
  have hb2 : Hid (Below w.heap.size w w2) := hb1.out.trans (hw2.below.mono hb1.out.size)
  have hC2 : Hid (∀ w', Below w2.heap.size w2 w' → w'.cell? ⟨w.heap.size, 0, none⟩ = some (.int .i64 (fr : Int)) ∧ w'.cell? ⟨w.heap.size, 1, none⟩ = some (.int .i64 (tu : Int))) := fun w' hb => hC.out w' (hw2.below.trans (hb.mono hw2.below.size))
  clear hw2 hC hP1 hb1
  go_wp2_with fail
  have s0 : Hid (Below w2.heap.size w2 w2.drew) := (Below.refl _ _).drew
  refine held_start (fun w' => Below w2.heap.size w2 w') 13 rfl (by kernel_rfl) ?_
  refine held_take (i := 0) (v := .int .i64 (k : Int)) rfl (by kernel_rfl) (by kernel_rfl) (by kernel_rfl) (fun _ _ _ h => h) s0.out (by rfl) (fun w' hw' => run_mv (.tmp 7) rfl w') ?_
  (intro K hK; go_simp; refine hK _ ?_; clear hK K)
  refine held_take (i := 1) (v := .pointer (some ⟨w.heap.size, 1, none⟩)) rfl (by kernel_rfl) (by kernel_rfl) (by kernel_rfl) (fun _ _ _ h => h) s0.out (by rfl) (fun w' hw' => by go_simp) ?_
  (intro K hK; go_simp; refine hK _ ?_; clear hK K)
  refine held_take (i := 2) (v := .int .i64 (tu : Int)) rfl (by kernel_rfl) (by kernel_rfl) (by kernel_rfl) (fun _ _ _ h => h) s0.out (by rfl) (fun w' hw' => by have h := (hC2.out w' hw').2; go_simp) ?_
  (intro K hK; go_simp; refine hK _ ?_; clear hK K)
  refine held_take (i := 3) (v := .agg #[.int .i64 (k : Int), .int .i64 (tu : Int)]) rfl (by kernel_rfl) (by kernel_rfl) (by kernel_rfl) (fun _ _ _ h => h) s0.out (by rfl) (fun w' hw' => by go_simp) ?_
  (intro K hK; go_simp; refine hK _ ?_; clear hK K)
  refine held_take (i := 4) (v := .int .i64 (old : Int)) rfl (by kernel_rfl) (by kernel_rfl) (by kernel_rfl) (fun _ _ _ h => h) s0.out (by rfl) (fun w' hw' => run_mv (.tmp 1) rfl w') ?_
  (intro K hK; go_simp; refine hK _ ?_; clear hK K)
  refine held_take (i := 6) (v := .pointer (some ⟨w.heap.size, 0, none⟩)) rfl (by kernel_rfl) (by kernel_rfl) (by kernel_rfl) (fun _ _ _ h => h) s0.out (by rfl) (fun w' hw' => by go_simp) ?_
  (intro K hK; go_simp; refine hK _ ?_; clear hK K)
  refine held_take (i := 7) (v := .int .i64 (fr : Int)) rfl (by kernel_rfl) (by kernel_rfl) (by kernel_rfl) (fun _ _ _ h => h) s0.out (by rfl) (fun w' hw' => by have h := (hC2.out w' hw').1; go_simp) ?_
  (intro K hK; go_simp; refine hK _ ?_; clear hK K)
  refine held_take (i := 8) (v := .int .i64 (k : Int)) rfl (by kernel_rfl) (by kernel_rfl) (by kernel_rfl) (fun _ _ _ h => h) s0.out (by rfl) (fun w' hw' => run_mv (.tmp 7) rfl w') ?_
  (intro K hK; go_simp; refine hK _ ?_; clear hK K)
  refine held_take (i := 9) (v := .agg #[.int .i64 (fr : Int), .int .i64 (k : Int)]) rfl (by kernel_rfl) (by kernel_rfl) (by kernel_rfl) (fun _ _ _ h => h) s0.out (by rfl) (fun w' hw' => by go_simp) ?_
  (intro K hK; go_simp; refine hK _ ?_; clear hK K)
  refine held_two (i := 5) (j := 10) rfl rfl (by kernel_rfl) (by rfl) (by rfl) (fun K hK => ?_) (fun K hK => ?_)
  · refine wp_fn (R := fun v w'' => w''.ownsRow w2.heap.size 176 2 v m (flatP L) ∧ Below w2.heap.size w2 w'' ∧ Below (w2.drew).heap.size (w2.drew) w'') (args := #[.agg #[.int .i64 (k : Int), .int .i64 (tu : Int)], .int .i64 (old : Int), .bool false]) _ _ rfl rfl Tryd.func117 (by kernel_rfl) (by kernel_rfl) ((ih.out _).mono fun e w'' ⟨v, he, ho, hb⟩ => ⟨_, he, by rw [← hm.out]; exact ownsRow_base ho s0.out.size, s0.out.trans (hb.mono s0.out.size), hb⟩) ?_
    rintro v5 w5 ⟨hO, h5, kk⟩
    obtain ⟨Av, cv, rfl, -⟩ := Append.Own.reads hO
    replace hO := Lib.hid hO
    replace h5 := Lib.hid h5
    clear kk
    go_simp
    refine hK _ _ h5.out ?_
    clear hK K
    refine held_only (i := 10) rfl (by kernel_rfl) (by rfl) (fun K hK => ?_)
    refine wp_buildAggs 126 176 1 _ rfl 2 (by decide) [pcells (fr, k)] Tryd.underlying126 sizeP zeroP rfl (by decide) (by decide) (fun v hv => by simp only [List.mem_singleton] at hv; rw [hv]; rfl) rfl ?_
    have h6 : Hid (Below w2.heap.size w2 (w5.alloc (.cells (pcells (fr, k)).toArray 176))) := h5.out.alloc h5.out.size _
    have hN : Hid (Reads (w5.alloc (.cells (pcells (fr, k)).toArray 176)) 2 (some ⟨w5.heap.size, 0, none⟩) 1 (pcells (fr, k))) := Blk.reads (Blk.new w5 176 (pcells (fr, k)).toArray) 0 _ rfl (fun j u hu => by rw [Nat.zero_add, List.getElem?_toArray]; exact hu)
    change K _ (w5.alloc (.cells (pcells (fr, k)).toArray 176))
    replace hO : Hid ((w5.alloc (.cells (pcells (fr, k)).toArray 176)).ownsRow w2.heap.size 176 2 (.slice Av m cv) m (flatP L)) := own_below hO.out (Below.heap_below _ _)
    go_simp
    refine hK _ _ h6.out ?_
    clear hK K
    refine held_only (i := 11) rfl (by kernel_rfl) (by rfl) (fun K hK => ?_)
    refine wp_append_src _ (.tmp 45) (.tmp 50) 126 rfl w2.heap.size 176 i0 (.agg #[.int .i64 0, .int .i64 0]) 2 16 Tryd.underlying126 ii iz0 iz1 iz2 rfl (by decide) (.slice Av m cv) m (flatP L) rfl hO.out (some ⟨w5.heap.size, 0, none⟩) 1 1 (pcells (fr, k)) rfl hN.out (fun e => by cases e) (pcells_one _) (cap_parts (by have := hm41.out; omega)).1 (cap_parts (by have := hm41.out; omega)).2 h6.out.size ?_
    intro v8 w8 hG
    have hO8 : w8.ownsRow w2.heap.size 176 2 v8 (m + 1) (flatP (L ++ [(fr, k)])) := by rw [flatP_snoc]; exact hG.own
    have hin : Below w2.heap.size w2 w8 := hG.below h6.out h6.out.size (fun q e => (hO.out.lt q e).1)
    have hb8 : Hid (Below w.heap.size w w8) := hb2.out.trans (hin.mono hb2.out.size)
    obtain ⟨A8, c8, rfl, -⟩ := Append.Own.reads hO8
    replace hO8 := Lib.hid hO8
    go_simp
    refine hK _ _ hin ?_
    clear hK K
    refine held_take (i := 12) (v := .slice A8 (m + 1) c8) rfl (by kernel_rfl) (by kernel_rfl) (by kernel_rfl) (fun _ _ _ h => h) hin (by rfl) (fun w' hw' => by first | go_simp | rfl) ?_
    (intro K hK; go_simp; refine hK _ ?_; clear hK K)
    refine held_end (by kernel_rfl) ?_
    go_wp2_with fail
    go_ret
    exact ⟨_, rfl, by rw [List.length_append, hm.out]; exact ownsRow_base hO8.out hb2.out.size, hb8.out⟩
  · refine wp_buildAggs 126 176 1 _ rfl 2 (by decide) [pcells (fr, k)] Tryd.underlying126 sizeP zeroP rfl (by decide) (by decide) (fun v hv => by simp only [List.mem_singleton] at hv; rw [hv]; rfl) rfl ?_
    have h5 : Hid (Below w2.heap.size w2 (w2.drew.alloc (.cells (pcells (fr, k)).toArray 176))) := s0.out.alloc s0.out.size _
    have hN : Hid (Reads (w2.drew.alloc (.cells (pcells (fr, k)).toArray 176)) 2 (some ⟨w2.drew.heap.size, 0, none⟩) 1 (pcells (fr, k))) := Blk.reads (Blk.new w2.drew 176 (pcells (fr, k)).toArray) 0 _ rfl (fun j u hu => by rw [Nat.zero_add, List.getElem?_toArray]; exact hu)
    change K _ (w2.drew.alloc (.cells (pcells (fr, k)).toArray 176))
    go_simp
    refine hK _ _ h5.out ?_
    clear hK K
    refine held_only (i := 5) rfl (by kernel_rfl) (by rfl) (fun K hK => ?_)
    refine wp_fn (R := fun v w'' => w''.ownsRow w2.heap.size 176 2 v m (flatP L) ∧ Below w2.heap.size w2 w'' ∧ Below (w2.drew.alloc (.cells (pcells (fr, k)).toArray 176)).heap.size (w2.drew.alloc (.cells (pcells (fr, k)).toArray 176)) w'') (args := #[.agg #[.int .i64 (k : Int), .int .i64 (tu : Int)], .int .i64 (old : Int), .bool false]) _ _ rfl rfl Tryd.func117 (by kernel_rfl) (by kernel_rfl) ((ih.out _).mono fun e w'' ⟨v, he, ho, hb⟩ => ⟨_, he, by rw [← hm.out]; exact ownsRow_base ho h5.out.size, h5.out.trans (hb.mono h5.out.size), hb⟩) ?_
    rintro v6 w6 ⟨hO, h6, kk⟩
    obtain ⟨Av, cv, rfl, -⟩ := Append.Own.reads hO
    replace hO := Lib.hid hO
    replace h6 := Lib.hid h6
    replace hN := Lib.hid (hN.out.below kk)
    clear kk
    go_simp
    refine hK _ _ h6.out ?_
    clear hK K
    refine held_only (i := 11) rfl (by kernel_rfl) (by rfl) (fun K hK => ?_)
    refine wp_append_src _ (.tmp 45) (.tmp 50) 126 rfl w2.heap.size 176 i0 (.agg #[.int .i64 0, .int .i64 0]) 2 16 Tryd.underlying126 ii iz0 iz1 iz2 rfl (by decide) (.slice Av m cv) m (flatP L) rfl hO.out (some ⟨w2.drew.heap.size, 0, none⟩) 1 1 (pcells (fr, k)) rfl hN.out (fun e => by cases e) (pcells_one _) (cap_parts (by have := hm41.out; omega)).1 (cap_parts (by have := hm41.out; omega)).2 h6.out.size ?_
    intro v8 w8 hG
    have hO8 : w8.ownsRow w2.heap.size 176 2 v8 (m + 1) (flatP (L ++ [(fr, k)])) := by rw [flatP_snoc]; exact hG.own
    have hin : Below w2.heap.size w2 w8 := hG.below h6.out h6.out.size (fun q e => (hO.out.lt q e).1)
    have hb8 : Hid (Below w.heap.size w w8) := hb2.out.trans (hin.mono hb2.out.size)
    obtain ⟨A8, c8, rfl, -⟩ := Append.Own.reads hO8
    replace hO8 := Lib.hid hO8
    go_simp
    refine hK _ _ hin ?_
    clear hK K
    refine held_take (i := 12) (v := .slice A8 (m + 1) c8) rfl (by kernel_rfl) (by kernel_rfl) (by kernel_rfl) (fun _ _ _ h => h) hin (by rfl) (fun w' hw' => by first | go_simp | rfl) ?_
    (intro K hK; go_simp; refine hK _ ?_; clear hK K)
    refine held_end (by kernel_rfl) ?_
    go_wp2_with fail
    go_ret
    exact ⟨_, rfl, by rw [List.length_append, hm.out]; exact ownsRow_base hO8.out hb2.out.size, hb8.out⟩
theorem joint_any : ∀ (L fr tu old : Nat) (kn : Bool) (w : World), fr < old → old ≤ tu → tu - fr ≤ 2 ^ L → L ≤ 40 → tu ≤ 1099511627776 →
    Calls Tryd.prog 117 #[.agg #[.int .i64 (fr : Int), .int .i64 (tu : Int)], .int .i64 (old : Int), .bool kn] w (JPost 176 w (rowsL fr tu old kn))
  | L, fr, tu, old, kn, w, h1, h2, h, hL, h40 => by
    by_cases e : old = tu
    · subst e
      rw [rowsL_same h1]
      cases kn with
      | true => exact joint_known fr old w
      | false => exact joint_spot fr old w
    · have hlt := half_lt (n := tu - fr) (by omega)
      have hge := half_ge (tu - fr)
      cases L with
      | zero => simp at h; omega
      | succ L =>
        have hb := half_le_pow (n := tu - fr) (by omega) h
        have hp : 2 ^ (L + 1) ≤ 1099511627776 := by
          rw [show (1099511627776 : Nat) = 2 ^ 40 by decide]
          exact Nat.pow_le_pow_right (by omega) hL
        by_cases c : old - fr ≤ half (tu - fr)
        · rw [rowsL_left h1 (by omega) c]
          have hn := rowsL_len (tu - fr) fr (fr + half (tu - fr)) old kn (by omega) h1 (by omega)
          have h41 := subC_le 40 (old - fr) (fr + half (tu - fr) - fr) kn (by omega) (by omega) (by rw [show (2 : Nat) ^ 40 = 1099511627776 by decide]; omega)
          exact joint_left fr tu old h1 (by omega) h40 c kn _ (by omega) w (fun w => joint_any L fr (fr + half (tu - fr)) old kn w h1 (by omega) (by omega) (by omega) (by omega))
        · rw [rowsL_right h1 (by omega) (by omega)]
          have hn := rowsL_len (tu - fr) (fr + half (tu - fr)) tu old false (by omega) (by omega) (by omega)
          have h41 := subC_le 40 (old - (fr + half (tu - fr))) (tu - (fr + half (tu - fr))) false (by omega) (by omega) (by rw [show (2 : Nat) ^ 40 = 1099511627776 by decide]; omega)
          exact joint_right fr tu old h1 (by omega) h40 (by omega) kn _ (by omega) w (fun w => joint_any L (fr + half (tu - fr)) tu old false w (by omega) (by omega) (by omega) (by omega) h40)

set_option maxRecDepth 100000 in
set_option maxHeartbeats 1000000 in
theorem sizes_any (old size : Int) (w : World) : Calls Tryd.prog 70 #[.int .i64 old, .int .i64 size] w fun e w' => e = .returned (.bool (joinsB old size)) ∧ w = w' := by
  have hk : Hid (joinsB old size = (decide (0 ≤ old) && decide (old ≤ size) && decide (size ≤ 1099511627776))) := rfl
  generalize joinsB old size = b at *
  rcases Bool.eq_false_or_eq_true (decide (0 ≤ old)) with b1 | b1 <;> rcases Bool.eq_false_or_eq_true (decide (old ≤ size)) with b2 | b2 <;> rcases Bool.eq_false_or_eq_true (decide (size ≤ 1099511627776)) with b3 | b3
  all_goals
    have k1 := Lib.hid b1
    have k2 := Lib.hid b2
    have k3 := Lib.hid b3
    go_enter Tryd.func70, Tryd.ntmps70
    go_wp2_with fail
    go_ret
    refine ⟨?_, rfl⟩
    rw [hk.out, k1.out, k2.out, k3.out]
    rfl

set_option maxRecDepth 100000 in
set_option maxHeartbeats 1000000 in
theorem parts_any (old size : Nat) (h : old ≤ size) (hs : size ≤ 1099511627776) (w : World) : Calls Tryd.prog 71 #[.int .i64 (old : Int), .int .i64 (size : Int)] w (JPost 176 w (partsOf old size)) := by
  by_cases h0 : old = 0
  · subst h0
    rw [show partsOf 0 size = [] from if_pos (.inl rfl)]
    clear h hs
    go_enter Tryd.func71, Tryd.ntmps71
    go_wp2_with fail
    go_ret
    exact ⟨_, rfl, World.ownsRow_nil _ _ _ _, Below.refl _ _⟩
  · have y1 : ((old : Int) == 0) = false := beq_eq_false_iff_ne.2 (by omega)
    by_cases he : old = size
    · rw [show partsOf old size = [] from if_pos (.inr he)]
      subst he
      have y2 : ((old : Int) == (old : Int)) = true := beq_self_eq_true _
      clear h hs
      go_enter Tryd.func71, Tryd.ntmps71
      go_wp2_with fail
      go_ret
      exact ⟨_, rfl, World.ownsRow_nil _ _ _ _, Below.refl _ _⟩
    · rw [show partsOf old size = rowsL 0 size old true from if_neg (fun h => h.elim h0 he)]
      have y2 : ((old : Int) == (size : Int)) = false := beq_eq_false_iff_ne.2 (by omega)
      have y3 : ¬ old = size := he
      have hT := Lib.hid (fun w' => joint_any 40 0 size old true w' (by omega) h (by rw [show (2 : Nat) ^ 40 = 1099511627776 by decide]; omega) (Nat.le_refl _) hs)
      clear h hs
      go_enter Tryd.func71, Tryd.ntmps71
      go_wp2_with fail
      refine (hT.out w).mono ?_
      rintro e w1 ⟨v, rfl, hO, hb⟩
      obtain ⟨Av, cv, rfl, -⟩ := Append.Own.reads hO
      replace hO := Lib.hid hO
      replace hb := Lib.hid hb
      go_wp2_with fail
      go_ret
      exact ⟨_, rfl, hO.out, hb.out⟩
end Go.Proofs.YtgldkfaiofkhbaaDoor.Joint

namespace Go.Proofs.YtgldkfaiofkhbaaDoor.Levels
open Go Go.RowKit Go.Proofs.YtgldkfaiofkhbaaDoor Go.Proofs.YtgldkfaiofkhbaaDoor.Mem Go.Proofs.YtgldkfaiofkhbaaDoor.Sha Go.Proofs.YtgldkfaiofkhbaaDoor.Bytes Go.Proofs.YtgldkfaiofkhbaaDoor.Sides Go.Proofs.YtgldkfaiofkhbaaDoor.RefSides

/-- The neighbour's first leaf at level l. -/
def nbAt (i l : Nat) : Nat := (i / 2 ^ l ^^^ 1) * 2 ^ l
/-- How many levels a tree of that size has. -/
def levels (size : Nat) : Nat := if size ≤ 1 then 0 else Nat.log2 (size - 1) + 1
end Go.Proofs.YtgldkfaiofkhbaaDoor.Levels

namespace Go.Proofs.YtgldkfaiofkhbaaDoor.SubRef
open Go Go.RowKit Go.Proofs.YtgldkfaiofkhbaaDoor Go.Proofs.YtgldkfaiofkhbaaDoor.Mem Go.Proofs.YtgldkfaiofkhbaaDoor.Sha Go.Proofs.YtgldkfaiofkhbaaDoor.Bytes Go.Proofs.YtgldkfaiofkhbaaDoor.Append Go.Proofs.YtgldkfaiofkhbaaDoor.QuietTail Go.Proofs.YtgldkfaiofkhbaaDoor.Grown Go.Proofs.YtgldkfaiofkhbaaDoor.TreeMath Go.Proofs.YtgldkfaiofkhbaaDoor.TreeMem Go.Proofs.YtgldkfaiofkhbaaDoor.Held Go.Proofs.YtgldkfaiofkhbaaDoor.Book Go.Proofs.YtgldkfaiofkhbaaDoor.TreeRefRoot Go.Proofs.YtgldkfaiofkhbaaDoor.Subs Go.Proofs.YtgldkfaiofkhbaaDoor.RowsP Go.Proofs.YtgldkfaiofkhbaaDoor.WayP Go.Proofs.YtgldkfaiofkhbaaDoor.Joint

end Go.Proofs.YtgldkfaiofkhbaaDoor.SubRef
