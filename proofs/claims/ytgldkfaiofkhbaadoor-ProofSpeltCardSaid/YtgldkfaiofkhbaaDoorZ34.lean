/-
  Texts of the claim, put into one file: TreeRefRoot, TreeRoots, WayP, RevP, Levels, WayRows, WayX, Way, Joint.
-/
import Derived.Test.YtgldkfaiofkhbaaDoorZ8
import Derived.Test.YtgldkfaiofkhbaaDoorZ9
import Derived.Test.YtgldkfaiofkhbaaDoorZ11
import Derived.Test.YtgldkfaiofkhbaaDoorZ33
import Derived.Test.YtgldkfaiofkhbaaDoorZ0
import Derived.Outline

namespace Go.Proofs.YtgldkfaiofkhbaaDoor.TreeRefRoot
open Go Go.RowKit Go.Proofs.YtgldkfaiofkhbaaDoor Go.Proofs.YtgldkfaiofkhbaaDoor.Digest Go.Proofs.YtgldkfaiofkhbaaDoor.Mem Go.Proofs.YtgldkfaiofkhbaaDoor.Sha Go.Proofs.YtgldkfaiofkhbaaDoor.ShaWalk Go.Proofs.YtgldkfaiofkhbaaDoor.Bytes Go.Proofs.YtgldkfaiofkhbaaDoor.HashMem Go.Proofs.YtgldkfaiofkhbaaDoor.DigestMem Go.Proofs.YtgldkfaiofkhbaaDoor.DigestTop Go.Proofs.YtgldkfaiofkhbaaDoor.RefTop Go.Proofs.YtgldkfaiofkhbaaDoor.QuietTail Go.Proofs.YtgldkfaiofkhbaaDoor.Grown Go.Proofs.YtgldkfaiofkhbaaDoor.Chain Go.Proofs.YtgldkfaiofkhbaaDoor.TreeMath Go.Proofs.YtgldkfaiofkhbaaDoor.TreeMem Go.Proofs.YtgldkfaiofkhbaaDoor.TreeRoot Go.Proofs.YtgldkfaiofkhbaaDoor.Book Go.Proofs.YtgldkfaiofkhbaaDoor.Book2 Go.Proofs.YtgldkfaiofkhbaaDoor.Append Go.Proofs.YtgldkfaiofkhbaaDoor.TreeFold Go.Proofs.YtgldkfaiofkhbaaDoor.Held

theorem own_below {w w' : World} {base e size n : Nat} {v : Value} {xs : List Value} (h : w.ownsRow base e size v n xs) (hb : Below w.heap.size w w') : w'.ownsRow base e size v n xs := by
  refine ⟨h.1, h.2.imp id fun ⟨g, cap, cur, h1, h2, h3, h4⟩ => ⟨g, cap, cur, h1, h2, ?_, h4⟩⟩
  rw [hb.block g (Array.getElem?_eq_some_iff.1 h3).1, h3]
theorem zero31 : ((Tryd.prog.info? 23).bind (·.zero)).isSome = true := by kernel_rfl
theorem own_rd {w : World} {base n : Nat} {v : Value} {ds : List Text} (h : w.ownsRow base 23 32 v n (ds.flatMap cells8)) (hd : Digs ds) (hn : ds.length = n) (A : Option Addr) (c : Nat) (hv : v = .slice A n c) : RdD w A n ds := by
  obtain ⟨A', c', e, _, _, _, hr, _⟩ := Own.reads h
  rw [hv] at e
  injection e with e1 e2 e3
  subst e1
  exact ⟨hn, hd, hr⟩
end Go.Proofs.YtgldkfaiofkhbaaDoor.TreeRefRoot

namespace Go.Proofs.YtgldkfaiofkhbaaDoor.TreeRoots
open Go Go.RowKit Go.Proofs.YtgldkfaiofkhbaaDoor Go.Proofs.YtgldkfaiofkhbaaDoor.Digest Go.Proofs.YtgldkfaiofkhbaaDoor.Mem Go.Proofs.YtgldkfaiofkhbaaDoor.Sha Go.Proofs.YtgldkfaiofkhbaaDoor.ShaWalk Go.Proofs.YtgldkfaiofkhbaaDoor.Bytes Go.Proofs.YtgldkfaiofkhbaaDoor.HashMem Go.Proofs.YtgldkfaiofkhbaaDoor.DigestMem Go.Proofs.YtgldkfaiofkhbaaDoor.DigestTop Go.Proofs.YtgldkfaiofkhbaaDoor.RefTop Go.Proofs.YtgldkfaiofkhbaaDoor.QuietTail Go.Proofs.YtgldkfaiofkhbaaDoor.Grown Go.Proofs.YtgldkfaiofkhbaaDoor.Chain Go.Proofs.YtgldkfaiofkhbaaDoor.TreeMath Go.Proofs.YtgldkfaiofkhbaaDoor.TreeMem Go.Proofs.YtgldkfaiofkhbaaDoor.TreeRoot Go.Proofs.YtgldkfaiofkhbaaDoor.TreeFold Go.Proofs.YtgldkfaiofkhbaaDoor.Book Go.Proofs.YtgldkfaiofkhbaaDoor.Book2 Go.Proofs.YtgldkfaiofkhbaaDoor.TreeRefRoot

end Go.Proofs.YtgldkfaiofkhbaaDoor.TreeRoots

namespace Go.Proofs.YtgldkfaiofkhbaaDoor.WayP
open Go Go.RowKit Go.Proofs.YtgldkfaiofkhbaaDoor Go.Proofs.YtgldkfaiofkhbaaDoor.Digest Go.Proofs.YtgldkfaiofkhbaaDoor.Mem Go.Proofs.YtgldkfaiofkhbaaDoor.Sha Go.Proofs.YtgldkfaiofkhbaaDoor.ShaWalk Go.Proofs.YtgldkfaiofkhbaaDoor.Bytes Go.Proofs.YtgldkfaiofkhbaaDoor.HashMem Go.Proofs.YtgldkfaiofkhbaaDoor.DigestMem Go.Proofs.YtgldkfaiofkhbaaDoor.DigestTop Go.Proofs.YtgldkfaiofkhbaaDoor.RefTop Go.Proofs.YtgldkfaiofkhbaaDoor.QuietTail Go.Proofs.YtgldkfaiofkhbaaDoor.Grown Go.Proofs.YtgldkfaiofkhbaaDoor.Chain Go.Proofs.YtgldkfaiofkhbaaDoor.TreeMath Go.Proofs.YtgldkfaiofkhbaaDoor.TreeMem Go.Proofs.YtgldkfaiofkhbaaDoor.TreeRoot Go.Proofs.YtgldkfaiofkhbaaDoor.TreeFold Go.Proofs.YtgldkfaiofkhbaaDoor.Book Go.Proofs.YtgldkfaiofkhbaaDoor.Book2 Go.Proofs.YtgldkfaiofkhbaaDoor.Append Go.Proofs.YtgldkfaiofkhbaaDoor.TreeRefRoot Go.Proofs.YtgldkfaiofkhbaaDoor.Held Go.Proofs.YtgldkfaiofkhbaaDoor.Sides

def insideB (size i : Int) : Bool := decide (1 ≤ size) && decide (size ≤ 1099511627776) && decide (0 ≤ i) && decide (i < size)
set_option maxRecDepth 100000 in
set_option maxHeartbeats 1000000 in
theorem inside_any (size i : Int) (w : World) : Calls Tryd.prog 61 #[.int .i64 size, .int .i64 i] w fun e w' => e = .returned (.bool (insideB size i)) ∧ w = w' := by
  have hk : Hid (insideB size i = (decide (1 ≤ size) && decide (size ≤ 1099511627776) && decide (0 ≤ i) && decide (i < size))) := rfl
  generalize insideB size i = b at *
  rcases Bool.eq_false_or_eq_true (decide (1 ≤ size)) with b1 | b1 <;> rcases Bool.eq_false_or_eq_true (decide (size ≤ 1099511627776)) with b2 | b2 <;> rcases Bool.eq_false_or_eq_true (decide (0 ≤ i)) with b3 | b3 <;> rcases Bool.eq_false_or_eq_true (decide (i < size)) with b4 | b4
  all_goals
    have k1 := Lib.hid b1
    have k2 := Lib.hid b2
    have k3 := Lib.hid b3
    have k4 := Lib.hid b4
    go_enter Tryd.func61, Tryd.ntmps61
    go_wp2_with fail
    go_ret
    refine ⟨?_, rfl⟩
    rw [hk.out, k1.out, k2.out, k3.out, k4.out]
    rfl

/-- Parts as cells. -/
def pcells (p : Nat × Nat) : List Value := [.int .i64 (p.1 : Int), .int .i64 (p.2 : Int)]
def flatP (l : List (Nat × Nat)) : List Value := l.flatMap pcells
theorem flatP_snoc (l : List (Nat × Nat)) (p : Nat × Nat) : flatP (l ++ [p]) = flatP l ++ pcells p := by simp [flatP]
theorem pcells_one (p : Nat × Nat) : ∀ v ∈ pcells p, v.oneCell' = true := by
  intro v hv
  simp only [pcells, List.mem_cons, List.not_mem_nil, or_false] at hv
  rcases hv with rfl | rfl <;> rfl
theorem infoP : (Tryd.prog.info? 176).map (fun i => (i.zero, i.size, i.bytes)) = some (some (.agg #[.int .i64 0, .int .i64 0]), 2, 16) := by kernel_rfl
theorem sizeP : (Tryd.prog.info? 176).map (·.size) = some 2 := by kernel_rfl
theorem zeroP : ((Tryd.prog.info? 176).bind (·.zero)).isSome = true := by kernel_rfl
/-- To the right of i? -/
def sd (i : Nat) (p : Nat × Nat) : Bool := decide (i < p.1)

/-- What stands at the head of a round of way's loop. -/
structure WayAt (w : World) (B size i : Nat) (wr : World) (l : Value) (gp a b : Nat) (acc : List (Nat × Nat)) : Prop where
  blk : Blk wr gp 176 #[.int .i64 (a : Int), .int .i64 (b : Int)]
  own : wr.ownsRow B 176 2 l acc.length (flatP acc)
  below : Below B w wr
  lo : B ≤ gp
  apart : ∀ k, l.ownBlock = some k → k ≠ gp
  ai : a ≤ i
  ib : i < b
  bs : b ≤ size
  sides : sides size i = Sides.sides (b - a) (i - a) ++ (acc.map (sd i)).reverse
  few : acc.length + (b - a) ≤ size
theorem grown_set (w : World) (g f : Nat) (u : Value) : w.grownBy (w.setCell ⟨g, f, none⟩ u) (some g) := ⟨rfl, rfl, rfl, by simp, fun k _ hk => heap_setCell_other w ⟨g, f, none⟩ k u (fun e => hk (by simp [e]))⟩
theorem WayAt.next {w wr w3 : World} {B size i gp a b f a' b' : Nat} {l v3 u : Value} {acc : List (Nat × Nat)} {q : Nat × Nat} (h : WayAt w B size i wr l gp a b acc) (hb : Below B w w3) (ho : w3.ownsRow B 176 2 v3 (acc.length + 1) (flatP (acc ++ [q])))
    (hap : ∀ k, v3.ownBlock = some k → k ≠ gp) (hB : B ≤ w3.heap.size) (h1 : a' ≤ i) (h2 : i < b') (h3 : b' ≤ size) (h4 : Sides.sides (b - a) (i - a) = Sides.sides (b' - a') (i - a') ++ [sd i q]) (h5 : b' - a' + 1 ≤ b - a) :
    WayAt w B size i ((w3.setCell ⟨gp, f, none⟩ u).alloc (.cells #[.int .i64 (a' : Int), .int .i64 (b' : Int)] 176)) v3 w3.heap.size a' b' (acc ++ [q]) := by
  have hs : (w3.setCell ⟨gp, f, none⟩ u).heap.size = w3.heap.size := by simp
  refine ⟨?_, ?_, ?_, hB, fun k e => ?_, h1, h2, h3, ?_, ?_⟩
  · have := Blk.new (w3.setCell ⟨gp, f, none⟩ u) 176 #[.int .i64 (a' : Int), .int .i64 (b' : Int)]
    rwa [hs] at this
  · rw [show (acc ++ [q]).length = acc.length + 1 by simp]
    refine World.ownsRow.alloc (World.ownsRow.kept ho (grown_set w3 gp f u) ?_) _
    cases e : v3.ownBlock with
    | none => exact .inl rfl
    | some k => exact .inr (fun e2 => hap k e (Option.some.inj e2))
  · exact (hb.setCell h.lo u).alloc (by rw [hs]; exact hB) _
  · have := (ho.lt k e).2
    omega
  · rw [h.sides, h4, List.map_append, List.reverse_append, List.append_assoc]
    rfl
  · have := h.few
    rw [List.length_append]
    simp only [List.length_cons, List.length_nil]
    omega
theorem cap_parts {n : Nat} (h : n ≤ 1099511627776) : n ≤ maxLen ∧ n * 16 ≤ 140737488355328 := by unfold maxLen; omega

end Go.Proofs.YtgldkfaiofkhbaaDoor.WayP

namespace Go.Proofs.YtgldkfaiofkhbaaDoor.RevP
open Go Go.RowKit Go.Proofs.YtgldkfaiofkhbaaDoor Go.Proofs.YtgldkfaiofkhbaaDoor.Digest Go.Proofs.YtgldkfaiofkhbaaDoor.Mem Go.Proofs.YtgldkfaiofkhbaaDoor.Sha Go.Proofs.YtgldkfaiofkhbaaDoor.ShaWalk Go.Proofs.YtgldkfaiofkhbaaDoor.Bytes Go.Proofs.YtgldkfaiofkhbaaDoor.HashMem Go.Proofs.YtgldkfaiofkhbaaDoor.DigestMem Go.Proofs.YtgldkfaiofkhbaaDoor.DigestTop Go.Proofs.YtgldkfaiofkhbaaDoor.RefTop Go.Proofs.YtgldkfaiofkhbaaDoor.QuietTail Go.Proofs.YtgldkfaiofkhbaaDoor.Grown Go.Proofs.YtgldkfaiofkhbaaDoor.Chain Go.Proofs.YtgldkfaiofkhbaaDoor.TreeMath Go.Proofs.YtgldkfaiofkhbaaDoor.TreeMem Go.Proofs.YtgldkfaiofkhbaaDoor.TreeRoot Go.Proofs.YtgldkfaiofkhbaaDoor.TreeFold Go.Proofs.YtgldkfaiofkhbaaDoor.Book Go.Proofs.YtgldkfaiofkhbaaDoor.Book2 Go.Proofs.YtgldkfaiofkhbaaDoor.Append Go.Proofs.YtgldkfaiofkhbaaDoor.TreeRefRoot Go.Proofs.YtgldkfaiofkhbaaDoor.Held Go.Proofs.YtgldkfaiofkhbaaDoor.Sides Go.Proofs.YtgldkfaiofkhbaaDoor.WayP

/-- What stands after i swaps. -/
def rv (ps : List (Nat × Nat)) (i : Nat) : List (Nat × Nat) := (List.range ps.length).map fun t => if t < i ∨ ps.length - 1 - i < t then ps.getD (ps.length - 1 - t) (0, 0) else ps.getD t (0, 0)
theorem rv_len (ps : List (Nat × Nat)) (i : Nat) : (rv ps i).length = ps.length := by simp [rv]
theorem rv_at (ps : List (Nat × Nat)) (i t : Nat) (h : t < ps.length) : (rv ps i)[t]? = some (if t < i ∨ ps.length - 1 - i < t then ps.getD (ps.length - 1 - t) (0, 0) else ps.getD t (0, 0)) := by
  unfold rv
  rw [List.getElem?_map, List.getElem?_range h]
  rfl
theorem rv_zero (ps : List (Nat × Nat)) : rv ps 0 = ps := by
  apply List.ext_getElem?
  intro t
  by_cases h : t < ps.length
  · rw [rv_at ps 0 t h, if_neg (by omega), List.getElem?_eq_getElem h, List.getD_eq_getElem?_getD, List.getElem?_eq_getElem h]
    rfl
  · rw [List.getElem?_eq_none (by rw [rv_len]; omega), List.getElem?_eq_none (by omega)]
theorem rv_done (ps : List (Nat × Nat)) (i : Nat) (h : ps.length ≤ 2 * i + 1) : rv ps i = ps.reverse := by
  apply List.ext_getElem?
  intro t
  by_cases ht : t < ps.length
  · rw [rv_at ps i t ht, List.getElem?_reverse ht]
    by_cases hc : t < i ∨ ps.length - 1 - i < t
    · rw [if_pos hc, List.getD_eq_getElem?_getD, List.getElem?_eq_getElem (by omega)]
      rfl
    · rw [if_neg hc, show ps.length - 1 - t = t by omega, List.getD_eq_getElem?_getD, List.getElem?_eq_getElem ht]
      rfl
  · rw [List.getElem?_eq_none (by rw [rv_len]; omega), List.getElem?_eq_none (by rw [List.length_reverse]; omega)]
theorem rv_step (ps : List (Nat × Nat)) (i j : Nat) (hj : i + j + 1 = ps.length) (h : i < j) (x y : Nat × Nat) (hx : (rv ps i)[i]? = some x) (hy : (rv ps i)[j]? = some y) : ((rv ps i).set i y).set j x = rv ps (i + 1) := by
  rw [rv_at ps i i (by omega), if_neg (by omega)] at hx
  rw [rv_at ps i j (by omega), if_neg (by omega)] at hy
  apply List.ext_getElem?
  intro t
  by_cases ht : t < ps.length
  · rw [rv_at ps (i + 1) t ht, List.getElem?_set]
    by_cases h1 : j = t
    · subst h1
      rw [if_pos rfl, if_pos (by rw [List.length_set, rv_len]; exact ht), if_pos (by omega), ← hx, show ps.length - 1 - j = i by omega]
    · rw [if_neg h1, List.getElem?_set]
      by_cases h2 : i = t
      · subst h2
        rw [if_pos rfl, if_pos (by rw [rv_len]; exact ht), if_pos (by omega), ← hy, show ps.length - 1 - i = j by omega]
      · rw [if_neg h2, rv_at ps i t ht]
        by_cases hc : t < i ∨ ps.length - 1 - i < t
        · rw [if_pos hc, if_pos (by omega)]
        · rw [if_neg hc, if_neg (by omega)]
  · rw [List.getElem?_eq_none (by simp [rv_len]; omega), List.getElem?_eq_none (by rw [rv_len]; omega)]

theorem flatP_len (l : List (Nat × Nat)) : (flatP l).length = l.length * 2 := by
  induction l with
  | nil => rfl
  | cons p l ih => simp only [flatP, List.flatMap_cons, List.length_append, List.length_cons] at ih ⊢; rw [ih]; simp [pcells]; omega
theorem flatP_take : ∀ (l : List (Nat × Nat)) (k : Nat), (flatP l).take (k * 2) = flatP (l.take k)
  | [], k => by simp [flatP]
  | p :: l, 0 => by simp [flatP]
  | p :: l, k + 1 => by
    have h1 := flatP_take l k
    simp only [flatP, List.flatMap_cons, List.take_succ_cons] at h1 ⊢
    rw [List.take_append, List.take_of_length_le (by simp [pcells]; omega), show (k + 1) * 2 - (pcells p).length = k * 2 by simp [pcells]; omega, h1]
theorem flatP_drop : ∀ (l : List (Nat × Nat)) (k : Nat), (flatP l).drop (k * 2) = flatP (l.drop k)
  | [], k => by simp [flatP]
  | p :: l, 0 => by simp [flatP]
  | p :: l, k + 1 => by
    have h1 := flatP_drop l k
    simp only [flatP, List.flatMap_cons, List.drop_succ_cons] at h1 ⊢
    rw [List.drop_append, List.drop_of_length_le (by simp [pcells]; omega), show (k + 1) * 2 - (pcells p).length = k * 2 by simp [pcells]; omega, h1, List.nil_append]
theorem flatP_set (l : List (Nat × Nat)) (rest : List Value) (i : Nat) (hi : i < l.length) (q : Nat × Nat) : (((flatP l ++ rest).toArray.toList.take (i * 2) ++ (pcells q).toArray.toList ++ (flatP l ++ rest).toArray.toList.drop (i * 2 + (pcells q).toArray.size)).toArray) = (flatP (l.set i q) ++ rest).toArray := by
  have h2 : (pcells q).toArray.size = 2 := rfl
  have hl := flatP_len l
  rw [h2, List.toList_toArray, List.toList_toArray, List.take_append_of_le_length (by omega), List.drop_append_of_le_length (by omega), flatP_take, show i * 2 + 2 = (i + 1) * 2 by omega, flatP_drop, List.set_eq_take_append_cons_drop, if_pos hi]
  simp [flatP]
theorem flatP_at (l : List (Nat × Nat)) (rest : List Value) (i : Nat) (q : Nat × Nat) (h : l[i]? = some q) (j : Nat) (v : Value) (hv : (pcells q)[j]? = some v) : (flatP l ++ rest).toArray[i * 2 + j]? = some v := by
  have hi : i < l.length := (List.getElem?_eq_some_iff.1 h).1
  have hj : j < 2 := (List.getElem?_eq_some_iff.1 hv).1
  rw [List.getElem?_toArray, List.getElem?_append_left (by rw [flatP_len]; omega)]
  have h1 := flatP_drop l i
  have h3 : (flatP l)[i * 2 + j]? = ((flatP l).drop (i * 2))[j]? := by rw [List.getElem?_drop]
  rw [h3, h1, List.drop_eq_getElem_cons hi]
  have h4 : l[i] = q := by rw [List.getElem?_eq_getElem hi] at h; exact Option.some.inj h
  rw [h4]
  simp only [flatP, List.flatMap_cons]
  rw [List.getElem?_append_left (by simp [pcells]; omega)]
  exact hv

set_option maxRecDepth 100000 in
set_option maxHeartbeats 1000000 in
theorem reverse_zero (A : Option Addr) (c : Nat) (w : World) : Calls Tryd.prog 112 #[.slice A 0 c] w fun e w' => e = .returned (.tuple #[]) ∧ w = w' := by
  go_enter Tryd.func112, Tryd.ntmps112
  go_wp2_with fail
  refine wp_loop_once ?_
  go_wp2_with fail
  go_end0
  exact ⟨rfl, rfl⟩

set_option maxRecDepth 100000 in
set_option maxHeartbeats 1000000 in
theorem reverse_some (ps : List (Nat × Nat)) (n : Nat) (hn : ps.length = n) (h1 : 1 ≤ n) (hn40 : n ≤ 1099511627776) (g c : Nat) (rest : List Value) (w : World) (hg : Blk w g 176 (flatP ps ++ rest).toArray) :
    Calls Tryd.prog 112 #[.slice (some ⟨g, 0, none⟩) n c] w fun e w' => e = .returned (.tuple #[]) ∧ Blk w' g 176 (flatP ps.reverse ++ rest).toArray ∧ Kept (· = g) w w' := by
  have hn0 := Lib.hid hn
  have hb40 := Lib.hid hn40
  have h0 : Hid (Blk w g 176 (flatP (rv ps 0) ++ rest).toArray) := by show Blk _ _ _ _; rw [rv_zero]; exact hg
  have z0 : (1 : Int) ≤ (n : Int) := by omega
  have z1 : (n : Int) ≤ 1099511627776 := by omega
  obtain ⟨m, hm⟩ : ∃ m, Hid (n = m + 1) := ⟨n - 1, by show _ = _; omega⟩
  have zi : (n : Int) - 1 = (m : Int) := by have := hm.out; omega
  clear hn hn40 hg h1
  go_enter Tryd.func112, Tryd.ntmps112
  go_wp2_with fail
  go_loopw [2, 3] (fun u v wr => ∃ i : Nat, u = .int .i64 (i : Int) ∧ v = .int .i64 ((m : Int) - (i : Int)) ∧ Hid (2 * i ≤ n) ∧ Hid (Blk wr g 176 (flatP (rv ps i) ++ rest).toArray) ∧ Hid (Kept (· = g) w wr)) (fun u _ _ => n - (intOf u).toNat)
  case atStart => exact ⟨0, rfl, by simp, Nat.zero_le _, h0.out, Kept.refl _ _⟩
  case round =>
    clear h0
    obtain ⟨i, rfl, rfl, hi, hB, hK⟩ := hrel
    by_cases hlt : 2 * i < m
    · obtain ⟨j, hj⟩ : ∃ j, Hid (i + j = m) := ⟨m - i, by show _ = _; omega⟩
      rw [show (m : Int) - (i : Int) = (j : Int) by have := hj.out; omega]
      have t0 : (0 : Int) ≤ (i : Int) := by omega
      have t1 : (0 : Int) ≤ (j : Int) := by omega
      have t2 : (i : Int) < (j : Int) := by have := hj.out; omega
      have t3 : (j : Int) < (n : Int) := by have := hj.out; have := hm.out; omega
      have t4 : (i : Int) < (n : Int) := by omega
      obtain ⟨x, hx⟩ : ∃ x, (rv ps i)[i]? = some x := ⟨_, List.getElem?_eq_getElem (by rw [rv_len, hn0.out]; omega)⟩
      obtain ⟨y, hy⟩ : ∃ y, (rv ps i)[j]? = some y := ⟨_, List.getElem?_eq_getElem (by rw [rv_len, hn0.out]; omega)⟩
      have hstep := Lib.hid (rv_step ps i j (by have := hn0.out; have := hj.out; have := hm.out; omega) (by omega) x y hx hy)
      have hxc := Lib.hid (flatP_at (rv ps i) rest i x hx)
      have hyc := Lib.hid (flatP_at (rv ps i) rest j y hy)
      have hset1 := Lib.hid (flatP_set (rv ps i) rest i (by rw [rv_len, hn0.out]; omega) y)
      have hset2 := Lib.hid (flatP_set ((rv ps i).set i y) rest j (by rw [List.length_set, rv_len, hn0.out]; omega) x)
      have hf1 : Hid (i * 2 + (pcells y).toArray.size ≤ (flatP (rv ps i) ++ rest).toArray.size) := by
        show _ ≤ _
        have h2 : (pcells y).toArray.size = 2 := rfl
        rw [h2, List.size_toArray, List.length_append, flatP_len, rv_len, hn0.out]
        omega
      have hf2 : Hid (j * 2 + (pcells x).toArray.size ≤ (flatP ((rv ps i).set i y) ++ rest).toArray.size) := by
        show _ ≤ _
        have h2 : (pcells x).toArray.size = 2 := rfl
        rw [h2, List.size_toArray, List.length_append, flatP_len, List.length_set, rv_len, hn0.out]
        omega
      have hP := Lib.hid sizeP
      have hi2 : Hid (2 * (i + 1) ≤ n) := by have := hm.out; show _ ≤ _; omega
      have p1 : ∀ q : Nat × Nat, (pcells q).toArray.all (·.oneCell') = true := fun q => by rw [List.all_toArray]; exact List.all_eq_true.2 (pcells_one q)
      replace p1 := Lib.hid p1
      have zz : Hid ((m : Int) - ((i + 1 : Nat) : Int) = (j : Int) - 1) := by have := hj.out; show _ = _; omega
      rw [hstep.out] at hset2
      clear hstep hx hy hlt hi
      go_wp2_with fail
      have hB1 : Hid (Blk wr.drew g 176 (flatP (rv ps i) ++ rest).toArray) := hB.out.drew
      have hK1 : Hid (Kept (· = g) w wr.drew) := hK.out.drew
      clear hB hK
      refine held_start (fun _ => True) 16 rfl (by kernel_rfl) ?_
      refine held_take (i := 0) (v := .slice (some ⟨g, 0, none⟩) n c) rfl (by kernel_rfl) (by kernel_rfl) (by kernel_rfl) (fun _ _ _ h => h) trivial (by rfl) (fun w' hw' => run_mv (.tmp 0) rfl w') ?_
      (intro K hK; go_simp; refine hK _ ?_; clear hK K)
      refine held_take (i := 1) (v := .int .i64 (i : Int)) rfl (by kernel_rfl) (by kernel_rfl) (by kernel_rfl) (fun _ _ _ h => h) trivial (by rfl) (fun w' hw' => run_mv (.tmp 2) rfl w') ?_
      (intro K hK; go_simp; refine hK _ ?_; clear hK K)
      refine held_take (i := 2) (v := .slice (some ⟨g, 0, none⟩) n c) rfl (by kernel_rfl) (by kernel_rfl) (by kernel_rfl) (fun _ _ _ h => h) trivial (by rfl) (fun w' hw' => run_mv (.tmp 0) rfl w') ?_
      (intro K hK; go_simp; refine hK _ ?_; clear hK K)
      refine held_take (i := 3) (v := .int .i64 (j : Int)) rfl (by kernel_rfl) (by kernel_rfl) (by kernel_rfl) (fun _ _ _ h => h) trivial (by rfl) (fun w' hw' => run_mv (.tmp 3) rfl w') ?_
      (intro K hK; go_simp; refine hK _ ?_; clear hK K)
      refine held_take (i := 4) (v := .slice (some ⟨g, 0, none⟩) n c) rfl (by kernel_rfl) (by kernel_rfl) (by kernel_rfl) (fun _ _ _ h => h) trivial (by rfl) (fun w' hw' => run_mv (.tmp 0) rfl w') ?_
      (intro K hK; go_simp; refine hK _ ?_; clear hK K)
      refine held_take (i := 5) (v := .int .i64 (j : Int)) rfl (by kernel_rfl) (by kernel_rfl) (by kernel_rfl) (fun _ _ _ h => h) trivial (by rfl) (fun w' hw' => run_mv (.tmp 3) rfl w') ?_
      (intro K hK; go_simp; refine hK _ ?_; clear hK K)
      refine held_take (i := 6) (v := .pointer (some ⟨g, j * 2, none⟩)) rfl (by kernel_rfl) (by kernel_rfl) (by kernel_rfl) (fun _ _ _ h => h) trivial (by rfl) (fun w' hw' => by go_simp) ?_
      (intro K hK; go_simp; refine hK _ ?_; clear hK K)
      refine held_take (i := 8) (v := .slice (some ⟨g, 0, none⟩) n c) rfl (by kernel_rfl) (by kernel_rfl) (by kernel_rfl) (fun _ _ _ h => h) trivial (by rfl) (fun w' hw' => run_mv (.tmp 0) rfl w') ?_
      (intro K hK; go_simp; refine hK _ ?_; clear hK K)
      refine held_take (i := 9) (v := .int .i64 (i : Int)) rfl (by kernel_rfl) (by kernel_rfl) (by kernel_rfl) (fun _ _ _ h => h) trivial (by rfl) (fun w' hw' => run_mv (.tmp 2) rfl w') ?_
      (intro K hK; go_simp; refine hK _ ?_; clear hK K)
      refine held_take (i := 10) (v := .pointer (some ⟨g, i * 2, none⟩)) rfl (by kernel_rfl) (by kernel_rfl) (by kernel_rfl) (fun _ _ _ h => h) trivial (by rfl) (fun w' hw' => by go_simp) ?_
      (intro K hK; go_simp; refine hK _ ?_; clear hK K)
      refine held_two (i := 7) (j := 11) rfl rfl (by kernel_rfl) (by rfl) (by rfl) (fun K hK => ?_) (fun K hK => ?_)
      · refine wp_load_partH 176 (.tmp 20) rfl g (j * 2) rfl (pcells y) _ (fun k v hv => (hB1.out.cell (j * 2 + k)).trans (hyc.out k v hv)) Tryd.underlying176 rfl hP.out ?_
        go_simp
        refine hK _ _ trivial ?_
        clear hK K
        refine held_only (i := 11) rfl (by kernel_rfl) (by rfl) (fun K hK => ?_)
        refine wp_load_partH 176 (.tmp 24) rfl g (i * 2) rfl (pcells x) _ (fun k v hv => (hB1.out.cell (i * 2 + k)).trans (hxc.out k v hv)) Tryd.underlying176 rfl hP.out ?_
        go_simp
        refine hK _ _ trivial ?_
        clear hK K
        refine held_take (i := 12) (v := .pointer (some ⟨g, i * 2, none⟩)) rfl (by kernel_rfl) (by kernel_rfl) (by kernel_rfl) (fun _ _ _ h => h) trivial (by rfl) (fun w' hw' => by go_simp) ?_
        (intro K hK; go_simp; refine hK _ ?_; clear hK K)
        refine held_only (i := 13) rfl (by kernel_rfl) (by rfl) (fun K hK => ?_)
        refine wp_store_part 176 (.tmp 26) (.tmp 21) rfl g (i * 2) (pcells y).toArray rfl rfl 176 _ hB1.out hP.out hf1.out (p1.out y) ?_
        rw [hset1.out]
        have hB3 : Hid (Blk (wr.drew.setRow g (flatP ((rv ps i).set i y) ++ rest).toArray) g 176 (flatP ((rv ps i).set i y) ++ rest).toArray) := setRow_heap _ _ _ _ _ _ hB1.out
        have hK3 : Hid (Kept (· = g) w (wr.drew.setRow g (flatP ((rv ps i).set i y) ++ rest).toArray)) := Bytes.Kept.setRow hK1.out rfl _
        generalize wr.drew.setRow g (flatP ((rv ps i).set i y) ++ rest).toArray = w3 at *
        go_simp
        refine hK _ _ trivial ?_
        clear hK K
        refine held_take (i := 14) (v := .pointer (some ⟨g, j * 2, none⟩)) rfl (by kernel_rfl) (by kernel_rfl) (by kernel_rfl) (fun _ _ _ h => h) trivial (by rfl) (fun w' hw' => by go_simp) ?_
        (intro K hK; go_simp; refine hK _ ?_; clear hK K)
        refine held_only (i := 15) rfl (by kernel_rfl) (by rfl) (fun K hK => ?_)
        refine wp_store_part 176 (.tmp 27) (.tmp 25) rfl g (j * 2) (pcells x).toArray rfl rfl 176 _ hB3.out hP.out hf2.out (p1.out x) ?_
        rw [hset2.out]
        have hB4 : Hid (Blk (w3.setRow g (flatP (rv ps (i + 1)) ++ rest).toArray) g 176 (flatP (rv ps (i + 1)) ++ rest).toArray) := setRow_heap _ _ _ _ _ _ hB3.out
        have hK4 : Hid (Kept (· = g) w (w3.setRow g (flatP (rv ps (i + 1)) ++ rest).toArray)) := Bytes.Kept.setRow hK3.out rfl _
        generalize w3.setRow g (flatP (rv ps (i + 1)) ++ rest).toArray = w4 at *
        go_simp
        refine hK _ _ trivial ?_
        clear hK K
        refine held_end (by kernel_rfl) ?_
        go_wp2_with fail
        go_roundw
        case rel => exact ⟨i + 1, by go_num, by rw [zz.out], hi2.out, hB4.out, hK4.out⟩
        case measure => (have := hi2.out; simp [intOf]; omega)
      · refine wp_load_partH 176 (.tmp 24) rfl g (i * 2) rfl (pcells x) _ (fun k v hv => (hB1.out.cell (i * 2 + k)).trans (hxc.out k v hv)) Tryd.underlying176 rfl hP.out ?_
        go_simp
        refine hK _ _ trivial ?_
        clear hK K
        refine held_only (i := 7) rfl (by kernel_rfl) (by rfl) (fun K hK => ?_)
        refine wp_load_partH 176 (.tmp 20) rfl g (j * 2) rfl (pcells y) _ (fun k v hv => (hB1.out.cell (j * 2 + k)).trans (hyc.out k v hv)) Tryd.underlying176 rfl hP.out ?_
        go_simp
        refine hK _ _ trivial ?_
        clear hK K
        refine held_take (i := 12) (v := .pointer (some ⟨g, i * 2, none⟩)) rfl (by kernel_rfl) (by kernel_rfl) (by kernel_rfl) (fun _ _ _ h => h) trivial (by rfl) (fun w' hw' => by go_simp) ?_
        (intro K hK; go_simp; refine hK _ ?_; clear hK K)
        refine held_only (i := 13) rfl (by kernel_rfl) (by rfl) (fun K hK => ?_)
        refine wp_store_part 176 (.tmp 26) (.tmp 21) rfl g (i * 2) (pcells y).toArray rfl rfl 176 _ hB1.out hP.out hf1.out (p1.out y) ?_
        rw [hset1.out]
        have hB3 : Hid (Blk (wr.drew.setRow g (flatP ((rv ps i).set i y) ++ rest).toArray) g 176 (flatP ((rv ps i).set i y) ++ rest).toArray) := setRow_heap _ _ _ _ _ _ hB1.out
        have hK3 : Hid (Kept (· = g) w (wr.drew.setRow g (flatP ((rv ps i).set i y) ++ rest).toArray)) := Bytes.Kept.setRow hK1.out rfl _
        generalize wr.drew.setRow g (flatP ((rv ps i).set i y) ++ rest).toArray = w3 at *
        go_simp
        refine hK _ _ trivial ?_
        clear hK K
        refine held_take (i := 14) (v := .pointer (some ⟨g, j * 2, none⟩)) rfl (by kernel_rfl) (by kernel_rfl) (by kernel_rfl) (fun _ _ _ h => h) trivial (by rfl) (fun w' hw' => by go_simp) ?_
        (intro K hK; go_simp; refine hK _ ?_; clear hK K)
        refine held_only (i := 15) rfl (by kernel_rfl) (by rfl) (fun K hK => ?_)
        refine wp_store_part 176 (.tmp 27) (.tmp 25) rfl g (j * 2) (pcells x).toArray rfl rfl 176 _ hB3.out hP.out hf2.out (p1.out x) ?_
        rw [hset2.out]
        have hB4 : Hid (Blk (w3.setRow g (flatP (rv ps (i + 1)) ++ rest).toArray) g 176 (flatP (rv ps (i + 1)) ++ rest).toArray) := setRow_heap _ _ _ _ _ _ hB3.out
        have hK4 : Hid (Kept (· = g) w (w3.setRow g (flatP (rv ps (i + 1)) ++ rest).toArray)) := Bytes.Kept.setRow hK3.out rfl _
        generalize w3.setRow g (flatP (rv ps (i + 1)) ++ rest).toArray = w4 at *
        go_simp
        refine hK _ _ trivial ?_
        clear hK K
        refine held_end (by kernel_rfl) ?_
        go_wp2_with fail
        go_roundw
        case rel => exact ⟨i + 1, by go_num, by rw [zz.out], hi2.out, hB4.out, hK4.out⟩
        case measure => (have := hi2.out; simp [intOf]; omega)
    · have t2 : (m : Int) - (i : Int) ≤ (i : Int) := by omega
      have hd := Lib.hid (rv_done ps i (by have := hn0.out; have := hm.out; omega))
      rw [hd.out] at hB
      have t3 : decide ((i : Int) < (m : Int) - (i : Int)) = false := decide_eq_false (by omega)
      go_wp2_with fail
      go_end0
      exact ⟨rfl, hB.out, hK.out⟩
end Go.Proofs.YtgldkfaiofkhbaaDoor.RevP

namespace Go.Proofs.YtgldkfaiofkhbaaDoor.Levels
open Go Go.RowKit Go.Proofs.YtgldkfaiofkhbaaDoor Go.Proofs.YtgldkfaiofkhbaaDoor.Mem Go.Proofs.YtgldkfaiofkhbaaDoor.Sha Go.Proofs.YtgldkfaiofkhbaaDoor.Bytes Go.Proofs.YtgldkfaiofkhbaaDoor.Sides Go.Proofs.YtgldkfaiofkhbaaDoor.RefSides

/-- The neighbour's first leaf at level l. -/
def nbAt (i l : Nat) : Nat := (i / 2 ^ l ^^^ 1) * 2 ^ l
/-- How many levels a tree of that size has. -/
def levels (size : Nat) : Nat := if size ≤ 1 then 0 else Nat.log2 (size - 1) + 1
theorem xor1_eq (a : Nat) : a ^^^ 1 = if a % 2 = 1 then a - 1 else a + 1 := by
  have h1 : (a ^^^ 1) / 2 = a / 2 := by
    have h := Nat.shiftRight_xor_distrib (a := a) (b := 1) (i := 1)
    simpa [Nat.shiftRight_succ] using h
  have h2 : ((a ^^^ 1) % 2 = 1) ↔ ¬ ((a % 2 = 1) ↔ (1 % 2 = 1)) := Nat.xor_mod_two_eq_one
  split <;> omega
theorem xor1 (a : Nat) : a ^^^ 1 ≤ a + 1 := by rw [xor1_eq]; split <;> omega
theorem nbAt_le (i k : Nat) : nbAt i k ≤ i + 2 ^ k := by
  unfold nbAt
  have h1 := Nat.mul_le_mul_right (2 ^ k) (xor1 (i / 2 ^ k))
  have h2 := Nat.div_mul_le_self i (2 ^ k)
  rw [Nat.succ_mul] at h1
  omega
theorem xor_i64 (a : Nat) (h : a < 9223372036854775806) : bits .xor .i64 (a : Int) 1 = ((a ^^^ 1 : Nat) : Int) := by
  show IntKind.i64.wrap (((BitVec.ofInt 64 (a : Int) ^^^ BitVec.ofInt 64 1).toNat : Nat) : Int) = _
  have e : (BitVec.ofInt 64 (a : Int) ^^^ BitVec.ofInt 64 1).toNat = a ^^^ 1 := by
    rw [BitVec.toNat_xor, BitVec.ofInt_natCast, BitVec.toNat_ofNat, Nat.mod_eq_of_lt (by omega)]
    rfl
  rw [e]
  have := xor1 a
  exact IntWalk.i64_in _ (by omega)
theorem levels_lt {size k : Nat} (h : 2 ^ k < size) : k < levels size := by
  unfold levels
  have hp := Nat.two_pow_pos k
  rw [if_neg (by omega)]
  have : k ≤ Nat.log2 (size - 1) := (Nat.le_log2 (by omega)).2 (by omega)
  omega
theorem levels_ge {size k : Nat} (h : ¬ 2 ^ k < size) : levels size ≤ k := by
  unfold levels
  split
  · omega
  · rename_i h1
    have : Nat.log2 (size - 1) < k := (Nat.log2_lt (by omega)).2 (by omega)
    omega
theorem levels_pow (size : Nat) : size ≤ 2 ^ levels size := by
  rcases Nat.lt_or_ge (2 ^ levels size) size with h | h
  · have := levels_lt h; omega
  · exact h
theorem nb_lvl {n i l : Nat} (hi : i < n) : (lvl n i l).length = if nbAt i l < n then 1 else 0 := by
  unfold lvl nbAt
  rw [xor1_eq]
  by_cases h1 : i / 2 ^ l % 2 = 1
  · rw [if_pos h1, if_pos h1, if_pos]
    · rfl
    · have h2 := Nat.div_mul_le_self i (2 ^ l)
      have h3 := Nat.mul_le_mul_right (2 ^ l) (Nat.sub_le (i / 2 ^ l) 1)
      omega
  · rw [if_neg h1, if_neg h1]
    split <;> rfl
end Go.Proofs.YtgldkfaiofkhbaaDoor.Levels

namespace Go.Proofs.YtgldkfaiofkhbaaDoor.WayRows
open Go.Proofs.YtgldkfaiofkhbaaDoor Go.Proofs.YtgldkfaiofkhbaaDoor.TreeMath Go.Proofs.YtgldkfaiofkhbaaDoor.Sides Go.Proofs.YtgldkfaiofkhbaaDoor.Levels

/-- The rows of leaves beside leaf i below a..b-1, the lowest first: told from the top. -/
def wayN : Nat → Nat → Nat → Nat → List (Nat × Nat)
  | 0, _, _, _ => []
  | f + 1, a, b, i => if b - a ≤ 1 then [] else if i < a + half (b - a) then wayN f a (a + half (b - a)) i ++ [(a + half (b - a), b)] else wayN f (a + half (b - a)) b i ++ [(a, a + half (b - a))]
def wayR (a b i : Nat) : List (Nat × Nat) := wayN (b - a) a b i
theorem wayN_eq : ∀ (f g a b i : Nat), b - a ≤ f → b - a ≤ g → wayN f a b i = wayN g a b i
  | 0, 0, _, _, _, _, _ => rfl
  | 0, g + 1, a, b, i, h, _ => by unfold wayN; rw [if_pos (by omega)]
  | f + 1, 0, a, b, i, _, h => by unfold wayN; rw [if_pos (by omega)]
  | f + 1, g + 1, a, b, i, hf, hg => by
    unfold wayN
    by_cases hn : b - a ≤ 1
    · rw [if_pos hn, if_pos hn]
    · have h1 := half_lt (n := b - a) (by omega)
      have h2 := half_pos (b - a)
      rw [if_neg hn, if_neg hn, wayN_eq f g a (a + half (b - a)) i (by omega) (by omega), wayN_eq f g (a + half (b - a)) b i (by omega) (by omega)]
theorem wayR_small {a b i : Nat} (h : b - a ≤ 1) : wayR a b i = [] := by
  unfold wayR
  rw [wayN_eq (b - a) 1 a b i (by omega) h]
  unfold wayN
  rw [if_pos h]
theorem wayR_left {a b i : Nat} (h : 2 ≤ b - a) (hi : i < a + half (b - a)) : wayR a b i = wayR a (a + half (b - a)) i ++ [(a + half (b - a), b)] := by
  have h1 := half_lt h
  obtain ⟨f, hf⟩ : ∃ f, b - a = f + 1 := ⟨b - a - 1, by omega⟩
  unfold wayR
  rw [wayN_eq (b - a) (f + 1) a b i (by omega) (by omega)]
  rw [wayN, if_neg (by omega), if_pos hi, wayN_eq f (a + half (b - a) - a) _ _ _ (by omega) (by omega)]
theorem wayR_right {a b i : Nat} (h : 2 ≤ b - a) (hi : ¬ i < a + half (b - a)) : wayR a b i = wayR (a + half (b - a)) b i ++ [(a, a + half (b - a))] := by
  have h1 := half_lt h
  have h2 := half_pos (b - a)
  obtain ⟨f, hf⟩ : ∃ f, b - a = f + 1 := ⟨b - a - 1, by omega⟩
  unfold wayR
  rw [wayN_eq (b - a) (f + 1) a b i (by omega) (by omega)]
  rw [wayN, if_neg (by omega), if_neg hi, wayN_eq f (b - (a + half (b - a))) _ _ _ (by omega) (by omega)]
/-- Each row lies in the log. -/
theorem wayN_in : ∀ (f a b i : Nat), ∀ p ∈ wayN f a b i, a ≤ p.1 ∧ p.1 < p.2 ∧ p.2 ≤ b
  | 0, _, _, _, p, h => by cases h
  | f + 1, a, b, i, p, h => by
    unfold wayN at h
    by_cases hn : b - a ≤ 1
    · rw [if_pos hn] at h; cases h
    · have h1 := half_lt (n := b - a) (by omega)
      have h2 := half_pos (b - a)
      rw [if_neg hn] at h
      by_cases hi : i < a + half (b - a)
      · rw [if_pos hi, List.mem_append, List.mem_singleton] at h
        rcases h with h | rfl
        · have := wayN_in f _ _ _ p h; omega
        · simp only; omega
      · rw [if_neg hi, List.mem_append, List.mem_singleton] at h
        rcases h with h | rfl
        · have := wayN_in f _ _ _ p h; omega
        · simp only; omega

end Go.Proofs.YtgldkfaiofkhbaaDoor.WayRows

namespace Go.Proofs.YtgldkfaiofkhbaaDoor.WayX
open Go Go.RowKit Go.Proofs.YtgldkfaiofkhbaaDoor Go.Proofs.YtgldkfaiofkhbaaDoor.Digest Go.Proofs.YtgldkfaiofkhbaaDoor.Mem Go.Proofs.YtgldkfaiofkhbaaDoor.Sha Go.Proofs.YtgldkfaiofkhbaaDoor.ShaWalk Go.Proofs.YtgldkfaiofkhbaaDoor.Bytes Go.Proofs.YtgldkfaiofkhbaaDoor.HashMem Go.Proofs.YtgldkfaiofkhbaaDoor.DigestMem Go.Proofs.YtgldkfaiofkhbaaDoor.DigestTop Go.Proofs.YtgldkfaiofkhbaaDoor.RefTop Go.Proofs.YtgldkfaiofkhbaaDoor.QuietTail Go.Proofs.YtgldkfaiofkhbaaDoor.Grown Go.Proofs.YtgldkfaiofkhbaaDoor.Chain Go.Proofs.YtgldkfaiofkhbaaDoor.TreeMath Go.Proofs.YtgldkfaiofkhbaaDoor.TreeMem Go.Proofs.YtgldkfaiofkhbaaDoor.TreeRoot Go.Proofs.YtgldkfaiofkhbaaDoor.TreeFold Go.Proofs.YtgldkfaiofkhbaaDoor.Book Go.Proofs.YtgldkfaiofkhbaaDoor.Book2 Go.Proofs.YtgldkfaiofkhbaaDoor.Append Go.Proofs.YtgldkfaiofkhbaaDoor.TreeRefRoot Go.Proofs.YtgldkfaiofkhbaaDoor.Held Go.Proofs.YtgldkfaiofkhbaaDoor.Sides Go.Proofs.YtgldkfaiofkhbaaDoor.WayP Go.Proofs.YtgldkfaiofkhbaaDoor.RevP Go.Proofs.YtgldkfaiofkhbaaDoor.WayRows

/-- What stands at the head of a round of way's loop. -/
structure WayAtR (w : World) (B size i : Nat) (wr : World) (l : Value) (gp a b : Nat) (acc : List (Nat × Nat)) : Prop where
  blk : Blk wr gp 176 #[.int .i64 (a : Int), .int .i64 (b : Int)]
  own : wr.ownsRow B 176 2 l acc.length (flatP acc)
  below : Below B w wr
  lo : B ≤ gp
  apart : ∀ k, l.ownBlock = some k → k ≠ gp
  ai : a ≤ i
  ib : i < b
  bs : b ≤ size
  rows : wayR 0 size i = wayR a b i ++ acc.reverse
  few : acc.length + (b - a) ≤ size
theorem WayAtR.next {w wr w3 : World} {B size i gp a b f a' b' : Nat} {l v3 u : Value} {acc : List (Nat × Nat)} {q : Nat × Nat} (h : WayAtR w B size i wr l gp a b acc) (hb : Below B w w3) (ho : w3.ownsRow B 176 2 v3 (acc.length + 1) (flatP (acc ++ [q])))
    (hap : ∀ k, v3.ownBlock = some k → k ≠ gp) (hB : B ≤ w3.heap.size) (h1 : a' ≤ i) (h2 : i < b') (h3 : b' ≤ size) (h4 : wayR a b i = wayR a' b' i ++ [q]) (h5 : b' - a' + 1 ≤ b - a) :
    WayAtR w B size i ((w3.setCell ⟨gp, f, none⟩ u).alloc (.cells #[.int .i64 (a' : Int), .int .i64 (b' : Int)] 176)) v3 w3.heap.size a' b' (acc ++ [q]) := by
  have hs : (w3.setCell ⟨gp, f, none⟩ u).heap.size = w3.heap.size := by simp
  refine ⟨?_, ?_, ?_, hB, fun k e => ?_, h1, h2, h3, ?_, ?_⟩
  · have := Blk.new (w3.setCell ⟨gp, f, none⟩ u) 176 #[.int .i64 (a' : Int), .int .i64 (b' : Int)]
    rwa [hs] at this
  · rw [show (acc ++ [q]).length = acc.length + 1 by simp]
    refine World.ownsRow.alloc (World.ownsRow.kept ho (grown_set w3 gp f u) ?_) _
    cases e : v3.ownBlock with
    | none => exact .inl rfl
    | some k => exact .inr (fun e2 => hap k e (Option.some.inj e2))
  · exact (hb.setCell h.lo u).alloc (by rw [hs]; exact hB) _
  · have := (ho.lt k e).2
    omega
  · rw [h.rows, h4, List.reverse_append, List.append_assoc]
    rfl
  · have := h.few
    rw [List.length_append]
    simp only [List.length_cons, List.length_nil]
    omega
theorem way_l {a b i size n k h : Nat} (f : a ≤ i ∧ i < b ∧ b ≤ size ∧ b - a = n ∧ a + h = k ∧ half n = h ∧ h < n ∧ 0 < h ∧ 2 ≤ n) (hik : i < k) : wayR a b i = wayR a k i ++ [(k, b)] := by
  obtain ⟨_, _, _, h1, h2, h3, _, _, h4⟩ := f
  have := wayR_left (a := a) (b := b) (i := i) (by omega) (by rw [h1, h3]; omega)
  rwa [h1, h3, h2] at this
theorem way_r {a b i size n k h : Nat} (f : a ≤ i ∧ i < b ∧ b ≤ size ∧ b - a = n ∧ a + h = k ∧ half n = h ∧ h < n ∧ 0 < h ∧ 2 ≤ n) (hik : ¬ i < k) : wayR a b i = wayR k b i ++ [(a, k)] := by
  obtain ⟨_, _, _, h1, h2, h3, _, _, h4⟩ := f
  have := wayR_right (a := a) (b := b) (i := i) (by omega) (by rw [h1, h3]; omega)
  rwa [h1, h3, h2] at this
set_option maxRecDepth 100000 in
set_option maxHeartbeats 1000000 in
theorem way_rows (size i : Nat) (hs : size ≤ 1099511627776) (hi : i < size) (w : World) :
    Calls Tryd.prog 63 #[.int .i64 (size : Int), .int .i64 (i : Int)] w fun e w' => ∃ (v : Value) (ps : List (Nat × Nat)), e = .returned v ∧ ps = wayR 0 size i ∧ w'.ownsRow w.heap.size 176 2 v ps.length (flatP ps) ∧ Below w.heap.size w w' := by
  obtain ⟨i0, ii, iz0, iz1, iz2⟩ := info_partsN infoP
  obtain ⟨B, hB⟩ : ∃ B, w.heap.size = B := ⟨_, rfl⟩
  have hs40 := Lib.hid hs
  have h0 : Hid (WayAtR w B size i (w.alloc (.cells #[.int .i64 ((0 : Nat) : Int), .int .i64 (size : Int)] 176)) (.slice none 0 0) B 0 size []) := by
    refine ⟨?_, World.ownsRow_nil _ _ _ _, ?_, Nat.le_refl _, (fun k e => by cases e), Nat.zero_le _, hi, Nat.le_refl _, by simp, by simp⟩
    · rw [← hB]; exact Blk.new w _ _
    · rw [← hB]; exact Below.heap_below w _
  rw [hB]
  clear hs
  go_enter Tryd.func63, Tryd.ntmps63
  go_wp2_with fail
  go_loopw [5, 6] (fun l p wr => ∃ (ll : Value) (gp a b : Nat) (acc : List (Nat × Nat)), l = ll ∧ p = .pointer (some ⟨gp, 0, none⟩) ∧ Hid (WayAtR w B size i wr ll gp a b acc)) (fun l _ _ => match l with | .slice _ m _ => size + 1 - m | _ => 0)
  case atStart => exact ⟨_, B, 0, size, [], rfl, rfl, h0.out⟩
  case round =>
    clear h0
    obtain ⟨ll, gp, a, b, acc, hll, rfl, hX'⟩ := hrel
    rw [hll]
    clear hll
    have hX := hX'.out
    obtain ⟨Al, cl, rfl, -, -, -, -, -⟩ := Own.reads hX.own
    have e0 := hX.blk.cell 0
    have e1 := hX.blk.cell 1
    have hai := hX.ai
    have hib := hX.ib
    have hbs := hX.bs
    obtain ⟨n, hn⟩ : ∃ n, b - a = n := ⟨_, rfl⟩
    have x0 : (b : Int) - (a : Int) = (n : Int) := by omega
    have y0 : (0 : Int) ≤ (a : Int) := by omega
    have y1 : (b : Int) ≤ 1099511627776 := by have := hs40.out; omega
    by_cases h2 : 2 ≤ n
    · have z1 : (1 : Int) < (n : Int) := by omega
      have hlt := half_lt h2
      have hpos := half_pos n
      have hL := Lib.hid (fun w' => left_any n h2 (by have := hs40.out; omega) w')
      obtain ⟨h, hh⟩ : ∃ h, half n = h := ⟨_, rfl⟩
      rw [hh] at hL hlt hpos
      obtain ⟨k, hk⟩ : ∃ k, a + h = k := ⟨_, rfl⟩
      have x1 : (a : Int) + (h : Int) = (k : Int) := by omega
      have x2 : IntKind.i64.wrap ((b : Int) - (a : Int)) = (n : Int) := by rw [x0]; exact IntWalk.i64_in _ (by have := hs40.out; omega)
      have x3 : IntKind.i64.wrap ((a : Int) + (h : Int)) = (k : Int) := by rw [x1]; exact IntWalk.i64_in _ (by have := hs40.out; omega)
      have x4 : IntKind.i64.wrap (n : Int) = (n : Int) := IntWalk.i64_in _ (by have := hs40.out; omega)
      have x5 : IntKind.i64.wrap (k : Int) = (k : Int) := IntWalk.i64_in _ (by have := hs40.out; omega)
      have hC : Hid (∀ w', Class wr w' → w'.cell? ⟨gp, 0, none⟩ = some (.int .i64 (a : Int)) ∧ w'.cell? ⟨gp, 1, none⟩ = some (.int .i64 (b : Int))) := fun w' hw' => ⟨(hw'.below.cell (p := ⟨gp, 0, none⟩) hX.blk.lt).trans e0, (hw'.below.cell (p := ⟨gp, 1, none⟩) hX.blk.lt).trans e1⟩
      have hnl : Hid (1 ≤ b - a) := by show 1 ≤ _; omega
      have hfacts : Hid (a ≤ i ∧ i < b ∧ b ≤ size ∧ b - a = n ∧ a + h = k ∧ half n = h ∧ h < n ∧ 0 < h ∧ 2 ≤ n) := ⟨hai, hib, hbs, hn, hk, hh, hlt, hpos, h2⟩
      clear hai hib hbs hn hk hh hlt hpos h2
      replace hX := hX'
      go_wp2_with fail
      refine wp_region_class (Class wr) (by kernel_rfl) (by kernel_rfl) (Class.mk_ ((Below.refl _ _).drew)) ?_
      refine wpQuiet_val (v := .pointer (some ⟨gp, 0, none⟩)) rfl (fun w' hw' => by go_simp) ?_
      (intro K hK; go_simp; refine hK _ ?_; clear hK K)
      refine wpQuiet_val (v := .int .i64 (a : Int)) rfl (fun w' hw' => by have hc := (hC.out w' hw').1; go_simp) ?_
      (intro K hK; go_simp; refine hK _ ?_; clear hK K)
      refine wpQuiet_val (v := .pointer (some ⟨gp, 1, none⟩)) rfl (fun w' hw' => by go_simp) ?_
      (intro K hK; go_simp; refine hK _ ?_; clear hK K)
      refine wpQuiet_val (v := .int .i64 (b : Int)) rfl (fun w' hw' => by have hc := (hC.out w' hw').2; go_simp) ?_
      (intro K hK; go_simp; refine hK _ ?_; clear hK K)
      refine wpQuiet_val (v := .pointer (some ⟨gp, 0, none⟩)) rfl (fun w' hw' => by go_simp) ?_
      (intro K hK; go_simp; refine hK _ ?_; clear hK K)
      refine wpQuiet_val (v := .int .i64 (a : Int)) rfl (fun w' hw' => by have hc := (hC.out w' hw').1; go_simp) ?_
      (intro K hK; go_simp; refine hK _ ?_; clear hK K)
      refine wpQuiet_val (v := .int .i64 (n : Int)) rfl (fun w' hw' => by go_simp) ?_
      (intro K hK; go_simp; refine hK _ ?_; clear hK K)
      refine wpQuiet_fn (v := .int .i64 (h : Int)) (args := #[.int .i64 (n : Int)]) rfl _ _ rfl rfl Tryd.func111 (by kernel_rfl) (by kernel_rfl) (fun w' hw' => (hL.out w').mono (fun e w'' ⟨he, hb⟩ => ⟨he, by rw [← hb]; exact hw'⟩)) ?_
      (intro K hK; go_simp; refine hK _ ?_; clear hK K)
      refine wpQuiet_val (v := .int .i64 (k : Int)) rfl (fun w' hw' => by go_simp) ?_
      (intro K hK; go_simp; refine hK _ ?_; clear hK K)
      refine wpQuiet_val (v := .int .i64 (k : Int)) rfl (fun w' hw' => by go_simp) ?_
      (intro K hK; go_simp; refine hK _ ?_; clear hK K)
      refine wpQuiet_nil ?_
      intro w2 hw2
      replace hw2 := Lib.hid hw2.below
      have hXX := hX
      replace hX := hX.out
      have hBs : Hid (B ≤ wr.heap.size) := by have := hX.below.size; show B ≤ _; omega
      have hB2 : Hid (Blk w2 gp 176 #[.int .i64 (a : Int), .int .i64 (b : Int)]) := (hw2.out.block _ hX.blk.lt).trans hX.blk
      clear e0 e1 hC hL
      by_cases hik : i < k
      · have t1 : (i : Int) < (k : Int) := by omega
        have hN : Hid (Reads (w2.alloc (.cells (pcells (k, b)).toArray 176)) 2 (some ⟨w2.heap.size, 0, none⟩) 1 (pcells (k, b))) := Blk.reads (Blk.new w2 176 (pcells (k, b)).toArray) 0 _ rfl (fun j u hu => by rw [Nat.zero_add, List.getElem?_toArray]; exact hu)
        have hO : Hid ((w2.alloc (.cells (pcells (k, b)).toArray 176)).ownsRow B 176 2 (.slice Al acc.length cl) acc.length (flatP acc)) := own_below (own_below hX.own hw2.out) (Below.heap_below _ _)
        have hb2 : Hid (Below B w (w2.alloc (.cells (pcells (k, b)).toArray 176))) := (hX.below.trans (hw2.out.mono hBs.out)).alloc (Nat.le_trans hBs.out hw2.out.size) _
        have hs3 : Hid (B ≤ (w2.alloc (.cells (pcells (k, b)).toArray 176)).heap.size) := by
          have h1 := hBs.out
          have h2 := hw2.out.size
          show B ≤ _
          simp
          omega
        have hc1 : Hid (acc.length + 1 ≤ maxLen) := (cap_parts (by have := hX.few; have := hs40.out; have := hnl.out; omega)).1
        have hc3 : Hid ((acc.length + 1) * 16 ≤ 140737488355328) := (cap_parts (by have := hX.few; have := hs40.out; have := hnl.out; omega)).2
        have hz2 : Hid ((w2.alloc (.cells (pcells (k, b)).toArray 176)).heap.size = w2.heap.size + 1) := by show _ = _; simp
        have c0 := hB2.out.cell 0
        have c1 := hB2.out.cell 1
        go_wp2_with (first
          | ((with_reducible change wpList _ _ _ ({ dst := some 33, op := _, type := _, pos := _, after := _, guard := _ } :: _) _ _); refine wpList_buildAggs (o := ⟨some 33, _, _, _, _, _⟩) rfl 126 176 1 _ rfl 2 (by decide) [pcells (k, b)] Tryd.underlying126 sizeP zeroP rfl (by decide) (by decide) (fun v hv => by simp only [List.mem_singleton] at hv; rw [hv]; rfl) rfl ?_; change wpList _ _ _ _ _ (w2.alloc (.cells (pcells (k, b)).toArray 176)))
          | ((with_reducible change wpList _ _ _ ({ dst := some 34, op := _, type := _, pos := _, after := _, guard := _ } :: _) _ _); refine wpList_append_src _ (o := ⟨some 34, _, _, _, _, _⟩) rfl (.tmp 28) (.tmp 33) 126 rfl B 176 i0 (.agg #[.int .i64 0, .int .i64 0]) 2 16 Tryd.underlying126 ii iz0 iz1 iz2 rfl (by decide) (.slice Al acc.length cl) acc.length (flatP acc) rfl hO.out (some ⟨w2.heap.size, 0, none⟩) 1 1 (pcells (k, b)) rfl hN.out (fun e => by cases e) (pcells_one _) hc1.out hc3.out hs3.out ?_; intro v3 w3 hG; have hO3 : w3.ownsRow B 176 2 v3 (acc.length + 1) (flatP (acc ++ [(k, b)])) := (by rw [flatP_snoc]; exact hG.own); have hb3 : Below B w w3 := hG.below hb2.out hs3.out (fun q e => (hO.out.lt q e).1); have hap : ∀ q, v3.ownBlock = some q → q ≠ gp := (fun q e => by rcases hG.at_ with h1 | h1; exact hX.apart q (by rw [← h1, e]); (rw [h1] at e; have e2 := Option.some.inj e; have e3 := hB2.out.lt; have e4 := hz2.out; omega)); have hB3 : Blk w3 gp 176 #[.int .i64 (a : Int), .int .i64 (b : Int)] := Blk.grown (Blk.alloc hB2.out _) hG.grow (fun e => hX.apart gp e.symm rfl); have d0 := hB3.cell 0; have d1 := hB3.cell 1; have f0 := hB3.frozen 0; have f1 := hB3.frozen 1; obtain ⟨Av, cv, rfl, -⟩ := Own.reads hO3; have hb3b : Hid (B ≤ w3.heap.size) := Nat.le_trans hs3.out hG.grow.size; replace hO3 := Lib.hid hO3; replace hb3 := Lib.hid hb3; replace hap := Lib.hid hap; replace hB3 := Lib.hid hB3; clear hG))
        clear c0 c1 hN hO hb2 hs3 hc1 hc3
        go_roundw
        case rel => exact ⟨_, _, a, k, acc ++ [(k, b)], rfl, rfl, WayAtR.next hX hb3.out hO3.out hap.out hb3b.out (by have := hfacts.out; omega) hik (by have := hfacts.out; omega) (way_l hfacts.out hik) (by have := hfacts.out; omega)⟩
        case measure => (have := hX.few; have := hfacts.out; simp; omega)
      · have t1 : decide (i < k) = false := decide_eq_false hik
        have t2 : decide ((i : Int) < (k : Int)) = false := decide_eq_false (by omega)
        have hN : Hid (Reads (w2.alloc (.cells (pcells (a, k)).toArray 176)) 2 (some ⟨w2.heap.size, 0, none⟩) 1 (pcells (a, k))) := Blk.reads (Blk.new w2 176 (pcells (a, k)).toArray) 0 _ rfl (fun j u hu => by rw [Nat.zero_add, List.getElem?_toArray]; exact hu)
        have hO : Hid ((w2.alloc (.cells (pcells (a, k)).toArray 176)).ownsRow B 176 2 (.slice Al acc.length cl) acc.length (flatP acc)) := own_below (own_below hX.own hw2.out) (Below.heap_below _ _)
        have hb2 : Hid (Below B w (w2.alloc (.cells (pcells (a, k)).toArray 176))) := (hX.below.trans (hw2.out.mono hBs.out)).alloc (Nat.le_trans hBs.out hw2.out.size) _
        have hs3 : Hid (B ≤ (w2.alloc (.cells (pcells (a, k)).toArray 176)).heap.size) := by
          have h1 := hBs.out
          have h2 := hw2.out.size
          show B ≤ _
          simp
          omega
        have hc1 : Hid (acc.length + 1 ≤ maxLen) := (cap_parts (by have := hX.few; have := hs40.out; have := hnl.out; omega)).1
        have hc3 : Hid ((acc.length + 1) * 16 ≤ 140737488355328) := (cap_parts (by have := hX.few; have := hs40.out; have := hnl.out; omega)).2
        have hz2 : Hid ((w2.alloc (.cells (pcells (a, k)).toArray 176)).heap.size = w2.heap.size + 1) := by show _ = _; simp
        have c0 := hB2.out.cell 0
        have c1 := hB2.out.cell 1
        go_wp2_with (first
          | ((with_reducible change wpList _ _ _ ({ dst := some 42, op := _, type := _, pos := _, after := _, guard := _ } :: _) _ _); refine wpList_buildAggs (o := ⟨some 42, _, _, _, _, _⟩) rfl 126 176 1 _ rfl 2 (by decide) [pcells (a, k)] Tryd.underlying126 sizeP zeroP rfl (by decide) (by decide) (fun v hv => by simp only [List.mem_singleton] at hv; rw [hv]; rfl) rfl ?_; change wpList _ _ _ _ _ (w2.alloc (.cells (pcells (a, k)).toArray 176)))
          | ((with_reducible change wpList _ _ _ ({ dst := some 43, op := _, type := _, pos := _, after := _, guard := _ } :: _) _ _); refine wpList_append_src _ (o := ⟨some 43, _, _, _, _, _⟩) rfl (.tmp 37) (.tmp 42) 126 rfl B 176 i0 (.agg #[.int .i64 0, .int .i64 0]) 2 16 Tryd.underlying126 ii iz0 iz1 iz2 rfl (by decide) (.slice Al acc.length cl) acc.length (flatP acc) rfl hO.out (some ⟨w2.heap.size, 0, none⟩) 1 1 (pcells (a, k)) rfl hN.out (fun e => by cases e) (pcells_one _) hc1.out hc3.out hs3.out ?_; intro v3 w3 hG; have hO3 : w3.ownsRow B 176 2 v3 (acc.length + 1) (flatP (acc ++ [(a, k)])) := (by rw [flatP_snoc]; exact hG.own); have hb3 : Below B w w3 := hG.below hb2.out hs3.out (fun q e => (hO.out.lt q e).1); have hap : ∀ q, v3.ownBlock = some q → q ≠ gp := (fun q e => by rcases hG.at_ with h1 | h1; exact hX.apart q (by rw [← h1, e]); (rw [h1] at e; have e2 := Option.some.inj e; have e3 := hB2.out.lt; have e4 := hz2.out; omega)); have hB3 : Blk w3 gp 176 #[.int .i64 (a : Int), .int .i64 (b : Int)] := Blk.grown (Blk.alloc hB2.out _) hG.grow (fun e => hX.apart gp e.symm rfl); have d0 := hB3.cell 0; have d1 := hB3.cell 1; have f0 := hB3.frozen 0; have f1 := hB3.frozen 1; obtain ⟨Av, cv, rfl, -⟩ := Own.reads hO3; have hb3b : Hid (B ≤ w3.heap.size) := Nat.le_trans hs3.out hG.grow.size; replace hO3 := Lib.hid hO3; replace hb3 := Lib.hid hb3; replace hap := Lib.hid hap; replace hB3 := Lib.hid hB3; clear hG))
        clear c0 c1 hN hO hb2 hs3 hc1 hc3
        go_roundw
        case rel => exact ⟨_, _, k, b, acc ++ [(a, k)], rfl, rfl, WayAtR.next hX hb3.out hO3.out hap.out hb3b.out (by have := hfacts.out; omega) (by have := hfacts.out; omega) (by have := hfacts.out; omega) (way_r hfacts.out hik) (by have := hfacts.out; omega)⟩
        case measure => (have := hX.few; have := hfacts.out; simp; omega)
    · have hn1 : n = 1 := by omega
      have z1 : (n : Int) ≤ 1 := by omega
      have z2 : decide ((1 : Int) < (n : Int)) = false := decide_eq_false (by omega)
      have hps : Hid (acc.reverse = wayR 0 size i) := by
        show _ = _
        rw [hX.rows, wayR_small (by omega), List.nil_append]
      have hfew := hX.few
      by_cases ha : acc.length = 0
      · have hacc : acc = [] := List.eq_nil_of_length_eq_zero ha
        subst hacc
        have hO := Lib.hid hX.own
        have hb := Lib.hid hX.below
        have hR := Lib.hid (reverse_zero Al cl wr)
        clear hX hX' hai hib hbs hn hn1 ha h2 hfew
        go_wp2_with fail
        refine hR.out.mono ?_
        rintro e w2 ⟨rfl, rfl⟩
        go_wp2_with fail
        go_ret
        exact ⟨_, [], rfl, hps.out, hO.out, hb.out⟩
      · rcases hX.own.2 with ⟨he, _⟩ | ⟨g, cap, cur, he, hbg, hg, hnc, hcm, hcs, htake⟩
        · exact absurd (by injection he) ha
        · injection he with he1 he2 he3
          subst he1 he3
          obtain ⟨rest, hrest⟩ : ∃ rest, cur = (flatP acc ++ rest).toArray := ⟨cur.toList.drop (acc.length * 2), by rw [← htake, List.take_append_drop]⟩
          subst hrest
          have hR := Lib.hid (reverse_some acc acc.length rfl (by omega) (by have := hs40.out; omega) g cl rest wr hg)
          have hb := Lib.hid hX.below
          have hgB := Lib.hid hbg
          have hsz := Lib.hid (And.intro hnc (And.intro hcm hcs))
          have hlw : Hid (B ≤ wr.heap.size) := by have := hX.below.size; show B ≤ _; omega
          clear hX hX' hai hib hbs hn hn1 ha h2 hfew hg hbg hnc hcm hcs htake
          go_wp2_with fail
          refine hR.out.mono ?_
          rintro e w2 ⟨rfl, hB2, hK2⟩
          have hO : Hid (w2.ownsRow B 176 2 (.slice (some ⟨g, 0, none⟩) acc.length cl) acc.reverse.length (flatP acc.reverse)) := by
            refine ⟨by rw [flatP_len], .inr ⟨g, cl, _, by rw [List.length_reverse], hgB.out, hB2, by rw [List.length_reverse]; exact hsz.out.1, hsz.out.2.1, ?_, ?_⟩⟩
            · have := hsz.out.2.2
              rw [List.size_toArray, List.length_append, flatP_len] at this ⊢
              rw [List.length_reverse]
              exact this
            · rw [List.toList_toArray, List.take_append_of_le_length (by rw [flatP_len]; exact Nat.le_refl _), List.take_of_length_le (by rw [flatP_len]; exact Nat.le_refl _)]
          have hb2 : Hid (Below B w w2) := hb.out.trans (Kept.below_of hK2 hgB.out hlw.out)
          clear hB2 hK2 hR hb
          go_wp2_with fail
          go_ret
          exact ⟨_, acc.reverse, rfl, hps.out, hO.out, hb2.out⟩

end Go.Proofs.YtgldkfaiofkhbaaDoor.WayX

namespace Go.Proofs.YtgldkfaiofkhbaaDoor.Way
open Go Go.RowKit Go.Proofs.YtgldkfaiofkhbaaDoor Go.Proofs.YtgldkfaiofkhbaaDoor.Digest Go.Proofs.YtgldkfaiofkhbaaDoor.Mem Go.Proofs.YtgldkfaiofkhbaaDoor.Sha Go.Proofs.YtgldkfaiofkhbaaDoor.ShaWalk Go.Proofs.YtgldkfaiofkhbaaDoor.Bytes Go.Proofs.YtgldkfaiofkhbaaDoor.HashMem Go.Proofs.YtgldkfaiofkhbaaDoor.DigestMem Go.Proofs.YtgldkfaiofkhbaaDoor.DigestTop Go.Proofs.YtgldkfaiofkhbaaDoor.RefTop Go.Proofs.YtgldkfaiofkhbaaDoor.QuietTail Go.Proofs.YtgldkfaiofkhbaaDoor.Grown Go.Proofs.YtgldkfaiofkhbaaDoor.Chain Go.Proofs.YtgldkfaiofkhbaaDoor.TreeMath Go.Proofs.YtgldkfaiofkhbaaDoor.TreeMem Go.Proofs.YtgldkfaiofkhbaaDoor.TreeRoot Go.Proofs.YtgldkfaiofkhbaaDoor.TreeFold Go.Proofs.YtgldkfaiofkhbaaDoor.Book Go.Proofs.YtgldkfaiofkhbaaDoor.Book2 Go.Proofs.YtgldkfaiofkhbaaDoor.Append Go.Proofs.YtgldkfaiofkhbaaDoor.TreeRefRoot Go.Proofs.YtgldkfaiofkhbaaDoor.Held Go.Proofs.YtgldkfaiofkhbaaDoor.Sides Go.Proofs.YtgldkfaiofkhbaaDoor.WayP Go.Proofs.YtgldkfaiofkhbaaDoor.RevP

end Go.Proofs.YtgldkfaiofkhbaaDoor.Way

namespace Go.Proofs.YtgldkfaiofkhbaaDoor.Joint
open Go Go.RowKit Go.Proofs.YtgldkfaiofkhbaaDoor Go.Proofs.YtgldkfaiofkhbaaDoor.Mem Go.Proofs.YtgldkfaiofkhbaaDoor.Sha Go.Proofs.YtgldkfaiofkhbaaDoor.Bytes Go.Proofs.YtgldkfaiofkhbaaDoor.Append Go.Proofs.YtgldkfaiofkhbaaDoor.QuietTail Go.Proofs.YtgldkfaiofkhbaaDoor.Grown Go.Proofs.YtgldkfaiofkhbaaDoor.TreeMath Go.Proofs.YtgldkfaiofkhbaaDoor.TreeMem Go.Proofs.YtgldkfaiofkhbaaDoor.Held Go.Proofs.YtgldkfaiofkhbaaDoor.Book Go.Proofs.YtgldkfaiofkhbaaDoor.TreeRefRoot Go.Proofs.YtgldkfaiofkhbaaDoor.Subs Go.Proofs.YtgldkfaiofkhbaaDoor.RowsP Go.Proofs.YtgldkfaiofkhbaaDoor.WayP

/-- What joint leaves: the rows as parts in new memory. -/
def JPost (T : TypeId) (w : World) (L : List (Nat × Nat)) (e : Ending) (w' : World) : Prop := ∃ v, e = .returned v ∧ w'.ownsRow w.heap.size T 2 v L.length (flatP L) ∧ Below w.heap.size w w'

set_option maxRecDepth 100000 in
set_option maxHeartbeats 1000000 in
theorem joint_known (fr tu : Nat) (w : World) : Calls Tryd.prog 117 #[.agg #[.int .i64 (fr : Int), .int .i64 (tu : Int)], .int .i64 (tu : Int), .bool true] w (JPost 176 w []) := by
  have hb1 : Hid (Below w.heap.size w (w.alloc (.cells #[.int .i64 (fr : Int), .int .i64 (tu : Int)] 176))) := Below.heap_below w _
  have y1 : ((tu : Int) == (tu : Int)) = true := beq_self_eq_true _
  go_enter Tryd.func117, Tryd.ntmps117
  go_wp2_with fail
  go_ret
  exact ⟨_, rfl, World.ownsRow_nil _ _ _ _, hb1.out⟩
set_option maxRecDepth 100000 in
set_option maxHeartbeats 1000000 in
theorem joint_spot (fr tu : Nat) (w : World) : Calls Tryd.prog 117 #[.agg #[.int .i64 (fr : Int), .int .i64 (tu : Int)], .int .i64 (tu : Int), .bool false] w (JPost 176 w [(fr, tu)]) := by
  obtain ⟨w1, hw1⟩ : ∃ w1, Hid (w1 = w.alloc (.cells #[.int .i64 (fr : Int), .int .i64 (tu : Int)] 176)) := ⟨_, rfl⟩
  have hb1 : Hid (Below w.heap.size w w1) := by show Below _ _ _; rw [hw1.out]; exact Below.heap_below w _
  have hP1 : Hid (Blk w1 w.heap.size 176 #[.int .i64 (fr : Int), .int .i64 (tu : Int)]) := by show Blk _ _ _ _; rw [hw1.out]; exact Blk.new w _ _
  have y1 : ((tu : Int) == (tu : Int)) = true := beq_self_eq_true _
  have hO : Hid ((w1.alloc (.cells (pcells (fr, tu)).toArray 176)).ownsRow w.heap.size 176 2 (.slice (some ⟨w1.heap.size, 0, none⟩) 1 1) 1 (pcells (fr, tu))) :=
    ⟨rfl, .inr ⟨w1.heap.size, 1, (pcells (fr, tu)).toArray, rfl, hb1.out.size, heap_alloc_new w1 _, Nat.le_refl _, by decide, rfl, rfl⟩⟩
  go_enter Tryd.func117, Tryd.ntmps117
  go_wp2_with fail
  go_ret
  have hz : w1.heap.size = w.heap.size + 1 := by rw [hw1.out]; simp
  have h := hO.out
  have h2 := hb1.out.alloc hb1.out.size (.cells (pcells (fr, tu)).toArray 176)
  rw [hz, hw1.out] at h
  rw [hw1.out] at h2
  exact ⟨_, rfl, h, h2⟩

set_option maxRecDepth 100000 in
set_option maxHeartbeats 1000000 in
theorem joint_left (fr tu old : Nat) (h1 : fr < old) (h2 : old < tu) (h40 : tu ≤ 1099511627776) (hl : old - fr ≤ half (tu - fr)) (kn : Bool) (L : List (Nat × Nat)) (hn : L.length ≤ 41) (w : World)
    (ih : ∀ w, Calls Tryd.prog 117 #[.agg #[.int .i64 (fr : Int), .int .i64 ((fr + half (tu - fr) : Nat) : Int)], .int .i64 (old : Int), .bool kn] w (JPost 176 w L)) :
    Calls Tryd.prog 117 #[.agg #[.int .i64 (fr : Int), .int .i64 (tu : Int)], .int .i64 (old : Int), .bool kn] w (JPost 176 w (L ++ [(fr + half (tu - fr), tu)])) := by
  obtain ⟨i0, ii, iz0, iz1, iz2⟩ := info_partsN infoP
  obtain ⟨w1, hw1⟩ : ∃ w1, Hid (w1 = w.alloc (.cells #[.int .i64 (fr : Int), .int .i64 (tu : Int)] 176)) := ⟨_, rfl⟩
  have hb1 : Hid (Below w.heap.size w w1) := by show Below _ _ _; rw [hw1.out]; exact Below.heap_below w _
  have hP1 : Hid (Blk w1 w.heap.size 176 #[.int .i64 (fr : Int), .int .i64 (tu : Int)]) := by show Blk _ _ _ _; rw [hw1.out]; exact Blk.new w _ _
  have y1 : ((old : Int) == (tu : Int)) = false := beq_eq_false_iff_ne.2 (by omega)
  have y2 : ¬ old = tu := by omega
  obtain ⟨d, hd⟩ : ∃ d, tu - fr = d := ⟨_, rfl⟩
  have hd2 : 2 ≤ d := by omega
  have hlt := half_lt hd2
  have hLf := Lib.hid (fun w' => left_any d hd2 (by omega) w')
  rw [hd] at ih hl ⊢
  obtain ⟨hh, hhe⟩ : ∃ h, half d = h := ⟨_, rfl⟩
  rw [hhe] at ih hl hLf hlt ⊢
  obtain ⟨k, hk⟩ : ∃ k, fr + hh = k := ⟨_, rfl⟩
  rw [hk] at ih ⊢
  have x0 : (tu : Int) - (fr : Int) = (d : Int) := by omega
  have x1 : (fr : Int) + (hh : Int) = (k : Int) := by omega
  have x2 : IntKind.i64.wrap ((tu : Int) - (fr : Int)) = (d : Int) := by rw [x0]; exact IntWalk.i64_in _ (by omega)
  have x3 : IntKind.i64.wrap ((fr : Int) + (hh : Int)) = (k : Int) := by rw [x1]; exact IntWalk.i64_in _ (by omega)
  have x4 : IntKind.i64.wrap (d : Int) = (d : Int) := IntWalk.i64_in _ (by omega)
  have x5 : IntKind.i64.wrap (k : Int) = (k : Int) := IntWalk.i64_in _ (by omega)
  have z1 : ((old : Int) ≤ (k : Int)) := by omega
  have hC : Hid (∀ w', Below w1.heap.size w1 w' → w'.cell? ⟨w.heap.size, 0, none⟩ = some (.int .i64 (fr : Int)) ∧ w'.cell? ⟨w.heap.size, 1, none⟩ = some (.int .i64 (tu : Int))) := fun w' hb => ⟨(hb.cell (p := ⟨w.heap.size, 0, none⟩) hP1.out.lt).trans (hP1.out.cell 0), (hb.cell (p := ⟨w.heap.size, 1, none⟩) hP1.out.lt).trans (hP1.out.cell 1)⟩
  obtain ⟨m, hm⟩ : ∃ m, L.length = m := ⟨_, rfl⟩
  have hm41 : Hid (m ≤ 41) := by show _ ≤ _; omega
  replace hm := Lib.hid hm
  replace ih := Lib.hid ih
  clear h1 h2 h40 hl hd hd2 hlt hhe hk hn
  go_enter Tryd.func117, Tryd.ntmps117
  go_wp2_with fail
  change (Code.region _ _ _).wp _ _ _ (w.alloc (.cells #[.int .i64 (fr : Int), .int .i64 (tu : Int)] 176))
  rw [← hw1.out]
  clear hw1
  refine wp_region_class (Class w1) (by kernel_rfl) (by kernel_rfl) (Class.mk_ ((Below.refl _ _).drew)) ?_
  refine wpQuiet_val (v := .pointer (some ⟨w.heap.size, 0, none⟩)) rfl (fun w' hw' => by go_simp) ?_
  (intro K hK; go_simp; refine hK _ ?_; clear hK K)
  refine wpQuiet_val (v := .int .i64 (fr : Int)) rfl (fun w' hw' => by have hc := (hC.out w' hw'.below).1; go_simp) ?_
  (intro K hK; go_simp; refine hK _ ?_; clear hK K)
  refine wpQuiet_val (v := .pointer (some ⟨w.heap.size, 1, none⟩)) rfl (fun w' hw' => by go_simp) ?_
  (intro K hK; go_simp; refine hK _ ?_; clear hK K)
  refine wpQuiet_val (v := .int .i64 (tu : Int)) rfl (fun w' hw' => by have hc := (hC.out w' hw'.below).2; go_simp) ?_
  (intro K hK; go_simp; refine hK _ ?_; clear hK K)
  refine wpQuiet_val (v := .pointer (some ⟨w.heap.size, 0, none⟩)) rfl (fun w' hw' => by go_simp) ?_
  (intro K hK; go_simp; refine hK _ ?_; clear hK K)
  refine wpQuiet_val (v := .int .i64 (fr : Int)) rfl (fun w' hw' => by have hc := (hC.out w' hw'.below).1; go_simp) ?_
  (intro K hK; go_simp; refine hK _ ?_; clear hK K)
  refine wpQuiet_val (v := .int .i64 (d : Int)) rfl (fun w' hw' => by go_simp) ?_
  (intro K hK; go_simp; refine hK _ ?_; clear hK K)
  refine wpQuiet_fn (v := .int .i64 (hh : Int)) (args := #[.int .i64 (d : Int)]) rfl _ _ rfl rfl Tryd.func111 (by kernel_rfl) (by kernel_rfl) (fun w' hw' => (hLf.out w').mono (fun e w'' ⟨he, hb⟩ => ⟨he, by rw [← hb]; exact hw'⟩)) ?_
  (intro K hK; go_simp; refine hK _ ?_; clear hK K)
  refine wpQuiet_val (v := .int .i64 (k : Int)) rfl (fun w' hw' => by go_simp) ?_
  (intro K hK; go_simp; refine hK _ ?_; clear hK K)
  refine wpQuiet_val (v := .int .i64 (k : Int)) rfl (fun w' hw' => by go_simp) ?_
  (intro K hK; go_simp; refine hK _ ?_; clear hK K)
  refine wpQuiet_nil ?_
  intro w2 hw2
  have hb2 : Hid (Below w.heap.size w w2) := hb1.out.trans (hw2.below.mono hb1.out.size)
  have hC2 : Hid (∀ w', Below w2.heap.size w2 w' → w'.cell? ⟨w.heap.size, 0, none⟩ = some (.int .i64 (fr : Int)) ∧ w'.cell? ⟨w.heap.size, 1, none⟩ = some (.int .i64 (tu : Int))) := fun w' hb => hC.out w' (hw2.below.trans (hb.mono hw2.below.size))
  clear hw2 hC hP1 hb1
  go_wp2_with fail
  have s0 : Hid (Below w2.heap.size w2 w2.drew) := (Below.refl _ _).drew
  refine held_start (fun w' => Below w2.heap.size w2 w') 14 rfl (by kernel_rfl) ?_
  refine held_take (i := 0) (v := .pointer (some ⟨w.heap.size, 0, none⟩)) rfl (by kernel_rfl) (by kernel_rfl) (by kernel_rfl) (fun _ _ _ h => h) s0.out (by rfl) (fun w' hw' => by go_simp) ?_
  (intro K hK; go_simp; refine hK _ ?_; clear hK K)
  refine held_take (i := 1) (v := .int .i64 (fr : Int)) rfl (by kernel_rfl) (by kernel_rfl) (by kernel_rfl) (fun _ _ _ h => h) s0.out (by rfl) (fun w' hw' => by have h := (hC2.out w' hw').1; go_simp) ?_
  (intro K hK; go_simp; refine hK _ ?_; clear hK K)
  refine held_take (i := 2) (v := .int .i64 (k : Int)) rfl (by kernel_rfl) (by kernel_rfl) (by kernel_rfl) (fun _ _ _ h => h) s0.out (by rfl) (fun w' hw' => run_mv (.tmp 7) rfl w') ?_
  (intro K hK; go_simp; refine hK _ ?_; clear hK K)
  refine held_take (i := 3) (v := .agg #[.int .i64 (fr : Int), .int .i64 (k : Int)]) rfl (by kernel_rfl) (by kernel_rfl) (by kernel_rfl) (fun _ _ _ h => h) s0.out (by rfl) (fun w' hw' => by go_simp) ?_
  (intro K hK; go_simp; refine hK _ ?_; clear hK K)
  refine held_take (i := 4) (v := .int .i64 (old : Int)) rfl (by kernel_rfl) (by kernel_rfl) (by kernel_rfl) (fun _ _ _ h => h) s0.out (by rfl) (fun w' hw' => run_mv (.tmp 1) rfl w') ?_
  (intro K hK; go_simp; refine hK _ ?_; clear hK K)
  refine held_take (i := 5) (v := .bool kn) rfl (by kernel_rfl) (by kernel_rfl) (by kernel_rfl) (fun _ _ _ h => h) s0.out (by rfl) (fun w' hw' => run_mv (.tmp 2) rfl w') ?_
  (intro K hK; go_simp; refine hK _ ?_; clear hK K)
  refine held_take (i := 7) (v := .int .i64 (k : Int)) rfl (by kernel_rfl) (by kernel_rfl) (by kernel_rfl) (fun _ _ _ h => h) s0.out (by rfl) (fun w' hw' => run_mv (.tmp 7) rfl w') ?_
  (intro K hK; go_simp; refine hK _ ?_; clear hK K)
  refine held_take (i := 8) (v := .pointer (some ⟨w.heap.size, 1, none⟩)) rfl (by kernel_rfl) (by kernel_rfl) (by kernel_rfl) (fun _ _ _ h => h) s0.out (by rfl) (fun w' hw' => by go_simp) ?_
  (intro K hK; go_simp; refine hK _ ?_; clear hK K)
  refine held_take (i := 9) (v := .int .i64 (tu : Int)) rfl (by kernel_rfl) (by kernel_rfl) (by kernel_rfl) (fun _ _ _ h => h) s0.out (by rfl) (fun w' hw' => by have h := (hC2.out w' hw').2; go_simp) ?_
  (intro K hK; go_simp; refine hK _ ?_; clear hK K)
  refine held_take (i := 10) (v := .agg #[.int .i64 (k : Int), .int .i64 (tu : Int)]) rfl (by kernel_rfl) (by kernel_rfl) (by kernel_rfl) (fun _ _ _ h => h) s0.out (by rfl) (fun w' hw' => by go_simp) ?_
  (intro K hK; go_simp; refine hK _ ?_; clear hK K)
  refine held_two (i := 6) (j := 11) rfl rfl (by kernel_rfl) (by rfl) (by rfl) (fun K hK => ?_) (fun K hK => ?_)
  · refine wp_fn (R := fun v w'' => w''.ownsRow w2.heap.size 176 2 v m (flatP L) ∧ Below w2.heap.size w2 w'' ∧ Below (w2.drew).heap.size (w2.drew) w'') (args := #[.agg #[.int .i64 (fr : Int), .int .i64 (k : Int)], .int .i64 (old : Int), .bool kn]) _ _ rfl rfl Tryd.func117 (by kernel_rfl) (by kernel_rfl) ((ih.out _).mono fun e w'' ⟨v, he, ho, hb⟩ => ⟨_, he, by rw [← hm.out]; exact ownsRow_base ho s0.out.size, s0.out.trans (hb.mono s0.out.size), hb⟩) ?_
    rintro v5 w5 ⟨hO, h5, kk⟩
    obtain ⟨Av, cv, rfl, -⟩ := Append.Own.reads hO
    replace hO := Lib.hid hO
    replace h5 := Lib.hid h5
    clear kk
    go_simp
    refine hK _ _ h5.out ?_
    clear hK K
    refine held_only (i := 11) rfl (by kernel_rfl) (by rfl) (fun K hK => ?_)
    refine wp_buildAggs 126 176 1 _ rfl 2 (by decide) [pcells (k, tu)] Tryd.underlying126 sizeP zeroP rfl (by decide) (by decide) (fun v hv => by simp only [List.mem_singleton] at hv; rw [hv]; rfl) rfl ?_
    have h6 : Hid (Below w2.heap.size w2 (w5.alloc (.cells (pcells (k, tu)).toArray 176))) := h5.out.alloc h5.out.size _
    have hN : Hid (Reads (w5.alloc (.cells (pcells (k, tu)).toArray 176)) 2 (some ⟨w5.heap.size, 0, none⟩) 1 (pcells (k, tu))) := Blk.reads (Blk.new w5 176 (pcells (k, tu)).toArray) 0 _ rfl (fun j u hu => by rw [Nat.zero_add, List.getElem?_toArray]; exact hu)
    change K _ (w5.alloc (.cells (pcells (k, tu)).toArray 176))
    replace hO : Hid ((w5.alloc (.cells (pcells (k, tu)).toArray 176)).ownsRow w2.heap.size 176 2 (.slice Av m cv) m (flatP L)) := own_below hO.out (Below.heap_below _ _)
    go_simp
    refine hK _ _ h6.out ?_
    clear hK K
    refine held_only (i := 12) rfl (by kernel_rfl) (by rfl) (fun K hK => ?_)
    refine wp_append_src _ (.tmp 33) (.tmp 38) 126 rfl w2.heap.size 176 i0 (.agg #[.int .i64 0, .int .i64 0]) 2 16 Tryd.underlying126 ii iz0 iz1 iz2 rfl (by decide) (.slice Av m cv) m (flatP L) rfl hO.out (some ⟨w5.heap.size, 0, none⟩) 1 1 (pcells (k, tu)) rfl hN.out (fun e => by cases e) (pcells_one _) (cap_parts (by have := hm41.out; omega)).1 (cap_parts (by have := hm41.out; omega)).2 h6.out.size ?_
    intro v8 w8 hG
    have hO8 : w8.ownsRow w2.heap.size 176 2 v8 (m + 1) (flatP (L ++ [(k, tu)])) := by rw [flatP_snoc]; exact hG.own
    have hin : Below w2.heap.size w2 w8 := hG.below h6.out h6.out.size (fun q e => (hO.out.lt q e).1)
    have hb8 : Hid (Below w.heap.size w w8) := hb2.out.trans (hin.mono hb2.out.size)
    obtain ⟨A8, c8, rfl, -⟩ := Append.Own.reads hO8
    replace hO8 := Lib.hid hO8
    go_simp
    refine hK _ _ hin ?_
    clear hK K
    refine held_take (i := 13) (v := .slice A8 (m + 1) c8) rfl (by kernel_rfl) (by kernel_rfl) (by kernel_rfl) (fun _ _ _ h => h) hin (by rfl) (fun w' hw' => by first | go_simp | rfl) ?_
    (intro K hK; go_simp; refine hK _ ?_; clear hK K)
    refine held_end (by kernel_rfl) ?_
    go_wp2_with fail
    go_ret
    exact ⟨_, rfl, by rw [List.length_append, hm.out]; exact ownsRow_base hO8.out hb2.out.size, hb8.out⟩
  · refine wp_buildAggs 126 176 1 _ rfl 2 (by decide) [pcells (k, tu)] Tryd.underlying126 sizeP zeroP rfl (by decide) (by decide) (fun v hv => by simp only [List.mem_singleton] at hv; rw [hv]; rfl) rfl ?_
    have h5 : Hid (Below w2.heap.size w2 (w2.drew.alloc (.cells (pcells (k, tu)).toArray 176))) := s0.out.alloc s0.out.size _
    have hN : Hid (Reads (w2.drew.alloc (.cells (pcells (k, tu)).toArray 176)) 2 (some ⟨w2.drew.heap.size, 0, none⟩) 1 (pcells (k, tu))) := Blk.reads (Blk.new w2.drew 176 (pcells (k, tu)).toArray) 0 _ rfl (fun j u hu => by rw [Nat.zero_add, List.getElem?_toArray]; exact hu)
    change K _ (w2.drew.alloc (.cells (pcells (k, tu)).toArray 176))
    go_simp
    refine hK _ _ h5.out ?_
    clear hK K
    refine held_only (i := 6) rfl (by kernel_rfl) (by rfl) (fun K hK => ?_)
    refine wp_fn (R := fun v w'' => w''.ownsRow w2.heap.size 176 2 v m (flatP L) ∧ Below w2.heap.size w2 w'' ∧ Below (w2.drew.alloc (.cells (pcells (k, tu)).toArray 176)).heap.size (w2.drew.alloc (.cells (pcells (k, tu)).toArray 176)) w'') (args := #[.agg #[.int .i64 (fr : Int), .int .i64 (k : Int)], .int .i64 (old : Int), .bool kn]) _ _ rfl rfl Tryd.func117 (by kernel_rfl) (by kernel_rfl) ((ih.out _).mono fun e w'' ⟨v, he, ho, hb⟩ => ⟨_, he, by rw [← hm.out]; exact ownsRow_base ho h5.out.size, h5.out.trans (hb.mono h5.out.size), hb⟩) ?_
    rintro v6 w6 ⟨hO, h6, kk⟩
    obtain ⟨Av, cv, rfl, -⟩ := Append.Own.reads hO
    replace hO := Lib.hid hO
    replace h6 := Lib.hid h6
    replace hN := Lib.hid (hN.out.below kk)
    clear kk
    go_simp
    refine hK _ _ h6.out ?_
    clear hK K
    refine held_only (i := 12) rfl (by kernel_rfl) (by rfl) (fun K hK => ?_)
    refine wp_append_src _ (.tmp 33) (.tmp 38) 126 rfl w2.heap.size 176 i0 (.agg #[.int .i64 0, .int .i64 0]) 2 16 Tryd.underlying126 ii iz0 iz1 iz2 rfl (by decide) (.slice Av m cv) m (flatP L) rfl hO.out (some ⟨w2.drew.heap.size, 0, none⟩) 1 1 (pcells (k, tu)) rfl hN.out (fun e => by cases e) (pcells_one _) (cap_parts (by have := hm41.out; omega)).1 (cap_parts (by have := hm41.out; omega)).2 h6.out.size ?_
    intro v8 w8 hG
    have hO8 : w8.ownsRow w2.heap.size 176 2 v8 (m + 1) (flatP (L ++ [(k, tu)])) := by rw [flatP_snoc]; exact hG.own
    have hin : Below w2.heap.size w2 w8 := hG.below h6.out h6.out.size (fun q e => (hO.out.lt q e).1)
    have hb8 : Hid (Below w.heap.size w w8) := hb2.out.trans (hin.mono hb2.out.size)
    obtain ⟨A8, c8, rfl, -⟩ := Append.Own.reads hO8
    replace hO8 := Lib.hid hO8
    go_simp
    refine hK _ _ hin ?_
    clear hK K
    refine held_take (i := 13) (v := .slice A8 (m + 1) c8) rfl (by kernel_rfl) (by kernel_rfl) (by kernel_rfl) (fun _ _ _ h => h) hin (by rfl) (fun w' hw' => by first | go_simp | rfl) ?_
    (intro K hK; go_simp; refine hK _ ?_; clear hK K)
    refine held_end (by kernel_rfl) ?_
    go_wp2_with fail
    go_ret
    exact ⟨_, rfl, by rw [List.length_append, hm.out]; exact ownsRow_base hO8.out hb2.out.size, hb8.out⟩

set_option maxRecDepth 100000 in
set_option maxHeartbeats 1000000 in
theorem joint_right (fr tu old : Nat) (h1 : fr < old) (h2 : old < tu) (h40 : tu ≤ 1099511627776) (hl : half (tu - fr) < old - fr) (kn : Bool) (L : List (Nat × Nat)) (hn : L.length ≤ 41) (w : World)
    (ih : ∀ w, Calls Tryd.prog 117 #[.agg #[.int .i64 ((fr + half (tu - fr) : Nat) : Int), .int .i64 (tu : Int)], .int .i64 (old : Int), .bool false] w (JPost 176 w L)) :
    Calls Tryd.prog 117 #[.agg #[.int .i64 (fr : Int), .int .i64 (tu : Int)], .int .i64 (old : Int), .bool kn] w (JPost 176 w (L ++ [(fr, fr + half (tu - fr))])) := by
  obtain ⟨i0, ii, iz0, iz1, iz2⟩ := info_partsN infoP
  obtain ⟨w1, hw1⟩ : ∃ w1, Hid (w1 = w.alloc (.cells #[.int .i64 (fr : Int), .int .i64 (tu : Int)] 176)) := ⟨_, rfl⟩
  have hb1 : Hid (Below w.heap.size w w1) := by show Below _ _ _; rw [hw1.out]; exact Below.heap_below w _
  have hP1 : Hid (Blk w1 w.heap.size 176 #[.int .i64 (fr : Int), .int .i64 (tu : Int)]) := by show Blk _ _ _ _; rw [hw1.out]; exact Blk.new w _ _
  have y1 : ((old : Int) == (tu : Int)) = false := beq_eq_false_iff_ne.2 (by omega)
  have y2 : ¬ old = tu := by omega
  obtain ⟨d, hd⟩ : ∃ d, tu - fr = d := ⟨_, rfl⟩
  have hd2 : 2 ≤ d := by omega
  have hlt := half_lt hd2
  have hLf := Lib.hid (fun w' => left_any d hd2 (by omega) w')
  rw [hd] at ih hl ⊢
  obtain ⟨hh, hhe⟩ : ∃ h, half d = h := ⟨_, rfl⟩
  rw [hhe] at ih hl hLf hlt ⊢
  obtain ⟨k, hk⟩ : ∃ k, fr + hh = k := ⟨_, rfl⟩
  rw [hk] at ih ⊢
  have x0 : (tu : Int) - (fr : Int) = (d : Int) := by omega
  have x1 : (fr : Int) + (hh : Int) = (k : Int) := by omega
  have x2 : IntKind.i64.wrap ((tu : Int) - (fr : Int)) = (d : Int) := by rw [x0]; exact IntWalk.i64_in _ (by omega)
  have x3 : IntKind.i64.wrap ((fr : Int) + (hh : Int)) = (k : Int) := by rw [x1]; exact IntWalk.i64_in _ (by omega)
  have x4 : IntKind.i64.wrap (d : Int) = (d : Int) := IntWalk.i64_in _ (by omega)
  have x5 : IntKind.i64.wrap (k : Int) = (k : Int) := IntWalk.i64_in _ (by omega)
  have z1 : ¬ ((old : Int) ≤ (k : Int)) := by omega
  have hC : Hid (∀ w', Below w1.heap.size w1 w' → w'.cell? ⟨w.heap.size, 0, none⟩ = some (.int .i64 (fr : Int)) ∧ w'.cell? ⟨w.heap.size, 1, none⟩ = some (.int .i64 (tu : Int))) := fun w' hb => ⟨(hb.cell (p := ⟨w.heap.size, 0, none⟩) hP1.out.lt).trans (hP1.out.cell 0), (hb.cell (p := ⟨w.heap.size, 1, none⟩) hP1.out.lt).trans (hP1.out.cell 1)⟩
  obtain ⟨m, hm⟩ : ∃ m, L.length = m := ⟨_, rfl⟩
  have hm41 : Hid (m ≤ 41) := by show _ ≤ _; omega
  replace hm := Lib.hid hm
  replace ih := Lib.hid ih
  clear h1 h2 h40 hl hd hd2 hlt hhe hk hn
  go_enter Tryd.func117, Tryd.ntmps117
  go_wp2_with fail
  change (Code.region _ _ _).wp _ _ _ (w.alloc (.cells #[.int .i64 (fr : Int), .int .i64 (tu : Int)] 176))
  rw [← hw1.out]
  clear hw1
  refine wp_region_class (Class w1) (by kernel_rfl) (by kernel_rfl) (Class.mk_ ((Below.refl _ _).drew)) ?_
  refine wpQuiet_val (v := .pointer (some ⟨w.heap.size, 0, none⟩)) rfl (fun w' hw' => by go_simp) ?_
  (intro K hK; go_simp; refine hK _ ?_; clear hK K)
  refine wpQuiet_val (v := .int .i64 (fr : Int)) rfl (fun w' hw' => by have hc := (hC.out w' hw'.below).1; go_simp) ?_
  (intro K hK; go_simp; refine hK _ ?_; clear hK K)
  refine wpQuiet_val (v := .pointer (some ⟨w.heap.size, 1, none⟩)) rfl (fun w' hw' => by go_simp) ?_
  (intro K hK; go_simp; refine hK _ ?_; clear hK K)
  refine wpQuiet_val (v := .int .i64 (tu : Int)) rfl (fun w' hw' => by have hc := (hC.out w' hw'.below).2; go_simp) ?_
  (intro K hK; go_simp; refine hK _ ?_; clear hK K)
  refine wpQuiet_val (v := .pointer (some ⟨w.heap.size, 0, none⟩)) rfl (fun w' hw' => by go_simp) ?_
  (intro K hK; go_simp; refine hK _ ?_; clear hK K)
  refine wpQuiet_val (v := .int .i64 (fr : Int)) rfl (fun w' hw' => by have hc := (hC.out w' hw'.below).1; go_simp) ?_
  (intro K hK; go_simp; refine hK _ ?_; clear hK K)
  refine wpQuiet_val (v := .int .i64 (d : Int)) rfl (fun w' hw' => by go_simp) ?_
  (intro K hK; go_simp; refine hK _ ?_; clear hK K)
  refine wpQuiet_fn (v := .int .i64 (hh : Int)) (args := #[.int .i64 (d : Int)]) rfl _ _ rfl rfl Tryd.func111 (by kernel_rfl) (by kernel_rfl) (fun w' hw' => (hLf.out w').mono (fun e w'' ⟨he, hb⟩ => ⟨he, by rw [← hb]; exact hw'⟩)) ?_
  (intro K hK; go_simp; refine hK _ ?_; clear hK K)
  refine wpQuiet_val (v := .int .i64 (k : Int)) rfl (fun w' hw' => by go_simp) ?_
  (intro K hK; go_simp; refine hK _ ?_; clear hK K)
  refine wpQuiet_val (v := .int .i64 (k : Int)) rfl (fun w' hw' => by go_simp) ?_
  (intro K hK; go_simp; refine hK _ ?_; clear hK K)
  refine wpQuiet_nil ?_
  intro w2 hw2
  have hb2 : Hid (Below w.heap.size w w2) := hb1.out.trans (hw2.below.mono hb1.out.size)
  have hC2 : Hid (∀ w', Below w2.heap.size w2 w' → w'.cell? ⟨w.heap.size, 0, none⟩ = some (.int .i64 (fr : Int)) ∧ w'.cell? ⟨w.heap.size, 1, none⟩ = some (.int .i64 (tu : Int))) := fun w' hb => hC.out w' (hw2.below.trans (hb.mono hw2.below.size))
  clear hw2 hC hP1 hb1
  go_wp2_with fail
  have s0 : Hid (Below w2.heap.size w2 w2.drew) := (Below.refl _ _).drew
  refine held_start (fun w' => Below w2.heap.size w2 w') 13 rfl (by kernel_rfl) ?_
  refine held_take (i := 0) (v := .int .i64 (k : Int)) rfl (by kernel_rfl) (by kernel_rfl) (by kernel_rfl) (fun _ _ _ h => h) s0.out (by rfl) (fun w' hw' => run_mv (.tmp 7) rfl w') ?_
  (intro K hK; go_simp; refine hK _ ?_; clear hK K)
  refine held_take (i := 1) (v := .pointer (some ⟨w.heap.size, 1, none⟩)) rfl (by kernel_rfl) (by kernel_rfl) (by kernel_rfl) (fun _ _ _ h => h) s0.out (by rfl) (fun w' hw' => by go_simp) ?_
  (intro K hK; go_simp; refine hK _ ?_; clear hK K)
  refine held_take (i := 2) (v := .int .i64 (tu : Int)) rfl (by kernel_rfl) (by kernel_rfl) (by kernel_rfl) (fun _ _ _ h => h) s0.out (by rfl) (fun w' hw' => by have h := (hC2.out w' hw').2; go_simp) ?_
  (intro K hK; go_simp; refine hK _ ?_; clear hK K)
  refine held_take (i := 3) (v := .agg #[.int .i64 (k : Int), .int .i64 (tu : Int)]) rfl (by kernel_rfl) (by kernel_rfl) (by kernel_rfl) (fun _ _ _ h => h) s0.out (by rfl) (fun w' hw' => by go_simp) ?_
  (intro K hK; go_simp; refine hK _ ?_; clear hK K)
  refine held_take (i := 4) (v := .int .i64 (old : Int)) rfl (by kernel_rfl) (by kernel_rfl) (by kernel_rfl) (fun _ _ _ h => h) s0.out (by rfl) (fun w' hw' => run_mv (.tmp 1) rfl w') ?_
  (intro K hK; go_simp; refine hK _ ?_; clear hK K)
  refine held_take (i := 6) (v := .pointer (some ⟨w.heap.size, 0, none⟩)) rfl (by kernel_rfl) (by kernel_rfl) (by kernel_rfl) (fun _ _ _ h => h) s0.out (by rfl) (fun w' hw' => by go_simp) ?_
  (intro K hK; go_simp; refine hK _ ?_; clear hK K)
  refine held_take (i := 7) (v := .int .i64 (fr : Int)) rfl (by kernel_rfl) (by kernel_rfl) (by kernel_rfl) (fun _ _ _ h => h) s0.out (by rfl) (fun w' hw' => by have h := (hC2.out w' hw').1; go_simp) ?_
  (intro K hK; go_simp; refine hK _ ?_; clear hK K)
  refine held_take (i := 8) (v := .int .i64 (k : Int)) rfl (by kernel_rfl) (by kernel_rfl) (by kernel_rfl) (fun _ _ _ h => h) s0.out (by rfl) (fun w' hw' => run_mv (.tmp 7) rfl w') ?_
  (intro K hK; go_simp; refine hK _ ?_; clear hK K)
  refine held_take (i := 9) (v := .agg #[.int .i64 (fr : Int), .int .i64 (k : Int)]) rfl (by kernel_rfl) (by kernel_rfl) (by kernel_rfl) (fun _ _ _ h => h) s0.out (by rfl) (fun w' hw' => by go_simp) ?_
  (intro K hK; go_simp; refine hK _ ?_; clear hK K)
  refine held_two (i := 5) (j := 10) rfl rfl (by kernel_rfl) (by rfl) (by rfl) (fun K hK => ?_) (fun K hK => ?_)
  · refine wp_fn (R := fun v w'' => w''.ownsRow w2.heap.size 176 2 v m (flatP L) ∧ Below w2.heap.size w2 w'' ∧ Below (w2.drew).heap.size (w2.drew) w'') (args := #[.agg #[.int .i64 (k : Int), .int .i64 (tu : Int)], .int .i64 (old : Int), .bool false]) _ _ rfl rfl Tryd.func117 (by kernel_rfl) (by kernel_rfl) ((ih.out _).mono fun e w'' ⟨v, he, ho, hb⟩ => ⟨_, he, by rw [← hm.out]; exact ownsRow_base ho s0.out.size, s0.out.trans (hb.mono s0.out.size), hb⟩) ?_
    rintro v5 w5 ⟨hO, h5, kk⟩
    obtain ⟨Av, cv, rfl, -⟩ := Append.Own.reads hO
    replace hO := Lib.hid hO
    replace h5 := Lib.hid h5
    clear kk
    go_simp
    refine hK _ _ h5.out ?_
    clear hK K
    refine held_only (i := 10) rfl (by kernel_rfl) (by rfl) (fun K hK => ?_)
    refine wp_buildAggs 126 176 1 _ rfl 2 (by decide) [pcells (fr, k)] Tryd.underlying126 sizeP zeroP rfl (by decide) (by decide) (fun v hv => by simp only [List.mem_singleton] at hv; rw [hv]; rfl) rfl ?_
    have h6 : Hid (Below w2.heap.size w2 (w5.alloc (.cells (pcells (fr, k)).toArray 176))) := h5.out.alloc h5.out.size _
    have hN : Hid (Reads (w5.alloc (.cells (pcells (fr, k)).toArray 176)) 2 (some ⟨w5.heap.size, 0, none⟩) 1 (pcells (fr, k))) := Blk.reads (Blk.new w5 176 (pcells (fr, k)).toArray) 0 _ rfl (fun j u hu => by rw [Nat.zero_add, List.getElem?_toArray]; exact hu)
    change K _ (w5.alloc (.cells (pcells (fr, k)).toArray 176))
    replace hO : Hid ((w5.alloc (.cells (pcells (fr, k)).toArray 176)).ownsRow w2.heap.size 176 2 (.slice Av m cv) m (flatP L)) := own_below hO.out (Below.heap_below _ _)
    go_simp
    refine hK _ _ h6.out ?_
    clear hK K
    refine held_only (i := 11) rfl (by kernel_rfl) (by rfl) (fun K hK => ?_)
    refine wp_append_src _ (.tmp 45) (.tmp 50) 126 rfl w2.heap.size 176 i0 (.agg #[.int .i64 0, .int .i64 0]) 2 16 Tryd.underlying126 ii iz0 iz1 iz2 rfl (by decide) (.slice Av m cv) m (flatP L) rfl hO.out (some ⟨w5.heap.size, 0, none⟩) 1 1 (pcells (fr, k)) rfl hN.out (fun e => by cases e) (pcells_one _) (cap_parts (by have := hm41.out; omega)).1 (cap_parts (by have := hm41.out; omega)).2 h6.out.size ?_
    intro v8 w8 hG
    have hO8 : w8.ownsRow w2.heap.size 176 2 v8 (m + 1) (flatP (L ++ [(fr, k)])) := by rw [flatP_snoc]; exact hG.own
    have hin : Below w2.heap.size w2 w8 := hG.below h6.out h6.out.size (fun q e => (hO.out.lt q e).1)
    have hb8 : Hid (Below w.heap.size w w8) := hb2.out.trans (hin.mono hb2.out.size)
    obtain ⟨A8, c8, rfl, -⟩ := Append.Own.reads hO8
    replace hO8 := Lib.hid hO8
    go_simp
    refine hK _ _ hin ?_
    clear hK K
    refine held_take (i := 12) (v := .slice A8 (m + 1) c8) rfl (by kernel_rfl) (by kernel_rfl) (by kernel_rfl) (fun _ _ _ h => h) hin (by rfl) (fun w' hw' => by first | go_simp | rfl) ?_
    (intro K hK; go_simp; refine hK _ ?_; clear hK K)
    refine held_end (by kernel_rfl) ?_
    go_wp2_with fail
    go_ret
    exact ⟨_, rfl, by rw [List.length_append, hm.out]; exact ownsRow_base hO8.out hb2.out.size, hb8.out⟩
  · refine wp_buildAggs 126 176 1 _ rfl 2 (by decide) [pcells (fr, k)] Tryd.underlying126 sizeP zeroP rfl (by decide) (by decide) (fun v hv => by simp only [List.mem_singleton] at hv; rw [hv]; rfl) rfl ?_
    have h5 : Hid (Below w2.heap.size w2 (w2.drew.alloc (.cells (pcells (fr, k)).toArray 176))) := s0.out.alloc s0.out.size _
    have hN : Hid (Reads (w2.drew.alloc (.cells (pcells (fr, k)).toArray 176)) 2 (some ⟨w2.drew.heap.size, 0, none⟩) 1 (pcells (fr, k))) := Blk.reads (Blk.new w2.drew 176 (pcells (fr, k)).toArray) 0 _ rfl (fun j u hu => by rw [Nat.zero_add, List.getElem?_toArray]; exact hu)
    change K _ (w2.drew.alloc (.cells (pcells (fr, k)).toArray 176))
    go_simp
    refine hK _ _ h5.out ?_
    clear hK K
    refine held_only (i := 5) rfl (by kernel_rfl) (by rfl) (fun K hK => ?_)
    refine wp_fn (R := fun v w'' => w''.ownsRow w2.heap.size 176 2 v m (flatP L) ∧ Below w2.heap.size w2 w'' ∧ Below (w2.drew.alloc (.cells (pcells (fr, k)).toArray 176)).heap.size (w2.drew.alloc (.cells (pcells (fr, k)).toArray 176)) w'') (args := #[.agg #[.int .i64 (k : Int), .int .i64 (tu : Int)], .int .i64 (old : Int), .bool false]) _ _ rfl rfl Tryd.func117 (by kernel_rfl) (by kernel_rfl) ((ih.out _).mono fun e w'' ⟨v, he, ho, hb⟩ => ⟨_, he, by rw [← hm.out]; exact ownsRow_base ho h5.out.size, h5.out.trans (hb.mono h5.out.size), hb⟩) ?_
    rintro v6 w6 ⟨hO, h6, kk⟩
    obtain ⟨Av, cv, rfl, -⟩ := Append.Own.reads hO
    replace hO := Lib.hid hO
    replace h6 := Lib.hid h6
    replace hN := Lib.hid (hN.out.below kk)
    clear kk
    go_simp
    refine hK _ _ h6.out ?_
    clear hK K
    refine held_only (i := 11) rfl (by kernel_rfl) (by rfl) (fun K hK => ?_)
    refine wp_append_src _ (.tmp 45) (.tmp 50) 126 rfl w2.heap.size 176 i0 (.agg #[.int .i64 0, .int .i64 0]) 2 16 Tryd.underlying126 ii iz0 iz1 iz2 rfl (by decide) (.slice Av m cv) m (flatP L) rfl hO.out (some ⟨w2.drew.heap.size, 0, none⟩) 1 1 (pcells (fr, k)) rfl hN.out (fun e => by cases e) (pcells_one _) (cap_parts (by have := hm41.out; omega)).1 (cap_parts (by have := hm41.out; omega)).2 h6.out.size ?_
    intro v8 w8 hG
    have hO8 : w8.ownsRow w2.heap.size 176 2 v8 (m + 1) (flatP (L ++ [(fr, k)])) := by rw [flatP_snoc]; exact hG.own
    have hin : Below w2.heap.size w2 w8 := hG.below h6.out h6.out.size (fun q e => (hO.out.lt q e).1)
    have hb8 : Hid (Below w.heap.size w w8) := hb2.out.trans (hin.mono hb2.out.size)
    obtain ⟨A8, c8, rfl, -⟩ := Append.Own.reads hO8
    replace hO8 := Lib.hid hO8
    go_simp
    refine hK _ _ hin ?_
    clear hK K
    refine held_take (i := 12) (v := .slice A8 (m + 1) c8) rfl (by kernel_rfl) (by kernel_rfl) (by kernel_rfl) (fun _ _ _ h => h) hin (by rfl) (fun w' hw' => by first | go_simp | rfl) ?_
    (intro K hK; go_simp; refine hK _ ?_; clear hK K)
    refine held_end (by kernel_rfl) ?_
    go_wp2_with fail
    go_ret
    exact ⟨_, rfl, by rw [List.length_append, hm.out]; exact ownsRow_base hO8.out hb2.out.size, hb8.out⟩
theorem joint_any : ∀ (L fr tu old : Nat) (kn : Bool) (w : World), fr < old → old ≤ tu → tu - fr ≤ 2 ^ L → L ≤ 40 → tu ≤ 1099511627776 →
    Calls Tryd.prog 117 #[.agg #[.int .i64 (fr : Int), .int .i64 (tu : Int)], .int .i64 (old : Int), .bool kn] w (JPost 176 w (rowsL fr tu old kn))
  | L, fr, tu, old, kn, w, h1, h2, h, hL, h40 => by
    by_cases e : old = tu
    · subst e
      rw [rowsL_same h1]
      cases kn with
      | true => exact joint_known fr old w
      | false => exact joint_spot fr old w
    · have hlt := half_lt (n := tu - fr) (by omega)
      have hge := half_ge (tu - fr)
      cases L with
      | zero => simp at h; omega
      | succ L =>
        have hb := half_le_pow (n := tu - fr) (by omega) h
        have hp : 2 ^ (L + 1) ≤ 1099511627776 := by
          rw [show (1099511627776 : Nat) = 2 ^ 40 by decide]
          exact Nat.pow_le_pow_right (by omega) hL
        by_cases c : old - fr ≤ half (tu - fr)
        · rw [rowsL_left h1 (by omega) c]
          have hn := rowsL_len (tu - fr) fr (fr + half (tu - fr)) old kn (by omega) h1 (by omega)
          have h41 := subC_le 40 (old - fr) (fr + half (tu - fr) - fr) kn (by omega) (by omega) (by rw [show (2 : Nat) ^ 40 = 1099511627776 by decide]; omega)
          exact joint_left fr tu old h1 (by omega) h40 c kn _ (by omega) w (fun w => joint_any L fr (fr + half (tu - fr)) old kn w h1 (by omega) (by omega) (by omega) (by omega))
        · rw [rowsL_right h1 (by omega) (by omega)]
          have hn := rowsL_len (tu - fr) (fr + half (tu - fr)) tu old false (by omega) (by omega) (by omega)
          have h41 := subC_le 40 (old - (fr + half (tu - fr))) (tu - (fr + half (tu - fr))) false (by omega) (by omega) (by rw [show (2 : Nat) ^ 40 = 1099511627776 by decide]; omega)
          exact joint_right fr tu old h1 (by omega) h40 (by omega) kn _ (by omega) w (fun w => joint_any L (fr + half (tu - fr)) tu old false w (by omega) (by omega) (by omega) (by omega) h40)

set_option maxRecDepth 100000 in
set_option maxHeartbeats 1000000 in
theorem sizes_any (old size : Int) (w : World) : Calls Tryd.prog 70 #[.int .i64 old, .int .i64 size] w fun e w' => e = .returned (.bool (joinsB old size)) ∧ w = w' := by
  have hk : Hid (joinsB old size = (decide (0 ≤ old) && decide (old ≤ size) && decide (size ≤ 1099511627776))) := rfl
  generalize joinsB old size = b at *
  rcases Bool.eq_false_or_eq_true (decide (0 ≤ old)) with b1 | b1 <;> rcases Bool.eq_false_or_eq_true (decide (old ≤ size)) with b2 | b2 <;> rcases Bool.eq_false_or_eq_true (decide (size ≤ 1099511627776)) with b3 | b3
  all_goals
    have k1 := Lib.hid b1
    have k2 := Lib.hid b2
    have k3 := Lib.hid b3
    go_enter Tryd.func70, Tryd.ntmps70
    go_wp2_with fail
    go_ret
    refine ⟨?_, rfl⟩
    rw [hk.out, k1.out, k2.out, k3.out]
    rfl

set_option maxRecDepth 100000 in
set_option maxHeartbeats 1000000 in
theorem parts_any (old size : Nat) (h : old ≤ size) (hs : size ≤ 1099511627776) (w : World) : Calls Tryd.prog 71 #[.int .i64 (old : Int), .int .i64 (size : Int)] w (JPost 176 w (partsOf old size)) := by
  by_cases h0 : old = 0
  · subst h0
    rw [show partsOf 0 size = [] from if_pos (.inl rfl)]
    clear h hs
    go_enter Tryd.func71, Tryd.ntmps71
    go_wp2_with fail
    go_ret
    exact ⟨_, rfl, World.ownsRow_nil _ _ _ _, Below.refl _ _⟩
  · have y1 : ((old : Int) == 0) = false := beq_eq_false_iff_ne.2 (by omega)
    by_cases he : old = size
    · rw [show partsOf old size = [] from if_pos (.inr he)]
      subst he
      have y2 : ((old : Int) == (old : Int)) = true := beq_self_eq_true _
      clear h hs
      go_enter Tryd.func71, Tryd.ntmps71
      go_wp2_with fail
      go_ret
      exact ⟨_, rfl, World.ownsRow_nil _ _ _ _, Below.refl _ _⟩
    · rw [show partsOf old size = rowsL 0 size old true from if_neg (fun h => h.elim h0 he)]
      have y2 : ((old : Int) == (size : Int)) = false := beq_eq_false_iff_ne.2 (by omega)
      have y3 : ¬ old = size := he
      have hT := Lib.hid (fun w' => joint_any 40 0 size old true w' (by omega) h (by rw [show (2 : Nat) ^ 40 = 1099511627776 by decide]; omega) (Nat.le_refl _) hs)
      clear h hs
      go_enter Tryd.func71, Tryd.ntmps71
      go_wp2_with fail
      refine (hT.out w).mono ?_
      rintro e w1 ⟨v, rfl, hO, hb⟩
      obtain ⟨Av, cv, rfl, -⟩ := Append.Own.reads hO
      replace hO := Lib.hid hO
      replace hb := Lib.hid hb
      go_wp2_with fail
      go_ret
      exact ⟨_, rfl, hO.out, hb.out⟩
end Go.Proofs.YtgldkfaiofkhbaaDoor.Joint
