/-
  Texts of the claim, put into one file: Ref17, PieceRow, Prs, Ref17b, Eight, Ref17K, IdxRef, IdxRef2, RefCons, EncConsAny.
-/
import Derived.Test.YtgldkfaiofkhbaaDoorZ9
import Derived.Test.YtgldkfaiofkhbaaDoorZ17
import Derived.Test.YtgldkfaiofkhbaaDoorZ5
import Derived.Test.YtgldkfaiofkhbaaDoorZ3
import Derived.Test.YtgldkfaiofkhbaaDoorZ1
import Derived.Test.YtgldkfaiofkhbaaDoorZ16
import Derived.Test.YtgldkfaiofkhbaaDoorZ15
import Derived.Test.YtgldkfaiofkhbaaDoorZ13

namespace Go.Proofs.YtgldkfaiofkhbaaDoor.Ref17
open Go Go.RowKit Go.Proofs.YtgldkfaiofkhbaaDoor Go.Proofs.YtgldkfaiofkhbaaDoor.Mem Go.Proofs.YtgldkfaiofkhbaaDoor.Sha Go.Proofs.YtgldkfaiofkhbaaDoor.Bytes Go.Proofs.YtgldkfaiofkhbaaDoor.Append Go.Proofs.YtgldkfaiofkhbaaDoor.Octet Go.Proofs.YtgldkfaiofkhbaaDoor.Octet2 Go.Proofs.YtgldkfaiofkhbaaDoor.QuietTail Go.Proofs.YtgldkfaiofkhbaaDoor.Grown Go.Proofs.YtgldkfaiofkhbaaDoor.TreeMath Go.Proofs.YtgldkfaiofkhbaaDoor.Sides Go.Proofs.YtgldkfaiofkhbaaDoor.ProofBeside Go.Proofs.YtgldkfaiofkhbaaDoor.ProofEnc Go.Proofs.YtgldkfaiofkhbaaDoor.Beside17 Go.Proofs.YtgldkfaiofkhbaaDoor.Held Go.Proofs.YtgldkfaiofkhbaaDoor.Own Go.Proofs.YtgldkfaiofkhbaaDoor.TreeMem

/-- The cells of an inclusion. -/
def inclCells (size i : Int) (A : Option Addr) (n c : Nat) : Array Value := #[.int .i64 size, .int .i64 i, .slice A n c]
end Go.Proofs.YtgldkfaiofkhbaaDoor.Ref17

namespace Go.Proofs.YtgldkfaiofkhbaaDoor.PieceRow
open Go Go.RowKit Go.Proofs.YtgldkfaiofkhbaaDoor Go.Proofs.YtgldkfaiofkhbaaDoor.Mem Go.Proofs.YtgldkfaiofkhbaaDoor.Sha Go.Proofs.YtgldkfaiofkhbaaDoor.Bytes Go.Proofs.YtgldkfaiofkhbaaDoor.Append Go.Proofs.YtgldkfaiofkhbaaDoor.Octet Go.Proofs.YtgldkfaiofkhbaaDoor.Octet2 Go.Proofs.YtgldkfaiofkhbaaDoor.QuietTail Go.Proofs.YtgldkfaiofkhbaaDoor.Grown Go.Proofs.YtgldkfaiofkhbaaDoor.TreeMath Go.Proofs.YtgldkfaiofkhbaaDoor.Sides Go.Proofs.YtgldkfaiofkhbaaDoor.ProofBeside Go.Proofs.YtgldkfaiofkhbaaDoor.ProofEnc Go.Proofs.YtgldkfaiofkhbaaDoor.Beside17 Go.Proofs.YtgldkfaiofkhbaaDoor.Held Go.Proofs.YtgldkfaiofkhbaaDoor.Own Go.Proofs.YtgldkfaiofkhbaaDoor.TreeMem Go.Proofs.YtgldkfaiofkhbaaDoor.Ref17 Go.Proofs.YtgldkfaiofkhbaaDoor.ProofIdx Go.Proofs.YtgldkfaiofkhbaaDoor.DigEq

theorem sum64 {x y : Int} (h0 : 0 ≤ x) (h1 : 0 ≤ y) (h2 : x < 4611686018427387904) (h3 : y < 4611686018427387904) : IntKind.i64.wrap (x + y) = x + y := IntWalk.i64_in _ (by omega)
set_option maxRecDepth 100000 in
theorem headBytes_any (s : ByteArray) (hs : s.size ≤ 140737488355328) (w : World) :
    Calls Tryd.prog 124 #[.string s] w fun e w' => e = .returned (.int .i64 ((54 + s.size : Nat) : Int)) ∧ w = w' := by
  have e1 : IntKind.i64.wrap (2 + (s.size : Int)) = 2 + (s.size : Int) := sum64 (by omega) (by omega) (by omega) (by omega)
  have e2 : IntKind.i64.wrap (2 + (s.size : Int) + 8) = 2 + (s.size : Int) + 8 := sum64 (by omega) (by omega) (by omega) (by omega)
  have e3 : IntKind.i64.wrap (2 + (s.size : Int) + 8 + 32) = 2 + (s.size : Int) + 8 + 32 := sum64 (by omega) (by omega) (by omega) (by omega)
  have e4 : IntKind.i64.wrap (2 + (s.size : Int) + 8 + 32 + 8) = 2 + (s.size : Int) + 8 + 32 + 8 := sum64 (by omega) (by omega) (by omega) (by omega)
  have e5 : IntKind.i64.wrap (2 + (s.size : Int) + 8 + 32 + 8 + 4) = ((54 + s.size : Nat) : Int) := by rw [sum64 (by omega) (by omega) (by omega) (by omega)]; omega
  clear hs
  generalize ((54 + s.size : Nat) : Int) = z at *
  go_enter Tryd.func124, Tryd.ntmps124
  go_wp2_with fail
  go_ret
  exact ⟨rfl, rfl⟩
set_option maxRecDepth 100000 in
theorem rowBytes_any (x y : Int) (A : Option Addr) (n c : Nat) (hn : n ≤ 140737488355328) (Ae : Option Addr) (k ce : Nat) (hk : k ≤ 140737488355328) (w : World) :
    Calls Tryd.prog 125 #[.slice Ae k ce, .agg (inclCells x y A n c)] w fun e w' => e = .returned (.int .i64 ((12 + k + 32 * n : Nat) : Int)) ∧ Below w.heap.size w w' := by
  have e1 : IntKind.i64.wrap (12 + (k : Int)) = 12 + (k : Int) := sum64 (by omega) (by omega) (by omega) (by omega)
  have e2 : IntKind.i64.wrap (32 * (n : Int)) = 32 * (n : Int) := IntWalk.i64_in _ (by omega)
  have e3 : IntKind.i64.wrap (12 + (k : Int) + 32 * (n : Int)) = ((12 + k + 32 * n : Nat) : Int) := by rw [sum64 (by omega) (by omega) (by omega) (by omega)]; omega
  clear hn hk
  generalize ((12 + k + 32 * n : Nat) : Int) = z at *
  have hb0 : Hid (Below w.heap.size w (w.alloc (.cells (inclCells x y A n c) 51))) := Below.heap_below w _
  have hP := Blk.new w 51 (inclCells x y A n c)
  have c2 := hP.cell 2
  have c2 : (w.alloc (.cells (inclCells x y A n c) 51)).cell? ⟨w.heap.size, 2, none⟩ = some (.slice A n c) := c2
  have c3 : (inclCells x y A n c)[2]? = some (.slice A n c) := rfl
  clear hP
  go_enter Tryd.func125, Tryd.ntmps125
  go_wp2_with fail
  go_ret
  exact ⟨rfl, hb0.out⟩
/-- What beside answers, at any numbers. -/
def bsNum (size i : Int) : Int := if insideB size i = true then (besideOf size.toNat i.toNat : Int) else 0
theorem beside_all (size i : Int) (w : World) : Calls Tryd.prog 56 #[.int .i64 size, .int .i64 i] w fun e w' => e = .returned (.tuple #[.int .i64 (bsNum size i), .bool (insideB size i)]) ∧ w = w' := by
  unfold bsNum
  cases h : insideB size i with
  | true =>
    have h2 := h
    simp only [insideB, Bool.and_eq_true, decide_eq_true_eq] at h2
    obtain ⟨sz, rfl⟩ := Int.eq_ofNat_of_zero_le (show 0 ≤ size by omega)
    obtain ⟨j, rfl⟩ := Int.eq_ofNat_of_zero_le h2.1.2
    rw [if_pos rfl, Int.toNat_natCast, Int.toNat_natCast]
    exact beside_yes sz j (by omega) (by omega) w
  | false =>
    rw [if_neg (by decide)]
    exact beside_no size i h w
/-- May an event and its proof stand in a piece? -/
def fitB (x y : Int) (n k : Nat) : Bool := insideB x y && ((bsNum x y == (n : Int)) && (decide (1 ≤ k) && decide (k ≤ 65536)))
set_option maxRecDepth 100000 in
set_option maxHeartbeats 1000000 in
theorem row_any (x y : Int) (A : Option Addr) (n c : Nat) (size : Int) (Ae : Option Addr) (k ce : Nat) (w : World) :
    Calls Tryd.prog 126 #[.slice Ae k ce, .agg (inclCells x y A n c), .int .i64 size] w fun e w' => e = .returned (.bool (fitB x y n k && (x == size))) ∧ Below w.heap.size w w' := by
  have hBs := Lib.hid (fun w' => beside_all x y w')
  unfold fitB
  obtain ⟨v, hv⟩ : ∃ v, bsNum x y = v := ⟨_, rfl⟩
  obtain ⟨b1, h1⟩ : ∃ b, insideB x y = b := ⟨_, rfl⟩
  rw [hv, h1] at hBs
  rw [hv, h1]
  clear hv h1
  obtain ⟨b2, h2⟩ : ∃ b, (v == (n : Int)) = b := ⟨_, rfl⟩
  obtain ⟨b3, h3⟩ : ∃ b, (x == size) = b := ⟨_, rfl⟩
  have hb0 : Hid (Below w.heap.size w (w.alloc (.cells (inclCells x y A n c) 51))) := Below.heap_below w _
  have hP := Blk.new w 51 (inclCells x y A n c)
  have c0 : (w.alloc (.cells (inclCells x y A n c) 51)).cell? ⟨w.heap.size, 0, none⟩ = some (.int .i64 x) := hP.cell 0
  have c1 : (w.alloc (.cells (inclCells x y A n c) 51)).cell? ⟨w.heap.size, 1, none⟩ = some (.int .i64 y) := hP.cell 1
  have c2 : (w.alloc (.cells (inclCells x y A n c) 51)).cell? ⟨w.heap.size, 2, none⟩ = some (.slice A n c) := hP.cell 2
  clear hP
  rw [h2, h3]
  go_enter Tryd.func126, Tryd.ntmps126
  go_wp2_with fail
  refine (hBs.out _).mono ?_
  rintro e w1 ⟨rfl, rfl⟩
  clear hBs
  cases b1 with
  | false =>
    go_wp2_with fail
    go_ret
    exact ⟨rfl, hb0.out⟩
  | true =>
    cases b2 with
    | false =>
      go_wp2_with fail
      go_ret
      exact ⟨rfl, hb0.out⟩
    | true =>
      cases b3 with
      | false =>
        go_wp2_with fail
        go_ret
        exact ⟨by simp, hb0.out⟩
      | true =>
        by_cases h4 : 1 ≤ k
        · have z4 : (1 : Int) ≤ (k : Int) := by omega
          have y4 := Lib.hid (decide_eq_true h4)
          clear h4
          by_cases h5 : k ≤ 65536
          · have z5 : (k : Int) ≤ 65536 := by omega
            have y5 := Lib.hid (decide_eq_true h5)
            clear h5
            go_wp2_with fail
            go_ret
            exact ⟨by rw [y4.out, y5.out]; rfl, hb0.out⟩
          · have z5 : ¬ (k : Int) ≤ 65536 := by omega
            have y5 := Lib.hid (decide_eq_false h5)
            clear h5
            go_wp2_with fail
            go_ret
            refine ⟨?_, hb0.out⟩
            rw [y4.out, y5.out]
            show Ending.returned (Value.bool (decide ((k : Int) ≤ 65536))) = _
            rw [decide_eq_false (show ¬ (k : Int) ≤ 65536 by omega)]
            rfl
        · have z4 : ¬ (1 : Int) ≤ (k : Int) := by omega
          have y4 := Lib.hid (decide_eq_false h4)
          clear h4
          go_wp2_with fail
          go_ret
          exact ⟨by rw [y4.out]; rfl, hb0.out⟩
end Go.Proofs.YtgldkfaiofkhbaaDoor.PieceRow

namespace Go.Proofs.YtgldkfaiofkhbaaDoor.Prs
open Go Go.RowKit Go.Proofs.YtgldkfaiofkhbaaDoor Go.Proofs.YtgldkfaiofkhbaaDoor.Mem Go.Proofs.YtgldkfaiofkhbaaDoor.Sha Go.Proofs.YtgldkfaiofkhbaaDoor.Bytes Go.Proofs.YtgldkfaiofkhbaaDoor.Append Go.Proofs.YtgldkfaiofkhbaaDoor.TreeMem Go.Proofs.YtgldkfaiofkhbaaDoor.Ref17

/-- A proof in a row: its numbers, its digests, and where they lie. -/
structure Pr where
  x : Int
  y : Int
  ds : List Text
  A : Option Addr
  n : Nat
  c : Nat
def Pr.cells (p : Pr) : List Value := [.int .i64 p.x, .int .i64 p.y, .slice p.A p.n p.c]
theorem Pr.agg (p : Pr) : p.cells.toArray = inclCells p.x p.y p.A p.n p.c := rfl
def Prs (w : World) (A : Option Addr) (ps : List Pr) : Prop := Reads w 3 A ps.length (ps.flatMap Pr.cells) ∧ ∀ p ∈ ps, RdD w p.A p.n p.ds ∧ p.n ≤ p.c
theorem Prs.below {w w' : World} {A : Option Addr} {ps : List Pr} (h : Prs w A ps) (hb : Below w.heap.size w w') : Prs w' A ps := ⟨h.1.below hb, fun p hp => ⟨(h.2 p hp).1.below hb, (h.2 p hp).2⟩⟩
theorem flat_at : ∀ (ps : List Pr) (i : Nat) (p : Pr) (j : Nat), ps[i]? = some p → j < 3 → (ps.flatMap Pr.cells)[3 * i + j]? = p.cells[j]? := by
  intro ps
  induction ps with
  | nil => intro i p j h; cases h
  | cons q ps ih =>
    intro i p j h hj
    rw [List.flatMap_cons]
    have hq : q.cells.length = 3 := rfl
    cases i with
    | zero =>
      obtain rfl : q = p := Option.some.inj h
      rw [Nat.mul_zero, Nat.zero_add, List.getElem?_append_left (by omega)]
    | succ i =>
      rw [List.getElem?_append_right (by omega), hq, show 3 * (i + 1) + j - 3 = 3 * i + j by omega]
      exact ih i p j h hj
theorem Prs.at_ {w : World} {A : Option Addr} {ps : List Pr} (h : Prs w A ps) {i : Nat} {p : Pr} (hp : ps[i]? = some p) : ∃ b o, A = some ⟨b, o, none⟩ ∧ b < w.heap.size ∧ ∀ j u, p.cells[j]? = some u → w.cell? ⟨b, o + (3 * i + j), none⟩ = some u := by
  have hi : i < ps.length := (List.getElem?_eq_some_iff.1 hp).1
  obtain ⟨b, o, e, hlt, hc⟩ := h.1.2 (by omega)
  refine ⟨b, o, e, hlt, fun j u hu => hc _ _ ?_⟩
  have hj : j < 3 := (List.getElem?_eq_some_iff.1 hu).1
  rw [flat_at ps i p j hp hj]
  exact hu
end Go.Proofs.YtgldkfaiofkhbaaDoor.Prs

namespace Go.Proofs.YtgldkfaiofkhbaaDoor.Ref17b
open Go Go.RowKit Go.Proofs.YtgldkfaiofkhbaaDoor Go.Proofs.YtgldkfaiofkhbaaDoor.Mem Go.Proofs.YtgldkfaiofkhbaaDoor.Sha Go.Proofs.YtgldkfaiofkhbaaDoor.Bytes Go.Proofs.YtgldkfaiofkhbaaDoor.Append Go.Proofs.YtgldkfaiofkhbaaDoor.Octet Go.Proofs.YtgldkfaiofkhbaaDoor.Octet2 Go.Proofs.YtgldkfaiofkhbaaDoor.QuietTail Go.Proofs.YtgldkfaiofkhbaaDoor.Grown Go.Proofs.YtgldkfaiofkhbaaDoor.TreeMath Go.Proofs.YtgldkfaiofkhbaaDoor.Sides Go.Proofs.YtgldkfaiofkhbaaDoor.ProofBeside Go.Proofs.YtgldkfaiofkhbaaDoor.ProofEnc Go.Proofs.YtgldkfaiofkhbaaDoor.Beside17 Go.Proofs.YtgldkfaiofkhbaaDoor.Held Go.Proofs.YtgldkfaiofkhbaaDoor.Own Go.Proofs.YtgldkfaiofkhbaaDoor.TreeMem Go.Proofs.YtgldkfaiofkhbaaDoor.Ref17

/-- What Beside answers. -/
def bsOf (size i : Int) : Int := if insideB size i = true then ((sides size.toNat i.toNat).length : Int) else -1
end Go.Proofs.YtgldkfaiofkhbaaDoor.Ref17b

namespace Go.Proofs.YtgldkfaiofkhbaaDoor.Eight
open Go Go.RowKit Go.Proofs.YtgldkfaiofkhbaaDoor Go.Proofs.YtgldkfaiofkhbaaDoor.Mem Go.Proofs.YtgldkfaiofkhbaaDoor.Sha Go.Proofs.YtgldkfaiofkhbaaDoor.Bytes Go.Proofs.YtgldkfaiofkhbaaDoor.Append Go.Proofs.YtgldkfaiofkhbaaDoor.Octet Go.Proofs.YtgldkfaiofkhbaaDoor.Octet2 Go.Proofs.YtgldkfaiofkhbaaDoor.QuietTail Go.Proofs.YtgldkfaiofkhbaaDoor.Grown Go.Proofs.YtgldkfaiofkhbaaDoor.TreeMath Go.Proofs.YtgldkfaiofkhbaaDoor.Sides Go.Proofs.YtgldkfaiofkhbaaDoor.ProofBeside Go.Proofs.YtgldkfaiofkhbaaDoor.ProofEnc Go.Proofs.YtgldkfaiofkhbaaDoor.Beside17 Go.Proofs.YtgldkfaiofkhbaaDoor.Held Go.Proofs.YtgldkfaiofkhbaaDoor.Own Go.Proofs.YtgldkfaiofkhbaaDoor.TreeMem Go.Proofs.YtgldkfaiofkhbaaDoor.Ref17

end Go.Proofs.YtgldkfaiofkhbaaDoor.Eight

namespace Go.Proofs.YtgldkfaiofkhbaaDoor.Ref17K
open Go Go.RowKit Go.Proofs.YtgldkfaiofkhbaaDoor Go.Proofs.YtgldkfaiofkhbaaDoor.Mem Go.Proofs.YtgldkfaiofkhbaaDoor.Sha Go.Proofs.YtgldkfaiofkhbaaDoor.Bytes Go.Proofs.YtgldkfaiofkhbaaDoor.Append Go.Proofs.YtgldkfaiofkhbaaDoor.Octet Go.Proofs.YtgldkfaiofkhbaaDoor.Octet2 Go.Proofs.YtgldkfaiofkhbaaDoor.QuietTail Go.Proofs.YtgldkfaiofkhbaaDoor.Grown Go.Proofs.YtgldkfaiofkhbaaDoor.TreeMath Go.Proofs.YtgldkfaiofkhbaaDoor.Sides Go.Proofs.YtgldkfaiofkhbaaDoor.ProofBeside Go.Proofs.YtgldkfaiofkhbaaDoor.ProofEnc Go.Proofs.YtgldkfaiofkhbaaDoor.Beside17 Go.Proofs.YtgldkfaiofkhbaaDoor.Held Go.Proofs.YtgldkfaiofkhbaaDoor.Own Go.Proofs.YtgldkfaiofkhbaaDoor.TreeMem Go.Proofs.YtgldkfaiofkhbaaDoor.Ref17

end Go.Proofs.YtgldkfaiofkhbaaDoor.Ref17K

namespace Go.Proofs.YtgldkfaiofkhbaaDoor.IdxRef
open Go Go.RowKit Go.Proofs.YtgldkfaiofkhbaaDoor Go.Proofs.YtgldkfaiofkhbaaDoor.Mem Go.Proofs.YtgldkfaiofkhbaaDoor.Sha Go.Proofs.YtgldkfaiofkhbaaDoor.Bytes Go.Proofs.YtgldkfaiofkhbaaDoor.Append Go.Proofs.YtgldkfaiofkhbaaDoor.Octet Go.Proofs.YtgldkfaiofkhbaaDoor.Octet2 Go.Proofs.YtgldkfaiofkhbaaDoor.HeadMem Go.Proofs.YtgldkfaiofkhbaaDoor.ProofBeside Go.Proofs.YtgldkfaiofkhbaaDoor.ProofEnc Go.Proofs.YtgldkfaiofkhbaaDoor.ProofIdx Go.Proofs.YtgldkfaiofkhbaaDoor.ProofIdx2 Go.Proofs.YtgldkfaiofkhbaaDoor.ProofIdx3 Go.Proofs.YtgldkfaiofkhbaaDoor.StructEq Go.Proofs.YtgldkfaiofkhbaaDoor.IdxAny Go.Proofs.YtgldkfaiofkhbaaDoor.IdxEnc Go.Proofs.YtgldkfaiofkhbaaDoor.IdxRef0 Go.Proofs.YtgldkfaiofkhbaaDoor.QuietTail Go.Proofs.YtgldkfaiofkhbaaDoor.Grown Go.Proofs.YtgldkfaiofkhbaaDoor.Held Go.Proofs.YtgldkfaiofkhbaaDoor.Want

end Go.Proofs.YtgldkfaiofkhbaaDoor.IdxRef

namespace Go.Proofs.YtgldkfaiofkhbaaDoor.IdxRef2
open Go Go.RowKit Go.Proofs.YtgldkfaiofkhbaaDoor Go.Proofs.YtgldkfaiofkhbaaDoor.Mem Go.Proofs.YtgldkfaiofkhbaaDoor.Sha Go.Proofs.YtgldkfaiofkhbaaDoor.Bytes Go.Proofs.YtgldkfaiofkhbaaDoor.Append Go.Proofs.YtgldkfaiofkhbaaDoor.Octet Go.Proofs.YtgldkfaiofkhbaaDoor.Octet2 Go.Proofs.YtgldkfaiofkhbaaDoor.Own Go.Proofs.YtgldkfaiofkhbaaDoor.HeadMem Go.Proofs.YtgldkfaiofkhbaaDoor.ProofBeside Go.Proofs.YtgldkfaiofkhbaaDoor.ProofEnc Go.Proofs.YtgldkfaiofkhbaaDoor.ProofIdx Go.Proofs.YtgldkfaiofkhbaaDoor.ProofIdx2 Go.Proofs.YtgldkfaiofkhbaaDoor.ProofIdx3 Go.Proofs.YtgldkfaiofkhbaaDoor.StructEq Go.Proofs.YtgldkfaiofkhbaaDoor.IdxAny Go.Proofs.YtgldkfaiofkhbaaDoor.IdxEnc Go.Proofs.YtgldkfaiofkhbaaDoor.IdxRef0 Go.Proofs.YtgldkfaiofkhbaaDoor.IdxRef Go.Proofs.YtgldkfaiofkhbaaDoor.QuietTail Go.Proofs.YtgldkfaiofkhbaaDoor.Grown Go.Proofs.YtgldkfaiofkhbaaDoor.Held Go.Proofs.YtgldkfaiofkhbaaDoor.Want Go.Proofs.YtgldkfaiofkhbaaDoor.TreeMem Go.Proofs.YtgldkfaiofkhbaaDoor.Ref17

end Go.Proofs.YtgldkfaiofkhbaaDoor.IdxRef2

namespace Go.Proofs.YtgldkfaiofkhbaaDoor.RefCons
open Go Go.RowKit Go.Proofs.YtgldkfaiofkhbaaDoor Go.Proofs.YtgldkfaiofkhbaaDoor.Mem Go.Proofs.YtgldkfaiofkhbaaDoor.Sha Go.Proofs.YtgldkfaiofkhbaaDoor.Bytes Go.Proofs.YtgldkfaiofkhbaaDoor.Append Go.Proofs.YtgldkfaiofkhbaaDoor.Octet Go.Proofs.YtgldkfaiofkhbaaDoor.Octet2 Go.Proofs.YtgldkfaiofkhbaaDoor.QuietTail Go.Proofs.YtgldkfaiofkhbaaDoor.Grown Go.Proofs.YtgldkfaiofkhbaaDoor.TreeMath Go.Proofs.YtgldkfaiofkhbaaDoor.Sides Go.Proofs.YtgldkfaiofkhbaaDoor.ProofEnc Go.Proofs.YtgldkfaiofkhbaaDoor.TreeMem Go.Proofs.YtgldkfaiofkhbaaDoor.TreeRoot Go.Proofs.YtgldkfaiofkhbaaDoor.Held Go.Proofs.YtgldkfaiofkhbaaDoor.Own Go.Proofs.YtgldkfaiofkhbaaDoor.Ref17 Go.Proofs.YtgldkfaiofkhbaaDoor.Ref17b Go.Proofs.YtgldkfaiofkhbaaDoor.Subs Go.Proofs.YtgldkfaiofkhbaaDoor.Betw Go.Proofs.YtgldkfaiofkhbaaDoor.BetwRef Go.Proofs.YtgldkfaiofkhbaaDoor.EncCons

end Go.Proofs.YtgldkfaiofkhbaaDoor.RefCons

namespace Go.Proofs.YtgldkfaiofkhbaaDoor.EncConsAny
open Go Go.RowKit Go.Proofs.YtgldkfaiofkhbaaDoor Go.Proofs.YtgldkfaiofkhbaaDoor.Mem Go.Proofs.YtgldkfaiofkhbaaDoor.Sha Go.Proofs.YtgldkfaiofkhbaaDoor.Bytes Go.Proofs.YtgldkfaiofkhbaaDoor.TreeMath Go.Proofs.YtgldkfaiofkhbaaDoor.Sides Go.Proofs.YtgldkfaiofkhbaaDoor.TreeMem Go.Proofs.YtgldkfaiofkhbaaDoor.TreeRoot Go.Proofs.YtgldkfaiofkhbaaDoor.Held Go.Proofs.YtgldkfaiofkhbaaDoor.Own Go.Proofs.YtgldkfaiofkhbaaDoor.ProofEnc Go.Proofs.YtgldkfaiofkhbaaDoor.Ref17 Go.Proofs.YtgldkfaiofkhbaaDoor.Ref17b Go.Proofs.YtgldkfaiofkhbaaDoor.Subs Go.Proofs.YtgldkfaiofkhbaaDoor.Betw Go.Proofs.YtgldkfaiofkhbaaDoor.BetwRef Go.Proofs.YtgldkfaiofkhbaaDoor.EncCons Go.Proofs.YtgldkfaiofkhbaaDoor.RefCons

end Go.Proofs.YtgldkfaiofkhbaaDoor.EncConsAny
