/-
  Texts of the claim, put into one file: Ref17, Ref17b, InclAll.
-/
import Derived.Test.YtgldkfaiofkhbaaGreatDoorZ24
import Derived.Test.YtgldkfaiofkhbaaGreatDoorZ11
import Derived.Test.YtgldkfaiofkhbaaGreatDoorZ6
import Derived.Test.YtgldkfaiofkhbaaGreatDoorZ3

namespace Go.Proofs.YtgldkfaiofkhbaaGreatDoor.Ref17
open Go Go.RowKit Go.Proofs.YtgldkfaiofkhbaaGreatDoor Mem Sha Bytes Go.Proofs.YtgldkfaiofkhbaaGreatDoor.Append Octet Octet2 QuietTail Grown TreeMath Sides ProofBeside ProofEnc Beside17 Held Own TreeMem

theorem flat_take {ds : List Text} {i : Nat} {d : Text} (h : ds[i]? = some d) : (ds.take (i + 1)).flatten = (ds.take i).flatten ++ d := by
 rw [List.take_add_one, h]
 simp
def inclCells (size i : Int) (A : Option Addr) (n c : Nat) : Array Value := #[.int .i64 size, .int .i64 i, .slice A n c]
def inclWant (size i : Int) (ds : List Text) : Option Text := if insideB size i = true ∧ (sides size.toNat i.toNat).length = ds.length then some (inclBytes size.toNat i.toNat ds) else none
end Go.Proofs.YtgldkfaiofkhbaaGreatDoor.Ref17

namespace Go.Proofs.YtgldkfaiofkhbaaGreatDoor.Ref17b
open Go Go.RowKit Go.Proofs.YtgldkfaiofkhbaaGreatDoor Mem Sha Bytes Go.Proofs.YtgldkfaiofkhbaaGreatDoor.Append Octet Octet2 QuietTail Grown TreeMath Sides ProofBeside ProofEnc Beside17 Held Own TreeMem Ref17

end Go.Proofs.YtgldkfaiofkhbaaGreatDoor.Ref17b

namespace Go.Proofs.YtgldkfaiofkhbaaGreatDoor.InclAll
open Go Go.RowKit Go.Proofs.YtgldkfaiofkhbaaGreatDoor Mem Sha Bytes TreeMath Sides TreeMem TreeRoot Held Own ProofBeside ProofEnc Beside17 Ref17 Ref17b

theorem encIncl_any (x1 x2 : Int) (l : List Text) (A : Option Addr) (n c : Nat) (w : World) (hr : RdD w A n l) :
  Calls Tryz.prog 87 #[.agg (inclCells x1 x2 A n c)] w fun e w' => ∃ A4 c4 b err, e = .returned (.tuple #[.slice A4 b.length c4, .int .i64 err]) ∧ Reads w' 1 A4 b.length (cells8 b) ∧ ((inclWant x1 x2 l = some b ∧ err = 0) ∨ (inclWant x1 x2 l = none ∧ b = [] ∧ err = 170)) ∧ Below w.heap.size w w' := by
 have hno : ∀ w', Below w.heap.size w w' → inclWant x1 x2 l = none → ∃ (A4 : Option Addr) (c4 : Nat) (b : Text) (err : Int), Ending.returned (.tuple #[.slice none 0 0, .int .i64 170]) = Ending.returned (.tuple #[.slice A4 b.length c4, .int .i64 err]) ∧ Reads w' 1 A4 b.length (cells8 b) ∧ ((inclWant x1 x2 l = some b ∧ err = 0) ∨ (inclWant x1 x2 l = none ∧ b = [] ∧ err = 170)) ∧ Below w.heap.size w w' := fun w' hb h => ⟨none, 0, [], 170, rfl, Reads.nil_ _ _ _, .inr ⟨h, rfl, rfl⟩, hb⟩
 cases hin : insideB x1 x2 with
 | false =>
  refine (encodeInclusion_out x1 x2 A n c w hin).mono ?_
  rintro e w' ⟨rfl, hb⟩
  refine hno w' hb ?_
  unfold inclWant
  rw [if_neg (fun h => by rw [hin] at h; exact absurd h.1 (by decide))]
 | true =>
  have hin2 := hin
  simp only [insideB, Bool.and_eq_true, decide_eq_true_eq] at hin2
  obtain ⟨sz, rfl⟩ := Int.eq_ofNat_of_zero_le (show 0 ≤ x1 by omega)
  obtain ⟨j, rfl⟩ := Int.eq_ofNat_of_zero_le hin2.1.2
  by_cases hs : besideOf sz j = n
  ·refine (encodeInclusion_yes sz j (by omega) (by omega) l n hr.1 hr.2.1 A c w hr.2.2 (fun a h0 e => ?_) hs).mono ?_
   ·obtain ⟨b, o, e', hlt, -⟩ := hr.2.2.2 (by omega)
    rw [e] at e'
    obtain rfl := Option.some.inj e'
    exact hlt
   rintro e w' ⟨v, rfl, hb, ho⟩
   obtain ⟨A4, c4, rfl, hc4, hn4, hr4, -⟩ := own_reads ho
   have hbl : (inclBytes sz j l).length = 17 + 32 * n := by rw [inclBytes_len _ _ _ hr.2.1, hr.1]
   refine ⟨A4, c4, inclBytes sz j l, 0, by rw [hbl], by rw [hbl]; exact hr4, .inl ⟨?_, rfl⟩, hb⟩
   unfold inclWant
   rw [Int.toNat_natCast, Int.toNat_natCast, if_pos ⟨hin, by rw [← beside_sides (by omega), hs, hr.1]⟩]
  ·refine (encodeInclusion_no sz j (by omega) (by omega) A n c w hs).mono ?_
   rintro e w' ⟨rfl, hb⟩
   refine hno w' hb ?_
   unfold inclWant
   rw [Int.toNat_natCast, Int.toNat_natCast, if_neg (fun h => hs (by rw [beside_sides (by omega), h.2, hr.1]))]

end Go.Proofs.YtgldkfaiofkhbaaGreatDoor.InclAll
