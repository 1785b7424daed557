/-
  Texts of the claim, put into one file: RefCons, EncConsAny.
-/
import Derived.Test.YtgldkfaiofkhbaaGreatDoorZ30
import Derived.Test.YtgldkfaiofkhbaaGreatDoorZ40
import Derived.Test.YtgldkfaiofkhbaaGreatDoorZ24

namespace Go.Proofs.YtgldkfaiofkhbaaGreatDoor.RefCons
open Go Go.RowKit Go.Proofs.YtgldkfaiofkhbaaGreatDoor Mem Sha Bytes Go.Proofs.YtgldkfaiofkhbaaGreatDoor.Append Octet Octet2 QuietTail Grown TreeMath Sides ProofEnc TreeMem TreeRoot Held Own Ref17 Ref17b Subs Betw BetwRef EncCons

def consWant (size i : Int) (ds : List Text) : Option Text := if joinsB size i = true ∧ (betw size.toNat i.toNat) = ds.length then some (consBytes size.toNat i.toNat ds) else none
end Go.Proofs.YtgldkfaiofkhbaaGreatDoor.RefCons

namespace Go.Proofs.YtgldkfaiofkhbaaGreatDoor.EncConsAny
open Go Go.RowKit Go.Proofs.YtgldkfaiofkhbaaGreatDoor Mem Sha Bytes TreeMath Sides TreeMem TreeRoot Held Own ProofEnc Ref17 Ref17b Subs Betw BetwRef EncCons RefCons

theorem encCons_any (x1 x2 : Int) (l : List Text) (A : Option Addr) (n c : Nat) (w : World) (hr : RdD w A n l) :
  Calls Tryz.prog 66 #[.agg (inclCells x1 x2 A n c)] w fun e w' => ∃ A4 c4 b err, e = .returned (.tuple #[.slice A4 b.length c4, .int .i64 err]) ∧ Reads w' 1 A4 b.length (cells8 b) ∧ ((consWant x1 x2 l = some b ∧ err = 0) ∨ (consWant x1 x2 l = none ∧ b = [] ∧ err = 170)) ∧ Below w.heap.size w w' := by
 have hno : ∀ w', Below w.heap.size w w' → consWant x1 x2 l = none → ∃ (A4 : Option Addr) (c4 : Nat) (b : Text) (err : Int), Ending.returned (.tuple #[.slice none 0 0, .int .i64 170]) = Ending.returned (.tuple #[.slice A4 b.length c4, .int .i64 err]) ∧ Reads w' 1 A4 b.length (cells8 b) ∧ ((consWant x1 x2 l = some b ∧ err = 0) ∨ (consWant x1 x2 l = none ∧ b = [] ∧ err = 170)) ∧ Below w.heap.size w w' := fun w' hb h => ⟨none, 0, [], 170, rfl, Reads.nil_ _ _ _, .inr ⟨h, rfl, rfl⟩, hb⟩
 cases hin : joinsB x1 x2 with
 | false =>
  refine (encodeConsistency_out x1 x2 A n c w hin).mono ?_
  rintro e w' ⟨rfl, hb⟩
  refine hno w' hb ?_
  unfold consWant
  rw [if_neg (fun h => by rw [hin] at h; exact absurd h.1 (by decide))]
 | true =>
  have hin2 := hin
  simp only [joinsB, Bool.and_eq_true, decide_eq_true_eq] at hin2
  obtain ⟨sz, rfl⟩ := Int.eq_ofNat_of_zero_le (show 0 ≤ x1 by omega)
  obtain ⟨j, rfl⟩ := Int.eq_ofNat_of_zero_le (show 0 ≤ x2 by omega)
  by_cases hs : betw sz j = n
  ·refine (encodeConsistency_yes sz j (by omega) (by omega) l n hr.1 hr.2.1 A c w hr.2.2 (fun a h0 e => ?_) hs).mono ?_
   ·obtain ⟨b, o, e', hlt, -⟩ := hr.2.2.2 (by omega)
    rw [e] at e'
    obtain rfl := Option.some.inj e'
    exact hlt
   rintro e w' ⟨v, rfl, hb, ho⟩
   obtain ⟨A4, c4, rfl, hc4, hn4, hr4, -⟩ := own_reads ho
   have hbl : (consBytes sz j l).length = 17 + 32 * n := by rw [consBytes_len _ _ _ hr.2.1, hr.1]
   refine ⟨A4, c4, consBytes sz j l, 0, by rw [hbl], by rw [hbl]; exact hr4, .inl ⟨?_, rfl⟩, hb⟩
   unfold consWant
   rw [Int.toNat_natCast, Int.toNat_natCast, if_pos ⟨hin, by rw [hs, hr.1]⟩]
  ·refine (encodeConsistency_no sz j (by omega) (by omega) A n c w hs).mono ?_
   rintro e w' ⟨rfl, hb⟩
   refine hno w' hb ?_
   unfold consWant
   rw [Int.toNat_natCast, Int.toNat_natCast, if_neg (fun h => hs (by rw [h.2, hr.1]))]

end Go.Proofs.YtgldkfaiofkhbaaGreatDoor.EncConsAny
