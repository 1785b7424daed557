/-
  Texts of the claim, put into one file: RefNote.
-/
import Derived.Test.YteelanamlhfmgaaDoorZ27
import Derived.Test.YteelanamlhfmgaaDoorZ32
import Derived.Test.YteelanamlhfmgaaDoorZ19

namespace Go.Proofs.YteelanamlhfmgaaDoor.RefNote
open Go Go.RowKit Go.Proofs.YteelanamlhfmgaaDoor Go.Proofs.YteelanamlhfmgaaDoor.Mem Go.Proofs.YteelanamlhfmgaaDoor.Sha Go.Proofs.YteelanamlhfmgaaDoor.Bytes Go.Proofs.YteelanamlhfmgaaDoor.SortP Go.Proofs.YteelanamlhfmgaaDoor.NoteP Go.Proofs.YteelanamlhfmgaaDoor.Rise Go.Proofs.YteelanamlhfmgaaDoor.Append Go.Proofs.YteelanamlhfmgaaDoor.Own Go.Proofs.YteelanamlhfmgaaDoor.SgM Go.Proofs.YteelanamlhfmgaaDoor.EncNoteP Go.Proofs.YteelanamlhfmgaaDoor.EncNote Go.Proofs.YteelanamlhfmgaaDoor.RefRising Go.Proofs.YteelanamlhfmgaaDoor.HeadMem

/-- What laying a note down leaves: the bytes, or nothing. -/
def NotePost (B : Nat) (w' : World) (v : Value) : Option Text → Prop
  | none => v = .slice none 0 0
  | some b => w'.ownsRow B 5 1 v b.length (cells8 b)
theorem rising_len {ss rs : List Text} (h : rising kyS ss = some rs) : rs.length = ss.length := (rising_some h).2.length_eq
theorem rising_sns {ss rs : List Text} (h : rising kyS ss = some rs) (hs : Sns ss) : Sns rs := fun t ht => hs t ((rising_some h).2.mem_iff.1 ht)
theorem note_cases (h : HeadD) (ss : List Text) (n : Nat) (hn : ss.length = n) :
    (rightB h = false ∧ noteAns h ss = (none, 1)) ∨ (rightB h = true ∧ n = 0 ∧ noteAns h ss = (none, 7)) ∨ (rightB h = true ∧ 16 < n ∧ noteAns h ss = (none, 7)) ∨ (rightB h = true ∧ 0 < n ∧ n ≤ 16 ∧ rising kyS ss = none ∧ noteAns h ss = (none, 92)) ∨
      (rightB h = true ∧ 0 < n ∧ n ≤ 16 ∧ ∃ rs, rising kyS ss = some rs ∧ noteAns h ss = (some (noteB h rs), 0)) := by
  unfold noteAns
  cases hr : rightB h with
  | false => exact .inl ⟨rfl, by simp⟩
  | true =>
    rw [if_neg (by simp), hn]
    by_cases h0 : n = 0
    · exact .inr (.inl ⟨rfl, h0, by rw [if_pos (.inl h0)]⟩)
    · by_cases h16 : 16 < n
      · exact .inr (.inr (.inl ⟨rfl, h16, by rw [if_pos (.inr h16)]⟩))
      · rw [if_neg (by omega)]
        cases hq : rising kyS ss with
        | none => exact .inr (.inr (.inr (.inl ⟨rfl, by omega, by omega, rfl, rfl⟩)))
        | some rs => exact .inr (.inr (.inr (.inr ⟨rfl, by omega, by omega, rs, rfl, rfl⟩)))
theorem encnote_any (h : HeadD) (ok : h.Ok) (ss : List Text) (n : Nat) (A : Option Addr) (c : Nat) (w : World) (hS : Sgs w A n ss) :
    Calls Tryd.prog 16 #[.agg (noteCells h (.slice A n c)).toArray] w fun e w' => ∃ v, e = .returned (.tuple #[v, .int .i64 (noteAns h ss).2]) ∧ Below w.heap.size w w' ∧ NotePost w.heap.size w' v (noteAns h ss).1 := by
  rcases note_cases h ss n hS.len with ⟨h1, e⟩ | ⟨h1, h2, e⟩ | ⟨h1, h2, e⟩ | ⟨h1, h2, h3, h4, e⟩ | ⟨h1, h2, h3, rs, h4, e⟩
  · rw [e]
    exact (enc_wrong h ok ss n h1 A c w hS).mono fun e w' ⟨he, hb⟩ => ⟨_, he, hb, rfl⟩
  · rw [e]
    exact (enc_none h ok ss n h1 h2 A c w hS).mono fun e w' ⟨he, hb⟩ => ⟨_, he, hb, rfl⟩
  · rw [e]
    exact (enc_many h ok ss n h1 h2 A c w hS).mono fun e w' ⟨he, hb⟩ => ⟨_, he, hb, rfl⟩
  · rw [e]
    exact (enc_twice h ok ss n h1 h2 h3 h4 A c w hS).mono fun e w' ⟨he, hb⟩ => ⟨_, he, hb, rfl⟩
  · rw [e]
    have hl : (noteB h rs).length = 115 + 64 * n := by rw [noteB_len ok (rising_sns h4 hS.all), rising_len h4, hS.len]
    exact (enc_yes h ok ss n h1 h2 h3 rs h4 A c w hS).mono fun e w' ⟨v, he, hb, ho⟩ => ⟨v, he, hb, by show World.ownsRow _ _ _ _ _ _ _; rw [hl]; exact ho⟩
end Go.Proofs.YteelanamlhfmgaaDoor.RefNote
