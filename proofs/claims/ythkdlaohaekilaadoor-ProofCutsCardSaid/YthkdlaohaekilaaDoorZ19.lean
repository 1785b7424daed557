/-
  Texts of the claim, put into one file: ProofIdx, IdxRef0.
-/
import Derived.Test.YthkdlaohaekilaaDoorZ10
import Derived.Test.YthkdlaohaekilaaDoorShelf
import Derived.Test.YthkdlaohaekilaaDoorZ12

namespace Go.Proofs.YthkdlaohaekilaaDoor.ProofIdx
open Go Go.RowKit Go.Proofs.YthkdlaohaekilaaDoor Go.Proofs.YthkdlaohaekilaaDoor.Mem Go.Proofs.YthkdlaohaekilaaDoor.Sha Go.Proofs.YthkdlaohaekilaaDoor.Bytes Go.Proofs.YthkdlaohaekilaaDoor.Append Go.Proofs.YthkdlaohaekilaaDoor.Octet Go.Proofs.YthkdlaohaekilaaDoor.Octet2 Go.Proofs.YthkdlaohaekilaaDoor.HeadMem Go.Proofs.YthkdlaohaekilaaDoor.ProofBeside Go.Proofs.YthkdlaohaekilaaDoor.ProofEnc Go.Proofs.YthkdlaohaekilaaDoor.QuietTail Go.Proofs.YthkdlaohaekilaaDoor.Grown

def okc (x : UInt8) : Bool := decide (97 ≤ x.toNat ∧ x.toNat ≤ 122 ∨ 48 ≤ x.toNat ∧ x.toNat ≤ 57 ∨ x.toNat = 45)
def legalB (l : List UInt8) : Bool := decide (0 < l.length ∧ l.length ≤ 64) && l.all okc
def namedB (l : List UInt8) : Bool := decide (l.length ≤ 64) && l.all okc

theorem legal_step {l : List UInt8} {k : Nat} (h : k < l.length) (h1 : (l.take k).all okc = true) (h2 : okc l[k] = true) : (l.take (k + 1)).all okc = true := by
  rw [List.take_succ_eq_append_getElem h, List.all_append, h1]
  simp [h2]
theorem legal_stop {l : List UInt8} {k : Nat} (h : k < l.length) (h2 : okc l[k] = false) : l.all okc = false := by
  rw [List.all_eq_false]
  exact ⟨l[k], List.getElem_mem h, by rw [h2]; decide⟩

set_option maxRecDepth 100000 in
set_option maxHeartbeats 1000000 in
theorem legal_any (s : ByteArray) (hs : s.size ≤ 140737488355328) (w : World) :
    Calls Tryd.prog 140 #[.string s, .int .i64 64] w fun e w' => e = .returned (.bool (legalB s.data.toList)) ∧ w = w' := by
  have hsl : Hid (s.data.toList.length = s.size) := by show _ = _; simp
  by_cases h0 : s.size = 0
  · have hF : Hid (legalB s.data.toList = false) := by show _ = _; unfold legalB; rw [hsl.out, h0]; simp
    have y1 : ((s.size : Int) == 0) = true := by simp [h0]
    clear h0 hs hsl
    go_enter Tryd.func140, Tryd.ntmps140
    go_wp2_with fail
    go_ret
    exact ⟨by show Ending.returned (.bool false) = _; rw [hF.out], rfl⟩
  · by_cases h64 : 64 < s.size
    · have hF : Hid (legalB s.data.toList = false) := by show _ = _; unfold legalB; rw [hsl.out, decide_eq_false (by omega)]; rfl
      have y1 : ((s.size : Int) == 0) = false := beq_eq_false_iff_ne.2 (by omega)
      have y2 : (64 : Int) < (s.size : Int) := by omega
      clear h0 hs hsl h64
      go_enter Tryd.func140, Tryd.ntmps140
      go_wp2_with fail
      go_ret
      exact ⟨by show Ending.returned (.bool false) = _; rw [hF.out], rfl⟩
    · have y1 : ((s.size : Int) == 0) = false := beq_eq_false_iff_ne.2 (by omega)
      have y2 : decide ((64 : Int) < (s.size : Int)) = false := decide_eq_false (by omega)
      have hL : Hid (decide (0 < s.data.toList.length ∧ s.data.toList.length ≤ 64) = true) := by show _ = _; rw [hsl.out]; exact decide_eq_true (by omega)
      have hs64 : (s.size : Int) ≤ 64 := by omega
      clear h0 hs h64
      go_enter Tryd.func140, Tryd.ntmps140
      go_wp2_with fail
      clear y1 y2
      go_loop [18] (fun v => ∃ k : Nat, v = .int .i64 (k : Int) ∧ k ≤ s.size ∧ Hid ((s.data.toList.take k).all okc = true)) (fun v => s.size - (intOf v).toNat)
      case atStart => exact ⟨0, rfl, Nat.zero_le _, by show _ = _; simp⟩
      case round =>
        obtain ⟨k, rfl, hk, hA⟩ := hrel
        by_cases hlt : k < s.size
        · have hb : Hid (s.data.toList[k]'(by rw [hsl.out]; exact hlt) = s[k]) := rfl
          by_cases hc : okc s[k] = true
          · have hN : Hid ((s.data.toList.take (k + 1)).all okc = true) := legal_step (by rw [hsl.out]; exact hlt) hA.out (by rw [hb.out]; exact hc)
            have hcase : (97 ≤ s[k].toNat ∧ s[k].toNat ≤ 122) ∨ (48 ≤ s[k].toNat ∧ s[k].toNat ≤ 57) ∨ s[k].toNat = 45 := by simpa [okc] using hc
            clear hc hb hA
            rcases hcase with ⟨a, b⟩ | ⟨a, b⟩ | a
            · have y1 : decide ((s[k].toNat : Int) < 97) = false := decide_eq_false (by omega)
              have y2 : decide ((122 : Int) < (s[k].toNat : Int)) = false := decide_eq_false (by omega)
              clear a b
              go_wp2_with fail
              go_round
              case rel => exact ⟨k + 1, by go_num, by omega, hN.out⟩
              case measure => simp [intOf]; omega
            · have y1 : decide ((s[k].toNat : Int) < 97) = true := decide_eq_true (by omega)
              have y2 : decide ((s[k].toNat : Int) < 48) = false := decide_eq_false (by omega)
              have y3 : decide ((57 : Int) < (s[k].toNat : Int)) = false := decide_eq_false (by omega)
              clear a b
              go_wp2_with fail
              go_round
              case rel => exact ⟨k + 1, by go_num, by omega, hN.out⟩
              case measure => simp [intOf]; omega
            · have y1 : decide ((s[k].toNat : Int) < 97) = true := decide_eq_true (by omega)
              have y2 : decide ((s[k].toNat : Int) < 48) = true := decide_eq_true (by omega)
              have y3 : ((s[k].toNat : Int) != 45) = false := bne_eq_false_iff_eq.2 (by omega)
              have y4 : ((s[k].toNat : Int) == 45) = true := beq_iff_eq.2 (by omega)
              clear a
              go_wp2_with fail
              go_round
              case rel => exact ⟨k + 1, by go_num, by omega, hN.out⟩
              case measure => simp [intOf]; omega
          · replace hc : okc s[k] = false := by simpa using hc
            have hF : Hid (legalB s.data.toList = false) := by show _ = _; unfold legalB; rw [legal_stop (k := k) (by rw [hsl.out]; exact hlt) (by rw [hb.out]; exact hc), Bool.and_false]
            have hcase : s[k].toNat < 45 ∨ (45 < s[k].toNat ∧ s[k].toNat < 48) ∨ (57 < s[k].toNat ∧ s[k].toNat < 97) ∨ 122 < s[k].toNat := by
              have := of_decide_eq_false hc
              omega
            clear hc hb hA
            rcases hcase with a | ⟨a, b⟩ | ⟨a, b⟩ | a
            · have y1 : decide ((s[k].toNat : Int) < 97) = true := decide_eq_true (by omega)
              have y2 : decide ((s[k].toNat : Int) < 48) = true := decide_eq_true (by omega)
              have y3 : ((s[k].toNat : Int) != 45) = true := bne_iff_ne.2 (by omega)
              have y4 : ((s[k].toNat : Int) == 45) = false := beq_eq_false_iff_ne.2 (by omega)
              clear a
              go_wp2_with fail
              go_ret
              exact ⟨by show Ending.returned (.bool false) = _; rw [hF.out], rfl⟩
            · have y1 : decide ((s[k].toNat : Int) < 97) = true := decide_eq_true (by omega)
              have y2 : decide ((s[k].toNat : Int) < 48) = true := decide_eq_true (by omega)
              have y3 : ((s[k].toNat : Int) != 45) = true := bne_iff_ne.2 (by omega)
              have y4 : ((s[k].toNat : Int) == 45) = false := beq_eq_false_iff_ne.2 (by omega)
              clear a b
              go_wp2_with fail
              go_ret
              exact ⟨by show Ending.returned (.bool false) = _; rw [hF.out], rfl⟩
            · have y1 : decide ((s[k].toNat : Int) < 97) = true := decide_eq_true (by omega)
              have y2 : decide ((s[k].toNat : Int) < 48) = false := decide_eq_false (by omega)
              have y3 : ((s[k].toNat : Int) != 45) = true := bne_iff_ne.2 (by omega)
              have y4 : ((s[k].toNat : Int) == 45) = false := beq_eq_false_iff_ne.2 (by omega)
              have y5 : decide ((57 : Int) < (s[k].toNat : Int)) = true := decide_eq_true (by omega)
              clear a b
              go_wp2_with fail
              go_ret
              exact ⟨by show Ending.returned (.bool false) = _; rw [hF.out], rfl⟩
            · have y1 : decide ((s[k].toNat : Int) < 97) = false := decide_eq_false (by omega)
              have y2 : decide ((s[k].toNat : Int) < 48) = false := decide_eq_false (by omega)
              have y3 : ((s[k].toNat : Int) != 45) = true := bne_iff_ne.2 (by omega)
              have y4 : ((s[k].toNat : Int) == 45) = false := beq_eq_false_iff_ne.2 (by omega)
              have y5 : decide ((57 : Int) < (s[k].toNat : Int)) = true := decide_eq_true (by omega)
              have y6 : decide ((122 : Int) < (s[k].toNat : Int)) = true := decide_eq_true (by omega)
              clear a
              go_wp2_with fail
              go_ret
              exact ⟨by show Ending.returned (.bool false) = _; rw [hF.out], rfl⟩
        · have hF : Hid (legalB s.data.toList = true) := by
            have := hA.out
            rw [List.take_of_length_le (by rw [hsl.out]; omega)] at this
            show _ = _
            unfold legalB
            rw [hL.out, this]
            rfl
          have hge : (s.size : Int) ≤ (k : Int) := by omega
          go_wp2_with fail
          go_ret
          exact ⟨by show Ending.returned (.bool true) = _; rw [hF.out], rfl⟩

theorem loop_len (s : ByteArray) : ∀ (n i : Nat) (r : List UInt8), s.size - i = n → (ByteArray.toList.loop s i r).length = r.length + n
  | 0, i, r, h => by
    unfold ByteArray.toList.loop
    rw [if_neg (by omega)]
    simp
  | n + 1, i, r, h => by
    unfold ByteArray.toList.loop
    rw [if_pos (by omega), loop_len s n (i + 1) _ (by omega)]
    simp
    omega
theorem isEmpty_size (s : ByteArray) : s.toList.isEmpty = decide (s.size = 0) := by
  have h : s.toList.length = s.size := by
    unfold ByteArray.toList
    rw [loop_len s s.size 0 [] rfl]
    simp
  rw [← h]
  cases s.toList <;> simp

set_option maxRecDepth 100000 in
set_option maxHeartbeats 1000000 in
theorem named_any (s : ByteArray) (hs : s.size ≤ 140737488355328) (w : World) :
    Calls Tryd.prog 99 #[.string s] w fun e w' => e = .returned (.bool (namedB s.data.toList)) ∧ w = w' := by
  have hsl : s.data.toList.length = s.size := by simp
  by_cases h0 : s.size = 0
  · have hF : Hid (namedB s.data.toList = true) := by
      show _ = _
      rw [h0] at hsl
      rw [List.eq_nil_of_length_eq_zero hsl]
      rfl
    have y1 : s.toList.isEmpty = true := by rw [isEmpty_size]; exact decide_eq_true h0
    clear hs hsl h0
    go_enter Tryd.func99, Tryd.ntmps99
    go_wp2_with fail
    go_ret
    exact ⟨by show Ending.returned (.bool true) = _; rw [hF.out], rfl⟩
  · have hF : Hid (legalB s.data.toList = namedB s.data.toList) := by
      show _ = _
      unfold legalB namedB
      congr 1
      rw [decide_eq_decide]
      omega
    have y1 : s.toList.isEmpty = false := by rw [isEmpty_size]; exact decide_eq_false h0
    replace hs := Lib.hid hs
    clear h0 hsl
    go_enter Tryd.func99, Tryd.ntmps99
    go_wp2_with (go_at_call 140; refine (legal_any s hs.out _).mono ?_; rw [hF.out]; rintro e w1 ⟨rfl, rfl⟩)
    go_ret
    exact ⟨rfl, rfl⟩

/-- How many bits of a digest are set. -/
def onesOf (d : Text) : Nat := (d.map fun b => Lib.onesCount b.toNat).sum
end Go.Proofs.YthkdlaohaekilaaDoor.ProofIdx

namespace Go.Proofs.YthkdlaohaekilaaDoor.IdxRef0
open Go Go.RowKit Go.Proofs.YthkdlaohaekilaaDoor Go.Proofs.YthkdlaohaekilaaDoor.Mem Go.Proofs.YthkdlaohaekilaaDoor.Sha Go.Proofs.YthkdlaohaekilaaDoor.Bytes Go.Proofs.YthkdlaohaekilaaDoor.Append Go.Proofs.YthkdlaohaekilaaDoor.Octet Go.Proofs.YthkdlaohaekilaaDoor.Octet2 Go.Proofs.YthkdlaohaekilaaDoor.HeadMem Go.Proofs.YthkdlaohaekilaaDoor.ProofIdx

set_option maxRecDepth 100000 in
set_option maxHeartbeats 1000000 in
theorem named17_any (s : ByteArray) (w : World) : Calls Tryd.prog 54 #[.string s] w fun e w' => e = .returned (.bool (namedB s.data.toList)) ∧ w = w' := by
  have hsl : Hid (s.data.toList.length = s.size) := by show _ = _; simp
  by_cases h64 : 64 < s.size
  · have hF : Hid (namedB s.data.toList = false) := by show _ = _; unfold namedB; rw [hsl.out, decide_eq_false (by omega)]; rfl
    have y2 : (64 : Int) < (s.size : Int) := by omega
    clear hsl h64
    go_enter Tryd.func54, Tryd.ntmps54
    go_wp2_with fail
    go_ret
    exact ⟨by show Ending.returned (.bool false) = _; rw [hF.out], rfl⟩
  · have y2 : decide ((64 : Int) < (s.size : Int)) = false := decide_eq_false (by omega)
    have hL : Hid (decide (s.data.toList.length ≤ 64) = true) := by show _ = _; rw [hsl.out]; exact decide_eq_true (by omega)
    have hs64 : (s.size : Int) ≤ 64 := by omega
    clear h64
    go_enter Tryd.func54, Tryd.ntmps54
    go_wp2_with fail
    clear y2
    go_loop [3] (fun v => ∃ k : Nat, v = .int .i64 (k : Int) ∧ k ≤ s.size ∧ Hid ((s.data.toList.take k).all okc = true)) (fun v => s.size - (intOf v).toNat)
    case atStart => exact ⟨0, rfl, Nat.zero_le _, by show _ = _; simp⟩
    case round =>
      obtain ⟨k, rfl, hk, hA⟩ := hrel
      by_cases hlt : k < s.size
      · have hb : Hid (s.data.toList[k]'(by rw [hsl.out]; exact hlt) = s[k]) := rfl
        by_cases hc : okc s[k] = true
        · have hN : Hid ((s.data.toList.take (k + 1)).all okc = true) := legal_step (by rw [hsl.out]; exact hlt) hA.out (by rw [hb.out]; exact hc)
          have hcase : (97 ≤ s[k].toNat ∧ s[k].toNat ≤ 122) ∨ (48 ≤ s[k].toNat ∧ s[k].toNat ≤ 57) ∨ s[k].toNat = 45 := by simpa [okc] using hc
          clear hc hb hA
          rcases hcase with ⟨a, b⟩ | ⟨a, b⟩ | a
          · have y1 : decide ((97 : Int) ≤ (s[k].toNat : Int)) = true := decide_eq_true (by omega)
            have y2 : decide ((s[k].toNat : Int) ≤ 122) = true := decide_eq_true (by omega)
            clear a b
            go_wp2_with fail
            go_round
            case rel => exact ⟨k + 1, by go_num, by omega, hN.out⟩
            case measure => simp [intOf]; omega
          · have y1 : decide ((97 : Int) ≤ (s[k].toNat : Int)) = false := decide_eq_false (by omega)
            have y2 : decide ((48 : Int) ≤ (s[k].toNat : Int)) = true := decide_eq_true (by omega)
            have y3 : decide ((s[k].toNat : Int) ≤ 57) = true := decide_eq_true (by omega)
            clear a b
            go_wp2_with fail
            go_round
            case rel => exact ⟨k + 1, by go_num, by omega, hN.out⟩
            case measure => simp [intOf]; omega
          · have y1 : decide ((97 : Int) ≤ (s[k].toNat : Int)) = false := decide_eq_false (by omega)
            have y2 : decide ((48 : Int) ≤ (s[k].toNat : Int)) = false := decide_eq_false (by omega)
            have z1 : ((s[k].toNat : Int) == 45) = true := beq_iff_eq.2 (by omega)
            have z2 : ((s[k].toNat : Int) != 45) = false := bne_eq_false_iff_eq.2 (by omega)
            clear a
            go_wp2_with fail
            go_round
            case rel => exact ⟨k + 1, by go_num, by omega, hN.out⟩
            case measure => simp [intOf]; omega
        · replace hc : okc s[k] = false := by simpa using hc
          have hF : Hid (namedB s.data.toList = false) := by show _ = _; unfold namedB; rw [legal_stop (k := k) (by rw [hsl.out]; exact hlt) (by rw [hb.out]; exact hc), Bool.and_false]
          have hcase : s[k].toNat < 45 ∨ (45 < s[k].toNat ∧ s[k].toNat < 48) ∨ (57 < s[k].toNat ∧ s[k].toNat < 97) ∨ 122 < s[k].toNat := by
            have := of_decide_eq_false hc
            omega
          clear hc hb hA
          rcases hcase with a | ⟨a, b⟩ | ⟨a, b⟩ | a
          · have y1 : decide ((97 : Int) ≤ (s[k].toNat : Int)) = false := decide_eq_false (by omega)
            have y2 : decide ((48 : Int) ≤ (s[k].toNat : Int)) = false := decide_eq_false (by omega)
            have z1 : ((s[k].toNat : Int) == 45) = false := beq_eq_false_iff_ne.2 (by omega)
            have z2 : ((s[k].toNat : Int) != 45) = true := bne_iff_ne.2 (by omega)
            clear a
            go_wp2_with fail
            go_ret
            exact ⟨by show Ending.returned (.bool false) = _; rw [hF.out], rfl⟩
          · have y1 : decide ((97 : Int) ≤ (s[k].toNat : Int)) = false := decide_eq_false (by omega)
            have y2 : decide ((48 : Int) ≤ (s[k].toNat : Int)) = false := decide_eq_false (by omega)
            have z1 : ((s[k].toNat : Int) == 45) = false := beq_eq_false_iff_ne.2 (by omega)
            have z2 : ((s[k].toNat : Int) != 45) = true := bne_iff_ne.2 (by omega)
            clear a b
            go_wp2_with fail
            go_ret
            exact ⟨by show Ending.returned (.bool false) = _; rw [hF.out], rfl⟩
          · have y1 : decide ((97 : Int) ≤ (s[k].toNat : Int)) = false := decide_eq_false (by omega)
            have y2 : decide ((48 : Int) ≤ (s[k].toNat : Int)) = true := decide_eq_true (by omega)
            have y3 : decide ((s[k].toNat : Int) ≤ 57) = false := decide_eq_false (by omega)
            have z1 : ((s[k].toNat : Int) == 45) = false := beq_eq_false_iff_ne.2 (by omega)
            have z2 : ((s[k].toNat : Int) != 45) = true := bne_iff_ne.2 (by omega)
            clear a b
            go_wp2_with fail
            go_ret
            exact ⟨by show Ending.returned (.bool false) = _; rw [hF.out], rfl⟩
          · have y1 : decide ((97 : Int) ≤ (s[k].toNat : Int)) = true := decide_eq_true (by omega)
            have y2 : decide ((s[k].toNat : Int) ≤ 122) = false := decide_eq_false (by omega)
            have y3 : decide ((48 : Int) ≤ (s[k].toNat : Int)) = true := decide_eq_true (by omega)
            have y4 : decide ((s[k].toNat : Int) ≤ 57) = false := decide_eq_false (by omega)
            have z1 : ((s[k].toNat : Int) == 45) = false := beq_eq_false_iff_ne.2 (by omega)
            have z2 : ((s[k].toNat : Int) != 45) = true := bne_iff_ne.2 (by omega)
            clear a
            go_wp2_with fail
            go_ret
            exact ⟨by show Ending.returned (.bool false) = _; rw [hF.out], rfl⟩
      · have hF : Hid (namedB s.data.toList = true) := by
          have := hA.out
          rw [List.take_of_length_le (by rw [hsl.out]; omega)] at this
          show _ = _
          unfold namedB
          rw [hL.out, this]
          rfl
        have hge : (s.size : Int) ≤ (k : Int) := by omega
        go_wp2_with fail
        go_ret
        exact ⟨by show Ending.returned (.bool true) = _; rw [hF.out], rfl⟩

end Go.Proofs.YthkdlaohaekilaaDoor.IdxRef0
