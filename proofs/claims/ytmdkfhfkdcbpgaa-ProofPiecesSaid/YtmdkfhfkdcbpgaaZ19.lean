/-
  Texts of the claim, put into one file: ProofIdx, IdxRef0.
-/
import Derived.Test.YtmdkfhfkdcbpgaaZ14
import Derived.Test.YtmdkfhfkdcbpgaaShelf
import Derived.Test.YtmdkfhfkdcbpgaaZ6

namespace Go.Proofs.Ytmdkfhfkdcbpgaa.ProofIdx
open Go Go.RowKit Go.Proofs.Ytmdkfhfkdcbpgaa Go.Proofs.Ytmdkfhfkdcbpgaa.Mem Go.Proofs.Ytmdkfhfkdcbpgaa.Sha Go.Proofs.Ytmdkfhfkdcbpgaa.Bytes Go.Proofs.Ytmdkfhfkdcbpgaa.Append Go.Proofs.Ytmdkfhfkdcbpgaa.Octet Go.Proofs.Ytmdkfhfkdcbpgaa.Octet2 Go.Proofs.Ytmdkfhfkdcbpgaa.HeadMem Go.Proofs.Ytmdkfhfkdcbpgaa.ProofBeside Go.Proofs.Ytmdkfhfkdcbpgaa.ProofEnc Go.Proofs.Ytmdkfhfkdcbpgaa.QuietTail Go.Proofs.Ytmdkfhfkdcbpgaa.Grown

def okc (x : UInt8) : Bool := decide (97 ≤ x.toNat ∧ x.toNat ≤ 122 ∨ 48 ≤ x.toNat ∧ x.toNat ≤ 57 ∨ x.toNat = 45)
def legalB (l : List UInt8) : Bool := decide (0 < l.length ∧ l.length ≤ 64) && l.all okc
def namedB (l : List UInt8) : Bool := decide (l.length ≤ 64) && l.all okc

theorem legal_step {l : List UInt8} {k : Nat} (h : k < l.length) (h1 : (l.take k).all okc = true) (h2 : okc l[k] = true) : (l.take (k + 1)).all okc = true := by
  rw [List.take_succ_eq_append_getElem h, List.all_append, h1]
  simp [h2]
theorem legal_stop {l : List UInt8} {k : Nat} (h : k < l.length) (h2 : okc l[k] = false) : l.all okc = false := by
  rw [List.all_eq_false]
  exact ⟨l[k], List.getElem_mem h, by rw [h2]; decide⟩

set_option maxRecDepth 100000 in
set_option maxHeartbeats 1000000 in
theorem legal_any (s : ByteArray) (hs : s.size ≤ 140737488355328) (w : World) :
    Calls Try.prog 76 #[.string s, .int .i64 64] w fun e w' => e = .returned (.bool (legalB s.data.toList)) ∧ w = w' := by
  have hsl : Hid (s.data.toList.length = s.size) := by show _ = _; simp
  by_cases h0 : s.size = 0
  · have hF : Hid (legalB s.data.toList = false) := by show _ = _; unfold legalB; rw [hsl.out, h0]; simp
    have y1 : ((s.size : Int) == 0) = true := by simp [h0]
    clear h0 hs hsl
    go_enter Try.func76, Try.ntmps76
    go_wp2_with fail
    go_ret
    exact ⟨by show Ending.returned (.bool false) = _; rw [hF.out], rfl⟩
  · by_cases h64 : 64 < s.size
    · have hF : Hid (legalB s.data.toList = false) := by show _ = _; unfold legalB; rw [hsl.out, decide_eq_false (by omega)]; rfl
      have y1 : ((s.size : Int) == 0) = false := beq_eq_false_iff_ne.2 (by omega)
      have y2 : (64 : Int) < (s.size : Int) := by omega
      clear h0 hs hsl h64
      go_enter Try.func76, Try.ntmps76
      go_wp2_with fail
      go_ret
      exact ⟨by show Ending.returned (.bool false) = _; rw [hF.out], rfl⟩
    · have y1 : ((s.size : Int) == 0) = false := beq_eq_false_iff_ne.2 (by omega)
      have y2 : decide ((64 : Int) < (s.size : Int)) = false := decide_eq_false (by omega)
      have hL : Hid (decide (0 < s.data.toList.length ∧ s.data.toList.length ≤ 64) = true) := by show _ = _; rw [hsl.out]; exact decide_eq_true (by omega)
      have hs64 : (s.size : Int) ≤ 64 := by omega
      clear h0 hs h64
      go_enter Try.func76, Try.ntmps76
      go_wp2_with fail
      clear y1 y2
      go_loop [18] (fun v => ∃ k : Nat, v = .int .i64 (k : Int) ∧ k ≤ s.size ∧ Hid ((s.data.toList.take k).all okc = true)) (fun v => s.size - (intOf v).toNat)
      case atStart => exact ⟨0, rfl, Nat.zero_le _, by show _ = _; simp⟩
      case round =>
        obtain ⟨k, rfl, hk, hA⟩ := hrel
        by_cases hlt : k < s.size
        · have hb : Hid (s.data.toList[k]'(by rw [hsl.out]; exact hlt) = s[k]) := rfl
          by_cases hc : okc s[k] = true
          · have hN : Hid ((s.data.toList.take (k + 1)).all okc = true) := legal_step (by rw [hsl.out]; exact hlt) hA.out (by rw [hb.out]; exact hc)
            have hcase : (97 ≤ s[k].toNat ∧ s[k].toNat ≤ 122) ∨ (48 ≤ s[k].toNat ∧ s[k].toNat ≤ 57) ∨ s[k].toNat = 45 := by simpa [okc] using hc
            clear hc hb hA
            rcases hcase with ⟨a, b⟩ | ⟨a, b⟩ | a
            · have y1 : decide ((s[k].toNat : Int) < 97) = false := decide_eq_false (by omega)
              have y2 : decide ((122 : Int) < (s[k].toNat : Int)) = false := decide_eq_false (by omega)
              clear a b
              go_wp2_with fail
              go_round
              case rel => exact ⟨k + 1, by go_num, by omega, hN.out⟩
              case measure => simp [intOf]; omega
            · have y1 : decide ((s[k].toNat : Int) < 97) = true := decide_eq_true (by omega)
              have y2 : decide ((s[k].toNat : Int) < 48) = false := decide_eq_false (by omega)
              have y3 : decide ((57 : Int) < (s[k].toNat : Int)) = false := decide_eq_false (by omega)
              clear a b
              go_wp2_with fail
              go_round
              case rel => exact ⟨k + 1, by go_num, by omega, hN.out⟩
              case measure => simp [intOf]; omega
            · have y1 : decide ((s[k].toNat : Int) < 97) = true := decide_eq_true (by omega)
              have y2 : decide ((s[k].toNat : Int) < 48) = true := decide_eq_true (by omega)
              have y3 : ((s[k].toNat : Int) != 45) = false := bne_eq_false_iff_eq.2 (by omega)
              have y4 : ((s[k].toNat : Int) == 45) = true := beq_iff_eq.2 (by omega)
              clear a
              go_wp2_with fail
              go_round
              case rel => exact ⟨k + 1, by go_num, by omega, hN.out⟩
              case measure => simp [intOf]; omega
          · replace hc : okc s[k] = false := by simpa using hc
            have hF : Hid (legalB s.data.toList = false) := by show _ = _; unfold legalB; rw [legal_stop (k := k) (by rw [hsl.out]; exact hlt) (by rw [hb.out]; exact hc), Bool.and_false]
            have hcase : s[k].toNat < 45 ∨ (45 < s[k].toNat ∧ s[k].toNat < 48) ∨ (57 < s[k].toNat ∧ s[k].toNat < 97) ∨ 122 < s[k].toNat := by
              have := of_decide_eq_false hc
              omega
            clear hc hb hA
            rcases hcase with a | ⟨a, b⟩ | ⟨a, b⟩ | a
            · have y1 : decide ((s[k].toNat : Int) < 97) = true := decide_eq_true (by omega)
              have y2 : decide ((s[k].toNat : Int) < 48) = true := decide_eq_true (by omega)
              have y3 : ((s[k].toNat : Int) != 45) = true := bne_iff_ne.2 (by omega)
              have y4 : ((s[k].toNat : Int) == 45) = false := beq_eq_false_iff_ne.2 (by omega)
              clear a
              go_wp2_with fail
              go_ret
              exact ⟨by show Ending.returned (.bool false) = _; rw [hF.out], rfl⟩
            · have y1 : decide ((s[k].toNat : Int) < 97) = true := decide_eq_true (by omega)
              have y2 : decide ((s[k].toNat : Int) < 48) = true := decide_eq_true (by omega)
              have y3 : ((s[k].toNat : Int) != 45) = true := bne_iff_ne.2 (by omega)
              have y4 : ((s[k].toNat : Int) == 45) = false := beq_eq_false_iff_ne.2 (by omega)
              clear a b
              go_wp2_with fail
              go_ret
              exact ⟨by show Ending.returned (.bool false) = _; rw [hF.out], rfl⟩
            · have y1 : decide ((s[k].toNat : Int) < 97) = true := decide_eq_true (by omega)
              have y2 : decide ((s[k].toNat : Int) < 48) = false := decide_eq_false (by omega)
              have y3 : ((s[k].toNat : Int) != 45) = true := bne_iff_ne.2 (by omega)
              have y4 : ((s[k].toNat : Int) == 45) = false := beq_eq_false_iff_ne.2 (by omega)
              have y5 : decide ((57 : Int) < (s[k].toNat : Int)) = true := decide_eq_true (by omega)
              clear a b
              go_wp2_with fail
              go_ret
              exact ⟨by show Ending.returned (.bool false) = _; rw [hF.out], rfl⟩
            · have y1 : decide ((s[k].toNat : Int) < 97) = false := decide_eq_false (by omega)
              have y2 : decide ((s[k].toNat : Int) < 48) = false := decide_eq_false (by omega)
              have y3 : ((s[k].toNat : Int) != 45) = true := bne_iff_ne.2 (by omega)
              have y4 : ((s[k].toNat : Int) == 45) = false := beq_eq_false_iff_ne.2 (by omega)
              have y5 : decide ((57 : Int) < (s[k].toNat : Int)) = true := decide_eq_true (by omega)
              have y6 : decide ((122 : Int) < (s[k].toNat : Int)) = true := decide_eq_true (by omega)
              clear a
              go_wp2_with fail
              go_ret
              exact ⟨by show Ending.returned (.bool false) = _; rw [hF.out], rfl⟩
        · have hF : Hid (legalB s.data.toList = true) := by
            have := hA.out
            rw [List.take_of_length_le (by rw [hsl.out]; omega)] at this
            show _ = _
            unfold legalB
            rw [hL.out, this]
            rfl
          have hge : (s.size : Int) ≤ (k : Int) := by omega
          go_wp2_with fail
          go_ret
          exact ⟨by show Ending.returned (.bool true) = _; rw [hF.out], rfl⟩

theorem loop_len (s : ByteArray) : ∀ (n i : Nat) (r : List UInt8), s.size - i = n → (ByteArray.toList.loop s i r).length = r.length + n
  | 0, i, r, h => by
    unfold ByteArray.toList.loop
    rw [if_neg (by omega)]
    simp
  | n + 1, i, r, h => by
    unfold ByteArray.toList.loop
    rw [if_pos (by omega), loop_len s n (i + 1) _ (by omega)]
    simp
    omega
theorem isEmpty_size (s : ByteArray) : s.toList.isEmpty = decide (s.size = 0) := by
  have h : s.toList.length = s.size := by
    unfold ByteArray.toList
    rw [loop_len s s.size 0 [] rfl]
    simp
  rw [← h]
  cases s.toList <;> simp

set_option maxRecDepth 100000 in
set_option maxHeartbeats 1000000 in
theorem named_any (s : ByteArray) (hs : s.size ≤ 140737488355328) (w : World) :
    Calls Try.prog 47 #[.string s] w fun e w' => e = .returned (.bool (namedB s.data.toList)) ∧ w = w' := by
  have hsl : s.data.toList.length = s.size := by simp
  by_cases h0 : s.size = 0
  · have hF : Hid (namedB s.data.toList = true) := by
      show _ = _
      rw [h0] at hsl
      rw [List.eq_nil_of_length_eq_zero hsl]
      rfl
    have y1 : s.toList.isEmpty = true := by rw [isEmpty_size]; exact decide_eq_true h0
    clear hs hsl h0
    go_enter Try.func47, Try.ntmps47
    go_wp2_with fail
    go_ret
    exact ⟨by show Ending.returned (.bool true) = _; rw [hF.out], rfl⟩
  · have hF : Hid (legalB s.data.toList = namedB s.data.toList) := by
      show _ = _
      unfold legalB namedB
      congr 1
      rw [decide_eq_decide]
      omega
    have y1 : s.toList.isEmpty = false := by rw [isEmpty_size]; exact decide_eq_false h0
    replace hs := Lib.hid hs
    clear h0 hsl
    go_enter Try.func47, Try.ntmps47
    go_wp2_with (go_at_call 76; refine (legal_any s hs.out _).mono ?_; rw [hF.out]; rintro e w1 ⟨rfl, rfl⟩)
    go_ret
    exact ⟨rfl, rfl⟩

/-- How many bits of a digest are set. -/
def onesOf (d : Text) : Nat := (d.map fun b => Lib.onesCount b.toNat).sum
theorem onesOf_step (d : Text) (k : Nat) (x : BitVec 8) (h : d[k]? = some x) : onesOf (d.take (k + 1)) = onesOf (d.take k) + Lib.onesCount x.toNat := by
  unfold onesOf
  rw [List.take_add_one, h]
  simp
theorem onesCount_le (x : BitVec 8) : Lib.onesCount x.toNat ≤ 8 := Lib.onesCount_le8 ⟨x.toNat, x.isLt⟩
theorem onesOf_le : ∀ d : Text, onesOf d ≤ 8 * d.length
  | [] => by simp [onesOf]
  | x :: d => by
    have h1 := onesOf_le d
    have h2 := onesCount_le x
    unfold onesOf at h1 ⊢
    simp only [List.map_cons, List.sum_cons, List.length_cons]
    omega

end Go.Proofs.Ytmdkfhfkdcbpgaa.ProofIdx

namespace Go.Proofs.Ytmdkfhfkdcbpgaa.IdxRef0
open Go Go.RowKit Go.Proofs.Ytmdkfhfkdcbpgaa Go.Proofs.Ytmdkfhfkdcbpgaa.Mem Go.Proofs.Ytmdkfhfkdcbpgaa.Sha Go.Proofs.Ytmdkfhfkdcbpgaa.Bytes Go.Proofs.Ytmdkfhfkdcbpgaa.Append Go.Proofs.Ytmdkfhfkdcbpgaa.Octet Go.Proofs.Ytmdkfhfkdcbpgaa.Octet2 Go.Proofs.Ytmdkfhfkdcbpgaa.HeadMem Go.Proofs.Ytmdkfhfkdcbpgaa.ProofIdx

set_option maxRecDepth 100000 in
set_option maxHeartbeats 1000000 in
theorem named17_any (s : ByteArray) (w : World) : Calls Try.prog 28 #[.string s] w fun e w' => e = .returned (.bool (namedB s.data.toList)) ∧ w = w' := by
  have hsl : Hid (s.data.toList.length = s.size) := by show _ = _; simp
  by_cases h64 : 64 < s.size
  · have hF : Hid (namedB s.data.toList = false) := by show _ = _; unfold namedB; rw [hsl.out, decide_eq_false (by omega)]; rfl
    have y2 : (64 : Int) < (s.size : Int) := by omega
    clear hsl h64
    go_enter Try.func28, Try.ntmps28
    go_wp2_with fail
    go_ret
    exact ⟨by show Ending.returned (.bool false) = _; rw [hF.out], rfl⟩
  · have y2 : decide ((64 : Int) < (s.size : Int)) = false := decide_eq_false (by omega)
    have hL : Hid (decide (s.data.toList.length ≤ 64) = true) := by show _ = _; rw [hsl.out]; exact decide_eq_true (by omega)
    have hs64 : (s.size : Int) ≤ 64 := by omega
    clear h64
    go_enter Try.func28, Try.ntmps28
    go_wp2_with fail
    clear y2
    go_loop [3] (fun v => ∃ k : Nat, v = .int .i64 (k : Int) ∧ k ≤ s.size ∧ Hid ((s.data.toList.take k).all okc = true)) (fun v => s.size - (intOf v).toNat)
    case atStart => exact ⟨0, rfl, Nat.zero_le _, by show _ = _; simp⟩
    case round =>
      obtain ⟨k, rfl, hk, hA⟩ := hrel
      by_cases hlt : k < s.size
      · have hb : Hid (s.data.toList[k]'(by rw [hsl.out]; exact hlt) = s[k]) := rfl
        by_cases hc : okc s[k] = true
        · have hN : Hid ((s.data.toList.take (k + 1)).all okc = true) := legal_step (by rw [hsl.out]; exact hlt) hA.out (by rw [hb.out]; exact hc)
          have hcase : (97 ≤ s[k].toNat ∧ s[k].toNat ≤ 122) ∨ (48 ≤ s[k].toNat ∧ s[k].toNat ≤ 57) ∨ s[k].toNat = 45 := by simpa [okc] using hc
          clear hc hb hA
          rcases hcase with ⟨a, b⟩ | ⟨a, b⟩ | a
          · have y1 : decide ((97 : Int) ≤ (s[k].toNat : Int)) = true := decide_eq_true (by omega)
            have y2 : decide ((s[k].toNat : Int) ≤ 122) = true := decide_eq_true (by omega)
            clear a b
            go_wp2_with fail
            go_round
            case rel => exact ⟨k + 1, by go_num, by omega, hN.out⟩
            case measure => simp [intOf]; omega
          · have y1 : decide ((97 : Int) ≤ (s[k].toNat : Int)) = false := decide_eq_false (by omega)
            have y2 : decide ((48 : Int) ≤ (s[k].toNat : Int)) = true := decide_eq_true (by omega)
            have y3 : decide ((s[k].toNat : Int) ≤ 57) = true := decide_eq_true (by omega)
            clear a b
            go_wp2_with fail
            go_round
            case rel => exact ⟨k + 1, by go_num, by omega, hN.out⟩
            case measure => simp [intOf]; omega
          · have y1 : decide ((97 : Int) ≤ (s[k].toNat : Int)) = false := decide_eq_false (by omega)
            have y2 : decide ((48 : Int) ≤ (s[k].toNat : Int)) = false := decide_eq_false (by omega)
            have z1 : ((s[k].toNat : Int) == 45) = true := beq_iff_eq.2 (by omega)
            have z2 : ((s[k].toNat : Int) != 45) = false := bne_eq_false_iff_eq.2 (by omega)
            clear a
            go_wp2_with fail
            go_round
            case rel => exact ⟨k + 1, by go_num, by omega, hN.out⟩
            case measure => simp [intOf]; omega
        · replace hc : okc s[k] = false := by simpa using hc
          have hF : Hid (namedB s.data.toList = false) := by show _ = _; unfold namedB; rw [legal_stop (k := k) (by rw [hsl.out]; exact hlt) (by rw [hb.out]; exact hc), Bool.and_false]
          have hcase : s[k].toNat < 45 ∨ (45 < s[k].toNat ∧ s[k].toNat < 48) ∨ (57 < s[k].toNat ∧ s[k].toNat < 97) ∨ 122 < s[k].toNat := by
            have := of_decide_eq_false hc
            omega
          clear hc hb hA
          rcases hcase with a | ⟨a, b⟩ | ⟨a, b⟩ | a
          · have y1 : decide ((97 : Int) ≤ (s[k].toNat : Int)) = false := decide_eq_false (by omega)
            have y2 : decide ((48 : Int) ≤ (s[k].toNat : Int)) = false := decide_eq_false (by omega)
            have z1 : ((s[k].toNat : Int) == 45) = false := beq_eq_false_iff_ne.2 (by omega)
            have z2 : ((s[k].toNat : Int) != 45) = true := bne_iff_ne.2 (by omega)
            clear a
            go_wp2_with fail
            go_ret
            exact ⟨by show Ending.returned (.bool false) = _; rw [hF.out], rfl⟩
          · have y1 : decide ((97 : Int) ≤ (s[k].toNat : Int)) = false := decide_eq_false (by omega)
            have y2 : decide ((48 : Int) ≤ (s[k].toNat : Int)) = false := decide_eq_false (by omega)
            have z1 : ((s[k].toNat : Int) == 45) = false := beq_eq_false_iff_ne.2 (by omega)
            have z2 : ((s[k].toNat : Int) != 45) = true := bne_iff_ne.2 (by omega)
            clear a b
            go_wp2_with fail
            go_ret
            exact ⟨by show Ending.returned (.bool false) = _; rw [hF.out], rfl⟩
          · have y1 : decide ((97 : Int) ≤ (s[k].toNat : Int)) = false := decide_eq_false (by omega)
            have y2 : decide ((48 : Int) ≤ (s[k].toNat : Int)) = true := decide_eq_true (by omega)
            have y3 : decide ((s[k].toNat : Int) ≤ 57) = false := decide_eq_false (by omega)
            have z1 : ((s[k].toNat : Int) == 45) = false := beq_eq_false_iff_ne.2 (by omega)
            have z2 : ((s[k].toNat : Int) != 45) = true := bne_iff_ne.2 (by omega)
            clear a b
            go_wp2_with fail
            go_ret
            exact ⟨by show Ending.returned (.bool false) = _; rw [hF.out], rfl⟩
          · have y1 : decide ((97 : Int) ≤ (s[k].toNat : Int)) = true := decide_eq_true (by omega)
            have y2 : decide ((s[k].toNat : Int) ≤ 122) = false := decide_eq_false (by omega)
            have y3 : decide ((48 : Int) ≤ (s[k].toNat : Int)) = true := decide_eq_true (by omega)
            have y4 : decide ((s[k].toNat : Int) ≤ 57) = false := decide_eq_false (by omega)
            have z1 : ((s[k].toNat : Int) == 45) = false := beq_eq_false_iff_ne.2 (by omega)
            have z2 : ((s[k].toNat : Int) != 45) = true := bne_iff_ne.2 (by omega)
            clear a
            go_wp2_with fail
            go_ret
            exact ⟨by show Ending.returned (.bool false) = _; rw [hF.out], rfl⟩
      · have hF : Hid (namedB s.data.toList = true) := by
          have := hA.out
          rw [List.take_of_length_le (by rw [hsl.out]; omega)] at this
          show _ = _
          unfold namedB
          rw [hL.out, this]
          rfl
        have hge : (s.size : Int) ≤ (k : Int) := by omega
        go_wp2_with fail
        go_ret
        exact ⟨by show Ending.returned (.bool true) = _; rw [hF.out], rfl⟩

theorem ones_zero : Lib.onesCount 0 = 0 := by decide +kernel
theorem ones_halfF : ∀ n : Fin 256, Lib.onesCount n.val = n.val % 2 + Lib.onesCount (n.val / 2) := by decide +kernel
theorem ones_half (b : Nat) (h : b < 256) : Lib.onesCount b = b % 2 + Lib.onesCount (b / 2) := ones_halfF ⟨b, h⟩
set_option maxRecDepth 100000 in
set_option maxHeartbeats 1000000 in
theorem ones17_any (d : Text) (hd : d.length = 32) (w : World) :
    Calls Try.prog 29 #[.agg (cells8 d).toArray] w fun e w' => e = .returned (.int .i64 (onesOf d : Nat)) ∧ Below w.heap.size w w' := by
  have hb0 : Hid (Below w.heap.size w (w.alloc (.cells (cells8 d).toArray 23))) := Below.heap_below w _
  have hB0 : Hid (Blk (w.alloc (.cells (cells8 d).toArray 23)) w.heap.size 23 (cells8 d).toArray) := Blk.new w _ _
  have hcs : Hid (∀ (k : Nat) (x : BitVec 8), d[k]? = some x → (w.alloc (.cells (cells8 d).toArray 23)).cell? ⟨w.heap.size, k, none⟩ = some (.int .u8 (b8 x))) := fun k x hx => (hB0.out.cell k).trans (by rw [List.getElem?_toArray]; unfold cells8; rw [List.getElem?_map, hx]; rfl)
  obtain ⟨cs, hcs0⟩ : ∃ cs, (cells8 d).toArray = cs := ⟨_, rfl⟩
  rw [hcs0] at hB0 hb0 hcs ⊢
  clear hcs0 hB0
  replace hd := Lib.hid hd
  go_enter Try.func29, Try.ntmps29
  go_wp2_with fail
  go_loop [3, 4] (fun n v => ∃ k : Nat, v = .int .i64 (k : Int) ∧ n = .int .i64 (onesOf (d.take k) : Nat) ∧ Hid (k ≤ 32)) (fun _ v => 32 - (intOf v).toNat)
  case atStart => exact ⟨0, rfl, rfl, by show _ ≤ _; omega⟩
  case round =>
    obtain ⟨k, rfl, rfl, hk⟩ := hrel
    by_cases hlt : k < 32
    · obtain ⟨x, hx⟩ : ∃ x, Hid (d[k]? = some x) := ⟨_, List.getElem?_eq_getElem (by rw [hd.out]; exact hlt)⟩
      have hst := Lib.hid (onesOf_step d k x hx.out)
      have hb := onesOf_le (d.take k)
      have hc := onesCount_le x
      rw [List.length_take, hd.out] at hb
      obtain ⟨N, hN⟩ : ∃ N, Hid (onesOf (d.take k) = N) := ⟨_, Lib.hid rfl⟩
      rw [hN.out] at hb hst
      rw [hN.out]
      have hcell := hcs.out k x hx.out
      have hx0 := b8_nonneg x
      have hx1 := b8_lt x
      have hM : Hid (b8 x = ((x.toNat : Nat) : Int)) := rfl
      obtain ⟨M, hM2⟩ : ∃ M, Hid (Lib.onesCount x.toNat = M) := ⟨_, Lib.hid rfl⟩
      rw [hM2.out] at hc hst
      have hNM : Hid (N ≤ 256 ∧ M ≤ 8) := by show _ ∧ _; omega
      have hz : (k : Int) < 32 := by omega
      have hz0 : (0 : Int) ≤ (k : Int) := by omega
      have hk1 : Hid (k + 1 ≤ 32) := by show _ ≤ _; omega
      obtain ⟨X, hX⟩ : ∃ X : Nat, Hid (x.toNat = X) := ⟨_, Lib.hid rfl⟩
      have hX255 : Hid (X ≤ 255) := by have := x.isLt; have := hX.out; show _ ≤ _; omega
      obtain ⟨oc, hoc⟩ : ∃ oc, Hid (Lib.onesCount = oc) := ⟨_, Lib.hid rfl⟩
      have hoc0 : Hid (oc 0 = 0) := by show _ = _; rw [← hoc.out]; exact ones_zero
      have hoch : Hid (∀ b, b < 256 → oc b = b % 2 + oc (b / 2)) := fun b hb => by rw [← hoc.out]; exact ones_half b hb
      rw [hX.out] at hM hM2
      rw [hoc.out] at hM2
      rw [hM.out] at hcell hx0 hx1
      clear hlt hc hb hcs
      go_wp2_with fail
      go_loop [3, 5] (fun n v => ∃ a b : Nat, n = .int .i64 (a : Int) ∧ v = .int .i64 (b : Int) ∧ Hid (a + oc b = N + M) ∧ Hid (b ≤ 255)) (fun _ v => (intOf v).toNat)
      case atStart => exact ⟨N, X, rfl, by first | rfl | (congr 1; omega), by show _ = _; rw [hM2.out], hX255.out⟩
      case round =>
        obtain ⟨a, b, rfl, rfl, hab, hb255⟩ := hrel
        by_cases h0 : b = 0
        · have haN : Hid (a = N + M) := by have := hab.out; rw [h0, hoc0.out] at this; exact this
          have g1 : ¬ ((0 : Int) < (b : Int)) := by omega
          have g2 : (a : Int) ≤ 264 := by have := haN.out; have := hNM.out; omega
          clear h0 hab
          go_wp2_with fail
          go_round
          case rel => exact ⟨k + 1, by go_num, by rw [hst.out, haN.out], hk1.out⟩
          case measure => (have := hk1.out; simp [intOf]; omega)
        · have g1 : (0 : Int) < (b : Int) := by omega
          have hh := Lib.hid (hoch.out b (by have := hb255.out; omega))
          have g2 : (a : Int) ≤ 264 := by have := hab.out; have := hNM.out; omega
          have g3 : (b : Int) ≤ 255 := by have := hb255.out; omega
          have hm2 : (b : Int).tmod 2 = ((b % 2 : Nat) : Int) := by rw [Int.tmod_eq_emod_of_nonneg (by omega)]; omega
          have hf1 : (b : Int).tdiv 2 = ((b / 2 : Nat) : Int) := by rw [Int.tdiv_eq_ediv_of_nonneg (by omega)]; omega
          have hlt : Hid (b / 2 < b ∧ b / 2 ≤ 255) := by have := hb255.out; show _ ∧ _; omega
          have hab2 : Hid (a + b % 2 + oc (b / 2) = N + M) := by have := hab.out; have := hh.out; show _ = _; omega
          obtain ⟨m2, hm⟩ : ∃ m2, b % 2 = m2 := ⟨_, rfl⟩
          obtain ⟨d2, hd2⟩ : ∃ d2, b / 2 = d2 := ⟨_, rfl⟩
          have g4 : (m2 : Int) ≤ 1 := by omega
          have g5 : (d2 : Int) ≤ 255 := by omega
          rw [hm] at hm2 hab2
          rw [hd2] at hf1 hab2 hlt
          clear h0 hab hh hm hd2
          go_wp2_with fail
          go_round
          case rel => exact ⟨a + m2, d2, by go_num, by go_num, hab2.out, hlt.out.2⟩
          case measure => (have := hlt.out; simp [intOf]; omega)
    · have hT : Hid (onesOf (d.take k) = onesOf d) := by show _ = _; rw [List.take_of_length_le (by rw [hd.out]; omega)]
      have hk32 : (32 : Int) ≤ (k : Int) := by omega
      rw [hT.out]
      go_wp2_with fail
      go_ret
      exact ⟨rfl, hb0.out⟩
end Go.Proofs.Ytmdkfhfkdcbpgaa.IdxRef0
