/-
  Texts of the claim, put into one file: ProofIdx, Reader, Reader2, Reader3, ProofIdx2, ProofFlag, ProofIdx3, ProofIdx4, IdxAny, IdxEnc, Flag, Reader7, OctetBytes, StrAppend, IdxRef0.
-/
import Derived.Test.YtgldkfaiofkhbaaDoorZ9
import Derived.Test.YtgldkfaiofkhbaaDoorShelf
import Derived.Test.YtgldkfaiofkhbaaDoorZ15
import Derived.Laws.IdiomStrings
import Derived.Test.YtgldkfaiofkhbaaDoorZ3
import Derived.Test.YtgldkfaiofkhbaaDoorZ5
import Derived.Lib.AppendStr

namespace Go.Proofs.YtgldkfaiofkhbaaDoor.ProofIdx
open Go Go.RowKit Go.Proofs.YtgldkfaiofkhbaaDoor Go.Proofs.YtgldkfaiofkhbaaDoor.Mem Go.Proofs.YtgldkfaiofkhbaaDoor.Sha Go.Proofs.YtgldkfaiofkhbaaDoor.Bytes Go.Proofs.YtgldkfaiofkhbaaDoor.Append Go.Proofs.YtgldkfaiofkhbaaDoor.Octet Go.Proofs.YtgldkfaiofkhbaaDoor.Octet2 Go.Proofs.YtgldkfaiofkhbaaDoor.HeadMem Go.Proofs.YtgldkfaiofkhbaaDoor.ProofBeside Go.Proofs.YtgldkfaiofkhbaaDoor.ProofEnc Go.Proofs.YtgldkfaiofkhbaaDoor.QuietTail Go.Proofs.YtgldkfaiofkhbaaDoor.Grown

def okc (x : UInt8) : Bool := decide (97 ≤ x.toNat ∧ x.toNat ≤ 122 ∨ 48 ≤ x.toNat ∧ x.toNat ≤ 57 ∨ x.toNat = 45)
def legalB (l : List UInt8) : Bool := decide (0 < l.length ∧ l.length ≤ 64) && l.all okc
def namedB (l : List UInt8) : Bool := decide (l.length ≤ 64) && l.all okc

theorem legal_step {l : List UInt8} {k : Nat} (h : k < l.length) (h1 : (l.take k).all okc = true) (h2 : okc l[k] = true) : (l.take (k + 1)).all okc = true := by
  rw [List.take_succ_eq_append_getElem h, List.all_append, h1]
  simp [h2]
theorem legal_stop {l : List UInt8} {k : Nat} (h : k < l.length) (h2 : okc l[k] = false) : l.all okc = false := by
  rw [List.all_eq_false]
  exact ⟨l[k], List.getElem_mem h, by rw [h2]; decide⟩

set_option maxRecDepth 100000 in
set_option maxHeartbeats 1000000 in
theorem legal_any (s : ByteArray) (hs : s.size ≤ 140737488355328) (w : World) :
    Calls Tryd.prog 163 #[.string s, .int .i64 64] w fun e w' => e = .returned (.bool (legalB s.data.toList)) ∧ w = w' := by
  have hsl : Hid (s.data.toList.length = s.size) := by show _ = _; simp
  by_cases h0 : s.size = 0
  · have hF : Hid (legalB s.data.toList = false) := by show _ = _; unfold legalB; rw [hsl.out, h0]; simp
    have y1 : ((s.size : Int) == 0) = true := by simp [h0]
    clear h0 hs hsl
    go_enter Tryd.func163, Tryd.ntmps163
    go_wp2_with fail
    go_ret
    exact ⟨by show Ending.returned (.bool false) = _; rw [hF.out], rfl⟩
  · by_cases h64 : 64 < s.size
    · have hF : Hid (legalB s.data.toList = false) := by show _ = _; unfold legalB; rw [hsl.out, decide_eq_false (by omega)]; rfl
      have y1 : ((s.size : Int) == 0) = false := beq_eq_false_iff_ne.2 (by omega)
      have y2 : (64 : Int) < (s.size : Int) := by omega
      clear h0 hs hsl h64
      go_enter Tryd.func163, Tryd.ntmps163
      go_wp2_with fail
      go_ret
      exact ⟨by show Ending.returned (.bool false) = _; rw [hF.out], rfl⟩
    · have y1 : ((s.size : Int) == 0) = false := beq_eq_false_iff_ne.2 (by omega)
      have y2 : decide ((64 : Int) < (s.size : Int)) = false := decide_eq_false (by omega)
      have hL : Hid (decide (0 < s.data.toList.length ∧ s.data.toList.length ≤ 64) = true) := by show _ = _; rw [hsl.out]; exact decide_eq_true (by omega)
      have hs64 : (s.size : Int) ≤ 64 := by omega
      clear h0 hs h64
      go_enter Tryd.func163, Tryd.ntmps163
      go_wp2_with fail
      clear y1 y2
      go_loop [18] (fun v => ∃ k : Nat, v = .int .i64 (k : Int) ∧ k ≤ s.size ∧ Hid ((s.data.toList.take k).all okc = true)) (fun v => s.size - (intOf v).toNat)
      case atStart => exact ⟨0, rfl, Nat.zero_le _, by show _ = _; simp⟩
      case round =>
        obtain ⟨k, rfl, hk, hA⟩ := hrel
        by_cases hlt : k < s.size
        · have hb : Hid (s.data.toList[k]'(by rw [hsl.out]; exact hlt) = s[k]) := rfl
          by_cases hc : okc s[k] = true
          · have hN : Hid ((s.data.toList.take (k + 1)).all okc = true) := legal_step (by rw [hsl.out]; exact hlt) hA.out (by rw [hb.out]; exact hc)
            have hcase : (97 ≤ s[k].toNat ∧ s[k].toNat ≤ 122) ∨ (48 ≤ s[k].toNat ∧ s[k].toNat ≤ 57) ∨ s[k].toNat = 45 := by simpa [okc] using hc
            clear hc hb hA
            rcases hcase with ⟨a, b⟩ | ⟨a, b⟩ | a
            · have y1 : decide ((s[k].toNat : Int) < 97) = false := decide_eq_false (by omega)
              have y2 : decide ((122 : Int) < (s[k].toNat : Int)) = false := decide_eq_false (by omega)
              clear a b
              go_wp2_with fail
              go_round
              case rel => exact ⟨k + 1, by go_num, by omega, hN.out⟩
              case measure => simp [intOf]; omega
            · have y1 : decide ((s[k].toNat : Int) < 97) = true := decide_eq_true (by omega)
              have y2 : decide ((s[k].toNat : Int) < 48) = false := decide_eq_false (by omega)
              have y3 : decide ((57 : Int) < (s[k].toNat : Int)) = false := decide_eq_false (by omega)
              clear a b
              go_wp2_with fail
              go_round
              case rel => exact ⟨k + 1, by go_num, by omega, hN.out⟩
              case measure => simp [intOf]; omega
            · have y1 : decide ((s[k].toNat : Int) < 97) = true := decide_eq_true (by omega)
              have y2 : decide ((s[k].toNat : Int) < 48) = true := decide_eq_true (by omega)
              have y3 : ((s[k].toNat : Int) != 45) = false := bne_eq_false_iff_eq.2 (by omega)
              have y4 : ((s[k].toNat : Int) == 45) = true := beq_iff_eq.2 (by omega)
              clear a
              go_wp2_with fail
              go_round
              case rel => exact ⟨k + 1, by go_num, by omega, hN.out⟩
              case measure => simp [intOf]; omega
          · replace hc : okc s[k] = false := by simpa using hc
            have hF : Hid (legalB s.data.toList = false) := by show _ = _; unfold legalB; rw [legal_stop (k := k) (by rw [hsl.out]; exact hlt) (by rw [hb.out]; exact hc), Bool.and_false]
            have hcase : s[k].toNat < 45 ∨ (45 < s[k].toNat ∧ s[k].toNat < 48) ∨ (57 < s[k].toNat ∧ s[k].toNat < 97) ∨ 122 < s[k].toNat := by
              have := of_decide_eq_false hc
              omega
            clear hc hb hA
            rcases hcase with a | ⟨a, b⟩ | ⟨a, b⟩ | a
            · have y1 : decide ((s[k].toNat : Int) < 97) = true := decide_eq_true (by omega)
              have y2 : decide ((s[k].toNat : Int) < 48) = true := decide_eq_true (by omega)
              have y3 : ((s[k].toNat : Int) != 45) = true := bne_iff_ne.2 (by omega)
              have y4 : ((s[k].toNat : Int) == 45) = false := beq_eq_false_iff_ne.2 (by omega)
              clear a
              go_wp2_with fail
              go_ret
              exact ⟨by show Ending.returned (.bool false) = _; rw [hF.out], rfl⟩
            · have y1 : decide ((s[k].toNat : Int) < 97) = true := decide_eq_true (by omega)
              have y2 : decide ((s[k].toNat : Int) < 48) = true := decide_eq_true (by omega)
              have y3 : ((s[k].toNat : Int) != 45) = true := bne_iff_ne.2 (by omega)
              have y4 : ((s[k].toNat : Int) == 45) = false := beq_eq_false_iff_ne.2 (by omega)
              clear a b
              go_wp2_with fail
              go_ret
              exact ⟨by show Ending.returned (.bool false) = _; rw [hF.out], rfl⟩
            · have y1 : decide ((s[k].toNat : Int) < 97) = true := decide_eq_true (by omega)
              have y2 : decide ((s[k].toNat : Int) < 48) = false := decide_eq_false (by omega)
              have y3 : ((s[k].toNat : Int) != 45) = true := bne_iff_ne.2 (by omega)
              have y4 : ((s[k].toNat : Int) == 45) = false := beq_eq_false_iff_ne.2 (by omega)
              have y5 : decide ((57 : Int) < (s[k].toNat : Int)) = true := decide_eq_true (by omega)
              clear a b
              go_wp2_with fail
              go_ret
              exact ⟨by show Ending.returned (.bool false) = _; rw [hF.out], rfl⟩
            · have y1 : decide ((s[k].toNat : Int) < 97) = false := decide_eq_false (by omega)
              have y2 : decide ((s[k].toNat : Int) < 48) = false := decide_eq_false (by omega)
              have y3 : ((s[k].toNat : Int) != 45) = true := bne_iff_ne.2 (by omega)
              have y4 : ((s[k].toNat : Int) == 45) = false := beq_eq_false_iff_ne.2 (by omega)
              have y5 : decide ((57 : Int) < (s[k].toNat : Int)) = true := decide_eq_true (by omega)
              have y6 : decide ((122 : Int) < (s[k].toNat : Int)) = true := decide_eq_true (by omega)
              clear a
              go_wp2_with fail
              go_ret
              exact ⟨by show Ending.returned (.bool false) = _; rw [hF.out], rfl⟩
        · have hF : Hid (legalB s.data.toList = true) := by
            have := hA.out
            rw [List.take_of_length_le (by rw [hsl.out]; omega)] at this
            show _ = _
            unfold legalB
            rw [hL.out, this]
            rfl
          have hge : (s.size : Int) ≤ (k : Int) := by omega
          go_wp2_with fail
          go_ret
          exact ⟨by show Ending.returned (.bool true) = _; rw [hF.out], rfl⟩

theorem loop_len (s : ByteArray) : ∀ (n i : Nat) (r : List UInt8), s.size - i = n → (ByteArray.toList.loop s i r).length = r.length + n
  | 0, i, r, h => by
    unfold ByteArray.toList.loop
    rw [if_neg (by omega)]
    simp
  | n + 1, i, r, h => by
    unfold ByteArray.toList.loop
    rw [if_pos (by omega), loop_len s n (i + 1) _ (by omega)]
    simp
    omega
theorem isEmpty_size (s : ByteArray) : s.toList.isEmpty = decide (s.size = 0) := by
  have h : s.toList.length = s.size := by
    unfold ByteArray.toList
    rw [loop_len s s.size 0 [] rfl]
    simp
  rw [← h]
  cases s.toList <;> simp

set_option maxRecDepth 100000 in
set_option maxHeartbeats 1000000 in
theorem named_any (s : ByteArray) (hs : s.size ≤ 140737488355328) (w : World) :
    Calls Tryd.prog 118 #[.string s] w fun e w' => e = .returned (.bool (namedB s.data.toList)) ∧ w = w' := by
  have hsl : s.data.toList.length = s.size := by simp
  by_cases h0 : s.size = 0
  · have hF : Hid (namedB s.data.toList = true) := by
      show _ = _
      rw [h0] at hsl
      rw [List.eq_nil_of_length_eq_zero hsl]
      rfl
    have y1 : s.toList.isEmpty = true := by rw [isEmpty_size]; exact decide_eq_true h0
    clear hs hsl h0
    go_enter Tryd.func118, Tryd.ntmps118
    go_wp2_with fail
    go_ret
    exact ⟨by show Ending.returned (.bool true) = _; rw [hF.out], rfl⟩
  · have hF : Hid (legalB s.data.toList = namedB s.data.toList) := by
      show _ = _
      unfold legalB namedB
      congr 1
      rw [decide_eq_decide]
      omega
    have y1 : s.toList.isEmpty = false := by rw [isEmpty_size]; exact decide_eq_false h0
    replace hs := Lib.hid hs
    clear h0 hsl
    go_enter Tryd.func118, Tryd.ntmps118
    go_wp2_with (go_at_call 163; refine (legal_any s hs.out _).mono ?_; rw [hF.out]; rintro e w1 ⟨rfl, rfl⟩)
    go_ret
    exact ⟨rfl, rfl⟩

/-- How many bits of a digest are set. -/
def onesOf (d : Text) : Nat := (d.map fun b => Lib.onesCount b.toNat).sum
end Go.Proofs.YtgldkfaiofkhbaaDoor.ProofIdx

namespace Go.Proofs.YtgldkfaiofkhbaaDoor.Reader
open Go Go.RowKit Go.Proofs.YtgldkfaiofkhbaaDoor Go.Proofs.YtgldkfaiofkhbaaDoor.Mem Go.Proofs.YtgldkfaiofkhbaaDoor.Sha Go.Proofs.YtgldkfaiofkhbaaDoor.Bytes Go.Proofs.YtgldkfaiofkhbaaDoor.Append Go.Proofs.YtgldkfaiofkhbaaDoor.Octet Go.Proofs.YtgldkfaiofkhbaaDoor.QuietTail Go.Proofs.YtgldkfaiofkhbaaDoor.Grown

/-- The number that bytes are, the highest first. -/
def num (l : Text) : Nat := l.foldl (fun a c => a * 256 + c.toNat) 0
/-- A reader at block g over the text q, after 'need' bytes were asked for. -/
def Rd (w : World) (g : Nat) (q : Text) (A : Option Addr) (c need : Nat) : Prop :=
  ∃ at_ why, Blk w g 186 #[.slice A q.length c, .int .i64 ((at_ : Nat) : Int), .int .i64 why] ∧ Reads w 1 A q.length (cells8 q) ∧ (A = none → q.length = 0 ∧ c = 0) ∧ (0 < q.length → ∀ a, A = some a → a.block ≠ g) ∧ q.length ≤ c ∧
    at_ ≤ q.length ∧ (need ≤ q.length → at_ = need ∧ why = 0) ∧ (q.length < need → why = 8)

section
variable {w w' : World} {g need c : Nat} {q : Text} {A : Option Addr}
theorem Rd.lt (h : Rd w g q A c need) : g < w.heap.size := by obtain ⟨_, _, hb, _⟩ := h; exact hb.lt
theorem Rd.kept {S : Nat → Prop} (h : Rd w g q A c need) (hk : Kept S w w') (hS : ∀ b, b < w.heap.size → ¬ S b) : Rd w' g q A c need := by
  obtain ⟨at_, why, hb, hr, h1⟩ := h
  refine ⟨at_, why, hb.kept hk (hS g hb.lt), hr.kept0 hk (fun hp b o e => ?_), h1⟩
  obtain ⟨b', o', e', hlt, _⟩ := hr.2 hp
  rw [e] at e'
  injection e' with e'
  injection e' with e1
  subst e1
  exact hS b hlt
theorem Rd.below (h : Rd w g q A c need) (hb : Below w.heap.size w w') : Rd w' g q A c need := h.kept (S := fun _ => False) (Kept.of_below hb) (fun _ _ x => x)
theorem Rd.alloc (h : Rd w g q A c need) (o : Obj) : Rd (w.alloc o) g q A c need := h.below (Below.heap_below w o)
theorem Rd.drewN (h : Rd w g q A c need) (n : Nat) : Rd (w.drewN n) g q A c need := h.below (below_drawn (Below.refl _ _) n)
end

/-- 's[l:h]', l and h within. -/
theorem run_mid {P : Program} {t : TypeId} {A : Option Addr} {n c l h : Nat} (ht : P.underlying t = some (.slice (P.elem t))) (hs : ∀ w, (sizeOf (P.elem t)).run P w = .ok 1 w) (h1 : l ≤ h) (h2 : h ≤ c) (x y : Int) (hx : x = l) (hy : y = h) (w : World) :
    (Instr.sliceAt t (.slice A n c) (some (.int .i64 x)) (some (.int .i64 y)) none).run P w = .ok (.slice (cutA A l c) (h - l) (c - l)) w := by
  subst hx hy
  rw [run_sliceAt_slice w t _ _ _ _ ht, run_slice_lh w t A n c ht .i64 .i64 (l : Int) (h : Int) (by omega) (by omega) (by omega), hs]
  simp [Result.andThen, sliced, cutA]

/-- What the walk of 'ahead' must know of a reader that has room. -/
theorem Rd.at_ {w : World} {need : Nat} {q : Text} {A : Option Addr} (hr : Reads w 1 A q.length (cells8 q)) {k : Nat} (h0 : 0 < k) (hk : need + k ≤ q.length) : ∃ b o, A = some ⟨b, o, none⟩ ∧ b < w.heap.size ∧ ∀ j, j < k → w.cell? ⟨b, o + need + j, none⟩ = some (.int .u8 (b8 (q.getD (need + j) 0))) := by
  obtain ⟨b, o, e, hb, hc⟩ := hr.2 (by omega)
  refine ⟨b, o, e, hb, fun j hj => ?_⟩
  rw [Nat.add_assoc]
  exact hc _ _ (cells8_at q _ (by omega))

end Go.Proofs.YtgldkfaiofkhbaaDoor.Reader

namespace Go.Proofs.YtgldkfaiofkhbaaDoor.Reader2
open Go Go.RowKit Go.Proofs.YtgldkfaiofkhbaaDoor Go.Proofs.YtgldkfaiofkhbaaDoor.Mem Go.Proofs.YtgldkfaiofkhbaaDoor.Sha Go.Proofs.YtgldkfaiofkhbaaDoor.Bytes Go.Proofs.YtgldkfaiofkhbaaDoor.Append Go.Proofs.YtgldkfaiofkhbaaDoor.Octet Go.Proofs.YtgldkfaiofkhbaaDoor.QuietTail Go.Proofs.YtgldkfaiofkhbaaDoor.Grown Go.Proofs.YtgldkfaiofkhbaaDoor.Reader

section
variable {w : World} {g c at_ : Nat} {q : Text} {A : Option Addr}
theorem Rd.reads_set (hr : Reads w 1 A q.length (cells8 q)) (hA : 0 < q.length → ∀ a, A = some a → a.block ≠ g) (i : Nat) (u : Value) : Reads (w.setCell ⟨g, i, none⟩ u) 1 A q.length (cells8 q) :=
  hr.kept0 ((Kept.refl (· = g) w).setCell (.inl rfl) u) (fun hp b o e h => hA (by omega) _ e h)
theorem Rd.adv {k : Nat} (hb : Blk w g 186 #[.slice A q.length c, .int .i64 (at_ : Int), .int .i64 0]) (hr : Reads w 1 A q.length (cells8 q)) (hnil : A = none → q.length = 0 ∧ c = 0) (hA : 0 < q.length → ∀ a, A = some a → a.block ≠ g) (hc : q.length ≤ c) (h8 : at_ + k ≤ q.length) :
    Rd (w.setCell ⟨g, 1, none⟩ (.int .i64 ((at_ : Int) + (k : Int)))) g q A c (at_ + k) ∧ Kept (· = g) w (w.setCell ⟨g, 1, none⟩ (.int .i64 ((at_ : Int) + (k : Int)))) :=
  ⟨⟨at_ + k, 0, by have := hb.set_ 1 (.int .i64 ((at_ : Int) + (k : Int))); simpa using this, Rd.reads_set hr hA _ _, hnil, hA, hc, h8, fun _ => ⟨rfl, rfl⟩, fun h => absurd h (by omega)⟩, (Kept.refl (· = g) w).setCell (p := ⟨g, 1, none⟩) (.inl rfl) _⟩
theorem Rd.fail {need : Nat} (hb : Blk w g 186 #[.slice A q.length c, .int .i64 (at_ : Int), .int .i64 0]) (hr : Reads w 1 A q.length (cells8 q)) (hnil : A = none → q.length = 0 ∧ c = 0) (hA : 0 < q.length → ∀ a, A = some a → a.block ≠ g) (hc : q.length ≤ c) (hat : at_ ≤ q.length) (hn : q.length < need) :
    Rd (w.setCell ⟨g, 2, none⟩ (.int .i64 8)) g q A c need ∧ Kept (· = g) w (w.setCell ⟨g, 2, none⟩ (.int .i64 8)) :=
  ⟨⟨at_, 8, by have := hb.set_ 2 (.int .i64 8); simpa using this, Rd.reads_set hr hA _ _, hnil, hA, hc, hat, fun h => absurd h (by omega), fun _ => rfl⟩, (Kept.refl (· = g) w).setCell (p := ⟨g, 2, none⟩) (.inl rfl) _⟩
theorem Rd.stay {need : Nat} (hb : Blk w g 186 #[.slice A q.length c, .int .i64 (at_ : Int), .int .i64 8]) (hr : Reads w 1 A q.length (cells8 q)) (hnil : A = none → q.length = 0 ∧ c = 0) (hA : 0 < q.length → ∀ a, A = some a → a.block ≠ g) (hc : q.length ≤ c) (hat : at_ ≤ q.length) (hn : q.length < need) : Rd w g q A c need :=
  ⟨at_, 8, hb, hr, hnil, hA, hc, hat, fun h => absurd h (by omega), fun _ => rfl⟩
end
set_option maxRecDepth 100000 in
theorem refuse_first (g : Nat) (s : Value) (at_ : Int) (w : World) (hb : Blk w g 186 #[s, .int .i64 at_, .int .i64 0]) :
    Calls Tryd.prog 115 #[.pointer (some ⟨g, 0, none⟩), .int .i64 8] w fun e w' => e = .returned (.tuple #[]) ∧ w.setCell ⟨g, 2, none⟩ (.int .i64 8) = w' := by
  have g2 : w.cell? ⟨g, 2, none⟩ = some (.int .i64 0) := by rw [hb.cell 2]; rfl
  have gf := hb.frozen 2
  clear hb
  go_enter Tryd.func115, Tryd.ntmps115
  go_wp2_with fail
  go_end0
  exact ⟨rfl, rfl⟩

end Go.Proofs.YtgldkfaiofkhbaaDoor.Reader2

namespace Go.Proofs.YtgldkfaiofkhbaaDoor.Reader3
open Go Go.RowKit Go.Proofs.YtgldkfaiofkhbaaDoor Go.Proofs.YtgldkfaiofkhbaaDoor.Mem Go.Proofs.YtgldkfaiofkhbaaDoor.Sha Go.Proofs.YtgldkfaiofkhbaaDoor.Bytes Go.Proofs.YtgldkfaiofkhbaaDoor.Append Go.Proofs.YtgldkfaiofkhbaaDoor.Octet Go.Proofs.YtgldkfaiofkhbaaDoor.QuietTail Go.Proofs.YtgldkfaiofkhbaaDoor.Grown Go.Proofs.YtgldkfaiofkhbaaDoor.Reader Go.Proofs.YtgldkfaiofkhbaaDoor.Reader2

/-- What Raw hands out: bytes in memory of their own. -/
def Out (w w' : World) (A : Option Addr) (c : Nat) (p : Text) : Prop :=
  Reads w' 1 A p.length (cells8 p) ∧ (A = none → p.length = 0 ∧ c = 0) ∧ p.length ≤ c ∧ ∀ a, A = some a → w.heap.size ≤ a.block

theorem Reads.mid {w : World} {A : Option Addr} {c at_ n : Nat} {q : Text} (h : Reads w 1 A q.length (cells8 q)) (hn : at_ + n ≤ q.length) (hc : q.length ≤ c) : Reads w 1 (cutA A at_ c) n (cells8 ((q.drop at_).take n)) := by
  have h1 := Reads.cut h at_ (by omega) hc
  have e : (cells8 q).drop at_ = cells8 (q.drop at_) := by simp [cells8]
  rw [e] at h1
  have h2 : Reads w 1 (cutA A at_ c) (q.drop at_).length (cells8 (q.drop at_)) := by rw [List.length_drop]; exact h1
  exact Reads.front h2 n (by rw [List.length_drop]; omega)
theorem cutA_none {A : Option Addr} {at_ c : Nat} (h : cutA A at_ c = none) : A = none := by
  unfold cutA at h
  split at h
  · exact h
  · cases A with
    | none => rfl
    | some a => simp at h

set_option maxRecDepth 100000 in
set_option maxHeartbeats 1000000 in
theorem raw_any (q : Text) (hq : q.length < 140737488355328) (g need n : Nat) (hn63 : n < 140737488355328) (A : Option Addr) (c : Nat) (w : World) (h : Rd w g q A c need) :
    Calls Tryd.prog 76 #[.pointer (some ⟨g, 0, none⟩), .int .i64 (n : Int)] w fun e w' => ∃ A' c' p, e = .returned (.slice A' p.length c') ∧ (need + n ≤ q.length → p = (q.drop need).take n) ∧ (q.length < need + n → p = []) ∧ Out w w' A' c' p ∧ Rd w' g q A c (need + n) ∧ Kept (· = g) w w' := by
  obtain ⟨i0, hi, hz0, hz1, hz2⟩ := info_parts8 info8
  obtain ⟨at_, why, hb, hr, hnil, hA, hc, hat, hyes, hno⟩ := h
  have g0 : w.cell? ⟨g, 0, none⟩ = some (.slice A q.length c) := by rw [hb.cell 0]; rfl
  have g1 : w.cell? ⟨g, 1, none⟩ = some (.int .i64 (at_ : Int)) := by rw [hb.cell 1]; rfl
  have g2 : w.cell? ⟨g, 2, none⟩ = some (.int .i64 why) := by rw [hb.cell 2]; rfl
  have gf := hb.frozen 1
  have x0 : (0 : Int) ≤ (n : Int) := by omega
  have x1 : decide ((n : Int) < 0) = false := by simp
  have x2 : IntKind.i64.wrap ((q.length : Int) - (at_ : Int)) = (q.length : Int) - (at_ : Int) := IntWalk.i64_in _ (by omega)
  by_cases hn : need ≤ q.length
  · obtain ⟨rfl, rfl⟩ := hyes hn
    by_cases h8 : at_ + n ≤ q.length
    · have x3 : decide ((q.length : Int) - (at_ : Int) < (n : Int)) = false := by simp; omega
      have x5 : (at_ : Int) + (n : Int) ≤ 140737488355328 := by omega
      have x6 : IntKind.i64.wrap ((at_ : Int) + (n : Int) - (n : Int)) = (at_ : Int) := by rw [show (at_ : Int) + (n : Int) - (n : Int) = (at_ : Int) by omega]; exact IntWalk.i64_in _ (by omega)
      have x7 : (0 : Int) ≤ (at_ : Int) := by omega
      have x8 : IntKind.i64.wrap (at_ : Int) = (at_ : Int) := IntWalk.i64_in _ (by omega)
      replace x5 := Lib.hid x5
      have y5 : IntKind.i64.wrap ((at_ : Int) + (n : Int)) = (at_ : Int) + (n : Int) := IntWalk.i64_in _ (by omega)
      have X : ∀ w', (Instr.sliceAt 31 (.slice A q.length c) (some (.int .i64 (at_ : Int))) (some (.int .i64 ((at_ : Int) + (n : Int)))) none).run Tryd.prog w' = .ok (.slice (cutA A at_ c) n (c - at_)) w' := fun w' => by
        rw [run_mid (l := at_) (h := at_ + n) Tryd.underlying31 (fun _ => rfl) (by omega) (by omega) _ _ rfl (by omega) w']
        congr 2
        omega
      have hpl : Hid (((q.drop at_).take n).length = n) := by show _ = _; rw [List.length_take, List.length_drop]; omega
      have hcn : Hid (cutA A at_ c = none → n = 0 ∧ c - at_ = 0) := fun e => by have := hnil (cutA_none e); omega
      have hc1 : Hid (0 + n ≤ maxLen) := by show _ ≤ _; unfold maxLen; omega
      have hc2 : Hid ((0 + n) * 1 ≤ 140737488355328) := by show _ ≤ _; omega
      have hk := fun (w' : World) (hb : Blk w' g 186 #[.slice A q.length c, .int .i64 (at_ : Int), .int .i64 0]) (hr : Reads w' 1 A q.length (cells8 q)) => Rd.adv hb hr hnil hA hc h8
      have hm := fun (w' : World) (hr : Reads w' 1 A q.length (cells8 q)) => Reads.mid (Rd.reads_set hr hA 1 (.int .i64 ((at_ : Int) + (n : Int)))) h8 hc
      replace hk := Lib.hid hk
      replace hm := Lib.hid hm
      replace hb := Lib.hid hb
      replace hr := Lib.hid hr
      clear hyes hno
      go_enter Tryd.func76, Tryd.ntmps76
      go_wp2_with fail
      go_quiet (fail)
      have hK0 : Hid (Kept (· = g) w (w.drewN nq)) := (Kept.refl _ w).drewN nq
      have hb' : Hid (Blk (w.drewN nq) g 186 #[.slice A q.length c, .int .i64 (at_ : Int), .int .i64 0]) := hb.out
      have hr' : Hid (Reads (w.drewN nq) 1 A q.length (cells8 q)) := hr.out
      generalize w.drewN nq = w2 at *
      clear g0 g1 g2 gf
      have g1 : w2.cell? ⟨g, 1, none⟩ = some (.int .i64 (at_ : Int)) := by rw [Blk.cell hb'.out 1]; rfl
      have gf := Blk.frozen hb'.out 1
      have hF := Lib.hid (hk.out w2 hb'.out hr'.out)
      have hR : Hid (Reads (w2.setCell ⟨g, 1, none⟩ (.int .i64 ((at_ : Int) + (n : Int)))) 1 (cutA A at_ c) n (cells8 ((q.drop at_).take n))) := hm.out w2 hr'.out
      have hB2 : Hid (Blk (w2.setCell ⟨g, 1, none⟩ (.int .i64 ((at_ : Int) + (n : Int)))) g 186 #[.slice A q.length c, .int .i64 ((at_ : Int) + (n : Int)), .int .i64 0]) := by show Blk _ _ _ _; have := Blk.set_ hb'.out 1 (.int .i64 ((at_ : Int) + (n : Int))); simpa using this
      go_wp2_with fail
      clear g1 gf
      generalize w2.setCell ⟨g, 1, none⟩ (.int .i64 ((at_ : Int) + (n : Int))) = w3 at *
      have k0 : w3.cell? ⟨g, 0, none⟩ = some (.slice A q.length c) := by rw [Blk.cell hB2.out 0]; rfl
      have k1 : w3.cell? ⟨g, 1, none⟩ = some (.int .i64 ((at_ : Int) + (n : Int))) := by rw [Blk.cell hB2.out 1]; rfl
      refine wp_region_quiet_tail 15 (by kernel_rfl) (by kernel_rfl) ?_
      repeat (quiet_step (fail))
      refine wpQuiet_nil ?_
      intro _ hw'
      obtain ⟨nr, hw''⟩ := hw'
      subst hw''
      simp only [List.drop]
      have hs3 : Hid (w.heap.size ≤ (w3.drewN nr).heap.size) := Nat.le_trans hK0.out.size hF.out.2.size
      go_wp2_with (at_builtin; refine wpList_append_src (w3.drewN nr) rfl (.const (.slice none 0 0)) (.tmp 50) 31 rfl w.heap.size 5 i0 (.int .u8 0) 1 1 Tryd.underlying31 hi hz0 hz1 hz2 rfl (by decide) (.slice none 0 0) 0 [] rfl (World.ownsRow_nil _ _ _ _) (cutA A at_ c) n (c - at_) (cells8 ((q.drop at_).take n)) rfl (hR.out.drewN nr) hcn.out (cells8_one _) hc1.out hc2.out hs3.out ?_; intro v1 W hG; have hO := hG.own; rw [Nat.zero_add, List.nil_append] at hO; obtain ⟨A1, c1, rfl, hn1, _, hnil1, hr1, hat1⟩ := Own.reads hO; have hbW : Hid (Below w3.heap.size w3 W) := (below_drawn (Below.refl _ w3) nr).grown hG.grow (Nat.le_refl _) (fun k e => by cases e); clear hG hO; replace hr1 := Lib.hid hr1; replace hnil1 := Lib.hid hnil1; replace hn1 := Lib.hid hn1; replace hat1 := Lib.hid hat1)
      go_ret
      refine ⟨A1, c1, (q.drop at_).take n, by rw [hpl.out]; rfl, fun _ => rfl, fun h => absurd h (by omega), ⟨by rw [hpl.out]; exact hr1.out, by rw [hpl.out]; exact hnil1.out, by rw [hpl.out]; exact hn1.out, fun a e => (hat1.out a e).1⟩, hF.out.1.below hbW.out, ?_⟩
      exact (hK0.out.trans hF.out.2 (fun _ _ h => h)).trans (Kept.of_below (S := (· = g)) hbW.out) (fun _ _ h => h)
    · have x3 : decide ((q.length : Int) - (at_ : Int) < (n : Int)) = true := by simp; omega
      have hk := fun (w' : World) (hb : Blk w' g 186 #[.slice A q.length c, .int .i64 (at_ : Int), .int .i64 0]) (hr : Reads w' 1 A q.length (cells8 q)) => Rd.fail hb hr hnil hA hc hat (show q.length < at_ + n by omega)
      replace hk := Lib.hid hk
      replace hb := Lib.hid hb
      replace hr := Lib.hid hr
      clear hyes hno
      go_enter Tryd.func76, Tryd.ntmps76
      go_wp2_with fail
      go_quiet (fail)
      have hK0 : Hid (Kept (· = g) w (w.drewN nq)) := (Kept.refl _ w).drewN nq
      have hb' : Hid (Blk (w.drewN nq) g 186 #[.slice A q.length c, .int .i64 (at_ : Int), .int .i64 0]) := hb.out
      have hr' : Hid (Reads (w.drewN nq) 1 A q.length (cells8 q)) := hr.out
      generalize w.drewN nq = w2 at *
      have R := Lib.hid (refuse_first g _ _ w2 hb'.out)
      have hF := Lib.hid (hk.out w2 hb'.out hr'.out)
      clear g0 g1 g2 gf
      go_wp2_with (go_at_call 115; refine Calls.mono R.out ?_; rintro e w' ⟨rfl, rfl⟩)
      go_ret
      exact ⟨none, 0, [], rfl, fun h => absurd h (by omega), fun _ => rfl, ⟨Reads.nil_ _ _ _, fun _ => ⟨rfl, rfl⟩, Nat.le_refl _, fun _ e => by cases e⟩, hF.out.1, hK0.out.trans hF.out.2 (fun _ _ h => h)⟩
  · obtain rfl := hno (by omega)
    have hF := Lib.hid (Rd.stay hb hr hnil hA hc hat (show q.length < need + n by omega))
    clear hb hyes hno
    go_enter Tryd.func76, Tryd.ntmps76
    go_wp2_with fail
    go_ret
    exact ⟨none, 0, [], rfl, fun h => absurd h (by omega), fun _ => rfl, ⟨Reads.nil_ _ _ _, fun _ => ⟨rfl, rfl⟩, Nat.le_refl _, fun _ e => by cases e⟩, hF.out, Kept.refl _ w⟩

theorem _root_.Go.Proofs.YtgldkfaiofkhbaaDoor.Reader.Rd.old {w : World} {g need c : Nat} {q : Text} {A : Option Addr} (h : Rd w g q A c need) : 0 < q.length → ∀ a, A = some a → a.block < w.heap.size := by
  obtain ⟨_, _, _, hr, _⟩ := h
  intro hp a e
  obtain ⟨b, o, e', hlt, _⟩ := hr.2 (by omega)
  rw [e] at e'
  injection e' with e'
  subst e'
  exact hlt
theorem dig_size (x : Text) (hx : x.length = 32) : (Tryd.prog.info? 23).map (·.size) = some (cells8 x).toArray.size := size31.trans (congrArg some (by simp [cells8_len, hx]))
theorem dig_one (x : Text) : (cells8 x).toArray.all (fun v => v.oneCell') = true := by rw [List.all_toArray]; exact List.all_eq_true.2 (cells8_one x)
end Go.Proofs.YtgldkfaiofkhbaaDoor.Reader3

namespace Go.Proofs.YtgldkfaiofkhbaaDoor.ProofIdx2
open Go Go.RowKit Go.Proofs.YtgldkfaiofkhbaaDoor Go.Proofs.YtgldkfaiofkhbaaDoor.Mem Go.Proofs.YtgldkfaiofkhbaaDoor.Sha Go.Proofs.YtgldkfaiofkhbaaDoor.Bytes Go.Proofs.YtgldkfaiofkhbaaDoor.Append Go.Proofs.YtgldkfaiofkhbaaDoor.Octet Go.Proofs.YtgldkfaiofkhbaaDoor.Octet2 Go.Proofs.YtgldkfaiofkhbaaDoor.HeadMem Go.Proofs.YtgldkfaiofkhbaaDoor.ProofBeside Go.Proofs.YtgldkfaiofkhbaaDoor.ProofEnc Go.Proofs.YtgldkfaiofkhbaaDoor.ProofIdx

/-- A string's bytes. -/
def nm (s : ByteArray) : Text := s.data.toList.map fun b => b.toBitVec
theorem nm_len (t : ByteArray) : (nm t).length = t.size := by simp [nm]
theorem bytesRow_reads {W : World} {g C : Nat} {T : TypeId} {fz : Nat × Nat} {t : ByteArray} (h : W.heap[g]? = some (.cells (bytesRow t C) T fz)) : Reads W 1 (some ⟨g, 0, none⟩) (nm t).length (cells8 (nm t)) := by
  refine ⟨by rw [cells8_len, Nat.mul_one], fun _ => ⟨g, 0, rfl, (Array.getElem?_eq_some_iff.1 h).1, fun j u hu => ?_⟩⟩
  have hj : j < t.size := by
    have := (List.getElem?_eq_some_iff.1 hu).1
    rwa [cells8_len, nm_len] at this
  rw [Nat.zero_add, cell_of_row _ _ _ _ _ _ h, ← hu]
  unfold bytesRow cells8 nm
  have hd : j < t.data.size := hj
  rw [Array.getElem?_append_left (by simpa using hd)]
  simp
  have hb : (fun b : UInt8 => Value.int .u8 (b.toNat : Int)) = (cell8 ∘ fun b : UInt8 => b.toBitVec) := rfl
  rw [hb]

section
variable {w0 w : World} {g : Nat} {r : Option Nat} {l : Text}
/-- A string's bytes laid down: the string's copy and the row of one slice were made just now. -/
theorem raw_str (s : ByteArray) (C : Nat) (fr : Nat × Nat) {w1 W : World} (T1 T2 : TypeId) (hW : ((w1.alloc (.cells (bytesRow s C) T1 fr)).alloc (.cells #[.slice (some ⟨w1.heap.size, 0, none⟩) s.size C] T2)).drew = W) (hl : l.length + s.size ≤ 140737488355328) (hWr : Wrote w0 g r l w1) :
    Calls Tryd.prog 119 #[.pointer (some ⟨g, 0, none⟩), .slice (some ⟨w1.heap.size + 1, 0, none⟩) 1 1] W fun e w' => e = .returned (.tuple #[]) ∧ Wrote w0 g r (l ++ nm s) w' := by
  subst hW
  have hW2 : Wrote w0 g r l (((w1.alloc (.cells (bytesRow s C) T1 fr)).alloc (.cells #[.slice (some ⟨w1.heap.size, 0, none⟩) s.size C] T2)).drew) := ((hWr.alloc _).alloc _).drew
  obtain ⟨r0, h0, k0, c0⟩ := hWr
  have hg := h0.lt
  have hr0 : ∀ k, r0 = some k → k < w1.heap.size := by
    obtain ⟨v, _, _, _, h⟩ := h0
    exact fun k e => (h k e).2
  have hsz : (w1.alloc (.cells (bytesRow s C) T1 fr)).heap.size = w1.heap.size + 1 := by simp
  have b1 : (((w1.alloc (.cells (bytesRow s C) T1 fr)).alloc (.cells #[.slice (some ⟨w1.heap.size, 0, none⟩) s.size C] T2)).drew).heap[w1.heap.size]? = some (.cells (bytesRow s C) T1 fr) := by
    show ((w1.alloc (.cells (bytesRow s C) T1 fr)).alloc _).heap[w1.heap.size]? = _
    rw [Below.heap_alloc _ _ _ (by rw [hsz]; omega)]
    exact heap_alloc_new w1 _
  have b2 : Blk (((w1.alloc (.cells (bytesRow s C) T1 fr)).alloc (.cells #[.slice (some ⟨w1.heap.size, 0, none⟩) s.size C] T2)).drew) (w1.heap.size + 1) T2 #[.slice (some ⟨w1.heap.size, 0, none⟩) s.size C] := by
    have := Blk.new (w1.alloc (.cells (bytesRow s C) T1 fr)) T2 #[.slice (some ⟨w1.heap.size, 0, none⟩) s.size C]
    rw [hsz] at this
    exact this.drew
  have h3 : WrAt (((w1.alloc (.cells (bytesRow s C) T1 fr)).alloc (.cells #[.slice (some ⟨w1.heap.size, 0, none⟩) s.size C] T2)).drew) g r0 l := ((h0.alloc _).alloc _).drew
  have k3 : Kept (fun k => k = g ∨ some k = r) w0 (((w1.alloc (.cells (bytesRow s C) T1 fr)).alloc (.cells #[.slice (some ⟨w1.heap.size, 0, none⟩) s.size C] T2)).drew) := ((k0.alloc _).alloc _).drew
  generalize (((w1.alloc (.cells (bytesRow s C) T1 fr)).alloc (.cells #[.slice (some ⟨w1.heap.size, 0, none⟩) s.size C] T2)).drew) = W at *
  refine (raw_any g r0 l [nm s] 1 rfl (some ⟨w1.heap.size + 1, 0, none⟩) 1 W (by simp [nm_len]; omega) (by omega) h3 (fun _ => ⟨w1.heap.size + 1, 0, rfl, b2.lt, by omega, (fun e => by have := hr0 _ e.symm; omega), fun i q hq => ?_⟩)).mono fun e w' ⟨he, hx⟩ => ⟨he, ?_⟩
  · match i, hq with
    | 0, hq =>
      obtain rfl := Option.some.inj hq
      refine ⟨some ⟨w1.heap.size, 0, none⟩, C, (b2.cell 0).trans (by rw [nm_len]; rfl), bytesRow_reads b1, (fun h => by cases h), fun _ a e => ?_⟩
      obtain rfl := Option.some.inj e
      exact ⟨fun e => by simp at e; omega, fun e => by have := hr0 _ e.symm; simp at this⟩
    | i + 1, hq => simp at hq
  · have := Wrote.trans1 k3 c0 hx
    simpa using this

set_option maxRecDepth 100000 in
set_option maxHeartbeats 1000000 in
theorem name_from (s : ByteArray) (hs : s.size ≤ 64) (hl : l.length + 1 + s.size ≤ 140737488355328) (hW : Wrote w0 g r l w) :
    Calls Tryd.prog 73 #[.pointer (some ⟨g, 0, none⟩), .string s] w fun e w' => e = .returned (.tuple #[]) ∧ Wrote w0 g r (l ++ [kb s.size] ++ nm s) w' := by
  have hs' : (s.size : Int) ≤ 64 := by omega
  have e256 : (s.size : Int) % 256 = (s.size : Int) := by omega
  have hk : Hid (b8 (kb s.size) = (s.size : Int)) := by
    show _ = _
    unfold b8 kb
    rw [BitVec.toNat_ofInt]
    omega
  have hcv : ∀ w', (convert 9 31 (.string s)).run Tryd.prog w' = .ok (.slice (some ⟨w'.heap.size, 0, none⟩) s.size (grownCap w' s.size 0 5)) (w'.drew.alloc (.cells (bytesRow s (grownCap w' s.size 0 5)) 5 ((bytesRow s (grownCap w' s.size 0 5)).size, (bytesRow s (grownCap w' s.size 0 5)).size + 1))) := fun w' => run_bytes_of_string w' _ _ _ s Tryd.underlying9 Tryd.underlying31 Tryd.underlying5
  replace hW := Lib.hid hW
  replace hl := Lib.hid hl
  replace hs := Lib.hid hs
  go_enter Tryd.func73, Tryd.ntmps73
  go_wp2_with (first
    | (go_at_call 58; refine (put1_from (s.size : Int) (kb s.size) hk.out (by have := hl.out; omega) hW.out).mono ?_; rintro e w1 ⟨rfl, hW1⟩; replace hW1 := Lib.hid hW1; clear hW)
    | (go_at_call 119; generalize hCg : grownCap _ s.size 0 5 = C; generalize hX : World.drew _ = X; refine (raw_str s C _ _ _ hX (by have := hl.out; simp; omega) hW1.out).mono ?_; rintro e w2 ⟨rfl, hW2⟩; replace hW2 := Lib.hid hW2; clear hX hCg))
  go_end0
  exact ⟨rfl, hW2.out⟩

end
end Go.Proofs.YtgldkfaiofkhbaaDoor.ProofIdx2

namespace Go.Proofs.YtgldkfaiofkhbaaDoor.ProofIdx2
open Go Go.RowKit Go.Proofs.YtgldkfaiofkhbaaDoor Go.Proofs.YtgldkfaiofkhbaaDoor.Mem Go.Proofs.YtgldkfaiofkhbaaDoor.Sha Go.Proofs.YtgldkfaiofkhbaaDoor.Bytes Go.Proofs.YtgldkfaiofkhbaaDoor.Append Go.Proofs.YtgldkfaiofkhbaaDoor.Octet Go.Proofs.YtgldkfaiofkhbaaDoor.Octet2 Go.Proofs.YtgldkfaiofkhbaaDoor.HeadMem Go.Proofs.YtgldkfaiofkhbaaDoor.ProofBeside Go.Proofs.YtgldkfaiofkhbaaDoor.ProofEnc Go.Proofs.YtgldkfaiofkhbaaDoor.ProofIdx
section
variable {w0 w : World} {g : Nat} {r : Option Nat} {l : Text}
end
end Go.Proofs.YtgldkfaiofkhbaaDoor.ProofIdx2

namespace Go.Proofs.YtgldkfaiofkhbaaDoor.ProofIdx3
open Go Go.RowKit Go.Proofs.YtgldkfaiofkhbaaDoor Go.Proofs.YtgldkfaiofkhbaaDoor.Mem Go.Proofs.YtgldkfaiofkhbaaDoor.Sha Go.Proofs.YtgldkfaiofkhbaaDoor.Bytes Go.Proofs.YtgldkfaiofkhbaaDoor.Append Go.Proofs.YtgldkfaiofkhbaaDoor.Octet Go.Proofs.YtgldkfaiofkhbaaDoor.Octet2 Go.Proofs.YtgldkfaiofkhbaaDoor.HeadMem Go.Proofs.YtgldkfaiofkhbaaDoor.ProofBeside Go.Proofs.YtgldkfaiofkhbaaDoor.ProofEnc Go.Proofs.YtgldkfaiofkhbaaDoor.ProofIdx Go.Proofs.YtgldkfaiofkhbaaDoor.ProofIdx2 Go.Proofs.YtgldkfaiofkhbaaDoor.QuietTail Go.Proofs.YtgldkfaiofkhbaaDoor.Grown

section
variable {s : ByteArray} {f : Bool} {ent : List Value} {d : Text} {A : Option Addr} {n c : Nat}
end

end Go.Proofs.YtgldkfaiofkhbaaDoor.ProofIdx3

namespace Go.Proofs.YtgldkfaiofkhbaaDoor.ProofIdx4
open Go Go.RowKit Go.Proofs.YtgldkfaiofkhbaaDoor Go.Proofs.YtgldkfaiofkhbaaDoor.Mem Go.Proofs.YtgldkfaiofkhbaaDoor.Sha Go.Proofs.YtgldkfaiofkhbaaDoor.Bytes Go.Proofs.YtgldkfaiofkhbaaDoor.Append Go.Proofs.YtgldkfaiofkhbaaDoor.Octet Go.Proofs.YtgldkfaiofkhbaaDoor.Octet2 Go.Proofs.YtgldkfaiofkhbaaDoor.HeadMem Go.Proofs.YtgldkfaiofkhbaaDoor.ProofBeside Go.Proofs.YtgldkfaiofkhbaaDoor.ProofEnc Go.Proofs.YtgldkfaiofkhbaaDoor.ProofIdx Go.Proofs.YtgldkfaiofkhbaaDoor.ProofIdx2 Go.Proofs.YtgldkfaiofkhbaaDoor.ProofIdx3

end Go.Proofs.YtgldkfaiofkhbaaDoor.ProofIdx4

namespace Go.Proofs.YtgldkfaiofkhbaaDoor.IdxAny
open Go Go.RowKit Go.Proofs.YtgldkfaiofkhbaaDoor Go.Proofs.YtgldkfaiofkhbaaDoor.Mem Go.Proofs.YtgldkfaiofkhbaaDoor.Sha Go.Proofs.YtgldkfaiofkhbaaDoor.Bytes Go.Proofs.YtgldkfaiofkhbaaDoor.Append Go.Proofs.YtgldkfaiofkhbaaDoor.Octet Go.Proofs.YtgldkfaiofkhbaaDoor.Octet2 Go.Proofs.YtgldkfaiofkhbaaDoor.HeadMem Go.Proofs.YtgldkfaiofkhbaaDoor.ProofBeside Go.Proofs.YtgldkfaiofkhbaaDoor.ProofEnc Go.Proofs.YtgldkfaiofkhbaaDoor.ProofIdx Go.Proofs.YtgldkfaiofkhbaaDoor.ProofIdx2 Go.Proofs.YtgldkfaiofkhbaaDoor.ProofIdx3 Go.Proofs.YtgldkfaiofkhbaaDoor.StructEq Go.Proofs.YtgldkfaiofkhbaaDoor.QuietTail Go.Proofs.YtgldkfaiofkhbaaDoor.Grown

def z32 : Text := List.replicate 32 0
/-- May it be, by its entry? -/
def okEnt (f : Bool) (cnt : Int) (ch : Text) : Bool := if f then decide (1 ≤ cnt ∧ cnt ≤ 1099511627776) else decide (cnt = 0 ∧ ch = z32)
/-- May it be, by its form? -/
def okIx (s : ByteArray) (f : Bool) (cnt : Int) (ch d : Text) (n : Nat) : Bool := okEnt f cnt ch && (namedB s.data.toList && ((onesOf d : Int) == (n : Int)))
end Go.Proofs.YtgldkfaiofkhbaaDoor.IdxAny

namespace Go.Proofs.YtgldkfaiofkhbaaDoor.IdxEnc
open Go Go.RowKit Go.Proofs.YtgldkfaiofkhbaaDoor Go.Proofs.YtgldkfaiofkhbaaDoor.Mem Go.Proofs.YtgldkfaiofkhbaaDoor.Sha Go.Proofs.YtgldkfaiofkhbaaDoor.Bytes Go.Proofs.YtgldkfaiofkhbaaDoor.Append Go.Proofs.YtgldkfaiofkhbaaDoor.Octet Go.Proofs.YtgldkfaiofkhbaaDoor.Octet2 Go.Proofs.YtgldkfaiofkhbaaDoor.HeadMem Go.Proofs.YtgldkfaiofkhbaaDoor.ProofBeside Go.Proofs.YtgldkfaiofkhbaaDoor.ProofEnc Go.Proofs.YtgldkfaiofkhbaaDoor.ProofIdx Go.Proofs.YtgldkfaiofkhbaaDoor.ProofIdx2 Go.Proofs.YtgldkfaiofkhbaaDoor.ProofIdx3 Go.Proofs.YtgldkfaiofkhbaaDoor.ProofIdx4 Go.Proofs.YtgldkfaiofkhbaaDoor.StructEq Go.Proofs.YtgldkfaiofkhbaaDoor.IdxAny Go.Proofs.YtgldkfaiofkhbaaDoor.TreeMem Go.Proofs.YtgldkfaiofkhbaaDoor.NumberNew

end Go.Proofs.YtgldkfaiofkhbaaDoor.IdxEnc

namespace Go.Proofs.YtgldkfaiofkhbaaDoor.Flag
open Go Go.RowKit Go.Proofs.YtgldkfaiofkhbaaDoor Go.Proofs.YtgldkfaiofkhbaaDoor.Mem Go.Proofs.YtgldkfaiofkhbaaDoor.Sha Go.Proofs.YtgldkfaiofkhbaaDoor.Bytes Go.Proofs.YtgldkfaiofkhbaaDoor.Append Go.Proofs.YtgldkfaiofkhbaaDoor.Octet Go.Proofs.YtgldkfaiofkhbaaDoor.QuietTail Go.Proofs.YtgldkfaiofkhbaaDoor.Grown Go.Proofs.YtgldkfaiofkhbaaDoor.Reader Go.Proofs.YtgldkfaiofkhbaaDoor.Reader2

end Go.Proofs.YtgldkfaiofkhbaaDoor.Flag

namespace Go.Proofs.YtgldkfaiofkhbaaDoor.Reader7
open Go Go.RowKit Go.Proofs.YtgldkfaiofkhbaaDoor Go.Proofs.YtgldkfaiofkhbaaDoor.Mem Go.Proofs.YtgldkfaiofkhbaaDoor.Sha Go.Proofs.YtgldkfaiofkhbaaDoor.Bytes Go.Proofs.YtgldkfaiofkhbaaDoor.Append Go.Proofs.YtgldkfaiofkhbaaDoor.Octet Go.Proofs.YtgldkfaiofkhbaaDoor.QuietTail Go.Proofs.YtgldkfaiofkhbaaDoor.Grown Go.Proofs.YtgldkfaiofkhbaaDoor.Reader Go.Proofs.YtgldkfaiofkhbaaDoor.Reader2 Go.Proofs.YtgldkfaiofkhbaaDoor.Octet4

theorem u32_in (x : Int) (h0 : 0 ≤ x) (h1 : x < 4294967296) : IntKind.u32.wrap x = x := by
  simp [IntKind.wrap, IntKind.bits, IntKind.signed]
  omega
end Go.Proofs.YtgldkfaiofkhbaaDoor.Reader7

namespace Go.Proofs.YtgldkfaiofkhbaaDoor.OctetBytes
open Go Go.RowKit Go.Proofs.YtgldkfaiofkhbaaDoor Go.Proofs.YtgldkfaiofkhbaaDoor.Mem Go.Proofs.YtgldkfaiofkhbaaDoor.Sha Go.Proofs.YtgldkfaiofkhbaaDoor.Bytes Go.Proofs.YtgldkfaiofkhbaaDoor.Append Go.Proofs.YtgldkfaiofkhbaaDoor.Octet Go.Proofs.YtgldkfaiofkhbaaDoor.Octet2 Go.Proofs.YtgldkfaiofkhbaaDoor.Octet4 Go.Proofs.YtgldkfaiofkhbaaDoor.Reader Go.Proofs.YtgldkfaiofkhbaaDoor.Reader2 Go.Proofs.YtgldkfaiofkhbaaDoor.Reader3 Go.Proofs.YtgldkfaiofkhbaaDoor.Reader7

set_option maxRecDepth 100000 in
theorem bound_any (w : World) : Calls Tryd.prog 128 #[.int .i64 65536, .int .i64 2147483647] w fun e w' => e = .returned (.int .i64 65536) ∧ w = w' := by
  go_enter Tryd.func128, Tryd.ntmps128
  go_wp2_with fail
  go_ret
  exact ⟨rfl, rfl⟩
set_option maxRecDepth 100000 in
set_option maxHeartbeats 1000000 in
theorem wbytes_any (g : Nat) (r : Option Nat) (l q : Text) (m : Nat) (hqm : q.length = m) (hm : m ≤ 65536) (A : Option Addr) (c : Nat) (w : World) (hl : l.length + 4 + m ≤ 140737488355328) (hw : WrAt w g r l) (hrd : Reads w 1 A m (cells8 q)) (hnil : A = none → m = 0 ∧ c = 0) (hA : 0 < m → ∀ a, A = some a → a.block ≠ g ∧ some a.block ≠ r) :
    Calls Tryd.prog 86 #[.pointer (some ⟨g, 0, none⟩), .slice A m c, .int .i64 65536] w fun e w' => e = .returned (.int .i64 0) ∧ Wrote w g r (l ++ be4 m ++ q) w' := by
  obtain ⟨i0, hi, hz0, hz1, hz2⟩ := info_parts8 info8
  have hB := Lib.hid (fun w' => bound_any w')
  have hP := Lib.hid (put4 g r l m (by show _ < _; omega) w (by omega) hw)
  have hRk : Hid (∀ w2, Kept (fun k => k = g ∨ some k = r) w w2 → Reads w2 1 A m (cells8 q)) := fun w2 hk => hrd.kept0 hk (fun h0 b o e h => by
    have := hA (by omega) _ e
    rcases h with h | h
    · exact this.1 h
    · exact this.2 h)
  have z1 : ¬ (65536 : Int) < (m : Int) := by omega
  have z2 : IntKind.u32.wrap (m : Int) = (m : Int) := u32_in _ (by omega) (by omega)
  have hc1 : Hid ((l ++ be4 m).length + m ≤ maxLen) := by show _ ≤ _; rw [List.length_append, be4_len]; unfold maxLen; omega
  have hc2 : Hid (((l ++ be4 m).length + m) * 1 ≤ 140737488355328) := by show _ ≤ _; rw [List.length_append, be4_len]; omega
  replace hqm := Lib.hid hqm
  replace hnil := Lib.hid hnil
  clear hm hl hw hrd hA
  generalize l ++ be4 m = L at *
  go_enter Tryd.func86, Tryd.ntmps86
  go_wp2_with (first
    | (go_at_call 128; refine (hB.out _).mono ?_; rintro e w' ⟨rfl, rfl⟩)
    | (go_at_call 85; refine hP.out.mono ?_; rintro e w2 ⟨rfl, hW⟩; obtain ⟨r1, h1, k1, c1⟩ := id hW; obtain ⟨v, hb, ho, hvr, hr1⟩ := h1; have hgc : w2.cell? ⟨g, 0, none⟩ = some v := (by rw [hb.cell 0]; rfl); have hrd2 := Lib.hid (hRk.out w2 k1); have hne : Hid (some g ≠ v.ownBlock) := (fun e => by have := (hr1 g (by rw [← hvr]; exact e.symm)).1; omega); have hV : Hid (∀ u, Blk w2 g 171 #[u] → u = v) := (fun u hu => by have h1 : some (Obj.cells #[u] 171 (0, 0)) = some (Obj.cells #[v] 171 (0, 0)) := (show w2.heap[g]? = _ from hu).symm.trans hb; simpa using h1); replace hb := Lib.hid hb; replace ho := Lib.hid ho; replace hW := Lib.hid hW; clear hr1 hvr k1 c1 hP)
    | (at_builtin; refine wpList_append_src w2 rfl (.tmp 21) (.tmp 22) 31 rfl 0 5 i0 (.int .u8 0) 1 1 Tryd.underlying31 hi hz0 hz1 hz2 rfl (by decide) v L.length (cells8 L) rfl ho.out A m c (cells8 q) rfl hrd2.out hnil.out (cells8_one q) hc1.out hc2.out (Nat.zero_le _) ?_; intro v1 W hG; obtain ⟨Av, cv, rfl, -⟩ := Own.reads hG.own; have hX := Lib.hid (hW.out.step (fun r1 h1 => Wrote.append (q := q) h1 hV.out (by rw [hqm.out]; exact hG))); obtain ⟨hf1, hf2⟩ := far_cell hb.out hne.out (Kept.refl _ w2) hG.grow; clear hG))
  go_ret
  exact ⟨rfl, hX.out⟩
/-- A reader that has refused. -/
def Bad (w : World) (g : Nat) : Prop := ∃ (s : Value) (a why : Int), Blk w g 186 #[s, .int .i64 a, .int .i64 why] ∧ why ≠ 0
theorem Bad.blk {w w' : World} {g : Nat} (h : Bad w g) (hk : w'.heap[g]? = w.heap[g]?) : Bad w' g := by
  obtain ⟨s, a, y, hb, h0⟩ := h
  exact ⟨s, a, y, hk.trans hb, h0⟩
theorem Out.since {S : Nat → Prop} {w w1 w2 : World} {A : Option Addr} {c : Nat} {p : Text} (h : Out w1 w2 A c p) (hk : Kept S w w1) : Out w w2 A c p := ⟨h.1, h.2.1, h.2.2.1, fun a e => Nat.le_trans hk.size (h.2.2.2 a e)⟩
end Go.Proofs.YtgldkfaiofkhbaaDoor.OctetBytes

namespace Go.Proofs.YtgldkfaiofkhbaaDoor.IdxRef2
open Go Go.RowKit Go.Proofs.YtgldkfaiofkhbaaDoor Go.Proofs.YtgldkfaiofkhbaaDoor.Mem Go.Proofs.YtgldkfaiofkhbaaDoor.Sha Go.Proofs.YtgldkfaiofkhbaaDoor.Bytes Go.Proofs.YtgldkfaiofkhbaaDoor.Append Go.Proofs.YtgldkfaiofkhbaaDoor.Octet Go.Proofs.YtgldkfaiofkhbaaDoor.Own Go.Proofs.YtgldkfaiofkhbaaDoor.ProofIdx2

end Go.Proofs.YtgldkfaiofkhbaaDoor.IdxRef2

namespace Go.Proofs.YtgldkfaiofkhbaaDoor.IdxRef0
open Go Go.RowKit Go.Proofs.YtgldkfaiofkhbaaDoor Go.Proofs.YtgldkfaiofkhbaaDoor.Mem Go.Proofs.YtgldkfaiofkhbaaDoor.Sha Go.Proofs.YtgldkfaiofkhbaaDoor.Bytes Go.Proofs.YtgldkfaiofkhbaaDoor.Append Go.Proofs.YtgldkfaiofkhbaaDoor.Octet Go.Proofs.YtgldkfaiofkhbaaDoor.Octet2 Go.Proofs.YtgldkfaiofkhbaaDoor.HeadMem Go.Proofs.YtgldkfaiofkhbaaDoor.ProofIdx

end Go.Proofs.YtgldkfaiofkhbaaDoor.IdxRef0
