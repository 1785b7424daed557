/-
  Texts of the claim, put into one file: Octet.
-/
import Derived.Test.YtgldkfaiofkhbaaDoorZ3
import Derived.Lib.Hide
import Derived.Outline
import Derived.WalkLawsBesides
import Derived.Deep.QuietTactic
import Derived.BigQuiet
import Derived.Deep.RegionLaw
import Derived.Deep.AppendLies
import Derived.IntWalk

namespace Go.Proofs.YtgldkfaiofkhbaaDoor.Octet
open Go Go.RowKit Go.Proofs.YtgldkfaiofkhbaaDoor Go.Proofs.YtgldkfaiofkhbaaDoor.Mem Go.Proofs.YtgldkfaiofkhbaaDoor.Sha Go.Proofs.YtgldkfaiofkhbaaDoor.Bytes

/-- A writer at block g that holds l; its row (if there is one) is block r, above g. -/
def WrAt (w : World) (g : Nat) (r : Option Nat) (l : Text) : Prop :=
  ∃ v, Blk w g 171 #[v] ∧ w.ownsRow 0 5 1 v l.length (cells8 l) ∧ v.ownBlock = r ∧ ∀ k, r = some k → g < k ∧ k < w.heap.size

/-- From w on the writer got l: its block and its row may have turned, nothing else. -/
def Wrote (w : World) (g : Nat) (r : Option Nat) (l : Text) (w' : World) : Prop :=
  ∃ r', WrAt w' g r' l ∧ Kept (fun k => k = g ∨ some k = r) w w' ∧ (r' = r ∨ ∃ k, r' = some k ∧ w.heap.size ≤ k)

section
variable {w w' w1 w2 : World} {g : Nat} {r r1 : Option Nat} {l l1 l2 : Text}
theorem WrAt.lt (h : WrAt w g r l) : g < w.heap.size := by obtain ⟨v, hb, _⟩ := h; exact hb.lt
theorem WrAt.refl (h : WrAt w g r l) : Wrote w g r l w := ⟨r, h, Kept.refl _ _, .inl rfl⟩
theorem Wrote.step (h : Wrote w g r l w1) (hn : ∀ r1, WrAt w1 g r1 l → Wrote w1 g r1 l2 w2) : Wrote w g r l2 w2 := by
  obtain ⟨r1, h1, k1, c1⟩ := h
  obtain ⟨r2, h2, k2, c2⟩ := hn r1 h1
  refine ⟨r2, h2, k1.trans k2 (fun i hi hT => ?_), ?_⟩
  · rcases hT with hT | hT
    · exact .inl hT
    · rcases c1 with rfl | ⟨k, rfl, hk⟩
      · exact .inr hT
      · injection hT with hT
        omega
  · rcases c2 with rfl | ⟨k, rfl, hk⟩
    · exact c1
    · exact .inr ⟨k, rfl, Nat.le_trans k1.size hk⟩
theorem Wrote.below (h : Wrote w g r l w1) (hr : ∀ k, r = some k → g < k) {B : Nat} (hB : B ≤ g) (hBw : B ≤ w.heap.size) : Below B w w1 := by
  obtain ⟨r1, h1, k1, c1⟩ := h
  exact ⟨k1.os, k1.tape, k1.output, k1.size, fun k hk => k1.block k (by omega) (by
    rintro (rfl | h)
    · omega
    · have := hr k h.symm; omega)⟩
theorem WrAt.kept {S : Nat → Prop} (h : WrAt w g r l) (hk : Kept S w w') (hg : ¬ S g) (hr : ∀ k, r = some k → ¬ S k) : WrAt w' g r l := by
  obtain ⟨v, hb, ho, hv, hr1⟩ := h
  refine ⟨v, hb.kept hk hg, ⟨ho.1, ?_⟩, hv, fun k e => ⟨(hr1 k e).1, Nat.lt_of_lt_of_le (hr1 k e).2 hk.size⟩⟩
  rcases ho.2 with h | ⟨g', cap, cur, rfl, h1, h2, h3⟩
  · exact .inl h
  · refine .inr ⟨g', cap, cur, rfl, h1, ?_, h3⟩
    have e : r = some g' := by rw [← hv]; rfl
    rw [hk.block g' (hr1 g' e).2 (hr g' e), h2]
theorem WrAt.alloc (h : WrAt w g r l) (o : Obj) : WrAt (w.alloc o) g r l := h.kept (S := fun _ => False) ((Kept.refl _ w).alloc o) (fun x => x) (fun _ _ x => x)
theorem WrAt.drew (h : WrAt w g r l) : WrAt w.drew g r l := h.kept (S := fun _ => False) ((Kept.refl _ w).drew) (fun x => x) (fun _ _ x => x)
theorem WrAt.drewN (h : WrAt w g r l) (n : Nat) : WrAt (w.drewN n) g r l := h.kept (S := fun _ => False) ((Kept.refl _ w).drewN n) (fun x => x) (fun _ _ x => x)
/-- What an append onto the writer's row and the store of its field leave. -/
theorem Wrote.put {W : World} {v : Value} {n m G cap : Nat} {q : Text} (hw : WrAt w g r l) (hv : ∀ u, Blk w g 171 #[u] → u = v) (hn : n = l.length) (hm : m = q.length) {W0 : World} (hW0 : Kept (fun _ => False) w W0)
    (hown : W.ownsRow 0 5 1 (.slice (some ⟨G, 0, none⟩) (n + m) cap) (n + m) (cells8 l ++ cells8 q)) (hgrow : W0.grownBy W v.ownBlock) (hat : v.ownBlock = some G ∨ G = W0.heap.size) (hlt : G < W.heap.size) :
    Wrote w g r (l ++ q) (W.setCell ⟨g, 0, none⟩ (.slice (some ⟨G, 0, none⟩) (n + m) cap)) := by
  obtain ⟨v', hb, ho, hvr, hr1⟩ := hw
  obtain rfl := hv v' hb
  have hk0 : Kept (fun k => k = g ∨ some k = r) w W := (hW0.mono (fun _ _ h => h.elim)).grown hgrow (fun k hk => .inl (.inr (by rw [← hvr]; exact hk.symm)))
  have hgG : g ≠ G := by
    rcases hat with h | h
    · have := (hr1 G (by rw [← hvr]; exact h)).1; omega
    · have := hb.lt; have := hW0.size; omega
  have hbW : Blk W g 171 #[v'] := by
    refine (hgrow.block g (Nat.lt_of_lt_of_le hb.lt hW0.size) (fun e => ?_)).trans (hb.kept hW0 (fun x => x))
    have := (hr1 g (by rw [← hvr]; exact e.symm)).1
    omega
  refine ⟨some G, ⟨_, hbW.set_ 0 _, ?_, rfl, fun k e => ?_⟩, hk0.setCell (.inl (.inl rfl)) _, ?_⟩
  · refine ⟨by simp [cells8_len], ?_⟩
    rcases hown.2 with ⟨h, _⟩ | ⟨g', cap', cur, hv', h1, h2, h3, h4, h5, h6⟩
    · cases h
    · simp only [Value.slice.injEq, Option.some.injEq, Addr.mk.injEq, and_true, true_and] at hv'
      obtain ⟨rfl, rfl⟩ := hv'
      have hl2 : (l ++ q).length = n + m := by rw [List.length_append, hn, hm]
      refine .inr ⟨G, cap, cur, ?_, Nat.zero_le _, ?_, ?_, h4, h5, ?_⟩
      · rw [hl2]
      · exact (Below.heap_setCell W ⟨g, 0, none⟩ _ G (fun e => hgG e.symm)).trans h2
      · rw [hl2]; exact h3
      · rw [hl2, h6]; simp [cells8]
  · injection e with e
    subst e
    refine ⟨?_, by simpa [World.setCell] using hlt⟩
    rcases hat with h | h
    · exact (hr1 G (by rw [← hvr]; exact h)).1
    · have := hb.lt; have := hW0.size; omega
  · rcases hat with h | h
    · exact .inl (by rw [← hvr, h])
    · exact .inr ⟨G, rfl, by rw [h]; exact hW0.size⟩
end

section
variable {w0 w w' wi : World} {g : Nat} {r r1 : Option Nat} {l l2 : Text}
theorem Wrote.trans1 (hk : Kept (fun k => k = g ∨ some k = r) w0 w) (hc : r1 = r ∨ ∃ k, r1 = some k ∧ w0.heap.size ≤ k) (h : Wrote w g r1 l2 w') : Wrote w0 g r l2 w' := by
  obtain ⟨r2, h2, k2, c2⟩ := h
  refine ⟨r2, h2, hk.trans k2 (fun i hi hT => ?_), ?_⟩
  · rcases hT with hT | hT
    · exact .inl hT
    · rcases hc with rfl | ⟨k, rfl, hk'⟩
      · exact .inr hT
      · injection hT with hT
        omega
  · rcases c2 with rfl | ⟨k, rfl, hk'⟩
    · exact hc
    · exact .inr ⟨k, rfl, Nat.le_trans hk.size hk'⟩
theorem Wrote.alloc (h : Wrote w0 g r l w) (o : Obj) : Wrote w0 g r l (w.alloc o) := by
  obtain ⟨r1, h1, k1, c1⟩ := h
  exact ⟨r1, h1.alloc o, k1.alloc o, c1⟩
theorem Wrote.drewN (h : Wrote w0 g r l w) (n : Nat) : Wrote w0 g r l (w.drewN n) := by
  obtain ⟨r1, h1, k1, c1⟩ := h
  exact ⟨r1, h1.drewN n, k1.drewN n, c1⟩
theorem Wrote.drew (h : Wrote w0 g r l w) : Wrote w0 g r l w.drew := h.drewN 1
theorem Wrote.kept (h : Wrote w0 g r l w) : Kept (fun k => k = g ∨ some k = r) w0 w := by obtain ⟨_, _, k, _⟩ := h; exact k
theorem Wrote.blk {T : TypeId} {b : Nat} {cs : Array Value} (h : Wrote w0 g r l w) (hb : Blk w0 b T cs) (h1 : b ≠ g) (h2 : some b ≠ r) : Blk w b T cs := hb.kept h.kept (fun h => by rcases h with h | h; exact h1 h; exact h2 h)
/-- What is above the writer's block is the call's own. -/
theorem Wrote.below' (h : Wrote w0 g r l w) (hr : ∀ k, r = some k → g < k) {B : Nat} (hB : B ≤ g) (hBw : B ≤ w0.heap.size) : Below B w0 w := Wrote.below h hr hB hBw
end

/-- Texts in a slice of slices, none of them in the writer's block or row. -/
def Apart (w : World) (g : Nat) (r : Option Nat) (A : Option Addr) (ps : List Text) : Prop :=
  0 < ps.length → ∃ b o, A = some ⟨b, o, none⟩ ∧ b < w.heap.size ∧ b ≠ g ∧ some b ≠ r ∧
    ∀ i q, ps[i]? = some q → ∃ Ai ci, w.cell? ⟨b, o + i, none⟩ = some (.slice Ai q.length ci) ∧ Reads w 1 Ai q.length (cells8 q) ∧ (Ai = none → q.length = 0 ∧ ci = 0) ∧ (0 < q.length → ∀ a, Ai = some a → a.block ≠ g ∧ some a.block ≠ r)
theorem Apart.at_ {w wr : World} {g : Nat} {r : Option Nat} {A : Option Addr} {ps : List Text} (h : Apart w g r A ps) {i : Nat} {q : Text} (hq : ps[i]? = some q) (hk : Kept (fun k => k = g ∨ some k = r) w wr) :
    ∃ b o Ai ci, A = some ⟨b, o, none⟩ ∧ wr.cell? ⟨b, o + i, none⟩ = some (.slice Ai q.length ci) ∧ Reads wr 1 Ai q.length (cells8 q) ∧ (Ai = none → q.length = 0 ∧ ci = 0) := by
  obtain ⟨b, o, e, hb, h1, h2, hc⟩ := h (Nat.lt_of_le_of_lt (Nat.zero_le _) (List.getElem?_eq_some_iff.1 hq).1)
  obtain ⟨Ai, ci, h3, h4, h5, h6⟩ := hc i q hq
  refine ⟨b, o, Ai, ci, e, (hk.cell (p := ⟨b, o + i, none⟩) hb (fun h => by rcases h with h | h; exact h1 h; exact h2 h)).trans h3, h4.kept0 hk (fun h0 b' o' e' h => ?_), h5⟩
  have := h6 (by omega) _ e'
  rcases h with h | h
  · exact this.1 h
  · exact this.2 h

/-- The mask of K bytes behind n shifts. -/
def mW (K n : Nat) : Int := (((2 ^ (8 * K) - 1) / 2 ^ n : Nat) : Int)
theorem mW_half (K n : Nat) : mW K n / 2 = mW K (n + 1) := by
  unfold mW
  rw [Nat.pow_succ, ← Nat.div_div_eq_div_mul]
  omega
theorem mW_pos (K n : Nat) (h : n < 8 * K) : 0 < mW K n := by
  unfold mW
  have h1 : 2 ^ n ≤ 2 ^ (8 * K) - 1 := by
    have := Nat.pow_lt_pow_right (a := 2) (by omega) h
    omega
  have := Nat.div_pos h1 (Nat.two_pow_pos n)
  omega
theorem mW_nonneg (K n : Nat) : 0 ≤ mW K n := Int.natCast_nonneg _
theorem mW_lt (K n : Nat) : mW K n < 2 ^ (8 * K) := by
  unfold mW
  have h1 : (2 ^ (8 * K) - 1) / 2 ^ n ≤ 2 ^ (8 * K) - 1 := Nat.div_le_self _ _
  have h2 := Nat.two_pow_pos (8 * K)
  have h3 : (((2 ^ (8 * K) - 1) / 2 ^ n : Nat) : Int) < ((2 ^ (8 * K) : Nat) : Int) := by omega
  simpa using h3

set_option maxRecDepth 100000 in
theorem width1 (w : World) : Calls Tryd.prog 106 #[] w fun e w' => e = .returned (.int .i64 1) ∧ w = w' := by
  have hx : bits .xor .u8 IntKind.u8.max 0 = mW 1 0 := by decide +kernel
  go_enter Tryd.func106, Tryd.ntmps106
  go_wp2_with fail
  clear hx
  go_loop [1, 2] (fun n m => ∃ k : Nat, k ≤ 1 ∧ n = .int .i64 (k : Int) ∧ m = .int .u8 (mW 1 (8 * k))) (fun n _ => 1 - (intOf n).toNat)
  case atStart => exact ⟨0, by omega, rfl, rfl⟩
  case round =>
    obtain ⟨k, hk, rfl, rfl⟩ := hrel
    by_cases hlt : k < 1
    · have c1 : (mW 1 (8 * k) != 0) = true := by have := mW_pos 1 (8 * k) (by omega); simp; omega
      have cN := mW_nonneg 1 (8 * k)
      have cL := mW_lt 1 (8 * k)
      go_wp2_with fail
      go_loop [2, 9] (fun m i => ∃ j : Nat, j ≤ 8 ∧ i = .int .i64 (j : Int) ∧ m = .int .u8 (mW 1 (8 * k + j))) (fun _ i => 8 - (intOf i).toNat)
      case atStart => exact ⟨0, by omega, rfl, rfl⟩
      case round =>
        obtain ⟨j, hj, rfl, rfl⟩ := hrel
        clear c1 cN cL
        by_cases hl : j < 8
        · have y0 : mW 1 (8 * k + j) / 2 = mW 1 (8 * k + (j + 1)) := mW_half 1 (8 * k + j)
          have y1 := mW_nonneg 1 (8 * k + j)
          have y2 := mW_lt 1 (8 * k + j)
          go_wp2_with fail
          go_round
          case rel => exact ⟨j + 1, by omega, by go_num, rfl⟩
          case measure => simp [intOf]; omega
        · obtain rfl : j = 8 := by omega
          go_wp2_with fail
          go_round
          case rel => exact ⟨k + 1, by omega, by go_num, by rw [Nat.mul_add]⟩
          case measure => simp [intOf]; omega
    · obtain rfl : k = 1 := by omega
      have c1 : (mW 1 (8 * 1) != 0) = false := by decide +kernel
      go_wp2_with fail
      go_ret
      exact ⟨rfl, rfl⟩

theorem far_cell {wr W0 W : World} {g : Nat} {v : Value} {T : TypeId} (hb : Blk wr g T #[v]) (hne : some g ≠ v.ownBlock) (hW0 : Kept (fun _ => False) wr W0) (hgrow : W0.grownBy W v.ownBlock) :
    W.cell? ⟨g, 0, none⟩ = some v ∧ W.frozen? ⟨g, 0, none⟩ = false := by
  have h : Blk W g T #[v] := (hgrow.block g (Nat.lt_of_lt_of_le hb.lt hW0.size) hne).trans (hb.kept hW0 (fun x => x))
  exact ⟨by rw [h.cell 0]; rfl, h.frozen 0⟩
theorem take_step (l q : Text) (j : Nat) (c : BitVec 8) (h : q[j]? = some c) : l ++ q.take (j + 1) = (l ++ q.take j) ++ [c] := by
  rw [List.take_add_one, h]
  simp

set_option maxRecDepth 100000 in
set_option maxHeartbeats 1000000 in
theorem put1 (g : Nat) (r : Option Nat) (l : Text) (c : BitVec 8) (w : World) (hl : l.length + 1 ≤ 140737488355328) (hw : WrAt w g r l) :
    Calls Tryd.prog 58 #[.pointer (some ⟨g, 0, none⟩), .int .u8 (b8 c)] w fun e w' => e = .returned (.tuple #[]) ∧ Wrote w g r (l ++ [c]) w' := by
  obtain ⟨i0, hi, hz0, hz1, hz2⟩ := info_parts8 info8
  have H0 : Hid (Wrote w g r (l ++ [c].take 0) w) := (show Wrote w g r (l ++ [c].take 0) w by simpa using hw.refl)
  replace hl := Lib.hid hl
  clear hw
  have x0 := b8_nonneg c
  have x1 := b8_lt c
  go_enter Tryd.func58, Tryd.ntmps58
  go_wp2_with (go_at_call 106; refine (width1 _).mono ?_; rintro e w' ⟨rfl, rfl⟩)
  go_loopw [4] (fun v wr => ∃ j : Nat, v = .int .i64 (0 - (j : Int)) ∧ Hid (j ≤ 1) ∧ Hid (Wrote w g r (l ++ [c].take j) wr)) (fun v _ => (1 + intOf v).toNat)
  case atStart => exact ⟨0, rfl, (show 0 ≤ 1 by omega), H0.out⟩
  case round =>
    clear H0
    obtain ⟨j, rfl, hj, hW⟩ := hrel
    by_cases hlt : j < 1
    · have hz : (0 : Int) ≤ 0 - (j : Int) := by omega
      have hzj : (0 : Int) ≤ (j : Int) := by omega
      obtain ⟨r1, h1, k1, c1⟩ := hW.out
      obtain ⟨v, hb, ho, hvr, hr1⟩ := h1
      have hne : some g ≠ v.ownBlock := fun e => by
        have := (hr1 g (by rw [← hvr]; exact e.symm)).1
        omega
      have hv := hb.cell 0
      have hvf := hb.frozen 0
      simp only [Array.getElem?_singleton, if_pos] at hv
      have hva : (wr.alloc (.cells #[.int .u8 (b8 c)] 5)).cell? ⟨g, 0, none⟩ = some v := (World.cell?_alloc_lt wr _ ⟨g, 0, none⟩ hb.lt).trans hv
      have y1 : IntKind.i64.wrap 0 = 0 := rfl
      have y2 : IntKind.u64.wrap (b8 c) = b8 c := u64_in _ (by omega) (by omega)
      have y3 : IntKind.u8.wrap (b8 c) = b8 c := by simp [IntKind.wrap, IntKind.bits, IntKind.signed]; omega
      have hc : Hid ([c][j]? = some c) := by
        show _ = _
        obtain rfl : j = 0 := by omega
        rfl
      have hlen : Hid ((l ++ [c].take j).length + 1 ≤ 140737488355328) := by
        show _ ≤ _
        have := hl.out
        rw [List.length_append]
        have := List.length_take_le j [c]
        omega
      have hts := Lib.hid (take_step l [c] j c hc.out)
      have hO := Lib.hid ho
      have hV : ∀ u, Blk wr g 171 #[u] → u = v := fun u hu => by
        have h1 : some (Obj.cells #[u] 171 (0, 0)) = some (Obj.cells #[v] 171 (0, 0)) := (show wr.heap[g]? = _ from hu).symm.trans hb
        simpa using h1
      replace hV := Lib.hid hV
      replace hne := Lib.hid hne
      replace hb := Lib.hid hb
      clear hr1 ho hvr c1 k1
      generalize l ++ [c].take j = L at *
      go_wp2_with fail
      go_region_law (refine step_append_lies (P := Tryd.prog) (wr.drew.alloc (.cells #[.int .u8 (b8 c)] 5)) (o := ⟨some 25, _, _, _, _, _⟩) rfl (.tmp 17) (.tmp 24) 31 rfl 0 5 i0 (.int .u8 0) 1 1 Tryd.underlying31 hi hz0 hz1 hz2 rfl (by decide) v L.length (cells8 L) ?hs (World.ownsRow.alloc (w := wr.drew) hO.out _) ⟨wr.heap.size, 0, none⟩ 1 1 [.int .u8 (b8 c)] ?hx rfl (new_cells _ _ _ _ rfl) (Mem.one_one rfl) (by decide) ?c1 ?c2 (Nat.zero_le _) _ rfl ?_; (case hs => go_simp); (case hx => go_simp); (case c1 => have := hlen.out; unfold maxLen; omega); (case c2 => have := hlen.out; omega); intro G cap W hown hgrow hat hlt2; have hK0 : Kept (fun _ => False) wr (wr.drew.alloc (.cells #[.int .u8 (b8 c)] 5)) := ((Kept.refl _ wr).drew).alloc _; have hX : Hid (Wrote w g r (L ++ [c]) (W.setCell ⟨g, 0, none⟩ (.slice (some ⟨G, 0, none⟩) (L.length + 1) cap))) := hW.out.step (fun r1 h1 => Wrote.put (q := [c]) h1 hV.out rfl rfl hK0 hown hgrow hat hlt2); obtain ⟨hf1, hf2⟩ := far_cell hb.out hne.out hK0 hgrow; clear hown hgrow hat hlt2 hK0)
      all_goals
        go_wp2_with fail
        go_roundw
        case rel => exact ⟨j + 1, by go_num, (show j + 1 ≤ 1 by omega), (show Wrote _ _ _ _ _ by rw [hts.out]; exact hX.out)⟩
        case measure => simp [intOf]; omega
    · obtain rfl : j = 1 := by have := hj.out; omega
      have hT : [c].take 1 = [c] := List.take_of_length_le (by simp)
      have hT := Lib.hid hT
      go_wp2_with fail
      go_end0
      exact ⟨rfl, by have := hW.out; rw [hT.out] at this; exact this⟩

/-- A number's eight bytes, the highest first. -/
def byteAt (N n : Nat) : BitVec 8 := BitVec.ofNat 8 (N / 2 ^ n)
def be8 (N : Nat) : Text := (List.range 8).map fun i => byteAt N (56 - 8 * i)
theorem be8_len (N : Nat) : (be8 N).length = 8 := by simp [be8]
theorem be8_at (N j : Nat) (hj : j < 8) : (be8 N)[j]? = some (byteAt N (56 - 8 * j)) := by
  unfold be8
  rw [List.getElem?_map, List.getElem?_range hj]
  rfl
theorem b8_at (N n : Nat) : (N : Int) / 2 ^ n % 256 = b8 (byteAt N n) := by
  unfold b8 byteAt
  rw [BitVec.toNat_ofNat]
  have : ((2 ^ n : Nat) : Int) = 2 ^ n := by simp
  rw [← this]
  omega

set_option maxRecDepth 100000 in
theorem width8 (w : World) : Calls Tryd.prog 159 #[] w fun e w' => e = .returned (.int .i64 8) ∧ w = w' := by
  have hx : bits .xor .u64 IntKind.u64.max 0 = mW 8 0 := by decide +kernel
  go_enter Tryd.func159, Tryd.ntmps159
  go_wp2_with fail
  clear hx
  go_loop [1, 2] (fun n m => ∃ k : Nat, k ≤ 8 ∧ n = .int .i64 (k : Int) ∧ m = .int .u64 (mW 8 (8 * k))) (fun n _ => 8 - (intOf n).toNat)
  case atStart => exact ⟨0, by omega, rfl, rfl⟩
  case round =>
    obtain ⟨k, hk, rfl, rfl⟩ := hrel
    by_cases hlt : k < 8
    · have c1 : (mW 8 (8 * k) != 0) = true := by have := mW_pos 8 (8 * k) (by omega); simp; omega
      have cN := mW_nonneg 8 (8 * k)
      go_wp2_with fail
      go_loop [2, 9] (fun m i => ∃ j : Nat, j ≤ 8 ∧ i = .int .i64 (j : Int) ∧ m = .int .u64 (mW 8 (8 * k + j))) (fun _ i => 8 - (intOf i).toNat)
      case atStart => exact ⟨0, by omega, rfl, rfl⟩
      case round =>
        obtain ⟨j, hj, rfl, rfl⟩ := hrel
        clear c1 cN
        by_cases hl : j < 8
        · have y0 : mW 8 (8 * k + j) / 2 = mW 8 (8 * k + (j + 1)) := mW_half 8 (8 * k + j)
          have y1 := mW_nonneg 8 (8 * k + j)
          go_wp2_with fail
          go_round
          case rel => exact ⟨j + 1, by omega, by go_num, rfl⟩
          case measure => simp [intOf]; omega
        · obtain rfl : j = 8 := by omega
          go_wp2_with fail
          go_round
          case rel => exact ⟨k + 1, by omega, by go_num, by rw [Nat.mul_add]⟩
          case measure => simp [intOf]; omega
    · obtain rfl : k = 8 := by omega
      have c1 : (mW 8 (8 * 8) != 0) = false := by decide +kernel
      go_wp2_with fail
      go_ret
      exact ⟨rfl, rfl⟩

set_option maxRecDepth 100000 in
set_option maxHeartbeats 1000000 in
theorem put8 (g : Nat) (r : Option Nat) (l : Text) (N : Nat) (hN : Hid (N < 18446744073709551616)) (w : World) (hl : l.length + 8 ≤ 140737488355328) (hw : WrAt w g r l) :
    Calls Tryd.prog 107 #[.pointer (some ⟨g, 0, none⟩), .int .u64 (N : Int)] w fun e w' => e = .returned (.tuple #[]) ∧ Wrote w g r (l ++ (be8 N)) w' := by
  obtain ⟨i0, hi, hz0, hz1, hz2⟩ := info_parts8 info8
  have H0 : Hid (Wrote w g r (l ++ (be8 N).take 0) w) := (show Wrote w g r (l ++ (be8 N).take 0) w by simpa using hw.refl)
  replace hl := Lib.hid hl
  clear hw
  have y2 : IntKind.u64.wrap (N : Int) = (N : Int) := u64_in _ (by omega) (by have := hN.out; omega)
  go_enter Tryd.func107, Tryd.ntmps107
  go_wp2_with (go_at_call 159; refine (width8 _).mono ?_; rintro e w' ⟨rfl, rfl⟩)
  go_loopw [4] (fun v wr => ∃ j : Nat, v = .int .i64 (7 - (j : Int)) ∧ Hid (j ≤ 8) ∧ Hid (Wrote w g r (l ++ (be8 N).take j) wr)) (fun v _ => (1 + intOf v).toNat)
  case atStart => exact ⟨0, rfl, (show 0 ≤ 8 by omega), H0.out⟩
  case round =>
    clear H0
    obtain ⟨j, rfl, hj, hW⟩ := hrel
    by_cases hlt : j < 8
    · have hz : (0 : Int) ≤ 7 - (j : Int) := by omega
      have hzj : (0 : Int) ≤ (j : Int) := by omega
      obtain ⟨r1, h1, k1, c1⟩ := hW.out
      obtain ⟨v, hb, ho, hvr, hr1⟩ := h1
      have hne : some g ≠ v.ownBlock := fun e => by
        have := (hr1 g (by rw [← hvr]; exact e.symm)).1
        omega
      have hv := hb.cell 0
      have hvf := hb.frozen 0
      simp only [Array.getElem?_singleton, if_pos] at hv
      have y1 : IntKind.i64.wrap (8 * (7 - (j : Int))) = 8 * (7 - (j : Int)) := IntWalk.i64_in _ (by omega)
      have y4 : (8 * (7 - (j : Int))).toNat = 56 - 8 * j := by omega
      obtain ⟨c, hcd⟩ : ∃ c, Hid (c = byteAt N (56 - 8 * j)) := ⟨_, rfl⟩
      have y3 : IntKind.u8.wrap ((N : Int) / 2 ^ (56 - 8 * j)) = b8 c := by
        rw [hcd.out, ← b8_at]
        simp [IntKind.wrap, IntKind.bits, IntKind.signed]
      have y5 : (8 * (7 - (j : Int))) < 64 := by omega
      have y6 : 0 ≤ (8 * (7 - (j : Int))) := by omega
      have hva : (wr.alloc (.cells #[.int .u8 (b8 c)] 5)).cell? ⟨g, 0, none⟩ = some v := (World.cell?_alloc_lt wr _ ⟨g, 0, none⟩ hb.lt).trans hv
      have hc : Hid ((be8 N)[j]? = some c) := by rw [hcd.out]; exact be8_at N j hlt
      have hlen : Hid ((l ++ (be8 N).take j).length + 1 ≤ 140737488355328) := by
        show _ ≤ _
        have := hl.out
        rw [List.length_append]
        have := List.length_take_le j (be8 N)
        omega
      have hts := Lib.hid (take_step l (be8 N) j c hc.out)
      have hO := Lib.hid ho
      have hV : ∀ u, Blk wr g 171 #[u] → u = v := fun u hu => by
        have h1 : some (Obj.cells #[u] 171 (0, 0)) = some (Obj.cells #[v] 171 (0, 0)) := (show wr.heap[g]? = _ from hu).symm.trans hb
        simpa using h1
      replace hV := Lib.hid hV
      replace hne := Lib.hid hne
      replace hb := Lib.hid hb
      clear hr1 ho hvr c1 k1
      generalize l ++ (be8 N).take j = L at *
      go_wp2_with fail
      go_region_law (refine step_append_lies (P := Tryd.prog) (wr.drew.alloc (.cells #[.int .u8 (b8 c)] 5)) (o := ⟨some 24, _, _, _, _, _⟩) rfl (.tmp 17) (.tmp 23) 31 rfl 0 5 i0 (.int .u8 0) 1 1 Tryd.underlying31 hi hz0 hz1 hz2 rfl (by decide) v L.length (cells8 L) ?hs (World.ownsRow.alloc (w := wr.drew) hO.out _) ⟨wr.heap.size, 0, none⟩ 1 1 [.int .u8 (b8 c)] ?hx rfl (new_cells _ _ _ _ rfl) (Mem.one_one rfl) (by decide) ?c1 ?c2 (Nat.zero_le _) _ rfl ?_; (case hs => go_simp); (case hx => go_simp); (case c1 => have := hlen.out; unfold maxLen; omega); (case c2 => have := hlen.out; omega); intro G cap W hown hgrow hat hlt2; have hK0 : Kept (fun _ => False) wr (wr.drew.alloc (.cells #[.int .u8 (b8 c)] 5)) := ((Kept.refl _ wr).drew).alloc _; have hX : Hid (Wrote w g r (L ++ [c]) (W.setCell ⟨g, 0, none⟩ (.slice (some ⟨G, 0, none⟩) (L.length + 1) cap))) := hW.out.step (fun r1 h1 => Wrote.put (q := [c]) h1 hV.out rfl rfl hK0 hown hgrow hat hlt2); obtain ⟨hf1, hf2⟩ := far_cell hb.out hne.out hK0 hgrow; clear hown hgrow hat hlt2 hK0)
      all_goals
        go_wp2_with fail
        go_roundw
        case rel => exact ⟨j + 1, by go_num, (show j + 1 ≤ 8 by omega), (show Wrote _ _ _ _ _ by rw [hts.out]; exact hX.out)⟩
        case measure => simp [intOf]; omega
    · obtain rfl : j = 8 := by have := hj.out; omega
      have hT : (be8 N).take 8 = (be8 N) := List.take_of_length_le (by rw [be8_len]; omega)
      have hT := Lib.hid hT
      go_wp2_with fail
      go_end0
      exact ⟨rfl, by have := hW.out; rw [hT.out] at this; exact this⟩

end Go.Proofs.YtgldkfaiofkhbaaDoor.Octet
