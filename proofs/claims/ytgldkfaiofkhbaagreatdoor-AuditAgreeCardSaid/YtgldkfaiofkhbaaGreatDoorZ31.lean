/-
  Texts of the claim, put into one file: DigestText, Sign, SignEq.
-/
import Derived.Test.YtgldkfaiofkhbaaGreatDoorZ24
import Derived.Test.YtgldkfaiofkhbaaGreatDoorZ16
import Derived.Great.FillDense
import Derived.Test.YtgldkfaiofkhbaaGreatDoorZ3

namespace Go.Proofs.YtgldkfaiofkhbaaGreatDoor.DigestText
open Go Go.RowKit Go.Proofs.YtgldkfaiofkhbaaGreatDoor Mem Sha Bytes Go.Proofs.YtgldkfaiofkhbaaGreatDoor.Append Octet Octet2

def AllLt (w : World) (B : Nat) (A : Option Addr) (ps : List Text) : Prop := (∀ a, A = some a → a.block < B) ∧ ∀ (i : Nat) (q : Text), ps[i]? = some q → ∀ b o, A = some ⟨b, o, none⟩ → ∀ Ai ci, w.cell? ⟨b, o + i, none⟩ = some (.slice Ai q.length ci) → 0 < q.length → ∀ a, Ai = some a → a.block < B
theorem Apart.of_pieces {w w1 : World} {A : Option Addr} {ps : List Text} {g : Nat} {r1 : Option Nat} (hp : Pieces w A ps) (hl : AllLt w g A ps) (hk : Kept (fun k => k = g ∨ some k = none) w w1) (hr : ∀ k, r1 = some k → g ≤ k) : Apart w1 g r1 A ps := fun h0 => by
 obtain ⟨b, o, e, hb, hc⟩ := hp h0
 subst e
 have h1 := hl.1 _ rfl
 have hne : ∀ a : Nat, a < g → a ≠ g ∧ some a ≠ r1 := fun a ha => ⟨by omega, fun e => by have := hr a e.symm; omega⟩
 refine ⟨b, o, rfl, Nat.lt_of_lt_of_le hb hk.size, (hne b h1).1, (hne b h1).2, fun i q hq => ?_⟩
 obtain ⟨Ai, ci, c1, c2, c3, c4⟩ := hc i q hq
 have h2 := hl.2 i q hq b o rfl Ai ci c1
 refine ⟨Ai, ci, (hk.cell (p := ⟨b, o + i, none⟩) hb (fun h => by rcases h with h | h; exact (hne b h1).1 h; cases h)).trans c1, c3.kept0 hk (fun h0 b' o' e' h => ?_), c4, fun h0 a ha => hne _ (h2 h0 a ha)⟩
 have := h2 (by omega) _ e'
 rcases h with h | h
 ·simp at this; omega
 ·cases h

set_option maxRecDepth 100000 in
set_option maxHeartbeats 1000000 in
theorem text_any (k : Int) (ps : List Text) (n : Nat) (hn : ps.length = n) (A : Option Addr) (c : Nat) (w : World) (hn47 : n < 140737488355328) (m : Nat) (hm : ps.flatten.length = m) (hlen : m + 1 ≤ 140737488355328) (hp : Pieces w A ps) (hl : AllLt w w.heap.size A ps) :
  Calls Tryz.prog 281 #[.int .i64 k, .slice A n c] w fun e w' => ∃ v, e = .returned v ∧ Below w.heap.size w w' ∧ w'.ownsRow w.heap.size 5 1 v (1 + m) (cells8 (kb k :: ps.flatten)) := by
 have hN := Lib.hid (WrAt.new w).refl
 have hb0 : Hid (Below w.heap.size w (w.alloc (.cells #[.slice none 0 0] 313))) := Below.heap_below w _
 have hz : Hid ((w.alloc (.cells #[.slice none 0 0] 313)).heap.size = w.heap.size + 1) := by show _ = _; simp
 have y : IntKind.u8.wrap k = b8 (kb k) := kb_wrap k
 have hkp : Hid (∀ w' r1, Kept (fun k => k = w.heap.size ∨ some k = none) (w.alloc (.cells #[.slice none 0 0] 313)) w' → (∀ k, r1 = some k → w.heap.size ≤ k) → Apart w' w.heap.size r1 A ps) := fun w' r1 hk hr => Apart.of_pieces hp hl (((Kept.refl _ w).alloc _).trans hk (fun _ _ h => h)) hr
 have hfin : Hid (([] : Text) ++ [kb k] ++ ps.flatten = kb k :: ps.flatten) := rfl
 have hfl : Hid ((kb k :: ps.flatten).length = 1 + m) := by show _ = _; rw [List.length_cons, hm, Nat.add_comm]
 replace hm := Lib.hid hm
 replace hn := Lib.hid hn
 replace hn47 := Lib.hid hn47
 replace hlen := Lib.hid hlen
 clear hp hl
 go_enter Tryz.func281, Tryz.ntmps281
 go_wp2_with (first
  | (go_at_call 130; refine (new_any _).mono ?_; rintro e w1 ⟨rfl, rfl⟩)
  | (go_at_call 131; refine (put1_from (b8 (kb k)) (kb k) rfl (by simp) hN.out).mono ?_; rintro e w1 ⟨rfl, r1, h1, k1, c1⟩; have hr1 : ∀ k, r1 = some k → w.heap.size ≤ k := (fun k e => by rcases c1 with c1 | ⟨k', c1, hk'⟩; (rw [c1] at e; cases e); (rw [c1] at e; have e2 := Option.some.inj e; have := hz.out; omega)); have hAp := Lib.hid (hkp.out w1 r1 k1 hr1); have hb1 : Hid (Below w.heap.size w w1) := hb0.out.trans ⟨k1.os, k1.tape, k1.output, k1.size, (fun q hq => k1.block q (by have := hz.out; omega) (fun h => by rcases h with h | h; omega; cases h))⟩; replace h1 := Lib.hid h1; replace hr1 := Lib.hid hr1; clear k1 c1 hN)
  | (go_at_call 232; refine (raw_any w.heap.size r1 ([] ++ [kb k]) ps n hn.out A c w1 (by have := hlen.out; rw [hm.out]; simp only [List.nil_append, List.length_cons, List.length_nil]; omega) hn47.out h1.out hAp.out).mono ?_; rintro e w2 ⟨rfl, r2, h2, k2, c2⟩; rw [hfin.out] at h2; have hb2 : Hid (Below w.heap.size w w2) := hb1.out.trans ⟨k2.os, k2.tape, k2.output, k2.size, (fun q hq => k2.block q (by have := hb1.out.size; omega) (fun h => by rcases h with h | h; omega; (have := hr1.out q h.symm; omega)))⟩; replace h2 := Lib.hid h2; clear k2 c2 h1 hAp)
  | (go_at_call 133; refine (all_any w.heap.size r2 (kb k :: ps.flatten) w2 (by rw [hfl.out]; have := hlen.out; omega) h2.out).mono ?_; rintro e w3 ⟨v, rfl, hb3, ho3⟩; rw [hfl.out] at ho3; obtain ⟨Av, cv, rfl, -⟩ := Own.reads ho3; have hb4 : Hid (Below w.heap.size w w3) := hb2.out.trans (hb3.mono hb2.out.size); replace ho3 := Lib.hid ho3; clear hb3))
 go_ret
 exact ⟨_, rfl, hb4.out, ownsRow_base ho3.out hb2.out.size⟩
end Go.Proofs.YtgldkfaiofkhbaaGreatDoor.DigestText

namespace Go.Proofs.YtgldkfaiofkhbaaGreatDoor.Sign
open Go Go.RowKit Go.Proofs.YtgldkfaiofkhbaaGreatDoor Mem Sha Bytes DigestMem Digest Mac HeadMem HeadID

def signOf (h : HeadD) (q : Text) : Text := idOf q ++ macOf q (headBytes h)
theorem signOf_len (h : HeadD) (q : Text) : (signOf h q).length = 64 := by unfold signOf; rw [List.length_append, idOf_len, macOf_len]
theorem sign_fill (z : Array Value) (hz : z.size = 64) (xs ys : List Value) (hx : xs.length = 32) (hy : ys.length = 32) :
  Instr.fill (#[((0 : Nat), (32 : Nat)), (32, 32)][·]?) z [(0, .agg xs.toArray), (1, .agg ys.toArray)] = some (xs ++ ys).toArray := by
 have h := Great.fill_whole (s := 32) (by omega) [.agg xs.toArray, .agg ys.toArray] z (fun v hv => by
  rcases List.mem_cons.1 hv with rfl | hv
  ·exact hx
  ·rcases List.mem_cons.1 hv with rfl | hv
   ·exact hy
   ·cases hv) (by rw [hz]; rfl)
 have e : ([Value.agg xs.toArray, .agg ys.toArray].flatMap fun v => v.cells.toList) = xs ++ ys := by
  simp [Value.cells]
 rw [e] at h
 exact h
theorem built_any (parts : List (Nat × Value)) : Tryz.prog.built 57 parts = Instr.fill (#[((0 : Nat), (32 : Nat)), (32, 32)][·]?) (Array.replicate 64 (.int .u8 0)) parts := by kernel_rfl
theorem built_sign (xs ys : List Value) (hx : xs.length = 32) (hy : ys.length = 32) : Tryz.prog.built 57 [(0, .agg xs.toArray), (1, .agg ys.toArray)] = some (xs ++ ys).toArray := by
 have h := sign_fill (Array.replicate 64 (.int .u8 0)) (by simp) xs ys hx hy
 rw [built_any]
 exact h
theorem run_sign (h : HeadD) (q : Text) (w : World) : (Instr.build 57 #[(0, .agg (cells8 (idOf q)).toArray), (1, .agg (cells8 (macOf q (headBytes h))).toArray)]).run Tryz.prog w = .ok (.agg (cells8 (signOf h q)).toArray) w := by
 have e : cells8 (signOf h q) = cells8 (idOf q) ++ cells8 (macOf q (headBytes h)) := by simp [signOf, cells8]
 rw [e]
 exact run_build w _ _ _ (built_sign _ _ (by rw [cells8_len, idOf_len]) (by rw [cells8_len, macOf_len]))
theorem size64 : (Tryz.prog.info? 57).map (·.size) = some 64 := by kernel_rfl
theorem sign_size (x : Text) (hx : x.length = 64) : (Tryz.prog.info? 57).map (·.size) = some (cells8 x).toArray.size := size64.trans (congrArg some (by simp [cells8_len, hx]))
theorem sign_one (x : Text) : (cells8 x).toArray.all (fun v => v.oneCell') = true := dig_one x
theorem sign_zero (x : Text) (hx : x.length = 64) : (Z64 : Array Value).size = (cells8 x).toArray.size := by simp [cells8_len, hx, Z64]
end Go.Proofs.YtgldkfaiofkhbaaGreatDoor.Sign

