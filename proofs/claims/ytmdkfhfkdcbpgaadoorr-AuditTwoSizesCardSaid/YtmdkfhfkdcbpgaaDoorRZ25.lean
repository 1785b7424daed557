/-
  Texts of the claim, put into one file: RefCons, EncConsAny.
-/
import Derived.Test.YtmdkfhfkdcbpgaaDoorRZ21
import Derived.Test.YtmdkfhfkdcbpgaaDoorRZ24
import Derived.Test.YtmdkfhfkdcbpgaaDoorRZ20

namespace Go.Proofs.YtmdkfhfkdcbpgaaDoorR.RefCons
open Go Go.RowKit Go.Proofs.YtmdkfhfkdcbpgaaDoorR Mem Sha Bytes Go.Proofs.YtmdkfhfkdcbpgaaDoorR.Append Octet Octet2 QuietTail Grown TreeMath Sides ProofEnc TreeMem TreeRoot Held Own Ref17 Ref17b Subs Betw BetwRef EncCons

def consWant (size i : Int) (ds : List Text) : Option Text := if joinsB size i = true ∧ (betw size.toNat i.toNat) = ds.length then some (consBytes size.toNat i.toNat ds) else none
def btOf (size i : Int) : Int := if joinsB size i = true then ((betw size.toNat i.toNat) : Int) else -1
theorem between17_any (size i : Int) (w : World) : Calls Tryd.prog 145 #[.int .i64 size, .int .i64 i] w fun e w' => e = .returned (.int .i64 (btOf size i)) ∧ w' = w := by
 unfold btOf
 by_cases h : joinsB size i = true
 ·rw [if_pos h]
  have h2 := h
  simp only [joinsB, Bool.and_eq_true, decide_eq_true_eq] at h2
  obtain ⟨sz, rfl⟩ := Int.eq_ofNat_of_zero_le (show 0 ≤ size by omega)
  obtain ⟨j, rfl⟩ := Int.eq_ofNat_of_zero_le (show 0 ≤ i by omega)
  exact (between17_yes sz j (by omega) (by omega) w).mono fun e w' ⟨h1, h2⟩ => ⟨h1, h2.symm⟩
 ·rw [if_neg h]
  exact (between17_no size i (by simpa using h) w).mono fun e w' ⟨h1, h2⟩ => ⟨h1, h2.symm⟩
theorem btOf_le (size i : Int) : -1 ≤ btOf size i ∧ btOf size i ≤ 41 := by
 unfold btOf
 split
 ·rename_i h
  simp only [joinsB, Bool.and_eq_true, decide_eq_true_eq] at h
  have := betw_le (x := size.toNat) (y := i.toNat) (by omega) (by omega)
  omega
 ·omega

set_option maxRecDepth 100000 in
set_option maxHeartbeats 1000000 in
theorem refcons17_no (size i : Int) (A : Option Addr) (n c : Nat) (w : World) (h : btOf size i ≠ (n : Int)) :
  Calls Tryd.prog 103 #[.agg (inclCells size i A n c)] w fun e w' => e = .returned (.slice none 0 0) ∧ Below w.heap.size w w' := by
 unfold inclCells
 have hT : Hid (∀ w', Calls Tryd.prog 145 #[.int .i64 size, .int .i64 i] w' fun e w'' => e = .returned (.int .i64 (btOf size i)) ∧ w'' = w') := between17_any size i
 have hbs := btOf_le size i
 generalize btOf size i = bs at *
 have y1 : (bs == (n : Int)) = false := beq_eq_false_iff_ne.2 h
 have y2 : (bs != (n : Int)) = true := by rw [bne, y1]; rfl
 have hb0 : Hid (Below w.heap.size w (w.alloc (.cells #[.int .i64 size, .int .i64 i, .slice A n c] 91))) := Below.heap_below w _
 clear hbs
 go_enter Tryd.func103, Tryd.ntmps103
 go_wp2_with fail
 go_quiet ((go_at_call 145; exact Calls.quiet_of_same (hT.out _)))
 go_wp2_with fail
 go_ret
 exact ⟨rfl, below_drawnN hb0.out _⟩

set_option maxRecDepth 100000 in
set_option maxHeartbeats 1000000 in
theorem refcons17_yes (size i : Nat) (hs : i ≤ 1099511627776) (hi : size ≤ i) (ds : List Text) (A : Option Addr) (n c : Nat) (w : World) (hr : RdD w A n ds) (hn : (betw size i) = n) :
  Calls Tryd.prog 103 #[.agg (inclCells size i A n c)] w fun e w' => ∃ v, e = .returned v ∧ w'.ownsRow w.heap.size 5 1 v (17 + 32 * n) (cells8 (consBytes size i ds)) ∧ Below w.heap.size w w' := by
 unfold inclCells
 obtain ⟨i0, hi0, iz0, iz1, iz2⟩ := info_parts8 info8
 have hin : joinsB (size : Int) (i : Int) = true := by
  have h1 : (0 : Int) ≤ size := by omega
  have h2 : (size : Int) ≤ i := by omega
  have h3 : (i : Int) ≤ 1099511627776 := by omega
  simp [joinsB, h1, h2, h3]
 have hT : Hid (∀ w', Calls Tryd.prog 145 #[.int .i64 (size : Int), .int .i64 (i : Int)] w' fun e w'' => e = .returned (.int .i64 (n : Int)) ∧ w'' = w') := fun w' => by
  have := between17_any size i w'
  unfold btOf at this
  rw [if_pos hin, Int.toNat_natCast, Int.toNat_natCast, hn] at this
  exact this
 have hn40 : Hid (n ≤ 41) := by
  show n ≤ 41
  rw [← hn]
  exact betw_le hi hs
 have y1 : ((n : Int) == (n : Int)) = true := beq_self_eq_true _
 have hE : Hid (∀ N : Nat, N ≤ 1099511627776 → ∀ w' g, w'.heap.size = g → Calls Tryd.prog 75 #[.int .i64 (N : Int)] w' fun e w'' => e = .returned (.slice (some ⟨g, 0, none⟩) 8 8) ∧ Below w'.heap.size w' w'' ∧ w''.ownsRow g 5 1 (.slice (some ⟨g, 0, none⟩) 8 8) 8 (cells8 (be8 N))) := fun N h w' g hg => by
  subst hg
  exact eight_any N (by omega) w'
 have hs2 : Hid (size ≤ 1099511627776) := (by show size ≤ _; omega)
 have hi2 : Hid (i ≤ 1099511627776) := by show i ≤ _; omega
 replace hr := Lib.hid hr
 clear hin hs hi hn
 go_enter Tryd.func103, Tryd.ntmps103
 go_wp2_with fail
 go_quiet ((go_at_call 145; exact Calls.quiet_of_same (hT.out _)))
 clear hT
 generalize hw1 : ((w.alloc (.cells #[.int .i64 (size : Int), .int .i64 (i : Int), .slice A n c] 91)).drewN nq) = w1
 have hb1 : Hid (Below w.heap.size w w1) := by show Below _ _ _; rw [← hw1]; exact below_drawnN (Below.heap_below w _) nq
 have hz1 : Hid (w1.heap.size = w.heap.size + 1) := by show _ = _; rw [← hw1]; simp
 have hB1 : Hid (Blk w1 w.heap.size 91 #[.int .i64 (size : Int), .int .i64 (i : Int), .slice A n c]) := by show Blk _ _ _ _; rw [← hw1]; exact (Blk.new w _ _).drewN nq
 clear hw1
 have hcell : Hid (∀ w', Below (w.heap.size + 1) w1 w' → ∀ j, w'.cell? ⟨w.heap.size, j, none⟩ = #[Value.int .i64 (size : Int), .int .i64 (i : Int), .slice A n c][j]?) := fun w' hb j => by
  have : Blk w' w.heap.size 91 #[.int .i64 (size : Int), .int .i64 (i : Int), .slice A n c] := (hb.block w.heap.size (by omega)).trans hB1.out
  exact this.cell j
 have hW2 : Hid (Below (w.heap.size + 1) w1 (w1.alloc (.cells #[.int .u8 49] 5))) := (Below.refl _ _).alloc (by rw [hz1.out]; exact Nat.le_refl _) _
 have hO2 : Hid ((w1.alloc (.cells #[.int .u8 49] 5)).ownsRow (w.heap.size + 1) 5 1 (.slice (some ⟨w1.heap.size, 0, none⟩) 1 1) 1 (cells8 [49])) := by
  have := own_new w1 (w.heap.size + 1) (by rw [hz1.out]; exact Nat.le_refl _) 5 #[.int .u8 49] 1 rfl (by unfold maxLen; omega)
  exact this
 have hs2' : Hid (w.heap.size + 1 ≤ (w1.alloc (.cells #[.int .u8 49] 5)).heap.size) := by show _ ≤ _; simp [hz1.out]
 have c0 : (w1.alloc (.cells #[.int .u8 49] 5)).cell? ⟨w.heap.size, 0, none⟩ = some (.int .i64 (size : Int)) := hcell.out _ hW2.out 0
 go_wp2_with (first
  | (go_at_call 75; refine (hE.out size hs2.out _ (w1.heap.size + 1) (by simp)).mono ?_; rintro e w3 ⟨rfl, hl3, ho3⟩; have hb3 : Hid (Below (w.heap.size + 1) w1 w3) := hW2.out.trans (hl3.mono hs2'.out); have hO3 := Lib.hid (own_below hO2.out hl3); have hs3 : Hid (w.heap.size + 1 ≤ w3.heap.size) := Nat.le_trans hs2'.out hl3.size; obtain ⟨Al, cl, el, -, -, hrl, -⟩ := own_reads ho3; injection el with el1 el2 el3; subst el1 el3; replace hrl := Lib.hid hrl; clear hl3 ho3 hW2 hO2 c0)
  | ((with_reducible change wpList _ _ _ (⟨some 17, _, _, _, _, _⟩ :: _) _ _); refine wpList_append_src _ (o := ⟨some 17, _, _, _, _, _⟩) rfl (.tmp 13) (.tmp 16) 27 rfl (w.heap.size + 1) 5 i0 (.int .u8 0) 1 1 Tryd.underlying27 hi0 iz0 iz1 iz2 rfl (by decide) (.slice (some ⟨w1.heap.size, 0, none⟩) 1 1) (1) (cells8 [49]) rfl hO3.out (some ⟨w1.heap.size + 1, 0, none⟩) 8 8 (cells8 (be8 size)) rfl hrl.out (fun e => by cases e) (cells8_one _) (by unfold maxLen; omega) (by omega) hs3.out ?_; intro v4 w4 hG; obtain ⟨A4, c4, rfl, hO4, hb4⟩ := grew_text hG hb3.out hs3.out hO3.out ([49] ++ be8 size) rfl 9 rfl; have hs4 : Hid (w.heap.size + 1 ≤ w4.heap.size) := (by have := hb4.out.size; have := hz1.out; show _ ≤ _; omega); clear hG hrl))
 have c1 : Hid (∀ w', Below (w.heap.size + 1) w1 w' → w'.cell? ⟨w.heap.size, 1, none⟩ = some (.int .i64 (i : Int))) := fun w' hb => hcell.out w' hb 1
 have c2 : Hid (∀ w', Below (w.heap.size + 1) w1 w' → w'.cell? ⟨w.heap.size, 2, none⟩ = some (.slice A n c)) := fun w' hb => hcell.out w' hb 2
 have hrw : Hid (∀ w', Below (w.heap.size + 1) w1 w' → RdD w' A n ds) := fun w' hb => hr.out.below (hb1.out.trans (hb.mono (by omega)))
 have hAlt : Hid (0 < n → ∀ b o, A = some ⟨b, o, none⟩ → b < w.heap.size + 1) := fun h0 b o e => by
  obtain ⟨b', o', e', hb', -⟩ := hr.out.2.2.at_ (by omega)
  rw [e] at e'
  injection e' with e'
  injection e' with e1 e2
  omega
 have s0 : Hid (Below (w.heap.size + 1) w1 w4.drew) := hb4.out.drew
 refine held_start (fun w' => Below (w.heap.size + 1) w1 w') 9 rfl (by kernel_rfl) ?_
 refine Held.tk0 (i := 0) (v := .slice A4 9 c4) rfl s0.out (fun w' hw' => run_mv (.tmp 3) rfl w') ?_
 (intro K k; go_simp; apply k; clear k K)
 refine Held.tk0 (i := 1) (v := .pointer (some ⟨w.heap.size, 1, none⟩)) rfl s0.out (fun w' hw' => by go_simp) ?_
 (intro K k; go_simp; apply k; clear k K)
 refine Held.tk0 (i := 2) (v := .int .i64 (i : Int)) rfl s0.out (fun w' hw' => by have h := c1.out w' hw'; go_simp) ?_
 (intro K k; go_simp; apply k; clear k K)
 refine Held.tk0 (i := 5) (v := .pointer (some ⟨w.heap.size, 2, none⟩)) rfl s0.out (fun w' hw' => by go_simp) ?_
 (intro K k; go_simp; apply k; clear k K)
 refine Held.tk0 (i := 6) (v := .slice A n c) rfl s0.out (fun w' hw' => by have h := c2.out w' hw'; go_simp) ?_
 (intro K k; go_simp; apply k; clear k K)
 refine held_only (i := 3) rfl (by kernel_rfl) (by rfl) (fun K hK => ?_)
 refine wp_fn (R := fun v w'' => v = .slice (some ⟨w4.heap.size, 0, none⟩) 8 8 ∧ Below w4.heap.size w4 w'' ∧ w''.ownsRow w4.heap.size 5 1 (.slice (some ⟨w4.heap.size, 0, none⟩) 8 8) 8 (cells8 (be8 i))) (args := #[.int .i64 (i : Int)]) _ _ rfl rfl Tryd.func75 (by kernel_rfl) (by kernel_rfl) ((hE.out i hi2.out w4.drew w4.heap.size rfl).mono fun e w'' ⟨he, hb, ho⟩ => ⟨_, he, rfl, ((Below.refl w4.heap.size w4).drew).trans hb, ho⟩) ?_
 rintro qq w5 ⟨rfl, h5, ho5⟩
 have hb5 : Hid (Below (w.heap.size + 1) w1 w5) := hb4.out.trans (h5.mono hs4.out)
 have hO5 := Lib.hid (own_below hO4.out h5)
 have hs5 : Hid (w.heap.size + 1 ≤ w5.heap.size) := Nat.le_trans hs4.out h5.size
 obtain ⟨Al, cl, el, -, -, hrl, -⟩ := own_reads ho5
 injection el with el1 el2 el3
 subst el1 el3
 replace hrl := Lib.hid hrl
 clear ho5 h5
 go_simp
 refine hK _ _ hb5.out ?_
 clear hK K
 refine held_only (i := 4) rfl (by kernel_rfl) (by rfl) (fun K hK => ?_)
 refine wp_append_src _ (.tmp 18) (.tmp 21) 27 rfl (w.heap.size + 1) 5 i0 (.int .u8 0) 1 1 Tryd.underlying27 hi0 iz0 iz1 iz2 rfl (by decide) (.slice A4 9 c4) 9 (cells8 ([49] ++ be8 size)) rfl hO5.out (some ⟨w4.heap.size, 0, none⟩) 8 8 (cells8 (be8 i)) rfl hrl.out (fun e => by cases e) (cells8_one _) (by unfold maxLen; omega) (by omega) hs5.out ?_
 intro v6 w6 hG
 obtain ⟨A6, c6, rfl, hO6, hb6⟩ := grew_text hG hb5.out hs5.out hO5.out ([49] ++ be8 size ++ be8 i) rfl 17 rfl
 have hs6 : Hid (w.heap.size + 1 ≤ w6.heap.size) := (by have := hb6.out.size; have := hz1.out; show _ ≤ _; omega)
 clear hG hrl
 go_simp
 refine hK _ _ hb6.out ?_
 clear hK K
 refine held_only (i := 7) rfl (by kernel_rfl) (by rfl) (fun K hK => ?_)
 refine wp_fn (R := fun v w'' => w''.ownsRow (w.heap.size + 1) 5 1 v (17 + 32 * n) (cells8 ([49] ++ be8 size ++ be8 i ++ ds.flatten)) ∧ Below (w.heap.size + 1) w6 w'') (args := #[.slice A6 17 c6, .slice A n c]) _ _ rfl rfl Tryd.func138 (by kernel_rfl) (by kernel_rfl) ((digests17_any (w.heap.size + 1) ([49] ++ be8 size ++ be8 i) 17 A6 c6 ds n A c w6 hs6.out hO6.out (hrw.out w6 hb6.out) hAlt.out (by have := hn40.out; omega)).mono fun e w'' ⟨v, he, ho, hb⟩ => ⟨_, he, ho, hb⟩) ?_
 rintro v8 w8 ⟨ho8, h8⟩
 obtain ⟨A8, c8, rfl, -⟩ := own_reads ho8
 have hb8 : Hid (Below (w.heap.size + 1) w1 w8) := hb6.out.trans h8
 replace ho8 := Lib.hid ho8
 clear h8
 go_simp
 refine hK _ _ hb8.out ?_
 clear hK K
 refine Held.tk0 (i := 8) (v := .slice A8 (17 + 32 * n) c8) rfl hb8.out (fun w' hw' => by first | go_simp | rfl) ?_
 (intro K k; go_simp; apply k; clear k K)
 refine held_end (by kernel_rfl) ?_
 go_wp2_with fail
 go_ret
 exact ⟨_, rfl, ownsRow_base ho8.out (by omega), hb1.out.trans (hb8.out.mono (by omega))⟩
end Go.Proofs.YtmdkfhfkdcbpgaaDoorR.RefCons

namespace Go.Proofs.YtmdkfhfkdcbpgaaDoorR.EncConsAny
open Go Go.RowKit Go.Proofs.YtmdkfhfkdcbpgaaDoorR Mem Sha Bytes TreeMath Sides TreeMem TreeRoot Held Own ProofEnc Ref17 Ref17b Subs Betw BetwRef EncCons RefCons

theorem btOf_in {x y : Int} (h : joinsB x y = true) : btOf x y = ((betw x.toNat y.toNat) : Int) := by unfold btOf; rw [if_pos h]
theorem wantC_len {x1 x2 : Int} {l : List Text} {b : Text} (hd : Digs l) (h : consWant x1 x2 l = some b) : b.length = 17 + 32 * l.length := by
 unfold consWant at h
 split at h
 ·rw [← Option.some.inj h]; exact consBytes_len _ _ _ hd
 ·cases h
theorem refcons17_any (x1 x2 : Int) (l : List Text) (A : Option Addr) (n c : Nat) (w : World) (hr : RdD w A n l) :
  Calls Tryd.prog 103 #[.agg (inclCells x1 x2 A n c)] w fun e w' => ∃ A4 c4 b, e = .returned (.slice A4 b.length c4) ∧ Reads w' 1 A4 b.length (cells8 b) ∧ (A4 = none → b.length = 0 ∧ c4 = 0) ∧ b.length ≤ c4 ∧ (consWant x1 x2 l = some b ∨ (consWant x1 x2 l = none ∧ A4 = none ∧ b = [])) ∧ Below w.heap.size w w' := by
 by_cases h : btOf x1 x2 = (n : Int)
 ·have hin : joinsB x1 x2 = true := by
   unfold btOf at h
   split at h
   ·assumption
   ·omega
  have hin2 := hin
  simp only [joinsB, Bool.and_eq_true, decide_eq_true_eq] at hin2
  obtain ⟨sz, rfl⟩ := Int.eq_ofNat_of_zero_le (show 0 ≤ x1 by omega)
  obtain ⟨j, rfl⟩ := Int.eq_ofNat_of_zero_le (show 0 ≤ x2 by omega)
  rw [btOf_in hin, Int.toNat_natCast, Int.toNat_natCast] at h
  refine (refcons17_yes sz j (by omega) (by omega) l A n c w hr (by omega)).mono ?_
  rintro e w' ⟨v, rfl, ho, hb⟩
  obtain ⟨A4, c4, rfl, hc4, hn4, hr4, -⟩ := own_reads ho
  have hbl : (consBytes sz j l).length = 17 + 32 * n := by rw [consBytes_len _ _ _ hr.2.1, hr.1]
  refine ⟨A4, c4, consBytes sz j l, by rw [hbl], by rw [hbl]; exact hr4, by rw [hbl]; exact hn4, by rw [hbl]; exact hc4, .inl ?_, hb⟩
  unfold consWant
  rw [Int.toNat_natCast, Int.toNat_natCast, if_pos ⟨hin, by rw [hr.1]; omega⟩]
 ·refine (refcons17_no x1 x2 A n c w h).mono ?_
  rintro e w' ⟨rfl, hb⟩
  refine ⟨none, 0, [], rfl, Reads.nil_ _ _ _, fun _ => ⟨rfl, rfl⟩, Nat.le_refl _, .inr ⟨?_, rfl, rfl⟩, hb⟩
  unfold consWant
  rw [if_neg]
  rintro ⟨hin, hl⟩
  exact h (by rw [btOf_in hin, hl, hr.1])

theorem encCons_any (x1 x2 : Int) (l : List Text) (A : Option Addr) (n c : Nat) (w : World) (hr : RdD w A n l) :
  Calls Tryd.prog 207 #[.agg (inclCells x1 x2 A n c)] w fun e w' => ∃ A4 c4 b err, e = .returned (.tuple #[.slice A4 b.length c4, .int .i64 err]) ∧ Reads w' 1 A4 b.length (cells8 b) ∧ ((consWant x1 x2 l = some b ∧ err = 0) ∨ (consWant x1 x2 l = none ∧ b = [] ∧ err = 170)) ∧ Below w.heap.size w w' := by
 have hno : ∀ w', Below w.heap.size w w' → consWant x1 x2 l = none → ∃ (A4 : Option Addr) (c4 : Nat) (b : Text) (err : Int), Ending.returned (.tuple #[.slice none 0 0, .int .i64 170]) = Ending.returned (.tuple #[.slice A4 b.length c4, .int .i64 err]) ∧ Reads w' 1 A4 b.length (cells8 b) ∧ ((consWant x1 x2 l = some b ∧ err = 0) ∨ (consWant x1 x2 l = none ∧ b = [] ∧ err = 170)) ∧ Below w.heap.size w w' := fun w' hb h => ⟨none, 0, [], 170, rfl, Reads.nil_ _ _ _, .inr ⟨h, rfl, rfl⟩, hb⟩
 cases hin : joinsB x1 x2 with
 | false =>
  refine (encodeConsistency_out x1 x2 A n c w hin).mono ?_
  rintro e w' ⟨rfl, hb⟩
  refine hno w' hb ?_
  unfold consWant
  rw [if_neg (fun h => by rw [hin] at h; exact absurd h.1 (by decide))]
 | true =>
  have hin2 := hin
  simp only [joinsB, Bool.and_eq_true, decide_eq_true_eq] at hin2
  obtain ⟨sz, rfl⟩ := Int.eq_ofNat_of_zero_le (show 0 ≤ x1 by omega)
  obtain ⟨j, rfl⟩ := Int.eq_ofNat_of_zero_le (show 0 ≤ x2 by omega)
  by_cases hs : betw sz j = n
  ·refine (encodeConsistency_yes sz j (by omega) (by omega) l n hr.1 hr.2.1 A c w hr.2.2 (fun a h0 e => ?_) hs).mono ?_
   ·obtain ⟨b, o, e', hlt, -⟩ := hr.2.2.2 (by omega)
    rw [e] at e'
    obtain rfl := Option.some.inj e'
    exact hlt
   rintro e w' ⟨v, rfl, hb, ho⟩
   obtain ⟨A4, c4, rfl, hc4, hn4, hr4, -⟩ := own_reads ho
   have hbl : (consBytes sz j l).length = 17 + 32 * n := by rw [consBytes_len _ _ _ hr.2.1, hr.1]
   refine ⟨A4, c4, consBytes sz j l, 0, by rw [hbl], by rw [hbl]; exact hr4, .inl ⟨?_, rfl⟩, hb⟩
   unfold consWant
   rw [Int.toNat_natCast, Int.toNat_natCast, if_pos ⟨hin, by rw [hs, hr.1]⟩]
  ·refine (encodeConsistency_no sz j (by omega) (by omega) A n c w hs).mono ?_
   rintro e w' ⟨rfl, hb⟩
   refine hno w' hb ?_
   unfold consWant
   rw [Int.toNat_natCast, Int.toNat_natCast, if_neg (fun h => hs (by rw [h.2, hr.1]))]

end Go.Proofs.YtmdkfhfkdcbpgaaDoorR.EncConsAny
