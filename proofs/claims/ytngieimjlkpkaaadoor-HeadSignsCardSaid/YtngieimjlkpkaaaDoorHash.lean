/-
  The program's hasher, walked: begin, New, Write, Sum; Sum of a text.
-/
import Derived.Test.YtngieimjlkpkaaaDoorHashMem
import Derived.Test.YtngieimjlkpkaaaDoorShaWalk
import Derived.Test.YtngieimjlkpkaaaDoorRows
import Derived.Deep.Cut
import Derived.Deep.CutRange
namespace Go.Proofs.YtngieimjlkpkaaaDoor.Hash
open Go Go.RowKit Go.Proofs.YtngieimjlkpkaaaDoor Go.Proofs.YtngieimjlkpkaaaDoor.Mem Go.Proofs.YtngieimjlkpkaaaDoor.Sha Go.Proofs.YtngieimjlkpkaaaDoor.ShaWalk Go.Proofs.YtngieimjlkpkaaaDoor.Bytes Go.Proofs.YtngieimjlkpkaaaDoor.HashMem

set_option maxRecDepth 100000 in
theorem begin_any (w : World) : Calls Tryd.prog 85 #[] w fun e w' =>
    e = .returned (.agg #[.int .u32 (u init.a), .int .u32 (u init.b), .int .u32 (u init.c), .int .u32 (u init.d), .int .u32 (u init.e), .int .u32 (u init.f), .int .u32 (u init.g), .int .u32 (u init.h)]) ∧ Below w.heap.size w w' := by
  go_enter Tryd.func85, Tryd.ntmps85
  go_wp2_with fail
  refine bodyPost_ret (results_cell_row rfl _ _ w.heap.size 112 _ (0, 0) _ rfl (heap_alloc_new w _) Tryd.underlying112 rfl (by kernel_rfl)) rfl ?_
  exact ⟨rfl, (Below.refl _ _).alloc (Nat.le_refl _) _⟩

set_option maxRecDepth 100000 in
theorem new_any (w : World) : Calls Tryd.prog 71 #[] w fun e w' => ∃ g, e = .returned (.pointer (some ⟨g, 0, none⟩)) ∧ w.heap.size ≤ g ∧ Hh w' g [] ∧ Below w.heap.size w w' := by
  go_enter Tryd.func71, Tryd.ntmps71
  go_wp2_with (go_at_call 85; refine (begin_any _).mono ?_; rintro e w1 ⟨rfl, hb1⟩)
  go_ret
  exact ⟨_, rfl, hb1.size, Hh.init_ (by kernel_rfl) (by kernel_rfl) (by kernel_rfl) (heap_alloc_new w1 _), hb1.alloc hb1.size _⟩

def lenV : Value → Nat
  | .slice _ n _ => n
  | _ => 0

set_option maxRecDepth 100000 in
set_option maxHeartbeats 600000 in
theorem write_any (l q : Text) (g : Nat) (A : Option Addr) (c : Nat) (w : World) (hB : Base w) (hg2 : g ≠ 2) (hh : Hh w g l) (hlen : l.length + q.length < 2305843009213693952)
    (hr : Reads w 1 A q.length (cells8 q)) (hA : 0 < q.length → Off A g) (hc : q.length ≤ c) :
    Calls Tryd.prog 72 #[.pointer (some ⟨g, 0, none⟩), .slice A q.length c] w fun e w' => e = .returned (.tuple #[]) ∧ Hh w' g (l ++ q) ∧ Kept (· = g) w w' := by
  obtain ⟨cs, hC⟩ := hh
  replace hC := Lib.hid (hC.lift q)
  have c72 : w.cell? ⟨g, 72, none⟩ = some (.int .u64 (l.length : Int)) := (hC.out.blk.cell 72).trans hC.out.cnt
  have hBh := Lib.hid hB
  have hrh := Lib.hid hr
  have hAh := Lib.hid hA
  replace hlen := Lib.hid hlen
  clear hB hr hA
  obtain ⟨n, hn⟩ : ∃ n, Hid (n = l.length) := ⟨_, rfl⟩
  obtain ⟨k, hk⟩ : ∃ k, Hid (k = q.length) := ⟨_, rfl⟩
  obtain ⟨a, ha⟩ : ∃ a, Hid (a = n % 64) := ⟨_, rfl⟩
  obtain ⟨i, hi⟩ : ∃ i, Hid (i = n / 64) := ⟨_, rfl⟩
  rw [← hn.out] at c72 hC hlen
  rw [← hk.out] at hlen hrh hAh hc ⊢
  rw [← ha.out, ← hi.out] at hC
  have hna : Hid (n = 64 * i + a ∧ a < 64) := by have := ha.out; have := hi.out; exact ⟨by omega, by omega⟩
  have e1 : (n : Int) % 64 = (a : Int) := by have := ha.out; omega
  have a64 : a < 64 := hna.out.2
  have az : (a : Int) < 64 := by omega
  have hX : ∀ (A : Option Addr) (n c m : Nat), m ≤ n → ∀ w, (Instr.sliceAt 28 (.slice A n c) (some (.int .i64 (m : Int))) none none).run Tryd.prog w = .ok (.slice (cutA A m c) (n - m) (c - m)) w := fun A n c m hm w => run_cut Tryd.underlying28 (fun _ => rfl) hm w
  go_enter Tryd.func72, Tryd.ntmps72
  go_upto_if 13 with fail
  go_cut [1] from 4 to 44 (fun p wc => ∃ (d r i' : Nat) (A' : Option Addr) (c' : Nat) (cs' : Array Value), p = .slice A' r c' ∧ r ≤ c' ∧ Hid (r + d = k) ∧ Hid (n + d = 64 * i') ∧ Hid (HC wc g (fold (l ++ q) i') 0 (blockF (l ++ q) i') (n + d) cs') ∧ Hid (Reads wc 1 A' r (cells8 (q.drop d))) ∧ Hid (0 < r → Off A' g) ∧ Hid (Kept (· = g) w wc))
  case first =>
    by_cases hz : 0 < a
    · have hzI : (0 : Int) < (a : Int) := by omega
      obtain ⟨m, hm⟩ : ∃ m, Hid (m = min k (64 - a)) := ⟨_, rfl⟩
      have hmk : m ≤ k := by have := hm.out; omega
      have hm64 : a + m ≤ 64 := by have := hm.out; omega
      have hml : (cells8 (q.take m)).length = m := by rw [cells8_len, List.length_take, ← hk.out]; omega
      have s1 := Lib.hid (hml.trans (show m = Nat.min k (64 - a) from hm.out))
      have s2 : Hid (0 < (cells8 (q.take m)).length → (some (⟨g, 8 + a, none⟩ : Addr) = some ⟨g, 8 + a, none⟩ ∧ ∃ ad, A = some ad ∧ ∀ j v, (cells8 (q.take m))[j]? = some v → w.cell? (ad.add j) = some v)) := fun h => ⟨rfl, Reads.src hrh.out m hmk (by omega)⟩
      have s3 : Hid (8 + a + (cells8 (q.take m)).length ≤ cs.size) := by show 8 + a + (cells8 (q.take m)).length ≤ cs.size; have := hC.out.size; omega
      have s4 := Lib.hid (cells8_one (q.take m))
      have hmlh := Lib.hid hml
      clear hml
      have X1 := hX A k c m hmk
      have X2 : ∀ w, (Instr.sliceAt 111 (.pointer (some ⟨g, 8, none⟩)) (some (.int .i64 (a : Int))) none none).run Tryd.prog w = .ok (.slice (some ⟨g, 8 + a, none⟩) (64 - a) (64 - a)) w := run_cutArr (N := 64) Tryd.underlying111 (by kernel_rfl) (fun _ => rfl) a64
      clear hX
      have qw : IntKind.u64.wrap ((n : Int) + (m : Int)) = (n : Int) + (m : Int) := by have := hlen.out; exact u64_in _ (by omega) (by omega)
      have qs : IntKind.i64.wrap ((a : Int) + (m : Int)) = (a : Int) + (m : Int) := IntWalk.i64_in _ (by omega)
      clear e1
      by_cases hful : (a : Int) + (m : Int) < 64
      · go_wp2_with ((with_reducible change wpList _ _ _ ({ dst := some 20, op := _, type := _, pos := _, after := _, guard := _ } :: _) _ _); refine wpList_copy_into (o := ⟨some 20, _, _, _, _, _⟩) rfl (.tmp 18) (.tmp 19) 28 28 rfl 5 Tryd.underlying28 size8 (some ⟨g, 8 + a, none⟩) A (64 - a) (64 - a) k c rfl rfl g (8 + a) cs 115 hC.out.blk (cells8 (q.take m)) s1.out s2.out s3.out s4.out w (Kept.refl _ _) m hmlh.out ?_; intro w1 hb1 hk1; obtain ⟨cs1, hC1⟩ : ∃ cs1, Hid (HC w1 g (fold (l ++ q) i) (a + m) (blockF (l ++ q) i) n cs1) := ⟨_, (hC.out.copied q m (by rw [← hk.out]; exact hmk) hm64 hb1.out).less (Nat.le_refl _) (fun j _ => (blockF_right l q i a j (hn.out.symm.trans hna.out.1)).symm)⟩; have c1 := (hC1.out.blk.cell 72).trans hC1.out.cnt; have f1 := hC1.out.blk.frozen 72; clear hb1)
        refine bodyPost_ret (results_none rfl _ _ _) rfl ?_
        have hmk2 : m = k := by have := hm.out; omega
        have e : (l ++ q).length = n + m := by rw [List.length_append, ← hn.out, ← hk.out]; omega
        have hc2 := hC1.out.count hm64 (n + m)
        refine ⟨rfl, Hh.mk_ (i := i) (r := a + m) (by omega) (by have := hna.out.1; omega) (by rw [e]; exact hc2), hk1.setCell (.inl rfl) _⟩
      · have hfe : (a : Int) + (m : Int) = 64 := by omega
        have am : Hid (a + m = 64) := by show a + m = 64; omega
        clear hful
        go_wp2_with ((with_reducible change wpList _ _ _ ({ dst := some 20, op := _, type := _, pos := _, after := _, guard := _ } :: _) _ _); refine wpList_copy_into (o := ⟨some 20, _, _, _, _, _⟩) rfl (.tmp 18) (.tmp 19) 28 28 rfl 5 Tryd.underlying28 size8 (some ⟨g, 8 + a, none⟩) A (64 - a) (64 - a) k c rfl rfl g (8 + a) cs 115 hC.out.blk (cells8 (q.take m)) s1.out s2.out s3.out s4.out w (Kept.refl _ _) m hmlh.out ?_; intro w1 hb1 hk1; obtain ⟨cs1, hC1⟩ : ∃ cs1, Hid (HC w1 g (fold (l ++ q) i) (a + m) (blockF (l ++ q) i) n cs1) := ⟨_, (hC.out.copied q m (by rw [← hk.out]; exact hmk) hm64 hb1.out).less (Nat.le_refl _) (fun j _ => (blockF_right l q i a j (hn.out.symm.trans hna.out.1)).symm)⟩; have c1 := (hC1.out.blk.cell 72).trans hC1.out.cnt; have f1 := hC1.out.blk.frozen 72; clear hb1)
        obtain ⟨cs2, hC2, hk2⟩ : ∃ cs2, Hid (HC (w1.setCell ⟨g, 72, none⟩ (.int .u64 ((n : Int) + (m : Int)))) g (fold (l ++ q) i) 64 (blockF (l ++ q) i) (n + m) cs2) ∧ Hid (Kept (· = g) w (w1.setCell ⟨g, 72, none⟩ (.int .u64 ((n : Int) + (m : Int))))) :=
          ⟨_, by rw [← am.out]; exact hC1.out.count (by omega) (n + m), hk1.setCell (.inl rfl) _⟩
        generalize w1.setCell ⟨g, 72, none⟩ (.int .u64 ((n : Int) + (m : Int))) = w2 at *
        have hB2 := Lib.hid (hBh.out.kept hk2.out (fun e => hg2 e.symm))
        go_still_tail 7, (by kernel_rfl)
        change wpList _ _ _ _ _ w2.drew
        go_wp2_with (go_at_call 86; refine (take_any g 115 cs2 (fold (l ++ q) i) g 8 64 (blockF (l ++ q) i) w2.drew hC2.out.blk hC2.out.st (fun j hj => (hC2.out.blk.cell (8 + j)).trans (hC2.out.buf j hj)) hC2.out.blk.lt hB2.out.2 hB2.out.1).mono ?_; rintro e w3 ⟨rfl, cs3, hI⟩)
        go_meet
        case rel =>
          have hk3 : Kept (· = g) w w3 := hk2.out.drew.trans hI.kept (fun _ _ h => h)
          refine ⟨m, k - m, i + 1, _, _, cs3, rfl, by omega, ?_, ?_, ?_, ?_, fun h => cutA_off (hAh.out (by omega)), hk3⟩
          · show k - m + m = k; omega
          · show n + m = 64 * (i + 1); have := hna.out.1; omega
          · show HC _ _ _ _ _ _ _
            rw [fold_succ]
            exact (HC.took (f' := blockF (l ++ q) i) (w := w2.drew) (hC2.out.drewN 1) hI).less (Nat.zero_le _) (fun j hj => absurd hj (by omega))
          · show Reads _ _ _ _ _
            have h1 := Reads.cut hrh.out m hmk hc
            have h2 : (cells8 q).drop m = cells8 (q.drop m) := by simp [cells8]
            rw [h2] at h1
            exact h1.kept0 hk3 (fun h b o e hb => cutA_off (hAh.out (by omega)) _ e hb)
    · have az0 : a = 0 := by omega
      have az1 : (a : Int) = 0 := by omega
      go_wp2_with fail
      go_meet
      case rel =>
        refine ⟨0, k, i, A, c, cs, rfl, hc, rfl, ?_, ?_, ?_, hAh.out, Kept.refl _ _⟩
        · show n + 0 = 64 * i; have := hna.out.1; omega
        · exact hC.out.less (Nat.zero_le _) (fun j hj => absurd hj (by omega))
        · exact hrh.out
  case rest =>
    obtain ⟨d0, r0, i0, A0, c0, cs0, rfl, hrc0, hrd0, hnd0, hC0, hR0, hO0, hK0⟩ := hcut
    clear c72 hrh hAh hC az e1 a64 hX
    obtain ⟨w9, rfl⟩ : ∃ w9 : World, w9 = wc := ⟨_, rfl⟩
    go_wp2_with fail
    go_loopw [1] (fun p wc => ∃ (d r i' : Nat) (A' : Option Addr) (c' : Nat) (cs' : Array Value), p = .slice A' r c' ∧ r ≤ c' ∧ Hid (r + d = k) ∧ Hid (n + d = 64 * i') ∧ Hid (HC wc g (fold (l ++ q) i') 0 (blockF (l ++ q) i') (n + d) cs') ∧ Hid (Reads wc 1 A' r (cells8 (q.drop d))) ∧ Hid (0 < r → Off A' g) ∧ Hid (Kept (· = g) w wc)) (fun p _ => lenV p)
    case atStart => exact ⟨d0, r0, i0, A0, c0, cs0, rfl, hrc0, hrd0, hnd0, hC0, hR0, hO0, hK0⟩
    case round =>
      clear hC0 hR0 hO0 hK0 hrd0 hnd0 hrc0
      obtain ⟨d, r, j, A1, c1, cs1, rfl, hrc, hrd, hnd, hC1, hR1, hO1, hK1⟩ := hrel
      have hB1 := Lib.hid (hBh.out.kept hK1.out (fun e => hg2 e.symm))
      by_cases h64 : (64 : Int) ≤ (r : Int)
      · obtain ⟨b, o, hA1⟩ : ∃ b o, A1 = some ⟨b, o, none⟩ := by obtain ⟨b, o, e, _⟩ := hR1.out.2 (by omega); exact ⟨b, o, e⟩
        subst hA1
        have hbl : b < wr.heap.size := by obtain ⟨b', o', e, hb, _⟩ := hR1.out.2 (by omega); injection e with e; injection e with e1; omega
        have hblh := Lib.hid hbl
        clear hbl
        have X3 : ∀ w, (Instr.sliceAt 28 (.slice (some ⟨b, o, none⟩) r c1) none (some (.int .i64 64)) none).run Tryd.prog w = .ok (.slice (some ⟨b, o, none⟩) 64 c1) w := run_cutH (m := 64) Tryd.underlying28 (fun _ => rfl) (by omega)
        have X4 : ∀ w, (Instr.sliceAt 28 (.slice (some ⟨b, o, none⟩) r c1) (some (.int .i64 64)) none none).run Tryd.prog w = .ok (.slice (cutA (some ⟨b, o, none⟩) 64 c1) (r - 64) (c1 - 64)) w := run_cut (m := 64) Tryd.underlying28 (fun _ => rfl) (by omega)
        go_wp2_with fail
        go_still_tail 5, (by kernel_rfl)
        change wpList _ _ _ _ _ wr.drew
        go_wp2_with (go_at_call 86; refine (take_any g 115 cs1 (fold (l ++ q) j) b o c1 (blockF (l ++ q) j) wr.drew hC1.out.blk hC1.out.st (fun x hx => (Reads.blk8 hR1.out x (by omega)).trans (by rw [blockF_q l q j d x (by rw [← hn.out]; exact hnd.out)])) hblh.out hB1.out.2 hB1.out.1).mono ?_; rintro e w3 ⟨rfl, cs3, hI⟩; obtain ⟨cs4, hC4⟩ : ∃ cs4, Hid (HC w3 g (fold (l ++ q) (j + 1)) 0 (blockF (l ++ q) (j + 1)) (n + d) cs4) := ⟨cs3, by rw [fold_succ]; exact (HC.took (f' := blockF (l ++ q) j) (w := wr.drew) (hC1.out.drewN 1) hI).less (Nat.zero_le _) (fun j hj => absurd hj (by omega))⟩; have c4 := (hC4.out.blk.cell 72).trans hC4.out.cnt; have f4 := hC4.out.blk.frozen 72; have k4 := Lib.hid hI.kept; have qw : IntKind.u64.wrap ((n : Int) + (d : Int) + 64) = (n : Int) + (d : Int) + 64 := (by have := hlen.out; have := hrd.out; exact u64_in _ (by omega) (by omega)); clear hI)
        go_roundw
        case rel =>
          have hk4 : Kept (· = g) w w3 := hK1.out.drew.trans k4.out (fun _ _ h => h)
          have h1 := Reads.cut hR1.out 64 (by omega) hrc
          have h2 : (cells8 (q.drop d)).drop 64 = cells8 (q.drop (d + 64)) := by simp [cells8]
          rw [h2] at h1
          have hk5 : Kept (· = g) wr (w3.setCell ⟨g, 72, none⟩ (.int .u64 ((n : Int) + (d : Int) + 64))) := ((Kept.refl (· = g) wr).drew.trans k4.out (fun _ _ h => h)).setCell (p := ⟨g, 72, none⟩) (.inl rfl) _
          have hs : n + (d + 64) = n + d + 64 := by omega
          refine ⟨d + 64, r - 64, j + 1, _, _, cs4.setIfInBounds 72 (.int .u64 ((n + d + 64 : Nat) : Int)), rfl, by omega, ?_, ?_, ?_, h1.kept0 hk5 (fun h b o e hb => cutA_off (hO1.out (by omega)) _ e hb), fun h => cutA_off (hO1.out (by omega)), hk4.setCell (.inl rfl) _⟩
          · show r - 64 + (d + 64) = k; have := hrd.out; omega
          · show n + (d + 64) = 64 * (j + 1); have := hnd.out; omega
          · rw [hs]; exact hC4.out.count (by omega) (n + d + 64)
        case measure => simp [lenV]; omega
      · have h63 : (r : Int) < 64 := by omega
        clear h64
        go_wp2_with fail
        have cc := (hC1.out.blk.cell 72).trans hC1.out.cnt
        have fc := hC1.out.blk.frozen 72
        have hdl : (q.drop d).length = r := by have := hR1.out.1; rw [cells8_len] at this; omega
        have hml : (cells8 ((q.drop d).take r)).length = r := by rw [cells8_len, List.length_take, hdl]; omega
        have s1 : Hid ((cells8 ((q.drop d).take r)).length = Nat.min r 64) := hml.trans (Nat.min_eq_left (by omega)).symm
        have s2 : Hid (0 < (cells8 ((q.drop d).take r)).length → (some (⟨g, 8, none⟩ : Addr) = some ⟨g, 8 + 0, none⟩ ∧ ∃ ad, A1 = some ad ∧ ∀ j v, (cells8 ((q.drop d).take r))[j]? = some v → wr.cell? (ad.add j) = some v)) := fun h => ⟨rfl, Reads.src hR1.out r (Nat.le_refl _) (by omega)⟩
        have s3 : Hid (8 + 0 + (cells8 ((q.drop d).take r)).length ≤ cs1.size) := by show 8 + 0 + (cells8 ((q.drop d).take r)).length ≤ cs1.size; have := hC1.out.size; omega
        have s4 := Lib.hid (cells8_one ((q.drop d).take r))
        have hmlh := Lib.hid hml
        have hdlh := Lib.hid hdl
        have qw : IntKind.u64.wrap ((n : Int) + (d : Int) + (r : Int)) = (n : Int) + (d : Int) + (r : Int) := by have := hlen.out; have := hrd.out; exact u64_in _ (by omega) (by omega)
        have qr : IntKind.u64.wrap (r : Int) = (r : Int) := by exact u64_in _ (by omega) (by omega)
        clear hml hdl
        go_region_law (refine step_copy_into (P := Tryd.prog) (w := wr.drew) (o := ⟨some 72, _, _, _, _, _⟩) rfl (.tmp 70) (.tmp 71) 28 28 rfl 5 Tryd.underlying28 size8 (some ⟨g, 8, none⟩) A1 64 64 r c1 ?hd ?hs g (8 + 0) cs1 115 hC1.out.blk (cells8 ((q.drop d).take r)) s1.out s2.out s3.out s4.out wr ((Kept.refl _ wr).drew) r hmlh.out ?_; (case hd => go_simp); (case hs => go_simp); intro w5 hb5 hk5; obtain ⟨cs5, hC5⟩ : ∃ cs5, Hid (HC w5 g (fold (l ++ q) j) r (blockF (l ++ q) j) (n + d) cs5) := ⟨_, (hC1.out.copied (q.drop d) r (by rw [hdlh.out]; exact Nat.le_refl _) (by omega) hb5.out).less (by omega) (fun x _ => by rw [blockF_q l q j d x (by rw [← hn.out]; exact hnd.out), if_neg (by omega)]; simp [List.getD])⟩; have c5 := (hC5.out.blk.cell 72).trans hC5.out.cnt; have f5 := hC5.out.blk.frozen 72; clear hb5)
        all_goals go_end0
        all_goals
          have eL : (l ++ q).length = n + d + r := by rw [List.length_append, ← hn.out, ← hk.out]; have := hrd.out; omega
          have hc6 := hC5.out.count (by omega) (n + d + r)
          refine ⟨rfl, Hh.mk_ (i := j) (r := r) (by omega) (by have := hnd.out; omega) (by rw [eL]; exact hc6), ?_⟩
          exact (hK1.out.trans hk5 (fun _ _ h => h)).setCell (p := ⟨g, 72, none⟩) (.inl rfl) _
end Go.Proofs.YtngieimjlkpkaaaDoor.Hash
