/-
  Texts of the claim, put into one file: RefAhead, ThirdP.
-/
import Derived.Test.YtmdkfhfkdcbpgaaDoorRZ31
import Derived.Test.YtmdkfhfkdcbpgaaDoorRZ9
import Derived.Test.YtmdkfhfkdcbpgaaDoorRZ30

namespace Go.Proofs.YtmdkfhfkdcbpgaaDoorR.RefAhead
open Go Go.RowKit Go.Proofs.YtmdkfhfkdcbpgaaDoorR Digest Mem Sha ShaWalk Bytes Go.Proofs.YtmdkfhfkdcbpgaaDoorR.Append HashMem DigestMem DigestTop RefTop QuietTail Grown Chain TreeMath TreeMem TreeRoot Held Guard Book Node WayP TreeRefRoot Sides RefSides Climb Incl Subs RowsP Joint SubRef RefIncl0 AheadM AheadT RefAhead0 RefCut

def RfPost (w : World) (Z : Ah) (e : Ending) (w' : World) : Prop := ∃ A c xs, e = .returned (.tuple #[.agg (cells8 Z.fr).toArray, .agg (cells8 Z.sr).toArray, .slice A (Z.ft.length + Z.st.length) c, .int .i64 0]) ∧ Reads w' 1 A (Z.ft.length + Z.st.length) xs ∧ Tx w' xs (Z.ft ++ Z.st) ∧ Below w.heap.size w w'
def RfOwn (w : World) (Z : Ah) (e : Ending) (w' : World) : Prop := ∃ A c xs, e = .returned (.tuple #[.agg (cells8 Z.fr).toArray, .agg (cells8 Z.sr).toArray, .slice A (Z.ft.length + Z.st.length) c, .int .i64 0]) ∧ (A = none → Z.ft.length + Z.st.length = 0 ∧ c = 0) ∧ Reads w' 1 A (Z.ft.length + Z.st.length) xs ∧ Tx w' xs (Z.ft ++ Z.st) ∧ Below w.heap.size w w'
set_option maxRecDepth 100000 in
set_option maxHeartbeats 4000000 in
theorem refahead_own (s : Int) (hs63 : s < 9223372036854775808) (old size : Nat) (h1 : 1 ≤ old) (h2 : old < size) (hs : size ≤ 1099511627776) (root : Text) (hrt : root.length = 32) (ds : List Text) (A : Option Addr) (n c : Nat) (hn : betw old size = n) (w : World) (hr : RdD w A n ds) :
  Calls Tryd.prog 105 #[.int .i64 s, .int .i64 (old : Int), .int .i64 (size : Int), .agg (cells8 root).toArray, .slice A n c] w (RfOwn w (aheadOf s old size root ds)) := by
 obtain ⟨i0, ii, iz0, iz1, iz2⟩ := info_partsN infoT
 obtain ⟨j0, ji, jz0, jz1, jz2⟩ := info_partsN info32
 obtain ⟨q, a, hm⟩ := odd_of old h1
 obtain ⟨Zf, DD, x0, N, hpl⟩ := plan s (root := root) (ds := ds) h1 h2 hs hrt hr.2.1 (by rw [hn, hr.1]) hm
 rw [hpl.last]
 have hn41 : Hid (n ≤ 41) := by show _ ≤ _; rw [← hn]; exact betw_le (by omega) hs
 have hPt := Lib.hid (fun w' => rows_any old size (by omega) hs w')
 have hpn : Hid ((partsOf old size).length = n) := by show _ = _; rw [partsOf_len (by omega), hn]
 have hAtA := Lib.hid (At.up hm (Nat.le_of_lt h2) a (Nat.le_refl a))
 have hodd := Lib.hid (fun k (h : k < a) => @odd_level q a k h)
 have heven := Lib.hid (@even_level q a)
 rw [← hm] at hodd heven
 have hz1 : (w.alloc (.cells (cells8 root).toArray 23)).heap.size = w.heap.size + 1 := by simp
 have hz2 : ((w.alloc (.cells (cells8 root).toArray 23)).alloc (.cells Z32 23)).heap.size = w.heap.size + 2 := by simp
 have hz3 : (((w.alloc (.cells (cells8 root).toArray 23)).alloc (.cells Z32 23)).alloc (.cells Z32 23)).heap.size = w.heap.size + 3 := by simp
 have hb0 : Hid (Below w.heap.size w (((w.alloc (.cells (cells8 root).toArray 23)).alloc (.cells Z32 23)).alloc (.cells Z32 23))) := ((Below.heap_below w _).alloc (by simp) _).alloc (by simp; omega) _
 have hR0 : Hid (Blk (((w.alloc (.cells (cells8 root).toArray 23)).alloc (.cells Z32 23)).alloc (.cells Z32 23)) w.heap.size 23 (cells8 root).toArray) := ((Blk.new w _ _).alloc _).alloc _
 have hA0 : Hid (Blk (((w.alloc (.cells (cells8 root).toArray 23)).alloc (.cells Z32 23)).alloc (.cells Z32 23)) (w.heap.size + 1) 23 Z32) := by
  have := (Blk.new (w.alloc (.cells (cells8 root).toArray 23)) 23 Z32).alloc (.cells Z32 23)
  rwa [hz1] at this
 have hE0 : Hid (Blk (((w.alloc (.cells (cells8 root).toArray 23)).alloc (.cells Z32 23)).alloc (.cells Z32 23)) (w.heap.size + 2) 23 Z32) := by
  have := Blk.new ((w.alloc (.cells (cells8 root).toArray 23)).alloc (.cells Z32 23)) 23 Z32
  rwa [hz2] at this
 have hN0 : Hid (Blk ((((w.alloc (.cells (cells8 root).toArray 23)).alloc (.cells Z32 23)).alloc (.cells Z32 23)).alloc (.cells Z32 23)) (w.heap.size + 3) 23 Z32) := by
  have := Blk.new (((w.alloc (.cells (cells8 root).toArray 23)).alloc (.cells Z32 23)).alloc (.cells Z32 23)) 23 Z32
  rwa [hz3] at this
 have hz3h := Lib.hid hz3
 have Fr := Lib.hid (fit (x := root) hrt)
 have Fx := Lib.hid (fit (x := x0) hpl.x32)
 have hob : Hid (1 ≤ old ∧ old < size ∧ size ≤ 1099511627776) := ⟨h1, h2, hs⟩
 have hmh := Lib.hid hm
 have hap : Hid ((2 * q + 1) * 2 ^ a ≤ 1099511627776) := by show _ ≤ _; omega
 have y1 : decide ((old : Int) < 0) = false := decide_eq_false (by omega)
 have y2 : decide (size < old) = false := decide_eq_false (by omega)
 have y3 : decide (1099511627776 < (size : Int)) = false := decide_eq_false (by omega)
 have y4 : ((old : Int) == 0) = false := beq_eq_false_iff_ne.2 (by omega)
 have y5 : ((old : Int) == (size : Int)) = false := beq_eq_false_iff_ne.2 (by omega)
 have y6 : ¬ old = 0 := by omega
 have y7 : ¬ old = size := by omega
 have y8 : ¬ size < old := by omega
 replace hr := Lib.hid hr
 replace hs63 := Lib.hid hs63
 replace hpl := Lib.hid hpl
 replace hrt := Lib.hid hrt
 clear hs hz1 hz2 hz3 hm h1 h2 hn
 go_enter Tryd.func105, Tryd.ntmps105
 go_wp2_with ((with_reducible change wpList _ _ _ ({ dst := none, op := Op.store 23 (.tmp 14) _, type := _, pos := _, after := _, guard := _ } :: _) _ _); refine wpList_store_whole (o := ⟨none, _, _, _, _, _⟩) rfl 23 (.tmp 14) (.tmp 25) rfl (w.heap.size + 3) (Z32) rfl rfl 23 (Z32) hN0.out size32' rfl one32 ?_; intro w1 hN1 hk1; have hb1 : Hid (Below w.heap.size w w1) := (hb0.out.alloc (by have := hz3h.out; omega) _).trans (Kept.below_of hk1 (by omega) (by have := hz3h.out; simp; omega)); have hR1 : Hid (Blk w1 w.heap.size 23 (cells8 root).toArray) := (hR0.out.alloc _).kept hk1 (by omega); have hA1 : Hid (Blk w1 (w.heap.size + 1) 23 Z32) := (hA0.out.alloc _).kept hk1 (by omega); have hE1 : Hid (Blk w1 (w.heap.size + 2) 23 Z32) := (hE0.out.alloc _).kept hk1 (by omega); have hs1 : Hid (w.heap.size + 4 ≤ w1.heap.size) := (by have := hk1.size; have h2 := hz3h.out; show _ ≤ _; simp at this; omega); clear hb0 hR0 hA0 hE0 hN0 hz3h hk1 hN1)
 refine (hPt.out _).mono ?_
 rintro e w2 ⟨v, rfl, hO, hk2⟩
 rw [hpn.out] at hO
 obtain ⟨Ap, cp, rfl, -⟩ := Append.Own.reads hO
 have hb2 : Hid (Below w.heap.size w w2) := hb1.out.trans (hk2.mono hb1.out.size)
 have hR2 : Hid (Blk w2 w.heap.size 23 (cells8 root).toArray) := (hk2.block _ hR1.out.lt).trans hR1.out
 have hA2 : Hid (Blk w2 (w.heap.size + 1) 23 Z32) := (hk2.block _ hA1.out.lt).trans hA1.out
 have hE2 : Hid (Blk w2 (w.heap.size + 2) 23 Z32) := (hk2.block _ hE1.out.lt).trans hE1.out
 have hs2 : Hid (w.heap.size + 4 ≤ w2.heap.size) := by have := hk2.size; have := hs1.out; show _ ≤ _; omega
 have y9 : ((n : Int) == (n : Int)) = true := beq_self_eq_true _
 clear hO hk2 hR1 hA1 hE1 hs1 hb1 hPt hpn y1 y2 y3 y4 y5 y6 y7 y8
 go_wp2_with fail
 clear y9
 have hfirst : Hid ((old : Int) = (((2 * q + 1) * 2 ^ a : Nat) : Int)) := by show _ = _; rw [← hmh.out]
 go_loop [16] (fun v => ∃ p k : Nat, v = .int .i64 (p : Int) ∧ Hid (k ≤ a) ∧ Hid (p = (2 * q + 1) * 2 ^ k)) (fun v => (intOf v).toNat)
 case atStart => exact ⟨old, a, rfl, Nat.le_refl _, hmh.out⟩
 case round =>
  obtain ⟨p, k, rfl, hka, hpk⟩ := hrel
  have hp40 : (p : Int) ≤ 1099511627776 := by
   have h1 : (2 * q + 1) * 2 ^ k ≤ (2 * q + 1) * 2 ^ a := Nat.mul_le_mul_left _ (Nat.pow_le_pow_right (by decide) hka.out)
   have h2 := hpk.out
   have h3 := hap.out
   omega
  have hp0 : (0 : Int) ≤ (p : Int) := by omega
  rcases Nat.eq_zero_or_pos k with hk0 | hk0
  ·have hpq : Hid (p = 2 * q + 1) := by show _ = _; rw [hpk.out, hk0]; simp
   have hm1 : (p : Int) % 2 = 1 := by have := hpq.out; omega
   have hm2 : (p : Int).tmod 2 = 1 := by rw [Int.tmod_eq_emod_of_nonneg hp0]; exact hm1
   clear hk0 hpk hka hm1
   go_upto_if 65 with fail
   go_cut [15] from 64 to 69 (fun v wr => ∃ A2 c2, v = .slice A2 N c2 ∧ Hid (RdD wr A2 N DD) ∧ Hid (Below w2.heap.size w2 wr))
   case first =>
    by_cases hq0 : q = 0
    ·have hp1 : p = 1 := by have := hpq.out; omega
     have hDe : Hid (DD = root :: ds) := by show _ = _; rw [hpl.out.d, if_pos hq0]
     have hNn : Hid (N = n + 1) := by show _ = _; rw [← hpl.out.len, hDe.out, List.length_cons, hr.out.1]
     subst hp1
     clear hpq hm2 hq0
     have hq1 : Hid (∀ v ∈ [cells8 root], v.length = 32) := fun v hv => by simp only [List.mem_singleton] at hv; rw [hv, cells8_len]; exact hrt.out
     have hx1 : Hid (([cells8 root].flatten).toArray = (cells8 root).toArray) := by show _ = _; simp
     have hown : Hid ((w2.alloc (.cells (cells8 root).toArray 23)).ownsRow w2.heap.size 23 32 (.slice (some ⟨w2.heap.size, 0, none⟩) 1 1) 1 (cells8 root)) := own_new32 w2 _ (Nat.le_refl _) root hrt.out
     have hbn : Hid (Below w2.heap.size w2 (w2.alloc (.cells (cells8 root).toArray 23))) := Below.heap_below w2 _
     have hrn := Lib.hid ((hr.out.below hb2.out).below hbn.out)
     have hnil : Hid (A = none → n = 0 ∧ c = 0) := fun e => by
      have h1 := hNn.out
      have h2 := hpl.out.n2
      obtain ⟨b, o, e2, -⟩ := hr.out.2.2.at_ (by omega)
      rw [e] at e2
      cases e2
     have hc1 : Hid (1 + n ≤ maxLen) := by have := hn41.out; show _ ≤ _; unfold maxLen; omega
     have hc2 : Hid ((1 + n) * 32 ≤ 140737488355328) := by have := hn41.out; show _ ≤ _; omega
     have hone : Hid (∀ u ∈ ds.flatMap cells8, u.oneCell' = true) := fun u hu => by
      obtain ⟨d, -, hd⟩ := List.mem_flatMap.1 hu
      exact cells8_one d u hd
     go_wp2_with (first
      | ((with_reducible change wpList _ _ _ (⟨some 66, _, _, _, _, _⟩ :: _) _ _); refine wpList_load_row (o := ⟨some 66, _, _, _, _, _⟩) rfl 23 (.tmp 8) rfl (w.heap.size) rfl 23 ((cells8 root).toArray) (0, 0) _ hR2.out Tryd.underlying23 rfl Fr.out.size ?_)
      | ((with_reducible change wpList _ _ _ (⟨some 67, _, _, _, _, _⟩ :: _) _ _); refine wpList_buildAggs (o := ⟨some 67, _, _, _, _, _⟩) rfl 29 23 1 _ rfl 32 (by decide) [cells8 root] Tryd.underlying29 size31 zero31 rfl (by decide) (by decide) hq1.out rfl ?_; rw [hx1.out])
      | ((with_reducible change wpList _ _ _ (⟨some 69, _, _, _, _, _⟩ :: _) _ _); refine wpList_append_src _ (o := ⟨some 69, _, _, _, _, _⟩) rfl (.tmp 67) (.tmp 68) 29 rfl w2.heap.size 23 j0 (.agg Z32) 32 32 Tryd.underlying29 ji jz0 jz1 jz2 rfl (by decide) (.slice (some ⟨w2.heap.size, 0, none⟩) 1 1) 1 (cells8 root) rfl hown.out A n c (ds.flatMap cells8) rfl hrn.out.2.2 hnil.out hone.out hc1.out hc2.out (by simp) ?_; intro v4 w4 hG; obtain ⟨A4, c4, rfl, -⟩ := Own.reads hG.own; replace hG := Lib.hid hG))
     go_meet
     case rel =>
      refine ⟨A4, c4, by rw [hNn.out, Nat.add_comm], ?_, hG.out.below (Below.heap_below w2 _) (by simp) (fun k e => (hown.out.lt k e).1)⟩
      show RdD _ _ _ _
      rw [hNn.out, hDe.out]
      have hO4 := hG.out.own
      rw [Nat.add_comm 1 n] at hO4
      exact own_rd (ds := root :: ds) (by rw [List.flatMap_cons]; exact hO4) (by rw [← hDe.out]; exact hpl.out.dig) (by rw [List.length_cons, hr.out.1]) _ _ rfl
    ·have hp1 : ((p : Int) == 1) = false := beq_eq_false_iff_ne.2 (by have := hpq.out; omega)
     have hp2 : ¬ p = 1 := by have := hpq.out; omega
     have hDe : Hid (DD = ds) := by show _ = _; rw [hpl.out.d, if_neg hq0]
     have hNn : Hid (n = N) := by show _ = _; rw [← hpl.out.len, hDe.out, hr.out.1]
     clear hpq hm2 hq0
     go_wp2_with fail
     go_meet
     case rel => exact ⟨A, c, by rw [hNn.out], by show RdD _ _ _ _; rw [hDe.out, ← hNn.out]; exact hr.out.below hb2.out, Below.refl _ _⟩
   case rest =>
    obtain ⟨A2, c2, rfl, hrD, hb3⟩ := hcut
    obtain ⟨w3, rfl⟩ : ∃ w3 : World, w3 = wc := ⟨_, rfl⟩
    clear hr
    clear hpq hm2 hp40 hp0
    obtain ⟨o1, ho1⟩ : ∃ o1, Hid (o1 = old - 1) := ⟨_, Lib.hid rfl⟩
    obtain ⟨s1, hs1⟩ : ∃ s1, Hid (s1 = size - 1) := ⟨_, Lib.hid rfl⟩
    have ws1 : ((old : Int) - 1) = (o1 : Int) := by have := ho1.out; have := hob.out; omega
    have ws2 : ((size : Int) - 1) = (s1 : Int) := by have := hs1.out; have := hob.out; omega
    have ws3 : wrap64 (o1 : Int) = (o1 : Int) := by have := ho1.out; have := hob.out; exact IntWalk.wrap64_in _ (by omega)
    have ws4 : wrap64 (s1 : Int) = (s1 : Int) := by have := hs1.out; have := hob.out; exact IntWalk.wrap64_in _ (by omega)
    go_wp2_with fail
    clear ws1 ws2 ws3 ws4
    go_loop [17, 18] (fun x y => ∃ k f g : Nat, x = .int .i64 (f : Int) ∧ y = .int .i64 (g : Int) ∧ Hid (k ≤ a) ∧ Hid (f = o1 / 2 ^ k) ∧ Hid (g = s1 / 2 ^ k)) (fun x _ => (intOf x).toNat)
    case atStart => exact ⟨0, o1, s1, rfl, rfl, Nat.zero_le _, by show _ = _; simp, by show _ = _; simp⟩
    case round =>
     obtain ⟨k, f, g, rfl, rfl, hka, hf, hg⟩ := hrel
     have hf0 : (0 : Int) ≤ (f : Int) := by omega
     have hg0 : (0 : Int) ≤ (g : Int) := by omega
     have hf40 : (f : Int) < 1099511627776 := by have := Nat.div_le_self o1 (2 ^ k); have := hf.out; have := ho1.out; have := hob.out; omega
     have hg40 : (g : Int) < 1099511627776 := by have := Nat.div_le_self s1 (2 ^ k); have := hg.out; have := hs1.out; have := hob.out; omega
     by_cases hlt : k < a
     ·have hm1 : (f : Int) % 2 = 1 := by have h := hodd.out k hlt; rw [← ho1.out, ← hf.out] at h; omega
      have hm2 : (f : Int).tmod 2 = 1 := by rw [Int.tmod_eq_emod_of_nonneg hf0]; exact hm1
      have hf1 : (f : Int).tdiv 2 = ((f / 2 : Nat) : Int) := by rw [Int.tdiv_eq_ediv_of_nonneg (by omega)]; omega
      have hg1 : (g : Int).tdiv 2 = ((g / 2 : Nat) : Int) := by rw [Int.tdiv_eq_ediv_of_nonneg (by omega)]; omega
      have hka2 : Hid (k + 1 ≤ a) := hlt
      have hf2 : Hid (f / 2 = o1 / 2 ^ (k + 1)) := by show _ = _; rw [half2, hf.out]
      have hg2 : Hid (g / 2 = s1 / 2 ^ (k + 1)) := by show _ = _; rw [half2, hg.out]
      have hlt2 : Hid (f / 2 < f) := by show _ < _; omega
      clear hlt hm1 hf hg hka
      go_wp2_with fail
      go_round
      case rel => exact ⟨k + 1, f / 2, g / 2, (by first | rfl | (congr 1; omega)), (by first | rfl | (congr 1; omega)), hka2.out, hf2.out, hg2.out⟩
      case measure => (have := hlt2.out; simp [intOf]; omega)
     ·obtain rfl : k = a := by have := hka.out; omega
      have hm1 : (f : Int) % 2 = 0 := by have h := heven.out; rw [← ho1.out, ← hf.out] at h; omega
      have hm2 : (f : Int).tmod 2 = 0 := by rw [Int.tmod_eq_emod_of_nonneg hf0]; exact hm1
      have hAt0 : Hid (At size (old - 1) k f g) := by have h := hAtA.out; rw [← ho1.out, ← hs1.out, ← hf.out, ← hg.out, ho1.out] at h; exact h
      obtain ⟨b, o, rfl, hbb, hdc0⟩ := hrD.out.at_ hpl.out.zero
      have hdc : Hid (∀ w', Below w3.heap.size w3 w' → ∀ j v, (cells8 x0)[j]? = some v → w'.cell? ⟨b, o + j, none⟩ = some v) := fun w' hb j v hv => by
       have := (hb.cell (p := ⟨b, o + 0 * 32 + j, none⟩) hbb).trans (hdc0 j v hv)
       simpa using this
      have hN1 : (0 : Int) < (N : Int) := by have := hpl.out.n2; omega
      have hN2 : ¬ N = 0 := by omega
      replace hbb := Lib.hid hbb
      clear hlt hm1 hf hg hka hdc0
      go_wp2_with (first
       | ((with_reducible change wpList _ _ _ (⟨some 83, _, _, _, _, _⟩ :: _) _ _); refine wpList_load_part (o := ⟨some 83, _, _, _, _, _⟩) rfl 23 (.tmp 82) rfl (b) (o) rfl (cells8 x0) _ (hdc.out w3 (Below.refl _ _)) Tryd.underlying23 rfl Fx.out.part ?_)
       | ((with_reducible change wpList _ _ _ ({ dst := none, op := Op.store 23 (.tmp 19) _, type := _, pos := _, after := _, guard := _ } :: _) _ _); refine wpList_store_whole (o := ⟨none, _, _, _, _, _⟩) rfl 23 (.tmp 19) (.tmp 83) rfl (w3.heap.size) ((cells8 x0).toArray) rfl rfl 23 (Z32) (Blk.new w3 _ _) Fx.out.size Fx.out.zero Fx.out.one ?_; intro w4 hB19 hk4; have hb4 : Hid (Below w3.heap.size w3 w4) := kept_fresh hk4; have hz4 : Hid (w3.heap.size < w4.heap.size) := (by have := hk4.size; show _ < _; simp at this; omega); replace hB19 := Lib.hid hB19; clear hk4)
       | ((with_reducible change wpList _ _ _ (⟨some 86, _, _, _, _, _⟩ :: _) _ _); refine wpList_load_part (o := ⟨some 86, _, _, _, _, _⟩) rfl 23 (.tmp 85) rfl (b) (o) rfl (cells8 x0) _ (hdc.out w4 hb4.out) Tryd.underlying23 rfl Fx.out.part ?_)
       | ((with_reducible change wpList _ _ _ ({ dst := none, op := Op.store 23 (.tmp 20) _, type := _, pos := _, after := _, guard := _ } :: _) _ _); refine wpList_store_whole (o := ⟨none, _, _, _, _, _⟩) rfl 23 (.tmp 20) (.tmp 86) rfl (w4.heap.size) ((cells8 x0).toArray) rfl rfl 23 (Z32) (Blk.new w4 _ _) Fx.out.size Fx.out.zero Fx.out.one ?_; intro w5 hB20 hk5; have hb5 : Hid (Below w4.heap.size w4 w5) := kept_fresh hk5; have hz5 : Hid (w4.heap.size < w5.heap.size) := (by have := hk5.size; show _ < _; simp at this; omega); replace hB20 := Lib.hid hB20; clear hk5))
      have hRA0 : Hid (RAh w5 w5 w3.heap.size w4.heap.size (Zf 1).fr (Zf 1).sr (.slice none 0 0) (.slice none 0 0) [] [] (Zf 1).ft (Zf 1).st) := by
       show RAh _ _ _ _ _ _ _ _ _ _ _ _
       rw [hpl.out.start]
       exact ⟨(hb5.out.block _ hB19.out.lt).trans hB19.out, hB20.out, World.ownsRow_nil _ _ _ _, World.ownsRow_nil _ _ _ _, (fun i q h => by simp at h), (fun i q h => by simp at h), (fun k e => by cases e), (fun _ => rfl), (fun _ => rfl), Kept.refl _ _⟩
      have hb35 : Hid (Below w3.heap.size w3 w5) := hb4.out.trans (hb5.out.mono hb4.out.size)
      have hbW5 : Hid (Below w.heap.size w w5) := hb2.out.trans ((hb3.out.trans (hb35.out.mono hb3.out.size)).mono hb2.out.size)
      have hA5 : Hid (Blk w5 (w.heap.size + 1) 23 Z32) := ((hb3.out.trans (hb35.out.mono hb3.out.size)).block _ hA2.out.lt).trans hA2.out
      have hE5 : Hid (Blk w5 (w.heap.size + 2) 23 Z32) := ((hb3.out.trans (hb35.out.mono hb3.out.size)).block _ hE2.out.lt).trans hE2.out
      have hs34 : Hid (w.heap.size + 4 ≤ w3.heap.size ∧ w3.heap.size < w4.heap.size ∧ w4.heap.size < w5.heap.size) := by have := hs2.out; have := hb3.out.size; have := hz4.out; have := hz5.out; show _ ∧ _; omega
      clear hb4 hb5 hz4 hz5 hB19 hB20 hA2 hE2 hR2 hb2 hb3 hs2 hN1 hN2 hdc hbb hm2 hodd heven hAtA hfirst hap hf0 hg0 hf40 hg40
      go_wp2_with fail
      go_loopw [17, 18, 21, 22, 23] (fun x y tv uv jv wr => ∃ (j f g : Nat) (v1 v2 : Value) (xs1 xs2 : List Value), jv = .int .i64 (j : Int) ∧ Hid (1 ≤ j ∧ j ≤ N) ∧ x = .int .i64 (f : Int) ∧ y = .int .i64 (g : Int) ∧ tv = v1 ∧ uv = v2 ∧ Hid (At size (old - 1) (k + j - 1) f g) ∧ Hid (RAh w5 wr w3.heap.size w4.heap.size (Zf j).fr (Zf j).sr v1 v2 xs1 xs2 (Zf j).ft (Zf j).st)) (fun _ _ _ _ jv _ => N - (intOf jv).toNat)
      case atStart => exact ⟨1, f, g, _, _, [], [], rfl, ⟨Nat.le_refl _, by have := hpl.out.n2; omega⟩, rfl, rfl, rfl, rfl, hAt0.out, hRA0.out⟩
      case round =>
       clear hRA0 hAt0
       obtain ⟨j, fn, sn, v1, v2, xs1, xs2, rfl, hj, rfl, rfl, htv1, htv2, hAt, hR⟩ := hrel
       rw [htv1, htv2]
       clear htv1 htv2
       have hZok := Lib.hid (hpl.out.ok j hj.out.1 hj.out.2)
       have hstep := Lib.hid (hpl.out.step j hj.out.1)
       obtain ⟨Z, hZe⟩ : ∃ Z, Hid (Zf j = Z) := ⟨_, Lib.hid rfl⟩
       rw [hZe.out] at hZok hR hstep
       have Fa := Lib.hid (fit (x := Z.fr) hZok.out.fl)
       have Fb := Lib.hid (fit (x := Z.sr) hZok.out.sl)
       obtain ⟨k1, hk1⟩ : ∃ k1, Hid (Z.ft.length = k1) := ⟨_, Lib.hid rfl⟩
       obtain ⟨k2, hk2⟩ : ∃ k2, Hid (Z.st.length = k2) := ⟨_, Lib.hid rfl⟩
       have hk41 : Hid (k1 ≤ 42 ∧ k2 ≤ 42) := by have := hZok.out.fk; have := hZok.out.sk; have := hk1.out; have := hk2.out; have := hj.out; have := hpl.out.n42; show _ ∧ _; omega
       obtain ⟨A1, c1, rfl, -⟩ := Own.reads (hk1.out ▸ hR.out.o1)
       obtain ⟨A3, c3, rfl, -, -, hnil3, hrd3, -⟩ := Own.reads (hk2.out ▸ hR.out.o2)
       have hbr : Hid (Below w3.heap.size w3 wr) := Kept.toBelow hb35.out hR.out.kept (fun k h => by have := hs34.out; rcases h with h | h <;> omega) hb35.out.size
       have hfs := hAt.out.le
       have hfn40 : (fn : Int) < 1099511627776 := by have := hob.out; omega
       have hsn40 : (sn : Int) < 1099511627776 := by have := hob.out; omega
       have hfn0 : (0 : Int) ≤ (fn : Int) := by omega
       have hsn0 : (0 : Int) ≤ (sn : Int) := by omega
       have hj0 : (0 : Int) ≤ (j : Int) := by omega
       have hj40 : (j : Int) ≤ 42 := by have := hj.out; have := hpl.out.n42; omega
       have hN42 : (N : Int) ≤ 42 := by have := hpl.out.n42; omega
       have hiO : Hid (old - 1 < size) := by have := hob.out; show _ < _; omega
       clear hfs
       by_cases hlt : j < N
       ·obtain ⟨d, hd, hdl, hst⟩ := hstep.out hlt
        replace hdl := Lib.hid hdl
        replace hst := Lib.hid hst
        have Fd := Lib.hid (fit (x := d) hdl.out)
        obtain ⟨b', o', e, hbb, hdc0⟩ := hrD.out.at_ hd
        injection e with e
        injection e with e1 e2
        subst e1 e2
        have hdc : Hid (∀ k v, (cells8 d)[k]? = some v → wr.cell? ⟨b, o + j * 32 + k, none⟩ = some v) := fun k v hv => (hbr.out.cell (p := ⟨b, o + j * 32 + k, none⟩) hbb).trans (hdc0 k v hv)
        have hjl : Hid (k + j - 1 < (sides size (old - 1)).length) := by have := hpl.out.sd; have := hj.out; show _ < _; omega
        have hjn : Hid (j + 1 ≤ N) := hlt
        have hz2 : (j : Int) < (N : Int) := by omega
        have hl1 : Hid (k1 + 1 ≤ maxLen ∧ (k1 + 1) * 24 ≤ 140737488355328) := by have := hk41.out; show _ ∧ _; unfold maxLen; omega
        have hl2 : Hid (k2 + 1 ≤ maxLen ∧ (k2 + 1) * 24 ≤ 140737488355328) := by have := hk41.out; show _ ∧ _; unfold maxLen; omega
        have hO1 : Hid (wr.ownsRow w5.heap.size 27 1 (.slice A1 k1 c1) k1 xs1) := hk1.out ▸ hR.out.o1
        have hO2 : Hid (wr.ownsRow w5.heap.size 27 1 (.slice A3 k2 c3) k2 xs2) := hk2.out ▸ hR.out.o2
        have hdn1 : Hid (some wr.heap.size ≠ (Value.slice A1 k1 c1).ownBlock) := fun e => by have := (hO1.out.lt _ e.symm).2; omega
        have hdn2 : Hid (some wr.heap.size ≠ (Value.slice A3 k2 c3).ownBlock) := fun e => by have := (hO2.out.lt _ e.symm).2; omega
        have hdb : Hid (wr.heap.size ≠ w3.heap.size ∧ wr.heap.size ≠ w4.heap.size) := by have := hR.out.kept.size; have := hs34.out; show _ ∧ _; omega
        clear hlt hd hbb hdc0 hnil3 hrd3 hstep
        by_cases ho : fn % 2 = 1
        ·have hm1 : (fn : Int) % 2 = 1 := by omega
         have hm2 : (fn : Int).tmod 2 = 1 := by rw [Int.tmod_eq_emod_of_nonneg (by omega)]; exact hm1
         have hside := At.left hiO.out fn sn hAt.out (.inl ho) hjl.out
         have hdir : Hid (Dir fn sn) := .inl ho
         obtain ⟨za, hza⟩ : ∃ z, Hid (ndOf s d Z.fr = z) := ⟨_, Lib.hid rfl⟩
         obtain ⟨qa, hqa⟩ : ∃ q : Text, Hid (kb 1 :: (d ++ Z.fr) = q) := ⟨_, Lib.hid rfl⟩
         have hqal : Hid (qa.length = 65) := by show _ = _; rw [← hqa.out]; simp [hZok.out.fl, hdl.out]
         have Fza := Lib.hid (fit (x := za) (by rw [← hza.out]; exact ndOf_len s _ _))
         have hNa : Hid (∀ w', Calls Tryd.prog 139 #[.int .i64 s, .agg (cells8 d).toArray, .agg (cells8 Z.fr).toArray] w' fun e w'' => e = .returned (.agg (cells8 za).toArray) ∧ Below w'.heap.size w' w'') := fun w' => by
          have := refnode_any d Z.fr hdl.out hZok.out.fl s w' hs63.out
          rw [show cutTo (sum (kb 1 :: (d ++ Z.fr))) (clampN s) = za from hza.out] at this
          exact this
         have hqqa := Lib.hid (Fza.out.same Z.fr hZok.out.fl)
         have hzal : Hid (za.length = 32) := by show _ = _; rw [← hza.out]; exact ndOf_len s _ _
         obtain ⟨zb, hzb⟩ : ∃ z, Hid (ndOf s d Z.sr = z) := ⟨_, Lib.hid rfl⟩
         obtain ⟨qb, hqb⟩ : ∃ q : Text, Hid (kb 1 :: (d ++ Z.sr) = q) := ⟨_, Lib.hid rfl⟩
         have hqbl : Hid (qb.length = 65) := by show _ = _; rw [← hqb.out]; simp [hZok.out.sl, hdl.out]
         have Fzb := Lib.hid (fit (x := zb) (by rw [← hzb.out]; exact ndOf_len s _ _))
         have hNb : Hid (∀ w', Calls Tryd.prog 139 #[.int .i64 s, .agg (cells8 d).toArray, .agg (cells8 Z.sr).toArray] w' fun e w'' => e = .returned (.agg (cells8 zb).toArray) ∧ Below w'.heap.size w' w'') := fun w' => by
          have := refnode_any d Z.sr hdl.out hZok.out.sl s w' hs63.out
          rw [show cutTo (sum (kb 1 :: (d ++ Z.sr))) (clampN s) = zb from hzb.out] at this
          exact this
         have hqqb := Lib.hid (Fzb.out.same Z.sr hZok.out.sl)
         have hst2 : Hid (Zf (j + 1) = ⟨za, zb, Z.ft ++ [qa], Z.st ++ [qb]⟩) := by
          show _ = _
          rw [hst.out _ hside, ahead1]
          simp [hza.out, hqa.out, hzb.out, hqb.out]
         clear hside hst ho
         go_wp2_with (first
          | ((with_reducible change wpList _ _ _ (⟨some 96, _, _, _, _, _⟩ :: _) _ _); refine wpList_load_part (o := ⟨some 96, _, _, _, _, _⟩) rfl 23 (.tmp 95) rfl (b) (o + j * 32) rfl (cells8 d) _ hdc.out Tryd.underlying23 rfl Fd.out.part ?_)
          | ((with_reducible change wpList _ _ _ ({ dst := none, op := Op.store 23 (.tmp 24) _, type := _, pos := _, after := _, guard := _ } :: _) _ _); refine wpList_store_whole (o := ⟨none, _, _, _, _, _⟩) rfl 23 (.tmp 24) (.tmp 96) rfl (wr.heap.size) ((cells8 d).toArray) rfl rfl 23 (Z32) (Blk.new wr _ _) Fd.out.size Fd.out.zero Fd.out.one ?_; intro w1 hD1 hkk1; have hb1 : Hid (Below wr.heap.size wr w1) := kept_fresh hkk1; have hR1 : Hid (RAh w5 w1 w3.heap.size w4.heap.size Z.fr Z.sr (.slice A1 k1 c1) (.slice A3 k2 c3) xs1 xs2 Z.ft Z.st) := hR.out.below hb1.out; have hO11 := Lib.hid (own_below hO1.out hb1.out); have hO21 := Lib.hid (own_below hO2.out hb1.out); replace hD1 := Lib.hid hD1; clear hkk1))
         have hTa : Hid (Calls Tryd.prog 93 #[.int .i64 1, .slice (some ⟨w1.heap.size, 0, none⟩) 2 2] (tW w1 wr.heap.size w3.heap.size) fun e w' => ∃ v, e = .returned v ∧ w'.ownsRow (tW w1 wr.heap.size w3.heap.size).heap.size 5 1 v 65 (cells8 qa) ∧ Below (tW w1 wr.heap.size w3.heap.size).heap.size (tW w1 wr.heap.size w3.heap.size) w') := by
          have hpc := tW_pieces (w := w1) hD1.out hR1.out.lf1 hdl.out hZok.out.fl
          have := refText_any [d, Z.fr] 2 rfl (some ⟨w1.heap.size, 0, none⟩) 2 1 (tW w1 wr.heap.size w3.heap.size) (by simp [hdl.out, hZok.out.fl]) (by decide) hpc
          rw [show kb 1 :: [d, Z.fr].flatten = qa by rw [← hqa.out]; simp, show 1 + [d, Z.fr].flatten.length = 65 by simp [hdl.out, hZok.out.fl]] at this
          exact this
         refine held_start (fun _ => True) 8 rfl (by kernel_rfl) ?_
         refine Held.tk0 (i := 0) (v := .slice A1 k1 c1) rfl trivial (fun w' hw' => run_mv (.tmp 21) rfl w') ?_
         (intro K k; go_simp; apply k; clear k K)
         refine Held.tk0 (i := 1) (v := .slice (some ⟨wr.heap.size, 0, none⟩) 32 32) rfl trivial (fun w' hw' => by go_simp) ?_
         (intro K k; go_simp; apply k; clear k K)
         refine Held.tk0 (i := 2) (v := .slice (some ⟨w3.heap.size, 0, none⟩) 32 32) rfl trivial (fun w' hw' => by go_simp) ?_
         (intro K k; go_simp; apply k; clear k K)
         refine held_only (i := 3) rfl (by kernel_rfl) (by rfl) (fun K hK => ?_)
         go_simp
         refine hK _ _ trivial ?_
         clear hK K
         change wpAnyH _ _ _ _ _ _ _ _ (tW w1 wr.heap.size w3.heap.size)
         refine held_only (i := 4) rfl (by kernel_rfl) (by rfl) (fun K hK => ?_)
         refine wp_fn (R := fun v w'' => Below (tW w1 wr.heap.size w3.heap.size).heap.size (tW w1 wr.heap.size w3.heap.size) w'' ∧ w''.ownsRow (tW w1 wr.heap.size w3.heap.size).heap.size 5 1 v 65 (cells8 qa)) (args := #[.int .i64 1, .slice (some ⟨w1.heap.size, 0, none⟩) 2 2]) _ _ rfl rfl Tryd.func93 (by kernel_rfl) (by kernel_rfl) (hTa.out.mono fun e w'' ⟨v, he, ho, hb⟩ => ⟨_, he, hb, ho⟩) ?_
         rintro v3 w3a ⟨hb3a, ho3a⟩
         obtain ⟨gta, cta, rfl, hgt1, hgt2⟩ := ho3a.form (by decide)
         go_simp
         refine hK _ _ trivial ?_
         clear hK K
         have hgta : Hid (w1.heap.size ≤ gta ∧ gta < w3a.heap.size) := by have := tW_size w1 wr.heap.size w3.heap.size; exact ⟨by omega, hgt2⟩
         have hb13a : Hid (Below w1.heap.size w1 w3a) := (tW_below w1 _ _).trans (hb3a.mono (by rw [tW_size]; omega))
         obtain ⟨At, ct', et, hcta, -, -, hrt, -⟩ := Own.reads ho3a
         injection et with et1 et2 et3
         subst et1 et3
         have hrqa : Hid (Reads w3a 1 (some ⟨gta, 0, none⟩) 65 (cells8 qa)) := hrt
         replace hcta := Lib.hid hcta
         have hOwa : Hid ((w3a.alloc (.cells #[.slice (some ⟨gta, 0, none⟩) 65 cta] 27)).ownsRow w5.heap.size 27 1 (.slice A1 k1 c1) k1 xs1) := (own_below (own_below hO11.out hb13a.out) (Below.heap_below w3a _))
         have hNwa : Hid (Reads (w3a.alloc (.cells #[.slice (some ⟨gta, 0, none⟩) 65 cta] 27)) 1 (some ⟨w3a.heap.size, 0, none⟩) 1 [.slice (some ⟨gta, 0, none⟩) 65 cta]) := Blk.reads (Blk.new w3a 27 #[.slice (some ⟨gta, 0, none⟩) 65 cta]) 0 _ rfl (fun j u hu => by rw [Nat.zero_add]; simpa using hu)
         have hswa : Hid (w5.heap.size ≤ (w3a.alloc (.cells #[.slice (some ⟨gta, 0, none⟩) 65 cta] 27)).heap.size) := by have := hb13a.out.size; have := (hR1.out).kept.size; show _ ≤ _; simp; omega
         clear hb3a ho3a hgt1 hgt2 hrt hTa
         refine held_only (i := 5) rfl (by kernel_rfl) (by rfl) (fun K hK => ?_)
         go_simp
         refine hK _ _ trivial ?_
         clear hK K
         refine held_only (i := 6) rfl (by kernel_rfl) (by rfl) (fun K hK => ?_)
         refine wp_append_src _ (.tmp 105) (.tmp 110) 24 rfl w5.heap.size 27 i0 (.slice none 0 0) 1 24 Tryd.underlying24 ii iz0 iz1 iz2 rfl (by decide) (.slice A1 k1 c1) k1 xs1 rfl hOwa.out (some ⟨w3a.heap.size, 0, none⟩) 1 1 [.slice (some ⟨gta, 0, none⟩) 65 cta] rfl hNwa.out (fun e => by cases e) (one_one rfl) hl1.out.1 hl1.out.2 hswa.out ?_
         intro v4 w4a hGa
         obtain ⟨A4a, c4a, rfl, -⟩ := Own.reads hGa.own
         replace hGa := Lib.hid hGa
         go_simp
         refine hK _ _ trivial ?_
         clear hK K
         refine Held.tk0 (i := 7) (v := .slice A4a (k1 + 1) c4a) rfl trivial (fun w' hw' => by first | go_simp | rfl) ?_
         (intro K k; go_simp; apply k; clear k K)
         refine held_end (by kernel_rfl) ?_
         have hk14a : Hid (Kept (fun q => some q = (Value.slice A1 k1 c1).ownBlock) w1 w4a) := ⟨hGa.out.grow.os.trans hb13a.out.os, hGa.out.grow.tape.trans hb13a.out.tape, hGa.out.grow.output.trans hb13a.out.output, (by have h1 := hGa.out.grow.size; have h2 := hb13a.out.size; simp at h1; omega), fun p hp hne => (hGa.out.grow.block p (by have := hb13a.out.size; simp; omega) hne).trans ((Below.heap_alloc _ _ _ (by have := hb13a.out.size; omega)).trans (hb13a.out.block p hp))⟩
         have hDa : Hid (Blk w4a wr.heap.size 23 (cells8 d).toArray) := (hD1.out).kept hk14a.out (fun e => hdn1.out e)
         have hRa := Lib.hid (RAh.push (q := qa) (gt := gta) (ct := cta) (hR1.out) hb13a.out hk1.out (by rw [hqal.out]; exact hrqa.out) (by have := hqal.out; omega) hgta.out (by rw [hqal.out]; exact hcta.out) ⟨by have := hs34.out; omega, by have := hs34.out; omega⟩ (by rw [hqal.out]; exact hGa.out))
         rw [hqal.out] at hRa
         clear hNwa hswa hOwa hGa hrqa hcta hgta hb13a hk14a
         go_wp2_with (first
          | ((with_reducible change wpList _ _ _ (⟨some 113, _, _, _, _, _⟩ :: _) _ _); refine wpList_load_row (o := ⟨some 113, _, _, _, _, _⟩) rfl 23 (.tmp 24) rfl (wr.heap.size) rfl 23 ((cells8 d).toArray) (0, 0) _ hDa.out Tryd.underlying23 rfl Fd.out.size ?_)
          | ((with_reducible change wpList _ _ _ (⟨some 114, _, _, _, _, _⟩ :: _) _ _); refine wpList_load_row (o := ⟨some 114, _, _, _, _, _⟩) rfl 23 (.tmp 19) rfl (w3.heap.size) rfl 23 ((cells8 Z.fr).toArray) (0, 0) _ hRa.out.lf1 Tryd.underlying23 rfl Fa.out.size ?_)
          | (go_at_call 139; refine (hNa.out _).mono ?_; rintro e w5a ⟨rfl, hb5a⟩; have hL5a : Hid (Blk w5a w3.heap.size 23 (cells8 Z.fr).toArray) := (hb5a.block _ hRa.out.lf1.lt).trans hRa.out.lf1; replace hb5a := Lib.hid hb5a)
          | ((with_reducible change wpList _ _ _ ({ dst := none, op := Op.store 23 (.tmp 19) _, type := _, pos := _, after := _, guard := _ } :: _) _ _); refine wpList_store_whole0 (o := ⟨none, _, _, _, _, _⟩) rfl rfl 23 (.tmp 19) (.tmp 115) rfl (w3.heap.size) ((cells8 za).toArray) rfl rfl 23 ((cells8 Z.fr).toArray) hL5a.out Fza.out.size hqqa.out Fza.out.one ?_; intro w6 hB6 hk6; have hR6 := Lib.hid (RAh.store (hRa.out.below hb5a.out) hZok.out.fl hB6 hk6 (by have := hs34.out; omega) (by have := hs34.out; omega)); have hD6 : Hid (Blk w6 wr.heap.size 23 (cells8 d).toArray) := Blk.kept (w := w5a) ((hb5a.out.block _ hDa.out.lt).trans hDa.out) hk6 (fun e => hdb.out.1 e); have hO26 : Hid (w6.ownsRow w5.heap.size 27 1 (.slice A3 k2 c3) k2 xs2) := hk2.out ▸ hR6.out.o2; clear hB6 hk6 hb5a hL5a hDa hRa))
         have hTb : Hid (Calls Tryd.prog 93 #[.int .i64 1, .slice (some ⟨w6.heap.size, 0, none⟩) 2 2] (tW w6 wr.heap.size w4.heap.size) fun e w' => ∃ v, e = .returned v ∧ w'.ownsRow (tW w6 wr.heap.size w4.heap.size).heap.size 5 1 v 65 (cells8 qb) ∧ Below (tW w6 wr.heap.size w4.heap.size).heap.size (tW w6 wr.heap.size w4.heap.size) w') := by
          have hpc := tW_pieces (w := w6) hD6.out hR6.out.lf2 hdl.out hZok.out.sl
          have := refText_any [d, Z.sr] 2 rfl (some ⟨w6.heap.size, 0, none⟩) 2 1 (tW w6 wr.heap.size w4.heap.size) (by simp [hdl.out, hZok.out.sl]) (by decide) hpc
          rw [show kb 1 :: [d, Z.sr].flatten = qb by rw [← hqb.out]; simp, show 1 + [d, Z.sr].flatten.length = 65 by simp [hdl.out, hZok.out.sl]] at this
          exact this
         refine held_start (fun _ => True) 8 rfl (by kernel_rfl) ?_
         refine Held.tk0 (i := 0) (v := .slice A3 k2 c3) rfl trivial (fun w' hw' => run_mv (.tmp 22) rfl w') ?_
         (intro K k; go_simp; apply k; clear k K)
         refine Held.tk0 (i := 1) (v := .slice (some ⟨wr.heap.size, 0, none⟩) 32 32) rfl trivial (fun w' hw' => by go_simp) ?_
         (intro K k; go_simp; apply k; clear k K)
         refine Held.tk0 (i := 2) (v := .slice (some ⟨w4.heap.size, 0, none⟩) 32 32) rfl trivial (fun w' hw' => by go_simp) ?_
         (intro K k; go_simp; apply k; clear k K)
         refine held_only (i := 3) rfl (by kernel_rfl) (by rfl) (fun K hK => ?_)
         go_simp
         refine hK _ _ trivial ?_
         clear hK K
         change wpAnyH _ _ _ _ _ _ _ _ (tW w6 wr.heap.size w4.heap.size)
         refine held_only (i := 4) rfl (by kernel_rfl) (by rfl) (fun K hK => ?_)
         refine wp_fn (R := fun v w'' => Below (tW w6 wr.heap.size w4.heap.size).heap.size (tW w6 wr.heap.size w4.heap.size) w'' ∧ w''.ownsRow (tW w6 wr.heap.size w4.heap.size).heap.size 5 1 v 65 (cells8 qb)) (args := #[.int .i64 1, .slice (some ⟨w6.heap.size, 0, none⟩) 2 2]) _ _ rfl rfl Tryd.func93 (by kernel_rfl) (by kernel_rfl) (hTb.out.mono fun e w'' ⟨v, he, ho, hb⟩ => ⟨_, he, hb, ho⟩) ?_
         rintro v3 w3b ⟨hb3b, ho3b⟩
         obtain ⟨gtb, ctb, rfl, hgt1, hgt2⟩ := ho3b.form (by decide)
         go_simp
         refine hK _ _ trivial ?_
         clear hK K
         have hgtb : Hid (w6.heap.size ≤ gtb ∧ gtb < w3b.heap.size) := by have := tW_size w6 wr.heap.size w4.heap.size; exact ⟨by omega, hgt2⟩
         have hb13b : Hid (Below w6.heap.size w6 w3b) := (tW_below w6 _ _).trans (hb3b.mono (by rw [tW_size]; omega))
         obtain ⟨At, ct', et, hctb, -, -, hrt, -⟩ := Own.reads ho3b
         injection et with et1 et2 et3
         subst et1 et3
         have hrqb : Hid (Reads w3b 1 (some ⟨gtb, 0, none⟩) 65 (cells8 qb)) := hrt
         replace hctb := Lib.hid hctb
         have hOwb : Hid ((w3b.alloc (.cells #[.slice (some ⟨gtb, 0, none⟩) 65 ctb] 27)).ownsRow w5.heap.size 27 1 (.slice A3 k2 c3) k2 xs2) := (own_below (own_below hO26.out hb13b.out) (Below.heap_below w3b _))
         have hNwb : Hid (Reads (w3b.alloc (.cells #[.slice (some ⟨gtb, 0, none⟩) 65 ctb] 27)) 1 (some ⟨w3b.heap.size, 0, none⟩) 1 [.slice (some ⟨gtb, 0, none⟩) 65 ctb]) := Blk.reads (Blk.new w3b 27 #[.slice (some ⟨gtb, 0, none⟩) 65 ctb]) 0 _ rfl (fun j u hu => by rw [Nat.zero_add]; simpa using hu)
         have hswb : Hid (w5.heap.size ≤ (w3b.alloc (.cells #[.slice (some ⟨gtb, 0, none⟩) 65 ctb] 27)).heap.size) := by have := hb13b.out.size; have := (hR6.out.swap).kept.size; show _ ≤ _; simp; omega
         clear hb3b ho3b hgt1 hgt2 hrt hTb
         refine held_only (i := 5) rfl (by kernel_rfl) (by rfl) (fun K hK => ?_)
         go_simp
         refine hK _ _ trivial ?_
         clear hK K
         refine held_only (i := 6) rfl (by kernel_rfl) (by rfl) (fun K hK => ?_)
         refine wp_append_src _ (.tmp 116) (.tmp 121) 24 rfl w5.heap.size 27 i0 (.slice none 0 0) 1 24 Tryd.underlying24 ii iz0 iz1 iz2 rfl (by decide) (.slice A3 k2 c3) k2 xs2 rfl hOwb.out (some ⟨w3b.heap.size, 0, none⟩) 1 1 [.slice (some ⟨gtb, 0, none⟩) 65 ctb] rfl hNwb.out (fun e => by cases e) (one_one rfl) hl2.out.1 hl2.out.2 hswb.out ?_
         intro v4 w4b hGb
         obtain ⟨A4b, c4b, rfl, -⟩ := Own.reads hGb.own
         replace hGb := Lib.hid hGb
         go_simp
         refine hK _ _ trivial ?_
         clear hK K
         refine Held.tk0 (i := 7) (v := .slice A4b (k2 + 1) c4b) rfl trivial (fun w' hw' => by first | go_simp | rfl) ?_
         (intro K k; go_simp; apply k; clear k K)
         refine held_end (by kernel_rfl) ?_
         have hk14b : Hid (Kept (fun q => some q = (Value.slice A3 k2 c3).ownBlock) w6 w4b) := ⟨hGb.out.grow.os.trans hb13b.out.os, hGb.out.grow.tape.trans hb13b.out.tape, hGb.out.grow.output.trans hb13b.out.output, (by have h1 := hGb.out.grow.size; have h2 := hb13b.out.size; simp at h1; omega), fun p hp hne => (hGb.out.grow.block p (by have := hb13b.out.size; simp; omega) hne).trans ((Below.heap_alloc _ _ _ (by have := hb13b.out.size; omega)).trans (hb13b.out.block p hp))⟩
         have hDb : Hid (Blk w4b wr.heap.size 23 (cells8 d).toArray) := (hD6.out).kept hk14b.out (fun e => hdn2.out e)
         have hRb := Lib.hid (RAh.push (q := qb) (gt := gtb) (ct := ctb) (hR6.out.swap) hb13b.out hk2.out (by rw [hqbl.out]; exact hrqb.out) (by have := hqbl.out; omega) hgtb.out (by rw [hqbl.out]; exact hctb.out) ⟨by have := hs34.out; omega, by have := hs34.out; omega⟩ (by rw [hqbl.out]; exact hGb.out))
         rw [hqbl.out] at hRb
         clear hNwb hswb hOwb hGb hrqb hctb hgtb hb13b hk14b
         go_wp2_with (first
          | ((with_reducible change wpList _ _ _ (⟨some 124, _, _, _, _, _⟩ :: _) _ _); refine wpList_load_row (o := ⟨some 124, _, _, _, _, _⟩) rfl 23 (.tmp 24) rfl (wr.heap.size) rfl 23 ((cells8 d).toArray) (0, 0) _ hDb.out Tryd.underlying23 rfl Fd.out.size ?_)
          | ((with_reducible change wpList _ _ _ (⟨some 125, _, _, _, _, _⟩ :: _) _ _); refine wpList_load_row (o := ⟨some 125, _, _, _, _, _⟩) rfl 23 (.tmp 20) rfl (w4.heap.size) rfl 23 ((cells8 Z.sr).toArray) (0, 0) _ hRb.out.lf1 Tryd.underlying23 rfl Fb.out.size ?_)
          | (go_at_call 139; refine (hNb.out _).mono ?_; rintro e w5b ⟨rfl, hb5b⟩; have hL5b : Hid (Blk w5b w4.heap.size 23 (cells8 Z.sr).toArray) := (hb5b.block _ hRb.out.lf1.lt).trans hRb.out.lf1; replace hb5b := Lib.hid hb5b)
          | ((with_reducible change wpList _ _ _ ({ dst := none, op := Op.store 23 (.tmp 20) _, type := _, pos := _, after := _, guard := _ } :: _) _ _); refine wpList_store_whole0 (o := ⟨none, _, _, _, _, _⟩) rfl rfl 23 (.tmp 20) (.tmp 126) rfl (w4.heap.size) ((cells8 zb).toArray) rfl rfl 23 ((cells8 Z.sr).toArray) hL5b.out Fzb.out.size hqqb.out Fzb.out.one ?_; intro w8 hB8 hk8; have hR8 := Lib.hid (RAh.store (hRb.out.below hb5b.out) hZok.out.sl hB8 hk8 (by have := hs34.out; omega) (by have := hs34.out; omega)).swap; clear hB8 hk8 hb5b hL5b hDb hRb))
         have hR9 : Hid (RAh w5 w8 w3.heap.size w4.heap.size (Zf (j + 1)).fr (Zf (j + 1)).sr (.slice A4a (k1 + 1) c4a) (.slice A4b (k2 + 1) c4b) (xs1 ++ [.slice (some ⟨gta, 0, none⟩) 65 cta]) (xs2 ++ [.slice (some ⟨gtb, 0, none⟩) 65 ctb]) (Zf (j + 1)).ft (Zf (j + 1)).st) := by show RAh _ _ _ _ _ _ _ _ _ _ _ _; rw [hst2.out]; exact hR8.out
         clear hm1 hm2 hR hR1 hR8
         go_loopw [17, 18] (fun x y wi => ∃ f2 s2 : Nat, x = .int .i64 (f2 : Int) ∧ y = .int .i64 (s2 : Int) ∧ f2 ≤ fn ∧ s2 ≤ sn ∧ Hid (At size (old - 1) (k + j - 1) f2 s2) ∧ Hid (Dir f2 s2) ∧ wi = w8) (fun x _ _ => (intOf x).toNat)
         case atStart => exact ⟨fn, sn, rfl, rfl, Nat.le_refl _, Nat.le_refl _, hAt.out, hdir.out, rfl⟩
         case round =>
          obtain ⟨f2, s2, rfl, rfl, hf2, hs2, hA2, hd2, rfl⟩ := hrel
          have hf40 : (f2 : Int) < 1099511627776 := by have := hfn40; omega
          have hs40 : (s2 : Int) < 1099511627776 := by have := hsn40; omega
          have hf0 : (0 : Int) ≤ (f2 : Int) := by omega
          have hs0 : (0 : Int) ≤ (s2 : Int) := by omega
          by_cases hodd : f2 % 2 = 1
          ·have hm1 : (f2 : Int) % 2 = 1 := by omega
           have hm2 : (f2 : Int).tmod 2 = 1 := by rw [Int.tmod_eq_emod_of_nonneg (by omega)]; exact hm1
           have hf1 : (f2 : Int).tdiv 2 = ((f2 / 2 : Nat) : Int) := by rw [Int.tdiv_eq_ediv_of_nonneg (by omega)]; omega
           have hs1 : (s2 : Int).tdiv 2 = ((s2 / 2 : Nat) : Int) := by rw [Int.tdiv_eq_ediv_of_nonneg (by omega)]; omega
           obtain ⟨-, hAt2⟩ := hA2.out.odd hiO.out hodd
           replace hAt2 := Lib.hid hAt2
           clear hodd hd2 hm1
           go_wp2_with fail
           go_roundw
           case rel => exact ⟨j + 1, f2 / 2, s2 / 2, _, _, _, _, by go_num, ⟨by omega, hjn.out⟩, (by first | rfl | (congr 1; omega)), (by first | rfl | (congr 1; omega)), rfl, rfl, (by have h := hAt2.out; rw [show k + j - 1 + 1 = k + (j + 1) - 1 by have := hj.out; omega] at h; exact h), hR9.out⟩
           case measure => (have := hjn.out; simp [intOf]; omega)
          ·have hm1 : (f2 : Int) % 2 = 0 := by omega
           have hm2 : (f2 : Int).tmod 2 = 0 := by rw [Int.tmod_eq_emod_of_nonneg (by omega)]; exact hm1
           have heq : f2 = s2 := by have : f2 % 2 = 1 ∨ f2 = s2 := hd2.out; omega
           subst heq
           have hf1 : (f2 : Int).tdiv 2 = ((f2 / 2 : Nat) : Int) := by rw [Int.tdiv_eq_ediv_of_nonneg (by omega)]; omega
           have hne0 : ¬ f2 = 0 := fun e => by
            have h1 := hA2.out
            rw [e] at h1
            have := h1.done hiO.out rfl
            have := hjl.out
            omega
           have hm3 : ((f2 : Int) == 0) = false := beq_eq_false_iff_ne.2 (by omega)
           have hm4 : ((f2 : Int) != 0) = true := by rw [bne, hm3]; rfl
           have hm5 : ¬ ((f2 : Int) = 0) := by omega
           have hA3 : Hid (At size (old - 1) (k + j - 1) (f2 / 2) (f2 / 2)) := hA2.out.skip hiO.out hodd rfl
           have hlt3 : Hid (f2 / 2 < f2) := by show _ < _; omega
           clear hodd hd2 hne0 hm1
           go_wp2_with fail
           go_roundw
           case rel => exact ⟨f2 / 2, f2 / 2, (by first | rfl | (congr 1; omega)), (by first | rfl | (congr 1; omega)), by have := hlt3.out; omega, by have := hlt3.out; omega, hA3.out, .inr rfl, by first | rfl | trivial⟩
           case measure => (have := hlt3.out; simp [intOf]; omega)
        ·by_cases he : fn = sn
         ·subst he
          have hm1 : (fn : Int) % 2 = 0 := by omega
          have hm2 : (fn : Int).tmod 2 = 0 := by rw [Int.tmod_eq_emod_of_nonneg (by omega)]; exact hm1
          have hm3 : ((fn : Int) == (fn : Int)) = true := beq_self_eq_true _
          have hside := At.left hiO.out fn fn hAt.out (.inr rfl) hjl.out
          have hdir : Hid (Dir fn fn) := .inr rfl
          obtain ⟨za, hza⟩ : ∃ z, Hid (ndOf s d Z.fr = z) := ⟨_, Lib.hid rfl⟩
          obtain ⟨qa, hqa⟩ : ∃ q : Text, Hid (kb 1 :: (d ++ Z.fr) = q) := ⟨_, Lib.hid rfl⟩
          have hqal : Hid (qa.length = 65) := by show _ = _; rw [← hqa.out]; simp [hZok.out.fl, hdl.out]
          have Fza := Lib.hid (fit (x := za) (by rw [← hza.out]; exact ndOf_len s _ _))
          have hNa : Hid (∀ w', Calls Tryd.prog 139 #[.int .i64 s, .agg (cells8 d).toArray, .agg (cells8 Z.fr).toArray] w' fun e w'' => e = .returned (.agg (cells8 za).toArray) ∧ Below w'.heap.size w' w'') := fun w' => by
           have := refnode_any d Z.fr hdl.out hZok.out.fl s w' hs63.out
           rw [show cutTo (sum (kb 1 :: (d ++ Z.fr))) (clampN s) = za from hza.out] at this
           exact this
          have hqqa := Lib.hid (Fza.out.same Z.fr hZok.out.fl)
          have hzal : Hid (za.length = 32) := by show _ = _; rw [← hza.out]; exact ndOf_len s _ _
          obtain ⟨zb, hzb⟩ : ∃ z, Hid (ndOf s d Z.sr = z) := ⟨_, Lib.hid rfl⟩
          obtain ⟨qb, hqb⟩ : ∃ q : Text, Hid (kb 1 :: (d ++ Z.sr) = q) := ⟨_, Lib.hid rfl⟩
          have hqbl : Hid (qb.length = 65) := by show _ = _; rw [← hqb.out]; simp [hZok.out.sl, hdl.out]
          have Fzb := Lib.hid (fit (x := zb) (by rw [← hzb.out]; exact ndOf_len s _ _))
          have hNb : Hid (∀ w', Calls Tryd.prog 139 #[.int .i64 s, .agg (cells8 d).toArray, .agg (cells8 Z.sr).toArray] w' fun e w'' => e = .returned (.agg (cells8 zb).toArray) ∧ Below w'.heap.size w' w'') := fun w' => by
           have := refnode_any d Z.sr hdl.out hZok.out.sl s w' hs63.out
           rw [show cutTo (sum (kb 1 :: (d ++ Z.sr))) (clampN s) = zb from hzb.out] at this
           exact this
          have hqqb := Lib.hid (Fzb.out.same Z.sr hZok.out.sl)
          have hst2 : Hid (Zf (j + 1) = ⟨za, zb, Z.ft ++ [qa], Z.st ++ [qb]⟩) := by
           show _ = _
           rw [hst.out _ hside, ahead1]
           simp [hza.out, hqa.out, hzb.out, hqb.out]
          clear hside hst ho
          go_wp2_with (first
           | ((with_reducible change wpList _ _ _ (⟨some 96, _, _, _, _, _⟩ :: _) _ _); refine wpList_load_part (o := ⟨some 96, _, _, _, _, _⟩) rfl 23 (.tmp 95) rfl (b) (o + j * 32) rfl (cells8 d) _ hdc.out Tryd.underlying23 rfl Fd.out.part ?_)
           | ((with_reducible change wpList _ _ _ ({ dst := none, op := Op.store 23 (.tmp 24) _, type := _, pos := _, after := _, guard := _ } :: _) _ _); refine wpList_store_whole (o := ⟨none, _, _, _, _, _⟩) rfl 23 (.tmp 24) (.tmp 96) rfl (wr.heap.size) ((cells8 d).toArray) rfl rfl 23 (Z32) (Blk.new wr _ _) Fd.out.size Fd.out.zero Fd.out.one ?_; intro w1 hD1 hkk1; have hb1 : Hid (Below wr.heap.size wr w1) := kept_fresh hkk1; have hR1 : Hid (RAh w5 w1 w3.heap.size w4.heap.size Z.fr Z.sr (.slice A1 k1 c1) (.slice A3 k2 c3) xs1 xs2 Z.ft Z.st) := hR.out.below hb1.out; have hO11 := Lib.hid (own_below hO1.out hb1.out); have hO21 := Lib.hid (own_below hO2.out hb1.out); replace hD1 := Lib.hid hD1; clear hkk1))
          have hTa : Hid (Calls Tryd.prog 93 #[.int .i64 1, .slice (some ⟨w1.heap.size, 0, none⟩) 2 2] (tW w1 wr.heap.size w3.heap.size) fun e w' => ∃ v, e = .returned v ∧ w'.ownsRow (tW w1 wr.heap.size w3.heap.size).heap.size 5 1 v 65 (cells8 qa) ∧ Below (tW w1 wr.heap.size w3.heap.size).heap.size (tW w1 wr.heap.size w3.heap.size) w') := by
           have hpc := tW_pieces (w := w1) hD1.out hR1.out.lf1 hdl.out hZok.out.fl
           have := refText_any [d, Z.fr] 2 rfl (some ⟨w1.heap.size, 0, none⟩) 2 1 (tW w1 wr.heap.size w3.heap.size) (by simp [hdl.out, hZok.out.fl]) (by decide) hpc
           rw [show kb 1 :: [d, Z.fr].flatten = qa by rw [← hqa.out]; simp, show 1 + [d, Z.fr].flatten.length = 65 by simp [hdl.out, hZok.out.fl]] at this
           exact this
          refine held_start (fun _ => True) 8 rfl (by kernel_rfl) ?_
          refine Held.tk0 (i := 0) (v := .slice A1 k1 c1) rfl trivial (fun w' hw' => run_mv (.tmp 21) rfl w') ?_
          (intro K k; go_simp; apply k; clear k K)
          refine Held.tk0 (i := 1) (v := .slice (some ⟨wr.heap.size, 0, none⟩) 32 32) rfl trivial (fun w' hw' => by go_simp) ?_
          (intro K k; go_simp; apply k; clear k K)
          refine Held.tk0 (i := 2) (v := .slice (some ⟨w3.heap.size, 0, none⟩) 32 32) rfl trivial (fun w' hw' => by go_simp) ?_
          (intro K k; go_simp; apply k; clear k K)
          refine held_only (i := 3) rfl (by kernel_rfl) (by rfl) (fun K hK => ?_)
          go_simp
          refine hK _ _ trivial ?_
          clear hK K
          change wpAnyH _ _ _ _ _ _ _ _ (tW w1 wr.heap.size w3.heap.size)
          refine held_only (i := 4) rfl (by kernel_rfl) (by rfl) (fun K hK => ?_)
          refine wp_fn (R := fun v w'' => Below (tW w1 wr.heap.size w3.heap.size).heap.size (tW w1 wr.heap.size w3.heap.size) w'' ∧ w''.ownsRow (tW w1 wr.heap.size w3.heap.size).heap.size 5 1 v 65 (cells8 qa)) (args := #[.int .i64 1, .slice (some ⟨w1.heap.size, 0, none⟩) 2 2]) _ _ rfl rfl Tryd.func93 (by kernel_rfl) (by kernel_rfl) (hTa.out.mono fun e w'' ⟨v, he, ho, hb⟩ => ⟨_, he, hb, ho⟩) ?_
          rintro v3 w3a ⟨hb3a, ho3a⟩
          obtain ⟨gta, cta, rfl, hgt1, hgt2⟩ := ho3a.form (by decide)
          go_simp
          refine hK _ _ trivial ?_
          clear hK K
          have hgta : Hid (w1.heap.size ≤ gta ∧ gta < w3a.heap.size) := by have := tW_size w1 wr.heap.size w3.heap.size; exact ⟨by omega, hgt2⟩
          have hb13a : Hid (Below w1.heap.size w1 w3a) := (tW_below w1 _ _).trans (hb3a.mono (by rw [tW_size]; omega))
          obtain ⟨At, ct', et, hcta, -, -, hrt, -⟩ := Own.reads ho3a
          injection et with et1 et2 et3
          subst et1 et3
          have hrqa : Hid (Reads w3a 1 (some ⟨gta, 0, none⟩) 65 (cells8 qa)) := hrt
          replace hcta := Lib.hid hcta
          have hOwa : Hid ((w3a.alloc (.cells #[.slice (some ⟨gta, 0, none⟩) 65 cta] 27)).ownsRow w5.heap.size 27 1 (.slice A1 k1 c1) k1 xs1) := (own_below (own_below hO11.out hb13a.out) (Below.heap_below w3a _))
          have hNwa : Hid (Reads (w3a.alloc (.cells #[.slice (some ⟨gta, 0, none⟩) 65 cta] 27)) 1 (some ⟨w3a.heap.size, 0, none⟩) 1 [.slice (some ⟨gta, 0, none⟩) 65 cta]) := Blk.reads (Blk.new w3a 27 #[.slice (some ⟨gta, 0, none⟩) 65 cta]) 0 _ rfl (fun j u hu => by rw [Nat.zero_add]; simpa using hu)
          have hswa : Hid (w5.heap.size ≤ (w3a.alloc (.cells #[.slice (some ⟨gta, 0, none⟩) 65 cta] 27)).heap.size) := by have := hb13a.out.size; have := (hR1.out).kept.size; show _ ≤ _; simp; omega
          clear hb3a ho3a hgt1 hgt2 hrt hTa
          refine held_only (i := 5) rfl (by kernel_rfl) (by rfl) (fun K hK => ?_)
          go_simp
          refine hK _ _ trivial ?_
          clear hK K
          refine held_only (i := 6) rfl (by kernel_rfl) (by rfl) (fun K hK => ?_)
          refine wp_append_src _ (.tmp 105) (.tmp 110) 24 rfl w5.heap.size 27 i0 (.slice none 0 0) 1 24 Tryd.underlying24 ii iz0 iz1 iz2 rfl (by decide) (.slice A1 k1 c1) k1 xs1 rfl hOwa.out (some ⟨w3a.heap.size, 0, none⟩) 1 1 [.slice (some ⟨gta, 0, none⟩) 65 cta] rfl hNwa.out (fun e => by cases e) (one_one rfl) hl1.out.1 hl1.out.2 hswa.out ?_
          intro v4 w4a hGa
          obtain ⟨A4a, c4a, rfl, -⟩ := Own.reads hGa.own
          replace hGa := Lib.hid hGa
          go_simp
          refine hK _ _ trivial ?_
          clear hK K
          refine Held.tk0 (i := 7) (v := .slice A4a (k1 + 1) c4a) rfl trivial (fun w' hw' => by first | go_simp | rfl) ?_
          (intro K k; go_simp; apply k; clear k K)
          refine held_end (by kernel_rfl) ?_
          have hk14a : Hid (Kept (fun q => some q = (Value.slice A1 k1 c1).ownBlock) w1 w4a) := ⟨hGa.out.grow.os.trans hb13a.out.os, hGa.out.grow.tape.trans hb13a.out.tape, hGa.out.grow.output.trans hb13a.out.output, (by have h1 := hGa.out.grow.size; have h2 := hb13a.out.size; simp at h1; omega), fun p hp hne => (hGa.out.grow.block p (by have := hb13a.out.size; simp; omega) hne).trans ((Below.heap_alloc _ _ _ (by have := hb13a.out.size; omega)).trans (hb13a.out.block p hp))⟩
          have hDa : Hid (Blk w4a wr.heap.size 23 (cells8 d).toArray) := (hD1.out).kept hk14a.out (fun e => hdn1.out e)
          have hRa := Lib.hid (RAh.push (q := qa) (gt := gta) (ct := cta) (hR1.out) hb13a.out hk1.out (by rw [hqal.out]; exact hrqa.out) (by have := hqal.out; omega) hgta.out (by rw [hqal.out]; exact hcta.out) ⟨by have := hs34.out; omega, by have := hs34.out; omega⟩ (by rw [hqal.out]; exact hGa.out))
          rw [hqal.out] at hRa
          clear hNwa hswa hOwa hGa hrqa hcta hgta hb13a hk14a
          go_wp2_with (first
           | ((with_reducible change wpList _ _ _ (⟨some 113, _, _, _, _, _⟩ :: _) _ _); refine wpList_load_row (o := ⟨some 113, _, _, _, _, _⟩) rfl 23 (.tmp 24) rfl (wr.heap.size) rfl 23 ((cells8 d).toArray) (0, 0) _ hDa.out Tryd.underlying23 rfl Fd.out.size ?_)
           | ((with_reducible change wpList _ _ _ (⟨some 114, _, _, _, _, _⟩ :: _) _ _); refine wpList_load_row (o := ⟨some 114, _, _, _, _, _⟩) rfl 23 (.tmp 19) rfl (w3.heap.size) rfl 23 ((cells8 Z.fr).toArray) (0, 0) _ hRa.out.lf1 Tryd.underlying23 rfl Fa.out.size ?_)
           | (go_at_call 139; refine (hNa.out _).mono ?_; rintro e w5a ⟨rfl, hb5a⟩; have hL5a : Hid (Blk w5a w3.heap.size 23 (cells8 Z.fr).toArray) := (hb5a.block _ hRa.out.lf1.lt).trans hRa.out.lf1; replace hb5a := Lib.hid hb5a)
           | ((with_reducible change wpList _ _ _ ({ dst := none, op := Op.store 23 (.tmp 19) _, type := _, pos := _, after := _, guard := _ } :: _) _ _); refine wpList_store_whole0 (o := ⟨none, _, _, _, _, _⟩) rfl rfl 23 (.tmp 19) (.tmp 115) rfl (w3.heap.size) ((cells8 za).toArray) rfl rfl 23 ((cells8 Z.fr).toArray) hL5a.out Fza.out.size hqqa.out Fza.out.one ?_; intro w6 hB6 hk6; have hR6 := Lib.hid (RAh.store (hRa.out.below hb5a.out) hZok.out.fl hB6 hk6 (by have := hs34.out; omega) (by have := hs34.out; omega)); have hD6 : Hid (Blk w6 wr.heap.size 23 (cells8 d).toArray) := Blk.kept (w := w5a) ((hb5a.out.block _ hDa.out.lt).trans hDa.out) hk6 (fun e => hdb.out.1 e); have hO26 : Hid (w6.ownsRow w5.heap.size 27 1 (.slice A3 k2 c3) k2 xs2) := hk2.out ▸ hR6.out.o2; clear hB6 hk6 hb5a hL5a hDa hRa))
          have hTb : Hid (Calls Tryd.prog 93 #[.int .i64 1, .slice (some ⟨w6.heap.size, 0, none⟩) 2 2] (tW w6 wr.heap.size w4.heap.size) fun e w' => ∃ v, e = .returned v ∧ w'.ownsRow (tW w6 wr.heap.size w4.heap.size).heap.size 5 1 v 65 (cells8 qb) ∧ Below (tW w6 wr.heap.size w4.heap.size).heap.size (tW w6 wr.heap.size w4.heap.size) w') := by
           have hpc := tW_pieces (w := w6) hD6.out hR6.out.lf2 hdl.out hZok.out.sl
           have := refText_any [d, Z.sr] 2 rfl (some ⟨w6.heap.size, 0, none⟩) 2 1 (tW w6 wr.heap.size w4.heap.size) (by simp [hdl.out, hZok.out.sl]) (by decide) hpc
           rw [show kb 1 :: [d, Z.sr].flatten = qb by rw [← hqb.out]; simp, show 1 + [d, Z.sr].flatten.length = 65 by simp [hdl.out, hZok.out.sl]] at this
           exact this
          refine held_start (fun _ => True) 8 rfl (by kernel_rfl) ?_
          refine Held.tk0 (i := 0) (v := .slice A3 k2 c3) rfl trivial (fun w' hw' => run_mv (.tmp 22) rfl w') ?_
          (intro K k; go_simp; apply k; clear k K)
          refine Held.tk0 (i := 1) (v := .slice (some ⟨wr.heap.size, 0, none⟩) 32 32) rfl trivial (fun w' hw' => by go_simp) ?_
          (intro K k; go_simp; apply k; clear k K)
          refine Held.tk0 (i := 2) (v := .slice (some ⟨w4.heap.size, 0, none⟩) 32 32) rfl trivial (fun w' hw' => by go_simp) ?_
          (intro K k; go_simp; apply k; clear k K)
          refine held_only (i := 3) rfl (by kernel_rfl) (by rfl) (fun K hK => ?_)
          go_simp
          refine hK _ _ trivial ?_
          clear hK K
          change wpAnyH _ _ _ _ _ _ _ _ (tW w6 wr.heap.size w4.heap.size)
          refine held_only (i := 4) rfl (by kernel_rfl) (by rfl) (fun K hK => ?_)
          refine wp_fn (R := fun v w'' => Below (tW w6 wr.heap.size w4.heap.size).heap.size (tW w6 wr.heap.size w4.heap.size) w'' ∧ w''.ownsRow (tW w6 wr.heap.size w4.heap.size).heap.size 5 1 v 65 (cells8 qb)) (args := #[.int .i64 1, .slice (some ⟨w6.heap.size, 0, none⟩) 2 2]) _ _ rfl rfl Tryd.func93 (by kernel_rfl) (by kernel_rfl) (hTb.out.mono fun e w'' ⟨v, he, ho, hb⟩ => ⟨_, he, hb, ho⟩) ?_
          rintro v3 w3b ⟨hb3b, ho3b⟩
          obtain ⟨gtb, ctb, rfl, hgt1, hgt2⟩ := ho3b.form (by decide)
          go_simp
          refine hK _ _ trivial ?_
          clear hK K
          have hgtb : Hid (w6.heap.size ≤ gtb ∧ gtb < w3b.heap.size) := by have := tW_size w6 wr.heap.size w4.heap.size; exact ⟨by omega, hgt2⟩
          have hb13b : Hid (Below w6.heap.size w6 w3b) := (tW_below w6 _ _).trans (hb3b.mono (by rw [tW_size]; omega))
          obtain ⟨At, ct', et, hctb, -, -, hrt, -⟩ := Own.reads ho3b
          injection et with et1 et2 et3
          subst et1 et3
          have hrqb : Hid (Reads w3b 1 (some ⟨gtb, 0, none⟩) 65 (cells8 qb)) := hrt
          replace hctb := Lib.hid hctb
          have hOwb : Hid ((w3b.alloc (.cells #[.slice (some ⟨gtb, 0, none⟩) 65 ctb] 27)).ownsRow w5.heap.size 27 1 (.slice A3 k2 c3) k2 xs2) := (own_below (own_below hO26.out hb13b.out) (Below.heap_below w3b _))
          have hNwb : Hid (Reads (w3b.alloc (.cells #[.slice (some ⟨gtb, 0, none⟩) 65 ctb] 27)) 1 (some ⟨w3b.heap.size, 0, none⟩) 1 [.slice (some ⟨gtb, 0, none⟩) 65 ctb]) := Blk.reads (Blk.new w3b 27 #[.slice (some ⟨gtb, 0, none⟩) 65 ctb]) 0 _ rfl (fun j u hu => by rw [Nat.zero_add]; simpa using hu)
          have hswb : Hid (w5.heap.size ≤ (w3b.alloc (.cells #[.slice (some ⟨gtb, 0, none⟩) 65 ctb] 27)).heap.size) := by have := hb13b.out.size; have := (hR6.out.swap).kept.size; show _ ≤ _; simp; omega
          clear hb3b ho3b hgt1 hgt2 hrt hTb
          refine held_only (i := 5) rfl (by kernel_rfl) (by rfl) (fun K hK => ?_)
          go_simp
          refine hK _ _ trivial ?_
          clear hK K
          refine held_only (i := 6) rfl (by kernel_rfl) (by rfl) (fun K hK => ?_)
          refine wp_append_src _ (.tmp 116) (.tmp 121) 24 rfl w5.heap.size 27 i0 (.slice none 0 0) 1 24 Tryd.underlying24 ii iz0 iz1 iz2 rfl (by decide) (.slice A3 k2 c3) k2 xs2 rfl hOwb.out (some ⟨w3b.heap.size, 0, none⟩) 1 1 [.slice (some ⟨gtb, 0, none⟩) 65 ctb] rfl hNwb.out (fun e => by cases e) (one_one rfl) hl2.out.1 hl2.out.2 hswb.out ?_
          intro v4 w4b hGb
          obtain ⟨A4b, c4b, rfl, -⟩ := Own.reads hGb.own
          replace hGb := Lib.hid hGb
          go_simp
          refine hK _ _ trivial ?_
          clear hK K
          refine Held.tk0 (i := 7) (v := .slice A4b (k2 + 1) c4b) rfl trivial (fun w' hw' => by first | go_simp | rfl) ?_
          (intro K k; go_simp; apply k; clear k K)
          refine held_end (by kernel_rfl) ?_
          have hk14b : Hid (Kept (fun q => some q = (Value.slice A3 k2 c3).ownBlock) w6 w4b) := ⟨hGb.out.grow.os.trans hb13b.out.os, hGb.out.grow.tape.trans hb13b.out.tape, hGb.out.grow.output.trans hb13b.out.output, (by have h1 := hGb.out.grow.size; have h2 := hb13b.out.size; simp at h1; omega), fun p hp hne => (hGb.out.grow.block p (by have := hb13b.out.size; simp; omega) hne).trans ((Below.heap_alloc _ _ _ (by have := hb13b.out.size; omega)).trans (hb13b.out.block p hp))⟩
          have hDb : Hid (Blk w4b wr.heap.size 23 (cells8 d).toArray) := (hD6.out).kept hk14b.out (fun e => hdn2.out e)
          have hRb := Lib.hid (RAh.push (q := qb) (gt := gtb) (ct := ctb) (hR6.out.swap) hb13b.out hk2.out (by rw [hqbl.out]; exact hrqb.out) (by have := hqbl.out; omega) hgtb.out (by rw [hqbl.out]; exact hctb.out) ⟨by have := hs34.out; omega, by have := hs34.out; omega⟩ (by rw [hqbl.out]; exact hGb.out))
          rw [hqbl.out] at hRb
          clear hNwb hswb hOwb hGb hrqb hctb hgtb hb13b hk14b
          go_wp2_with (first
           | ((with_reducible change wpList _ _ _ (⟨some 124, _, _, _, _, _⟩ :: _) _ _); refine wpList_load_row (o := ⟨some 124, _, _, _, _, _⟩) rfl 23 (.tmp 24) rfl (wr.heap.size) rfl 23 ((cells8 d).toArray) (0, 0) _ hDb.out Tryd.underlying23 rfl Fd.out.size ?_)
           | ((with_reducible change wpList _ _ _ (⟨some 125, _, _, _, _, _⟩ :: _) _ _); refine wpList_load_row (o := ⟨some 125, _, _, _, _, _⟩) rfl 23 (.tmp 20) rfl (w4.heap.size) rfl 23 ((cells8 Z.sr).toArray) (0, 0) _ hRb.out.lf1 Tryd.underlying23 rfl Fb.out.size ?_)
           | (go_at_call 139; refine (hNb.out _).mono ?_; rintro e w5b ⟨rfl, hb5b⟩; have hL5b : Hid (Blk w5b w4.heap.size 23 (cells8 Z.sr).toArray) := (hb5b.block _ hRb.out.lf1.lt).trans hRb.out.lf1; replace hb5b := Lib.hid hb5b)
           | ((with_reducible change wpList _ _ _ ({ dst := none, op := Op.store 23 (.tmp 20) _, type := _, pos := _, after := _, guard := _ } :: _) _ _); refine wpList_store_whole0 (o := ⟨none, _, _, _, _, _⟩) rfl rfl 23 (.tmp 20) (.tmp 126) rfl (w4.heap.size) ((cells8 zb).toArray) rfl rfl 23 ((cells8 Z.sr).toArray) hL5b.out Fzb.out.size hqqb.out Fzb.out.one ?_; intro w8 hB8 hk8; have hR8 := Lib.hid (RAh.store (hRb.out.below hb5b.out) hZok.out.sl hB8 hk8 (by have := hs34.out; omega) (by have := hs34.out; omega)).swap; clear hB8 hk8 hb5b hL5b hDb hRb))
          have hR9 : Hid (RAh w5 w8 w3.heap.size w4.heap.size (Zf (j + 1)).fr (Zf (j + 1)).sr (.slice A4a (k1 + 1) c4a) (.slice A4b (k2 + 1) c4b) (xs1 ++ [.slice (some ⟨gta, 0, none⟩) 65 cta]) (xs2 ++ [.slice (some ⟨gtb, 0, none⟩) 65 ctb]) (Zf (j + 1)).ft (Zf (j + 1)).st) := by show RAh _ _ _ _ _ _ _ _ _ _ _ _; rw [hst2.out]; exact hR8.out
          clear hm1 hm2 hm3 hR hR1 hR8
          go_loopw [17, 18] (fun x y wi => ∃ f2 s2 : Nat, x = .int .i64 (f2 : Int) ∧ y = .int .i64 (s2 : Int) ∧ f2 ≤ fn ∧ s2 ≤ fn ∧ Hid (At size (old - 1) (k + j - 1) f2 s2) ∧ Hid (Dir f2 s2) ∧ wi = w8) (fun x _ _ => (intOf x).toNat)
          case atStart => exact ⟨fn, fn, rfl, rfl, Nat.le_refl _, Nat.le_refl _, hAt.out, hdir.out, rfl⟩
          case round =>
           obtain ⟨f2, s2, rfl, rfl, hf2, hs2, hA2, hd2, rfl⟩ := hrel
           have hf40 : (f2 : Int) < 1099511627776 := by have := hfn40; omega
           have hs40 : (s2 : Int) < 1099511627776 := by have := hsn40; omega
           have hf0 : (0 : Int) ≤ (f2 : Int) := by omega
           have hs0 : (0 : Int) ≤ (s2 : Int) := by omega
           by_cases hodd : f2 % 2 = 1
           ·have hm1 : (f2 : Int) % 2 = 1 := by omega
            have hm2 : (f2 : Int).tmod 2 = 1 := by rw [Int.tmod_eq_emod_of_nonneg (by omega)]; exact hm1
            have hf1 : (f2 : Int).tdiv 2 = ((f2 / 2 : Nat) : Int) := by rw [Int.tdiv_eq_ediv_of_nonneg (by omega)]; omega
            have hs1 : (s2 : Int).tdiv 2 = ((s2 / 2 : Nat) : Int) := by rw [Int.tdiv_eq_ediv_of_nonneg (by omega)]; omega
            obtain ⟨-, hAt2⟩ := hA2.out.odd hiO.out hodd
            replace hAt2 := Lib.hid hAt2
            clear hodd hd2 hm1
            go_wp2_with fail
            go_roundw
            case rel => exact ⟨j + 1, f2 / 2, s2 / 2, _, _, _, _, by go_num, ⟨by omega, hjn.out⟩, (by first | rfl | (congr 1; omega)), (by first | rfl | (congr 1; omega)), rfl, rfl, (by have h := hAt2.out; rw [show k + j - 1 + 1 = k + (j + 1) - 1 by have := hj.out; omega] at h; exact h), hR9.out⟩
            case measure => (have := hjn.out; simp [intOf]; omega)
           ·have hm1 : (f2 : Int) % 2 = 0 := by omega
            have hm2 : (f2 : Int).tmod 2 = 0 := by rw [Int.tmod_eq_emod_of_nonneg (by omega)]; exact hm1
            have heq : f2 = s2 := by have : f2 % 2 = 1 ∨ f2 = s2 := hd2.out; omega
            subst heq
            have hf1 : (f2 : Int).tdiv 2 = ((f2 / 2 : Nat) : Int) := by rw [Int.tdiv_eq_ediv_of_nonneg (by omega)]; omega
            have hne0 : ¬ f2 = 0 := fun e => by
             have h1 := hA2.out
             rw [e] at h1
             have := h1.done hiO.out rfl
             have := hjl.out
             omega
            have hm3 : ((f2 : Int) == 0) = false := beq_eq_false_iff_ne.2 (by omega)
            have hm4 : ((f2 : Int) != 0) = true := by rw [bne, hm3]; rfl
            have hm5 : ¬ ((f2 : Int) = 0) := by omega
            have hA3 : Hid (At size (old - 1) (k + j - 1) (f2 / 2) (f2 / 2)) := hA2.out.skip hiO.out hodd rfl
            have hlt3 : Hid (f2 / 2 < f2) := by show _ < _; omega
            clear hodd hd2 hne0 hm1
            go_wp2_with fail
            go_roundw
            case rel => exact ⟨f2 / 2, f2 / 2, (by first | rfl | (congr 1; omega)), (by first | rfl | (congr 1; omega)), by have := hlt3.out; omega, by have := hlt3.out; omega, hA3.out, .inr rfl, by first | rfl | trivial⟩
            case measure => (have := hlt3.out; simp [intOf]; omega)
         ·have hm1 : (fn : Int) % 2 = 0 := by omega
          have hm2 : (fn : Int).tmod 2 = 0 := by rw [Int.tmod_eq_emod_of_nonneg (by omega)]; exact hm1
          have hm3 : ((fn : Int) == (sn : Int)) = false := beq_eq_false_iff_ne.2 (by omega)
          have hm4 : ¬ ((fn : Int) = (sn : Int)) := by omega
          obtain ⟨hside, hAt2⟩ := hAt.out.right hiO.out ho he
          replace hAt2 := Lib.hid hAt2
          obtain ⟨zb, hzb⟩ : ∃ z, Hid (ndOf s Z.sr d = z) := ⟨_, Lib.hid rfl⟩
          obtain ⟨qb, hqb⟩ : ∃ q : Text, Hid (kb 1 :: (Z.sr ++ d) = q) := ⟨_, Lib.hid rfl⟩
          have hqbl : Hid (qb.length = 65) := by show _ = _; rw [← hqb.out]; simp [hZok.out.sl, hdl.out]
          have Fzb := Lib.hid (fit (x := zb) (by rw [← hzb.out]; exact ndOf_len s _ _))
          have hNb : Hid (∀ w', Calls Tryd.prog 139 #[.int .i64 s, .agg (cells8 Z.sr).toArray, .agg (cells8 d).toArray] w' fun e w'' => e = .returned (.agg (cells8 zb).toArray) ∧ Below w'.heap.size w' w'') := fun w' => by
           have := refnode_any Z.sr d hZok.out.sl hdl.out s w' hs63.out
           rw [show cutTo (sum (kb 1 :: (Z.sr ++ d))) (clampN s) = zb from hzb.out] at this
           exact this
          have hqqb := Lib.hid (Fzb.out.same Z.sr hZok.out.sl)
          have hst2 : Hid (Zf (j + 1) = ⟨Z.fr, zb, Z.ft, Z.st ++ [qb]⟩) := by
           show _ = _
           rw [hst.out _ hside, ahead1]
           simp [hzb.out, hqb.out]
          clear hside hst ho he
          go_wp2_with (first
           | ((with_reducible change wpList _ _ _ (⟨some 96, _, _, _, _, _⟩ :: _) _ _); refine wpList_load_part (o := ⟨some 96, _, _, _, _, _⟩) rfl 23 (.tmp 95) rfl (b) (o + j * 32) rfl (cells8 d) _ hdc.out Tryd.underlying23 rfl Fd.out.part ?_)
           | ((with_reducible change wpList _ _ _ ({ dst := none, op := Op.store 23 (.tmp 24) _, type := _, pos := _, after := _, guard := _ } :: _) _ _); refine wpList_store_whole (o := ⟨none, _, _, _, _, _⟩) rfl 23 (.tmp 24) (.tmp 96) rfl (wr.heap.size) ((cells8 d).toArray) rfl rfl 23 (Z32) (Blk.new wr _ _) Fd.out.size Fd.out.zero Fd.out.one ?_; intro w1 hD1 hkk1; have hb1 : Hid (Below wr.heap.size wr w1) := kept_fresh hkk1; have hR1 : Hid (RAh w5 w1 w3.heap.size w4.heap.size Z.fr Z.sr (.slice A1 k1 c1) (.slice A3 k2 c3) xs1 xs2 Z.ft Z.st) := hR.out.below hb1.out; have hO11 := Lib.hid (own_below hO1.out hb1.out); have hO21 := Lib.hid (own_below hO2.out hb1.out); replace hD1 := Lib.hid hD1; clear hkk1))
          have hTb : Hid (Calls Tryd.prog 93 #[.int .i64 1, .slice (some ⟨w1.heap.size, 0, none⟩) 2 2] (tW w1 w4.heap.size wr.heap.size) fun e w' => ∃ v, e = .returned v ∧ w'.ownsRow (tW w1 w4.heap.size wr.heap.size).heap.size 5 1 v 65 (cells8 qb) ∧ Below (tW w1 w4.heap.size wr.heap.size).heap.size (tW w1 w4.heap.size wr.heap.size) w') := by
           have hpc := tW_pieces (w := w1) hR1.out.lf2 hD1.out hZok.out.sl hdl.out
           have := refText_any [Z.sr, d] 2 rfl (some ⟨w1.heap.size, 0, none⟩) 2 1 (tW w1 w4.heap.size wr.heap.size) (by simp [hZok.out.sl, hdl.out]) (by decide) hpc
           rw [show kb 1 :: [Z.sr, d].flatten = qb by rw [← hqb.out]; simp, show 1 + [Z.sr, d].flatten.length = 65 by simp [hZok.out.sl, hdl.out]] at this
           exact this
          refine held_start (fun _ => True) 8 rfl (by kernel_rfl) ?_
          refine Held.tk0 (i := 0) (v := .slice A3 k2 c3) rfl trivial (fun w' hw' => run_mv (.tmp 22) rfl w') ?_
          (intro K k; go_simp; apply k; clear k K)
          refine Held.tk0 (i := 1) (v := .slice (some ⟨w4.heap.size, 0, none⟩) 32 32) rfl trivial (fun w' hw' => by go_simp) ?_
          (intro K k; go_simp; apply k; clear k K)
          refine Held.tk0 (i := 2) (v := .slice (some ⟨wr.heap.size, 0, none⟩) 32 32) rfl trivial (fun w' hw' => by go_simp) ?_
          (intro K k; go_simp; apply k; clear k K)
          refine held_only (i := 3) rfl (by kernel_rfl) (by rfl) (fun K hK => ?_)
          go_simp
          refine hK _ _ trivial ?_
          clear hK K
          change wpAnyH _ _ _ _ _ _ _ _ (tW w1 w4.heap.size wr.heap.size)
          refine held_only (i := 4) rfl (by kernel_rfl) (by rfl) (fun K hK => ?_)
          refine wp_fn (R := fun v w'' => Below (tW w1 w4.heap.size wr.heap.size).heap.size (tW w1 w4.heap.size wr.heap.size) w'' ∧ w''.ownsRow (tW w1 w4.heap.size wr.heap.size).heap.size 5 1 v 65 (cells8 qb)) (args := #[.int .i64 1, .slice (some ⟨w1.heap.size, 0, none⟩) 2 2]) _ _ rfl rfl Tryd.func93 (by kernel_rfl) (by kernel_rfl) (hTb.out.mono fun e w'' ⟨v, he, ho, hb⟩ => ⟨_, he, hb, ho⟩) ?_
          rintro v3 w3b ⟨hb3b, ho3b⟩
          obtain ⟨gtb, ctb, rfl, hgt1, hgt2⟩ := ho3b.form (by decide)
          go_simp
          refine hK _ _ trivial ?_
          clear hK K
          have hgtb : Hid (w1.heap.size ≤ gtb ∧ gtb < w3b.heap.size) := by have := tW_size w1 w4.heap.size wr.heap.size; exact ⟨by omega, hgt2⟩
          have hb13b : Hid (Below w1.heap.size w1 w3b) := (tW_below w1 _ _).trans (hb3b.mono (by rw [tW_size]; omega))
          obtain ⟨At, ct', et, hctb, -, -, hrt, -⟩ := Own.reads ho3b
          injection et with et1 et2 et3
          subst et1 et3
          have hrqb : Hid (Reads w3b 1 (some ⟨gtb, 0, none⟩) 65 (cells8 qb)) := hrt
          replace hctb := Lib.hid hctb
          have hOwb : Hid ((w3b.alloc (.cells #[.slice (some ⟨gtb, 0, none⟩) 65 ctb] 27)).ownsRow w5.heap.size 27 1 (.slice A3 k2 c3) k2 xs2) := (own_below (own_below hO21.out hb13b.out) (Below.heap_below w3b _))
          have hNwb : Hid (Reads (w3b.alloc (.cells #[.slice (some ⟨gtb, 0, none⟩) 65 ctb] 27)) 1 (some ⟨w3b.heap.size, 0, none⟩) 1 [.slice (some ⟨gtb, 0, none⟩) 65 ctb]) := Blk.reads (Blk.new w3b 27 #[.slice (some ⟨gtb, 0, none⟩) 65 ctb]) 0 _ rfl (fun j u hu => by rw [Nat.zero_add]; simpa using hu)
          have hswb : Hid (w5.heap.size ≤ (w3b.alloc (.cells #[.slice (some ⟨gtb, 0, none⟩) 65 ctb] 27)).heap.size) := by have := hb13b.out.size; have := (hR1.out.swap).kept.size; show _ ≤ _; simp; omega
          clear hb3b ho3b hgt1 hgt2 hrt hTb
          refine held_only (i := 5) rfl (by kernel_rfl) (by rfl) (fun K hK => ?_)
          go_simp
          refine hK _ _ trivial ?_
          clear hK K
          refine held_only (i := 6) rfl (by kernel_rfl) (by rfl) (fun K hK => ?_)
          refine wp_append_src _ (.tmp 138) (.tmp 143) 24 rfl w5.heap.size 27 i0 (.slice none 0 0) 1 24 Tryd.underlying24 ii iz0 iz1 iz2 rfl (by decide) (.slice A3 k2 c3) k2 xs2 rfl hOwb.out (some ⟨w3b.heap.size, 0, none⟩) 1 1 [.slice (some ⟨gtb, 0, none⟩) 65 ctb] rfl hNwb.out (fun e => by cases e) (one_one rfl) hl2.out.1 hl2.out.2 hswb.out ?_
          intro v4 w4b hGb
          obtain ⟨A4b, c4b, rfl, -⟩ := Own.reads hGb.own
          replace hGb := Lib.hid hGb
          go_simp
          refine hK _ _ trivial ?_
          clear hK K
          refine Held.tk0 (i := 7) (v := .slice A4b (k2 + 1) c4b) rfl trivial (fun w' hw' => by first | go_simp | rfl) ?_
          (intro K k; go_simp; apply k; clear k K)
          refine held_end (by kernel_rfl) ?_
          have hk14b : Hid (Kept (fun q => some q = (Value.slice A3 k2 c3).ownBlock) w1 w4b) := ⟨hGb.out.grow.os.trans hb13b.out.os, hGb.out.grow.tape.trans hb13b.out.tape, hGb.out.grow.output.trans hb13b.out.output, (by have h1 := hGb.out.grow.size; have h2 := hb13b.out.size; simp at h1; omega), fun p hp hne => (hGb.out.grow.block p (by have := hb13b.out.size; simp; omega) hne).trans ((Below.heap_alloc _ _ _ (by have := hb13b.out.size; omega)).trans (hb13b.out.block p hp))⟩
          have hDb : Hid (Blk w4b wr.heap.size 23 (cells8 d).toArray) := (hD1.out).kept hk14b.out (fun e => hdn2.out e)
          have hRb := Lib.hid (RAh.push (q := qb) (gt := gtb) (ct := ctb) (hR1.out.swap) hb13b.out hk2.out (by rw [hqbl.out]; exact hrqb.out) (by have := hqbl.out; omega) hgtb.out (by rw [hqbl.out]; exact hctb.out) ⟨by have := hs34.out; omega, by have := hs34.out; omega⟩ (by rw [hqbl.out]; exact hGb.out))
          rw [hqbl.out] at hRb
          clear hNwb hswb hOwb hGb hrqb hctb hgtb hb13b hk14b
          go_wp2_with (first
           | ((with_reducible change wpList _ _ _ (⟨some 146, _, _, _, _, _⟩ :: _) _ _); refine wpList_load_row (o := ⟨some 146, _, _, _, _, _⟩) rfl 23 (.tmp 20) rfl (w4.heap.size) rfl 23 ((cells8 Z.sr).toArray) (0, 0) _ hRb.out.lf1 Tryd.underlying23 rfl Fb.out.size ?_)
           | ((with_reducible change wpList _ _ _ (⟨some 147, _, _, _, _, _⟩ :: _) _ _); refine wpList_load_row (o := ⟨some 147, _, _, _, _, _⟩) rfl 23 (.tmp 24) rfl (wr.heap.size) rfl 23 ((cells8 d).toArray) (0, 0) _ hDb.out Tryd.underlying23 rfl Fd.out.size ?_)
           | (go_at_call 139; refine (hNb.out _).mono ?_; rintro e w5b ⟨rfl, hb5b⟩; have hL5b : Hid (Blk w5b w4.heap.size 23 (cells8 Z.sr).toArray) := (hb5b.block _ hRb.out.lf1.lt).trans hRb.out.lf1; replace hb5b := Lib.hid hb5b)
           | ((with_reducible change wpList _ _ _ ({ dst := none, op := Op.store 23 (.tmp 20) _, type := _, pos := _, after := _, guard := _ } :: _) _ _); refine wpList_store_whole0 (o := ⟨none, _, _, _, _, _⟩) rfl rfl 23 (.tmp 20) (.tmp 148) rfl (w4.heap.size) ((cells8 zb).toArray) rfl rfl 23 ((cells8 Z.sr).toArray) hL5b.out Fzb.out.size hqqb.out Fzb.out.one ?_; intro w8 hB8 hk8; have hR8 := Lib.hid (RAh.store (hRb.out.below hb5b.out) hZok.out.sl hB8 hk8 (by have := hs34.out; omega) (by have := hs34.out; omega)).swap; clear hB8 hk8 hb5b hL5b hDb hRb))
          have hR9 : Hid (RAh w5 w8 w3.heap.size w4.heap.size (Zf (j + 1)).fr (Zf (j + 1)).sr (.slice A1 k1 c1) (.slice A4b (k2 + 1) c4b) xs1 (xs2 ++ [.slice (some ⟨gtb, 0, none⟩) 65 ctb]) (Zf (j + 1)).ft (Zf (j + 1)).st) := by show RAh _ _ _ _ _ _ _ _ _ _ _ _; rw [hst2.out]; exact hR8.out
          have hf1 : (fn : Int).tdiv 2 = ((fn / 2 : Nat) : Int) := by rw [Int.tdiv_eq_ediv_of_nonneg (by omega)]; omega
          have hs1' : (sn : Int).tdiv 2 = ((sn / 2 : Nat) : Int) := by rw [Int.tdiv_eq_ediv_of_nonneg (by omega)]; omega
          clear hm1 hm2 hm3 hm4 hR hR1 hR8
          go_wp2_with fail
          go_roundw
          case rel => exact ⟨j + 1, fn / 2, sn / 2, _, _, _, _, by go_num, ⟨by omega, hjn.out⟩, (by first | rfl | (congr 1; omega)), (by first | rfl | (congr 1; omega)), rfl, rfl, (by have h := hAt2.out; rw [show k + j - 1 + 1 = k + (j + 1) - 1 by have := hj.out; omega] at h; exact h), hR9.out⟩
          case measure => (have := hjn.out; simp [intOf]; omega)
       ·obtain rfl : j = N := by have := hj.out; omega
        have hz2 : ¬ ((j : Int) < (j : Int)) := by omega
        rw [hZe.out]
        have hA5r : Hid (Blk wr (w.heap.size + 1) 23 Z32) := hA5.out.kept hR.out.kept (by have := hs34.out; omega)
        have hE5r : Hid (Blk wr (w.heap.size + 2) 23 Z32) := hE5.out.kept hR.out.kept (by have := hs34.out; omega)
        obtain ⟨S, hS⟩ : ∃ S : Nat → Prop, Hid (S = fun g => some g = (Value.slice A1 k1 c1).ownBlock ∨ g = w.heap.size + 1 ∨ g = w.heap.size + 2) := ⟨_, rfl⟩
        have hr1 : Hid (∀ g, some g = (Value.slice A1 k1 c1).ownBlock → w5.heap.size ≤ g) := fun g e => (hR.out.o1.lt g e.symm).1
        have hSf : Hid (∀ g, S g → (∃ t cs, Blk wr g t cs ∧ cs.size ≤ 32) ∨ (∃ u, wr.cell? ⟨g, 0, none⟩ = some u ∧ ∀ n, u ≠ .int .u8 n)) := fun g hg => by
         rw [hS.out] at hg
         rcases hg with hg | rfl | rfl
         ·exact .inr (row_front hR.out.o1 hR.out.tx1 rfl hR.out.e1 hg.symm)
         ·exact .inl ⟨_, _, hA5r.out, by simp [Z32]⟩
         ·exact .inl ⟨_, _, hE5r.out, by simp [Z32]⟩
        have hnS : Hid (∀ g, w.heap.size + 3 ≤ g → g < w5.heap.size → ¬ S g) := fun g h1 h2 h => by
         rw [hS.out] at h
         rcases h with h | h | h
         ·have := hr1.out g h; omega
         ·omega
         ·omega
        have hL1 : Hid (∀ w', Kept S wr w' → Blk w' w3.heap.size 23 (cells8 Z.fr).toArray) := fun w' h => hR.out.lf1.kept h (hnS.out _ (by have := hs34.out; omega) (by have := hs34.out; omega))
        have hL2 : Hid (∀ w', Kept S wr w' → Blk w' w4.heap.size 23 (cells8 Z.sr).toArray) := fun w' h => hR.out.lf2.kept h (hnS.out _ (by have := hs34.out; omega) (by have := hs34.out; omega))
        have hone2 : Hid (∀ u ∈ xs2, u.oneCell' = true) := fun u hu => by
         obtain ⟨i, hi, rfl⟩ := List.getElem_of_mem hu
         have hl : xs2.length = k2 := by simpa using hrd3.1
         obtain ⟨q, hq⟩ : ∃ q, Z.st[i]? = some q := ⟨_, List.getElem?_eq_getElem (by have := hk2.out; omega)⟩
         obtain ⟨-, g, cq, a1, -⟩ := hR.out.tx2 i q hq
         rw [List.getElem?_eq_getElem hi] at a1
         rw [Option.some.inj a1]
         rfl
        have hxl1 : Hid (xs1.length = Z.ft.length) := by show _ = _; have := hR.out.o1.1; simpa using this
        have hO1 : Hid (wr.ownsRow w5.heap.size 27 1 (.slice A1 k1 c1) k1 xs1) := hk1.out ▸ hR.out.o1
        have hw5s : Hid (w5.heap.size ≤ wr.heap.size) := hR.out.kept.size
        have hw5w : Hid (w.heap.size + 4 ≤ w5.heap.size) := by have := hs34.out; show _ ≤ _; omega
        have hbWr : Hid (Below w.heap.size w wr) := Kept.toBelow hbW5.out hR.out.kept (fun g h => by have := hs34.out; rcases h with h | h <;> omega) hbW5.out.size
        replace hrd3 := Lib.hid hrd3
        replace hnil3 := Lib.hid hnil3
        clear hlt hstep hA5 hE5 hb35 hbW5 hbr
        go_wp2_with fail
        have s0 : Hid (Kept S wr wr.drew) := (Kept.refl _ _).drew
        refine held_start (fun w' => Kept S wr w') 9 rfl (by kernel_rfl) ?_
        refine Held.tk0 (i := 0) (v := .agg ((cells8 Z.fr).toArray)) rfl s0.out (fun w' hw' => exec_row 23 (.tmp 19) rfl (w3.heap.size) rfl 23 ((cells8 Z.fr).toArray) (0, 0) _ (hL1.out w' hw') Tryd.underlying23 rfl Fa.out.size) ?_
        (intro K k; go_simp; apply k; clear k K)
        refine Held.tk0 (i := 1) (v := .agg ((cells8 Z.sr).toArray)) rfl s0.out (fun w' hw' => exec_row 23 (.tmp 20) rfl (w4.heap.size) rfl 23 ((cells8 Z.sr).toArray) (0, 0) _ (hL2.out w' hw') Tryd.underlying23 rfl Fb.out.size) ?_
        (intro K k; go_simp; apply k; clear k K)
        refine Held.tk0 (i := 2) (v := .slice A1 k1 c1) rfl s0.out (fun w' hw' => run_mv (.tmp 21) rfl w') ?_
        (intro K k; go_simp; apply k; clear k K)
        refine Held.tk0 (i := 3) (v := .slice A3 k2 c3) rfl s0.out (fun w' hw' => run_mv (.tmp 22) rfl w') ?_
        (intro K k; go_simp; apply k; clear k K)
        refine held_only (i := 4) rfl (by kernel_rfl) (by rfl) (fun K hK => ?_)
        refine wp_append_src _ (.tmp 155) (.tmp 156) 24 rfl w5.heap.size 27 i0 (.slice none 0 0) 1 24 Tryd.underlying24 ii iz0 iz1 iz2 rfl (by decide) (.slice A1 k1 c1) k1 xs1 rfl hO1.out A3 k2 c3 xs2 rfl hrd3.out hnil3.out hone2.out (by have := hk41.out; unfold maxLen; omega) (by have := hk41.out; omega) hw5s.out ?_
        intro v8 w8 hG
        obtain ⟨A8, c8, rfl, -⟩ := Own.reads hG.own
        have h8 : Hid (Kept S wr w8) := (Kept.refl S wr).drew.grown hG.grow (fun k e => .inl (by rw [hS.out]; exact .inl e.symm))
        have hat : Hid (∀ k, (Value.slice A8 (k1 + k2) c8).ownBlock = some k → w5.heap.size ≤ k) := fun k e => (hG.own.lt k e).1
        have hA8 : Hid (Blk w8 (w.heap.size + 1) 23 Z32) := Blk.grown (w := wr.drew) hA5r.out hG.grow (fun e => by have h := hr1.out _ e; have := hw5w.out; omega)
        have hE8 : Hid (Blk w8 (w.heap.size + 2) 23 Z32) := Blk.grown (w := wr.drew) hE5r.out hG.grow (fun e => by have h := hr1.out _ e; have := hw5w.out; omega)
        replace hG := Lib.hid hG
        go_simp
        refine hK _ _ h8.out ?_
        clear hK K
        refine held_only (i := 5) rfl (by kernel_rfl) (by rfl) (fun K hK => ?_)
        refine wp_store_whole 23 (.tmp 10) (.tmp 153) rfl (w.heap.size + 1) ((cells8 Z.fr).toArray) rfl rfl 23 Z32 hA8.out Fa.out.size Fa.out.zero Fa.out.one ?_
        intro w9 q9 k9
        have h9 : Hid (Kept S wr w9) := h8.out.trans k9 (fun i _ h => by rw [hS.out]; exact .inr (.inl h))
        go_simp
        refine hK _ _ h9.out ?_
        clear hK K
        refine held_only (i := 6) rfl (by kernel_rfl) (by rfl) (fun K hK => ?_)
        refine wp_store_whole 23 (.tmp 11) (.tmp 154) rfl (w.heap.size + 2) ((cells8 Z.sr).toArray) rfl rfl 23 Z32 (hE8.out.kept k9 (by omega)) Fb.out.size Fb.out.zero Fb.out.one ?_
        intro w10 q10 k10
        have h10 : Hid (Kept S wr w10) := h9.out.trans k10 (fun i _ h => by rw [hS.out]; exact .inr (.inr h))
        go_simp
        refine hK _ _ h10.out ?_
        clear hK K
        refine Held.tk0 (i := 7) (v := .slice A8 (k1 + k2) c8) rfl h10.out (fun w' hw' => by first | go_simp | rfl) ?_
        (intro K k; go_simp; apply k; clear k K)
        refine Held.tk0 (i := 8) (v := .int .i64 0) rfl h10.out (fun w' hw' => by first | go_simp | rfl) ?_
        (intro K k; go_simp; apply k; clear k K)
        refine held_end (by kernel_rfl) ?_
        have hQ1 : Hid (Blk w10 (w.heap.size + 1) 23 (cells8 Z.fr).toArray) := Blk.kept q9 k10 (by omega)
        have hQ2 : Hid (Blk w10 (w.heap.size + 2) 23 (cells8 Z.sr).toArray) := q10
        have hO10 : w10.ownsRow w5.heap.size 27 1 (.slice A8 (k1 + k2) c8) (k1 + k2) (xs1 ++ xs2) := own_kept (own_kept hG.out.own k9 (fun k e h => by have := hat.out k e; have := hw5w.out; omega)) k10 (fun k e h => by have := hat.out k e; have := hw5w.out; omega)
        obtain ⟨A9, c9, e9, -, -, hN9, hR9, -⟩ := Own.reads hO10
        injection e9 with e91 e92 e93
        subst e91 e93
        have hT9 : Hid (Tx w10 (xs1 ++ xs2) (Z.ft ++ Z.st)) := Tx.append (RefAhead0.Tx.kept hR.out.tx1 h10.out hSf.out) (RefAhead0.Tx.kept hR.out.tx2 h10.out hSf.out) hxl1.out
        have hfin : Hid (Below w.heap.size w w10) := Kept.toBelow hbWr.out h10.out (fun k h => by rw [hS.out] at h; rcases h with h | h | h; (have := hr1.out k h; have := hw5w.out; omega); omega; omega) hbWr.out.size
        replace hR9 := Lib.hid hR9
        replace hN9 := Lib.hid hN9
        clear hG hO10
        go_wp2_with fail
        refine bodyPost_ret (results_ccrr rfl _ _ (w.heap.size + 1) (w.heap.size + 2) 23 23 (cells8 Z.fr).toArray (cells8 Z.sr).toArray (0, 0) (0, 0) _ rfl hQ1.out rfl hQ2.out Tryd.underlying23 rfl Fa.out.size Fb.out.size) rfl ?_
        rw [hZe.out]
        exact ⟨A8, c8, xs1 ++ xs2, by rw [hk1.out, hk2.out]; rfl, by rw [hk1.out, hk2.out]; exact hN9.out, by rw [hk1.out, hk2.out]; exact hR9.out, hT9.out, hfin.out⟩
  ·obtain ⟨k', rfl⟩ : ∃ k', k = k' + 1 := ⟨k - 1, by omega⟩
   obtain ⟨p', hp'⟩ : ∃ p', Hid (p' = (2 * q + 1) * 2 ^ k') := ⟨_, Lib.hid rfl⟩
   have hpp : p = 2 * p' := by rw [hpk.out, hp'.out, Nat.pow_succ, ← Nat.mul_assoc, Nat.mul_comm]
   have hk2 : Hid (k' ≤ a) := by have := hka.out; show _ ≤ _; omega
   have hpos : Hid (1 ≤ p') := by show _ ≤ _; rw [hp'.out]; exact Nat.mul_pos (by omega) (Nat.two_pow_pos _)
   have hm2 : (p : Int).tmod 2 = 0 := by rw [Int.tmod_eq_emod_of_nonneg hp0]; omega
   have hf2 : (p : Int).tdiv 2 = (p' : Int) := by rw [Int.tdiv_eq_ediv_of_nonneg hp0]; omega
   have z0 : (0 : Int) ≤ (p' : Int) := by omega
   have z1 : (p' : Int) ≤ 1099511627776 := by omega
   have hlt : Hid (p' < p) := by have := hpos.out; show _ < _; omega
   clear hk0 hpk hka hpp
   go_wp2_with fail
   go_round
   case rel => exact ⟨p', k', rfl, hk2.out, hp'.out⟩
   case measure => (have := hlt.out; simp [intOf]; omega)
theorem refahead_any (s : Int) (hs63 : s < 9223372036854775808) (old size : Nat) (h1 : 1 ≤ old) (h2 : old < size) (hs : size ≤ 1099511627776) (root : Text) (hrt : root.length = 32) (ds : List Text) (A : Option Addr) (n c : Nat) (hn : betw old size = n) (w : World) (hr : RdD w A n ds) :
  Calls Tryd.prog 105 #[.int .i64 s, .int .i64 (old : Int), .int .i64 (size : Int), .agg (cells8 root).toArray, .slice A n c] w (RfPost w (aheadOf s old size root ds)) :=
 (refahead_own s hs63 old size h1 h2 hs root hrt ds A n c hn w hr).mono fun _ _ ⟨A, c, xs, h1, _, h2, h3, h4⟩ => ⟨A, c, xs, h1, h2, h3, h4⟩
end Go.Proofs.YtmdkfhfkdcbpgaaDoorR.RefAhead

namespace Go.Proofs.YtmdkfhfkdcbpgaaDoorR.ThirdP
open Go Go.RowKit Go.Proofs.YtmdkfhfkdcbpgaaDoorR Sha DigestMem Bytes TreeMath Sides TreeMem TreeRoot Subs RowsP Climb AheadM AheadT TwiceP

theorem same_text {s : Int} {T : List Text} (hT : ¬ TwiceP.Met s T) {a b : Text} (ha : a ∈ T) (hb : b ∈ T) (h : sumOf s a = sumOf s b) : a = b :=
 Classical.byContradiction fun hne => hT ⟨a, b, ha, hb, hne, h⟩
inductive Path (s : Int) (T : List Text) : Nat → Nat → Text → Text → Prop
 | stop {n i : Nat} {x : Text} : n ≤ 1 → Path s T n i x x
 | left {n i : Nat} {x c d : Text} : 2 ≤ n → i < half n → Path s T (half n) i x c → c.length = 32 → (kb 1 :: (c ++ d)) ∈ T → Path s T n i x (ndOf s c d)
 | right {n i : Nat} {x c d : Text} : 2 ≤ n → half n ≤ i → Path s T (n - half n) (i - half n) x c → d.length = 32 → (kb 1 :: (d ++ c)) ∈ T → Path s T n i x (ndOf s d c)
theorem path_inv {s : Int} {T : List Text} {n i : Nat} {x r : Text} (h : Path s T n i x r) : (n ≤ 1 ∧ x = r) ∨ (2 ≤ n ∧ i < half n ∧ ∃ c d, Path s T (half n) i x c ∧ c.length = 32 ∧ (kb 1 :: (c ++ d)) ∈ T ∧ r = ndOf s c d) ∨
  (2 ≤ n ∧ half n ≤ i ∧ ∃ c d, Path s T (n - half n) (i - half n) x c ∧ d.length = 32 ∧ (kb 1 :: (d ++ c)) ∈ T ∧ r = ndOf s d c) := by
 cases h with
 | stop h => exact .inl ⟨h, rfl⟩
 | left h1 h2 h3 h4 h5 => exact .inr (.inl ⟨h1, h2, _, _, h3, h4, h5, rfl⟩)
 | right h1 h2 h3 h4 h5 => exact .inr (.inr ⟨h1, h2, _, _, h3, h4, h5, rfl⟩)
theorem node_inj {s : Int} {T : List Text} (hT : ¬ TwiceP.Met s T) {a b c d : Text} (ha : a.length = 32) (hc : c.length = 32) (h1 : (kb 1 :: (a ++ b)) ∈ T) (h2 : (kb 1 :: (c ++ d)) ∈ T) (h : ndOf s a b = ndOf s c d) : a = c ∧ b = d :=
 pair_inj ha hc (same_text hT h1 h2 h)
theorem path_one {s : Int} {T : List Text} (hT : ¬ TwiceP.Met s T) {n i : Nat} {x r : Text} (h : Path s T n i x r) : ∀ y, Path s T n i y r → x = y := by
 induction h with
 | stop h1 =>
  intro y hy
  rcases path_inv hy with ⟨-, h⟩ | ⟨h2, -⟩ | ⟨h2, -⟩
  ·exact h.symm
  ·omega
  ·omega
 | left h1 h2 h3 h4 h5 ih =>
  intro y hy
  rcases path_inv hy with ⟨h, -⟩ | ⟨-, -, c', d', p, l, m, e⟩ | ⟨-, h, -⟩
  ·omega
  ·obtain ⟨rfl, -⟩ := node_inj hT h4 l h5 m e
   exact ih y p
  ·omega
 | right h1 h2 h3 h4 h5 ih =>
  intro y hy
  rcases path_inv hy with ⟨h, -⟩ | ⟨-, h, -⟩ | ⟨-, -, c', d', p, l, m, e⟩
  ·omega
  ·omega
  ·obtain ⟨-, rfl⟩ := node_inj hT h4 l h5 m e
   exact ih y p
inductive Ahd (s : Int) (T : List Text) (x : Text) : Nat → Nat → Text → Text → Prop
 | same {n : Nat} : Ahd s T x n n x x
 | left {m n : Nat} {f r d : Text} : m < n → m ≤ half n → Ahd s T x m (half n) f r → r.length = 32 → (kb 1 :: (r ++ d)) ∈ T → Ahd s T x m n f (ndOf s r d)
 | right {m n : Nat} {f r d : Text} : m < n → half n < m → Ahd s T x (m - half n) (n - half n) f r → d.length = 32 → (kb 1 :: (d ++ f)) ∈ T → (kb 1 :: (d ++ r)) ∈ T → Ahd s T x m n (ndOf s d f) (ndOf s d r)
theorem half_eq {m n : Nat} (h1 : half n < m) (h2 : m ≤ n) (h3 : 2 ≤ n) : half m = half n := by
 have hp := half_pos n
 have a1 := half_lt (n := m) (by omega)
 have a2 := half_ge m
 have b1 := half_lt (n := n) h3
 have b2 := half_ge n
 obtain ⟨a, ha⟩ : ∃ a, half m = 2 ^ a := ⟨_, half_log⟩
 obtain ⟨b, hb⟩ : ∃ b, half n = 2 ^ b := ⟨_, half_log⟩
 rw [ha, hb]
 have e1 : a < b + 1 := by
  rcases Nat.lt_or_ge a (b + 1) with h | h
  ·exact h
  ·have := Nat.pow_le_pow_right (show 0 < 2 by omega) h
   rw [Nat.pow_succ] at this
   omega
 have e2 : b < a + 1 := by
  rcases Nat.lt_or_ge b (a + 1) with h | h
  ·exact h
  ·have := Nat.pow_le_pow_right (show 0 < 2 by omega) h
   rw [Nat.pow_succ] at this
   omega
 rw [show a = b by omega]
theorem third {s : Int} {T : List Text} (hT : ¬ TwiceP.Met s T) {x : Text} {m n : Nat} {f r : Text} (h : Ahd s T x m n f r) : ∀ (i : Nat) (y z : Text), i < m → Path s T m i y f → Path s T n i z r → y = z := by
 induction h with
 | same => intro i y z _ p q; exact path_one hT p z q
 | left h1 h2 hA l1 mm ih =>
  intro i y z hi p q
  rcases path_inv q with ⟨h, -⟩ | ⟨-, -, c, d', q', l, m', e⟩ | ⟨-, h, -⟩
  ·omega
  ·obtain ⟨rfl, -⟩ := node_inj hT l1 l mm m' e
   exact ih i y z hi p q'
  ·omega
 | @right m n f r d h1 h2 hA l1 m1 m2 ih =>
  intro i y z hi p q
  have hp := half_pos n
  have hk := half_eq h2 (Nat.le_of_lt h1) (by omega)
  rcases path_inv p with ⟨h, -⟩ | ⟨-, h3, c, d', p', l, m', e⟩ | ⟨-, h3, c, d', p', l, m', e⟩
  ·omega
  ·rcases path_inv q with ⟨h, -⟩ | ⟨-, -, c2, d2, q', l2, m2', e2⟩ | ⟨-, h, -⟩
   ·omega
   ·obtain ⟨rfl, -⟩ := node_inj hT l1 l m1 m' e
    obtain ⟨rfl, -⟩ := node_inj hT l1 l2 m2 m2' e2
    rw [hk] at p'
    exact path_one hT p' z q'
   ·omega
  ·rcases path_inv q with ⟨h, -⟩ | ⟨-, h, -⟩ | ⟨-, -, c2, d2, q', l2, m2', e2⟩
   ·omega
   ·omega
   ·obtain ⟨-, rfl⟩ := node_inj hT l1 l m1 m' e
    obtain ⟨-, rfl⟩ := node_inj hT l1 l2 m2 m2' e2
    rw [hk] at p'
    exact ih (i - half n) y z (by omega) p' q'

/-! ### What climbs tell -/
theorem climb_snoc (s : Int) (st : Text × List Text) (L : List (Bool × Text)) (p : Bool × Text) : climbN s st (L ++ [p]) (L.length + 1) = climb1 s (climbN s st L L.length) p := by
 rw [climbN_succ (p := p) (by simp)]
 unfold climbN
 rw [List.take_append_of_le_length (Nat.le_refl _)]
theorem snoc_of {α : Type} {l : List α} {k : Nat} (h : l.length = k + 1) : ∃ l' a, l = l' ++ [a] ∧ l'.length = k := by
 have hne : l ≠ [] := fun e => by rw [e] at h; cases h
 exact ⟨l.dropLast, l.getLast hne, (List.dropLast_concat_getLast hne).symm, by rw [List.length_dropLast]; omega⟩
theorem climb_path (s : Int) (T : List Text) : ∀ (k n i : Nat) (x : Text) (ws : List Text), n ≤ k → i < n → x.length = 32 → Digs ws → (sides n i).length = ws.length → (∀ q ∈ (climbN s (x, []) ((sides n i).zip ws) ws.length).2, q ∈ T) → Path s T n i x (climbN s (x, []) ((sides n i).zip ws) ws.length).1
 | 0, n, i, x, ws, hk, hi, _, _, _, _ => by omega
 | k + 1, n, i, x, ws, hk, hi, hx, hd, hl, hT => by
  rcases Nat.lt_or_ge n 2 with h2 | h2
  ·obtain rfl : n = 1 := by omega
   obtain rfl : i = 0 := by omega
   have e : sides 1 0 = [] := rfl
   rw [e] at hl
   have hw : ws = [] := List.length_eq_zero_iff.1 hl.symm
   subst hw
   rw [e]
   exact .stop (Nat.le_refl _)
  ·have hlt := half_lt h2
   have hp := half_pos n
   rcases Nat.lt_or_ge i (half n) with h3 | h3
   ·have e : sides n i = sides (half n) i ++ [true] := sides_left h2 h3
    rw [e, List.length_append] at hl
    obtain ⟨ws', d, rfl, hl'⟩ := snoc_of (k := (sides (half n) i).length) hl.symm
    have hz : (sides n i).zip (ws' ++ [d]) = (sides (half n) i).zip ws' ++ [(true, d)] := by rw [e, List.zip_append hl'.symm]; rfl
    have hzl : ((sides (half n) i).zip ws').length = ws'.length := by rw [List.length_zip]; omega
    have hd' : Digs ws' := fun q h => hd q (List.mem_append_left _ h)
    have hdl : d.length = 32 := hd d (by simp)
    rw [hz, List.length_append, ← hzl] at hT ⊢
    rw [show ([d] : List Text).length = 1 from rfl, climb_snoc, hzl] at hT ⊢
    have hcl := (climbN_len (s := s) (st := (x, [])) (l := (sides (half n) i).zip ws') hx ws'.length (by omega)).1
    have ih := climb_path s T k (half n) i x ws' (by omega) h3 hx hd' hl'.symm (fun q h => hT q (List.mem_append_left _ h))
    exact .left h2 h3 ih hcl (hT _ (List.mem_append_right _ (by simp)))
   ·have e : sides n i = sides (n - half n) (i - half n) ++ [false] := sides_right h2 h3 hi
    rw [e, List.length_append] at hl
    obtain ⟨ws', d, rfl, hl'⟩ := snoc_of (k := (sides (n - half n) (i - half n)).length) hl.symm
    have hz : (sides n i).zip (ws' ++ [d]) = (sides (n - half n) (i - half n)).zip ws' ++ [(false, d)] := by rw [e, List.zip_append hl'.symm]; rfl
    have hzl : ((sides (n - half n) (i - half n)).zip ws').length = ws'.length := by rw [List.length_zip]; omega
    have hd' : Digs ws' := fun q h => hd q (List.mem_append_left _ h)
    have hdl : d.length = 32 := hd d (by simp)
    rw [hz, List.length_append, ← hzl] at hT ⊢
    rw [show ([d] : List Text).length = 1 from rfl, climb_snoc, hzl] at hT ⊢
    have ih := climb_path s T k (n - half n) (i - half n) x ws' (by omega) (by omega) hx hd' hl'.symm (fun q h => hT q (List.mem_append_left _ h))
    exact .right h2 h3 ih hdl (hT _ (List.mem_append_right _ (by simp)))
def aheadL (s : Int) (x : Text) (L : List (Bool × Text)) : Ah := L.foldl (ahead1 s) ⟨x, x, [], []⟩
theorem aheadL_snoc (s : Int) (x : Text) (L : List (Bool × Text)) (p : Bool × Text) : aheadL s x (L ++ [p]) = ahead1 s (aheadL s x L) p := by
 unfold aheadL
 rw [List.foldl_append]
 rfl
theorem aheadL_sr {s : Int} {x : Text} (hx : x.length = 32) : ∀ L : List (Bool × Text), (aheadL s x L).sr.length = 32 := fun L => by
 rcases List.eq_nil_or_concat L with rfl | ⟨L', p, rfl⟩
 ·exact hx
 ·rw [List.concat_eq_append, aheadL_snoc]
  unfold ahead1
  split <;> exact ndOf_len _ _ _
theorem ahead_ahd (s : Int) (T : List Text) (x : Text) (hx : x.length = 32) : ∀ (k m n : Nat) (es : List Text), n ≤ k → 1 ≤ m → m ≤ n → Digs es → (dirs m n).length = es.length → (∀ q ∈ (aheadL s x ((dirs m n).zip es)).ft, q ∈ T) → (∀ q ∈ (aheadL s x ((dirs m n).zip es)).st, q ∈ T) →
  Ahd s T x m n (aheadL s x ((dirs m n).zip es)).fr (aheadL s x ((dirs m n).zip es)).sr
 | 0, m, n, es, hk, h1, h2, _, _, _, _ => by omega
 | k + 1, m, n, es, hk, h1, h2, hd, hl, hF, hS => by
  rcases Nat.lt_or_ge m n with h3 | h3
  ·have hlt := half_lt (n := n) (by omega)
   have hp := half_pos n
   rcases Nat.lt_or_ge (half n) m with h4 | h4
   ·have e : dirs m n = dirs (m - half n) (n - half n) ++ [false] := dirs_right h3 h4
    rw [e, List.length_append] at hl
    obtain ⟨es', d, rfl, hl'⟩ := snoc_of (k := (dirs (m - half n) (n - half n)).length) hl.symm
    have hz : (dirs m n).zip (es' ++ [d]) = (dirs (m - half n) (n - half n)).zip es' ++ [(false, d)] := by rw [e, List.zip_append hl'.symm]; rfl
    have hd' : Digs es' := fun q h => hd q (List.mem_append_left _ h)
    have hdl : d.length = 32 := hd d (by simp)
    rw [hz, aheadL_snoc] at hF hS ⊢
    exact .right h3 h4 (ahead_ahd s T x hx k (m - half n) (n - half n) es' (by omega) (by omega) (by omega) hd' hl'.symm (fun q h => hF q (List.mem_append_left _ h)) (fun q h => hS q (List.mem_append_left _ h))) hdl (hF _ (List.mem_append_right _ (by simp))) (hS _ (List.mem_append_right _ (by simp)))
   ·have e : dirs m n = dirs m (half n) ++ [true] := dirs_left h1 h3 h4
    rw [e, List.length_append] at hl
    obtain ⟨es', d, rfl, hl'⟩ := snoc_of (k := (dirs m (half n)).length) hl.symm
    have hz : (dirs m n).zip (es' ++ [d]) = (dirs m (half n)).zip es' ++ [(true, d)] := by rw [e, List.zip_append hl'.symm]; rfl
    have hd' : Digs es' := fun q h => hd q (List.mem_append_left _ h)
    have hsr := aheadL_sr (s := s) hx ((dirs m (half n)).zip es')
    rw [hz, aheadL_snoc] at hF hS ⊢
    exact .left h3 h4 (ahead_ahd s T x hx k m (half n) es' (by omega) h1 h4 hd' hl'.symm (fun q h => hF q h) (fun q h => hS q (List.mem_append_left _ h))) hsr (hS _ (List.mem_append_right _ (by simp)))
  ·obtain rfl : m = n := by omega
   rw [dirs_same h1]
   exact .same
theorem drop_zip_ {α β : Type} : ∀ (k : Nat) (l : List α) (m : List β), (l.zip m).drop k = (l.drop k).zip (m.drop k)
 | 0, _, _ => rfl
 | _ + 1, [], _ => by simp
 | _ + 1, _ :: _, [] => by simp
 | k + 1, _ :: l, _ :: m => drop_zip_ k l m
theorem aheadOf_L {s : Int} {o z : Nat} {r : Text} {ds : List Text} (h1 : 1 ≤ o) (h2 : o < z) (hn : betw o z = ds.length) : (dirs o z).length = (ds.drop (lowOf o)).length ∧ aheadOf s o z r ds = aheadL s (if powB o then r else ds.getD 0 []) ((dirs o z).zip (ds.drop (lowOf o))) := by
 obtain ⟨hlow, hll, hdr⟩ := parts_low h1 h2
 have hpl := partsOf_len (Nat.le_of_lt h2)
 have hz : (((partsOf o z).map (bh o)).zip ds).length = ds.length := by rw [List.length_zip, List.length_map]; omega
 refine ⟨by rw [← hdr, List.length_drop, List.length_drop, List.length_map]; omega, ?_⟩
 unfold aheadOf aheadS aheadL
 rw [List.take_of_length_le (by omega), drop_zip_, hdr]
theorem third_met {s : Int} {o z : Nat} {i : Nat} {x y : Text} {ws xs ds : List Text} {r0 : Text} (h1 : 1 ≤ o) (h2 : o < z) (hi : i < o) (hx : x.length = 32) (hy : y.length = 32) (h0 : r0.length = 32) (hw : Digs ws) (hxs : Digs xs) (hd : Digs ds) (hn : betw o z = ds.length)
  (lw : (sides o i).length = ws.length) (lx : (sides z i).length = xs.length)
  (e0 : (climbN s (x, []) ((sides o i).zip ws) ws.length).1 = (aheadOf s o z r0 ds).fr) (e1 : (climbN s (y, []) ((sides z i).zip xs) xs.length).1 = (aheadOf s o z r0 ds).sr) (hne : x ≠ y) :
  TwiceP.Met s (((climbN s (x, []) ((sides o i).zip ws) ws.length).2 ++ (climbN s (y, []) ((sides z i).zip xs) xs.length).2) ++ ((aheadOf s o z r0 ds).ft ++ (aheadOf s o z r0 ds).st)) := by
 apply Classical.byContradiction
 intro hT
 obtain ⟨hl, hL⟩ := aheadOf_L (s := s) (r := r0) h1 h2 hn
 have hb : 1 ≤ ds.length → (ds.getD 0 []).length = 32 := fun h => by
  obtain ⟨d, hd0⟩ : ∃ d, ds[0]? = some d := ⟨_, List.getElem?_eq_getElem (by omega)⟩
  have := hd.at_ hd0
  simpa [List.getD, hd0] using this
 obtain ⟨hlow, -, -⟩ := parts_low h1 h2
 have hpl := partsOf_len (Nat.le_of_lt h2)
 have hx32 : (if powB o then r0 else ds.getD 0 []).length = 32 := by
  split
  ·exact h0
  ·exact hb (by omega)
 obtain ⟨T, hTe⟩ : ∃ T, ((climbN s (x, []) ((sides o i).zip ws) ws.length).2 ++ (climbN s (y, []) ((sides z i).zip xs) xs.length).2) ++ ((aheadOf s o z r0 ds).ft ++ (aheadOf s o z r0 ds).st) = T := ⟨_, rfl⟩
 rw [hTe] at hT
 have p1 := climb_path s T o o i x ws (Nat.le_refl _) hi hx hw lw (fun q h => by rw [← hTe]; exact List.mem_append_left _ (List.mem_append_left _ h))
 have p2 := climb_path s T z z i y xs (Nat.le_refl _) (by omega) hy hxs lx (fun q h => by rw [← hTe]; exact List.mem_append_left _ (List.mem_append_right _ h))
 have a := ahead_ahd s T _ hx32 z o z (ds.drop (lowOf o)) (Nat.le_refl _) h1 (Nat.le_of_lt h2) (fun q h => hd q (List.mem_of_mem_drop h)) hl
  (fun q h => by rw [← hL] at h; rw [← hTe]; exact List.mem_append_right _ (List.mem_append_left _ h)) (fun q h => by rw [← hL] at h; rw [← hTe]; exact List.mem_append_right _ (List.mem_append_right _ h))
 rw [← hL] at a
 rw [e0] at p1
 rw [e1] at p2
 exact hne (third hT a i x y hi p1 p2)
end Go.Proofs.YtmdkfhfkdcbpgaaDoorR.ThirdP
