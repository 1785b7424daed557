/-
  Texts of the claim, put into one file: RefClimb.
-/
import Derived.Test.YtmdkfhfkdcbpgaaDoorRZ36
import Derived.Test.YtmdkfhfkdcbpgaaDoorRZ35

namespace Go.Proofs.YtmdkfhfkdcbpgaaDoorR.RefClimb
open Go Go.RowKit Go.Proofs.YtmdkfhfkdcbpgaaDoorR Mem Sha Bytes HashMem DigestMem Digest RefSum RefCut TreeMem TreeRoot QuietTail Grown DigEq Go.Proofs.YtmdkfhfkdcbpgaaDoorR.Append Octet Book Held Want Plain Node Texts RowsY TreeRefRoot RefIncl0 Ref17 ProofIdx StructEq IdxAny TwiceP SparseP SpMem Formed Empties SpRows LeadM Lead RefClimbM

theorem neqZ' (cnt : Int) (ch : Text) (hch : ch.length = 32) (w : World) : (binOp .neq 68 (.agg (entC cnt ch).toArray) (.agg #[.int .i64 0, .int .u8 0, .int .u8 0, .int .u8 0, .int .u8 0, .int .u8 0, .int .u8 0, .int .u8 0, .int .u8 0, .int .u8 0, .int .u8 0, .int .u8 0, .int .u8 0, .int .u8 0, .int .u8 0, .int .u8 0, .int .u8 0, .int .u8 0, .int .u8 0, .int .u8 0, .int .u8 0, .int .u8 0, .int .u8 0, .int .u8 0, .int .u8 0, .int .u8 0, .int .u8 0, .int .u8 0, .int .u8 0, .int .u8 0, .int .u8 0, .int .u8 0, .int .u8 0])).run Tryd.prog w = .ok (.bool (!decide (cnt = 0 ∧ ch = z32))) w := neqZ cnt ch hch w
theorem fitZ : (Tryd.prog.info? 23).map (·.size) = some (Z32 : Array Value).size := by kernel_rfl
theorem oneZ : (Z32 : Array Value).all (·.oneCell') = true := by kernel_rfl
def CPost (w : World) (k : Text) (f : Bool) (cnt : Int) (ch d : Text) (n : Nat) (s : Int) (ds : List Text) (e : Ending) (w' : World) : Prop :=
 Below w.heap.size w w' ∧ ((okSp f cnt ch d n = false ∧ e = .returned (.tuple #[.slice none 0 0, .agg Z32, .int .i64 8])) ∨ (okSp f cnt ch d n = true ∧ nbrs s d ds 256 = none ∧ e = .returned (.tuple #[.slice none 0 0, .agg Z32, .int .i64 170])) ∨
  (okSp f cnt ch d n = true ∧ ∃ l v xs, nbrs s d ds 256 = some l ∧ e = .returned (.tuple #[v, .agg (cells8 (lead s k (txt0 k f cnt ch) l 256).2).toArray, .int .i64 0]) ∧ w'.ownsRow w.heap.size 27 1 v 257 xs ∧ Ty w' xs (lead s k (txt0 k f cnt ch) l 256).1))
section
variable {w w' : World} {k : Text} {f : Bool} {cnt : Int} {ch d : Text} {n : Nat} {s : Int} {ds : List Text} {e : Ending}
theorem CPost.form (hb : Below w.heap.size w w') (h : okSp f cnt ch d n = false) (he : e = .returned (.tuple #[.slice none 0 0, .agg Z32, .int .i64 8])) : CPost w k f cnt ch d n s ds e w' := ⟨hb, .inl ⟨h, he⟩⟩
theorem CPost.bad (hb : Below w.heap.size w w') (h : okSp f cnt ch d n = true) (hn : nbrs s d ds 256 = none) (he : e = .returned (.tuple #[.slice none 0 0, .agg Z32, .int .i64 170])) : CPost w k f cnt ch d n s ds e w' := ⟨hb, .inr (.inl ⟨h, hn, he⟩)⟩
end
theorem okSp_f {cnt : Int} {ch d : Text} {n N : Nat} (hN : onesOf d = N) (h : N = n) : okSp false cnt ch d n = decide (cnt = 0 ∧ ch = z32) := okSp_yes (by omega)
theorem okSp_t {cnt : Int} {ch d : Text} {n N : Nat} (hN : onesOf d = N) (h : N = n) : okSp true cnt ch d n = decide (1 ≤ cnt ∧ cnt ≤ 1099511627776) := okSp_yes (by omega)
theorem okSp_cntR {f : Bool} {cnt : Int} {ch d : Text} {n : Nat} (h : okSp f cnt ch d n = true) : f = true → 0 ≤ cnt ∧ cnt ≤ 1099511627776 := fun hf => by
 subst hf
 unfold okSp at h
 have h2 := (Bool.and_eq_true _ _ ▸ h).2
 have := of_decide_eq_true (show decide (1 ≤ cnt ∧ cnt ≤ 1099511627776) = true from h2)
 omega
theorem clamp_two (s : Int) : (clampN s : Int) = if 32 < (if s < 1 then 1 else s) then 32 else (if s < 1 then 1 else s) := by
 unfold clampN
 by_cases h : s < 1
 ·rw [if_pos h, if_pos h, if_neg (by omega)]; rfl
 ·rw [if_neg h, if_neg h]
  by_cases h2 : 32 < s
  ·rw [if_pos h2, if_pos h2]; rfl
  ·rw [if_neg h2, if_neg h2]; omega

set_option maxRecDepth 100000 in
set_option maxHeartbeats 8000000 in
theorem refclimb_any (k : Text) (hk : k.length = 32) (cs : Array Value) (f : Bool) (cnt : Int) (ch d : Text) (hch : ch.length = 32) (hd : d.length = 32) (A : Option Addr) (n c : Nat) (hs : Sp cs f cnt ch d A n c) (s : Int) (hs63 : s < 9223372036854775808) (ds : List Text) (w : World) (hr : RdD w A n ds) :
  Calls Tryd.prog 102 #[.int .i64 s, .agg (cells8 k).toArray, .agg cs] w fun e w' => CPost w k f cnt ch d n s ds e w' := by
 obtain ⟨i0, ii, iz0, iz1, iz2⟩ := info_partsN infoT
 obtain ⟨w0, hw0⟩ : ∃ w0, Hid (w0 = (((w.alloc (.cells (cells8 k).toArray 23)).alloc (.cells cs 135)).alloc (.cells Z32 23))) := ⟨_, rfl⟩
 have hb0 : Hid (Below w.heap.size w w0) := by show Below _ _ _; rw [hw0.out]; exact (((Below.refl _ w).alloc (Nat.le_refl _) _).alloc (by simp) _).alloc (by simp; omega) _
 have hs0 : Hid (w0.heap.size = w.heap.size + 3) := by show _ = _; rw [hw0.out]; simp
 have hK0 : Hid (Blk w0 w.heap.size 23 (cells8 k).toArray) := by show Blk _ _ _ _; rw [hw0.out]; exact ((Blk.new w _ _).alloc _).alloc _
 have hP0 : Hid (Blk w0 (w.heap.size + 1) 135 cs) := by
  show Blk _ _ _ _
  rw [hw0.out]
  have := Blk.new (w.alloc (.cells (cells8 k).toArray 23)) 135 cs
  rw [show (w.alloc (.cells (cells8 k).toArray 23)).heap.size = w.heap.size + 1 by simp] at this
  exact this.alloc _
 have hR0 : Hid (Blk w0 (w.heap.size + 2) 23 Z32) := by
  show Blk _ _ _ _
  rw [hw0.out]
  have := Blk.new ((w.alloc (.cells (cells8 k).toArray 23)).alloc (.cells cs 135)) 23 Z32
  rwa [show ((w.alloc (.cells (cells8 k).toArray 23)).alloc (.cells cs 135)).heap.size = w.heap.size + 2 by simp] at this
 have hsz : Hid ((Tryd.prog.info? 135).map (·.size) = some cs.size) := by show _ = _; rw [hs.size]; exact sizeSp
 have hSet : Hid (∀ (i : Nat), i < 256 → ∀ w', Calls Tryd.prog 141 #[.agg cs, .int .i64 (i : Int)] w' fun e w'' => e = .returned (.bool (hbit d i)) ∧ Below w'.heap.size w' w'') := fun i hi w' => set_any cs f cnt ch d hd A n c hs i hi w'
 have hE : Hid (∀ w', Calls Tryd.prog 143 #[.int .i64 s] w' fun e w'' => ∃ g c, e = .returned (.slice (some ⟨g, 0, none⟩) 257 c) ∧ w''.ownsRow w'.heap.size 23 32 (.slice (some ⟨g, 0, none⟩) 257 c) 257 ((emps s 257).flatMap cells8) ∧ Below w'.heap.size w' w'') := fun w' => refempties_any s w' hs63
 have hSum : Hid (∀ (q : Text) (kq : Nat), q.length = kq → kq ≤ 73 → ∀ g cq w', Reads w' 1 (some ⟨g, 0, none⟩) kq (cells8 q) → Calls Tryd.prog 40 #[.slice (some ⟨g, 0, none⟩) kq cq] w' fun e w'' => e = .returned (.agg (cells8 (sum q)).toArray) ∧ Below w'.heap.size w' w'') := fun q kq hq h73 g cq w' hr => refSum_any q kq hq _ cq w' (by omega) hr
 have hCut : Hid (∀ (q : Text) w', Calls Tryd.prog 39 #[.agg (cells8 (sum q)).toArray, .int .i64 s] w' fun e w'' => e = .returned (.agg (cells8 (sumOf s q)).toArray) ∧ Below w'.heap.size w' w'') := fun q w' => refCut_any (sum q) (sum_len _) s hs63 w'
 have hBit : Hid (∀ (i : Nat), i < 256 → ∀ w', Calls Tryd.prog 144 #[.agg (cells8 k).toArray, .int .i64 (i : Int)] w' fun e w'' => e = .returned (.int .i64 (kbit k i : Nat)) ∧ Below w'.heap.size w' w'') := fun i hi w' => refbit_any k hk i hi w'
 have ic0 : Hid (cs[0]? = some (.bool f)) := hs.found
 have ic1 : Hid (cs[1]? = some (.int .i64 cnt)) := hs.count
 have ich : Hid (∀ j v, (cells8 ch)[j]? = some v → cs[2 + j]? = some v) := hs.chain
 have ient := Lib.hid hs.ent
 have i66 : Hid (cs[66]? = some (.slice A n c)) := hs.sums
 have sE : Hid ((Tryd.prog.info? 68).map (·.size) = some (entC cnt ch).length) := by show _ = _; rw [entC_len hch]; exact sizeEnt
 have hz := Lib.hid (neqZ' cnt ch hch)
 have Fk := Lib.hid (fit (x := k) hk)
 have hkh := Lib.hid hk
 have hchh := Lib.hid hch
 have hdh := Lib.hid hd
 replace hr := Lib.hid hr
 have hcl := Lib.hid (clampN_ok s)
 clear hs hk hch hd hs63
 go_enter Tryd.func102, Tryd.ntmps102
 go_upto_region 1 with fail
 change Code.wp _ _ _ _ (((w.alloc (.cells (cells8 k).toArray 23)).alloc (.cells cs 135)).alloc (.cells Z32 23))
 rw [← hw0.out]
 go_wp2_with ((with_reducible change wpList _ _ _ ({ dst := none, op := Op.store 23 (.tmp 9) _, type := _, pos := _, after := _, guard := _ } :: _) _ _); refine wpList_store_whole0 rfl rfl 23 (.tmp 9) (.tmp 23) rfl (w0.heap.size) (Z32) rfl rfl 23 (Z32) (Blk.new w0 _ _) fitZ rfl oneZ ?_; intro w1 hZ1 hk; have hk01 := Lib.hid (kept_fresh hk); replace hZ1 := Lib.hid hZ1; clear hk)
 obtain ⟨zb, hzb⟩ : ∃ zb, w0.heap.size = zb := ⟨_, rfl⟩
 have hz3 : Hid (zb = w.heap.size + 3) := by show _ = _; rw [← hzb]; exact hs0.out
 have hb1 : Hid (Below w.heap.size w w1) := hb0.out.trans (hk01.out.mono hb0.out.size)
 have hK1 : Hid (Blk w1 w.heap.size 23 (cells8 k).toArray) := (hk01.out.block _ hK0.out.lt).trans hK0.out
 have hP1 : Hid (Blk w1 (w.heap.size + 1) 135 cs) := (hk01.out.block _ hP0.out.lt).trans hP0.out
 have hR1 : Hid (Blk w1 (w.heap.size + 2) 23 Z32) := (hk01.out.block _ hR0.out.lt).trans hR0.out
 rw [hzb] at hZ1 ⊢
 clear hk01 hK0 hP0 hR0 hb0 hs0 hzb hw0
 have hsz1 : Hid (w.heap.size + 4 ≤ w1.heap.size) := by have := hZ1.out.lt; have := hz3.out; show _ ≤ _; omega
 go_loopw [10, 11] (fun u v wr => ∃ h : Nat, u = .int .i64 (nbits d h : Nat) ∧ v = .int .i64 (h : Int) ∧ Hid (h ≤ 256) ∧ Hid (Below w1.heap.size w1 wr)) (fun _ v _ => 256 - (intOf v).toNat)
 case atStart => exact ⟨0, rfl, rfl, Nat.zero_le _, Below.refl _ _⟩
 case round =>
  obtain ⟨h, rfl, rfl, hh, hW⟩ := hrel
  have hPr : Hid (Blk wr (w.heap.size + 1) 135 cs) := (hW.out.block _ hP1.out.lt).trans hP1.out
  by_cases hlt : h < 256
  ·have z1 : (h : Int) < 256 := by omega
   have z2 : IntKind.i64.wrap ((h : Int) + 1) = (h : Int) + 1 := IntWalk.i64_in _ (by omega)
   have hset := Lib.hid (hSet.out h hlt)
   have hnle := nbits_le d h
   have hlth : Hid (h < 256) := hlt
   cases hb : hbit d h with
   | true =>
    rw [hb] at hset
    have hnb : Hid (nbits d (h + 1) = nbits d h + 1) := nbits_on hb
    obtain ⟨N, hN⟩ : ∃ N, Hid (nbits d h = N) := ⟨_, Lib.hid rfl⟩
    rw [hN.out] at hnb hnle ⊢
    have z3 : IntKind.i64.wrap ((N : Int) + 1) = (N : Int) + 1 := IntWalk.i64_in _ (by omega)
    clear hb hlt hnle
    go_wp2_with (first
     | ((with_reducible change wpList _ _ _ (⟨some 28, _, _, _, _, _⟩ :: _) _ _); refine wpList_load_row (o := ⟨some 28, _, _, _, _, _⟩) rfl 135 (.tmp 5) rfl ((w.heap.size + 1)) rfl 135 (cs) (0, 0) _ hPr.out Tryd.underlying135 rfl hsz.out ?_)
     | (go_at_call 141; refine (hset.out wr).mono ?_; rintro e w2 ⟨rfl, hk⟩; have hW2 : Hid (Below w1.heap.size w1 w2) := hW.out.trans (hk.mono hW.out.size); clear hk hset))
    go_roundw
    case rel => exact ⟨h + 1, by rw [hnb.out]; go_num, by go_num, hlth.out, hW2.out⟩
    case measure => (have := hlth.out; simp [intOf]; omega)
   | false =>
    rw [hb] at hset
    have hnb : Hid (nbits d (h + 1) = nbits d h) := nbits_off hb
    clear hb hlt hnle
    go_wp2_with (first
     | ((with_reducible change wpList _ _ _ (⟨some 28, _, _, _, _, _⟩ :: _) _ _); refine wpList_load_row (o := ⟨some 28, _, _, _, _, _⟩) rfl 135 (.tmp 5) rfl ((w.heap.size + 1)) rfl 135 (cs) (0, 0) _ hPr.out Tryd.underlying135 rfl hsz.out ?_)
     | (go_at_call 141; refine (hset.out wr).mono ?_; rintro e w2 ⟨rfl, hk⟩; have hW2 : Hid (Below w1.heap.size w1 w2) := hW.out.trans (hk.mono hW.out.size); clear hk hset))
    go_roundw
    case rel => exact ⟨h + 1, by rw [hnb.out], by go_num, hlth.out, hW2.out⟩
    case measure => (have := hlth.out; simp [intOf]; omega)
  ·obtain rfl : h = 256 := by have := hh.out; omega
   obtain ⟨N, hN⟩ : ∃ N, onesOf d = N := ⟨_, rfl⟩
   rw [nbits_all d hdh.out, hN]
   obtain ⟨ok, hok⟩ : ∃ b, okSp f cnt ch d n = b := ⟨_, rfl⟩
   have hC : Hid (∀ w', Below wr.heap.size wr w' → ∀ j v, cs[j]? = some v → w'.cell? ⟨w.heap.size + 1, j, none⟩ = some v) := fun w' hb j v hv => ((show Blk w' (w.heap.size + 1) 135 cs from (hb.block _ hPr.out.lt).trans hPr.out).cell j).trans hv
   clear hlt hh
   go_upto_region 8 with fail
   go_cut [58] from 33 to 58 (fun v wr' => v = .bool (!ok) ∧ Hid (Below wr.heap.size wr wr'))
   case first =>
    by_cases hNn : N = n
    ·have hyn : Hid ((N : Int) = (n : Int)) := by show _ = _; omega
     cases f with
     | true =>
      rw [okSp_t hN hNn] at hok
      clear hN hNn
      cases ok with
      | true =>
       refine q_plain (Class wr) (Class.mk_ (Below.refl _ _)) ?_
       refine q_move rfl (.tmp 10) rfl ?_
       (intro K k; go_simp; apply k; clear k K)
       refine Want.qv0 (.pointer (some ⟨w.heap.size + 1, 66, none⟩)) ?_
       (intro K k; go_simp; apply k; clear k K)
       refine q_val (v := .slice A n c) rfl (fun w' hw' => by have h := hC.out w' hw'.below 66 _ i66.out; go_simp) ?_
       (intro K k; go_simp; apply k; clear k K)
       refine Want.qv0 (.int .i64 (n : Int)) ?_
       (intro K k; go_simp; apply k; clear k K)
       refine q_val (v := .bool false) rfl (fun w' hw' => by have h := hyn.out; go_simp) ?_
       (intro K k; go_simp; apply k; clear k K)
       refine q_move rfl (.tmp 37) rfl ?_
       (intro K k; go_simp; apply k; clear k K)
       refine Want.qv0 (.pointer (some ⟨w.heap.size + 1, 0, none⟩)) ?_
       (intro K k; go_simp; apply k; clear k K)
       refine q_val (v := .bool true) rfl (fun w' hw' => by have h := hC.out w' hw'.below 0 _ ic0.out; go_simp) ?_
       (intro K k; go_simp; apply k; clear k K)
       refine q_move rfl (.tmp 40) rfl ?_
       (intro K k; go_simp; apply k; clear k K)
       refine Want.qv0 (.pointer (some ⟨w.heap.size + 1, 1, none⟩)) ?_
       (intro K k; go_simp; apply k; clear k K)
       refine q_part rfl 68 (.tmp 42) rfl (w.heap.size + 1) (1) rfl (entC cnt ch) _ (fun w' hw' => fun j v hv => hC.out w' hw'.below (1 + j) v (ient.out j v hv)) Tryd.underlying68 rfl sE.out ?_
       (intro K k; go_simp; apply k; clear k K)
       refine q_fn (v := .bool true) (args := #[.agg (entC cnt ch).toArray]) rfl _ _ rfl rfl Tryd.func142 (by kernel_rfl) (by kernel_rfl) (fun w' hw' => (right_any (entC cnt ch).toArray cnt rfl w').mono (fun e w'' ⟨he, hb⟩ => ⟨by rw [he, hok], hw'.next hb⟩)) ?_
       (intro K k; go_simp; apply k; clear k K)
       refine Want.qv0 (.bool false) ?_
       (intro K k; go_simp; apply k; clear k K)
       refine Want.qv0 (.bool false) ?_
       (intro K k; go_simp; apply k; clear k K)
       refine Want.qv0 (.bool false) ?_
       (intro K k; go_simp; apply k; clear k K)
       refine q_move rfl (.tmp 47) rfl ?_
       (intro K k; go_simp; apply k; clear k K)
       refine Want.qv0 (.pointer (some ⟨w.heap.size + 1, 0, none⟩)) ?_
       (intro K k; go_simp; apply k; clear k K)
       refine q_val (v := .bool true) rfl (fun w' hw' => by have h := hC.out w' hw'.below 0 _ ic0.out; go_simp) ?_
       (intro K k; go_simp; apply k; clear k K)
       refine Want.qv0 (.bool false) ?_
       (intro K k; go_simp; apply k; clear k K)
       refine q_move rfl (.tmp 51) rfl ?_
       (intro K k; go_simp; apply k; clear k K)
       refine q_skip rfl ?_
       (intro K k; go_simp; apply k; clear k K)
       refine q_skip rfl ?_
       (intro K k; go_simp; apply k; clear k K)
       refine q_skip rfl ?_
       (intro K k; go_simp; apply k; clear k K)
       refine q_skip rfl ?_
       (intro K k; go_simp; apply k; clear k K)
       refine Want.qv0 (.bool false) ?_
       (intro K k; go_simp; apply k; clear k K)
       refine Want.qv0 (.bool false) ?_
       (intro K k; go_simp; apply k; clear k K)
       refine q_nil ?_
       intro w7 hw7
       have h7 : Hid (Below wr.heap.size wr w7) := hw7.below
       go_wp2_with fail
       go_meet
       case rel => exact ⟨rfl, h7.out⟩
      | false =>
       refine q_plain (Class wr) (Class.mk_ (Below.refl _ _)) ?_
       refine q_move rfl (.tmp 10) rfl ?_
       (intro K k; go_simp; apply k; clear k K)
       refine Want.qv0 (.pointer (some ⟨w.heap.size + 1, 66, none⟩)) ?_
       (intro K k; go_simp; apply k; clear k K)
       refine q_val (v := .slice A n c) rfl (fun w' hw' => by have h := hC.out w' hw'.below 66 _ i66.out; go_simp) ?_
       (intro K k; go_simp; apply k; clear k K)
       refine Want.qv0 (.int .i64 (n : Int)) ?_
       (intro K k; go_simp; apply k; clear k K)
       refine q_val (v := .bool false) rfl (fun w' hw' => by have h := hyn.out; go_simp) ?_
       (intro K k; go_simp; apply k; clear k K)
       refine q_move rfl (.tmp 37) rfl ?_
       (intro K k; go_simp; apply k; clear k K)
       refine Want.qv0 (.pointer (some ⟨w.heap.size + 1, 0, none⟩)) ?_
       (intro K k; go_simp; apply k; clear k K)
       refine q_val (v := .bool true) rfl (fun w' hw' => by have h := hC.out w' hw'.below 0 _ ic0.out; go_simp) ?_
       (intro K k; go_simp; apply k; clear k K)
       refine q_move rfl (.tmp 40) rfl ?_
       (intro K k; go_simp; apply k; clear k K)
       refine Want.qv0 (.pointer (some ⟨w.heap.size + 1, 1, none⟩)) ?_
       (intro K k; go_simp; apply k; clear k K)
       refine q_part rfl 68 (.tmp 42) rfl (w.heap.size + 1) (1) rfl (entC cnt ch) _ (fun w' hw' => fun j v hv => hC.out w' hw'.below (1 + j) v (ient.out j v hv)) Tryd.underlying68 rfl sE.out ?_
       (intro K k; go_simp; apply k; clear k K)
       refine q_fn (v := .bool false) (args := #[.agg (entC cnt ch).toArray]) rfl _ _ rfl rfl Tryd.func142 (by kernel_rfl) (by kernel_rfl) (fun w' hw' => (right_any (entC cnt ch).toArray cnt rfl w').mono (fun e w'' ⟨he, hb⟩ => ⟨by rw [he, hok], hw'.next hb⟩)) ?_
       (intro K k; go_simp; apply k; clear k K)
       refine Want.qv0 (.bool true) ?_
       (intro K k; go_simp; apply k; clear k K)
       refine Want.qv0 (.bool true) ?_
       (intro K k; go_simp; apply k; clear k K)
       refine Want.qv0 (.bool true) ?_
       (intro K k; go_simp; apply k; clear k K)
       refine q_move rfl (.tmp 47) rfl ?_
       (intro K k; go_simp; apply k; clear k K)
       refine q_skip rfl ?_
       (intro K k; go_simp; apply k; clear k K)
       refine q_skip rfl ?_
       (intro K k; go_simp; apply k; clear k K)
       refine q_skip rfl ?_
       (intro K k; go_simp; apply k; clear k K)
       refine q_skip rfl ?_
       (intro K k; go_simp; apply k; clear k K)
       refine q_skip rfl ?_
       (intro K k; go_simp; apply k; clear k K)
       refine q_skip rfl ?_
       (intro K k; go_simp; apply k; clear k K)
       refine q_skip rfl ?_
       (intro K k; go_simp; apply k; clear k K)
       refine q_skip rfl ?_
       (intro K k; go_simp; apply k; clear k K)
       refine q_skip rfl ?_
       (intro K k; go_simp; apply k; clear k K)
       refine Want.qv0 (.bool true) ?_
       (intro K k; go_simp; apply k; clear k K)
       refine q_nil ?_
       intro w7 hw7
       have h7 : Hid (Below wr.heap.size wr w7) := hw7.below
       go_wp2_with fail
       go_meet
       case rel => exact ⟨rfl, h7.out⟩
     | false =>
      rw [okSp_f hN hNn] at hok
      rw [hok] at hz
      clear hN hNn
      cases ok with
      | true =>
       refine q_plain (Class wr) (Class.mk_ (Below.refl _ _)) ?_
       refine q_move rfl (.tmp 10) rfl ?_
       (intro K k; go_simp; apply k; clear k K)
       refine Want.qv0 (.pointer (some ⟨w.heap.size + 1, 66, none⟩)) ?_
       (intro K k; go_simp; apply k; clear k K)
       refine q_val (v := .slice A n c) rfl (fun w' hw' => by have h := hC.out w' hw'.below 66 _ i66.out; go_simp) ?_
       (intro K k; go_simp; apply k; clear k K)
       refine Want.qv0 (.int .i64 (n : Int)) ?_
       (intro K k; go_simp; apply k; clear k K)
       refine q_val (v := .bool false) rfl (fun w' hw' => by have h := hyn.out; go_simp) ?_
       (intro K k; go_simp; apply k; clear k K)
       refine q_move rfl (.tmp 37) rfl ?_
       (intro K k; go_simp; apply k; clear k K)
       refine Want.qv0 (.pointer (some ⟨w.heap.size + 1, 0, none⟩)) ?_
       (intro K k; go_simp; apply k; clear k K)
       refine q_val (v := .bool false) rfl (fun w' hw' => by have h := hC.out w' hw'.below 0 _ ic0.out; go_simp) ?_
       (intro K k; go_simp; apply k; clear k K)
       refine q_move rfl (.tmp 40) rfl ?_
       (intro K k; go_simp; apply k; clear k K)
       refine q_skip rfl ?_
       (intro K k; go_simp; apply k; clear k K)
       refine q_skip rfl ?_
       (intro K k; go_simp; apply k; clear k K)
       refine q_skip rfl ?_
       (intro K k; go_simp; apply k; clear k K)
       refine q_skip rfl ?_
       (intro K k; go_simp; apply k; clear k K)
       refine Want.qv0 (.bool false) ?_
       (intro K k; go_simp; apply k; clear k K)
       refine Want.qv0 (.bool false) ?_
       (intro K k; go_simp; apply k; clear k K)
       refine q_move rfl (.tmp 47) rfl ?_
       (intro K k; go_simp; apply k; clear k K)
       refine Want.qv0 (.pointer (some ⟨w.heap.size + 1, 0, none⟩)) ?_
       (intro K k; go_simp; apply k; clear k K)
       refine q_val (v := .bool false) rfl (fun w' hw' => by have h := hC.out w' hw'.below 0 _ ic0.out; go_simp) ?_
       (intro K k; go_simp; apply k; clear k K)
       refine Want.qv0 (.bool true) ?_
       (intro K k; go_simp; apply k; clear k K)
       refine q_move rfl (.tmp 51) rfl ?_
       (intro K k; go_simp; apply k; clear k K)
       refine Want.qv0 (.pointer (some ⟨w.heap.size + 1, 1, none⟩)) ?_
       (intro K k; go_simp; apply k; clear k K)
       refine q_part rfl 68 (.tmp 53) rfl (w.heap.size + 1) (1) rfl (entC cnt ch) _ (fun w' hw' => fun j v hv => hC.out w' hw'.below (1 + j) v (ient.out j v hv)) Tryd.underlying68 rfl sE.out ?_
       (intro K k; go_simp; apply k; clear k K)
       refine Want.qv0 (.agg #[.int .i64 0, .int .u8 0, .int .u8 0, .int .u8 0, .int .u8 0, .int .u8 0, .int .u8 0, .int .u8 0, .int .u8 0, .int .u8 0, .int .u8 0, .int .u8 0, .int .u8 0, .int .u8 0, .int .u8 0, .int .u8 0, .int .u8 0, .int .u8 0, .int .u8 0, .int .u8 0, .int .u8 0, .int .u8 0, .int .u8 0, .int .u8 0, .int .u8 0, .int .u8 0, .int .u8 0, .int .u8 0, .int .u8 0, .int .u8 0, .int .u8 0, .int .u8 0, .int .u8 0]) ?_
       (intro K k; go_simp; apply k; clear k K)
       refine q_val (v := .bool false) rfl (fun w' hw' => run_cmp rfl rfl rfl qE (hz.out w')) ?_
       (intro K k; go_simp; apply k; clear k K)
       refine Want.qv0 (.bool false) ?_
       (intro K k; go_simp; apply k; clear k K)
       refine Want.qv0 (.bool false) ?_
       (intro K k; go_simp; apply k; clear k K)
       refine q_nil ?_
       intro w7 hw7
       have h7 : Hid (Below wr.heap.size wr w7) := hw7.below
       go_wp2_with fail
       go_meet
       case rel => exact ⟨rfl, h7.out⟩
      | false =>
       refine q_plain (Class wr) (Class.mk_ (Below.refl _ _)) ?_
       refine q_move rfl (.tmp 10) rfl ?_
       (intro K k; go_simp; apply k; clear k K)
       refine Want.qv0 (.pointer (some ⟨w.heap.size + 1, 66, none⟩)) ?_
       (intro K k; go_simp; apply k; clear k K)
       refine q_val (v := .slice A n c) rfl (fun w' hw' => by have h := hC.out w' hw'.below 66 _ i66.out; go_simp) ?_
       (intro K k; go_simp; apply k; clear k K)
       refine Want.qv0 (.int .i64 (n : Int)) ?_
       (intro K k; go_simp; apply k; clear k K)
       refine q_val (v := .bool false) rfl (fun w' hw' => by have h := hyn.out; go_simp) ?_
       (intro K k; go_simp; apply k; clear k K)
       refine q_move rfl (.tmp 37) rfl ?_
       (intro K k; go_simp; apply k; clear k K)
       refine Want.qv0 (.pointer (some ⟨w.heap.size + 1, 0, none⟩)) ?_
       (intro K k; go_simp; apply k; clear k K)
       refine q_val (v := .bool false) rfl (fun w' hw' => by have h := hC.out w' hw'.below 0 _ ic0.out; go_simp) ?_
       (intro K k; go_simp; apply k; clear k K)
       refine q_move rfl (.tmp 40) rfl ?_
       (intro K k; go_simp; apply k; clear k K)
       refine q_skip rfl ?_
       (intro K k; go_simp; apply k; clear k K)
       refine q_skip rfl ?_
       (intro K k; go_simp; apply k; clear k K)
       refine q_skip rfl ?_
       (intro K k; go_simp; apply k; clear k K)
       refine q_skip rfl ?_
       (intro K k; go_simp; apply k; clear k K)
       refine Want.qv0 (.bool false) ?_
       (intro K k; go_simp; apply k; clear k K)
       refine Want.qv0 (.bool false) ?_
       (intro K k; go_simp; apply k; clear k K)
       refine q_move rfl (.tmp 47) rfl ?_
       (intro K k; go_simp; apply k; clear k K)
       refine Want.qv0 (.pointer (some ⟨w.heap.size + 1, 0, none⟩)) ?_
       (intro K k; go_simp; apply k; clear k K)
       refine q_val (v := .bool false) rfl (fun w' hw' => by have h := hC.out w' hw'.below 0 _ ic0.out; go_simp) ?_
       (intro K k; go_simp; apply k; clear k K)
       refine Want.qv0 (.bool true) ?_
       (intro K k; go_simp; apply k; clear k K)
       refine q_move rfl (.tmp 51) rfl ?_
       (intro K k; go_simp; apply k; clear k K)
       refine Want.qv0 (.pointer (some ⟨w.heap.size + 1, 1, none⟩)) ?_
       (intro K k; go_simp; apply k; clear k K)
       refine q_part rfl 68 (.tmp 53) rfl (w.heap.size + 1) (1) rfl (entC cnt ch) _ (fun w' hw' => fun j v hv => hC.out w' hw'.below (1 + j) v (ient.out j v hv)) Tryd.underlying68 rfl sE.out ?_
       (intro K k; go_simp; apply k; clear k K)
       refine Want.qv0 (.agg #[.int .i64 0, .int .u8 0, .int .u8 0, .int .u8 0, .int .u8 0, .int .u8 0, .int .u8 0, .int .u8 0, .int .u8 0, .int .u8 0, .int .u8 0, .int .u8 0, .int .u8 0, .int .u8 0, .int .u8 0, .int .u8 0, .int .u8 0, .int .u8 0, .int .u8 0, .int .u8 0, .int .u8 0, .int .u8 0, .int .u8 0, .int .u8 0, .int .u8 0, .int .u8 0, .int .u8 0, .int .u8 0, .int .u8 0, .int .u8 0, .int .u8 0, .int .u8 0, .int .u8 0]) ?_
       (intro K k; go_simp; apply k; clear k K)
       refine q_val (v := .bool true) rfl (fun w' hw' => run_cmp rfl rfl rfl qE (hz.out w')) ?_
       (intro K k; go_simp; apply k; clear k K)
       refine Want.qv0 (.bool true) ?_
       (intro K k; go_simp; apply k; clear k K)
       refine Want.qv0 (.bool true) ?_
       (intro K k; go_simp; apply k; clear k K)
       refine q_nil ?_
       intro w7 hw7
       have h7 : Hid (Below wr.heap.size wr w7) := hw7.below
       go_wp2_with fail
       go_meet
       case rel => exact ⟨rfl, h7.out⟩
    ·have hyn : Hid (¬ (N : Int) = (n : Int)) := by show ¬ _; omega
     obtain rfl : false = ok := by rw [← hok]; exact (okSp_no (by omega)).symm
     clear hN hNn
     refine q_plain (Class wr) (Class.mk_ (Below.refl _ _)) ?_
     refine q_move rfl (.tmp 10) rfl ?_
     (intro K k; go_simp; apply k; clear k K)
     refine Want.qv0 (.pointer (some ⟨w.heap.size + 1, 66, none⟩)) ?_
     (intro K k; go_simp; apply k; clear k K)
     refine q_val (v := .slice A n c) rfl (fun w' hw' => by have h := hC.out w' hw'.below 66 _ i66.out; go_simp) ?_
     (intro K k; go_simp; apply k; clear k K)
     refine Want.qv0 (.int .i64 (n : Int)) ?_
     (intro K k; go_simp; apply k; clear k K)
     refine q_val (v := .bool true) rfl (fun w' hw' => by have h := hyn.out; go_simp) ?_
     (intro K k; go_simp; apply k; clear k K)
     refine q_move rfl (.tmp 37) rfl ?_
     (intro K k; go_simp; apply k; clear k K)
     refine q_skip rfl ?_
     (intro K k; go_simp; apply k; clear k K)
     refine q_skip rfl ?_
     (intro K k; go_simp; apply k; clear k K)
     refine q_skip rfl ?_
     (intro K k; go_simp; apply k; clear k K)
     refine q_skip rfl ?_
     (intro K k; go_simp; apply k; clear k K)
     refine q_skip rfl ?_
     (intro K k; go_simp; apply k; clear k K)
     refine q_skip rfl ?_
     (intro K k; go_simp; apply k; clear k K)
     refine q_skip rfl ?_
     (intro K k; go_simp; apply k; clear k K)
     refine q_skip rfl ?_
     (intro K k; go_simp; apply k; clear k K)
     refine Want.qv0 (.bool true) ?_
     (intro K k; go_simp; apply k; clear k K)
     refine q_move rfl (.tmp 47) rfl ?_
     (intro K k; go_simp; apply k; clear k K)
     refine q_skip rfl ?_
     (intro K k; go_simp; apply k; clear k K)
     refine q_skip rfl ?_
     (intro K k; go_simp; apply k; clear k K)
     refine q_skip rfl ?_
     (intro K k; go_simp; apply k; clear k K)
     refine q_skip rfl ?_
     (intro K k; go_simp; apply k; clear k K)
     refine q_skip rfl ?_
     (intro K k; go_simp; apply k; clear k K)
     refine q_skip rfl ?_
     (intro K k; go_simp; apply k; clear k K)
     refine q_skip rfl ?_
     (intro K k; go_simp; apply k; clear k K)
     refine q_skip rfl ?_
     (intro K k; go_simp; apply k; clear k K)
     refine q_skip rfl ?_
     (intro K k; go_simp; apply k; clear k K)
     refine Want.qv0 (.bool true) ?_
     (intro K k; go_simp; apply k; clear k K)
     refine q_nil ?_
     intro w7 hw7
     have h7 : Hid (Below wr.heap.size wr w7) := hw7.below
     go_wp2_with fail
     go_meet
     case rel => exact ⟨rfl, h7.out⟩
   case rest =>
    obtain ⟨rfl, hk2⟩ := hcut
    obtain ⟨w2, rfl⟩ : ∃ w2 : World, w2 = wc := ⟨_, rfl⟩
    have hW2 : Hid (Below w1.heap.size w1 w2) := hW.out.trans (hk2.out.mono hW.out.size)
    have hR2 : Hid (Blk w2 (w.heap.size + 2) 23 Z32) := (hW2.out.block _ hR1.out.lt).trans hR1.out
    have hZ2 : Hid (Blk w2 zb 23 Z32) := (hW2.out.block _ hZ1.out.lt).trans hZ1.out
    have hbw2 : Hid (Below w.heap.size w w2) := hb1.out.trans (hW2.out.mono hb1.out.size)
    clear hC hPr hW hk2 hz sE
    cases ok with
    | false =>
     replace hok := Lib.hid hok
     go_wp2_with fail
     have s0 : Hid (Blk w2.drew zb 23 Z32) := hZ2.out
     refine held_start (fun w' => Blk w' zb 23 Z32) 4 rfl (by kernel_rfl) ?_
     refine Held.tk0 (i := 0) (v := .agg (Z32)) rfl s0.out (fun w' hw' => exec_row 23 (.tmp 9) rfl (zb) rfl 23 (Z32) (0, 0) _ (hw') Tryd.underlying23 rfl fitZ) ?_
     (intro K k; go_simp; apply k; clear k K)
     refine Held.tk0 (i := 1) (v := .slice none 0 0) rfl s0.out (fun w' hw' => by go_simp) ?_
     (intro K k; go_simp; apply k; clear k K)
     refine held_only (i := 2) rfl (by kernel_rfl) (by rfl) (fun K hK => ?_)
     refine wp_store_whole 23 (.tmp 7) (.tmp 59) rfl (w.heap.size + 2) Z32 rfl rfl 23 Z32 (show Blk w2.drew (w.heap.size + 2) 23 Z32 from hR2.out) fitZ rfl oneZ ?_
     intro w9 q9 k9
     have hb9 : Hid (Below w.heap.size w w9) := hbw2.out.drew.trans (Kept.below_of k9 (by omega) hbw2.out.size)
     have hZ9 : Hid (Blk w9 zb 23 Z32) := Blk.kept s0.out k9 (by have := hz3.out; omega)
     go_simp
     refine hK _ _ hZ9.out ?_
     clear hK K
     refine Held.tk0 (i := 3) (v := .int .i64 8) rfl hZ9.out (fun w' hw' => by go_simp) ?_
     (intro K k; go_simp; apply k; clear k K)
     refine held_end (by kernel_rfl) ?_
     go_wp2_with fail
     refine bodyPost_ret (results_tct rfl _ _ (w.heap.size + 2) 23 Z32 (0, 0) _ rfl q9 Tryd.underlying23 rfl fitZ) rfl ?_
     exact CPost.form hb9.out hok.out rfl
    | true =>
     have hones : Hid (onesOf d = n) := okSp_ones hok
     have hcnt := Lib.hid (okSp_cntR hok)
     replace hok := Lib.hid hok
     clear hN
     go_upto_if 64 with (go_at_call 143; refine (hE.out w2).mono ?_; rintro e w3 ⟨g, cg, rfl, hoE, hk⟩; have hW3 : Hid (Below w1.heap.size w1 w3) := hW2.out.trans (hk.mono hW2.out.size); have hE3 : Hid (RdD w3 (some ⟨g, 0, none⟩) 257 (emps s 257)) := own_rd hoE (emps_digs s 257) (emps_len s 257) _ _ rfl; clear hk hoE hE)
     obtain ⟨cw, hcw⟩ : ∃ cw, Hid (clampN s = cw) := ⟨_, Lib.hid rfl⟩
     rw [hcw.out] at hcl
     obtain ⟨s1, hs1e⟩ : ∃ s1, Hid ((if s < 1 then 1 else s) = s1) := ⟨_, Lib.hid rfl⟩
     have hcw2 := clamp_two s
     rw [hs1e.out, hcw.out] at hcw2
     go_cut [13] from 63 to 64 (fun v wr' => v = .int .i64 s1 ∧ Hid (Below w3.heap.size w3 wr'))
     case first =>
      by_cases hs1 : s < 1
      ·have e1 : (1 : Int) = s1 := by rw [← hs1e.out, if_pos hs1]
       replace e1 := Lib.hid e1
       go_wp2_with fail
       go_meet
       case rel => exact ⟨by rw [e1.out], Below.refl _ _⟩
      ·have e1 : s = s1 := by rw [← hs1e.out, if_neg hs1]
       replace e1 := Lib.hid e1
       go_wp2_with fail
       go_meet
       case rel => exact ⟨by rw [e1.out], Below.refl _ _⟩
     case rest =>
      obtain ⟨rfl, hk3⟩ := hcut
      obtain ⟨w3b, rfl⟩ : ∃ w3b : World, w3b = wc := ⟨_, rfl⟩
      go_upto_if 66 with fail
      go_cut [13] from 65 to 66 (fun v wr' => v = .int .i64 (cw : Int) ∧ Hid (Below w3b.heap.size w3b wr'))
      case first =>
       by_cases hs2 : 32 < s1
       ·have e1 : (32 : Int) = (cw : Int) := by rw [hcw2, if_pos hs2]
        replace e1 := Lib.hid e1
        clear hcw2
        go_wp2_with fail
        go_meet
        case rel => exact ⟨by rw [← e1.out], Below.refl _ _⟩
       ·have e1 : s1 = (cw : Int) := by rw [hcw2, if_neg hs2]
        replace e1 := Lib.hid e1
        clear hcw2
        go_wp2_with fail
        go_meet
        case rel => exact ⟨by rw [e1.out], Below.refl _ _⟩
      case rest =>
       obtain ⟨rfl, hk3b⟩ := hcut
       obtain ⟨w4, rfl⟩ : ∃ w4 : World, w4 = wc := ⟨_, rfl⟩
       have hk4 : Hid (Below w3.heap.size w3 w4) := hk3.out.trans (hk3b.out.mono hk3.out.size)
       clear hk3 hk3b hcw2
       have hW4 : Hid (Below w1.heap.size w1 w4) := hW3.out.trans (hk4.out.mono hW3.out.size)
       have hE4 : Hid (RdD w4 (some ⟨g, 0, none⟩) 257 (emps s 257)) := hE3.out.below hk4.out
       clear hk4 hE3 hW3 hW2 hR2 hZ2 hbw2
       go_wp2_with fail
       go_loopw [14, 15] (fun u v wr => ∃ (h : Nat) (l : List Text), u = .int .i64 (nbits d h : Nat) ∧ v = .int .i64 (h : Int) ∧ Hid (h ≤ 256) ∧ Hid (nbrs s d ds h = some l) ∧ Hid (Below w4.heap.size w4 wr)) (fun _ v _ => 256 - (intOf v).toNat)
       case atStart => exact ⟨0, [], rfl, rfl, Nat.zero_le _, rfl, Below.refl _ _⟩
       case round =>
        obtain ⟨h, l, rfl, rfl, hh, hl, hW⟩ := hrel
        have hWr : Hid (Below w1.heap.size w1 wr) := hW4.out.trans (hW.out.mono hW4.out.size)
        have hPr : Hid (Blk wr (w.heap.size + 1) 135 cs) := (hWr.out.block _ hP1.out.lt).trans hP1.out
        have hbwr : Hid (Below w.heap.size w wr) := hb1.out.trans (hWr.out.mono hb1.out.size)
        by_cases hlt : h < 256
        ·have z1 : (h : Int) < 256 := by omega
         have z0 : (0 : Int) ≤ (h : Int) := by omega
         have z2 : IntKind.i64.wrap ((h : Int) + 1) = (h : Int) + 1 := IntWalk.i64_in _ (by omega)
         have hset := Lib.hid (hSet.out h hlt)
         have hlth : Hid (h < 256) := hlt
         have hll : Hid (l.length = h) := nbrs_len hl.out
         have hyE : (emps s 257)[h]? = some (emp s h) := emps_at s (by omega)
         cases hb : hbit d h with
         | false =>
          rw [hb] at hset
          have hnb : Hid (nbits d (h + 1) = nbits d h) := nbits_off hb
          have hl1 : Hid (nbrs s d ds (h + 1) = some (l ++ [emp s h])) := nbrs_up hl.out (nbr_off hb)
          clear hb hlt hyE
          go_wp2_with (first
           | ((with_reducible change wpList _ _ _ (⟨some 71, _, _, _, _, _⟩ :: _) _ _); refine wpList_load_row (o := ⟨some 71, _, _, _, _, _⟩) rfl 135 (.tmp 5) rfl ((w.heap.size + 1)) rfl 135 (cs) (0, 0) _ hPr.out Tryd.underlying135 rfl hsz.out ?_)
           | (go_at_call 141; refine (hset.out wr).mono ?_; rintro e w5 ⟨rfl, hk⟩; have hW5 : Hid (Below w4.heap.size w4 w5) := hW.out.trans (hk.mono hW.out.size); clear hk hset))
          go_roundw
          case rel => exact ⟨h + 1, _, by rw [hnb.out], by go_num, hlth.out, hl1.out, hW5.out⟩
          case measure => (have := hlth.out; simp [intOf]; omega)
         | true =>
          rw [hb] at hset
          have hnlt : nbits d h < n := by
           rw [← hones.out, ← nbits_all d hdh.out]
           exact nbits_lt d hb hlth.out
          have hnb : Hid (nbits d (h + 1) = nbits d h + 1) := nbits_on hb
          obtain ⟨xd, hxd⟩ : ∃ xd, ds[nbits d h]? = some xd := ⟨_, List.getElem?_eq_getElem (by rw [hr.out.1]; exact hnlt)⟩
          have hon := Lib.hid (nbr_on (s := s) hb hxd)
          have hxl := Lib.hid (hr.out.2.1.at_ hxd)
          have Fx := Lib.hid (fit (x := xd) hxl.out)
          obtain ⟨b, o, rfl, hbw, hdc0⟩ := hr.out.at_ hxd
          obtain ⟨nb, hnbe⟩ : ∃ nb, Hid (nbits d h = nb) := ⟨_, Lib.hid rfl⟩
          rw [hnbe.out] at hnlt hdc0 hnb ⊢
          have hdc : Hid (∀ w', Below wr.heap.size wr w' → ∀ k v, (cells8 xd)[k]? = some v → w'.cell? ⟨b, o + nb * 32 + k, none⟩ = some v) := fun w' hb k v hv => ((hbwr.out.trans (hb.mono hbwr.out.size)).cell (p := ⟨b, o + nb * 32 + k, none⟩) hbw).trans (hdc0 k v hv)
          have hc66 : Hid (∀ w', Below wr.heap.size wr w' → w'.cell? ⟨w.heap.size + 1, 66, none⟩ = some (.slice (some ⟨b, o, none⟩) n c)) := fun w' hb => ((show Blk w' (w.heap.size + 1) 135 cs from (hb.block _ hPr.out.lt).trans hPr.out).cell _).trans i66.out
          obtain ⟨y, hy⟩ : ∃ y, Hid (emp s h = y) := ⟨_, Lib.hid rfl⟩
          have hyl : Hid (y.length = 32) := by show _ = _; rw [← hy.out]; exact emp_len s h
          rw [hy.out] at hyE hon
          have Fy := Lib.hid (fit (x := y) hyl.out)
          have hyc : Hid (∀ w', Below w4.heap.size w4 w' → ∀ k v, (cells8 y)[k]? = some v → w'.cell? ⟨g, h * 32 + k, none⟩ = some v) := fun w' hb k v hv => by
           obtain ⟨b', o', e, hbl, hcc⟩ := hE4.out.at_ hyE
           injection e with e
           injection e with e1 e2
           subst e1 e2
           have := (hb.cell (p := ⟨g, 0 + h * 32 + k, none⟩) hbl).trans (hcc k v hv)
           rwa [Nat.zero_add] at this
          have hnle := nbits_le d h
          rw [hnbe.out] at hnle
          have z11 : (nb : Int) < (n : Int) := by omega
          have z12 : (0 : Int) ≤ (nb : Int) := by omega
          have z13 : IntKind.i64.wrap ((nb : Int) + 1) = (nb : Int) + 1 := IntWalk.i64_in _ (by have := hlth.out; omega)
          have z14 : (h : Int) < 257 := by omega
          rw [hcw.out] at hon
          clear hb hlt hyE hdc0 hbw hxd hnlt hnle
          go_upto_region 23 with (first
           | ((with_reducible change wpList _ _ _ (⟨some 71, _, _, _, _, _⟩ :: _) _ _); refine wpList_load_row (o := ⟨some 71, _, _, _, _, _⟩) rfl 135 (.tmp 5) rfl ((w.heap.size + 1)) rfl 135 (cs) (0, 0) _ hPr.out Tryd.underlying135 rfl hsz.out ?_)
           | (go_at_call 141; refine (hset.out wr).mono ?_; rintro e w5 ⟨rfl, hk⟩; have hk5 : Hid (Below wr.heap.size wr w5) := hk; have c66 := hc66.out w5 hk5.out; have hdc5 := Lib.hid (hdc.out w5 hk5.out); clear hk hset hdc hc66)
           | ((with_reducible change wpList _ _ _ (⟨some 79, _, _, _, _, _⟩ :: _) _ _); refine wpList_load_part (o := ⟨some 79, _, _, _, _, _⟩) rfl 23 (.tmp 78) rfl (b) (o + nb * 32) rfl (cells8 xd) _ hdc5.out Tryd.underlying23 rfl Fx.out.part ?_)
           | ((with_reducible change wpList _ _ _ ({ dst := none, op := Op.store 23 (.tmp 16) _, type := _, pos := _, after := _, guard := _ } :: _) _ _); refine wpList_store_whole0 rfl rfl 23 (.tmp 16) (.tmp 79) rfl (w5.heap.size) ((cells8 xd).toArray) rfl rfl 23 (Z32) (Blk.new w5 _ _) Fx.out.size Fx.out.zero Fx.out.one ?_; intro w6 hB6 hk; have hb6 := Lib.hid (kept_fresh hk); replace hB6 := Lib.hid hB6; clear hk))
          have hk6 : Hid (Below wr.heap.size wr w6) := hk5.out.trans (hb6.out.mono hk5.out.size)
          have hW6 : Hid (Below w4.heap.size w4 w6) := hW.out.trans (hk6.out.mono hW.out.size)
          have hWr6 : Hid (Below w1.heap.size w1 w6) := hW4.out.trans (hW6.out.mono hW4.out.size)
          clear c66 hdc5
          by_cases hxy : xd = y
          ·have hq1 : Hid (∀ w, (binOp .eql 23 (.agg (cells8 xd).toArray) (.agg (cells8 y).toArray)).run Tryd.prog w = .ok (.bool true) w) := fun w => by rw [eql_dig xd y hxl.out hyl.out w, decide_eq_true hxy]
           have hstop : Hid (nbrs s d ds 256 = none) := nbrs_stop hl.out (by rw [hon.out, if_pos (.inl hxy)]) hlth.out
           clear hon hxy
           refine q_region (Class w6) (by kernel_rfl) (by kernel_rfl) (Class.mk_ ((Below.refl _ _).drew)) ?_
           refine q_row rfl 23 (.tmp 16) rfl w5.heap.size rfl 23 ((cells8 xd).toArray) (0, 0) _ (fun w' hw' => (hw'.below.block _ hB6.out.lt).trans hB6.out) Tryd.underlying23 rfl Fx.out.size ?_
           (intro K k; go_simp; apply k; clear k K)
           refine q_move rfl (.tmp 12) rfl ?_
           (intro K k; go_simp; apply k; clear k K)
           refine q_move rfl (.tmp 15) rfl ?_
           (intro K k; go_simp; apply k; clear k K)
           refine Want.qv0 (.pointer (some ⟨g, h * 32, none⟩)) ?_
           (intro K k; go_simp; apply k; clear k K)
           refine q_part rfl 23 (.tmp 85) rfl g (h * 32) rfl (cells8 y) _ (fun w' hw' => hyc.out w' (hW6.out.trans (hw'.below.mono hW6.out.size))) Tryd.underlying23 rfl Fy.out.part ?_
           (intro K k; go_simp; apply k; clear k K)
           refine q_val (v := .bool true) rfl (fun w' hw' => run_cmp rfl rfl rfl qD (hq1.out w')) ?_
           (intro K k; go_simp; apply k; clear k K)
           refine q_nil ?_
           intro w7 hw7
           have h67 : Hid (Below w6.heap.size w6 w7) := hw7.below
           have hW7 : Hid (Below w1.heap.size w1 w7) := hWr6.out.trans (h67.out.mono hWr6.out.size)
           clear hw7
           have hR2 : Hid (Blk w7 (w.heap.size + 2) 23 Z32) := (hW7.out.block _ hR1.out.lt).trans hR1.out
           have hZ2 : Hid (Blk w7 zb 23 Z32) := (hW7.out.block _ hZ1.out.lt).trans hZ1.out
           have hbw2 : Hid (Below w.heap.size w w7) := hb1.out.trans (hW7.out.mono hb1.out.size)
           go_wp2_with fail
           have s0 : Hid (Blk w7.drew zb 23 Z32) := hZ2.out
           refine held_start (fun w' => Blk w' zb 23 Z32) 4 rfl (by kernel_rfl) ?_
           refine Held.tk0 (i := 0) (v := .agg (Z32)) rfl s0.out (fun w' hw' => exec_row 23 (.tmp 9) rfl (zb) rfl 23 (Z32) (0, 0) _ (hw') Tryd.underlying23 rfl fitZ) ?_
           (intro K k; go_simp; apply k; clear k K)
           refine Held.tk0 (i := 1) (v := .slice none 0 0) rfl s0.out (fun w' hw' => by go_simp) ?_
           (intro K k; go_simp; apply k; clear k K)
           refine held_only (i := 2) rfl (by kernel_rfl) (by rfl) (fun K hK => ?_)
           refine wp_store_whole 23 (.tmp 7) (.tmp 88) rfl (w.heap.size + 2) Z32 rfl rfl 23 Z32 (show Blk w7.drew (w.heap.size + 2) 23 Z32 from hR2.out) fitZ rfl oneZ ?_
           intro w9 q9 k9
           have hb9 : Hid (Below w.heap.size w w9) := hbw2.out.drew.trans (Kept.below_of k9 (by omega) hbw2.out.size)
           have hZ9 : Hid (Blk w9 zb 23 Z32) := Blk.kept s0.out k9 (by have := hz3.out; omega)
           go_simp
           refine hK _ _ hZ9.out ?_
           clear hK K
           refine Held.tk0 (i := 3) (v := .int .i64 170) rfl hZ9.out (fun w' hw' => by go_simp) ?_
           (intro K k; go_simp; apply k; clear k K)
           refine held_end (by kernel_rfl) ?_
           go_wp2_with fail
           refine bodyPost_ret (results_tct rfl _ _ (w.heap.size + 2) 23 Z32 (0, 0) _ rfl q9 Tryd.underlying23 rfl fitZ) rfl ?_
           exact CPost.bad hb9.out hok.out hstop.out rfl
          ·have hq1 : Hid (∀ w, (binOp .eql 23 (.agg (cells8 xd).toArray) (.agg (cells8 y).toArray)).run Tryd.prog w = .ok (.bool false) w) := fun w => by rw [eql_dig xd y hxl.out hyl.out w, decide_eq_false hxy]
           have hne : Hid (¬ xd = y) := hxy
           clear hxy
           refine q_region (Class w6) (by kernel_rfl) (by kernel_rfl) (Class.mk_ ((Below.refl _ _).drew)) ?_
           refine q_row rfl 23 (.tmp 16) rfl w5.heap.size rfl 23 ((cells8 xd).toArray) (0, 0) _ (fun w' hw' => (hw'.below.block _ hB6.out.lt).trans hB6.out) Tryd.underlying23 rfl Fx.out.size ?_
           (intro K k; go_simp; apply k; clear k K)
           refine q_move rfl (.tmp 12) rfl ?_
           (intro K k; go_simp; apply k; clear k K)
           refine q_move rfl (.tmp 15) rfl ?_
           (intro K k; go_simp; apply k; clear k K)
           refine Want.qv0 (.pointer (some ⟨g, h * 32, none⟩)) ?_
           (intro K k; go_simp; apply k; clear k K)
           refine q_part rfl 23 (.tmp 85) rfl g (h * 32) rfl (cells8 y) _ (fun w' hw' => hyc.out w' (hW6.out.trans (hw'.below.mono hW6.out.size))) Tryd.underlying23 rfl Fy.out.part ?_
           (intro K k; go_simp; apply k; clear k K)
           refine q_val (v := .bool false) rfl (fun w' hw' => run_cmp rfl rfl rfl qD (hq1.out w')) ?_
           (intro K k; go_simp; apply k; clear k K)
           refine q_nil ?_
           intro w7 hw7
           have h67 : Hid (Below w6.heap.size w6 w7) := hw7.below
           have hW7 : Hid (Below w1.heap.size w1 w7) := hWr6.out.trans (h67.out.mono hWr6.out.size)
           clear hw7
           have hX7 : Hid (Blk w7 w5.heap.size 23 (cells8 xd).toArray) := (h67.out.block _ hB6.out.lt).trans hB6.out
           have hW47 : Hid (Below w4.heap.size w4 w7) := hW6.out.trans (h67.out.mono hW6.out.size)
           clear h67 hB6 hb6
           go_wp2_with fail
           go_loopw [17] (fun v wq => ∃ bb : Nat, v = .int .i64 (bb : Int) ∧ Hid (cw ≤ bb ∧ bb ≤ 32) ∧ Hid (∀ i, cw ≤ i → i < bb → xd.getD i 0 = 0) ∧ Hid (Blk wq w5.heap.size 23 (cells8 xd).toArray) ∧ Hid (Below w4.heap.size w4 wq)) (fun v _ => 32 - (intOf v).toNat)
           case atStart => exact ⟨cw, rfl, ⟨Nat.le_refl _, hcl.out.2⟩, (fun i h1 h2 => absurd h1 (by omega)), hX7.out, hW47.out⟩
           case round =>
            clear hX7 hW47 hW7
            obtain ⟨bb, rfl, hbb, hzero, hXq, hWq⟩ := hrel
            by_cases hb32 : bb < 32
            ·have y1 : (bb : Int) < 32 := by omega
             have y0 : (0 : Int) ≤ (bb : Int) := by omega
             have y2 : IntKind.i64.wrap ((bb : Int) + 1) = (bb : Int) + 1 := IntWalk.i64_in _ (by omega)
             have hcell : wr.cell? ⟨w5.heap.size, bb, none⟩ = some (.int .u8 (b8 (xd.getD bb 0))) := by
              rw [hXq.out.cell bb, List.getElem?_toArray]
              unfold cells8
              rw [List.getElem?_map, getD_of (by rw [hxl.out]; exact hb32)]
              rfl
             by_cases hx0 : xd.getD bb 0 = 0
             ·rw [hx0] at hcell
              have hcell0 : wr.cell? ⟨w5.heap.size, bb, none⟩ = some (.int .u8 0) := hcell
              have hz1 : Hid (∀ i, cw ≤ i → i < bb + 1 → xd.getD i 0 = 0) := fun i h1 h2 => by
               rcases Nat.lt_or_ge i bb with h3 | h3
               ·exact hzero.out i h1 h3
               ·obtain rfl : i = bb := by omega
                exact hx0
              have hb32h : Hid (bb < 32) := hb32
              clear hcell hx0 hb32
              go_wp2_with fail
              go_roundw
              case rel => exact ⟨bb + 1, by go_num, ⟨by have := hbb.out; omega, hb32h.out⟩, hz1.out, hXq.out, hWq.out⟩
              case measure => (have := hb32h.out; simp [intOf]; omega)
             ·have hb8 : ¬ b8 (xd.getD bb 0) = 0 := fun e => hx0 ((b8_zero _).1 e)
              have hstop : Hid (nbrs s d ds 256 = none) := nbrs_stop hl.out (by rw [hon.out, if_pos (.inr (cut_other hxl.out hcl.out.2 hbb.out.1 hb32 hx0))]) hlth.out
              obtain ⟨xv, hxv⟩ : ∃ xv, b8 (xd.getD bb 0) = xv := ⟨_, rfl⟩
              rw [hxv] at hcell hb8
              have hb9' : (xv == 0) = false := beq_eq_false_iff_ne.2 hb8
              have hW7 : Hid (Below w1.heap.size w1 wr) := hW4.out.trans (hWq.out.mono hW4.out.size)
              have hR2 : Hid (Blk wr (w.heap.size + 2) 23 Z32) := (hW7.out.block _ hR1.out.lt).trans hR1.out
              have hZ2 : Hid (Blk wr zb 23 Z32) := (hW7.out.block _ hZ1.out.lt).trans hZ1.out
              have hbw2 : Hid (Below w.heap.size w wr) := hb1.out.trans (hW7.out.mono hb1.out.size)
              clear hxv hx0 hb32 hon
              go_wp2_with fail
              have s0 : Hid (Blk wr.drew zb 23 Z32) := hZ2.out
              refine held_start (fun w' => Blk w' zb 23 Z32) 4 rfl (by kernel_rfl) ?_
              refine Held.tk0 (i := 0) (v := .agg (Z32)) rfl s0.out (fun w' hw' => exec_row 23 (.tmp 9) rfl (zb) rfl 23 (Z32) (0, 0) _ (hw') Tryd.underlying23 rfl fitZ) ?_
              (intro K k; go_simp; apply k; clear k K)
              refine Held.tk0 (i := 1) (v := .slice none 0 0) rfl s0.out (fun w' hw' => by go_simp) ?_
              (intro K k; go_simp; apply k; clear k K)
              refine held_only (i := 2) rfl (by kernel_rfl) (by rfl) (fun K hK => ?_)
              refine wp_store_whole 23 (.tmp 7) (.tmp 98) rfl (w.heap.size + 2) Z32 rfl rfl 23 Z32 (show Blk wr.drew (w.heap.size + 2) 23 Z32 from hR2.out) fitZ rfl oneZ ?_
              intro w9 q9 k9
              have hb9 : Hid (Below w.heap.size w w9) := hbw2.out.drew.trans (Kept.below_of k9 (by omega) hbw2.out.size)
              have hZ9 : Hid (Blk w9 zb 23 Z32) := Blk.kept s0.out k9 (by have := hz3.out; omega)
              go_simp
              refine hK _ _ hZ9.out ?_
              clear hK K
              refine Held.tk0 (i := 3) (v := .int .i64 170) rfl hZ9.out (fun w' hw' => by go_simp) ?_
              (intro K k; go_simp; apply k; clear k K)
              refine held_end (by kernel_rfl) ?_
              go_wp2_with fail
              refine bodyPost_ret (results_tct rfl _ _ (w.heap.size + 2) 23 Z32 (0, 0) _ rfl q9 Tryd.underlying23 rfl fitZ) rfl ?_
              exact CPost.bad hb9.out hok.out hstop.out rfl
            ·obtain rfl : bb = 32 := by have := hbb.out; omega
             have hl1 : Hid (nbrs s d ds (h + 1) = some (l ++ [xd])) := nbrs_up hl.out (by rw [hon.out, if_neg (fun h => h.elim hne.out (fun h => h (cut_same hxl.out hcl.out.2 hzero.out)))])
             clear hb32 hon
             go_wp2_with fail
             go_roundw
             case rel => exact ⟨h + 1, _, by rw [hnb.out]; go_num, by go_num, hlth.out, hl1.out, hWq.out⟩
             case measure => (have := hlth.out; simp [intOf]; omega)
        ·obtain rfl : h = 256 := by have := hh.out; omega
         obtain ⟨wB, rfl⟩ : ∃ wB : World, wB = wr := ⟨_, rfl⟩
         have hKB : Hid (Blk wB w.heap.size 23 (cells8 k).toArray) := (hWr.out.block _ hK1.out.lt).trans hK1.out
         have hRB : Hid (Blk wB (w.heap.size + 2) 23 Z32) := (hWr.out.block _ hR1.out.lt).trans hR1.out
         have hEB : Hid (RdD wB (some ⟨g, 0, none⟩) 257 (emps s 257)) := hE4.out.below hW.out
         have hsB : Hid (w.heap.size + 4 ≤ wB.heap.size) := by have := hsz1.out; have := hWr.out.size; show _ ≤ _; omega
         have hDl : Hid (Digs l) := nbrs_digs hr.out.2.1 (m := 256) (by rw [nbits_all d hdh.out, hones.out, hr.out.1]; exact Nat.le_refl _) (Nat.le_refl _) hl.out
         obtain ⟨t0, ht0⟩ : ∃ t0, Hid (txt0 k f cnt ch = t0) := ⟨_, Lib.hid rfl⟩
         have ht0l := txt0_len (k := k) (f := f) (cnt := cnt) hkh.out hchh.out
         rw [ht0.out] at ht0l
         obtain ⟨n0, hn0⟩ : ∃ n0, Hid (t0.length = n0) := ⟨_, Lib.hid rfl⟩
         have hn0b : Hid (1 ≤ n0 ∧ n0 ≤ 73) := by
          show _ ∧ _
          rw [← hn0.out, ht0l]
          cases f <;> decide
         have hpos : Hid (∀ h, ∀ q ∈ (lead s k t0 l h).1, 0 < q.length) := lead_pos (by rw [hn0.out]; exact hn0b.out.1)
         obtain ⟨z0, hz0⟩ : ∃ z0, Hid (sumOf s t0 = z0) := ⟨_, Lib.hid rfl⟩
         have hz0l : Hid (z0.length = 32) := by show _ = _; rw [← hz0.out]; exact sumOf_len _ _
         have Fz0 := Lib.hid (fit (x := z0) hz0l.out)
         have hlead0 : Hid (lead s k t0 l 0 = ([t0], z0)) := by show ([t0], sumOf s t0) = _; rw [hz0.out]
         have hT5 : Hid (Calls Tryd.prog 93 #[.int .i64 5, .slice none 0 0] wB fun e w' => ∃ v, e = .returned v ∧ w'.ownsRow wB.heap.size 5 1 v 1 (cells8 [kb 5]) ∧ Below wB.heap.size wB w') := refText_any [] 0 rfl none 0 5 wB (by simp) (by omega) (fun h => absurd h (Nat.lt_irrefl 0))
         clear hlt hh hW hE4 hW4 ht0l hcl hcw hs1e
         go_upto_if 101 with (go_at_call 93; refine hT5.out.mono ?_; rintro e w5 ⟨v5, rfl, ho5, hk⟩; obtain ⟨g5, c5, rfl, hc5, hr5, hg5, hg5'⟩ := txt_form ho5 (by decide); have hb5 : Hid (Below wB.heap.size wB w5) := hk; have hx5 : Hid (1 ≤ c5 ∧ wB.heap.size ≤ g5 ∧ g5 < w5.heap.size) := ⟨hc5, hg5, hg5'⟩; replace hr5 := Lib.hid hr5; have hP5 : Hid (Blk w5 (w.heap.size + 1) 135 cs) := (hk.block _ hPr.out.lt).trans hPr.out; have d0 := (hP5.out.cell 0).trans ic0.out; clear hk ho5 hc5 hg5 hg5' hT5)
         go_cut [18] from 100 to 111 (fun v wr' => ∃ gt ct, v = .slice (some ⟨gt, 0, none⟩) n0 ct ∧ Hid (n0 ≤ ct ∧ wB.heap.size ≤ gt ∧ gt < wr'.heap.size) ∧ Hid (Reads wr' 1 (some ⟨gt, 0, none⟩) n0 (cells8 t0)) ∧ Hid (Below wB.heap.size wB wr'))
         case first =>
          cases f with
          | false =>
           obtain rfl : [kb 5] = t0 := ht0.out
           obtain rfl : 1 = n0 := hn0.out
           go_wp2_with fail
           go_meet
           case rel => exact ⟨g5, c5, rfl, hx5.out, hr5.out, hb5.out⟩
          | true =>
           obtain ⟨M, rfl⟩ := Int.eq_ofNat_of_zero_le (hcnt.out rfl).1
           have hM40 : M ≤ 1099511627776 := by have := (hcnt.out rfl).2; omega
           have ht3 : Hid (kb 3 :: (k ++ (be8 M ++ ch)) = t0) := by show _ = _; rw [← ht0.out]; rfl
           have hn73 : n0 = 73 := by rw [← hn0.out, ← ht3.out]; simp [hkh.out, hchh.out, be8_len]
           subst hn73
           have hc1 : Hid (w5.cell? ⟨w.heap.size + 1, 1, none⟩ = some (.int .i64 (M : Int))) := (hP5.out.cell 1).trans ic1.out
           have hP5l := Lib.hid hP5.out.lt
           have hRk : Hid (Reads w5 1 (some ⟨w.heap.size, 0, none⟩) 32 (cells8 k)) := by
            have h := Blk.reads (size := 1) (n := 32) ((hb5.out.block _ hKB.out.lt).trans hKB.out : Blk w5 w.heap.size 23 (cells8 k).toArray) 0 (cells8 k) (by rw [cells8_len, hkh.out]) (fun j u hu => by rw [Nat.zero_add, List.getElem?_toArray]; exact hu)
            exact (h : Reads w5 1 (some ⟨w.heap.size, 0, none⟩) 32 (cells8 k))
           have hRc : Hid (Reads w5 1 (some ⟨w.heap.size + 1, 2, none⟩) 32 (cells8 ch)) := by
            have h := Blk.reads (size := 1) (n := 32) hP5.out 2 (cells8 ch) (by rw [cells8_len, hchh.out]) (fun j u hu => ich.out j u hu)
            exact (h : Reads w5 1 (some ⟨w.heap.size + 1, 2, none⟩) 32 (cells8 ch))
           have hE8 : Hid (Calls Tryd.prog 75 #[.int .i64 (M : Int)] w5.drew fun e w' => e = .returned (.slice (some ⟨w5.drew.heap.size, 0, none⟩) 8 8) ∧ Below w5.drew.heap.size w5.drew w' ∧ w'.ownsRow w5.drew.heap.size 5 1 (.slice (some ⟨w5.drew.heap.size, 0, none⟩) 8 8) 8 (cells8 (be8 M))) := eight_any M (by omega) w5.drew
           clear hcnt hM40 ht0 hn0 hr5 hx5
           go_wp2_with fail
           have s0 : Hid (w5.drew.cell? ⟨w.heap.size + 1, 1, none⟩ = some (.int .i64 (M : Int))) := hc1.out
           refine held_start (fun w' => w'.cell? ⟨w.heap.size + 1, 1, none⟩ = some (.int .i64 (M : Int))) 11 rfl (by kernel_rfl) ?_
           refine Held.tk0 (i := 0) (v := .slice (some ⟨w.heap.size, 0, none⟩) 32 32) rfl s0.out (fun w' hw' => by go_simp) ?_
           (intro K k; go_simp; apply k; clear k K)
           refine Held.tk0 (i := 1) (v := .pointer (some ⟨w.heap.size + 1, 1, none⟩)) rfl s0.out (fun w' hw' => by go_simp) ?_
           (intro K k; go_simp; apply k; clear k K)
           refine Held.tk0 (i := 2) (v := .pointer (some ⟨w.heap.size + 1, 1, none⟩)) rfl s0.out (fun w' hw' => by go_simp) ?_
           (intro K k; go_simp; apply k; clear k K)
           refine Held.tk0 (i := 3) (v := .int .i64 (M : Int)) rfl s0.out (fun w' hw' => by have h : w'.cell? ⟨w.heap.size + 1, 1, none⟩ = some (.int .i64 (M : Int)) := hw'; go_simp) ?_
           (intro K k; go_simp; apply k; clear k K)
           refine Held.tk0 (i := 5) (v := .pointer (some ⟨w.heap.size + 1, 1, none⟩)) rfl s0.out (fun w' hw' => by go_simp) ?_
           (intro K k; go_simp; apply k; clear k K)
           refine Held.tk0 (i := 6) (v := .pointer (some ⟨w.heap.size + 1, 2, none⟩)) rfl s0.out (fun w' hw' => by go_simp) ?_
           (intro K k; go_simp; apply k; clear k K)
           refine Held.tk0 (i := 7) (v := .slice (some ⟨w.heap.size + 1, 2, none⟩) 32 32) rfl s0.out (fun w' hw' => by go_simp) ?_
           (intro K k; go_simp; apply k; clear k K)
           refine held_only (i := 4) rfl (by kernel_rfl) (by rfl) (fun K hK => ?_)
           refine wp_fn (R := fun v w'' => v = .slice (some ⟨w5.heap.size, 0, none⟩) 8 8 ∧ Below w5.heap.size w5 w'' ∧ w''.ownsRow w5.heap.size 5 1 (.slice (some ⟨w5.heap.size, 0, none⟩) 8 8) 8 (cells8 (be8 M))) (args := #[.int .i64 (M : Int)]) _ _ rfl rfl Tryd.func75 (by kernel_rfl) (by kernel_rfl) (hE8.out.mono fun e w'' ⟨he, hb, ho⟩ => ⟨_, he, rfl, (((Below.refl _ w5).drew).trans hb), ho⟩) ?_
           rintro v8 w8 ⟨rfl, hk8, ho8⟩
           have h8a : Hid (Below w5.heap.size w5 w8) := hk8
           have s8 : Hid (w8.cell? ⟨w.heap.size + 1, 1, none⟩ = some (.int .i64 (M : Int))) := (hk8.cell (p := ⟨w.heap.size + 1, 1, none⟩) hP5l.out).trans hc1.out
           go_simp
           refine hK _ _ s8.out ?_
           clear hK K
           obtain ⟨wq, hwq⟩ : ∃ wq, Hid (w8.alloc (.cells #[.slice (some ⟨w.heap.size, 0, none⟩) 32 32, .slice (some ⟨w5.heap.size, 0, none⟩) 8 8, .slice (some ⟨w.heap.size + 1, 2, none⟩) 32 32] 27) = wq) := ⟨_, Lib.hid rfl⟩
           have hT3 : Hid (Calls Tryd.prog 93 #[.int .i64 3, .slice (some ⟨w8.heap.size, 0, none⟩) 3 3] wq fun e w' => ∃ v, e = .returned v ∧ w'.ownsRow wq.heap.size 5 1 v 73 (cells8 t0) ∧ Below wq.heap.size wq w') := by
            obtain ⟨A8, c8, e8, -, -, hr8, -⟩ := Own.own_reads ho8
            injection e8 with e8 _ _
            subst e8
            have hp := pieces3 (hRk.out.below hk8) hr8 (hRc.out.below hk8) hkh.out (be8_len M) hchh.out
            rw [hwq.out] at hp
            have := refText_any [k, be8 M, ch] 3 rfl (some ⟨w8.heap.size, 0, none⟩) 3 3 wq (by simp [hkh.out, hchh.out, be8_len]) (by decide) hp
            rw [show 1 + [k, be8 M, ch].flatten.length = 73 by simp [hkh.out, hchh.out, be8_len], show kb 3 :: [k, be8 M, ch].flatten = t0 by rw [← ht3.out]; simp] at this
            exact this
           have hsq : Hid (wq.heap.size = w8.heap.size + 1) := by show _ = _; rw [← hwq.out]; simp
           have s9 : Hid (wq.cell? ⟨w.heap.size + 1, 1, none⟩ = some (.int .i64 (M : Int))) := by
            show _ = _
            rw [← hwq.out]
            exact ((Below.heap_below w8 _).cell (p := ⟨w.heap.size + 1, 1, none⟩) (Nat.lt_of_lt_of_le hP5l.out hk8.size)).trans s8.out
           clear ho8 hRk hRc
           refine held_only (i := 8) rfl (by kernel_rfl) (by rfl) (fun K hK => ?_)
           go_simp
           change K _ (w8.alloc (.cells #[.slice (some ⟨w.heap.size, 0, none⟩) 32 32, .slice (some ⟨w5.heap.size, 0, none⟩) 8 8, .slice (some ⟨w.heap.size + 1, 2, none⟩) 32 32] 27))
           rw [hwq.out]
           refine hK _ _ s9.out ?_
           clear hK K
           refine held_only (i := 9) rfl (by kernel_rfl) (by rfl) (fun K hK => ?_)
           refine wp_fn (R := fun v w'' => Below wq.heap.size wq w'' ∧ w''.ownsRow wq.heap.size 5 1 v 73 (cells8 t0)) (args := #[.int .i64 3, .slice (some ⟨w8.heap.size, 0, none⟩) 3 3]) _ _ rfl rfl Tryd.func93 (by kernel_rfl) (by kernel_rfl) (hT3.out.mono fun e w'' ⟨v, he, ho, hb⟩ => ⟨_, he, hb, ho⟩) ?_
           rintro v9 w9 ⟨hk9, ho9⟩
           obtain ⟨g9, c9, rfl, hc9, hr9, hg9, hg9'⟩ := txt_form ho9 (by decide)
           have s10 : Hid (w9.cell? ⟨w.heap.size + 1, 1, none⟩ = some (.int .i64 (M : Int))) := (hk9.cell (p := ⟨w.heap.size + 1, 1, none⟩) (by have := hsq.out; have := hP5l.out; have := hk8.size; show w.heap.size + 1 < _; omega)).trans s9.out
           go_simp
           refine hK _ _ s10.out ?_
           clear hK K
           refine Held.tk0 (i := 10) (v := .slice (some ⟨g9, 0, none⟩) 73 c9) rfl s10.out (fun w' hw' => by go_simp) ?_
           (intro K k; go_simp; apply k; clear k K)
           refine held_end (by kernel_rfl) ?_
           go_wp2_with fail
           have hbq8 : Below w8.heap.size w8 wq := by rw [← hwq.out]; exact Below.heap_below _ _
           have hbx : Hid (Below wB.heap.size wB w9) := hb5.out.trans ((h8a.out.trans ((hbq8.trans (hk9.mono (by have := hsq.out; omega))).mono h8a.out.size)).mono hb5.out.size)
           go_meet
           case rel => exact ⟨g9, c9, rfl, ⟨hc9, by have := hsq.out; have := h8a.out.size; have := hb5.out.size; omega, hg9'⟩, hr9, hbx.out⟩
         case rest =>
          obtain ⟨gt, ct, rfl, hgt, hq0, hb2⟩ := hcut
          obtain ⟨w2, rfl⟩ : ∃ w2 : World, w2 = wc := ⟨_, rfl⟩
          clear hr5 hx5 hP5 hb5 d0 hcnt
          obtain ⟨wa, hwa⟩ : ∃ wa, Hid (wa = w2.alloc (.cells #[.slice (some ⟨gt, 0, none⟩) n0 ct] 27)) := ⟨_, Lib.hid rfl⟩
          have hba : Hid (Below w2.heap.size w2 wa) := by show Below _ _ _; rw [hwa.out]; exact Below.heap_below _ _
          have hqa : Hid (Reads wa 1 (some ⟨gt, 0, none⟩) n0 (cells8 t0)) := hq0.out.below hba.out
          go_upto_region 34 with fail
          change Code.wp _ _ _ _ (w2.alloc (.cells #[.slice (some ⟨gt, 0, none⟩) n0 ct] 27))
          rw [← hwa.out]
          go_wp2_with (first
           | (go_at_call 40; refine (hSum.out t0 n0 hn0.out hn0b.out.2 gt ct wa hqa.out).mono ?_; rintro e w3 ⟨rfl, hk⟩; have hb3 : Hid (Below wa.heap.size wa w3) := hk; clear hk)
           | (go_at_call 39; refine (hCut.out t0 w3).mono ?_; rw [hz0.out]; rintro e w4 ⟨rfl, hk⟩; have hb4 : Hid (Below wa.heap.size wa w4) := hb3.out.trans (hk.mono hb3.out.size); clear hk hb3)
           | ((with_reducible change wpList _ _ _ ({ dst := none, op := Op.store 23 (.tmp 20) _, type := _, pos := _, after := _, guard := _ } :: _) _ _); refine wpList_store_whole0 rfl rfl 23 (.tmp 20) (.tmp 117) rfl (w4.heap.size) ((cells8 z0).toArray) rfl rfl 23 (Z32) (Blk.new w4 _ _) Fz0.out.size Fz0.out.zero Fz0.out.one ?_; intro w5 hB5 hk5; replace hB5 := Lib.hid hB5; replace hk5 := Lib.hid hk5))
          have hC0 : Hid (CAt wB w5 w4.heap.size (z0, [t0]) (.slice (some ⟨w2.heap.size, 0, none⟩) 1 1) [.slice (some ⟨gt, 0, none⟩) n0 ct]) := by
           have h4 := hb4.out
           rw [hwa.out] at h4
           have := CAt.start (q := t0) (z := z0) (gt := gt) (ct := ct) hb2.out (by rw [hn0.out]; exact hq0.out) ⟨hgt.out.2.1, hgt.out.2.2⟩ (by rw [hn0.out]; exact hgt.out.1) (by rw [hn0.out]; exact h4) hB5.out hk5.out
           rwa [hn0.out] at this
          obtain ⟨br, hbr⟩ : ∃ br, w4.heap.size = br := ⟨_, rfl⟩
          rw [hbr] at hC0 ⊢
          clear hbr hB5 hk5 hb4 hqa hba hwa hgt hq0 hb2
          go_loopw [14, 19, 21] (fun nx v u wr => ∃ (h j : Nat) (ts : List Text) (x : Text) (Av : Option Addr) (cv : Nat) (xs : List Value), nx = .int .i64 (nbits d h : Nat) ∧ v = .slice Av j cv ∧ u = .int .i64 (h : Int) ∧ Hid (j = h + 1) ∧ Hid (h ≤ 256) ∧ Hid (lead s k t0 l h = (ts, x)) ∧ Hid (CAt wB wr br (x, ts) (.slice Av j cv) xs)) (fun _ _ v _ => 256 - (intOf v).toNat)
          case atStart => exact ⟨0, 1, _, _, _, _, _, rfl, rfl, rfl, rfl, Nat.zero_le _, hlead0.out, hC0.out⟩
          case round =>
           clear hC0 hlead0
           obtain ⟨h, j, ts, x, Av, cv, xs, rfl, rfl, rfl, hj, hh, hL, hC⟩ := hrel
           have hKr : Hid (Blk wr w.heap.size 23 (cells8 k).toArray) := (hC.out.low.block _ hKB.out.lt).trans hKB.out
           have hPrr : Hid (Blk wr (w.heap.size + 1) 135 cs) := (hC.out.low.block _ hPr.out.lt).trans hPr.out
           have hxl : Hid (x.length = 32) := by
            show _ = _
            have := lead_dig s k t0 l h
            rwa [hL.out] at this
           have Fx := Lib.hid (fit (x := x) hxl.out)
           have hDr : Hid (Blk wr br 23 (cells8 x).toArray) := hC.out.dig
           have hlen : Hid (ts.length = j) := by
            show _ = _
            have := lead_len s k t0 l h
            rw [hL.out] at this
            rw [this, hj.out]
           by_cases hlt : h < 256
           ·obtain ⟨nd, hnd, hnn⟩ := nbrs_at hl.out h hlt
            have hndl := Lib.hid (hDl.out.at_ hnd)
            have Fn := Lib.hid (fit (x := nd) hndl.out)
            obtain ⟨y, hy⟩ : ∃ y, emp s h = y := ⟨_, rfl⟩
            have hyE : (emps s 257)[h]? = some y := by rw [← hy]; exact emps_at s (by omega)
            have hyl : y.length = 32 := by rw [← hy]; exact emp_len s h
            have Fy := Lib.hid (fit (x := y) hyl)
            have hsame' : Hid ((cells8 y).toArray.size = (cells8 nd).toArray.size) := Fn.out.same _ hyl
            have hyc : Hid (∀ k v, (cells8 y)[k]? = some v → wr.cell? ⟨g, h * 32 + k, none⟩ = some v) := fun k v hv => by
             obtain ⟨b', o', e, hbl, hcc⟩ := hEB.out.at_ hyE
             injection e with e
             injection e with e1 e2
             subst e1 e2
             have := (hC.out.low.cell (p := ⟨g, 0 + h * 32 + k, none⟩) hbl).trans (hcc k v hv)
             rwa [Nat.zero_add] at this
            obtain ⟨r255, hr255⟩ : ∃ r, 255 - h = r := ⟨_, rfl⟩
            have z1 : (h : Int) < 256 := by omega
            have z2 : (0 : Int) ≤ (h : Int) := by omega
            have z3 : IntKind.i64.wrap (255 - (h : Int)) = (r255 : Int) := by rw [IntWalk.i64_in _ (by omega)]; omega
            have z4 : IntKind.i64.wrap ((h : Int) + 1) = (h : Int) + 1 := IntWalk.i64_in _ (by omega)
            have z5 : (h : Int) < 257 := by omega
            have hbitc : Hid (∀ w', Calls Tryd.prog 144 #[.agg (cells8 k).toArray, .int .i64 (r255 : Int)] w' fun e w'' => e = .returned (.int .i64 (kbit k r255 : Nat)) ∧ Below w'.heap.size w' w'') := hBit.out r255 (by omega)
            obtain ⟨kv, hkv⟩ : ∃ kv, kbit k r255 = kv := ⟨_, rfl⟩
            have hkv2 : kv < 2 := by rw [← hkv]; unfold kbit; omega
            have hc1 : Hid (j + 1 ≤ maxLen) := by have := hj.out; show _ ≤ _; unfold maxLen; omega
            have hc3 : Hid ((j + 1) * 24 ≤ 140737488355328) := by have := hj.out; show _ ≤ _; omega
            rw [hkv] at hbitc
            have hqe : Hid (kv = 0 → upT k h x nd = kb 4 :: (x ++ nd)) := fun e => by unfold upT; rw [hr255, hkv, if_pos e]
            have hqo : Hid (kv = 1 → upT k h x nd = kb 4 :: (nd ++ x)) := fun e => by unfold upT; rw [hr255, hkv, if_neg (by omega)]
            have hlth : Hid (h < 256) := hlt
            have hndh := Lib.hid hnd
            have hset := Lib.hid (hSet.out h hlt)
            obtain ⟨bt, hbt⟩ : ∃ b, hbit d h = b := ⟨_, rfl⟩
            rw [hbt] at hset
            have hnle := nbits_le d h
            clear hyE hnd hlt hr255 hkv
            go_upto_if 128 with (first
             | ((with_reducible change wpList _ _ _ (⟨some 125, _, _, _, _, _⟩ :: _) _ _); refine wpList_load_part (o := ⟨some 125, _, _, _, _, _⟩) rfl 23 (.tmp 124) rfl (g) (h * 32) rfl (cells8 y) _ hyc.out Tryd.underlying23 rfl Fy.out.part ?_)
             | ((with_reducible change wpList _ _ _ ({ dst := none, op := Op.store 23 (.tmp 22) _, type := _, pos := _, after := _, guard := _ } :: _) _ _); refine wpList_store_whole0 rfl rfl 23 (.tmp 22) (.tmp 125) rfl (wr.heap.size) ((cells8 y).toArray) rfl rfl 23 (Z32) (Blk.new wr _ _) Fy.out.size Fy.out.zero Fy.out.one ?_; intro w6 hB6 hk; have hb6 := Lib.hid (kept_fresh hk); replace hB6 := Lib.hid hB6; have hP6 : Hid (Blk w6 (w.heap.size + 1) 135 cs) := (hb6.out.block _ hPrr.out.lt).trans hPrr.out; clear hk)
             | ((with_reducible change wpList _ _ _ (⟨some 126, _, _, _, _, _⟩ :: _) _ _); refine wpList_load_row (o := ⟨some 126, _, _, _, _, _⟩) rfl 135 (.tmp 5) rfl ((w.heap.size + 1)) rfl 135 (cs) (0, 0) _ hP6.out Tryd.underlying135 rfl hsz.out ?_)
             | (go_at_call 141; refine (hset.out w6).mono ?_; rintro e w7 ⟨rfl, hk⟩; have hb7 : Hid (Below wr.heap.size wr w7) := hb6.out.trans (hk.mono hb6.out.size); have hY7 : Hid (Blk w7 wr.heap.size 23 (cells8 y).toArray) := (hk.block _ hB6.out.lt).trans hB6.out; have hP7 : Hid (Blk w7 (w.heap.size + 1) 135 cs) := (hb7.out.block _ hPrr.out.lt).trans hPrr.out; clear hk hset hB6 hb6 hP6)
             )
            have hnb0 : Hid (Below wB.heap.size wB w7) := hC.out.low.trans (hb7.out.mono hC.out.low.size)
            go_cut [14] from 126 to 135 (fun v wr' => v = .int .i64 (nbits d (h + 1) : Nat) ∧ Hid (Blk wr' wr.heap.size 23 (cells8 nd).toArray) ∧ Hid (Below wr.heap.size wr wr'))
            case first =>
             cases bt with
             | false =>
              have e1 : y = nd := by
               have h1 := nbr_off (s := s) (ds := ds) hbt
               rw [hnn] at h1
               rw [← hy]
               exact (Option.some.inj h1).symm
              have e2 : nbits d (h + 1) = nbits d h := nbits_off hbt
              subst e1
              clear hbt hnn hy
              go_wp2_with fail
              go_meet
              case rel => exact ⟨by rw [e2], hY7.out, hb7.out⟩
             | true =>
              have hnlt : nbits d h < n := by
               rw [← hones.out, ← nbits_all d hdh.out]
               exact nbits_lt d hbt hlth.out
              obtain ⟨xd, hxd⟩ : ∃ xd, ds[nbits d h]? = some xd := ⟨_, List.getElem?_eq_getElem (by rw [hr.out.1]; exact hnlt)⟩
              obtain rfl := nbr_is hbt hxd hnn
              obtain ⟨b, o, rfl, hbw, hdc0⟩ := hr.out.at_ hxd
              have e2 : nbits d (h + 1) = nbits d h + 1 := nbits_on hbt
              obtain ⟨nb, hnbe⟩ : ∃ nb, Hid (nbits d h = nb) := ⟨_, Lib.hid rfl⟩
              rw [hnbe.out] at hnlt hdc0 hnle e2 ⊢
              have hwB7 : Hid (Below w.heap.size w w7) := hbwr.out.trans (hnb0.out.mono hbwr.out.size)
              have hdc7 : Hid (∀ k v, (cells8 xd)[k]? = some v → w7.cell? ⟨b, o + nb * 32 + k, none⟩ = some v) := fun k v hv => (hwB7.out.cell (p := ⟨b, o + nb * 32 + k, none⟩) hbw).trans (hdc0 k v hv)
              have c66 : w7.cell? ⟨w.heap.size + 1, 66, none⟩ = some (.slice (some ⟨b, o, none⟩) n c) := (hP7.out.cell _).trans i66.out
              have z11 : (nb : Int) < (n : Int) := by omega
              have z12 : (0 : Int) ≤ (nb : Int) := by omega
              have z13 : IntKind.i64.wrap ((nb : Int) + 1) = (nb : Int) + 1 := IntWalk.i64_in _ (by have := hlth.out; omega)
              replace e2 := Lib.hid e2
              clear hbt hnn hy hnlt hdc0 hbw hxd hnle
              go_wp2_with (first
               | ((with_reducible change wpList _ _ _ (⟨some 133, _, _, _, _, _⟩ :: _) _ _); refine wpList_load_part (o := ⟨some 133, _, _, _, _, _⟩) rfl 23 (.tmp 132) rfl (b) (o + nb * 32) rfl (cells8 xd) _ hdc7.out Tryd.underlying23 rfl Fn.out.part ?_)
               | ((with_reducible change wpList _ _ _ ({ dst := none, op := Op.store 23 (.tmp 22) _, type := _, pos := _, after := _, guard := _ } :: _) _ _); refine wpList_store_whole0 rfl rfl 23 (.tmp 22) (.tmp 133) rfl (wr.heap.size) ((cells8 xd).toArray) rfl rfl 23 ((cells8 y).toArray) hY7.out Fn.out.size hsame'.out Fn.out.one ?_; intro w8 q8 k8))
              go_meet
              case rel => exact ⟨by rw [e2.out]; go_num, q8, hb7.out.trans (Kept.below_of k8 (Nat.le_refl _) hb7.out.size)⟩
            case rest =>
             obtain ⟨rfl, hNx, h6x⟩ := hcut
             obtain ⟨wx, rfl⟩ : ∃ wx : World, wx = wc := ⟨_, rfl⟩
             have hKx : Hid (Blk wx w.heap.size 23 (cells8 k).toArray) := (h6x.out.block _ hKr.out.lt).trans hKr.out
             clear hnb0 hb7 hY7 hP7 hbt hnn hy hnle
             by_cases hkv0 : kv = 0
             ·subst hkv0
              have hq := hqe.out rfl
              clear hqo hqe hkv2
              go_wp2_with (first
               | ((with_reducible change wpList _ _ _ (⟨some 136, _, _, _, _, _⟩ :: _) _ _); refine wpList_load_row (o := ⟨some 136, _, _, _, _, _⟩) rfl 23 (.tmp 4) rfl (w.heap.size) rfl 23 ((cells8 k).toArray) (0, 0) _ hKx.out Tryd.underlying23 rfl Fk.out.size ?_)
               | (go_at_call 144; refine (hbitc.out wx).mono ?_; rintro e w8 ⟨rfl, hk⟩; have hk8 : Hid (Below wx.heap.size wx w8) := hk; clear hk hbitc))
              obtain ⟨wy, rfl⟩ : ∃ wy : World, wy = w8 := ⟨_, rfl⟩
              have h6y : Hid (Below wr.heap.size wr wy) := h6x.out.trans (hk8.out.mono h6x.out.size)
              have hNy : Hid (Blk wy wr.heap.size 23 (cells8 nd).toArray) := (hk8.out.block _ hNx.out.lt).trans hNx.out
              have hXy : Hid (Blk wy br 23 (cells8 x).toArray) := (h6y.out.block _ hDr.out.lt).trans hDr.out
              clear hk8 h6x hNx hKx
              obtain ⟨q, hqq⟩ : ∃ q : Text, Hid (kb 4 :: (x ++ nd) = q) := ⟨_, Lib.hid rfl⟩
              have hql : Hid (q.length = 65) := by show _ = _; rw [← hqq.out]; simp [hxl.out, hndl.out]
              rw [hqq.out] at hq
              have hLs : Hid (lead s k t0 l (h + 1) = (ts ++ [q], sumOf s q)) := lead_succ s k t0 l h hL.out hndh.out hq
              obtain ⟨wq, hwq⟩ : ∃ wq, Hid (tW wy br wr.heap.size = wq) := ⟨_, Lib.hid rfl⟩
              have hbq : Hid (Below wy.heap.size wy wq) := by show Below _ _ _; rw [← hwq.out]; exact tW_below _ _ _
              have hsq : Hid (wq.heap.size = wy.heap.size + 1) := by show _ = _; rw [← hwq.out]; exact tW_size _ _ _
              have hT4 : Hid (Calls Tryd.prog 93 #[.int .i64 4, .slice (some ⟨wy.heap.size, 0, none⟩) 2 2] wq fun e w' => ∃ v, e = .returned v ∧ w'.ownsRow wq.heap.size 5 1 v 65 (cells8 q) ∧ Below wq.heap.size wq w') := by
               have hp := tW_pieces hXy.out hNy.out hxl.out hndl.out
               rw [hwq.out] at hp
               have := refText_any [x, nd] 2 rfl (some ⟨wy.heap.size, 0, none⟩) 2 4 wq (by simp [hxl.out, hndl.out]) (by decide) hp
               rw [show 1 + [x, nd].flatten.length = 65 by simp [hxl.out, hndl.out], show kb 4 :: [x, nd].flatten = q by rw [← hqq.out]; simp] at this
               exact this
              obtain ⟨zq, hzq⟩ : ∃ zq, Hid (sumOf s q = zq) := ⟨_, Lib.hid rfl⟩
              have hzql : Hid (zq.length = 32) := by show _ = _; rw [← hzq.out]; exact sumOf_len _ _
              have Fq := Lib.hid (fit (x := zq) hzql.out)
              have hsame : Hid ((cells8 x).toArray.size = (cells8 zq).toArray.size) := Fq.out.same _ hxl.out
              rw [hzq.out] at hLs
              clear hq
              refine held_start (fun _ => True) 5 rfl (by kernel_rfl) ?_
              refine Held.tk0 (i := 0) (v := .slice (some ⟨br, 0, none⟩) 32 32) rfl trivial (fun w' hw' => by go_simp) ?_
              (intro K k; go_simp; apply k; clear k K)
              refine Held.tk0 (i := 1) (v := .slice (some ⟨wr.heap.size, 0, none⟩) 32 32) rfl trivial (fun w' hw' => by go_simp) ?_
              (intro K k; go_simp; apply k; clear k K)
              refine held_only (i := 2) rfl (by kernel_rfl) (by rfl) (fun K hK => ?_)
              go_simp
              refine hK _ _ trivial ?_
              clear hK K
              change wpAnyH _ _ _ _ _ _ _ _ (tW wy br wr.heap.size)
              rw [hwq.out]
              refine held_only (i := 3) rfl (by kernel_rfl) (by rfl) (fun K hK => ?_)
              refine wp_fn (R := fun v w'' => Below wq.heap.size wq w'' ∧ w''.ownsRow wq.heap.size 5 1 v 65 (cells8 q)) (args := #[.int .i64 4, .slice (some ⟨wy.heap.size, 0, none⟩) 2 2]) _ _ rfl rfl Tryd.func93 (by kernel_rfl) (by kernel_rfl) (hT4.out.mono fun e w'' ⟨v, he, ho, hb⟩ => ⟨_, he, hb, ho⟩) ?_
              rintro v7 w7 ⟨hk7, ho7⟩
              obtain ⟨gq, cq, rfl, hcq, hrq, hgq, hgq'⟩ := txt_form ho7 (by decide)
              go_simp
              refine hK _ _ trivial ?_
              clear hK K
              refine Held.tk0 (i := 4) (v := .slice (some ⟨gq, 0, none⟩) 65 cq) rfl trivial (fun w' hw' => by go_simp) ?_
              (intro K k; go_simp; apply k; clear k K)
              refine held_end (by kernel_rfl) ?_
              have hb7 : Hid (Below wy.heap.size wy w7) := hbq.out.trans (hk7.mono (by have := hsq.out; omega))
              have hgqh : Hid (wy.heap.size ≤ gq ∧ gq < w7.heap.size ∧ 65 ≤ cq) := ⟨by have := hsq.out; omega, hgq', hcq⟩
              replace hrq := Lib.hid hrq
              have hOw : Hid ((w7.alloc (.cells #[.slice (some ⟨gq, 0, none⟩) 65 cq] 27)).ownsRow wB.heap.size 27 1 (.slice Av j cv) j xs) := by
               have := hC.out.own
               rw [hlen.out] at this
               exact TreeRefRoot.own_below (TreeRefRoot.own_below (TreeRefRoot.own_below this h6y.out) hb7.out) (Below.heap_below w7 _)
              have hNw : Hid (Reads (w7.alloc (.cells #[.slice (some ⟨gq, 0, none⟩) 65 cq] 27)) 1 (some ⟨w7.heap.size, 0, none⟩) 1 [.slice (some ⟨gq, 0, none⟩) 65 cq]) := Blk.reads (Blk.new w7 27 #[.slice (some ⟨gq, 0, none⟩) 65 cq]) 0 _ rfl (fun j u hu => by rw [Nat.zero_add]; simpa using hu)
              have hbw7 : Hid (Below wB.heap.size wB (w7.alloc (.cells #[.slice (some ⟨gq, 0, none⟩) 65 cq] 27))) := by
               have h1 := hC.out.low.trans (h6y.out.mono hC.out.low.size)
               have h2 := h1.trans (hb7.out.mono h1.size)
               exact h2.alloc h2.size _
              clear hk7 ho7 hcq hgq hgq' hT4
              go_upto_region 47 with ((with_reducible change wpList _ _ _ (⟨some 152, _, _, _, _, _⟩ :: _) _ _); refine wpList_append_src _ (o := ⟨some 152, _, _, _, _, _⟩) rfl (.tmp 149) (.tmp 151) 24 rfl wB.heap.size 27 i0 (.slice none 0 0) 1 24 Tryd.underlying24 ii iz0 iz1 iz2 rfl (by decide) (.slice Av j cv) j xs rfl hOw.out (some ⟨w7.heap.size, 0, none⟩) 1 1 [.slice (some ⟨gq, 0, none⟩) 65 cq] rfl hNw.out (fun e => by cases e) (one_one rfl) hc1.out hc3.out hbw7.out.size ?_; intro v8 w8 hG; obtain ⟨A8, c8, rfl, -⟩ := Append.Own.reads hG.own; have hb8 : Hid (Below wB.heap.size wB w8) := hG.below hbw7.out hbw7.out.size (fun k e => (hOw.out.lt k e).1); replace hG := Lib.hid hG)
              have hq8 : Hid (Reads w8 1 (some ⟨gq, 0, none⟩) 65 (cells8 q)) := (hrq.out.alloc (.cells #[.slice (some ⟨gq, 0, none⟩) 65 cq] 27)).keep hG.out.grow.size (fun b o e hb => by
               injection e with e
               injection e with e1 e2
               subst e1
               exact hG.out.grow.block _ hb (fun e => by have := (hC.out.own.lt _ e.symm).2; have := hgqh.out; have := h6y.out.size; omega))
              have hX7 : Hid (Blk w7 br 23 (cells8 x).toArray) := (hb7.out.block _ hXy.out.lt).trans hXy.out
              have hX8 : Hid (Blk w8 br 23 (cells8 x).toArray) := Blk.grown (hX7.out.alloc _) hG.out.grow (fun e => hC.out.ne e.symm)
              go_wp2_with (first
               | (go_at_call 40; refine (hSum.out q 65 hql.out (by omega) gq cq w8 hq8.out).mono ?_; rintro e w9 ⟨rfl, hk⟩; have hb9 : Hid (Below w8.heap.size w8 w9) := hk; clear hk)
               | (go_at_call 39; refine (hCut.out q w9).mono ?_; rw [hzq.out]; rintro e w10 ⟨rfl, hk⟩; have hb10 : Hid (Below w8.heap.size w8 w10) := hb9.out.trans (hk.mono hb9.out.size); have hX10 : Hid (Blk w10 br 23 (cells8 x).toArray) := (hb10.out.block _ hX8.out.lt).trans hX8.out; clear hk hb9)
               | ((with_reducible change wpList _ _ _ ({ dst := none, op := Op.store 23 (.tmp 20) _, type := _, pos := _, after := _, guard := _ } :: _) _ _); refine wpList_store_whole0 rfl rfl 23 (.tmp 20) (.tmp 156) rfl br ((cells8 zq).toArray) rfl rfl 23 (cells8 x).toArray hX10.out Fq.out.size hsame.out Fq.out.one ?_; intro w11 q11 k11))
              go_roundw
              case rel => exact ⟨h + 1, j + 1, _, zq, A8, c8, _, rfl, rfl, by go_num, (show j + 1 = h + 1 + 1 by have := hj.out; omega), hlth.out, hLs.out, by
               have hh := hC.out.step (q := q) (gt := gq) (ct := cq) (st' := (zq, ts ++ [q])) hlen.out h6y.out hb7.out (by rw [hql.out]; exact hrq.out) ⟨hgqh.out.1, hgqh.out.2.1⟩ (by rw [hql.out]; exact hgqh.out.2.2) (by rw [hql.out]; exact hG.out) hb10.out q11 k11 rfl
               exact hh⟩
              case measure => (have := hlth.out; simp [intOf]; omega)
             ·obtain rfl : kv = 1 := by omega
              have hq := hqo.out rfl
              clear hqo hqe hkv2 hkv0
              go_wp2_with (first
               | ((with_reducible change wpList _ _ _ (⟨some 136, _, _, _, _, _⟩ :: _) _ _); refine wpList_load_row (o := ⟨some 136, _, _, _, _, _⟩) rfl 23 (.tmp 4) rfl (w.heap.size) rfl 23 ((cells8 k).toArray) (0, 0) _ hKx.out Tryd.underlying23 rfl Fk.out.size ?_)
               | (go_at_call 144; refine (hbitc.out wx).mono ?_; rintro e w8 ⟨rfl, hk⟩; have hk8 : Hid (Below wx.heap.size wx w8) := hk; clear hk hbitc))
              obtain ⟨wy, rfl⟩ : ∃ wy : World, wy = w8 := ⟨_, rfl⟩
              have h6y : Hid (Below wr.heap.size wr wy) := h6x.out.trans (hk8.out.mono h6x.out.size)
              have hNy : Hid (Blk wy wr.heap.size 23 (cells8 nd).toArray) := (hk8.out.block _ hNx.out.lt).trans hNx.out
              have hXy : Hid (Blk wy br 23 (cells8 x).toArray) := (h6y.out.block _ hDr.out.lt).trans hDr.out
              clear hk8 h6x hNx hKx
              obtain ⟨q, hqq⟩ : ∃ q : Text, Hid (kb 4 :: (nd ++ x) = q) := ⟨_, Lib.hid rfl⟩
              have hql : Hid (q.length = 65) := by show _ = _; rw [← hqq.out]; simp [hxl.out, hndl.out]
              rw [hqq.out] at hq
              have hLs : Hid (lead s k t0 l (h + 1) = (ts ++ [q], sumOf s q)) := lead_succ s k t0 l h hL.out hndh.out hq
              obtain ⟨wq, hwq⟩ : ∃ wq, Hid (tW wy wr.heap.size br = wq) := ⟨_, Lib.hid rfl⟩
              have hbq : Hid (Below wy.heap.size wy wq) := by show Below _ _ _; rw [← hwq.out]; exact tW_below _ _ _
              have hsq : Hid (wq.heap.size = wy.heap.size + 1) := by show _ = _; rw [← hwq.out]; exact tW_size _ _ _
              have hT4 : Hid (Calls Tryd.prog 93 #[.int .i64 4, .slice (some ⟨wy.heap.size, 0, none⟩) 2 2] wq fun e w' => ∃ v, e = .returned v ∧ w'.ownsRow wq.heap.size 5 1 v 65 (cells8 q) ∧ Below wq.heap.size wq w') := by
               have hp := tW_pieces hNy.out hXy.out hndl.out hxl.out
               rw [hwq.out] at hp
               have := refText_any [nd, x] 2 rfl (some ⟨wy.heap.size, 0, none⟩) 2 4 wq (by simp [hxl.out, hndl.out]) (by decide) hp
               rw [show 1 + [nd, x].flatten.length = 65 by simp [hxl.out, hndl.out], show kb 4 :: [nd, x].flatten = q by rw [← hqq.out]; simp] at this
               exact this
              obtain ⟨zq, hzq⟩ : ∃ zq, Hid (sumOf s q = zq) := ⟨_, Lib.hid rfl⟩
              have hzql : Hid (zq.length = 32) := by show _ = _; rw [← hzq.out]; exact sumOf_len _ _
              have Fq := Lib.hid (fit (x := zq) hzql.out)
              have hsame : Hid ((cells8 x).toArray.size = (cells8 zq).toArray.size) := Fq.out.same _ hxl.out
              rw [hzq.out] at hLs
              clear hq
              refine held_start (fun _ => True) 5 rfl (by kernel_rfl) ?_
              refine Held.tk0 (i := 0) (v := .slice (some ⟨wr.heap.size, 0, none⟩) 32 32) rfl trivial (fun w' hw' => by go_simp) ?_
              (intro K k; go_simp; apply k; clear k K)
              refine Held.tk0 (i := 1) (v := .slice (some ⟨br, 0, none⟩) 32 32) rfl trivial (fun w' hw' => by go_simp) ?_
              (intro K k; go_simp; apply k; clear k K)
              refine held_only (i := 2) rfl (by kernel_rfl) (by rfl) (fun K hK => ?_)
              go_simp
              refine hK _ _ trivial ?_
              clear hK K
              change wpAnyH _ _ _ _ _ _ _ _ (tW wy wr.heap.size br)
              rw [hwq.out]
              refine held_only (i := 3) rfl (by kernel_rfl) (by rfl) (fun K hK => ?_)
              refine wp_fn (R := fun v w'' => Below wq.heap.size wq w'' ∧ w''.ownsRow wq.heap.size 5 1 v 65 (cells8 q)) (args := #[.int .i64 4, .slice (some ⟨wy.heap.size, 0, none⟩) 2 2]) _ _ rfl rfl Tryd.func93 (by kernel_rfl) (by kernel_rfl) (hT4.out.mono fun e w'' ⟨v, he, ho, hb⟩ => ⟨_, he, hb, ho⟩) ?_
              rintro v7 w7 ⟨hk7, ho7⟩
              obtain ⟨gq, cq, rfl, hcq, hrq, hgq, hgq'⟩ := txt_form ho7 (by decide)
              go_simp
              refine hK _ _ trivial ?_
              clear hK K
              refine Held.tk0 (i := 4) (v := .slice (some ⟨gq, 0, none⟩) 65 cq) rfl trivial (fun w' hw' => by go_simp) ?_
              (intro K k; go_simp; apply k; clear k K)
              refine held_end (by kernel_rfl) ?_
              have hb7 : Hid (Below wy.heap.size wy w7) := hbq.out.trans (hk7.mono (by have := hsq.out; omega))
              have hgqh : Hid (wy.heap.size ≤ gq ∧ gq < w7.heap.size ∧ 65 ≤ cq) := ⟨by have := hsq.out; omega, hgq', hcq⟩
              replace hrq := Lib.hid hrq
              have hOw : Hid ((w7.alloc (.cells #[.slice (some ⟨gq, 0, none⟩) 65 cq] 27)).ownsRow wB.heap.size 27 1 (.slice Av j cv) j xs) := by
               have := hC.out.own
               rw [hlen.out] at this
               exact TreeRefRoot.own_below (TreeRefRoot.own_below (TreeRefRoot.own_below this h6y.out) hb7.out) (Below.heap_below w7 _)
              have hNw : Hid (Reads (w7.alloc (.cells #[.slice (some ⟨gq, 0, none⟩) 65 cq] 27)) 1 (some ⟨w7.heap.size, 0, none⟩) 1 [.slice (some ⟨gq, 0, none⟩) 65 cq]) := Blk.reads (Blk.new w7 27 #[.slice (some ⟨gq, 0, none⟩) 65 cq]) 0 _ rfl (fun j u hu => by rw [Nat.zero_add]; simpa using hu)
              have hbw7 : Hid (Below wB.heap.size wB (w7.alloc (.cells #[.slice (some ⟨gq, 0, none⟩) 65 cq] 27))) := by
               have h1 := hC.out.low.trans (h6y.out.mono hC.out.low.size)
               have h2 := h1.trans (hb7.out.mono h1.size)
               exact h2.alloc h2.size _
              clear hk7 ho7 hcq hgq hgq' hT4
              go_upto_region 47 with ((with_reducible change wpList _ _ _ (⟨some 152, _, _, _, _, _⟩ :: _) _ _); refine wpList_append_src _ (o := ⟨some 152, _, _, _, _, _⟩) rfl (.tmp 149) (.tmp 151) 24 rfl wB.heap.size 27 i0 (.slice none 0 0) 1 24 Tryd.underlying24 ii iz0 iz1 iz2 rfl (by decide) (.slice Av j cv) j xs rfl hOw.out (some ⟨w7.heap.size, 0, none⟩) 1 1 [.slice (some ⟨gq, 0, none⟩) 65 cq] rfl hNw.out (fun e => by cases e) (one_one rfl) hc1.out hc3.out hbw7.out.size ?_; intro v8 w8 hG; obtain ⟨A8, c8, rfl, -⟩ := Append.Own.reads hG.own; have hb8 : Hid (Below wB.heap.size wB w8) := hG.below hbw7.out hbw7.out.size (fun k e => (hOw.out.lt k e).1); replace hG := Lib.hid hG)
              have hq8 : Hid (Reads w8 1 (some ⟨gq, 0, none⟩) 65 (cells8 q)) := (hrq.out.alloc (.cells #[.slice (some ⟨gq, 0, none⟩) 65 cq] 27)).keep hG.out.grow.size (fun b o e hb => by
               injection e with e
               injection e with e1 e2
               subst e1
               exact hG.out.grow.block _ hb (fun e => by have := (hC.out.own.lt _ e.symm).2; have := hgqh.out; have := h6y.out.size; omega))
              have hX7 : Hid (Blk w7 br 23 (cells8 x).toArray) := (hb7.out.block _ hXy.out.lt).trans hXy.out
              have hX8 : Hid (Blk w8 br 23 (cells8 x).toArray) := Blk.grown (hX7.out.alloc _) hG.out.grow (fun e => hC.out.ne e.symm)
              go_wp2_with (first
               | (go_at_call 40; refine (hSum.out q 65 hql.out (by omega) gq cq w8 hq8.out).mono ?_; rintro e w9 ⟨rfl, hk⟩; have hb9 : Hid (Below w8.heap.size w8 w9) := hk; clear hk)
               | (go_at_call 39; refine (hCut.out q w9).mono ?_; rw [hzq.out]; rintro e w10 ⟨rfl, hk⟩; have hb10 : Hid (Below w8.heap.size w8 w10) := hb9.out.trans (hk.mono hb9.out.size); have hX10 : Hid (Blk w10 br 23 (cells8 x).toArray) := (hb10.out.block _ hX8.out.lt).trans hX8.out; clear hk hb9)
               | ((with_reducible change wpList _ _ _ ({ dst := none, op := Op.store 23 (.tmp 20) _, type := _, pos := _, after := _, guard := _ } :: _) _ _); refine wpList_store_whole0 rfl rfl 23 (.tmp 20) (.tmp 156) rfl br ((cells8 zq).toArray) rfl rfl 23 (cells8 x).toArray hX10.out Fq.out.size hsame.out Fq.out.one ?_; intro w11 q11 k11))
              go_roundw
              case rel => exact ⟨h + 1, j + 1, _, zq, A8, c8, _, rfl, rfl, by go_num, (show j + 1 = h + 1 + 1 by have := hj.out; omega), hlth.out, hLs.out, by
               have hh := hC.out.step (q := q) (gt := gq) (ct := cq) (st' := (zq, ts ++ [q])) hlen.out h6y.out hb7.out (by rw [hql.out]; exact hrq.out) ⟨hgqh.out.1, hgqh.out.2.1⟩ (by rw [hql.out]; exact hgqh.out.2.2) (by rw [hql.out]; exact hG.out) hb10.out q11 k11 rfl
               exact hh⟩
              case measure => (have := hlth.out; simp [intOf]; omega)
           ·obtain rfl : h = 256 := by have := hh.out; omega
            have hRr : Hid (Blk wr (w.heap.size + 2) 23 Z32) := (hC.out.low.block _ hRB.out.lt).trans hRB.out
            have hbrR : Hid (br ≠ w.heap.size + 2) := by have := hC.out.le; have := hsB.out; show _ ≠ _; omega
            clear hlt
            go_wp2_with fail
            have s0 : Hid (Blk wr.drew br 23 (cells8 x).toArray) := hDr.out
            refine held_start (fun w' => Blk w' br 23 (cells8 x).toArray) 5 rfl (by kernel_rfl) ?_
            refine Held.tk0 (i := 0) (v := .slice Av j cv) rfl s0.out (fun w' hw' => run_mv (.tmp 19) rfl w') ?_
            (intro K k; go_simp; apply k; clear k K)
            refine Held.tk0 (i := 1) (v := .agg ((cells8 x).toArray)) rfl s0.out (fun w' hw' => exec_row 23 (.tmp 20) rfl (br) rfl 23 ((cells8 x).toArray) (0, 0) _ (hw') Tryd.underlying23 rfl Fx.out.size) ?_
            (intro K k; go_simp; apply k; clear k K)
            refine Held.tk0 (i := 2) (v := .slice Av j cv) rfl s0.out (fun w' hw' => by go_simp) ?_
            (intro K k; go_simp; apply k; clear k K)
            refine held_only (i := 3) rfl (by kernel_rfl) (by rfl) (fun K hK => ?_)
            refine wp_store_whole 23 (.tmp 7) (.tmp 158) rfl (w.heap.size + 2) ((cells8 x).toArray) rfl rfl 23 Z32 (show Blk wr.drew (w.heap.size + 2) 23 Z32 from hRr.out) Fx.out.size Fx.out.zero Fx.out.one ?_
            intro w9 q9 k9
            have hX9 : Hid (Blk w9 br 23 (cells8 x).toArray) := Blk.kept s0.out k9 hbrR.out
            go_simp
            refine hK _ _ hX9.out ?_
            clear hK K
            refine Held.tk0 (i := 4) (v := .int .i64 0) rfl hX9.out (fun w' hw' => by go_simp) ?_
            (intro K k; go_simp; apply k; clear k K)
            refine held_end (by kernel_rfl) ?_
            go_wp2_with fail
            refine bodyPost_ret (results_tct rfl _ _ (w.heap.size + 2) 23 (cells8 x).toArray (0, 0) _ rfl q9 Tryd.underlying23 rfl Fx.out.size) rfl ?_
            have hk9 : Kept (· = w.heap.size + 2) wr w9 := ⟨k9.os, k9.tape, k9.output, k9.size, k9.block⟩
            obtain ⟨a1, a2⟩ := hC.out.end_ (by have := hsB.out; omega) hk9 (by have := hpos.out 256; rw [hL.out] at this; exact this)
            have hbw : Below w.heap.size w wr := hbwr.out.trans (hC.out.low.mono hbwr.out.size)
            obtain rfl : j = 257 := hj.out
            rw [hlen.out] at a1
            refine ⟨hbw.trans (Kept.below_of hk9 (by omega) hbw.size), .inr (.inr ⟨hok.out, l, _, xs, hl.out, ?_, own_low a1 hbwr.out.size, ?_⟩)⟩
            ·rw [ht0.out, hL.out]; rfl
            ·rw [ht0.out, hL.out]; exact a2
end Go.Proofs.YtmdkfhfkdcbpgaaDoorR.RefClimb
