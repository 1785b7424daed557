/-
  The program's hasher, walked: Sum.
-/
import Derived.Test.YtngieimjlkpkaaaDoorHash
namespace Go.Proofs.YtngieimjlkpkaaaDoor.HashSum
open Go Go.RowKit Go.Proofs.YtngieimjlkpkaaaDoor Go.Proofs.YtngieimjlkpkaaaDoor.Mem Go.Proofs.YtngieimjlkpkaaaDoor.Sha Go.Proofs.YtngieimjlkpkaaaDoor.ShaWalk Go.Proofs.YtngieimjlkpkaaaDoor.Bytes Go.Proofs.YtngieimjlkpkaaaDoor.HashMem Go.Proofs.YtngieimjlkpkaaaDoor.Hash

/-- How many bytes the program lays behind a text, the length's eight aside. -/
def pads (n : Nat) : Nat := (119 - n % 64) % 64 + 1
theorem pads_ok (n : Nat) : 1 ≤ pads n ∧ pads n ≤ 64 ∧ (n + pads n) % 64 = 56 := by unfold pads; omega
theorem pads_not (n k : Nat) (h1 : 1 ≤ k) (h2 : k < pads n) : (n % 64 + k) % 64 ≠ 56 := by unfold pads at h2; omega
theorem pads_yes (n : Nat) : (n % 64 + pads n) % 64 = 56 := by unfold pads; omega
theorem write_k (l q : Text) (k : Nat) (hk : q.length = k) (g : Nat) (A : Option Addr) (c : Nat) (w : World) (hB : Base w) (hg2 : g ≠ 2) (hh : Hh w g l) (hlen : l.length + k < 2305843009213693952)
    (hr : Reads w 1 A k (cells8 q)) (hA : 0 < k → Off A g) (hc : k ≤ c) :
    Calls Tryd.prog 72 #[.pointer (some ⟨g, 0, none⟩), .slice A k c] w fun e w' => e = .returned (.tuple #[]) ∧ Hh w' g (l ++ q) ∧ Kept (· = g) w w' := by
  subst hk
  exact write_any l q g A c w hB hg2 hh hlen hr hA hc
theorem size115 : (Tryd.prog.info? 115).map (·.size) = some 73 := by kernel_rfl
theorem size112 : (Tryd.prog.info? 112).map (·.size) = some 8 := by kernel_rfl

/-- The end's cells behind i bytes of the length. -/
def endTab (n K i j : Nat) : Value := .int .u8 (if j = 0 then 128 else if K ≤ j ∧ j < K + i then b8 (lenByte n (56 - 8 * (j - K))) else 0)
theorem endTab_succ (n K i j : Nat) (hK : 1 ≤ K) : endTab n K (i + 1) j = if j = K + i then .int .u8 (b8 (lenByte n (56 - 8 * i))) else endTab n K i j := by
  unfold endTab
  by_cases h : j = K + i
  · subst h
    rw [if_pos rfl, if_neg (by omega), if_pos (by omega)]
    congr 4
    omega
  · rw [if_neg h]
    by_cases h0 : j = 0
    · rw [if_pos h0, if_pos h0]
    · rw [if_neg h0, if_neg h0]
      by_cases h1 : K ≤ j ∧ j < K + i
      · rw [if_pos h1, if_pos (by omega)]
      · rw [if_neg h1, if_neg (by omega)]
theorem b8_len (n s : Nat) (h : 8 * n < 18446744073709551616) : (8 * (n : Int)) / 2 ^ s % 256 = b8 (lenByte n s) := by
  unfold b8 lenByte
  rw [BitVec.toNat_ofNat, Nat.mod_eq_of_lt h]
  simp
theorem endTab_zero (n K j : Nat) (Z : Array Value) (hZ : Z = Array.replicate 128 (.int .u8 0)) (hj : j < 128) : (Z.setIfInBounds 0 (.int .u8 128))[j]? = some (endTab n K 0 j) := by
  subst hZ
  unfold endTab
  rw [Array.getElem?_setIfInBounds]
  by_cases h : j = 0
  · subst h
    simp
  · rw [if_neg (by omega), if_neg h, if_neg (by omega), Array.getElem?_replicate, if_pos hj]
theorem endTab_reads {n K j : Nat} (h1 : 1 ≤ K) {v : Value} (hv : (cells8 (endOf n K))[j]? = some v) : endTab n K 8 j = v := by
  have hj : j < K + 8 := by
    have := (List.getElem?_eq_some_iff.1 hv).1
    rw [cells8_len, endOf_len _ _ h1] at this
    exact this
  rw [cells8_at _ _ (by rw [endOf_len _ _ h1]; exact hj)] at hv
  obtain rfl := Option.some.inj hv
  unfold endTab cell8
  congr 1
  unfold endOf
  by_cases h0 : j = 0
  · subst h0
    rw [if_pos rfl]
    simp [List.getD, b8]
  · rw [if_neg h0]
    by_cases h2 : K ≤ j ∧ j < K + 8
    · rw [if_pos h2, getD_right _ _ _ (by simp; omega)]
      simp only [List.length_append, List.length_singleton, List.length_replicate]
      simp only [List.getD, List.getElem?_map]
      rw [List.getElem?_range (by omega)]
      simp only [Option.map_some, Option.getD_some]
      congr 2
      omega
    · rw [if_neg h2, getD_left _ _ _ (by simp; omega), getD_right _ _ _ (by simp; omega)]
      simp only [List.getD, List.getElem?_replicate, List.length_singleton]
      rw [if_pos (by omega)]
      rfl
/-- The sum's cells behind t bytes. -/
def outTab (S : St) (t j : Nat) : Value := .int .u8 (if j < t then b8 (Sha.byteOf (S.get (j / 4)) (24 - 8 * (j % 4))) else 0)
theorem outTab_succ (S : St) (i j x : Nat) (hj : j < 4) : outTab S (4 * i + (j + 1)) x = if x = 4 * i + j then .int .u8 (b8 (Sha.byteOf (S.get i) (24 - 8 * j))) else outTab S (4 * i + j) x := by
  unfold outTab
  by_cases h : x = 4 * i + j
  · subst h
    rw [if_pos rfl, if_pos (by omega)]
    have e1 : (4 * i + j) / 4 = i := by omega
    have e2 : (4 * i + j) % 4 = j := by omega
    rw [e1, e2]
  · rw [if_neg h]
    by_cases h1 : x < 4 * i + j
    · rw [if_pos h1, if_pos (by omega)]
    · rw [if_neg h1, if_neg (by omega)]
theorem outTab_all (l : Text) (cs : Array Value) (hs : cs.size = 32) (hc : ∀ j, j < 32 → cs[j]? = some (outTab (fold (padded l) (whole l.length / 64)) 32 j)) : cs = (cells8 (sum l)).toArray := by
  apply Array.ext_getElem?
  intro j
  by_cases hj : j < 32
  · rw [hc j hj, List.getElem?_toArray, cells8_at _ _ (by rw [sum_len]; exact hj)]
    unfold outTab sum bytesOf cell8
    rw [if_pos hj]
    simp only [List.getD, List.getElem?_map]
    rw [List.getElem?_range hj]
    rfl
  · rw [Array.getElem?_eq_none (by omega), List.getElem?_toArray, List.getElem?_eq_none (by rw [cells8_len, sum_len]; omega)]
theorem outTab_zero (S : St) (j : Nat) (hj : j < 32) : Z32[j]? = some (outTab S 0 j) := by
  have e : Z32 = Array.replicate 32 (.int .u8 0) := rfl
  rw [e, Array.getElem?_replicate, if_pos hj]
  unfold outTab
  rw [if_neg (by omega)]
theorem padded_len (l : Text) : (padded l).length = whole l.length := by simp [padded]

/-- A state as the values of its eight cells. -/
def stVals (S : St) : List Value := (List.range 8).map fun j => .int .u32 (u (S.get j))
theorem stVals_len (S : St) : (stVals S).length = 8 := by simp [stVals]
theorem stVals_at (S : St) (j : Nat) (hj : j < 8) : (stVals S)[j]? = some (.int .u32 (u (S.get j))) := by
  unfold stVals
  rw [List.getElem?_map, List.getElem?_range hj]
  rfl
theorem stCells {w : World} {g k n : Nat} {S : St} {f : Nat → BitVec 8} {cs : Array Value} (h : HC w g S k f n cs) : ∀ j v, (stVals S)[j]? = some v → w.cell? ⟨g, 0 + j, none⟩ = some v := by
  intro j v hv
  have hj : j < 8 := by
    have := (List.getElem?_eq_some_iff.1 hv).1
    rwa [stVals_len] at this
  rw [Nat.zero_add, h.blk.cell j, h.st j hj, ← stVals_at S j hj, hv]
theorem sumStart {w w1 : World} {g k n : Nat} {s : St} {f : Nat → BitVec 8} {cs : Array Value} (hC : HC w g s k f n cs) {ZA old : Array Value} {tA : TypeId}
    (hW : ((w.alloc (.cells ZA tA)).alloc (.cells old 115)).setRow (w.heap.size + 1) cs = w1) :
    HC w1 (w.heap.size + 1) s k f n cs ∧ Blk w1 w.heap.size tA ZA ∧ Below w.heap.size w w1 ∧ w1.heap.size = w.heap.size + 2 := by
  subst hW
  refine ⟨⟨setRow_heap _ _ _ _ _ _ (heap_alloc2_new w _ _), hC.size, hC.one, hC.st, hC.buf, hC.cnt⟩, ?_, ?_, by simp⟩
  · unfold Blk
    rw [setRow_other _ _ _ _ (by omega)]
    exact heap_alloc2_old w _ _
  · exact below_setRow (((Below.refl _ w).alloc (Nat.le_refl _) _).alloc (by simp) _) (by omega) _

set_option maxRecDepth 100000 in
set_option maxHeartbeats 600000 in
theorem sum_any (l : Text) (g : Nat) (w : World) (hB : Base w) (hh : Hh w g l) (hlen : l.length < 288230376151711744) :
    Calls Tryd.prog 74 #[.pointer (some ⟨g, 0, none⟩)] w fun e w' => e = .returned (.agg (cells8 (sum l)).toArray) ∧ Below w.heap.size w w' := by
  obtain ⟨cs, hC⟩ := hh
  obtain ⟨n, hn⟩ : ∃ n, Hid (n = l.length) := ⟨_, rfl⟩
  replace hC := Lib.hid hC
  have hg : Hid (g < w.heap.size) := hC.out.blk.lt
  have g72 : Hid (w.cell? ⟨g, 72, none⟩ = some (.int .u64 (n : Int))) := by show _ = _; rw [hn.out]; exact (hC.out.blk.cell 72).trans hC.out.cnt
  replace hB := Lib.hid hB
  replace hlen : Hid (n < 288230376151711744) := by show _ < _; rw [hn.out]; exact hlen
  have qw : IntKind.u64.wrap (8 * (n : Int)) = 8 * (n : Int) := by have := hlen.out; exact u64_in _ (by omega) (by omega)
  have sz : Hid ((Tryd.prog.info? 115).map (·.size) = some cs.size) := size115.trans (congrArg some hC.out.size.symm)
  have oz : Hid (cs.all (fun v => v.oneCell') = true) := Array.all_eq_true.2 fun i hi => hC.out.one i _ (Array.getElem?_eq_getElem hi)
  go_enter Tryd.func74, Tryd.ntmps74
  go_wp2_with (first | ((with_reducible change wpList _ _ _ ({ dst := some 14, op := _, type := _, pos := _, after := _, guard := _ } :: _) _ _); refine wpList_load_row (o := ⟨some 14, _, _, _, _, _⟩) rfl 115 (.tmp 13) rfl g rfl 115 cs (0, 0) _ (hC.out.blk.alloc _) Tryd.underlying115 rfl sz.out ?_) | ((with_reducible change wpList _ _ _ ({ dst := none, op := Op.store 115 _ _, type := _, pos := _, after := _, guard := _ } :: _) _ _); refine wpList_store_row (o := ⟨none, _, _, _, _, _⟩) rfl 115 (.tmp 3) (.tmp 14) rfl (w.heap.size + 1) cs rfl rfl 115 _ (heap_alloc2_new w _ _) sz.out (Eq.trans (by kernel_rfl) hC.out.size.symm) oz.out ?_; generalize hW : World.setRow _ (w.heap.size + 1) cs = w1; obtain ⟨hC1, hr1, hb1, hz1⟩ := sumStart hC.out hW; replace hC1 := Lib.hid hC1; replace hr1 := Lib.hid hr1; replace hb1 := Lib.hid hb1; replace hz1 := Lib.hid hz1; have c72 : w1.cell? ⟨w.heap.size + 1, 72, none⟩ = some (.int .u64 (n : Int)) := (by rw [hn.out]; exact (hC1.out.blk.cell 72).trans hC1.out.cnt); clear hW))
  obtain ⟨E, hE⟩ : ∃ E, Hid (E = w1.heap.size) := ⟨_, rfl⟩
  obtain ⟨K, hK⟩ : ∃ K, Hid (K = pads n) := ⟨_, rfl⟩
  have hK1 : Hid (1 ≤ K ∧ K ≤ 64 ∧ (n + K) % 64 = 56) := by show _ ∧ _; rw [hK.out]; exact pads_ok n
  obtain ⟨w2, hw2, ht2⟩ : ∃ w2, Hid (w2 = w1.alloc (Obj.cells (Tryd.zeroCells116.setIfInBounds 0 (Value.int IntKind.u8 128)) 116)) ∧ Hid (Tab w2 E 116 128 (endTab n K 0)) :=
    ⟨_, rfl, by show Tab _ _ _ _ _; rw [hE.out]; exact Tab.new w1 _ _ 128 _ (by kernel_rfl) (fun j hj => endTab_zero n K j _ (by kernel_rfl) hj)⟩
  have hC2 : Hid (HC w2 (w.heap.size + 1) (fold l (l.length / 64)) (l.length % 64) (blockF l (l.length / 64)) l.length cs) := by show HC _ _ _ _ _ _ _; rw [hw2.out]; exact hC1.out.alloc _
  have hr2 := hr1.out.alloc (Obj.cells (Tryd.zeroCells116.setIfInBounds 0 (Value.int IntKind.u8 128)) 116)
  rw [← hw2.out] at hr2
  have hrA : Hid (Blk w2 w.heap.size 31 Z32) := hr2
  clear hr2
  have hb2 : Hid (Below w.heap.size w w2) := by show Below _ _ _; rw [hw2.out]; exact hb1.out.alloc hb1.out.size _
  have hz2 : Hid (E = w.heap.size + 2 ∧ w2.heap.size = E + 1) := by show _ ∧ _; rw [hE.out, hw2.out, hz1.out]; simp [hz1.out]
  have g2 : w2.cell? ⟨g, 72, none⟩ = some (.int .u64 (n : Int)) := (hb2.out.cell (p := ⟨g, 72, none⟩) hg.out).trans g72.out
  rw [← hE.out, ← hw2.out]
  clear hw2 hC1 hr1 hb1 hz1 c72 hE hC sz oz
  obtain ⟨a, ha⟩ : ∃ a, Hid (a = n % 64) := ⟨_, rfl⟩
  have e1 : (n : Int) % 64 = (a : Int) := by have := ha.out; omega
  go_loopw [6] (fun v wr => ∃ k : Nat, v = .int .i64 (k : Int) ∧ Hid (1 ≤ k ∧ k ≤ K) ∧ wr = w2) (fun v _ => 64 - (intOf v).toNat)
  case atStart => exact ⟨1, rfl, ⟨Nat.le_refl _, hK1.out.1⟩, rfl⟩
  case round =>
    obtain ⟨k, rfl, hk, rfl⟩ := hrel
    have hkw : IntKind.i64.wrap ((a : Int) + (k : Int)) = (a : Int) + (k : Int) := by have := ha.out; have := hk.out; have := hK1.out; exact IntWalk.i64_in _ (by omega)
    have hk0 : (0 : Int) ≤ (a : Int) + (k : Int) := by omega
    have hkb : (k : Int) ≤ 64 := by have := hk.out; have := hK1.out; omega
    have hkb1 : (1 : Int) ≤ (k : Int) := by have := hk.out; omega
    by_cases hkK : k = K
    · have he : ((a : Int) + (k : Int)) % 64 = 56 := by have := pads_yes n; rw [← hK.out, ← ha.out, ← hkK] at this; omega
      subst hkK
      go_wp2_with fail
      clear hkw hk0 he e1 g2
      obtain ⟨w2, rfl⟩ : ∃ w2 : World, w2 = wr := ⟨_, rfl⟩
      go_loopw [31] (fun v wr => ∃ i : Nat, v = .int .i64 (i : Int) ∧ i ≤ 8 ∧ Hid (Tab wr E 116 128 (endTab n k i)) ∧ Hid (Below E w2 wr)) (fun v _ => 8 - (intOf v).toNat)
      case atStart => exact ⟨0, rfl, by omega, ht2.out, Below.refl _ _⟩
      case round =>
        obtain ⟨i, rfl, hi, ht, hb⟩ := hrel
        by_cases hlt : i < 8
        · have hz : (i : Int) < 8 := by omega
          have s0 : wr.cell? ⟨E, k + i, none⟩ = some (endTab n k i (k + i)) := ht.out.cell (by omega)
          have s1 : wr.frozen? ⟨E, k + i, none⟩ = false := ht.out.frozen _
          have x0 : IntKind.i64.wrap ((k : Int) + (i : Int)) = (k : Int) + (i : Int) := IntWalk.i64_in _ (by omega)
          have x1 : IntKind.i64.wrap (8 * (i : Int)) = 8 * (i : Int) := IntWalk.i64_in _ (by omega)
          have x2 : IntKind.i64.wrap (56 - 8 * (i : Int)) = 56 - 8 * (i : Int) := IntWalk.i64_in _ (by omega)
          have x3 : (0 : Int) ≤ 56 - 8 * (i : Int) := by omega
          have x4 : (56 - 8 * (i : Int)).toNat = 56 - 8 * i := by omega
          have x5 : (0 : Int) ≤ (k : Int) + (i : Int) := by omega
          have x6 : (k : Int) + (i : Int) < 128 := by omega
          have x7 : ((k : Int) + (i : Int)).toNat = k + i := by omega
          go_wp2_with fail
          go_roundw
          case rel =>
            refine ⟨i + 1, by go_num, by omega, ht.out.set_ (k + i) _ (fun j _ => ?_), hb.out.setCell (Nat.le_refl _) _⟩
            rw [endTab_succ n k i j hk.out.1, b8_len n (56 - 8 * i) (by have := hlen.out; omega)]
          case measure => clear x0 x1 x2 x4 x7; simp [intOf]; omega
        · have h8 : i = 8 := by omega
          subst h8
          clear hlt hi
          obtain ⟨w4, rfl⟩ : ∃ w4 : World, w4 = wr := ⟨_, rfl⟩
          have hb4 : Hid (Below w.heap.size w w4) := hb2.out.trans (hb.out.mono (by have := hz2.out; omega))
          have hC4 : Hid (Hh w4 (w.heap.size + 1) l) := ⟨cs, hC2.out.below hb.out (by have := hz2.out; omega)⟩
          have hB4 : Hid (Base w4) := hB.out.below hb4.out hB.out.1
          have X9 : ∀ w, (Instr.sliceAt 116 (.pointer (some ⟨E, 0, none⟩)) none (some (.int .i64 ((k : Int) + 8))) none).run Tryd.prog w = .ok (.slice (some ⟨E, 0, none⟩) (k + 8) 128) w := run_cutArrH (N := 128) Tryd.underlying116 (by kernel_rfl) (fun _ => rfl) (by omega) _ (by omega)
          have hR4 : Hid (Reads w4 1 (some ⟨E, 0, none⟩) (k + 8) (cells8 (endOf n k))) := ⟨by rw [cells8_len, endOf_len _ _ hk.out.1]; omega, fun _ => ⟨E, 0, rfl, ht.out.lt, fun j u hu => by
            have hj : j < k + 8 := by
              have := (List.getElem?_eq_some_iff.1 hu).1
              rw [cells8_len, endOf_len _ _ hk.out.1] at this
              exact this
            rw [Nat.zero_add, ht.out.cell (by omega), endTab_reads hk.out.1 hu]⟩⟩
          have hO4 : Hid (Off (some ⟨E, 0, none⟩) (w.heap.size + 1)) := fun a e => by
            injection e with e
            subst e
            have := hz2.out
            show E ≠ w.heap.size + 1
            omega
          have hg4 : Hid (w.heap.size + 1 ≠ 2) := by have := hB.out.1; show w.heap.size + 1 ≠ 2; omega
          have hl4 : Hid (l.length + (k + 8) < 2305843009213693952) := by have := hlen.out; rw [hn.out] at this; show _ < _; omega
          have hp : Hid (l ++ endOf n k = padded l) := by show _ = _; rw [hn.out]; exact endOf_eq l k hk.out.1 hK1.out.2.1 (by rw [← hn.out]; exact hK1.out.2.2)
          obtain ⟨S, hS⟩ : ∃ S, Hid (S = fold (padded l) (whole l.length / 64)) := ⟨_, rfl⟩
          go_wp2_with (first | ((with_reducible change wpList _ _ _ ({ dst := some 50, op := _, type := _, pos := _, after := _, guard := _ } :: _) _ _); refine wpList_load_part (o := ⟨some 50, _, _, _, _, _⟩) rfl 112 (.tmp 49) rfl (w.heap.size + 1) 0 rfl (stVals S) _ (stCells (hC5.out.alloc _)) Tryd.underlying112 rfl (size112.trans (congrArg some (stVals_len S).symm)) ?_) | (go_at_call 72; refine (write_k l (endOf n k) (k + 8) (endOf_len n k hk.out.1) (w.heap.size + 1) (some ⟨E, 0, none⟩) 128 w4 hB4.out hg4.out hC4.out hl4.out hR4.out (fun _ => hO4.out) (by omega)).mono ?_; rintro e w5 ⟨rfl, hC5, hk5⟩; rw [hp.out] at hC5; obtain ⟨cs5, hC5⟩ := hC5; rw [padded_len, ← hS.out] at hC5; replace hC5 := Lib.hid hC5; replace hk5 := Lib.hid hk5))
          clear X9
          have hrB : Hid (Blk w5 w.heap.size 31 Z32) := (hk5.out.block w.heap.size (by have := hz2.out; have := hb.out.size; omega) (by omega)).trans ((hb.out.block w.heap.size (by have := hz2.out; omega)).trans hrA.out)
          have hb5 : Hid (Below w.heap.size w w5) := ⟨hk5.out.os.trans hb4.out.os, hk5.out.tape.trans hb4.out.tape, hk5.out.output.trans hb4.out.output, Nat.le_trans hb4.out.size hk5.out.size, fun x hx => (hk5.out.block x (by have := hb4.out.size; omega) (by omega)).trans (hb4.out.block x hx)⟩
          obtain ⟨F, hF⟩ : ∃ F, Hid (F = w5.heap.size) := ⟨_, rfl⟩
          obtain ⟨w6, hw6⟩ : ∃ w6, Hid (w6 = w5.alloc (Obj.cells #[Value.int IntKind.u8 0, Value.int IntKind.u8 0, Value.int IntKind.u8 0, Value.int IntKind.u8 0, Value.int IntKind.u8 0, Value.int IntKind.u8 0, Value.int IntKind.u8 0, Value.int IntKind.u8 0, Value.int IntKind.u8 0, Value.int IntKind.u8 0, Value.int IntKind.u8 0, Value.int IntKind.u8 0, Value.int IntKind.u8 0, Value.int IntKind.u8 0, Value.int IntKind.u8 0, Value.int IntKind.u8 0, Value.int IntKind.u8 0, Value.int IntKind.u8 0, Value.int IntKind.u8 0, Value.int IntKind.u8 0, Value.int IntKind.u8 0, Value.int IntKind.u8 0, Value.int IntKind.u8 0, Value.int IntKind.u8 0, Value.int IntKind.u8 0, Value.int IntKind.u8 0, Value.int IntKind.u8 0, Value.int IntKind.u8 0, Value.int IntKind.u8 0, Value.int IntKind.u8 0, Value.int IntKind.u8 0, Value.int IntKind.u8 0] 31)) := ⟨_, rfl⟩
          have ht6 : Hid (Tab w6 F 31 32 (outTab S 0)) := by show Tab _ _ _ _ _; rw [hF.out, hw6.out]; exact Tab.new w5 _ _ 32 _ rfl (fun j hj => outTab_zero S j hj)
          have hr6 : Hid (Blk w6 w.heap.size 31 Z32) := by show Blk _ _ _ _; rw [hw6.out]; exact hrB.out.alloc _
          have hb6 : Hid (Below w.heap.size w w6) := by show Below _ _ _; rw [hw6.out]; exact hb5.out.alloc hb5.out.size _
          have hf6 : Hid (w.heap.size < F) := by show _ < _; rw [hF.out]; exact hrB.out.lt
          rw [← hF.out, ← hw6.out]
          clear hw6 hrB hb5 hk5 hC5 hC4 hB4 hR4 hO4 hb4 hb ht hC2 hb2 ht2 hF
          go_loopw [51] (fun v wr => ∃ i : Nat, v = .int .i64 (i : Int) ∧ i ≤ 8 ∧ Hid (Tab wr F 31 32 (outTab S (4 * i))) ∧ Hid (Below F w6 wr)) (fun v _ => 8 - (intOf v).toNat)
          case atStart => exact ⟨0, rfl, by omega, ht6.out, Below.refl _ _⟩
          case round =>
            clear ht6
            obtain ⟨i, rfl, hi, ht, hb⟩ := hrel
            by_cases hlt : i < 8
            · have hz : (i : Int) < 8 := by omega
              have hX : ∀ w, (Instr.index 112 (.agg (stVals S).toArray) (.int .i64 (i : Int))).run Tryd.prog w = .ok (.int .u32 (u (S.get i))) w := fun w => run_index_agg (stVals S).toArray .i64 (i : Int) (.int .u32 (u (S.get i))) Tryd.underlying112 (fun _ => rfl) (run_isAgg_int Tryd.underlying92) (by omega) (by omega) (by rw [Int.toNat_natCast, List.getElem?_toArray]; exact stVals_at S i hlt) w
              obtain ⟨w7, rfl⟩ : ∃ w7 : World, w7 = wr := ⟨_, rfl⟩
              go_wp2_with fail
              clear hX
              go_loopw [55] (fun v wr => ∃ j : Nat, v = .int .i64 (j : Int) ∧ j ≤ 4 ∧ Hid (Tab wr F 31 32 (outTab S (4 * i + j))) ∧ Hid (Below F w6 wr)) (fun v _ => 4 - (intOf v).toNat)
              case atStart => exact ⟨0, rfl, by omega, ht.out, hb.out⟩
              case round =>
                clear ht hb
                obtain ⟨j, rfl, hj, ht, hb⟩ := hrel
                by_cases hlj : j < 4
                · have hzj : (j : Int) < 4 := by omega
                  have s0 : wr.cell? ⟨F, 4 * i + j, none⟩ = some (outTab S (4 * i + j) (4 * i + j)) := ht.out.cell (by omega)
                  have s1 : wr.frozen? ⟨F, 4 * i + j, none⟩ = false := ht.out.frozen _
                  have x0 : IntKind.i64.wrap (4 * (i : Int) + (j : Int)) = 4 * (i : Int) + (j : Int) := IntWalk.i64_in _ (by omega)
                  have x1 : IntKind.i64.wrap (8 * (j : Int)) = 8 * (j : Int) := IntWalk.i64_in _ (by omega)
                  have x2 : IntKind.i64.wrap (24 - 8 * (j : Int)) = 24 - 8 * (j : Int) := IntWalk.i64_in _ (by omega)
                  have x3 : (0 : Int) ≤ 24 - 8 * (j : Int) := by omega
                  have x4 : (24 - 8 * (j : Int)).toNat = 24 - 8 * j := by omega
                  have x5 : (0 : Int) ≤ 4 * (i : Int) + (j : Int) := by omega
                  have x6 : 4 * (i : Int) + (j : Int) < 32 := by omega
                  have x7 : (4 * (i : Int) + (j : Int)).toNat = 4 * i + j := by omega
                  have x8 : IntKind.i64.wrap (4 * (i : Int)) = 4 * (i : Int) := IntWalk.i64_in _ (by omega)
                  go_wp2_with fail
                  go_roundw
                  case rel =>
                    refine ⟨j + 1, by go_num, by omega, ht.out.set_ (4 * i + j) _ (fun x _ => ?_), hb.out.setCell (Nat.le_refl _) _⟩
                    rw [outTab_succ S i j x hlj, u_byte]
                  case measure => clear x0 x1 x2 x4 x7 x8; simp [intOf]; omega
                · have h4 : j = 4 := by omega
                  subst h4
                  go_wp2_with fail
                  go_roundw
                  case rel =>
                    exact ⟨i + 1, by go_num, by omega, ht.out, hb.out⟩
                  case measure => simp [intOf]; omega
            · have h8 : i = 8 := by omega
              subst h8
              obtain ⟨w7, rfl⟩ : ∃ w7 : World, w7 = wr := ⟨_, rfl⟩
              obtain ⟨c8, hc8, hs8, hv8⟩ := ht.out
              have hq : c8 = (cells8 (sum l)).toArray := outTab_all l c8 hs8 (by rw [← hS.out]; exact hv8)
              rw [hq] at hc8
              have hc8h := Lib.hid hc8
              have hs8h : Hid ((Tryd.prog.info? 31).map (·.size) = some (cells8 (sum l)).toArray.size) := size31.trans (congrArg some (by rw [← hq, hs8]))
              have ho8 : Hid ((Z32 : Array Value).size = (cells8 (sum l)).toArray.size) := (by rw [← hq, hs8]; rfl : (Z32 : Array Value).size = (cells8 (sum l)).toArray.size)
              have h18 : Hid ((cells8 (sum l)).toArray.all (fun v => v.oneCell') = true) := by show Array.all _ _ = true; rw [List.all_toArray]; exact List.all_eq_true.2 (cells8_one (sum l))
              have hr7 : Hid (Blk w7 w.heap.size 31 Z32) := (hb.out.block w.heap.size hf6.out).trans hr6.out
              clear hc8 hq hv8 hs8
              go_wp2_with (first | ((with_reducible change wpList _ _ _ ({ dst := some 71, op := _, type := _, pos := _, after := _, guard := _ } :: _) _ _); refine wpList_load_row (o := ⟨some 71, _, _, _, _, _⟩) rfl 31 (.tmp 8) rfl F rfl 31 (cells8 (sum l)).toArray (0, 0) _ hc8h.out Tryd.underlying31 rfl hs8h.out ?_) | ((with_reducible change wpList _ _ _ ({ dst := none, op := Op.store 31 _ _, type := _, pos := _, after := _, guard := _ } :: _) _ _); refine wpList_store_row (o := ⟨none, _, _, _, _, _⟩) rfl 31 (.tmp 2) (.tmp 71) rfl w.heap.size (cells8 (sum l)).toArray rfl rfl 31 Z32 hr7.out hs8h.out ho8.out h18.out ?_))
              refine bodyPost_ret (results_cell_row rfl _ _ w.heap.size 31 (cells8 (sum l)).toArray (0, 0) _ rfl (setRow_heap _ _ _ _ _ _ hr7.out) Tryd.underlying31 rfl hs8h.out) rfl ?_
              exact ⟨rfl, below_setRow (hb6.out.trans (hb.out.mono (by have := hf6.out; omega))) (Nat.le_refl _) _⟩
    · have he : ((a : Int) + (k : Int)) % 64 ≠ 56 := by have := pads_not n k hk.out.1 (by rw [← hK.out]; have := hk.out; omega); rw [← ha.out] at this; omega
      go_wp2_with fail
      go_roundw
      case rel =>
        exact ⟨k + 1, by go_num, by have := hk.out; show _ ∧ _; omega, by trivial⟩
      case measure => have := hk.out; have := hK1.out; clear hkw he e1; simp [intOf]; omega
end Go.Proofs.YtngieimjlkpkaaaDoor.HashSum
