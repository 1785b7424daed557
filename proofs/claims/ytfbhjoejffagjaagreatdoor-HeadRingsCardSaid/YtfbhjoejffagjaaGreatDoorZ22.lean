/-
  Texts of the claim, put into one file: Mac.
-/
import Derived.Test.YtfbhjoejffagjaaGreatDoorZ18

namespace Go.Proofs.YtfbhjoejffagjaaGreatDoor.Mac
open Go Go.RowKit Go.Proofs.YtfbhjoejffagjaaGreatDoor Go.Proofs.YtfbhjoejffagjaaGreatDoor.Mem Go.Proofs.YtfbhjoejffagjaaGreatDoor.Sha Go.Proofs.YtfbhjoejffagjaaGreatDoor.ShaWalk Go.Proofs.YtfbhjoejffagjaaGreatDoor.Bytes Go.Proofs.YtfbhjoejffagjaaGreatDoor.HashMem Go.Proofs.YtfbhjoejffagjaaGreatDoor.Hash Go.Proofs.YtfbhjoejffagjaaGreatDoor.HashSum Go.Proofs.YtfbhjoejffagjaaGreatDoor.DigestMem Go.Proofs.YtfbhjoejffagjaaGreatDoor.Digest

def Z64 : Array Value := Array.replicate 64 (.int .u8 0)
/-- A key's bytes, up to 64, each turned by c. -/
def padOf (c : BitVec 8) (key : Text) : Text := (List.range 64).map fun j => key.getD j 0 ^^^ c
theorem padOf_len (c : BitVec 8) (key : Text) : (padOf c key).length = 64 := by simp [padOf]
/-- The keyed sum of a text. -/
def macOf (key msg : Text) : Text := sum (padOf 92 key ++ sum (padOf 54 key ++ msg))
theorem macOf_len (key msg : Text) : (macOf key msg).length = 32 := sum_len _
theorem padOf_at (c : BitVec 8) (key : Text) (j : Nat) (hj : j < 64) : (padOf c key)[j]? = some (key.getD j 0 ^^^ c) := by
  unfold padOf
  rw [List.getElem?_map, List.getElem?_range hj]
  rfl
/-- A pad's cells behind i turns. -/
def padTab (c : BitVec 8) (key : Text) (i j : Nat) : Value := .int .u8 (b8 (if j < i then key.getD j 0 ^^^ c else key.getD j 0))
theorem padTab_succ (c : BitVec 8) (key : Text) (i j : Nat) : padTab c key (i + 1) j = if j = i then .int .u8 (b8 (key.getD i 0 ^^^ c)) else padTab c key i j := by
  unfold padTab
  by_cases h : j = i
  · subst h
    rw [if_pos rfl, if_pos (by omega)]
  · rw [if_neg h]
    by_cases h1 : j < i
    · rw [if_pos h1, if_pos (by omega)]
    · rw [if_neg h1, if_neg (by omega)]
theorem padTab_now (c : BitVec 8) (key : Text) (i : Nat) : padTab c key i i = .int .u8 (b8 (key.getD i 0)) := by
  unfold padTab
  rw [if_neg (by omega)]
theorem padTab_zero (c : BitVec 8) (key : Text) (hk : key.length ≤ 64) (Z : Array Value) (hZ : Z = Array.replicate 64 (.int .u8 0)) :
    (splice Z.toList 0 (cells8 key)).toArray.size = 64 ∧ ∀ j, j < 64 → (splice Z.toList 0 (cells8 key)).toArray[j]? = some (padTab c key 0 j) := by
  subst hZ
  have hs : splice (Array.replicate 64 (Value.int .u8 0)).toList 0 (cells8 key) = cells8 key ++ List.replicate (64 - key.length) (.int .u8 0) := by
    show List.take 0 _ ++ (cells8 key ++ List.drop (0 + _) _) = _
    rw [List.take_zero, List.nil_append, Array.toList_replicate, List.drop_replicate, cells8_len, Nat.zero_add]
  rw [hs]
  constructor
  · simp [cells8_len]; omega
  · intro j hj
    rw [List.getElem?_toArray]
    unfold padTab
    rw [if_neg (by omega)]
    by_cases h : j < key.length
    · rw [List.getElem?_append_left (by rw [cells8_len]; exact h), cells8_at _ _ h]
      unfold cell8
      simp [List.getD, List.getElem?_eq_getElem h]
    · rw [List.getElem?_append_right (by rw [cells8_len]; omega), List.getElem?_replicate, if_pos (by rw [cells8_len]; omega)]
      simp [List.getD, List.getElem?_eq_none (Nat.le_of_not_lt h), b8]
theorem xor_b8 (x c : BitVec 8) (n : Int) (hn : n = b8 c) : bits .xor .u8 (b8 x) n = b8 (x ^^^ c) := by
  subst hn
  show IntKind.u8.wrap (((BitVec.ofInt 8 (b8 x) ^^^ BitVec.ofInt 8 (b8 c)).toNat : Nat) : Int) = _
  have hw : ∀ n : Int, IntKind.u8.wrap n = n % 256 := fun n => by simp [IntKind.wrap, IntKind.bits, IntKind.signed]
  have ho : ∀ y : BitVec 8, BitVec.ofInt 8 (b8 y) = y := fun y => by
    apply BitVec.eq_of_toNat_eq
    have := y.isLt
    simp [b8]
  rw [hw, ho, ho]
  unfold b8
  have := (x ^^^ c).isLt
  omega
/-- A whole pad, as it lies. -/
theorem padTab_reads {w : World} {g : Nat} {t : TypeId} {c : BitVec 8} {key : Text} (h : Tab w g t 64 (padTab c key 64)) : Reads w 1 (some ⟨g, 0, none⟩) 64 (cells8 (padOf c key)) := by
  have h1 := h.reads 0 64 1 (by omega)
  have e : ((List.range (64 * 1)).map fun j => padTab c key 64 (0 + j)) = cells8 (padOf c key) := by
    unfold cells8 padOf
    rw [List.map_map]
    apply List.map_congr_left
    intro j hj
    have hj' : j < 64 := by simpa using hj
    show padTab c key 64 (0 + j) = cell8 _
    rw [Nat.zero_add]
    unfold padTab cell8
    rw [if_pos hj']
  rw [e] at h1
  exact h1
theorem heap3_0 (w : World) (a b c : Obj) : (((w.alloc a).alloc b).alloc c).heap[w.heap.size]? = some a := by
  rw [Below.heap_alloc _ _ _ (by simp; omega)]
  exact heap_alloc2_old w _ _
theorem heap3_1 (w : World) (a b c : Obj) : (((w.alloc a).alloc b).alloc c).heap[w.heap.size + 1]? = some b := by
  rw [Below.heap_alloc _ _ _ (by simp)]
  exact heap_alloc2_new w _ _
theorem heap3_2 (w : World) (a b c : Obj) : (((w.alloc a).alloc b).alloc c).heap[w.heap.size + 2]? = some c := by
  have h := heap_alloc_new ((w.alloc a).alloc b) c
  have e : ((w.alloc a).alloc b).heap.size = w.heap.size + 2 := by simp
  rw [e] at h
  exact h
theorem src_all {w : World} {A : Option Addr} {n : Nat} {q : Text} (h : Reads w 1 A n (cells8 q)) (h0 : 0 < (cells8 q).length) : ∃ ad, A = some ad ∧ ∀ j v, (cells8 q)[j]? = some v → w.cell? (ad.add j) = some v := by
  obtain ⟨b, o, e, hb, hc⟩ := h.2 (by have := h.1; omega)
  refine ⟨_, e, fun j v hv => ?_⟩
  rw [add_at]
  exact hc j v hv

/-- What Mac holds on to behind its loop. -/
structure Ms (w wx : World) (q : Text) : Prop where
  below : Below w.heap.size w wx
  res : Blk wx w.heap.size 34 Z32
  inner : Tab wx (w.heap.size + 1) 174 64 (padTab 54 q 64)
  outer : Tab wx (w.heap.size + 2) 174 64 (padTab 92 q 64)
theorem Ms.step {w wx wy : World} {q : Text} {B : Nat} (h : Ms w wx q) (hb : Below B wx wy) (hB : w.heap.size + 3 ≤ B) : Ms w wy q :=
  ⟨h.below.trans (hb.mono (by omega)), (hb.block _ (by omega)).trans h.res, Bytes.Tab.below' h.inner hb (by omega), Bytes.Tab.below' h.outer hb (by omega)⟩
theorem Ms.kept {w wx wy : World} {q : Text} {g : Nat} (h : Ms w wx q) (hk : Kept (· = g) wx wy) (hg : w.heap.size + 3 ≤ g) : Ms w wy q :=
  ⟨h.below.trans (Kept.below_of hk (by omega) h.below.size), h.res.kept hk (by omega), h.inner.kept hk (by omega), h.outer.kept hk (by omega)⟩

set_option maxRecDepth 100000 in
set_option maxHeartbeats 1000000 in
theorem mac_any (q r : Text) (k m : Nat) (hk : q.length = k) (hm : r.length = m) (hk64 : k ≤ 64) (A A2 : Option Addr) (c c2 : Nat) (w : World) (hB : Base w) (hlen : m < 144115188075855872) (hq : Reads w 1 A k (cells8 q)) (hr : Reads w 1 A2 m (cells8 r)) (hc2 : m ≤ c2) :
    Calls Tryz.prog 114 #[.slice A k c, .slice A2 m c2] w fun e w' => e = .returned (.agg (cells8 (macOf q r)).toArray) ∧ Below w.heap.size w w' := by
  have hb0 : Hid (Below w.heap.size w (((w.alloc (.cells Z32 34)).alloc (.cells Z64 174)).alloc (.cells Z64 174))) := (((Below.refl _ w).alloc (Nat.le_refl _) _).alloc (by simp) _).alloc (by simp; omega) _
  have s2 : Hid ((cells8 q).length = k) := by show _ = _; rw [cells8_len, hk]
  have s1 : Hid ((cells8 q).length = Nat.min k 64) := by show _ = _; rw [s2.out]; exact (Nat.min_eq_left hk64).symm
  have hz : Z64 = Array.replicate 64 (.int .u8 0) := rfl
  have s3 : Hid (0 + (cells8 q).length ≤ Z64.size) := by show _ ≤ _; rw [s2.out, hz, Array.size_replicate]; omega
  have hpt := Lib.hid (padTab_zero 54 q (by omega) _ hz)
  have hpu := Lib.hid (padTab_zero 92 q (by omega) _ hz)
  have hkI : (k : Int) ≤ 64 := by omega
  replace hB := Lib.hid hB
  replace hlen := Lib.hid hlen
  replace hq := Lib.hid hq
  replace hr := Lib.hid hr
  replace hm := Lib.hid hm
  clear hz hk64 hk
  go_enter Tryz.func114, Tryz.ntmps114
  go_wp2_with (first
    | ((with_reducible change wpList _ _ _ ({ dst := some 19, op := _, type := _, pos := _, after := _, guard := _ } :: _) _ _); refine wpList_copy_into (o := ⟨some 19, _, _, _, _, _⟩) rfl (.tmp 17) (.tmp 18) 31 31 rfl 5 Tryz.underlying31 size8 (some ⟨w.heap.size + 1, 0, none⟩) A 64 64 k c rfl rfl (w.heap.size + 1) 0 Z64 174 (heap3_1 w _ _ _) (cells8 q) s1.out (fun h => ⟨rfl, src_all (hq.out.below hb0.out) h⟩) s3.out (cells8_one q) _ (Kept.refl _ _) k s2.out ?_; intro w1 hb1 hk1; have hR1 : Hid (Blk w1 w.heap.size 34 Z32) := Blk.kept (heap3_0 w _ _ _) hk1 (by omega); have hG1 : Hid (Blk w1 (w.heap.size + 2) 174 Z64) := Blk.kept (heap3_2 w _ _ _) hk1 (by omega); have hw1 : Hid (Below w.heap.size w w1) := hb0.out.trans (Kept.below_of hk1 (by omega) (by simp; omega)); have hT1 : Hid (Tab w1 (w.heap.size + 1) 174 64 (padTab 54 q 0)) := ⟨_, hb1.out, hpt.out⟩; clear hb1 hk1 hb0)
    | ((with_reducible change wpList _ _ _ ({ dst := some 22, op := _, type := _, pos := _, after := _, guard := _ } :: _) _ _); refine wpList_copy_into (o := ⟨some 22, _, _, _, _, _⟩) rfl (.tmp 20) (.tmp 21) 31 31 rfl 5 Tryz.underlying31 size8 (some ⟨w.heap.size + 2, 0, none⟩) A 64 64 k c rfl rfl (w.heap.size + 2) 0 Z64 174 hG1.out (cells8 q) s1.out (fun h => ⟨rfl, src_all (hq.out.below hw1.out) h⟩) s3.out (cells8_one q) _ (Kept.refl _ _) k s2.out ?_; intro w2 hb2 hk2; have hR2 : Hid (Blk w2 w.heap.size 34 Z32) := Blk.kept hR1.out hk2 (by omega); have hw2 : Hid (Below w.heap.size w w2) := hw1.out.trans (Kept.below_of hk2 (by omega) hw1.out.size); have hT2 : Hid (Tab w2 (w.heap.size + 1) 174 64 (padTab 54 q 0)) := Tab.kept hT1.out hk2 (by omega); have hU2 : Hid (Tab w2 (w.heap.size + 2) 174 64 (padTab 92 q 0)) := ⟨_, hb2.out, hpu.out⟩; clear hb2 hk2 hw1 hT1 hR1 hG1))
  go_loopw [23] (fun i wr => ∃ t : Nat, i = .int .i64 (t : Int) ∧ t ≤ 64 ∧ Hid (Tab wr (w.heap.size + 1) 174 64 (padTab 54 q t)) ∧ Hid (Tab wr (w.heap.size + 2) 174 64 (padTab 92 q t)) ∧ Hid (Blk wr w.heap.size 34 Z32) ∧ Hid (Below w.heap.size w wr)) (fun i _ => 64 - (intOf i).toNat)
  case atStart => exact ⟨0, rfl, by omega, hT2.out, hU2.out, hR2.out, hw2.out⟩
  case round =>
    clear hT2 hU2 hR2 hw2
    obtain ⟨t, rfl, ht, hT, hU, hR, hW⟩ := hrel
    by_cases hlt : t < 64
    · have hz : (t : Int) < 64 := by omega
      obtain ⟨x, hx⟩ : ∃ x, Hid (x = q.getD t 0) := ⟨_, rfl⟩
      have a0 : wr.cell? ⟨w.heap.size + 1, t, none⟩ = some (.int .u8 (b8 x)) := (hT.out.cell (by omega)).trans (by rw [padTab_now, hx.out])
      have a1 : wr.frozen? ⟨w.heap.size + 1, t, none⟩ = false := hT.out.frozen _
      have a2 : wr.cell? ⟨w.heap.size + 2, t, none⟩ = some (.int .u8 (b8 x)) := (hU.out.cell (by omega)).trans (by rw [padTab_now, hx.out])
      have a3 : wr.frozen? ⟨w.heap.size + 2, t, none⟩ = false := hU.out.frozen _
      have x54 := xor_b8 x 54 54 rfl
      have x92 := xor_b8 x 92 92 rfl
      go_wp2_with fail
      go_roundw
      case rel =>
        refine ⟨t + 1, by go_num, by omega, ?_, ?_, (hR.out.far (by show w.heap.size ≠ w.heap.size + 1; omega) _).far (by show w.heap.size ≠ w.heap.size + 2; omega) _, (hW.out.setCell (by show w.heap.size ≤ w.heap.size + 1; omega) _).setCell (by show w.heap.size ≤ w.heap.size + 2; omega) _⟩
        · exact (hT.out.set_ t _ (fun j _ => by rw [padTab_succ, ← hx.out]; rfl)).far (by simp) _
        · exact (hU.out.far (by simp) _).set_ t _ (fun j _ => by rw [padTab_succ, ← hx.out]; rfl)
      case measure => simp [intOf]; omega
    · obtain rfl : t = 64 := by omega
      have hM : Hid (Ms w wr q) := ⟨hW.out, hR.out, hT.out, hU.out⟩
      have hlt3 : Hid (w.heap.size + 3 ≤ wr.heap.size) := by have := hU.out.lt; show _ ≤ _; omega
      clear hT hU hR hW hlt s1 s2 s3 hpt hpu
      go_wp2_with fail
      refine (new_any _).mono ?_
      rintro e w5 ⟨g, rfl, hg, hH, hb⟩
      replace hg : Hid (w.heap.size + 3 ≤ g) := by have := hlt3.out; show _ ≤ _; omega
      replace hM := Lib.hid (hM.out.step hb hlt3.out)
      have hne : Hid (g ≠ 1) := by have := hB.out.1; have := hg.out; show _ ≠ _; omega
      replace hH := Lib.hid hH
      clear hb
      go_wp2_with fail
      refine (write_k [] (padOf 54 q) 64 (padOf_len _ _) g _ 64 w5 (hB.out.below hM.out.below hB.out.1) hne.out hH.out (by simp) (padTab_reads hM.out.inner) (fun _ a ha => by cases ha; have := hg.out; show w.heap.size + 1 ≠ g; omega) (by omega)).mono ?_
      rintro e w6 ⟨rfl, hH6, hk6⟩
      replace hM := Lib.hid (hM.out.kept hk6 hg.out)
      rw [List.nil_append] at hH6
      replace hH6 := Lib.hid hH6
      clear hk6 hH
      go_wp2_with fail
      refine (write_k (padOf 54 q) r m hm.out g A2 c2 w6 (hB.out.below hM.out.below hB.out.1) hne.out hH6.out (by rw [padOf_len]; have := hlen.out; omega) (hr.out.below hM.out.below) (Reads.off hr.out (by have := hg.out; omega)) hc2).mono ?_
      rintro e w7 ⟨rfl, hH7, hk7⟩
      replace hM := Lib.hid (hM.out.kept hk7 hg.out)
      replace hH7 := Lib.hid hH7
      clear hk7 hH6
      go_wp2_with fail
      refine (sum_any (padOf 54 q ++ r) g w7 (hB.out.below hM.out.below hB.out.1) hH7.out (by rw [List.length_append, padOf_len, hm.out]; have := hlen.out; omega)).mono ?_
      rintro e w8 ⟨rfl, hb8⟩
      replace hM := Lib.hid (hM.out.step hb8 (by have := hg.out; have := hH7.out.lt; omega))
      have hs8 : Hid (w.heap.size + 3 ≤ w8.heap.size) := by have := hM.out.outer.lt; show _ ≤ _; omega
      clear hb8 hH7 hne hg hlt3
      obtain ⟨s, hs⟩ : ∃ s, Hid (s = sum (padOf 54 q ++ r)) := ⟨_, rfl⟩
      have hsl : Hid (s.length = 32) := by show _ = _; rw [hs.out]; exact sum_len _
      rw [← hs.out]
      have z1 := Lib.hid (dig_size s hsl.out)
      have z2 : Hid ((Z32 : Array Value).size = (cells8 s).toArray.size) := by show _ = _; simp [cells8_len, hsl.out, Z32]
      have z3 := Lib.hid (dig_one s)
      have c32 : (cells8 s).length = 32 := by rw [cells8_len]; exact hsl.out
      obtain ⟨w9, hw9⟩ : ∃ w9, Hid (w9 = (w8.alloc (.cells Z32 34)).setRow w8.heap.size (cells8 s).toArray) := ⟨_, rfl⟩
      have hst : (storeCells ⟨w8.heap.size, 0, none⟩ (cells8 s)).run Tryz.prog (w8.alloc (.cells Z32 34)) = .ok () w9 := by rw [hw9.out]; exact storeCells_row (heap_alloc_new w8 _) (by simp [Z32]; omega) (cells8_one s)
      unfold Z32 at hst
      have hb9 : Below w8.heap.size w8 w9 := by rw [hw9.out]; exact below_setRow ((Below.refl _ _).alloc (Nat.le_refl _) _) (Nat.le_refl _) _
      have hS9 : Hid (w9.heap[w8.heap.size]? = some (.cells (cells8 s).toArray 34 (0, 0))) := by show _ = _; rw [hw9.out]; exact setRow_heap _ _ _ _ _ _ (heap_alloc_new w8 _)
      replace hM := Lib.hid (hM.out.step hb9 hs8.out)
      have hS : Hid (Reads w9 1 (some ⟨w8.heap.size, 0, none⟩) 32 (cells8 s)) := by have h1 := rowReads hS9.out; rw [hsl.out] at h1; exact h1
      have hz9 : Hid (w8.heap.size < w9.heap.size) := (Blk.lt hS9.out)
      clear hb9 hS9 hw9
      go_wp2_with fail
      clear hst
      refine (new_any _).mono ?_
      rintro e w5 ⟨g, rfl, hg, hH, hb⟩
      replace hg : Hid (w9.heap.size ≤ g) := hg
      replace hM := Lib.hid (hM.out.step hb (by have := hz9.out; have := hs8.out; omega))
      replace hS := Lib.hid (hS.out.below hb)
      have hne : Hid (g ≠ 1) := by have := hB.out.1; have := hg.out; have := hz9.out; have := hs8.out; show _ ≠ _; omega
      replace hH := Lib.hid hH
      clear hb
      go_wp2_with fail
      refine (write_k [] (padOf 92 q) 64 (padOf_len _ _) g _ 64 w5 (hB.out.below hM.out.below hB.out.1) hne.out hH.out (by simp) (padTab_reads hM.out.outer) (fun _ a ha => by cases ha; have := hg.out; have := hz9.out; have := hs8.out; show w.heap.size + 2 ≠ g; omega) (by omega)).mono ?_
      rintro e w6 ⟨rfl, hH6, hk6⟩
      replace hM := Lib.hid (hM.out.kept hk6 (by have := hg.out; have := hz9.out; have := hs8.out; omega))
      replace hS := Lib.hid (hS.out.kept0 hk6 (fun _ b o e hb => by cases e; have := hg.out; have := hz9.out; omega))
      rw [List.nil_append] at hH6
      replace hH6 := Lib.hid hH6
      clear hk6 hH
      go_wp2_with fail
      refine (write_k (padOf 92 q) s 32 hsl.out g _ 32 w6 (hB.out.below hM.out.below hB.out.1) hne.out hH6.out (by rw [padOf_len]; omega) hS.out (fun _ a ha => by cases ha; have := hg.out; have := hz9.out; show w8.heap.size ≠ g; omega) (by omega)).mono ?_
      rintro e w7 ⟨rfl, hH7, hk7⟩
      replace hM := Lib.hid (hM.out.kept hk7 (by have := hg.out; have := hz9.out; have := hs8.out; omega))
      replace hH7 := Lib.hid hH7
      clear hk7 hH6 hS
      go_wp2_with fail
      refine (sum_any (padOf 92 q ++ s) g w7 (hB.out.below hM.out.below hB.out.1) hH7.out (by rw [List.length_append, padOf_len, hsl.out]; omega)).mono ?_
      rintro e w10 ⟨rfl, hb10⟩
      replace hM := Lib.hid (hM.out.step hb10 (by have := hg.out; have := hz9.out; have := hs8.out; have := hH7.out.lt; omega))
      clear hb10 hH7
      have hmac : Hid (macOf q r = sum (padOf 92 q ++ s)) := by show _ = _; rw [hs.out]; rfl
      rw [← hmac.out]
      have z4 := Lib.hid (dig_size (macOf q r) (macOf_len q r))
      have d32 : (cells8 (macOf q r)).length = 32 := by rw [cells8_len]; exact macOf_len q r
      have hst2 : (storeCells ⟨w.heap.size, 0, none⟩ (cells8 (macOf q r))).run Tryz.prog w10 = .ok () (w10.setRow w.heap.size (cells8 (macOf q r)).toArray) := storeCells_row hM.out.res (by simp [Z32]; omega) (cells8_one _)
      go_wp2_with fail
      refine bodyPost_ret (results_cell_row rfl _ _ w.heap.size 34 (cells8 (macOf q r)).toArray (0, 0) _ rfl (setRow_heap _ _ _ _ _ _ hM.out.res) Tryz.underlying34 rfl z4.out) rfl ?_
      exact ⟨rfl, below_setRow hM.out.below (Nat.le_refl _) _⟩
end Go.Proofs.YtfbhjoejffagjaaGreatDoor.Mac
