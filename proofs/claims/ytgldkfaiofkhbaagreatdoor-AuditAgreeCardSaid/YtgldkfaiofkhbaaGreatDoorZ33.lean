/-
  Texts of the claim, put into one file: ClashM, Clash, Met, TreeTwice, TwoEvP.
-/
import Derived.Test.YtgldkfaiofkhbaaGreatDoorZ32
import Derived.Maps.OwnSet
import Derived.Maps.Ext
import Derived.WideKeyArr
import Derived.Test.YtgldkfaiofkhbaaGreatDoorShelf
import Derived.Test.YtgldkfaiofkhbaaGreatDoorZ6
import Derived.Test.YtgldkfaiofkhbaaGreatDoorZ11
import Derived.Test.YtgldkfaiofkhbaaGreatDoorZ4
import Derived.Test.YtgldkfaiofkhbaaGreatDoorZ3
import Derived.Test.YtgldkfaiofkhbaaGreatDoorZ10
import Derived.Test.YtgldkfaiofkhbaaGreatDoorZ13
import Derived.Test.YtgldkfaiofkhbaaGreatDoorZ12

namespace Go.Proofs.YtgldkfaiofkhbaaGreatDoor.ClashM
open Go Go.RowKit Go.Proofs.YtgldkfaiofkhbaaGreatDoor Mem Sha Bytes TwiceP

theorem arr : WideMaps.ArrKey Tryz.prog 23 5 32 := ⟨Tryz.underlying23, by kernel_rfl, by kernel_rfl, by kernel_rfl⟩
theorem law : Maps.Keyed Tryz.prog 23 := Maps.Keyed.of_law arr.law
theorem mapM_some {α β : Type} {f : α → Option β} : ∀ L : List α, (∀ x ∈ L, ∃ y, f x = some y) → ∃ ys, L.mapM f = some ys
 | [], _ => ⟨[], rfl⟩
 | x :: L, h => by
  obtain ⟨y, hy⟩ := h x (by simp)
  obtain ⟨ys, hys⟩ := mapM_some L (fun z hz => h z (by simp [hz]))
  exact ⟨y :: ys, by rw [List.mapM_cons, hy, hys]; rfl⟩
theorem keyed (d : Text) (hd : d.length = 32) : ∃ l, keyOf Tryz.prog 23 (.agg (cells8 d).toArray) = some l := by
 have hk : Tryz.prog.keyType 23 = true := by kernel_rfl
 have hf : (Value.agg (cells8 d).toArray).formed Tryz.prog 23 = true := by
  simp [Value.formed, Tryz.underlying23, arr.size, cells8_len, hd]
 obtain ⟨m, hm⟩ : ∃ m, Tryz.prog.types.size = m + 1 := ⟨Tryz.prog.types.size - 1, by have : 0 < Tryz.prog.types.size := of_decide_eq_true (by kernel_rfl); omega⟩
 unfold keyOf
 simp only [Tryz.underlying23]
 rw [if_pos (by simp [hk, hf]), hm]
 unfold Program.keyLits
 simp only [Tryz.underlying23, Value.cells]
 rw [if_pos (by rw [arr.size]; simp [cells8_len, hd])]
 obtain ⟨ys, hys⟩ := mapM_some (f := fun i => Tryz.prog.keyLits (m + 1) 5 (((cells8 d).drop (i * Tryz.prog.cellsOf 5)).take (Tryz.prog.cellsOf 5))) (List.range 32) (fun i hi => by
  have hi : i < 32 := List.mem_range.1 hi
  have h1 : ((cells8 d).drop i).take 1 = [cell8 (d.getD i 0)] := by
   have h2 := cells8_at d i (by omega)
   have hl : i < (cells8 d).length := by rw [cells8_len]; omega
   rw [List.getElem?_eq_getElem hl] at h2
   rw [List.drop_eq_getElem_cons hl, Option.some.inj h2]
   rfl
  rw [arr.one, Nat.mul_one, h1]
  obtain ⟨x, hx⟩ : ∃ x, d.getD i 0 = x := ⟨_, rfl⟩
  rw [hx]
  have hw : (Lit.int .u8 (b8 x)).wf = true := WalkArith.wf_u8 ⟨b8_nonneg _, by have := x.isLt; unfold b8; omega⟩
  exact ⟨[.int .u8 (b8 x)], by simp [Program.keyLits, Tryz.underlying5, cell8, hw]⟩)
 simp only [hys]
 exact ⟨_, rfl⟩
theorem keys : ∃ f : Text → Lit, ∀ d : Text, d.length = 32 → keyOf Tryz.prog 23 (.agg (cells8 d).toArray) = some (f d) := by
 refine ⟨fun d => if h : d.length = 32 then Classical.choose (keyed d h) else .bool false, fun d hd => ?_⟩
 have h := Classical.choose_spec (keyed d hd)
 simp only [dif_pos hd]
 exact h
noncomputable def kl : Text → Lit := Classical.choose keys
theorem kl_eq {d : Text} (hd : d.length = 32) : keyOf Tryz.prog 23 (.agg (cells8 d).toArray) = some (kl d) := Classical.choose_spec keys d hd
theorem b8_inj' {x y : BitVec 8} (h : b8 x = b8 y) : x = y := by
 unfold b8 at h
 exact BitVec.eq_of_toNat_eq (by omega)
theorem cells8_inj : ∀ {x y : Text}, cells8 x = cells8 y → x = y
 | [], [], _ => rfl
 | [], _ :: _, h => by cases h
 | _ :: _, [], h => by cases h
 | a :: x, b :: y, h => by
  have h1 := List.cons.inj h
  have h2 : Value.int .u8 (b8 a) = Value.int .u8 (b8 b) := h1.1
  injection h2 with _ h2
  rw [b8_inj' h2, cells8_inj h1.2]
theorem kl_inj {x y : Text} (hx : x.length = 32) (hy : y.length = 32) (h : kl x = kl y) : x = y := by
 have h1 := kl_eq hx
 have h2 := kl_eq hy
 rw [← h] at h2
 have h3 := law.inj h1 h2
 exact cells8_inj (List.toArray_inj (Value.agg.inj h3))
theorem kl_key {d : Text} (hd : d.length = 32) : WideAt.IsKeyLit (kl d) := law.key (kl_eq hd)

def Inv (s : Int) (ts : List Text) (j : Nat) (D : DataW Unit) : Prop :=
 (∀ (i : Nat) (q : Text), i < j → ts[i]? = some q → Maps.has D (kl (sumOf s q)) = true) ∧
 ∀ d : Text, d.length = 32 → Maps.has D (kl d) = true → ∃ (i : Nat) (q : Text), i < j ∧ ts[i]? = some q ∧ sumOf s q = d ∧ (∀ z, D.atKey (kl d) z = .lit (.int .i64 (i : Int))) ∧ ∀ (i' : Nat) (q' : Text), i' < j → ts[i']? = some q' → sumOf s q' = d → q' = q
theorem Inv.start (s : Int) (ts : List Text) : Inv s ts 0 (.map []) := ⟨fun i q hi => by omega, fun d _ h => by cases h⟩
theorem Inv.new {s : Int} {ts : List Text} {j : Nat} {D : DataW Unit} {q : Text} (h : Inv s ts j D) (hD : Maps.IsMap D) (hq : ts[j]? = some q) (hno : Maps.has D (kl (sumOf s q)) = false) : Inv s ts (j + 1) (D.put (kl (sumOf s q)) (.lit (.int .i64 (j : Int)))) := by
 have hl := sumOf_len s q
 refine ⟨fun i p hi hp => ?_, fun d hd hh => ?_⟩
 ·by_cases e : kl (sumOf s p) = kl (sumOf s q)
  ·rw [e]; exact Maps.has_put_same hD (kl_key hl) _
  ·rw [Maps.has_put_other e]
   rcases Nat.lt_or_ge i j with h1 | h1
   ·exact h.1 i p h1 hp
   ·obtain rfl : i = j := by omega
    rw [hq] at hp
    exact absurd (by rw [Option.some.inj hp]) e
 ·by_cases e : kl d = kl (sumOf s q)
  ·obtain rfl := kl_inj hd hl e
   refine ⟨j, q, Nat.lt_succ_self _, hq, rfl, fun z => Maps.atKey_put_same hD (kl_key hl) _ z, fun i p hi hp hs => ?_⟩
   rcases Nat.lt_or_ge i j with h1 | h1
   ·have := h.1 i p h1 hp
    rw [hs, hno] at this
    cases this
   ·obtain rfl : i = j := by omega
    rw [hq] at hp
    exact (Option.some.inj hp).symm
  ·rw [Maps.has_put_other e] at hh
   obtain ⟨i, p, h1, h2, h3, h4, h5⟩ := h.2 d hd hh
   refine ⟨i, p, by omega, h2, h3, fun z => by rw [Maps.atKey_put_other e]; exact h4 z, fun i' p' hi hp hs => ?_⟩
   rcases Nat.lt_or_ge i' j with h6 | h6
   ·exact h5 i' p' h6 hp hs
   ·obtain rfl : i' = j := by omega
    rw [hq] at hp
    obtain rfl := Option.some.inj hp
    exact absurd (by rw [hs]) e
theorem Inv.old {s : Int} {ts : List Text} {j i : Nat} {D : DataW Unit} {q : Text} (h : Inv s ts j D) (hq : ts[j]? = some q) (hi : i < j) (hp : ts[i]? = some q) : Inv s ts (j + 1) D := by
 refine ⟨fun i' p' hi' hp' => ?_, fun d hd hh => ?_⟩
 ·rcases Nat.lt_or_ge i' j with h6 | h6
  ·exact h.1 i' p' h6 hp'
  ·obtain rfl : i' = j := by omega
   rw [hq] at hp'
   obtain rfl := Option.some.inj hp'
   exact h.1 i _ hi hp
 ·obtain ⟨i0, p0, h1, h2, h3, h4, h5⟩ := h.2 d hd hh
  refine ⟨i0, p0, by omega, h2, h3, h4, fun i' p' hi' hp' hs => ?_⟩
  rcases Nat.lt_or_ge i' j with h6 | h6
  ·exact h5 i' p' h6 hp' hs
  ·obtain rfl : i' = j := by omega
   rw [hq] at hp'
   obtain rfl := Option.some.inj hp'
   exact h5 i _ hi hp hs
theorem Inv.done {s : Int} {ts : List Text} {D : DataW Unit} (h : Inv s ts ts.length D) : ¬ TwiceP.Met s ts := by
 rintro ⟨p, q, hp, hq, hne, hs⟩
 obtain ⟨i, hi, rfl⟩ := List.mem_iff_getElem.1 hp
 obtain ⟨k, hk, rfl⟩ := List.mem_iff_getElem.1 hq
 obtain ⟨i0, p0, h1, h2, h3, h4, h5⟩ := h.2 _ (sumOf_len s ts[i]) (h.1 i _ hi (List.getElem?_eq_getElem hi))
 exact hne ((h5 i _ hi (List.getElem?_eq_getElem hi) rfl).trans (h5 k _ hk (List.getElem?_eq_getElem hk) hs.symm).symm)
end Go.Proofs.YtgldkfaiofkhbaaGreatDoor.ClashM

namespace Go.Proofs.YtgldkfaiofkhbaaGreatDoor.Clash
open Go Go.RowKit Go.Proofs.YtgldkfaiofkhbaaGreatDoor Mem Sha Bytes Go.Proofs.YtgldkfaiofkhbaaGreatDoor.Append Own HashMem DigestMem Digest QuietTail Grown Held TwiceP ClashM

theorem nums_in {w : World} {A : Option Addr} {k : Nat} {q : Text} (h : Reads w 1 A k (cells8 q)) (hk : q.length = k) : Lib.BytesIn w A k (q.map b8) := by
 subst hk
 intro h0
 obtain ⟨b, o, rfl, hb, hc⟩ := h.at_ (by omega)
 refine ⟨b, o, rfl, fun i hi => ?_⟩
 rw [hc i _ (cells8_at q i hi)]
 have h2 : (q.map b8).getD i 0 = b8 (q.getD i 0) := by
  rw [List.getD_eq_getElem?_getD, List.getElem?_map, List.getElem?_eq_getElem hi, List.getD_eq_getElem?_getD, List.getElem?_eq_getElem hi]
  rfl
 rw [h2]
 rfl
theorem bytes_inj : ∀ {p q : Text}, Lib.bytesOf (p.map b8) = Lib.bytesOf (q.map b8) → p = q
 | [], [], _ => rfl
 | [], _ :: _, h => by cases h
 | _ :: _, [], h => by cases h
 | a :: p, b :: q, h => by
  have h1 := List.cons.inj h
  have h2 : UInt8.ofNat (b8 a).toNat = UInt8.ofNat (b8 b).toNat := h1.1
  have ha := a.isLt
  have hb := b.isLt
  have h3 := congrArg UInt8.toNat h2
  unfold b8 at h3
  simp at h3
  rw [bytes_inj h1.2, BitVec.eq_of_toNat_eq h3]
theorem equal8 (p q : Text) (n m : Nat) (hp : p.length = n) (hq : q.length = m) (A B : Option Addr) (c d : Nat) (w : World) (ha : Reads w 1 A n (cells8 p)) (hb : Reads w 1 B m (cells8 q)) :
  Calls Tryz.prog 70 #[.slice A n c, .slice B m d] w fun e w' => e = .returned (.bool (decide (p = q))) ∧ w = w' := by
 refine (Tryz.bytes_Equal_all A B n c m d (p.map b8) (q.map b8) w (by simp [hp]) (by simp [hq]) (nums_in ha hp) (nums_in hb hq)).mono ?_
 rintro e w' ⟨rfl, rfl⟩
 refine ⟨?_, rfl⟩
 congr 2
 by_cases h : p = q
 ·subst h; simp
 ·rw [decide_eq_false h]
  exact beq_eq_false_iff_ne.2 fun e => h (bytes_inj e)
theorem clone8 (q : Text) (n : Nat) (hq : q.length = n) (h0 : 0 < n) (hn : n ≤ 140737488355328) (A : Option Addr) (c : Nat) (w : World) (ha : Reads w 1 A n (cells8 q)) :
  Calls Tryz.prog 223 #[.slice A n c] w fun e w' => ∃ v, e = .returned v ∧ w'.ownsRow w.heap.size 5 1 v n (cells8 q) ∧ Below w.heap.size w w' := by
 obtain ⟨b, o, rfl, hc⟩ := nums_in ha hq h0
 refine (Tryz.bytes_Clone_at ⟨b, o, none⟩ n c (q.map b8) w (by simp [hq]) hn (fun i hi => by rw [Addr.add_lit]; exact hc i hi)).mono ?_
 rintro e w' ⟨v, rfl, ho, -, hbl⟩
 refine ⟨v, rfl, ?_, hbl⟩
 rw [List.map_map] at ho
 exact ho

theorem map_below {H : Type} {P : Program} {k : TypeId} {R : Value → Option (DataW H × List MemPlace)} {w w' : World} {b n : Nat} {D : DataW H} (h : w.ownsMap P k R b n D) (hb : Below w.heap.size w w') : w'.ownsMap P k R b n D := by
 have hlt := h.lt
 obtain ⟨es, clock, h1, h2⟩ := h
 exact ⟨es, clock, (hb.block b hlt).trans h1, h2⟩
theorem zeroE (w : World) : (zeroValue 3).run Tryz.prog w = .ok (.int .i64 0) w := by kernel_rfl
theorem own_base8 {w : World} {B B' n : Nat} {v : Value} {xs : List Value} (h : w.ownsRow B 5 1 v n xs) (hB : B' ≤ B) : w.ownsRow B' 5 1 v n xs :=
 ⟨h.1, h.2.imp id fun ⟨g, cap, cur, h1, h2, h3⟩ => ⟨g, cap, cur, h1, Nat.le_trans hB h2, h3⟩⟩
def CPost (w : World) (s : Int) (ts : List Text) (e : Ending) (w' : World) : Prop :=
 Below w.heap.size w w' ∧ ((e = .returned (.tuple #[.slice none 0 0, .slice none 0 0, .bool false]) ∧ ¬ TwiceP.Met s ts) ∨
  ∃ va vb p q, e = .returned (.tuple #[va, vb, .bool true]) ∧ p ∈ ts ∧ q ∈ ts ∧ p ≠ q ∧ sumOf s p = sumOf s q ∧ w'.ownsRow w.heap.size 5 1 va p.length (cells8 p) ∧ w'.ownsRow w.heap.size 5 1 vb q.length (cells8 q))

set_option maxRecDepth 100000 in
set_option maxHeartbeats 2000000 in
theorem clash_any (s : Int) (ts : List Text) (n : Nat) (hn : ts.length = n) (hn47 : n < 140737488355328) (A : Option Addr) (c : Nat) (w : World) (hB : Base w) (hp : Pieces w A ts) (hl : ∀ q ∈ ts, 0 < q.length ∧ q.length < 140737488355328) :
  Calls Tryz.prog 138 #[.int .i64 s, .slice A n c] w (CPost w s ts) := by
 have hmm := @run_makeMap Tryz.prog
 have hN : Hid ((n : Int) < 9223372036854775807) := by show _ < _; omega
 have hb0 : Hid (Below w.heap.size w (w.alloc (.map #[] 0))) := (Below.refl _ w).alloc (Nat.le_refl _) _
 have hM0 : Hid ((w.alloc (.map #[] 0)).ownsMap Tryz.prog 23 (plainElem (H := Unit) Tryz.prog 3) w.heap.size 0 (.map [])) := World.ownsMap_made w _ _ _
 have hnm : Hid (n < maxLen) := by show n < maxLen; unfold maxLen; omega
 replace hn := Lib.hid hn
 replace hB := Lib.hid hB
 replace hp := Lib.hid hp
 replace hl := Lib.hid hl
 clear hn47
 go_enter Tryz.func138, Tryz.ntmps138
 go_wp2_with fail
 go_loopw [16] (fun v wr => ∃ j : Nat, v = .int .i64 (j : Int) ∧ Hid (j ≤ n) ∧ Hid (∃ D, wr.ownsMap Tryz.prog 23 (plainElem (H := Unit) Tryz.prog 3) w.heap.size j D ∧ Inv s ts j D) ∧ Hid (Below w.heap.size w wr)) (fun v _ => n - (intOf v).toNat)
 case atStart => exact ⟨0, rfl, (show 0 ≤ n by omega), ⟨_, hM0.out, Inv.start s ts⟩, hb0.out⟩
 case round =>
  clear hM0 hb0 hmm
  obtain ⟨j, rfl, hj, hD, hW⟩ := hrel
  obtain ⟨D, hown, hinv⟩ := hD.out
  clear hD
  replace hown := Lib.hid hown
  replace hinv := Lib.hid hinv
  by_cases hlt : j < n
  ·have hz : (j : Int) < (n : Int) := by omega
   have hz0 : (0 : Int) ≤ (j : Int) := by omega
   have hil : (j : Int) < 9223372036854775807 := by have := hN.out; omega
   obtain ⟨q, hqi⟩ : ∃ q, Hid (ts[j]? = some q) := ⟨_, List.getElem?_eq_getElem (by rw [hn.out]; exact hlt)⟩
   obtain ⟨bA, o, rfl, hbA, hcs⟩ := hp.out (by have := hn.out; omega)
   replace hcs : Hid (∀ i q, ts[i]? = some q → ∃ Ai ci, w.cell? ⟨bA, o + i, none⟩ = some (.slice Ai q.length ci) ∧ q.length ≤ ci ∧ Reads w 1 Ai q.length (cells8 q) ∧ (Ai = none → q.length = 0 ∧ ci = 0)) := hcs
   obtain ⟨Ai, ci, hc1, hc2, hc3, hc4⟩ := hcs.out j q hqi.out
   have hcell : wr.cell? ⟨bA, o + j, none⟩ = some (.slice Ai q.length ci) := (hW.out.cell (p := ⟨bA, o + j, none⟩) hbA).trans hc1
   have hrq : Hid (Reads wr 1 Ai q.length (cells8 q)) := hc3.below hW.out
   have hql := Lib.hid (hl.out q (List.mem_of_getElem? hqi.out))
   replace hc2 := Lib.hid hc2
   clear hc1 hc3 hc4
   have hBr : Hid (Base wr) := hB.out.below hW.out hB.out.1
   obtain ⟨m, hm⟩ : ∃ m, Hid (q.length = m) := ⟨_, rfl⟩
   rw [hm.out] at hcell hrq hc2 hql
   obtain ⟨x, hx⟩ : ∃ x, Hid (x = sumOf s q) := ⟨_, rfl⟩
   have hxl : Hid (x.length = 32) := by show _ = _; rw [hx.out]; exact sumOf_len s q
   have hkey := Lib.hid (kl_eq hxl.out)
   have hsx : Hid ((Tryz.prog.info? 23).map (·.size) = some (cells8 x).toArray.size) := dig_size x hxl.out
   have hox := Lib.hid (dig_one x)
   have hz32 : Hid ((Z32 : Array Value).size = (cells8 x).toArray.size) := by show _ = _; simp [cells8_len, hxl.out, Z32]
   have hrun := Lib.hid (fun w' (hb : Below wr.heap.size wr w') => sumOf_any q m hm.out Ai ci w' (hBr.out.below hb (by have := hBr.out.1; omega)) (by have := hql.out.2; omega) (hrq.out.below hb) hc2.out)
   have hcut := Lib.hid (fun w' => cut_any (sum q) (sum_len q) s w')
   rw [show cutTo (sum q) (clampN s) = x from hx.out.symm] at hcut
   cases hh : Maps.has D (kl x) with
   | false =>
    replace hh := Lib.hid hh
    go_wp2_with (first
     | (go_at_call 114; refine (hrun.out _ (Below.refl _ _)).mono ?_; rintro e w1 ⟨rfl, hk1⟩; replace hk1 := Lib.hid hk1)
     | (go_at_call 113; refine (hcut.out _).mono ?_; rintro e w2 ⟨rfl, hk2⟩; have hb2 : Hid (Below wr.heap.size wr w2) := hk1.out.trans (hk2.mono hk1.out.size); clear hk1; have hZ2 : Hid (Blk (w2.alloc (.cells Z32 23)) w2.heap.size 23 Z32) := Blk.new _ _ _)
     | ((with_reducible change wpList _ _ _ ({ dst := none, op := Op.store 23 (.tmp 10) _, type := _, pos := _, after := _, guard := _ } :: _) _ _); refine wpList_store_whole (o := ⟨none, _, _, _, _, _⟩) rfl 23 (.tmp 10) (.tmp 24) rfl (w2.heap.size) ((cells8 x).toArray) rfl rfl 23 (Z32) hZ2.out hsx.out hz32.out hox.out ?_; intro w3 hX3 hk3; have hb3 : Hid (Below wr.heap.size wr w3) := (hb2.out.alloc hb2.out.size _).trans (Kept.below_of hk3 (by have := hb2.out.size; omega) (by have := hb2.out.size; simp; omega)); replace hX3 := Lib.hid hX3; have hown3 := Lib.hid (map_below hown.out hb3.out); clear hZ2 hk3 hb2)
     | ((with_reducible change wpList _ _ _ (⟨some 27, _, _, _, _, _⟩ :: _) _ _); refine wpList_load_row (o := ⟨some 27, _, _, _, _, _⟩) rfl 23 (.tmp 10) rfl (w2.heap.size) rfl 23 ((cells8 x).toArray) (0, 0) _ hX3.out Tryz.underlying23 rfl hsx.out ?_)
     | (at_lookup; refine wpList_lookup_own_ok_int _ rfl _ _ 324 rfl 23 3 .i64 law Tryz.underlying324 Tryz.underlying3 (zeroE _) w.heap.size j D rfl hown3.out _ (kl x) rfl hkey.out ?_; intro cc hat hwc; rw [hh.out])
     | ((with_reducible change wpList _ _ _ (⟨some 34, _, _, _, _, _⟩ :: _) _ _); refine wpList_load_row (o := ⟨some 34, _, _, _, _, _⟩) rfl 23 (.tmp 10) rfl (w2.heap.size) rfl 23 ((cells8 x).toArray) (0, 0) _ hX3.out Tryz.underlying23 rfl hsx.out ?_)
     | (at_mapUpdate; refine wpList_mapUpdate_own _ rfl _ _ _ 324 rfl 23 3 law Tryz.underlying324 _ w.heap.size j D rfl hown3.out (Nat.lt_trans hlt hnm.out) _ _ (kl x) rfl rfl hkey.out (.lit (.int .i64 (j : Int))) [] (plainElem_int Tryz.underlying3 (WalkArith.wf_i64 (by omega))) ?_; intro w4 hown4 hgrow4; replace hown4 := Lib.hid hown4; have hW4 : Hid (Below w.heap.size w w4) := (hW.out.trans (hb3.out.mono hW.out.size)).grown hgrow4 (by have := hW.out.size; have := hb3.out.size; omega) (fun k hk => by cases hk; exact Nat.le_refl _); clear hown3 hgrow4))
    exact ⟨⟨j + 1, rfl, (show j + 1 ≤ n by omega), ⟨_, hown4.out, by have := hinv.out.new (Maps.Tidy.isMap (hown.out.tidy law)) hqi.out (by rw [← hx.out]; exact hh.out); rw [← hx.out] at this; exact this⟩, hW4.out⟩, by simp [intOf]; omega⟩
   | true =>
    obtain ⟨i, p, hi1, hi2, hi3, hi4, hi5⟩ := hinv.out.2 x hxl.out hh
    replace hh := Lib.hid hh
    obtain ⟨Ap, cp, hp1, hp2, hp3, -⟩ := hcs.out i p hi2
    have hpl := Lib.hid (hl.out p (List.mem_of_getElem? hi2))
    obtain ⟨mp, hmp⟩ : ∃ mp, Hid (p.length = mp) := ⟨_, rfl⟩
    rw [hmp.out] at hp1 hp2 hp3 hpl
    have hy0 : (0 : Int) ≤ (i : Int) := by omega
    have hy : (i : Int) < (n : Int) := by omega
    have hcell2 := Lib.hid (fun w' (hb : Below wr.heap.size wr w') => (hb.cell (p := ⟨bA, o + i, none⟩) (Nat.lt_of_lt_of_le hbA hW.out.size)).trans ((hW.out.cell (p := ⟨bA, o + i, none⟩) hbA).trans hp1))
    have hrp : Hid (Reads wr 1 Ap mp (cells8 p)) := hp3.below hW.out
    replace hp2 := Lib.hid hp2
    have hEq := Lib.hid (fun w' (hb : Below wr.heap.size wr w') => equal8 p q mp m hmp.out hm.out Ap Ai cp ci w' (hrp.out.below hb) (hrq.out.below hb))
    clear hp1 hp3
    by_cases hpq : p = q
    ·have hdec : Hid (decide (p = q) = true) := decide_eq_true hpq
     go_wp2_with (first
      | (go_at_call 114; refine (hrun.out _ (Below.refl _ _)).mono ?_; rintro e w1 ⟨rfl, hk1⟩; replace hk1 := Lib.hid hk1)
      | (go_at_call 113; refine (hcut.out _).mono ?_; rintro e w2 ⟨rfl, hk2⟩; have hb2 : Hid (Below wr.heap.size wr w2) := hk1.out.trans (hk2.mono hk1.out.size); clear hk1; have hZ2 : Hid (Blk (w2.alloc (.cells Z32 23)) w2.heap.size 23 Z32) := Blk.new _ _ _)
      | ((with_reducible change wpList _ _ _ ({ dst := none, op := Op.store 23 (.tmp 10) _, type := _, pos := _, after := _, guard := _ } :: _) _ _); refine wpList_store_whole (o := ⟨none, _, _, _, _, _⟩) rfl 23 (.tmp 10) (.tmp 24) rfl (w2.heap.size) ((cells8 x).toArray) rfl rfl 23 (Z32) hZ2.out hsx.out hz32.out hox.out ?_; intro w3 hX3 hk3; have hb3 : Hid (Below wr.heap.size wr w3) := (hb2.out.alloc hb2.out.size _).trans (Kept.below_of hk3 (by have := hb2.out.size; omega) (by have := hb2.out.size; simp; omega)); replace hX3 := Lib.hid hX3; have hown3 := Lib.hid (map_below hown.out hb3.out); have hcc2 := hcell2.out _ hb3.out; clear hZ2 hk3 hb2)
      | ((with_reducible change wpList _ _ _ (⟨some 27, _, _, _, _, _⟩ :: _) _ _); refine wpList_load_row (o := ⟨some 27, _, _, _, _, _⟩) rfl 23 (.tmp 10) rfl (w2.heap.size) rfl 23 ((cells8 x).toArray) (0, 0) _ hX3.out Tryz.underlying23 rfl hsx.out ?_)
      | (at_lookup; refine wpList_lookup_own_ok_int _ rfl _ _ 324 rfl 23 3 .i64 law Tryz.underlying324 Tryz.underlying3 (zeroE _) w.heap.size j D rfl hown3.out _ (kl x) rfl hkey.out ?_; intro cc hat hwc; rw [hh.out]; rw [hi4] at hat; injection hat with hat; injection hat with _ hat; subst hat; clear hwc)
      | (go_at_call 70; refine (hEq.out _ hb3.out).mono ?_; rintro e w5 ⟨rfl, rfl⟩; rw [hdec.out]))
     have hW3 : Hid (Below w.heap.size w w3) := hW.out.trans (hb3.out.mono hW.out.size)
     exact ⟨⟨j + 1, rfl, (show j + 1 ≤ n by omega), ⟨_, hown3.out.mono (Nat.le_succ _), hinv.out.old hqi.out hi1 (by rw [← hpq]; exact hi2)⟩, hW3.out⟩, by simp [intOf]; omega⟩
    ·have hdec : Hid (decide (p = q) = false) := decide_eq_false hpq
     have hC1 := Lib.hid (fun w' (hb : Below wr.heap.size wr w') => clone8 p mp hmp.out (by have := hpl.out.1; omega) (by have := hpl.out.2; omega) Ap cp w' (hrp.out.below hb))
     have hC2 := Lib.hid (fun w' (hb : Below wr.heap.size wr w') => clone8 q m hm.out (by have := hql.out.1; omega) (by have := hql.out.2; omega) Ai ci w' (hrq.out.below hb))
     go_wp2_with (first
      | (go_at_call 114; refine (hrun.out _ (Below.refl _ _)).mono ?_; rintro e w1 ⟨rfl, hk1⟩; replace hk1 := Lib.hid hk1)
      | (go_at_call 113; refine (hcut.out _).mono ?_; rintro e w2 ⟨rfl, hk2⟩; have hb2 : Hid (Below wr.heap.size wr w2) := hk1.out.trans (hk2.mono hk1.out.size); clear hk1; have hZ2 : Hid (Blk (w2.alloc (.cells Z32 23)) w2.heap.size 23 Z32) := Blk.new _ _ _)
      | ((with_reducible change wpList _ _ _ ({ dst := none, op := Op.store 23 (.tmp 10) _, type := _, pos := _, after := _, guard := _ } :: _) _ _); refine wpList_store_whole (o := ⟨none, _, _, _, _, _⟩) rfl 23 (.tmp 10) (.tmp 24) rfl (w2.heap.size) ((cells8 x).toArray) rfl rfl 23 (Z32) hZ2.out hsx.out hz32.out hox.out ?_; intro w3 hX3 hk3; have hb3 : Hid (Below wr.heap.size wr w3) := (hb2.out.alloc hb2.out.size _).trans (Kept.below_of hk3 (by have := hb2.out.size; omega) (by have := hb2.out.size; simp; omega)); replace hX3 := Lib.hid hX3; have hown3 := Lib.hid (map_below hown.out hb3.out); have hcc2 := hcell2.out _ hb3.out; clear hZ2 hk3 hb2)
      | ((with_reducible change wpList _ _ _ (⟨some 27, _, _, _, _, _⟩ :: _) _ _); refine wpList_load_row (o := ⟨some 27, _, _, _, _, _⟩) rfl 23 (.tmp 10) rfl (w2.heap.size) rfl 23 ((cells8 x).toArray) (0, 0) _ hX3.out Tryz.underlying23 rfl hsx.out ?_)
      | (at_lookup; refine wpList_lookup_own_ok_int _ rfl _ _ 324 rfl 23 3 .i64 law Tryz.underlying324 Tryz.underlying3 (zeroE _) w.heap.size j D rfl hown3.out _ (kl x) rfl hkey.out ?_; intro cc hat hwc; rw [hh.out]; rw [hi4] at hat; injection hat with hat; injection hat with _ hat; subst hat; clear hwc)
      | (go_at_call 70; refine (hEq.out _ hb3.out).mono ?_; rintro e w5 ⟨rfl, rfl⟩; rw [hdec.out])
      | (go_at_call 223; refine (hC1.out _ hb3.out).mono ?_; rintro e w5 ⟨va, rfl, ho5, hk5⟩; clear hC1; obtain ⟨Aa, ca, rfl, -⟩ := own_reads ho5; have hb5 : Hid (Below wr.heap.size wr w5) := hb3.out.trans (hk5.mono hb3.out.size); replace ho5 := Lib.hid (own_base8 ho5 hb3.out.size); clear hk5)
      | (go_at_call 223; refine (hC2.out _ hb5.out).mono ?_; rintro e w6 ⟨vb, rfl, ho6, hk6⟩; clear hC2; obtain ⟨Ab, cb, rfl, -⟩ := own_reads ho6; have hb6 : Hid (Below wr.heap.size wr w6) := hb5.out.trans (hk6.mono hb5.out.size); replace ho6 := Lib.hid (own_base8 ho6 hb5.out.size); replace ho5 := Lib.hid (own_below ho5.out hk6); clear hk6))
     go_ret3
     refine ⟨hW.out.trans (hb6.out.mono hW.out.size), .inr ⟨_, _, p, q, rfl, List.mem_of_getElem? hi2, List.mem_of_getElem? hqi.out, hpq, by rw [hi3, hx.out], ?_, ?_⟩⟩
     ·rw [hmp.out]; exact own_base8 ho5.out (by have := hW.out.size; omega)
     ·rw [hm.out]; exact own_base8 ho6.out (by have := hW.out.size; omega)
  ·have hjn : j = n := by have := hj.out; omega
   subst hjn
   have hzz : ¬ ((j : Int) < (j : Int)) := by omega
   go_wp2_with fail
   go_ret3
   refine ⟨hW.out, .inl ⟨rfl, ?_⟩⟩
   have h := hinv.out
   rw [← hn.out] at h
   exact h.done
end Go.Proofs.YtgldkfaiofkhbaaGreatDoor.Clash

namespace Go.Proofs.YtgldkfaiofkhbaaGreatDoor.MetW
open Go Go.RowKit Go.Proofs.YtgldkfaiofkhbaaGreatDoor Mem Sha Bytes Go.Proofs.YtgldkfaiofkhbaaGreatDoor.Append Own HashMem DigestMem Digest DigEq Same8 QuietTail Grown Want Held TwiceP ClashM Clash

end Go.Proofs.YtgldkfaiofkhbaaGreatDoor.MetW

namespace Go.Proofs.YtgldkfaiofkhbaaGreatDoor.TreeTwice
open Go Go.RowKit Go.Proofs.YtgldkfaiofkhbaaGreatDoor Digest Mem Sha ShaWalk Bytes HashMem DigestMem DigestTop RefTop QuietTail Grown Chain TreeMath TreeMem TreeRoot Go.Proofs.YtgldkfaiofkhbaaGreatDoor.Append Own Book Book2 DigEq TreeRefRoot Held Node Sides WayP Climb Incl InclAny Include Climbs Texts AheadT RowsT Guard Guard2 Want TwiceP ClashM Clash MetW

theorem incl_taken {s size i : Int} {leaf : Text} {ds : List Text} (hl : leaf.length = 32) (hd : Digs ds) (h : (inclOf s size i leaf [] ds).2.1 = 0) :
  ds.length ≤ 40 ∧ (sides size.toNat i.toNat).length = ds.length ∧ inclOf s size i leaf [] ds = ((climbN s (leaf, []) ((sides size.toNat i.toNat).zip ds) ds.length).1, 0, (climbN s (leaf, []) ((sides size.toNat i.toNat).zip ds) ds.length).2) ∧ (inclOf s size i leaf [] ds).2.2.length = ds.length ∧ ∀ q ∈ (inclOf s size i leaf [] ds).2.2, q.length = 65 := by
 have hin : insideB size i = true := by
  cases hin : insideB size i with
  | true => rfl
  | false =>
   unfold inclOf at h
   rw [if_pos hin] at h
   exact absurd h (by decide)
 have hif : ¬ insideB size i = false := by rw [hin]; decide
 unfold inclOf at h ⊢
 rw [if_neg hif] at h ⊢
 obtain ⟨h1, h2, h3, h4⟩ := insideB_true hin
 by_cases hn : (sides size.toNat i.toNat).length ≠ ds.length
 ·rw [if_pos hn] at h; exact absurd h (by decide)
 ·rw [if_neg hn] at h ⊢
  have hn : (sides size.toNat i.toNat).length = ds.length := by omega
  have h40 : (2 : Nat) ^ 40 = 1099511627776 := by decide
  have hs := sides_len (n := size.toNat) (j := i.toNat) (L := 40) (by omega) (by omega)
  have hz : ((sides size.toNat i.toNat).zip ds).length = ds.length := by rw [List.length_zip]; omega
  refine ⟨by omega, hn, rfl, ?_, ?_⟩
  ·rw [show _ = _ from (climbN_len (s := s) (st := (leaf, [])) (l := (sides size.toNat i.toNat).zip ds) hl ds.length (by omega)).2]; simp
  ·exact climbN_long hl (fun q h => by cases h) (fun p hp => hd _ (List.of_mem_zip (show (p.1, p.2) ∈ _ from hp)).2) ds.length (by omega)
theorem incl_meet {s size i : Int} {x y : Text} {ds es : List Text} (hx : x.length = 32) (hy : y.length = 32) (hd : Digs ds) (he : Digs es) (h1 : (inclOf s size i x [] ds).2.1 = 0) (h2 : (inclOf s size i y [] es).2.1 = 0) (h : (inclOf s size i x [] ds).1 = (inclOf s size i y [] es).1)
  (hne : ¬ (x = y ∧ ds = es)) : MetAt s (inclOf s size i x [] ds).2.2 (inclOf s size i y [] es).2.2 := by
 obtain ⟨-, a1, a2, -⟩ := incl_taken hx hd h1
 obtain ⟨-, b1, b2, -⟩ := incl_taken hy he h2
 have hl : ds.length = es.length := by omega
 rw [a2, b2] at h ⊢
 have z1 : ((sides size.toNat i.toNat).zip ds).length = ds.length := by rw [List.length_zip]; omega
 have z2 : ((sides size.toNat i.toNat).zip es).length = es.length := by rw [List.length_zip]; omega
 rw [← hl] at h ⊢
 rcases climb_meet s hx hy (P := (sides size.toNat i.toNat).zip ds) (Q := (sides size.toNat i.toNat).zip es) (fun p hp => hd _ (List.of_mem_zip (show (p.1, p.2) ∈ _ from hp)).2) (fun p hp => he _ (List.of_mem_zip (show (p.1, p.2) ∈ _ from hp)).2) (by omega) (fun j p q hp hq => by
  have e1 := List.getElem?_zip_eq_some.1 hp
  have e2 := List.getElem?_zip_eq_some.1 hq
  exact Option.some.inj (e1.1.symm.trans e2.1)) ds.length (by omega) h with ⟨e1, e2⟩ | h3
 ·refine absurd ⟨e1, List.ext_getElem? fun j => ?_⟩ hne
  rcases Nat.lt_or_ge j ds.length with hj | hj
  ·have e3 := e2 j hj
   have p1 := List.getElem?_eq_getElem (l := ds) hj
   have p2 := List.getElem?_eq_getElem (l := es) (show j < es.length by omega)
   have p0 := List.getElem?_eq_getElem (l := sides size.toNat i.toNat) (show j < (sides size.toNat i.toNat).length by omega)
   have q1 : ((sides size.toNat i.toNat).zip ds)[j]? = some ((sides size.toNat i.toNat)[j]'(by omega), ds[j]) := List.getElem?_zip_eq_some.2 ⟨p0, p1⟩
   have q2 : ((sides size.toNat i.toNat).zip es)[j]? = some ((sides size.toNat i.toNat)[j]'(by omega), es[j]'(by omega)) := List.getElem?_zip_eq_some.2 ⟨p0, p2⟩
   rw [q1, q2] at e3
   have e4 := congrArg Prod.snd (Option.some.inj e3)
   dsimp only at e4
   rw [p1, p2, e4]
  ·rw [List.getElem?_eq_none hj, List.getElem?_eq_none (by omega)]
 ·exact h3

end Go.Proofs.YtgldkfaiofkhbaaGreatDoor.TreeTwice

namespace Go.Proofs.YtgldkfaiofkhbaaGreatDoor.TwoEvP
open Go Go.RowKit Go.Proofs.YtgldkfaiofkhbaaGreatDoor Mem Sha Bytes TreeMath TreeMem Chain ProofEnc Ref17 InclAll Within Climb TwiceP TreeTwice AudIncl

def evTexts (s : Int) (ev : Text) (x1 x2 : Int) (ds : List Text) : List Text := (kb 0 :: ev) :: (inclOf s x1 x2 (leafOf s ev) [] ds).2.2
theorem aud_zero {s : Int} {root ev : Text} {x1 x2 : Int} {ds : List Text} (h : audIncl s root ev x1 x2 ds = 0) : (inclOf s x1 x2 (leafOf s ev) [] ds).2.1 = 0 ∧ (inclOf s x1 x2 (leafOf s ev) [] ds).1 = root := by
 by_cases hb : inclWant x1 x2 ds = none ∨ ev.length < 1 ∨ 65536 < ev.length ∨ withinB s ds = false
 ·unfold audIncl at h
  rw [if_pos hb] at h
  cases h
 ·unfold audIncl at h
  rw [if_neg hb] at h
  split at h
  ·rename_i hr
   cases hw : inclWant x1 x2 ds with
   | none => exact absurd (.inl hw) hb
   | some b => exact ⟨want_zero hw, hr⟩
  ·cases h
theorem leaf_sum (s : Int) (ev : Text) : leafOf s ev = sumOf s (kb 0 :: ev) := rfl
theorem events_meet {s : Int} {root e f : Text} {x1 x2 : Int} {ds es : List Text} (hd : Digs ds) (he : Digs es) (h1 : audIncl s root e x1 x2 ds = 0) (h2 : audIncl s root f x1 x2 es = 0) (hne : e ≠ f) :
  TwiceP.Met s (evTexts s e x1 x2 ds ++ evTexts s f x1 x2 es) := by
 by_cases hl : leafOf s e = leafOf s f
 ·refine ⟨kb 0 :: e, kb 0 :: f, by simp [evTexts], by simp [evTexts], fun h => hne (List.cons.inj h).2, ?_⟩
  rw [← leaf_sum, ← leaf_sum]
  exact hl
 ·obtain ⟨a1, a2⟩ := aud_zero h1
  obtain ⟨b1, b2⟩ := aud_zero h2
  have := incl_meet (by rw [leaf_sum]; exact sumOf_len _ _) (by rw [leaf_sum]; exact sumOf_len _ _) hd he a1 b1 (a2.trans b2.symm) (fun h => hl h.1)
  refine this.met.mono fun p hp => ?_
  unfold evTexts
  rcases List.mem_append.1 hp with h | h
  ·exact List.mem_append_left _ (List.mem_cons_of_mem _ h)
  ·exact List.mem_append_right _ (List.mem_cons_of_mem _ h)
end Go.Proofs.YtgldkfaiofkhbaaGreatDoor.TwoEvP
