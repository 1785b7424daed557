/-
  Texts of the claim, put into one file: ClashM, Clash, Met, TreeTwice.
-/
import Derived.Test.YtpgenpogjhpeoaaDoorZ26
import Derived.Maps.OwnSet
import Derived.Maps.Ext
import Derived.WideKeyArr
import Derived.Test.YtpgenpogjhpeoaaDoorShelf
import Derived.Test.YtpgenpogjhpeoaaDoorZ8
import Derived.Test.YtpgenpogjhpeoaaDoorZ7
import Derived.Test.YtpgenpogjhpeoaaDoorZ6
import Derived.Test.YtpgenpogjhpeoaaDoorZ11
import Derived.Test.YtpgenpogjhpeoaaDoorZ5
import Derived.Test.YtpgenpogjhpeoaaDoorZ27
import Derived.Test.YtpgenpogjhpeoaaDoorZ12
import Derived.Test.YtpgenpogjhpeoaaDoorZ13

namespace Go.Proofs.YtpgenpogjhpeoaaDoor.ClashM
open Go Go.RowKit Go.Proofs.YtpgenpogjhpeoaaDoor Go.Proofs.YtpgenpogjhpeoaaDoor.Mem Go.Proofs.YtpgenpogjhpeoaaDoor.Sha Go.Proofs.YtpgenpogjhpeoaaDoor.Bytes Go.Proofs.YtpgenpogjhpeoaaDoor.TwiceP

theorem arr : WideMaps.ArrKey Tryd.prog 23 5 32 := ⟨Tryd.underlying23, by kernel_rfl, by kernel_rfl, by kernel_rfl⟩
theorem law : Maps.Keyed Tryd.prog 23 := Maps.Keyed.of_law arr.law
theorem mapM_some {α β : Type} {f : α → Option β} : ∀ L : List α, (∀ x ∈ L, ∃ y, f x = some y) → ∃ ys, L.mapM f = some ys
  | [], _ => ⟨[], rfl⟩
  | x :: L, h => by
    obtain ⟨y, hy⟩ := h x (by simp)
    obtain ⟨ys, hys⟩ := mapM_some L (fun z hz => h z (by simp [hz]))
    exact ⟨y :: ys, by rw [List.mapM_cons, hy, hys]; rfl⟩
theorem keyed (d : Text) (hd : d.length = 32) : ∃ l, keyOf Tryd.prog 23 (.agg (cells8 d).toArray) = some l := by
  have hk : Tryd.prog.keyType 23 = true := by kernel_rfl
  have hf : (Value.agg (cells8 d).toArray).formed Tryd.prog 23 = true := by
    simp [Value.formed, Tryd.underlying23, arr.size, cells8_len, hd]
  obtain ⟨m, hm⟩ : ∃ m, Tryd.prog.types.size = m + 1 := ⟨Tryd.prog.types.size - 1, by have : 0 < Tryd.prog.types.size := of_decide_eq_true (by kernel_rfl); omega⟩
  unfold keyOf
  simp only [Tryd.underlying23]
  rw [if_pos (by simp [hk, hf]), hm]
  unfold Program.keyLits
  simp only [Tryd.underlying23, Value.cells]
  rw [if_pos (by rw [arr.size]; simp [cells8_len, hd])]
  obtain ⟨ys, hys⟩ := mapM_some (f := fun i => Tryd.prog.keyLits (m + 1) 5 (((cells8 d).drop (i * Tryd.prog.cellsOf 5)).take (Tryd.prog.cellsOf 5))) (List.range 32) (fun i hi => by
    have hi : i < 32 := List.mem_range.1 hi
    have h1 : ((cells8 d).drop i).take 1 = [cell8 (d.getD i 0)] := by
      have h2 := cells8_at d i (by omega)
      have hl : i < (cells8 d).length := by rw [cells8_len]; omega
      rw [List.getElem?_eq_getElem hl] at h2
      rw [List.drop_eq_getElem_cons hl, Option.some.inj h2]
      rfl
    rw [arr.one, Nat.mul_one, h1]
    obtain ⟨x, hx⟩ : ∃ x, d.getD i 0 = x := ⟨_, rfl⟩
    rw [hx]
    have hw : (Lit.int .u8 (b8 x)).wf = true := WalkArith.wf_u8 ⟨b8_nonneg _, by have := x.isLt; unfold b8; omega⟩
    exact ⟨[.int .u8 (b8 x)], by simp [Program.keyLits, Tryd.underlying5, cell8, hw]⟩)
  simp only [hys]
  exact ⟨_, rfl⟩
theorem keys : ∃ f : Text → Lit, ∀ d : Text, d.length = 32 → keyOf Tryd.prog 23 (.agg (cells8 d).toArray) = some (f d) := by
  refine ⟨fun d => if h : d.length = 32 then Classical.choose (keyed d h) else .bool false, fun d hd => ?_⟩
  have h := Classical.choose_spec (keyed d hd)
  simp only [dif_pos hd]
  exact h
/-- A sum as a key. -/
noncomputable def kl : Text → Lit := Classical.choose keys
theorem kl_eq {d : Text} (hd : d.length = 32) : keyOf Tryd.prog 23 (.agg (cells8 d).toArray) = some (kl d) := Classical.choose_spec keys d hd
theorem b8_inj' {x y : BitVec 8} (h : b8 x = b8 y) : x = y := by
  unfold b8 at h
  exact BitVec.eq_of_toNat_eq (by omega)
theorem cells8_inj : ∀ {x y : Text}, cells8 x = cells8 y → x = y
  | [], [], _ => rfl
  | [], _ :: _, h => by cases h
  | _ :: _, [], h => by cases h
  | a :: x, b :: y, h => by
    have h1 := List.cons.inj h
    have h2 : Value.int .u8 (b8 a) = Value.int .u8 (b8 b) := h1.1
    injection h2 with _ h2
    rw [b8_inj' h2, cells8_inj h1.2]
theorem kl_inj {x y : Text} (hx : x.length = 32) (hy : y.length = 32) (h : kl x = kl y) : x = y := by
  have h1 := kl_eq hx
  have h2 := kl_eq hy
  rw [← h] at h2
  have h3 := law.inj h1 h2
  exact cells8_inj (List.toArray_inj (Value.agg.inj h3))
theorem kl_key {d : Text} (hd : d.length = 32) : WideAt.IsKeyLit (kl d) := law.key (kl_eq hd)

/-- Behind j texts: each sum's first place. -/
def Inv (s : Int) (ts : List Text) (j : Nat) (D : DataW Unit) : Prop :=
  (∀ (i : Nat) (q : Text), i < j → ts[i]? = some q → Maps.has D (kl (sumOf s q)) = true) ∧
  ∀ d : Text, d.length = 32 → Maps.has D (kl d) = true → ∃ (i : Nat) (q : Text), i < j ∧ ts[i]? = some q ∧ sumOf s q = d ∧ (∀ z, D.atKey (kl d) z = .lit (.int .i64 (i : Int))) ∧ ∀ (i' : Nat) (q' : Text), i' < j → ts[i']? = some q' → sumOf s q' = d → q' = q
theorem Inv.start (s : Int) (ts : List Text) : Inv s ts 0 (.map []) := ⟨fun i q hi => by omega, fun d _ h => by cases h⟩
theorem Inv.new {s : Int} {ts : List Text} {j : Nat} {D : DataW Unit} {q : Text} (h : Inv s ts j D) (hD : Maps.IsMap D) (hq : ts[j]? = some q) (hno : Maps.has D (kl (sumOf s q)) = false) : Inv s ts (j + 1) (D.put (kl (sumOf s q)) (.lit (.int .i64 (j : Int)))) := by
  have hl := sumOf_len s q
  refine ⟨fun i p hi hp => ?_, fun d hd hh => ?_⟩
  · by_cases e : kl (sumOf s p) = kl (sumOf s q)
    · rw [e]; exact Maps.has_put_same hD (kl_key hl) _
    · rw [Maps.has_put_other e]
      rcases Nat.lt_or_ge i j with h1 | h1
      · exact h.1 i p h1 hp
      · obtain rfl : i = j := by omega
        rw [hq] at hp
        exact absurd (by rw [Option.some.inj hp]) e
  · by_cases e : kl d = kl (sumOf s q)
    · obtain rfl := kl_inj hd hl e
      refine ⟨j, q, Nat.lt_succ_self _, hq, rfl, fun z => Maps.atKey_put_same hD (kl_key hl) _ z, fun i p hi hp hs => ?_⟩
      rcases Nat.lt_or_ge i j with h1 | h1
      · have := h.1 i p h1 hp
        rw [hs, hno] at this
        cases this
      · obtain rfl : i = j := by omega
        rw [hq] at hp
        exact (Option.some.inj hp).symm
    · rw [Maps.has_put_other e] at hh
      obtain ⟨i, p, h1, h2, h3, h4, h5⟩ := h.2 d hd hh
      refine ⟨i, p, by omega, h2, h3, fun z => by rw [Maps.atKey_put_other e]; exact h4 z, fun i' p' hi hp hs => ?_⟩
      rcases Nat.lt_or_ge i' j with h6 | h6
      · exact h5 i' p' h6 hp hs
      · obtain rfl : i' = j := by omega
        rw [hq] at hp
        obtain rfl := Option.some.inj hp
        exact absurd (by rw [hs]) e
theorem Inv.old {s : Int} {ts : List Text} {j i : Nat} {D : DataW Unit} {q : Text} (h : Inv s ts j D) (hq : ts[j]? = some q) (hi : i < j) (hp : ts[i]? = some q) : Inv s ts (j + 1) D := by
  refine ⟨fun i' p' hi' hp' => ?_, fun d hd hh => ?_⟩
  · rcases Nat.lt_or_ge i' j with h6 | h6
    · exact h.1 i' p' h6 hp'
    · obtain rfl : i' = j := by omega
      rw [hq] at hp'
      obtain rfl := Option.some.inj hp'
      exact h.1 i _ hi hp
  · obtain ⟨i0, p0, h1, h2, h3, h4, h5⟩ := h.2 d hd hh
    refine ⟨i0, p0, by omega, h2, h3, h4, fun i' p' hi' hp' hs => ?_⟩
    rcases Nat.lt_or_ge i' j with h6 | h6
    · exact h5 i' p' h6 hp' hs
    · obtain rfl : i' = j := by omega
      rw [hq] at hp'
      obtain rfl := Option.some.inj hp'
      exact h5 i _ hi hp hs
theorem Inv.done {s : Int} {ts : List Text} {D : DataW Unit} (h : Inv s ts ts.length D) : ¬ TwiceP.Met s ts := by
  rintro ⟨p, q, hp, hq, hne, hs⟩
  obtain ⟨i, hi, rfl⟩ := List.mem_iff_getElem.1 hp
  obtain ⟨k, hk, rfl⟩ := List.mem_iff_getElem.1 hq
  obtain ⟨i0, p0, h1, h2, h3, h4, h5⟩ := h.2 _ (sumOf_len s ts[i]) (h.1 i _ hi (List.getElem?_eq_getElem hi))
  exact hne ((h5 i _ hi (List.getElem?_eq_getElem hi) rfl).trans (h5 k _ hk (List.getElem?_eq_getElem hk) hs.symm).symm)
end Go.Proofs.YtpgenpogjhpeoaaDoor.ClashM

namespace Go.Proofs.YtpgenpogjhpeoaaDoor.Clash
open Go Go.RowKit Go.Proofs.YtpgenpogjhpeoaaDoor Go.Proofs.YtpgenpogjhpeoaaDoor.Mem Go.Proofs.YtpgenpogjhpeoaaDoor.Sha Go.Proofs.YtpgenpogjhpeoaaDoor.Bytes Go.Proofs.YtpgenpogjhpeoaaDoor.Append Go.Proofs.YtpgenpogjhpeoaaDoor.Own Go.Proofs.YtpgenpogjhpeoaaDoor.HashMem Go.Proofs.YtpgenpogjhpeoaaDoor.DigestMem Go.Proofs.YtpgenpogjhpeoaaDoor.Digest Go.Proofs.YtpgenpogjhpeoaaDoor.QuietTail Go.Proofs.YtpgenpogjhpeoaaDoor.Grown Go.Proofs.YtpgenpogjhpeoaaDoor.Held Go.Proofs.YtpgenpogjhpeoaaDoor.TwiceP Go.Proofs.YtpgenpogjhpeoaaDoor.ClashM

theorem nums_len (q : Text) : (q.map b8).length = q.length := by simp
theorem nums_in {w : World} {A : Option Addr} {k : Nat} {q : Text} (h : Reads w 1 A k (cells8 q)) (hk : q.length = k) : Lib.BytesIn w A k (q.map b8) := by
  subst hk
  intro h0
  obtain ⟨b, o, rfl, hb, hc⟩ := h.at_ (by omega)
  refine ⟨b, o, rfl, fun i hi => ?_⟩
  rw [hc i _ (cells8_at q i hi)]
  have h2 : (q.map b8).getD i 0 = b8 (q.getD i 0) := by
    rw [List.getD_eq_getElem?_getD, List.getElem?_map, List.getElem?_eq_getElem hi, List.getD_eq_getElem?_getD, List.getElem?_eq_getElem hi]
    rfl
  rw [h2]
  rfl
theorem bytes_inj : ∀ {p q : Text}, Lib.bytesOf (p.map b8) = Lib.bytesOf (q.map b8) → p = q
  | [], [], _ => rfl
  | [], _ :: _, h => by cases h
  | _ :: _, [], h => by cases h
  | a :: p, b :: q, h => by
    have h1 := List.cons.inj h
    have h2 : UInt8.ofNat (b8 a).toNat = UInt8.ofNat (b8 b).toNat := h1.1
    have ha := a.isLt
    have hb := b.isLt
    have h3 := congrArg UInt8.toNat h2
    unfold b8 at h3
    simp at h3
    rw [bytes_inj h1.2, BitVec.eq_of_toNat_eq h3]
theorem equal8 (p q : Text) (n m : Nat) (hp : p.length = n) (hq : q.length = m) (A B : Option Addr) (c d : Nat) (w : World) (ha : Reads w 1 A n (cells8 p)) (hb : Reads w 1 B m (cells8 q)) :
    Calls Tryd.prog 112 #[.slice A n c, .slice B m d] w fun e w' => e = .returned (.bool (decide (p = q))) ∧ w = w' := by
  refine (Tryd.bytes_Equal_all A B n c m d (p.map b8) (q.map b8) w (by simp [hp]) (by simp [hq]) (nums_in ha hp) (nums_in hb hq)).mono ?_
  rintro e w' ⟨rfl, rfl⟩
  refine ⟨?_, rfl⟩
  congr 2
  by_cases h : p = q
  · subst h; simp
  · rw [decide_eq_false h]
    exact beq_eq_false_iff_ne.2 fun e => h (bytes_inj e)
theorem clone8 (q : Text) (n : Nat) (hq : q.length = n) (h0 : 0 < n) (hn : n ≤ 140737488355328) (A : Option Addr) (c : Nat) (w : World) (ha : Reads w 1 A n (cells8 q)) :
    Calls Tryd.prog 113 #[.slice A n c] w fun e w' => ∃ v, e = .returned v ∧ w'.ownsRow w.heap.size 5 1 v n (cells8 q) ∧ Below w.heap.size w w' := by
  obtain ⟨b, o, rfl, hc⟩ := nums_in ha hq h0
  refine (Tryd.bytes_Clone_at ⟨b, o, none⟩ n c (q.map b8) w (by simp [hq]) hn (fun i hi => by rw [Addr.add_lit]; exact hc i hi)).mono ?_
  rintro e w' ⟨v, rfl, ho, -, hbl⟩
  refine ⟨v, rfl, ?_, hbl⟩
  rw [List.map_map] at ho
  exact ho

theorem map_below {H : Type} {P : Program} {k : TypeId} {R : Value → Option (DataW H × List MemPlace)} {w w' : World} {b n : Nat} {D : DataW H} (h : w.ownsMap P k R b n D) (hb : Below w.heap.size w w') : w'.ownsMap P k R b n D := by
  have hlt := h.lt
  obtain ⟨es, clock, h1, h2⟩ := h
  exact ⟨es, clock, (hb.block b hlt).trans h1, h2⟩
theorem zeroE (w : World) : (zeroValue 3).run Tryd.prog w = .ok (.int .i64 0) w := by kernel_rfl
theorem own_base8 {w : World} {B B' n : Nat} {v : Value} {xs : List Value} (h : w.ownsRow B 5 1 v n xs) (hB : B' ≤ B) : w.ownsRow B' 5 1 v n xs :=
  ⟨h.1, h.2.imp id fun ⟨g, cap, cur, h1, h2, h3⟩ => ⟨g, cap, cur, h1, Nat.le_trans hB h2, h3⟩⟩
/-- What Clash leaves: nothing, where no two unlike texts have one sum; or two of them, as memory of its own. -/
def CPost (w : World) (s : Int) (ts : List Text) (e : Ending) (w' : World) : Prop :=
  Below w.heap.size w w' ∧ ((e = .returned (.tuple #[.slice none 0 0, .slice none 0 0, .bool false]) ∧ ¬ TwiceP.Met s ts) ∨
    ∃ va vb p q, e = .returned (.tuple #[va, vb, .bool true]) ∧ p ∈ ts ∧ q ∈ ts ∧ p ≠ q ∧ sumOf s p = sumOf s q ∧ w'.ownsRow w.heap.size 5 1 va p.length (cells8 p) ∧ w'.ownsRow w.heap.size 5 1 vb q.length (cells8 q))

set_option maxRecDepth 100000 in
set_option maxHeartbeats 2000000 in
theorem clash_any (s : Int) (ts : List Text) (n : Nat) (hn : ts.length = n) (hn47 : n < 140737488355328) (A : Option Addr) (c : Nat) (w : World) (hB : Base w) (hp : Pieces w A ts) (hl : ∀ q ∈ ts, 0 < q.length ∧ q.length < 140737488355328) :
    Calls Tryd.prog 66 #[.int .i64 s, .slice A n c] w (CPost w s ts) := by
  have hmm := @run_makeMap Tryd.prog
  have hN : Hid ((n : Int) < 9223372036854775807) := by show _ < _; omega
  have hb0 : Hid (Below w.heap.size w (w.alloc (.map #[] 0))) := (Below.refl _ w).alloc (Nat.le_refl _) _
  have hM0 : Hid ((w.alloc (.map #[] 0)).ownsMap Tryd.prog 23 (plainElem (H := Unit) Tryd.prog 3) w.heap.size 0 (.map [])) := World.ownsMap_made w _ _ _
  have hnm : Hid (n < maxLen) := by show n < maxLen; unfold maxLen; omega
  replace hn := Lib.hid hn
  replace hB := Lib.hid hB
  replace hp := Lib.hid hp
  replace hl := Lib.hid hl
  clear hn47
  go_enter Tryd.func66, Tryd.ntmps66
  go_wp2_with fail
  go_loopw [16] (fun v wr => ∃ j : Nat, v = .int .i64 (j : Int) ∧ Hid (j ≤ n) ∧ Hid (∃ D, wr.ownsMap Tryd.prog 23 (plainElem (H := Unit) Tryd.prog 3) w.heap.size j D ∧ Inv s ts j D) ∧ Hid (Below w.heap.size w wr)) (fun v _ => n - (intOf v).toNat)
  case atStart => exact ⟨0, rfl, (show 0 ≤ n by omega), ⟨_, hM0.out, Inv.start s ts⟩, hb0.out⟩
  case round =>
    clear hM0 hb0 hmm
    obtain ⟨j, rfl, hj, hD, hW⟩ := hrel
    obtain ⟨D, hown, hinv⟩ := hD.out
    clear hD
    replace hown := Lib.hid hown
    replace hinv := Lib.hid hinv
    by_cases hlt : j < n
    · have hz : (j : Int) < (n : Int) := by omega
      have hz0 : (0 : Int) ≤ (j : Int) := by omega
      have hil : (j : Int) < 9223372036854775807 := by have := hN.out; omega
      obtain ⟨q, hqi⟩ : ∃ q, Hid (ts[j]? = some q) := ⟨_, List.getElem?_eq_getElem (by rw [hn.out]; exact hlt)⟩
      obtain ⟨bA, o, rfl, hbA, hcs⟩ := hp.out (by have := hn.out; omega)
      replace hcs : Hid (∀ i q, ts[i]? = some q → ∃ Ai ci, w.cell? ⟨bA, o + i, none⟩ = some (.slice Ai q.length ci) ∧ q.length ≤ ci ∧ Reads w 1 Ai q.length (cells8 q) ∧ (Ai = none → q.length = 0 ∧ ci = 0)) := hcs
      obtain ⟨Ai, ci, hc1, hc2, hc3, hc4⟩ := hcs.out j q hqi.out
      have hcell : wr.cell? ⟨bA, o + j, none⟩ = some (.slice Ai q.length ci) := (hW.out.cell (p := ⟨bA, o + j, none⟩) hbA).trans hc1
      have hrq : Hid (Reads wr 1 Ai q.length (cells8 q)) := hc3.below hW.out
      have hql := Lib.hid (hl.out q (List.mem_of_getElem? hqi.out))
      replace hc2 := Lib.hid hc2
      clear hc1 hc3 hc4
      have hBr : Hid (Base wr) := hB.out.below hW.out hB.out.1
      obtain ⟨m, hm⟩ : ∃ m, Hid (q.length = m) := ⟨_, rfl⟩
      rw [hm.out] at hcell hrq hc2 hql
      obtain ⟨x, hx⟩ : ∃ x, Hid (x = sumOf s q) := ⟨_, rfl⟩
      have hxl : Hid (x.length = 32) := by show _ = _; rw [hx.out]; exact sumOf_len s q
      have hkey := Lib.hid (kl_eq hxl.out)
      have hsx : Hid ((Tryd.prog.info? 23).map (·.size) = some (cells8 x).toArray.size) := dig_size x hxl.out
      have hox := Lib.hid (dig_one x)
      have hz32 : Hid ((Z32 : Array Value).size = (cells8 x).toArray.size) := by show _ = _; simp [cells8_len, hxl.out, Z32]
      have hrun := Lib.hid (fun w' (hb : Below wr.heap.size wr w') => sumOf_any q m hm.out Ai ci w' (hBr.out.below hb (by have := hBr.out.1; omega)) (by have := hql.out.2; omega) (hrq.out.below hb) hc2.out)
      have hcut := Lib.hid (fun w' => cut_any (sum q) (sum_len q) s w')
      rw [show cutTo (sum q) (clampN s) = x from hx.out.symm] at hcut
      cases hh : Maps.has D (kl x) with
      | false =>
        replace hh := Lib.hid hh
        go_wp2_with (first
          | (go_at_call 65; refine (hrun.out _ (Below.refl _ _)).mono ?_; rintro e w1 ⟨rfl, hk1⟩; replace hk1 := Lib.hid hk1)
          | (go_at_call 64; refine (hcut.out _).mono ?_; rintro e w2 ⟨rfl, hk2⟩; have hb2 : Hid (Below wr.heap.size wr w2) := hk1.out.trans (hk2.mono hk1.out.size); clear hk1; have hZ2 : Hid (Blk (w2.alloc (.cells Z32 23)) w2.heap.size 23 Z32) := Blk.new _ _ _)
          | ((with_reducible change wpList _ _ _ ({ dst := none, op := Op.store 23 (.tmp 10) _, type := _, pos := _, after := _, guard := _ } :: _) _ _); refine wpList_store_whole (o := ⟨none, _, _, _, _, _⟩) rfl 23 (.tmp 10) (.tmp 24) rfl (w2.heap.size) ((cells8 x).toArray) rfl rfl 23 (Z32) hZ2.out hsx.out hz32.out hox.out ?_; intro w3 hX3 hk3; have hb3 : Hid (Below wr.heap.size wr w3) := (hb2.out.alloc hb2.out.size _).trans (Kept.below_of hk3 (by have := hb2.out.size; omega) (by have := hb2.out.size; simp; omega)); replace hX3 := Lib.hid hX3; have hown3 := Lib.hid (map_below hown.out hb3.out); clear hZ2 hk3 hb2)
          | ((with_reducible change wpList _ _ _ ({ dst := some 27, op := _, type := _, pos := _, after := _, guard := _ } :: _) _ _); refine wpList_load_row (o := ⟨some 27, _, _, _, _, _⟩) rfl 23 (.tmp 10) rfl (w2.heap.size) rfl 23 ((cells8 x).toArray) (0, 0) _ hX3.out Tryd.underlying23 rfl hsx.out ?_)
          | (at_lookup; refine wpList_lookup_own_ok_int _ rfl _ _ 164 rfl 23 3 .i64 law Tryd.underlying164 Tryd.underlying3 (zeroE _) w.heap.size j D rfl hown3.out _ (kl x) rfl hkey.out ?_; intro cc hat hwc; rw [hh.out])
          | ((with_reducible change wpList _ _ _ ({ dst := some 34, op := _, type := _, pos := _, after := _, guard := _ } :: _) _ _); refine wpList_load_row (o := ⟨some 34, _, _, _, _, _⟩) rfl 23 (.tmp 10) rfl (w2.heap.size) rfl 23 ((cells8 x).toArray) (0, 0) _ hX3.out Tryd.underlying23 rfl hsx.out ?_)
          | (at_mapUpdate; refine wpList_mapUpdate_own _ rfl _ _ _ 164 rfl 23 3 law Tryd.underlying164 _ w.heap.size j D rfl hown3.out (Nat.lt_trans hlt hnm.out) _ _ (kl x) rfl rfl hkey.out (.lit (.int .i64 (j : Int))) [] (plainElem_int Tryd.underlying3 (WalkArith.wf_i64 (by omega))) ?_; intro w4 hown4 hgrow4; replace hown4 := Lib.hid hown4; have hW4 : Hid (Below w.heap.size w w4) := (hW.out.trans (hb3.out.mono hW.out.size)).grown hgrow4 (by have := hW.out.size; have := hb3.out.size; omega) (fun k hk => by cases hk; exact Nat.le_refl _); clear hown3 hgrow4))
        exact ⟨⟨j + 1, rfl, (show j + 1 ≤ n by omega), ⟨_, hown4.out, by have := hinv.out.new (Maps.Tidy.isMap (hown.out.tidy law)) hqi.out (by rw [← hx.out]; exact hh.out); rw [← hx.out] at this; exact this⟩, hW4.out⟩, by simp [intOf]; omega⟩
      | true =>
        obtain ⟨i, p, hi1, hi2, hi3, hi4, hi5⟩ := hinv.out.2 x hxl.out hh
        replace hh := Lib.hid hh
        obtain ⟨Ap, cp, hp1, hp2, hp3, -⟩ := hcs.out i p hi2
        have hpl := Lib.hid (hl.out p (List.mem_of_getElem? hi2))
        obtain ⟨mp, hmp⟩ : ∃ mp, Hid (p.length = mp) := ⟨_, rfl⟩
        rw [hmp.out] at hp1 hp2 hp3 hpl
        have hy0 : (0 : Int) ≤ (i : Int) := by omega
        have hy : (i : Int) < (n : Int) := by omega
        have hcell2 := Lib.hid (fun w' (hb : Below wr.heap.size wr w') => (hb.cell (p := ⟨bA, o + i, none⟩) (Nat.lt_of_lt_of_le hbA hW.out.size)).trans ((hW.out.cell (p := ⟨bA, o + i, none⟩) hbA).trans hp1))
        have hrp : Hid (Reads wr 1 Ap mp (cells8 p)) := hp3.below hW.out
        replace hp2 := Lib.hid hp2
        have hEq := Lib.hid (fun w' (hb : Below wr.heap.size wr w') => equal8 p q mp m hmp.out hm.out Ap Ai cp ci w' (hrp.out.below hb) (hrq.out.below hb))
        clear hp1 hp3
        by_cases hpq : p = q
        · have hdec : Hid (decide (p = q) = true) := decide_eq_true hpq
          go_wp2_with (first
            | (go_at_call 65; refine (hrun.out _ (Below.refl _ _)).mono ?_; rintro e w1 ⟨rfl, hk1⟩; replace hk1 := Lib.hid hk1)
            | (go_at_call 64; refine (hcut.out _).mono ?_; rintro e w2 ⟨rfl, hk2⟩; have hb2 : Hid (Below wr.heap.size wr w2) := hk1.out.trans (hk2.mono hk1.out.size); clear hk1; have hZ2 : Hid (Blk (w2.alloc (.cells Z32 23)) w2.heap.size 23 Z32) := Blk.new _ _ _)
            | ((with_reducible change wpList _ _ _ ({ dst := none, op := Op.store 23 (.tmp 10) _, type := _, pos := _, after := _, guard := _ } :: _) _ _); refine wpList_store_whole (o := ⟨none, _, _, _, _, _⟩) rfl 23 (.tmp 10) (.tmp 24) rfl (w2.heap.size) ((cells8 x).toArray) rfl rfl 23 (Z32) hZ2.out hsx.out hz32.out hox.out ?_; intro w3 hX3 hk3; have hb3 : Hid (Below wr.heap.size wr w3) := (hb2.out.alloc hb2.out.size _).trans (Kept.below_of hk3 (by have := hb2.out.size; omega) (by have := hb2.out.size; simp; omega)); replace hX3 := Lib.hid hX3; have hown3 := Lib.hid (map_below hown.out hb3.out); have hcc2 := hcell2.out _ hb3.out; clear hZ2 hk3 hb2)
            | ((with_reducible change wpList _ _ _ ({ dst := some 27, op := _, type := _, pos := _, after := _, guard := _ } :: _) _ _); refine wpList_load_row (o := ⟨some 27, _, _, _, _, _⟩) rfl 23 (.tmp 10) rfl (w2.heap.size) rfl 23 ((cells8 x).toArray) (0, 0) _ hX3.out Tryd.underlying23 rfl hsx.out ?_)
            | (at_lookup; refine wpList_lookup_own_ok_int _ rfl _ _ 164 rfl 23 3 .i64 law Tryd.underlying164 Tryd.underlying3 (zeroE _) w.heap.size j D rfl hown3.out _ (kl x) rfl hkey.out ?_; intro cc hat hwc; rw [hh.out]; rw [hi4] at hat; injection hat with hat; injection hat with _ hat; subst hat; clear hwc)
            | (go_at_call 112; refine (hEq.out _ hb3.out).mono ?_; rintro e w5 ⟨rfl, rfl⟩; rw [hdec.out]))
          have hW3 : Hid (Below w.heap.size w w3) := hW.out.trans (hb3.out.mono hW.out.size)
          exact ⟨⟨j + 1, rfl, (show j + 1 ≤ n by omega), ⟨_, hown3.out.mono (Nat.le_succ _), hinv.out.old hqi.out hi1 (by rw [← hpq]; exact hi2)⟩, hW3.out⟩, by simp [intOf]; omega⟩
        · have hdec : Hid (decide (p = q) = false) := decide_eq_false hpq
          have hC1 := Lib.hid (fun w' (hb : Below wr.heap.size wr w') => clone8 p mp hmp.out (by have := hpl.out.1; omega) (by have := hpl.out.2; omega) Ap cp w' (hrp.out.below hb))
          have hC2 := Lib.hid (fun w' (hb : Below wr.heap.size wr w') => clone8 q m hm.out (by have := hql.out.1; omega) (by have := hql.out.2; omega) Ai ci w' (hrq.out.below hb))
          go_wp2_with (first
            | (go_at_call 65; refine (hrun.out _ (Below.refl _ _)).mono ?_; rintro e w1 ⟨rfl, hk1⟩; replace hk1 := Lib.hid hk1)
            | (go_at_call 64; refine (hcut.out _).mono ?_; rintro e w2 ⟨rfl, hk2⟩; have hb2 : Hid (Below wr.heap.size wr w2) := hk1.out.trans (hk2.mono hk1.out.size); clear hk1; have hZ2 : Hid (Blk (w2.alloc (.cells Z32 23)) w2.heap.size 23 Z32) := Blk.new _ _ _)
            | ((with_reducible change wpList _ _ _ ({ dst := none, op := Op.store 23 (.tmp 10) _, type := _, pos := _, after := _, guard := _ } :: _) _ _); refine wpList_store_whole (o := ⟨none, _, _, _, _, _⟩) rfl 23 (.tmp 10) (.tmp 24) rfl (w2.heap.size) ((cells8 x).toArray) rfl rfl 23 (Z32) hZ2.out hsx.out hz32.out hox.out ?_; intro w3 hX3 hk3; have hb3 : Hid (Below wr.heap.size wr w3) := (hb2.out.alloc hb2.out.size _).trans (Kept.below_of hk3 (by have := hb2.out.size; omega) (by have := hb2.out.size; simp; omega)); replace hX3 := Lib.hid hX3; have hown3 := Lib.hid (map_below hown.out hb3.out); have hcc2 := hcell2.out _ hb3.out; clear hZ2 hk3 hb2)
            | ((with_reducible change wpList _ _ _ ({ dst := some 27, op := _, type := _, pos := _, after := _, guard := _ } :: _) _ _); refine wpList_load_row (o := ⟨some 27, _, _, _, _, _⟩) rfl 23 (.tmp 10) rfl (w2.heap.size) rfl 23 ((cells8 x).toArray) (0, 0) _ hX3.out Tryd.underlying23 rfl hsx.out ?_)
            | (at_lookup; refine wpList_lookup_own_ok_int _ rfl _ _ 164 rfl 23 3 .i64 law Tryd.underlying164 Tryd.underlying3 (zeroE _) w.heap.size j D rfl hown3.out _ (kl x) rfl hkey.out ?_; intro cc hat hwc; rw [hh.out]; rw [hi4] at hat; injection hat with hat; injection hat with _ hat; subst hat; clear hwc)
            | (go_at_call 112; refine (hEq.out _ hb3.out).mono ?_; rintro e w5 ⟨rfl, rfl⟩; rw [hdec.out])
            | (go_at_call 113; refine (hC1.out _ hb3.out).mono ?_; rintro e w5 ⟨va, rfl, ho5, hk5⟩; clear hC1; obtain ⟨Aa, ca, rfl, -⟩ := own_reads ho5; have hb5 : Hid (Below wr.heap.size wr w5) := hb3.out.trans (hk5.mono hb3.out.size); replace ho5 := Lib.hid (own_base8 ho5 hb3.out.size); clear hk5)
            | (go_at_call 113; refine (hC2.out _ hb5.out).mono ?_; rintro e w6 ⟨vb, rfl, ho6, hk6⟩; clear hC2; obtain ⟨Ab, cb, rfl, -⟩ := own_reads ho6; have hb6 : Hid (Below wr.heap.size wr w6) := hb5.out.trans (hk6.mono hb5.out.size); replace ho6 := Lib.hid (own_base8 ho6 hb5.out.size); replace ho5 := Lib.hid (own_below ho5.out hk6); clear hk6))
          go_ret3
          refine ⟨hW.out.trans (hb6.out.mono hW.out.size), .inr ⟨_, _, p, q, rfl, List.mem_of_getElem? hi2, List.mem_of_getElem? hqi.out, hpq, by rw [hi3, hx.out], ?_, ?_⟩⟩
          · rw [hmp.out]; exact own_base8 ho5.out (by have := hW.out.size; omega)
          · rw [hm.out]; exact own_base8 ho6.out (by have := hW.out.size; omega)
    · have hjn : j = n := by have := hj.out; omega
      subst hjn
      have hzz : ¬ ((j : Int) < (j : Int)) := by omega
      go_wp2_with fail
      go_ret3
      refine ⟨hW.out, .inl ⟨rfl, ?_⟩⟩
      have h := hinv.out
      rw [← hn.out] at h
      exact h.done
end Go.Proofs.YtpgenpogjhpeoaaDoor.Clash

namespace Go.Proofs.YtpgenpogjhpeoaaDoor.MetW
open Go Go.RowKit Go.Proofs.YtpgenpogjhpeoaaDoor Go.Proofs.YtpgenpogjhpeoaaDoor.Mem Go.Proofs.YtpgenpogjhpeoaaDoor.Sha Go.Proofs.YtpgenpogjhpeoaaDoor.Bytes Go.Proofs.YtpgenpogjhpeoaaDoor.Append Go.Proofs.YtpgenpogjhpeoaaDoor.Own Go.Proofs.YtpgenpogjhpeoaaDoor.HashMem Go.Proofs.YtpgenpogjhpeoaaDoor.DigestMem Go.Proofs.YtpgenpogjhpeoaaDoor.Digest Go.Proofs.YtpgenpogjhpeoaaDoor.DigEq Go.Proofs.YtpgenpogjhpeoaaDoor.Same8 Go.Proofs.YtpgenpogjhpeoaaDoor.QuietTail Go.Proofs.YtpgenpogjhpeoaaDoor.Grown Go.Proofs.YtpgenpogjhpeoaaDoor.Want Go.Proofs.YtpgenpogjhpeoaaDoor.Held Go.Proofs.YtpgenpogjhpeoaaDoor.TwiceP Go.Proofs.YtpgenpogjhpeoaaDoor.ClashM Go.Proofs.YtpgenpogjhpeoaaDoor.Clash

theorem drewN_below (B : Nat) (w : World) (n : Nat) : Below B w (w.drewN n) := ⟨(Below.refl B w).os, (Below.refl B w).tape, (Below.refl B w).output, (Below.refl B w).size, (Below.refl B w).block⟩
theorem qD : Tryd.prog.eqGuardType Tryd.prog.depth 23 = false := by kernel_rfl
/-- Do two rows have at one place two unlike texts of one sum? -/
def MetHere (s : Int) (a b : List Text) (i : Nat) : Prop := ∃ p q, a[i]? = some p ∧ b[i]? = some q ∧ p ≠ q ∧ sumOf s p = sumOf s q

set_option maxRecDepth 100000 in
set_option maxHeartbeats 2000000 in
theorem met_any (s : Int) (a b : List Text) (n m : Nat) (hn : a.length = n) (hm : b.length = m) (hn47 : n < 140737488355328) (A B : Option Addr) (c d : Nat) (w : World) (hB : Base w) (hp : Pieces w A a) (hq : Pieces w B b) (hla : ∀ q ∈ a, q.length < 140737488355328) (hlb : ∀ q ∈ b, q.length < 140737488355328) (hM : MetAt s a b) :
    Calls Tryd.prog 23 #[.int .i64 s, .slice A n c, .slice B m d] w fun e w' => e = .returned (.bool true) ∧ Below w.heap.size w w' := by
  have hN : Hid ((n : Int) < 9223372036854775807) := by show _ < _; omega
  replace hn := Lib.hid hn
  replace hm := Lib.hid hm
  replace hB := Lib.hid hB
  replace hp := Lib.hid hp
  replace hq := Lib.hid hq
  replace hla := Lib.hid hla
  replace hlb := Lib.hid hlb
  replace hM := Lib.hid hM
  clear hn47
  go_enter Tryd.func23, Tryd.ntmps23
  go_wp2_with fail
  go_loopw [7] (fun v wr => ∃ j : Nat, v = .int .i64 (j : Int) ∧ Hid (∀ i, i < j → ¬ MetHere s a b i) ∧ Hid (Below w.heap.size w wr)) (fun v _ => n - (intOf v).toNat)
  case atStart => exact ⟨0, rfl, fun i hi => by omega, Below.refl _ _⟩
  case round =>
    obtain ⟨j, rfl, hno, hW⟩ := hrel
    have hjj : j < n ∧ j < m := by
      obtain ⟨i, p, q, h1, h2, h3, h4⟩ := hM.out
      have hi : ¬ i < j := fun h => hno.out i h ⟨p, q, h1, h2, h3, h4⟩
      have e1 := (List.getElem?_eq_some_iff.1 h1).1
      have e2 := (List.getElem?_eq_some_iff.1 h2).1
      have e3 := hn.out
      have e4 := hm.out
      exact ⟨by omega, by omega⟩
    obtain ⟨hjn, hjm⟩ := hjj
    have hz : (j : Int) < (n : Int) := by omega
    have hz1 : (j : Int) < (m : Int) := by omega
    have hz0 : (0 : Int) ≤ (j : Int) := by omega
    have hil : (j : Int) < 9223372036854775807 := by have := hN.out; omega
    obtain ⟨p, hpi⟩ : ∃ p, Hid (a[j]? = some p) := ⟨_, List.getElem?_eq_getElem (by rw [hn.out]; exact hjn)⟩
    obtain ⟨q, hqi⟩ : ∃ q, Hid (b[j]? = some q) := ⟨_, List.getElem?_eq_getElem (by rw [hm.out]; exact hjm)⟩
    obtain ⟨bA, oA, rfl, hbA, hcA⟩ := hp.out (by have := hn.out; omega)
    obtain ⟨bB, oB, rfl, hbB, hcB⟩ := hq.out (by have := hm.out; omega)
    obtain ⟨Ap, cp, hp1, hp2, hp3, -⟩ := hcA j p hpi.out
    obtain ⟨Aq, cq, hq1, hq2, hq3, -⟩ := hcB j q hqi.out
    have hpl := Lib.hid (hla.out p (List.mem_of_getElem? hpi.out))
    have hql := Lib.hid (hlb.out q (List.mem_of_getElem? hqi.out))
    obtain ⟨kp, hkp⟩ : ∃ k, Hid (p.length = k) := ⟨_, rfl⟩
    obtain ⟨kq, hkq⟩ : ∃ k, Hid (q.length = k) := ⟨_, rfl⟩
    rw [hkp.out] at hp1 hp2 hp3 hpl
    rw [hkq.out] at hq1 hq2 hq3 hql
    have hcp := Lib.hid (fun w' (hb : Below wr.heap.size wr w') => (hb.cell (p := ⟨bA, oA + j, none⟩) (Nat.lt_of_lt_of_le hbA hW.out.size)).trans ((hW.out.cell (p := ⟨bA, oA + j, none⟩) hbA).trans hp1))
    have hcq := Lib.hid (fun w' (hb : Below wr.heap.size wr w') => (hb.cell (p := ⟨bB, oB + j, none⟩) (Nat.lt_of_lt_of_le hbB hW.out.size)).trans ((hW.out.cell (p := ⟨bB, oB + j, none⟩) hbB).trans hq1))
    have hrp : Hid (Reads wr 1 Ap kp (cells8 p)) := hp3.below hW.out
    have hrq : Hid (Reads wr 1 Aq kq (cells8 q)) := hq3.below hW.out
    replace hp2 := Lib.hid hp2
    replace hq2 := Lib.hid hq2
    have hBr : Hid (Base wr) := hB.out.below hW.out hB.out.1
    clear hcA hcB hp1 hq1 hp3 hq3
    have hSm := Lib.hid (fun w' (hw : Class wr w') => (same8_any p q kp kq hkp.out hkq.out (by have := hpl.out; omega) Ap Aq cp cq w' (hrp.out.below hw.below) (hrq.out.below hw.below)).mono fun e w'' (h : e = .returned (.bool (decide (p = q))) ∧ ∃ n, w'' = w'.drewN n) => (show e = .returned (.bool (decide (p = q))) ∧ Class wr w'' by obtain ⟨h1, n1, rfl⟩ := h; exact ⟨h1, hw.next (drewN_below _ _ _)⟩))
    have hS1 := Lib.hid (fun w' (hw : Class wr w') => (sumOf_any p kp hkp.out Ap cp w' (hBr.out.below hw.below (by have := hBr.out.1; omega)) (by have := hpl.out; omega) (hrp.out.below hw.below) hp2.out).mono fun e w'' (h : e = .returned (.agg (cells8 (sum p)).toArray) ∧ Below w'.heap.size w' w'') => (show e = .returned (.agg (cells8 (sum p)).toArray) ∧ Class wr w'' from ⟨h.1, hw.next h.2⟩))
    have hS2 := Lib.hid (fun w' (hw : Class wr w') => (sumOf_any q kq hkq.out Aq cq w' (hBr.out.below hw.below (by have := hBr.out.1; omega)) (by have := hql.out; omega) (hrq.out.below hw.below) hq2.out).mono fun e w'' (h : e = .returned (.agg (cells8 (sum q)).toArray) ∧ Below w'.heap.size w' w'') => (show e = .returned (.agg (cells8 (sum q)).toArray) ∧ Class wr w'' from ⟨h.1, hw.next h.2⟩))
    have hC1 := Lib.hid (fun w' (hw : Class wr w') => (cut_any (sum p) (sum_len p) s w').mono fun e w'' (h : e = .returned (.agg (cells8 (cutTo (sum p) (clampN s))).toArray) ∧ Below w'.heap.size w' w'') => (show e = .returned (.agg (cells8 (cutTo (sum p) (clampN s))).toArray) ∧ Class wr w'' from ⟨h.1, hw.next h.2⟩))
    have hC2 := Lib.hid (fun w' (hw : Class wr w') => (cut_any (sum q) (sum_len q) s w').mono fun e w'' (h : e = .returned (.agg (cells8 (cutTo (sum q) (clampN s))).toArray) ∧ Below w'.heap.size w' w'') => (show e = .returned (.agg (cells8 (cutTo (sum q) (clampN s))).toArray) ∧ Class wr w'' from ⟨h.1, hw.next h.2⟩))
    obtain ⟨x, hx⟩ : ∃ x, Hid (x = cutTo (sum p) (clampN s)) := ⟨_, rfl⟩
    obtain ⟨y, hy⟩ : ∃ y, Hid (y = cutTo (sum q) (clampN s)) := ⟨_, rfl⟩
    have hxl : Hid (x.length = 32) := by show _ = _; rw [hx.out]; exact sumOf_len s p
    have hyl : Hid (y.length = 32) := by show _ = _; rw [hy.out]; exact sumOf_len s q
    rw [← hx.out] at hC1
    rw [← hy.out] at hC2
    by_cases hpq : p = q
    · have hdec : Hid (decide (p = q) = true) := decide_eq_true hpq
      rw [hdec.out] at hSm
      go_wp2_with fail
      refine q_region (Class wr) (by kernel_rfl) (by kernel_rfl) (Class.mk_ ((Below.refl _ _).drew)) ?_
      refine q_move rfl (.tmp 1) rfl ?_
      (intro K hK; go_simp; refine hK _ ?_; clear hK K)
      refine q_move rfl (.tmp 7) rfl ?_
      (intro K hK; go_simp; refine hK _ ?_; clear hK K)
      refine q_val (v := .pointer (some ⟨bA, oA + j, none⟩)) rfl (fun w' hw' => by go_simp) ?_
      (intro K hK; go_simp; refine hK _ ?_; clear hK K)
      refine q_val (v := .slice Ap kp cp) rfl (fun w' hw' => by have hc := hcp.out w' hw'.below; go_simp) ?_
      (intro K hK; go_simp; refine hK _ ?_; clear hK K)
      refine q_move rfl (.tmp 2) rfl ?_
      (intro K hK; go_simp; refine hK _ ?_; clear hK K)
      refine q_move rfl (.tmp 7) rfl ?_
      (intro K hK; go_simp; refine hK _ ?_; clear hK K)
      refine q_val (v := .pointer (some ⟨bB, oB + j, none⟩)) rfl (fun w' hw' => by go_simp) ?_
      (intro K hK; go_simp; refine hK _ ?_; clear hK K)
      refine q_val (v := .slice Aq kq cq) rfl (fun w' hw' => by have hc := hcq.out w' hw'.below; go_simp) ?_
      (intro K hK; go_simp; refine hK _ ?_; clear hK K)
      refine q_fn (v := .bool true) (args := #[.slice Ap kp cp, .slice Aq kq cq]) rfl _ _ rfl rfl Tryd.func61 (by kernel_rfl) (by kernel_rfl) (fun w' hw' => hSm.out w' hw') ?_
      (intro K hK; go_simp; refine hK _ ?_; clear hK K)
      refine q_val (v := .bool false) rfl (fun w' hw' => by go_simp) ?_
      (intro K hK; go_simp; refine hK _ ?_; clear hK K)
      refine q_val (v := .bool false) rfl (fun w' hw' => by go_simp) ?_
      (intro K hK; go_simp; refine hK _ ?_; clear hK K)
      refine q_skip rfl ?_
      (intro K hK; go_simp; refine hK _ ?_; clear hK K)
      refine q_skip rfl ?_
      (intro K hK; go_simp; refine hK _ ?_; clear hK K)
      refine q_skip rfl ?_
      (intro K hK; go_simp; refine hK _ ?_; clear hK K)
      refine q_skip rfl ?_
      (intro K hK; go_simp; refine hK _ ?_; clear hK K)
      refine q_skip rfl ?_
      (intro K hK; go_simp; refine hK _ ?_; clear hK K)
      refine q_skip rfl ?_
      (intro K hK; go_simp; refine hK _ ?_; clear hK K)
      refine q_skip rfl ?_
      (intro K hK; go_simp; refine hK _ ?_; clear hK K)
      refine q_skip rfl ?_
      (intro K hK; go_simp; refine hK _ ?_; clear hK K)
      refine q_skip rfl ?_
      (intro K hK; go_simp; refine hK _ ?_; clear hK K)
      refine q_skip rfl ?_
      (intro K hK; go_simp; refine hK _ ?_; clear hK K)
      refine q_skip rfl ?_
      (intro K hK; go_simp; refine hK _ ?_; clear hK K)
      refine q_skip rfl ?_
      (intro K hK; go_simp; refine hK _ ?_; clear hK K)
      refine q_skip rfl ?_
      (intro K hK; go_simp; refine hK _ ?_; clear hK K)
      refine q_skip rfl ?_
      (intro K hK; go_simp; refine hK _ ?_; clear hK K)
      refine q_skip rfl ?_
      (intro K hK; go_simp; refine hK _ ?_; clear hK K)
      refine q_val (v := .bool false) rfl (fun w' hw' => by go_simp) ?_
      (intro K hK; go_simp; refine hK _ ?_; clear hK K)
      refine q_nil ?_
      intro w2 hw2
      have hW2 : Hid (Below w.heap.size w w2) := hW.out.trans (hw2.below.mono hW.out.size)
      go_wp2_with fail
      exact ⟨⟨j + 1, rfl, fun i hi => by
        rcases Nat.lt_or_ge i j with h | h
        · exact hno.out i h
        · obtain rfl : i = j := by omega
          rintro ⟨p', q', h1, h2, h3, -⟩
          rw [hpi.out] at h1
          rw [hqi.out] at h2
          exact h3 (by rw [← Option.some.inj h1, ← Option.some.inj h2]; exact hpq), hW2.out⟩, by simp [intOf]; omega⟩
    · have hdec : Hid (decide (p = q) = false) := decide_eq_false hpq
      rw [hdec.out] at hSm
      by_cases hxy : x = y
      · have hd2 : Hid (decide (x = y) = true) := decide_eq_true hxy
        clear hxy
        go_wp2_with fail
        refine q_region (Class wr) (by kernel_rfl) (by kernel_rfl) (Class.mk_ ((Below.refl _ _).drew)) ?_
        refine q_move rfl (.tmp 1) rfl ?_
        (intro K hK; go_simp; refine hK _ ?_; clear hK K)
        refine q_move rfl (.tmp 7) rfl ?_
        (intro K hK; go_simp; refine hK _ ?_; clear hK K)
        refine q_val (v := .pointer (some ⟨bA, oA + j, none⟩)) rfl (fun w' hw' => by go_simp) ?_
        (intro K hK; go_simp; refine hK _ ?_; clear hK K)
        refine q_val (v := .slice Ap kp cp) rfl (fun w' hw' => by have hc := hcp.out w' hw'.below; go_simp) ?_
        (intro K hK; go_simp; refine hK _ ?_; clear hK K)
        refine q_move rfl (.tmp 2) rfl ?_
        (intro K hK; go_simp; refine hK _ ?_; clear hK K)
        refine q_move rfl (.tmp 7) rfl ?_
        (intro K hK; go_simp; refine hK _ ?_; clear hK K)
        refine q_val (v := .pointer (some ⟨bB, oB + j, none⟩)) rfl (fun w' hw' => by go_simp) ?_
        (intro K hK; go_simp; refine hK _ ?_; clear hK K)
        refine q_val (v := .slice Aq kq cq) rfl (fun w' hw' => by have hc := hcq.out w' hw'.below; go_simp) ?_
        (intro K hK; go_simp; refine hK _ ?_; clear hK K)
        refine q_fn (v := .bool false) (args := #[.slice Ap kp cp, .slice Aq kq cq]) rfl _ _ rfl rfl Tryd.func61 (by kernel_rfl) (by kernel_rfl) (fun w' hw' => hSm.out w' hw') ?_
        (intro K hK; go_simp; refine hK _ ?_; clear hK K)
        refine q_val (v := .bool true) rfl (fun w' hw' => by go_simp) ?_
        (intro K hK; go_simp; refine hK _ ?_; clear hK K)
        refine q_val (v := .bool true) rfl (fun w' hw' => by go_simp) ?_
        (intro K hK; go_simp; refine hK _ ?_; clear hK K)
        refine q_move rfl (.tmp 1) rfl ?_
        (intro K hK; go_simp; refine hK _ ?_; clear hK K)
        refine q_move rfl (.tmp 7) rfl ?_
        (intro K hK; go_simp; refine hK _ ?_; clear hK K)
        refine q_val (v := .pointer (some ⟨bA, oA + j, none⟩)) rfl (fun w' hw' => by go_simp) ?_
        (intro K hK; go_simp; refine hK _ ?_; clear hK K)
        refine q_val (v := .slice Ap kp cp) rfl (fun w' hw' => by have hc := hcp.out w' hw'.below; go_simp) ?_
        (intro K hK; go_simp; refine hK _ ?_; clear hK K)
        refine q_fn (v := .agg (cells8 (sum p)).toArray) (args := #[.slice Ap kp cp]) rfl _ _ rfl rfl Tryd.func65 (by kernel_rfl) (by kernel_rfl) (fun w' hw' => hS1.out w' hw') ?_
        (intro K hK; go_simp; refine hK _ ?_; clear hK K)
        refine q_move rfl (.tmp 0) rfl ?_
        (intro K hK; go_simp; refine hK _ ?_; clear hK K)
        refine q_fn (v := .agg (cells8 x).toArray) (args := #[.agg (cells8 (sum p)).toArray, .int .i64 s]) rfl _ _ rfl rfl Tryd.func64 (by kernel_rfl) (by kernel_rfl) (fun w' hw' => hC1.out w' hw') ?_
        (intro K hK; go_simp; refine hK _ ?_; clear hK K)
        refine q_move rfl (.tmp 2) rfl ?_
        (intro K hK; go_simp; refine hK _ ?_; clear hK K)
        refine q_move rfl (.tmp 7) rfl ?_
        (intro K hK; go_simp; refine hK _ ?_; clear hK K)
        refine q_val (v := .pointer (some ⟨bB, oB + j, none⟩)) rfl (fun w' hw' => by go_simp) ?_
        (intro K hK; go_simp; refine hK _ ?_; clear hK K)
        refine q_val (v := .slice Aq kq cq) rfl (fun w' hw' => by have hc := hcq.out w' hw'.below; go_simp) ?_
        (intro K hK; go_simp; refine hK _ ?_; clear hK K)
        refine q_fn (v := .agg (cells8 (sum q)).toArray) (args := #[.slice Aq kq cq]) rfl _ _ rfl rfl Tryd.func65 (by kernel_rfl) (by kernel_rfl) (fun w' hw' => hS2.out w' hw') ?_
        (intro K hK; go_simp; refine hK _ ?_; clear hK K)
        refine q_move rfl (.tmp 0) rfl ?_
        (intro K hK; go_simp; refine hK _ ?_; clear hK K)
        refine q_fn (v := .agg (cells8 y).toArray) (args := #[.agg (cells8 (sum q)).toArray, .int .i64 s]) rfl _ _ rfl rfl Tryd.func64 (by kernel_rfl) (by kernel_rfl) (fun w' hw' => hC2.out w' hw') ?_
        (intro K hK; go_simp; refine hK _ ?_; clear hK K)
        refine q_val (v := .bool true) rfl (fun w' hw' => run_cmp rfl rfl rfl qD ((eql_dig x y hxl.out hyl.out w').trans (by rw [hd2.out]))) ?_
        (intro K hK; go_simp; refine hK _ ?_; clear hK K)
        refine q_val (v := .bool true) rfl (fun w' hw' => by go_simp) ?_
        (intro K hK; go_simp; refine hK _ ?_; clear hK K)
        refine q_nil ?_
        intro w2 hw2
        have hW2 : Hid (Below w.heap.size w w2) := hW.out.trans (hw2.below.mono hW.out.size)
        go_wp2_with fail
        go_ret
        exact ⟨rfl, hW2.out⟩
      · have hd2 : Hid (decide (x = y) = false) := decide_eq_false hxy
        go_wp2_with fail
        refine q_region (Class wr) (by kernel_rfl) (by kernel_rfl) (Class.mk_ ((Below.refl _ _).drew)) ?_
        refine q_move rfl (.tmp 1) rfl ?_
        (intro K hK; go_simp; refine hK _ ?_; clear hK K)
        refine q_move rfl (.tmp 7) rfl ?_
        (intro K hK; go_simp; refine hK _ ?_; clear hK K)
        refine q_val (v := .pointer (some ⟨bA, oA + j, none⟩)) rfl (fun w' hw' => by go_simp) ?_
        (intro K hK; go_simp; refine hK _ ?_; clear hK K)
        refine q_val (v := .slice Ap kp cp) rfl (fun w' hw' => by have hc := hcp.out w' hw'.below; go_simp) ?_
        (intro K hK; go_simp; refine hK _ ?_; clear hK K)
        refine q_move rfl (.tmp 2) rfl ?_
        (intro K hK; go_simp; refine hK _ ?_; clear hK K)
        refine q_move rfl (.tmp 7) rfl ?_
        (intro K hK; go_simp; refine hK _ ?_; clear hK K)
        refine q_val (v := .pointer (some ⟨bB, oB + j, none⟩)) rfl (fun w' hw' => by go_simp) ?_
        (intro K hK; go_simp; refine hK _ ?_; clear hK K)
        refine q_val (v := .slice Aq kq cq) rfl (fun w' hw' => by have hc := hcq.out w' hw'.below; go_simp) ?_
        (intro K hK; go_simp; refine hK _ ?_; clear hK K)
        refine q_fn (v := .bool false) (args := #[.slice Ap kp cp, .slice Aq kq cq]) rfl _ _ rfl rfl Tryd.func61 (by kernel_rfl) (by kernel_rfl) (fun w' hw' => hSm.out w' hw') ?_
        (intro K hK; go_simp; refine hK _ ?_; clear hK K)
        refine q_val (v := .bool true) rfl (fun w' hw' => by go_simp) ?_
        (intro K hK; go_simp; refine hK _ ?_; clear hK K)
        refine q_val (v := .bool true) rfl (fun w' hw' => by go_simp) ?_
        (intro K hK; go_simp; refine hK _ ?_; clear hK K)
        refine q_move rfl (.tmp 1) rfl ?_
        (intro K hK; go_simp; refine hK _ ?_; clear hK K)
        refine q_move rfl (.tmp 7) rfl ?_
        (intro K hK; go_simp; refine hK _ ?_; clear hK K)
        refine q_val (v := .pointer (some ⟨bA, oA + j, none⟩)) rfl (fun w' hw' => by go_simp) ?_
        (intro K hK; go_simp; refine hK _ ?_; clear hK K)
        refine q_val (v := .slice Ap kp cp) rfl (fun w' hw' => by have hc := hcp.out w' hw'.below; go_simp) ?_
        (intro K hK; go_simp; refine hK _ ?_; clear hK K)
        refine q_fn (v := .agg (cells8 (sum p)).toArray) (args := #[.slice Ap kp cp]) rfl _ _ rfl rfl Tryd.func65 (by kernel_rfl) (by kernel_rfl) (fun w' hw' => hS1.out w' hw') ?_
        (intro K hK; go_simp; refine hK _ ?_; clear hK K)
        refine q_move rfl (.tmp 0) rfl ?_
        (intro K hK; go_simp; refine hK _ ?_; clear hK K)
        refine q_fn (v := .agg (cells8 x).toArray) (args := #[.agg (cells8 (sum p)).toArray, .int .i64 s]) rfl _ _ rfl rfl Tryd.func64 (by kernel_rfl) (by kernel_rfl) (fun w' hw' => hC1.out w' hw') ?_
        (intro K hK; go_simp; refine hK _ ?_; clear hK K)
        refine q_move rfl (.tmp 2) rfl ?_
        (intro K hK; go_simp; refine hK _ ?_; clear hK K)
        refine q_move rfl (.tmp 7) rfl ?_
        (intro K hK; go_simp; refine hK _ ?_; clear hK K)
        refine q_val (v := .pointer (some ⟨bB, oB + j, none⟩)) rfl (fun w' hw' => by go_simp) ?_
        (intro K hK; go_simp; refine hK _ ?_; clear hK K)
        refine q_val (v := .slice Aq kq cq) rfl (fun w' hw' => by have hc := hcq.out w' hw'.below; go_simp) ?_
        (intro K hK; go_simp; refine hK _ ?_; clear hK K)
        refine q_fn (v := .agg (cells8 (sum q)).toArray) (args := #[.slice Aq kq cq]) rfl _ _ rfl rfl Tryd.func65 (by kernel_rfl) (by kernel_rfl) (fun w' hw' => hS2.out w' hw') ?_
        (intro K hK; go_simp; refine hK _ ?_; clear hK K)
        refine q_move rfl (.tmp 0) rfl ?_
        (intro K hK; go_simp; refine hK _ ?_; clear hK K)
        refine q_fn (v := .agg (cells8 y).toArray) (args := #[.agg (cells8 (sum q)).toArray, .int .i64 s]) rfl _ _ rfl rfl Tryd.func64 (by kernel_rfl) (by kernel_rfl) (fun w' hw' => hC2.out w' hw') ?_
        (intro K hK; go_simp; refine hK _ ?_; clear hK K)
        refine q_val (v := .bool false) rfl (fun w' hw' => run_cmp rfl rfl rfl qD ((eql_dig x y hxl.out hyl.out w').trans (by rw [hd2.out]))) ?_
        (intro K hK; go_simp; refine hK _ ?_; clear hK K)
        refine q_val (v := .bool false) rfl (fun w' hw' => by go_simp) ?_
        (intro K hK; go_simp; refine hK _ ?_; clear hK K)
        refine q_nil ?_
        intro w2 hw2
        have hW2 : Hid (Below w.heap.size w w2) := hW.out.trans (hw2.below.mono hW.out.size)
        go_wp2_with fail
        exact ⟨⟨j + 1, rfl, fun i hi => by
          rcases Nat.lt_or_ge i j with h | h
          · exact hno.out i h
          · obtain rfl : i = j := by omega
            rintro ⟨p', q', h1, h2, -, h4⟩
            rw [hpi.out] at h1
            rw [hqi.out] at h2
            obtain rfl := Option.some.inj h1
            obtain rfl := Option.some.inj h2
            exact hxy (by rw [hx.out, hy.out]; exact h4), hW2.out⟩, by simp [intOf]; omega⟩

set_option maxRecDepth 100000 in
set_option maxHeartbeats 2000000 in
theorem among_any (s : Int) (ts : List Text) (n : Nat) (hn : ts.length = n) (hn47 : n < 140737488355328) (A : Option Addr) (c : Nat) (w : World) (hB : Base w) (hp : Pieces w A ts) (hl : ∀ q ∈ ts, 0 < q.length ∧ q.length < 140737488355328) (hM : TwiceP.Met s ts) :
    Calls Tryd.prog 24 #[.int .i64 s, .slice A n c] w fun e w' => e = .returned (.bool true) ∧ Below w.heap.size w w' := by
  replace hB := Lib.hid hB
  replace hl := Lib.hid hl
  replace hM := Lib.hid hM
  have hCl := Lib.hid (clash_any s ts n hn hn47 A c w hB.out hp hl.out)
  clear hn hn47 hp
  go_enter Tryd.func24, Tryd.ntmps24
  go_wp2_with (first
    | (go_at_call 66; refine hCl.out.mono ?_; rintro e w1 ⟨hk1, h1⟩; rcases h1 with ⟨-, h1⟩ | ⟨va, vb, p, q, rfl, hpm, hqm, hpq, hs, ho1, ho2⟩; exact absurd hM.out h1; clear hCl; obtain ⟨Ap, cp, rfl, hcp, -, hrp, -⟩ := own_reads ho1; obtain ⟨Aq, cq, rfl, hcq, -, hrq, -⟩ := own_reads ho2; have hpl := Lib.hid (hl.out p hpm); have hql := Lib.hid (hl.out q hqm); obtain ⟨kp, hkp⟩ : ∃ k, Hid (p.length = k) := ⟨_, rfl⟩; obtain ⟨kq, hkq⟩ : ∃ k, Hid (q.length = k) := ⟨_, rfl⟩; rw [hkp.out] at hcp hrp hpl ⊢; rw [hkq.out] at hcq hrq hql ⊢; replace hrp := Lib.hid hrp; replace hrq := Lib.hid hrq; replace hcp := Lib.hid hcp; replace hcq := Lib.hid hcq; have hdec : Hid (decide (p = q) = false) := decide_eq_false hpq; obtain ⟨x, hx⟩ : ∃ x, Hid (cutTo (sum p) (clampN s) = x) := ⟨_, rfl⟩; have hxl : Hid (x.length = 32) := (by show _ = _; rw [← hx.out]; exact sumOf_len s p); have hy : Hid (cutTo (sum q) (clampN s) = x) := hs.symm.trans hx.out; have heq := eql_dig x x hxl.out hxl.out; simp only [decide_true] at heq; have hB1 := Lib.hid (hB.out.below hk1 hB.out.1);
       have hSm := Lib.hid (same8_any p q kp kq hkp.out hkq.out (by have := hpl.out; omega) Ap Aq cp cq w1 hrp.out hrq.out); rw [hdec.out] at hSm;
       have hS1 := Lib.hid (fun w' (hb : Below w1.heap.size w1 w') => sumOf_any p kp hkp.out Ap cp w' (hB1.out.below hb hB1.out.1) (by have := hpl.out; omega) (hrp.out.below hb) hcp.out);
       have hS2 := Lib.hid (fun w' (hb : Below w1.heap.size w1 w') => sumOf_any q kq hkq.out Aq cq w' (hB1.out.below hb hB1.out.1) (by have := hql.out; omega) (hrq.out.below hb) hcq.out);
       have hC1 := Lib.hid (fun w' => cut_any (sum p) (sum_len p) s w'); rw [hx.out] at hC1;
       have hC2 := Lib.hid (fun w' => cut_any (sum q) (sum_len q) s w'); rw [hy.out] at hC2;
       replace hk1 := Lib.hid hk1; clear ho1 ho2 hpm hqm hpq hs)
    | (go_at_call 61; refine hSm.out.mono ?_; rintro e w2 ⟨rfl, n2, rfl⟩; have hb2 : Hid (Below w1.heap.size w1 (w1.drewN n2)) := drewN_below _ _ _; clear hSm)
    | (go_at_call 65; refine (hS1.out _ hb2.out).mono ?_; rintro e w3 ⟨rfl, hk3⟩; have hb3 : Hid (Below w1.heap.size w1 w3) := hb2.out.trans (hk3.mono hb2.out.size); clear hS1 hk3 hb2)
    | (go_at_call 64; refine (hC1.out _).mono ?_; rintro e w4 ⟨rfl, hk4⟩; have hb4 : Hid (Below w1.heap.size w1 w4) := hb3.out.trans (hk4.mono hb3.out.size); clear hC1 hk4 hb3)
    | (go_at_call 65; refine (hS2.out _ hb4.out).mono ?_; rintro e w5 ⟨rfl, hk5⟩; have hb5 : Hid (Below w1.heap.size w1 w5) := hb4.out.trans (hk5.mono hb4.out.size); clear hS2 hk5 hb4)
    | (go_at_call 64; refine (hC2.out _).mono ?_; rintro e w6 ⟨rfl, hk6⟩; have hb6 : Hid (Below w1.heap.size w1 w6) := hb5.out.trans (hk6.mono hb5.out.size); clear hC2 hk6 hb5))
  go_ret
  exact ⟨rfl, hk1.out.trans (hb6.out.mono hk1.out.size)⟩
end Go.Proofs.YtpgenpogjhpeoaaDoor.MetW

namespace Go.Proofs.YtpgenpogjhpeoaaDoor.TreeTwice
open Go Go.RowKit Go.Proofs.YtpgenpogjhpeoaaDoor Go.Proofs.YtpgenpogjhpeoaaDoor.Digest Go.Proofs.YtpgenpogjhpeoaaDoor.Mem Go.Proofs.YtpgenpogjhpeoaaDoor.Sha Go.Proofs.YtpgenpogjhpeoaaDoor.ShaWalk Go.Proofs.YtpgenpogjhpeoaaDoor.Bytes Go.Proofs.YtpgenpogjhpeoaaDoor.HashMem Go.Proofs.YtpgenpogjhpeoaaDoor.DigestMem Go.Proofs.YtpgenpogjhpeoaaDoor.DigestTop Go.Proofs.YtpgenpogjhpeoaaDoor.RefTop Go.Proofs.YtpgenpogjhpeoaaDoor.QuietTail Go.Proofs.YtpgenpogjhpeoaaDoor.Grown Go.Proofs.YtpgenpogjhpeoaaDoor.Chain Go.Proofs.YtpgenpogjhpeoaaDoor.TreeMath Go.Proofs.YtpgenpogjhpeoaaDoor.TreeMem Go.Proofs.YtpgenpogjhpeoaaDoor.TreeRoot Go.Proofs.YtpgenpogjhpeoaaDoor.Append Go.Proofs.YtpgenpogjhpeoaaDoor.Own Go.Proofs.YtpgenpogjhpeoaaDoor.Book Go.Proofs.YtpgenpogjhpeoaaDoor.Book2 Go.Proofs.YtpgenpogjhpeoaaDoor.DigEq Go.Proofs.YtpgenpogjhpeoaaDoor.TreeRefRoot Go.Proofs.YtpgenpogjhpeoaaDoor.Held Go.Proofs.YtpgenpogjhpeoaaDoor.Node Go.Proofs.YtpgenpogjhpeoaaDoor.Sides Go.Proofs.YtpgenpogjhpeoaaDoor.WayP Go.Proofs.YtpgenpogjhpeoaaDoor.Climb Go.Proofs.YtpgenpogjhpeoaaDoor.Incl Go.Proofs.YtpgenpogjhpeoaaDoor.InclAny Go.Proofs.YtpgenpogjhpeoaaDoor.Include Go.Proofs.YtpgenpogjhpeoaaDoor.Climbs Go.Proofs.YtpgenpogjhpeoaaDoor.Texts Go.Proofs.YtpgenpogjhpeoaaDoor.AheadT Go.Proofs.YtpgenpogjhpeoaaDoor.RowsT Go.Proofs.YtpgenpogjhpeoaaDoor.Guard Go.Proofs.YtpgenpogjhpeoaaDoor.Guard2 Go.Proofs.YtpgenpogjhpeoaaDoor.Want Go.Proofs.YtpgenpogjhpeoaaDoor.TwiceP Go.Proofs.YtpgenpogjhpeoaaDoor.ClashM Go.Proofs.YtpgenpogjhpeoaaDoor.Clash Go.Proofs.YtpgenpogjhpeoaaDoor.MetW

theorem _root_.Go.Proofs.YtpgenpogjhpeoaaDoor.Mem.Blk.onW {w w' : World} {g : Nat} {t : TypeId} {cs : Array Value} (h : Blk w g t cs) (hb : Below w.heap.size w w') : Blk w' g t cs := (hb.block g h.lt).trans h
/-- A climb that is taken: as many texts as digests, each of 65 bytes; few of them. -/
theorem incl_taken {s size i : Int} {leaf : Text} {ds : List Text} (hl : leaf.length = 32) (hd : Digs ds) (h : (inclOf s size i leaf [] ds).2.1 = 0) :
    ds.length ≤ 40 ∧ (sides size.toNat i.toNat).length = ds.length ∧ inclOf s size i leaf [] ds = ((climbN s (leaf, []) ((sides size.toNat i.toNat).zip ds) ds.length).1, 0, (climbN s (leaf, []) ((sides size.toNat i.toNat).zip ds) ds.length).2) ∧ (inclOf s size i leaf [] ds).2.2.length = ds.length ∧ ∀ q ∈ (inclOf s size i leaf [] ds).2.2, q.length = 65 := by
  have hin : insideB size i = true := by
    cases hin : insideB size i with
    | true => rfl
    | false =>
      unfold inclOf at h
      rw [if_pos hin] at h
      exact absurd h (by decide)
  have hif : ¬ insideB size i = false := by rw [hin]; decide
  unfold inclOf at h ⊢
  rw [if_neg hif] at h ⊢
  obtain ⟨h1, h2, h3, h4⟩ := insideB_true hin
  by_cases hn : (sides size.toNat i.toNat).length ≠ ds.length
  · rw [if_pos hn] at h; exact absurd h (by decide)
  · rw [if_neg hn] at h ⊢
    have hn : (sides size.toNat i.toNat).length = ds.length := by omega
    have h40 : (2 : Nat) ^ 40 = 1099511627776 := by decide
    have hs := sides_len (n := size.toNat) (j := i.toNat) (L := 40) (by omega) (by omega)
    have hz : ((sides size.toNat i.toNat).zip ds).length = ds.length := by rw [List.length_zip]; omega
    refine ⟨by omega, hn, rfl, ?_, ?_⟩
    · rw [show _ = _ from (climbN_len (s := s) (st := (leaf, [])) (l := (sides size.toNat i.toNat).zip ds) hl ds.length (by omega)).2]; simp
    · exact climbN_long hl (fun q h => by cases h) (fun p hp => hd _ (List.of_mem_zip (show (p.1, p.2) ∈ _ from hp)).2) ds.length (by omega)
/-- Two that are taken and lead to one sum: the same, or two texts meet. -/
theorem incl_meet {s size i : Int} {x y : Text} {ds es : List Text} (hx : x.length = 32) (hy : y.length = 32) (hd : Digs ds) (he : Digs es) (h1 : (inclOf s size i x [] ds).2.1 = 0) (h2 : (inclOf s size i y [] es).2.1 = 0) (h : (inclOf s size i x [] ds).1 = (inclOf s size i y [] es).1)
    (hne : ¬ (x = y ∧ ds = es)) : MetAt s (inclOf s size i x [] ds).2.2 (inclOf s size i y [] es).2.2 := by
  obtain ⟨-, a1, a2, -⟩ := incl_taken hx hd h1
  obtain ⟨-, b1, b2, -⟩ := incl_taken hy he h2
  have hl : ds.length = es.length := by omega
  rw [a2, b2] at h ⊢
  have z1 : ((sides size.toNat i.toNat).zip ds).length = ds.length := by rw [List.length_zip]; omega
  have z2 : ((sides size.toNat i.toNat).zip es).length = es.length := by rw [List.length_zip]; omega
  rw [← hl] at h ⊢
  rcases climb_meet s hx hy (P := (sides size.toNat i.toNat).zip ds) (Q := (sides size.toNat i.toNat).zip es) (fun p hp => hd _ (List.of_mem_zip (show (p.1, p.2) ∈ _ from hp)).2) (fun p hp => he _ (List.of_mem_zip (show (p.1, p.2) ∈ _ from hp)).2) (by omega) (fun j p q hp hq => by
    have e1 := List.getElem?_zip_eq_some.1 hp
    have e2 := List.getElem?_zip_eq_some.1 hq
    exact Option.some.inj (e1.1.symm.trans e2.1)) ds.length (by omega) h with ⟨e1, e2⟩ | h3
  · refine absurd ⟨e1, List.ext_getElem? fun j => ?_⟩ hne
    rcases Nat.lt_or_ge j ds.length with hj | hj
    · have e3 := e2 j hj
      have p1 := List.getElem?_eq_getElem (l := ds) hj
      have p2 := List.getElem?_eq_getElem (l := es) (show j < es.length by omega)
      have p0 := List.getElem?_eq_getElem (l := sides size.toNat i.toNat) (show j < (sides size.toNat i.toNat).length by omega)
      have q1 : ((sides size.toNat i.toNat).zip ds)[j]? = some ((sides size.toNat i.toNat)[j]'(by omega), ds[j]) := List.getElem?_zip_eq_some.2 ⟨p0, p1⟩
      have q2 : ((sides size.toNat i.toNat).zip es)[j]? = some ((sides size.toNat i.toNat)[j]'(by omega), es[j]'(by omega)) := List.getElem?_zip_eq_some.2 ⟨p0, p2⟩
      rw [q1, q2] at e3
      have e4 := congrArg Prod.snd (Option.some.inj e3)
      dsimp only at e4
      rw [p1, p2, e4]
    · rw [List.getElem?_eq_none hj, List.getElem?_eq_none (by omega)]
  · exact h3

/-- Each cell of a row of texts is one cell. -/
theorem own_one {w : World} {B n : Nat} {v : Value} {xs : List Value} {ts : List Text} (hO : w.ownsRow B 27 1 v n xs) (h : Tx w xs ts) (hn : ts.length = n) : ∀ u ∈ xs, u.oneCell' = true := by
  intro u hu
  obtain ⟨j, hj, rfl⟩ := List.mem_iff_getElem.1 hu
  have hl : xs.length = n := by have := hO.1; omega
  obtain ⟨-, g, c, h1, -⟩ := h j _ (List.getElem?_eq_getElem (show j < ts.length by omega))
  rw [List.getElem?_eq_getElem hj] at h1
  rw [Option.some.inj h1]
  rfl
theorem met_twice (s : Int) (p1 p2 : List Text) (n m : Nat) (l1 : p1.length = n) (l2 : p2.length = m) (n40 : n ≤ 40) (m40 : m ≤ 40) (A1 A2 : Option Addr) (c1 c2 : Nat) (w : World) (hB : Base w) (xs1 xs2 : List Value) (b1 b2 : Nat) (hO : w.ownsRow b1 27 1 (.slice A1 n c1) n xs1) (hV : w.ownsRow b2 27 1 (.slice A2 m c2) m xs2)
    (hT : Tx w xs1 p1) (hU : Tx w xs2 p2) (t1 : ∀ q ∈ p1, q.length = 65) (t2 : ∀ q ∈ p2, q.length = 65) (hM : MetAt s p1 p2) :
    Calls Tryd.prog 23 #[.int .i64 s, .slice A1 n c1, .slice A2 m c2] w fun e w' => e = .returned (.bool true) ∧ Below w.heap.size w w' := by
  subst l1 l2
  obtain ⟨A, c, e, -, -, hP⟩ := Tx.pieces hO hT
  injection e with e1 e2 e3
  subst e1
  obtain ⟨A, c, e, -, -, hQ⟩ := Tx.pieces hV hU
  injection e with e1 e2 e3
  subst e1
  exact met_any s p1 p2 _ _ rfl rfl (by omega) _ _ c1 c2 w hB hP hQ (fun q h => by rw [t1 q h]; decide) (fun q h => by rw [t2 q h]; decide) hM
theorem cat_twice {w0 w w' : World} {n m : Nat} {v v' : Value} {xs1 xs2 : List Value} {p1 p2 : List Text} (hG : Grew w w0.heap.size 27 1 v n m xs1 xs2 v' w') (l1 : p1.length = n) (l2 : p2.length = m) (hO : w.ownsRow w0.heap.size 27 1 v n xs1) (hT : Tx w xs1 p1) (hU : Tx w xs2 p2) (hnm : 0 < m → 0 < n) (hb : Below w0.heap.size w0 w) :
    ∃ A c, v' = .slice A (n + m) c ∧ Hid (Pieces w' A (p1 ++ p2)) ∧ Hid (Below w0.heap.size w0 w') := by
  subst l1 l2
  obtain ⟨h1, h2⟩ := tx_cat hO hT hU hnm hG
  obtain ⟨A, c, e, -, -, hP⟩ := Tx.pieces h2 h1
  refine ⟨A, c, by rw [e, List.length_append], hP, hG.below hb hb.size (fun k hk => ?_)⟩
  obtain ⟨A2, c2, e2, -, -, -, -, h3⟩ := Go.Proofs.YtpgenpogjhpeoaaDoor.Append.Own.reads hO
  subst e2
  cases A2 with
  | none => cases hk
  | some a => injection hk with hk; subst hk; exact (h3 a rfl).1

set_option maxRecDepth 100000 in
set_option maxHeartbeats 4000000 in
theorem tw_e1 (s size i : Int) (x y : Text) (hx : x.length = 32) (hy : y.length = 32) (n m : Nat) (A B : Option Addr) (c d : Nat) (w : World) (r1 r2 : Text) (k1 k2 : Int) (hl1 : r1.length = 32) (hl2 : r2.length = 32)
    (hI1 : Hid (∀ w', Below w.heap.size w w' → Calls Tryd.prog 20 #[.int .i64 s, .int .i64 size, .int .i64 i, .agg (cells8 x).toArray, .slice A n c] w' fun e w'' => e = .returned (.tuple #[.agg (cells8 r1).toArray, .int .i64 k1]) ∧ Below w'.heap.size w' w''))
    (hI2 : Hid (∀ w', Below w.heap.size w w' → Calls Tryd.prog 20 #[.int .i64 s, .int .i64 size, .int .i64 i, .agg (cells8 y).toArray, .slice B m d] w' fun e w'' => e = .returned (.tuple #[.agg (cells8 r2).toArray, .int .i64 k2]) ∧ Below w'.heap.size w' w'')) (z1 : ¬ k1 = 0) :
    Calls Tryd.prog 4 #[.int .i64 s, .int .i64 size, .int .i64 i, .agg (cells8 x).toArray, .agg (cells8 y).toArray, .slice A n c, .slice B m d] w fun e w' => e = .returned (.bool true) ∧ Below w.heap.size w w' := by
  have hb : Hid (Below w.heap.size w ((w.alloc (.cells (cells8 x).toArray 23)).alloc (.cells (cells8 y).toArray 23))) := (Below.heap_below w _).alloc (by simp) _
  have hX : Hid (Blk ((w.alloc (.cells (cells8 x).toArray 23)).alloc (.cells (cells8 y).toArray 23)) w.heap.size 23 (cells8 x).toArray) := (Blk.new w _ _).alloc _
  have hY : Hid (Blk ((w.alloc (.cells (cells8 x).toArray 23)).alloc (.cells (cells8 y).toArray 23)) (w.heap.size + 1) 23 (cells8 y).toArray) := by
    have := Blk.new (w.alloc (.cells (cells8 x).toArray 23)) 23 (cells8 y).toArray
    rwa [show (w.alloc (.cells (cells8 x).toArray 23)).heap.size = w.heap.size + 1 by simp] at this
  have Fx := Lib.hid (fit (x := x) hx)
  have Fy := Lib.hid (fit (x := y) hy)
  have F1 := Lib.hid (fit (x := r1) hl1)
  have F2 := Lib.hid (fit (x := r2) hl2)
  clear hx hy hl1 hl2
  go_enter Tryd.func4, Tryd.ntmps4
  go_wp2_with (first
    | ((with_reducible change wpList _ _ _ ({ dst := some 25, op := _, type := _, pos := _, after := _, guard := _ } :: _) _ _); refine wpList_load_row (o := ⟨some 25, _, _, _, _, _⟩) rfl 23 (.tmp 10) rfl (w.heap.size) rfl 23 ((cells8 x).toArray) (0, 0) _ hX.out Tryd.underlying23 rfl Fx.out.size ?_)
    | (go_at_call 20; refine (hI1.out _ hb.out).mono ?_; rintro e w1 ⟨rfl, kk⟩; clear hI1; have hX1 := Lib.hid (hX.out.onW kk); have hY1 := Lib.hid (hY.out.onW kk); have hb1 : Hid (Below w.heap.size w w1) := hb.out.trans (kk.mono hb.out.size); clear kk hX hY hb)
    | ((with_reducible change wpList _ _ _ ({ dst := none, op := Op.store 23 (.tmp 15) _, type := _, pos := _, after := _, guard := _ } :: _) _ _); refine wpList_store_whole (o := ⟨none, _, _, _, _, _⟩) rfl 23 (.tmp 15) (.tmp 28) rfl (w1.heap.size) ((cells8 r1).toArray) rfl rfl 23 (Z32) (Blk.new w1 _ _) F1.out.size F1.out.zero F1.out.one ?_; intro w2 hP2 kk; have kb := kept_fresh kk; have hX2 := Lib.hid (hX1.out.onW kb); have hY2 := Lib.hid (hY1.out.onW kb); have hb2 : Hid (Below w.heap.size w w2) := hb1.out.trans (kb.mono hb1.out.size); replace hP2 := Lib.hid hP2; clear kk kb hX1 hY1 hb1)
    | ((with_reducible change wpList _ _ _ ({ dst := some 34, op := _, type := _, pos := _, after := _, guard := _ } :: _) _ _); refine wpList_load_row (o := ⟨some 34, _, _, _, _, _⟩) rfl 23 (.tmp 11) rfl (w.heap.size + 1) rfl 23 ((cells8 y).toArray) (0, 0) _ hY2.out Tryd.underlying23 rfl Fy.out.size ?_)
    | (go_at_call 20; refine (hI2.out _ hb2.out).mono ?_; rintro e w3 ⟨rfl, kk⟩; clear hI2; have hX3 := Lib.hid (hX2.out.onW kk); have hY3 := Lib.hid (hY2.out.onW kk); have hP3 := Lib.hid (hP2.out.onW kk); have hb3 : Hid (Below w.heap.size w w3) := hb2.out.trans (kk.mono hb2.out.size); clear kk hX2 hY2 hP2 hb2)
    | ((with_reducible change wpList _ _ _ ({ dst := none, op := Op.store 23 (.tmp 17) _, type := _, pos := _, after := _, guard := _ } :: _) _ _); refine wpList_store_whole (o := ⟨none, _, _, _, _, _⟩) rfl 23 (.tmp 17) (.tmp 37) rfl (w3.heap.size) ((cells8 r2).toArray) rfl rfl 23 (Z32) (Blk.new w3 _ _) F2.out.size F2.out.zero F2.out.one ?_; intro w4 hQ4 kk; have kb := kept_fresh kk; have hX4 := Lib.hid (hX3.out.onW kb); have hY4 := Lib.hid (hY3.out.onW kb); have hP4 := Lib.hid (hP3.out.onW kb); have hb4 : Hid (Below w.heap.size w w4) := hb3.out.trans (kb.mono hb3.out.size); replace hQ4 := Lib.hid hQ4; clear kk kb hX3 hY3 hP3 hb3)
    | ((with_reducible change wpList _ _ _ ({ dst := some 46, op := _, type := _, pos := _, after := _, guard := _ } :: _) _ _); (with_reducible refine Veil.out ?_); refine wpList_rowW (o := ⟨some 46, _, _, _, _, _⟩) rfl 23 (.tmp 15) rfl (w1.heap.size) rfl 23 ((cells8 r1).toArray) (0, 0) _ hP4.out Tryd.underlying23 rfl F1.out.size ?_)
    | ((with_reducible change wpList _ _ _ ({ dst := some 47, op := _, type := _, pos := _, after := _, guard := _ } :: _) _ _); (with_reducible refine Veil.out ?_); refine wpList_rowW (o := ⟨some 47, _, _, _, _, _⟩) rfl 23 (.tmp 17) rfl (w3.heap.size) rfl 23 ((cells8 r2).toArray) (0, 0) _ hQ4.out Tryd.underlying23 rfl F2.out.size ?_)
    | ((with_reducible change wpList _ _ _ ({ dst := some 51, op := _, type := _, pos := _, after := _, guard := _ } :: _) _ _); (with_reducible refine Veil.out ?_); refine wpList_rowW (o := ⟨some 51, _, _, _, _, _⟩) rfl 23 (.tmp 10) rfl (w.heap.size) rfl 23 ((cells8 x).toArray) (0, 0) _ hX4.out Tryd.underlying23 rfl Fx.out.size ?_)
    | ((with_reducible change wpList _ _ _ ({ dst := some 52, op := _, type := _, pos := _, after := _, guard := _ } :: _) _ _); (with_reducible refine Veil.out ?_); refine wpList_rowW (o := ⟨some 52, _, _, _, _, _⟩) rfl 23 (.tmp 11) rfl (w.heap.size + 1) rfl 23 ((cells8 y).toArray) (0, 0) _ hY4.out Tryd.underlying23 rfl Fy.out.size ?_)
    | (go_at_call 21; refine (hSm.out _ hb4.out).mono ?_; rintro e w5 ⟨rfl, kk⟩; clear hSm; have hX5 := Lib.hid (hX4.out.onW kk); have hY5 := Lib.hid (hY4.out.onW kk); have hb5 : Hid (Below w.heap.size w w5) := hb4.out.trans (kk.mono hb4.out.size); clear kk hX4 hY4 hP4 hQ4))
  go_ret
  exact ⟨rfl, hb4.out⟩

set_option maxRecDepth 100000 in
set_option maxHeartbeats 4000000 in
theorem tw_e2 (s size i : Int) (x y : Text) (hx : x.length = 32) (hy : y.length = 32) (n m : Nat) (A B : Option Addr) (c d : Nat) (w : World) (r1 r2 : Text) (k1 k2 : Int) (hl1 : r1.length = 32) (hl2 : r2.length = 32)
    (hI1 : Hid (∀ w', Below w.heap.size w w' → Calls Tryd.prog 20 #[.int .i64 s, .int .i64 size, .int .i64 i, .agg (cells8 x).toArray, .slice A n c] w' fun e w'' => e = .returned (.tuple #[.agg (cells8 r1).toArray, .int .i64 k1]) ∧ Below w'.heap.size w' w''))
    (hI2 : Hid (∀ w', Below w.heap.size w w' → Calls Tryd.prog 20 #[.int .i64 s, .int .i64 size, .int .i64 i, .agg (cells8 y).toArray, .slice B m d] w' fun e w'' => e = .returned (.tuple #[.agg (cells8 r2).toArray, .int .i64 k2]) ∧ Below w'.heap.size w' w'')) (z1 : k1 = 0) (z2 : ¬ k2 = 0) :
    Calls Tryd.prog 4 #[.int .i64 s, .int .i64 size, .int .i64 i, .agg (cells8 x).toArray, .agg (cells8 y).toArray, .slice A n c, .slice B m d] w fun e w' => e = .returned (.bool true) ∧ Below w.heap.size w w' := by
  have hb : Hid (Below w.heap.size w ((w.alloc (.cells (cells8 x).toArray 23)).alloc (.cells (cells8 y).toArray 23))) := (Below.heap_below w _).alloc (by simp) _
  have hX : Hid (Blk ((w.alloc (.cells (cells8 x).toArray 23)).alloc (.cells (cells8 y).toArray 23)) w.heap.size 23 (cells8 x).toArray) := (Blk.new w _ _).alloc _
  have hY : Hid (Blk ((w.alloc (.cells (cells8 x).toArray 23)).alloc (.cells (cells8 y).toArray 23)) (w.heap.size + 1) 23 (cells8 y).toArray) := by
    have := Blk.new (w.alloc (.cells (cells8 x).toArray 23)) 23 (cells8 y).toArray
    rwa [show (w.alloc (.cells (cells8 x).toArray 23)).heap.size = w.heap.size + 1 by simp] at this
  have Fx := Lib.hid (fit (x := x) hx)
  have Fy := Lib.hid (fit (x := y) hy)
  have F1 := Lib.hid (fit (x := r1) hl1)
  have F2 := Lib.hid (fit (x := r2) hl2)
  subst z1
  clear hx hy hl1 hl2
  go_enter Tryd.func4, Tryd.ntmps4
  go_wp2_with (first
    | ((with_reducible change wpList _ _ _ ({ dst := some 25, op := _, type := _, pos := _, after := _, guard := _ } :: _) _ _); refine wpList_load_row (o := ⟨some 25, _, _, _, _, _⟩) rfl 23 (.tmp 10) rfl (w.heap.size) rfl 23 ((cells8 x).toArray) (0, 0) _ hX.out Tryd.underlying23 rfl Fx.out.size ?_)
    | (go_at_call 20; refine (hI1.out _ hb.out).mono ?_; rintro e w1 ⟨rfl, kk⟩; clear hI1; have hX1 := Lib.hid (hX.out.onW kk); have hY1 := Lib.hid (hY.out.onW kk); have hb1 : Hid (Below w.heap.size w w1) := hb.out.trans (kk.mono hb.out.size); clear kk hX hY hb)
    | ((with_reducible change wpList _ _ _ ({ dst := none, op := Op.store 23 (.tmp 15) _, type := _, pos := _, after := _, guard := _ } :: _) _ _); refine wpList_store_whole (o := ⟨none, _, _, _, _, _⟩) rfl 23 (.tmp 15) (.tmp 28) rfl (w1.heap.size) ((cells8 r1).toArray) rfl rfl 23 (Z32) (Blk.new w1 _ _) F1.out.size F1.out.zero F1.out.one ?_; intro w2 hP2 kk; have kb := kept_fresh kk; have hX2 := Lib.hid (hX1.out.onW kb); have hY2 := Lib.hid (hY1.out.onW kb); have hb2 : Hid (Below w.heap.size w w2) := hb1.out.trans (kb.mono hb1.out.size); replace hP2 := Lib.hid hP2; clear kk kb hX1 hY1 hb1)
    | ((with_reducible change wpList _ _ _ ({ dst := some 34, op := _, type := _, pos := _, after := _, guard := _ } :: _) _ _); refine wpList_load_row (o := ⟨some 34, _, _, _, _, _⟩) rfl 23 (.tmp 11) rfl (w.heap.size + 1) rfl 23 ((cells8 y).toArray) (0, 0) _ hY2.out Tryd.underlying23 rfl Fy.out.size ?_)
    | (go_at_call 20; refine (hI2.out _ hb2.out).mono ?_; rintro e w3 ⟨rfl, kk⟩; clear hI2; have hX3 := Lib.hid (hX2.out.onW kk); have hY3 := Lib.hid (hY2.out.onW kk); have hP3 := Lib.hid (hP2.out.onW kk); have hb3 : Hid (Below w.heap.size w w3) := hb2.out.trans (kk.mono hb2.out.size); clear kk hX2 hY2 hP2 hb2)
    | ((with_reducible change wpList _ _ _ ({ dst := none, op := Op.store 23 (.tmp 17) _, type := _, pos := _, after := _, guard := _ } :: _) _ _); refine wpList_store_whole (o := ⟨none, _, _, _, _, _⟩) rfl 23 (.tmp 17) (.tmp 37) rfl (w3.heap.size) ((cells8 r2).toArray) rfl rfl 23 (Z32) (Blk.new w3 _ _) F2.out.size F2.out.zero F2.out.one ?_; intro w4 hQ4 kk; have kb := kept_fresh kk; have hX4 := Lib.hid (hX3.out.onW kb); have hY4 := Lib.hid (hY3.out.onW kb); have hP4 := Lib.hid (hP3.out.onW kb); have hb4 : Hid (Below w.heap.size w w4) := hb3.out.trans (kb.mono hb3.out.size); replace hQ4 := Lib.hid hQ4; clear kk kb hX3 hY3 hP3 hb3)
    | ((with_reducible change wpList _ _ _ ({ dst := some 46, op := _, type := _, pos := _, after := _, guard := _ } :: _) _ _); (with_reducible refine Veil.out ?_); refine wpList_rowW (o := ⟨some 46, _, _, _, _, _⟩) rfl 23 (.tmp 15) rfl (w1.heap.size) rfl 23 ((cells8 r1).toArray) (0, 0) _ hP4.out Tryd.underlying23 rfl F1.out.size ?_)
    | ((with_reducible change wpList _ _ _ ({ dst := some 47, op := _, type := _, pos := _, after := _, guard := _ } :: _) _ _); (with_reducible refine Veil.out ?_); refine wpList_rowW (o := ⟨some 47, _, _, _, _, _⟩) rfl 23 (.tmp 17) rfl (w3.heap.size) rfl 23 ((cells8 r2).toArray) (0, 0) _ hQ4.out Tryd.underlying23 rfl F2.out.size ?_)
    | ((with_reducible change wpList _ _ _ ({ dst := some 51, op := _, type := _, pos := _, after := _, guard := _ } :: _) _ _); (with_reducible refine Veil.out ?_); refine wpList_rowW (o := ⟨some 51, _, _, _, _, _⟩) rfl 23 (.tmp 10) rfl (w.heap.size) rfl 23 ((cells8 x).toArray) (0, 0) _ hX4.out Tryd.underlying23 rfl Fx.out.size ?_)
    | ((with_reducible change wpList _ _ _ ({ dst := some 52, op := _, type := _, pos := _, after := _, guard := _ } :: _) _ _); (with_reducible refine Veil.out ?_); refine wpList_rowW (o := ⟨some 52, _, _, _, _, _⟩) rfl 23 (.tmp 11) rfl (w.heap.size + 1) rfl 23 ((cells8 y).toArray) (0, 0) _ hY4.out Tryd.underlying23 rfl Fy.out.size ?_)
    | (go_at_call 21; refine (hSm.out _ hb4.out).mono ?_; rintro e w5 ⟨rfl, kk⟩; clear hSm; have hX5 := Lib.hid (hX4.out.onW kk); have hY5 := Lib.hid (hY4.out.onW kk); have hb5 : Hid (Below w.heap.size w w5) := hb4.out.trans (kk.mono hb4.out.size); clear kk hX4 hY4 hP4 hQ4))
  go_ret
  exact ⟨rfl, hb4.out⟩

set_option maxRecDepth 100000 in
set_option maxHeartbeats 4000000 in
theorem tw_ne (s size i : Int) (x y : Text) (hx : x.length = 32) (hy : y.length = 32) (n m : Nat) (A B : Option Addr) (c d : Nat) (w : World) (r1 r2 : Text) (k1 k2 : Int) (hl1 : r1.length = 32) (hl2 : r2.length = 32)
    (hI1 : Hid (∀ w', Below w.heap.size w w' → Calls Tryd.prog 20 #[.int .i64 s, .int .i64 size, .int .i64 i, .agg (cells8 x).toArray, .slice A n c] w' fun e w'' => e = .returned (.tuple #[.agg (cells8 r1).toArray, .int .i64 k1]) ∧ Below w'.heap.size w' w''))
    (hI2 : Hid (∀ w', Below w.heap.size w w' → Calls Tryd.prog 20 #[.int .i64 s, .int .i64 size, .int .i64 i, .agg (cells8 y).toArray, .slice B m d] w' fun e w'' => e = .returned (.tuple #[.agg (cells8 r2).toArray, .int .i64 k2]) ∧ Below w'.heap.size w' w'')) (z1 : k1 = 0) (z2 : k2 = 0) (hr : ¬ r1 = r2) :
    Calls Tryd.prog 4 #[.int .i64 s, .int .i64 size, .int .i64 i, .agg (cells8 x).toArray, .agg (cells8 y).toArray, .slice A n c, .slice B m d] w fun e w' => e = .returned (.bool true) ∧ Below w.heap.size w w' := by
  have hb : Hid (Below w.heap.size w ((w.alloc (.cells (cells8 x).toArray 23)).alloc (.cells (cells8 y).toArray 23))) := (Below.heap_below w _).alloc (by simp) _
  have hX : Hid (Blk ((w.alloc (.cells (cells8 x).toArray 23)).alloc (.cells (cells8 y).toArray 23)) w.heap.size 23 (cells8 x).toArray) := (Blk.new w _ _).alloc _
  have hY : Hid (Blk ((w.alloc (.cells (cells8 x).toArray 23)).alloc (.cells (cells8 y).toArray 23)) (w.heap.size + 1) 23 (cells8 y).toArray) := by
    have := Blk.new (w.alloc (.cells (cells8 x).toArray 23)) 23 (cells8 y).toArray
    rwa [show (w.alloc (.cells (cells8 x).toArray 23)).heap.size = w.heap.size + 1 by simp] at this
  have Fx := Lib.hid (fit (x := x) hx)
  have Fy := Lib.hid (fit (x := y) hy)
  have F1 := Lib.hid (fit (x := r1) hl1)
  have F2 := Lib.hid (fit (x := r2) hl2)
  subst z1 z2
  have hq1 := neq_dig r1 r2 hl1 hl2
  rw [decide_eq_false hr] at hq1
  simp only [Bool.not_false] at hq1
  clear hr hx hy hl1 hl2
  go_enter Tryd.func4, Tryd.ntmps4
  go_wp2_with (first
    | ((with_reducible change wpList _ _ _ ({ dst := some 25, op := _, type := _, pos := _, after := _, guard := _ } :: _) _ _); refine wpList_load_row (o := ⟨some 25, _, _, _, _, _⟩) rfl 23 (.tmp 10) rfl (w.heap.size) rfl 23 ((cells8 x).toArray) (0, 0) _ hX.out Tryd.underlying23 rfl Fx.out.size ?_)
    | (go_at_call 20; refine (hI1.out _ hb.out).mono ?_; rintro e w1 ⟨rfl, kk⟩; clear hI1; have hX1 := Lib.hid (hX.out.onW kk); have hY1 := Lib.hid (hY.out.onW kk); have hb1 : Hid (Below w.heap.size w w1) := hb.out.trans (kk.mono hb.out.size); clear kk hX hY hb)
    | ((with_reducible change wpList _ _ _ ({ dst := none, op := Op.store 23 (.tmp 15) _, type := _, pos := _, after := _, guard := _ } :: _) _ _); refine wpList_store_whole (o := ⟨none, _, _, _, _, _⟩) rfl 23 (.tmp 15) (.tmp 28) rfl (w1.heap.size) ((cells8 r1).toArray) rfl rfl 23 (Z32) (Blk.new w1 _ _) F1.out.size F1.out.zero F1.out.one ?_; intro w2 hP2 kk; have kb := kept_fresh kk; have hX2 := Lib.hid (hX1.out.onW kb); have hY2 := Lib.hid (hY1.out.onW kb); have hb2 : Hid (Below w.heap.size w w2) := hb1.out.trans (kb.mono hb1.out.size); replace hP2 := Lib.hid hP2; clear kk kb hX1 hY1 hb1)
    | ((with_reducible change wpList _ _ _ ({ dst := some 34, op := _, type := _, pos := _, after := _, guard := _ } :: _) _ _); refine wpList_load_row (o := ⟨some 34, _, _, _, _, _⟩) rfl 23 (.tmp 11) rfl (w.heap.size + 1) rfl 23 ((cells8 y).toArray) (0, 0) _ hY2.out Tryd.underlying23 rfl Fy.out.size ?_)
    | (go_at_call 20; refine (hI2.out _ hb2.out).mono ?_; rintro e w3 ⟨rfl, kk⟩; clear hI2; have hX3 := Lib.hid (hX2.out.onW kk); have hY3 := Lib.hid (hY2.out.onW kk); have hP3 := Lib.hid (hP2.out.onW kk); have hb3 : Hid (Below w.heap.size w w3) := hb2.out.trans (kk.mono hb2.out.size); clear kk hX2 hY2 hP2 hb2)
    | ((with_reducible change wpList _ _ _ ({ dst := none, op := Op.store 23 (.tmp 17) _, type := _, pos := _, after := _, guard := _ } :: _) _ _); refine wpList_store_whole (o := ⟨none, _, _, _, _, _⟩) rfl 23 (.tmp 17) (.tmp 37) rfl (w3.heap.size) ((cells8 r2).toArray) rfl rfl 23 (Z32) (Blk.new w3 _ _) F2.out.size F2.out.zero F2.out.one ?_; intro w4 hQ4 kk; have kb := kept_fresh kk; have hX4 := Lib.hid (hX3.out.onW kb); have hY4 := Lib.hid (hY3.out.onW kb); have hP4 := Lib.hid (hP3.out.onW kb); have hb4 : Hid (Below w.heap.size w w4) := hb3.out.trans (kb.mono hb3.out.size); replace hQ4 := Lib.hid hQ4; clear kk kb hX3 hY3 hP3 hb3)
    | ((with_reducible change wpList _ _ _ ({ dst := some 46, op := _, type := _, pos := _, after := _, guard := _ } :: _) _ _); (with_reducible refine Veil.out ?_); refine wpList_rowW (o := ⟨some 46, _, _, _, _, _⟩) rfl 23 (.tmp 15) rfl (w1.heap.size) rfl 23 ((cells8 r1).toArray) (0, 0) _ hP4.out Tryd.underlying23 rfl F1.out.size ?_)
    | ((with_reducible change wpList _ _ _ ({ dst := some 47, op := _, type := _, pos := _, after := _, guard := _ } :: _) _ _); (with_reducible refine Veil.out ?_); refine wpList_rowW (o := ⟨some 47, _, _, _, _, _⟩) rfl 23 (.tmp 17) rfl (w3.heap.size) rfl 23 ((cells8 r2).toArray) (0, 0) _ hQ4.out Tryd.underlying23 rfl F2.out.size ?_)
    | ((with_reducible change wpList _ _ _ ({ dst := some 51, op := _, type := _, pos := _, after := _, guard := _ } :: _) _ _); (with_reducible refine Veil.out ?_); refine wpList_rowW (o := ⟨some 51, _, _, _, _, _⟩) rfl 23 (.tmp 10) rfl (w.heap.size) rfl 23 ((cells8 x).toArray) (0, 0) _ hX4.out Tryd.underlying23 rfl Fx.out.size ?_)
    | ((with_reducible change wpList _ _ _ ({ dst := some 52, op := _, type := _, pos := _, after := _, guard := _ } :: _) _ _); (with_reducible refine Veil.out ?_); refine wpList_rowW (o := ⟨some 52, _, _, _, _, _⟩) rfl 23 (.tmp 11) rfl (w.heap.size + 1) rfl 23 ((cells8 y).toArray) (0, 0) _ hY4.out Tryd.underlying23 rfl Fy.out.size ?_)
    | (go_at_call 21; refine (hSm.out _ hb4.out).mono ?_; rintro e w5 ⟨rfl, kk⟩; clear hSm; have hX5 := Lib.hid (hX4.out.onW kk); have hY5 := Lib.hid (hY4.out.onW kk); have hb5 : Hid (Below w.heap.size w w5) := hb4.out.trans (kk.mono hb4.out.size); clear kk hX4 hY4 hP4 hQ4))
  go_ret
  exact ⟨rfl, hb4.out⟩

set_option maxRecDepth 100000 in
set_option maxHeartbeats 4000000 in
theorem tw_same (s size i : Int) (x y : Text) (hx : x.length = 32) (hy : y.length = 32) (n m : Nat) (A B : Option Addr) (c d : Nat) (w : World) (r1 r2 : Text) (k1 k2 : Int) (hl1 : r1.length = 32) (hl2 : r2.length = 32)
    (hI1 : Hid (∀ w', Below w.heap.size w w' → Calls Tryd.prog 20 #[.int .i64 s, .int .i64 size, .int .i64 i, .agg (cells8 x).toArray, .slice A n c] w' fun e w'' => e = .returned (.tuple #[.agg (cells8 r1).toArray, .int .i64 k1]) ∧ Below w'.heap.size w' w''))
    (hI2 : Hid (∀ w', Below w.heap.size w w' → Calls Tryd.prog 20 #[.int .i64 s, .int .i64 size, .int .i64 i, .agg (cells8 y).toArray, .slice B m d] w' fun e w'' => e = .returned (.tuple #[.agg (cells8 r2).toArray, .int .i64 k2]) ∧ Below w'.heap.size w' w'')) (z1 : k1 = 0) (z2 : k2 = 0) (hr : r1 = r2) (hxy : x = y) (hSm : Hid (∀ w', Below w.heap.size w w' → Calls Tryd.prog 21 #[.slice A n c, .slice B m d] w' fun e w'' => e = .returned (.bool true) ∧ Below w'.heap.size w' w'')) :
    Calls Tryd.prog 4 #[.int .i64 s, .int .i64 size, .int .i64 i, .agg (cells8 x).toArray, .agg (cells8 y).toArray, .slice A n c, .slice B m d] w fun e w' => e = .returned (.bool true) ∧ Below w.heap.size w w' := by
  have hb : Hid (Below w.heap.size w ((w.alloc (.cells (cells8 x).toArray 23)).alloc (.cells (cells8 y).toArray 23))) := (Below.heap_below w _).alloc (by simp) _
  have hX : Hid (Blk ((w.alloc (.cells (cells8 x).toArray 23)).alloc (.cells (cells8 y).toArray 23)) w.heap.size 23 (cells8 x).toArray) := (Blk.new w _ _).alloc _
  have hY : Hid (Blk ((w.alloc (.cells (cells8 x).toArray 23)).alloc (.cells (cells8 y).toArray 23)) (w.heap.size + 1) 23 (cells8 y).toArray) := by
    have := Blk.new (w.alloc (.cells (cells8 x).toArray 23)) 23 (cells8 y).toArray
    rwa [show (w.alloc (.cells (cells8 x).toArray 23)).heap.size = w.heap.size + 1 by simp] at this
  have Fx := Lib.hid (fit (x := x) hx)
  have Fy := Lib.hid (fit (x := y) hy)
  have F1 := Lib.hid (fit (x := r1) hl1)
  have F2 := Lib.hid (fit (x := r2) hl2)
  subst z1 z2
  have hq1 := neq_dig r1 r2 hl1 hl2
  have hq2 := eql_dig x y hx hy
  rw [decide_eq_true hr] at hq1
  rw [decide_eq_true hxy] at hq2
  simp only [Bool.not_true] at hq1
  clear hr hxy hx hy hl1 hl2
  go_enter Tryd.func4, Tryd.ntmps4
  go_wp2_with (first
    | ((with_reducible change wpList _ _ _ ({ dst := some 25, op := _, type := _, pos := _, after := _, guard := _ } :: _) _ _); refine wpList_load_row (o := ⟨some 25, _, _, _, _, _⟩) rfl 23 (.tmp 10) rfl (w.heap.size) rfl 23 ((cells8 x).toArray) (0, 0) _ hX.out Tryd.underlying23 rfl Fx.out.size ?_)
    | (go_at_call 20; refine (hI1.out _ hb.out).mono ?_; rintro e w1 ⟨rfl, kk⟩; clear hI1; have hX1 := Lib.hid (hX.out.onW kk); have hY1 := Lib.hid (hY.out.onW kk); have hb1 : Hid (Below w.heap.size w w1) := hb.out.trans (kk.mono hb.out.size); clear kk hX hY hb)
    | ((with_reducible change wpList _ _ _ ({ dst := none, op := Op.store 23 (.tmp 15) _, type := _, pos := _, after := _, guard := _ } :: _) _ _); refine wpList_store_whole (o := ⟨none, _, _, _, _, _⟩) rfl 23 (.tmp 15) (.tmp 28) rfl (w1.heap.size) ((cells8 r1).toArray) rfl rfl 23 (Z32) (Blk.new w1 _ _) F1.out.size F1.out.zero F1.out.one ?_; intro w2 hP2 kk; have kb := kept_fresh kk; have hX2 := Lib.hid (hX1.out.onW kb); have hY2 := Lib.hid (hY1.out.onW kb); have hb2 : Hid (Below w.heap.size w w2) := hb1.out.trans (kb.mono hb1.out.size); replace hP2 := Lib.hid hP2; clear kk kb hX1 hY1 hb1)
    | ((with_reducible change wpList _ _ _ ({ dst := some 34, op := _, type := _, pos := _, after := _, guard := _ } :: _) _ _); refine wpList_load_row (o := ⟨some 34, _, _, _, _, _⟩) rfl 23 (.tmp 11) rfl (w.heap.size + 1) rfl 23 ((cells8 y).toArray) (0, 0) _ hY2.out Tryd.underlying23 rfl Fy.out.size ?_)
    | (go_at_call 20; refine (hI2.out _ hb2.out).mono ?_; rintro e w3 ⟨rfl, kk⟩; clear hI2; have hX3 := Lib.hid (hX2.out.onW kk); have hY3 := Lib.hid (hY2.out.onW kk); have hP3 := Lib.hid (hP2.out.onW kk); have hb3 : Hid (Below w.heap.size w w3) := hb2.out.trans (kk.mono hb2.out.size); clear kk hX2 hY2 hP2 hb2)
    | ((with_reducible change wpList _ _ _ ({ dst := none, op := Op.store 23 (.tmp 17) _, type := _, pos := _, after := _, guard := _ } :: _) _ _); refine wpList_store_whole (o := ⟨none, _, _, _, _, _⟩) rfl 23 (.tmp 17) (.tmp 37) rfl (w3.heap.size) ((cells8 r2).toArray) rfl rfl 23 (Z32) (Blk.new w3 _ _) F2.out.size F2.out.zero F2.out.one ?_; intro w4 hQ4 kk; have kb := kept_fresh kk; have hX4 := Lib.hid (hX3.out.onW kb); have hY4 := Lib.hid (hY3.out.onW kb); have hP4 := Lib.hid (hP3.out.onW kb); have hb4 : Hid (Below w.heap.size w w4) := hb3.out.trans (kb.mono hb3.out.size); replace hQ4 := Lib.hid hQ4; clear kk kb hX3 hY3 hP3 hb3)
    | ((with_reducible change wpList _ _ _ ({ dst := some 46, op := _, type := _, pos := _, after := _, guard := _ } :: _) _ _); (with_reducible refine Veil.out ?_); refine wpList_rowW (o := ⟨some 46, _, _, _, _, _⟩) rfl 23 (.tmp 15) rfl (w1.heap.size) rfl 23 ((cells8 r1).toArray) (0, 0) _ hP4.out Tryd.underlying23 rfl F1.out.size ?_)
    | ((with_reducible change wpList _ _ _ ({ dst := some 47, op := _, type := _, pos := _, after := _, guard := _ } :: _) _ _); (with_reducible refine Veil.out ?_); refine wpList_rowW (o := ⟨some 47, _, _, _, _, _⟩) rfl 23 (.tmp 17) rfl (w3.heap.size) rfl 23 ((cells8 r2).toArray) (0, 0) _ hQ4.out Tryd.underlying23 rfl F2.out.size ?_)
    | ((with_reducible change wpList _ _ _ ({ dst := some 51, op := _, type := _, pos := _, after := _, guard := _ } :: _) _ _); (with_reducible refine Veil.out ?_); refine wpList_rowW (o := ⟨some 51, _, _, _, _, _⟩) rfl 23 (.tmp 10) rfl (w.heap.size) rfl 23 ((cells8 x).toArray) (0, 0) _ hX4.out Tryd.underlying23 rfl Fx.out.size ?_)
    | ((with_reducible change wpList _ _ _ ({ dst := some 52, op := _, type := _, pos := _, after := _, guard := _ } :: _) _ _); (with_reducible refine Veil.out ?_); refine wpList_rowW (o := ⟨some 52, _, _, _, _, _⟩) rfl 23 (.tmp 11) rfl (w.heap.size + 1) rfl 23 ((cells8 y).toArray) (0, 0) _ hY4.out Tryd.underlying23 rfl Fy.out.size ?_)
    | (go_at_call 21; refine (hSm.out _ hb4.out).mono ?_; rintro e w5 ⟨rfl, kk⟩; clear hSm; have hX5 := Lib.hid (hX4.out.onW kk); have hY5 := Lib.hid (hY4.out.onW kk); have hb5 : Hid (Below w.heap.size w w5) := hb4.out.trans (kk.mono hb4.out.size); clear kk hX4 hY4 hP4 hQ4))
  go_ret
  exact ⟨rfl, hb5.out⟩

set_option maxRecDepth 100000 in
set_option maxHeartbeats 4000000 in
theorem tw_ways (s size i : Int) (x y : Text) (hx : x.length = 32) (hy : y.length = 32) (n m : Nat) (A B : Option Addr) (c d : Nat) (w : World) (r1 r2 : Text) (k1 k2 : Int) (hl1 : r1.length = 32) (hl2 : r2.length = 32)
    (hI1 : Hid (∀ w', Below w.heap.size w w' → Calls Tryd.prog 20 #[.int .i64 s, .int .i64 size, .int .i64 i, .agg (cells8 x).toArray, .slice A n c] w' fun e w'' => e = .returned (.tuple #[.agg (cells8 r1).toArray, .int .i64 k1]) ∧ Below w'.heap.size w' w''))
    (hI2 : Hid (∀ w', Below w.heap.size w w' → Calls Tryd.prog 20 #[.int .i64 s, .int .i64 size, .int .i64 i, .agg (cells8 y).toArray, .slice B m d] w' fun e w'' => e = .returned (.tuple #[.agg (cells8 r2).toArray, .int .i64 k2]) ∧ Below w'.heap.size w' w'')) (z1 : k1 = 0) (z2 : k2 = 0) (hr : r1 = r2) (hxy : x = y) (hSm : Hid (∀ w', Below w.heap.size w w' → Calls Tryd.prog 21 #[.slice A n c, .slice B m d] w' fun e w'' => e = .returned (.bool false) ∧ Below w'.heap.size w' w''))
    (p1 p2 : List Text) (hC1 : Hid (∀ w', Below w.heap.size w w' → Calls Tryd.prog 22 #[.int .i64 s, .int .i64 size, .int .i64 i, .agg (cells8 x).toArray, .slice A n c] w' fun e w'' => ∃ v xs r gc, e = .returned (.tuple #[v, .int .i64 k1]) ∧ w''.ownsRow 0 27 1 v p1.length xs ∧ Txs (fun _ => False) w'' gc r xs p1 ∧ Below w'.heap.size w' w'' ∧ ∀ k, v.ownBlock = some k → w'.heap.size ≤ k))
    (hC2 : Hid (∀ w', Below w.heap.size w w' → Calls Tryd.prog 22 #[.int .i64 s, .int .i64 size, .int .i64 i, .agg (cells8 y).toArray, .slice B m d] w' fun e w'' => ∃ v xs r gc, e = .returned (.tuple #[v, .int .i64 k2]) ∧ w''.ownsRow 0 27 1 v p2.length xs ∧ Txs (fun _ => False) w'' gc r xs p2 ∧ Below w'.heap.size w' w'' ∧ ∀ k, v.ownBlock = some k → w'.heap.size ≤ k))
    (pl1 : p1.length = n) (pl2 : p2.length = m) (pt1 : ∀ q ∈ p1, q.length = 65) (pt2 : ∀ q ∈ p2, q.length = 65) (n40 : n ≤ 40) (m40 : m ≤ 40) (hBB : Hid (∀ w', Below w.heap.size w w' → Base w')) (hnm : 0 < m → 0 < n) (hM : MetAt s p1 p2) :
    Calls Tryd.prog 4 #[.int .i64 s, .int .i64 size, .int .i64 i, .agg (cells8 x).toArray, .agg (cells8 y).toArray, .slice A n c, .slice B m d] w fun e w' => e = .returned (.bool true) ∧ Below w.heap.size w w' := by
  have hb : Hid (Below w.heap.size w ((w.alloc (.cells (cells8 x).toArray 23)).alloc (.cells (cells8 y).toArray 23))) := (Below.heap_below w _).alloc (by simp) _
  have hX : Hid (Blk ((w.alloc (.cells (cells8 x).toArray 23)).alloc (.cells (cells8 y).toArray 23)) w.heap.size 23 (cells8 x).toArray) := (Blk.new w _ _).alloc _
  have hY : Hid (Blk ((w.alloc (.cells (cells8 x).toArray 23)).alloc (.cells (cells8 y).toArray 23)) (w.heap.size + 1) 23 (cells8 y).toArray) := by
    have := Blk.new (w.alloc (.cells (cells8 x).toArray 23)) 23 (cells8 y).toArray
    rwa [show (w.alloc (.cells (cells8 x).toArray 23)).heap.size = w.heap.size + 1 by simp] at this
  have Fx := Lib.hid (fit (x := x) hx)
  have Fy := Lib.hid (fit (x := y) hy)
  have F1 := Lib.hid (fit (x := r1) hl1)
  have F2 := Lib.hid (fit (x := r2) hl2)
  subst z1 z2
  have hq1 := neq_dig r1 r2 hl1 hl2
  have hq2 := eql_dig x y hx hy
  rw [decide_eq_true hr] at hq1
  rw [decide_eq_true hxy] at hq2
  simp only [Bool.not_true] at hq1
  obtain ⟨i0, ii, iz0, iz1, iz2⟩ := info_partsN infoT
  clear hr hxy hx hy hl1 hl2
  go_enter Tryd.func4, Tryd.ntmps4
  go_wp2_with (first
    | ((with_reducible change wpList _ _ _ ({ dst := some 25, op := _, type := _, pos := _, after := _, guard := _ } :: _) _ _); refine wpList_load_row (o := ⟨some 25, _, _, _, _, _⟩) rfl 23 (.tmp 10) rfl (w.heap.size) rfl 23 ((cells8 x).toArray) (0, 0) _ hX.out Tryd.underlying23 rfl Fx.out.size ?_)
    | (go_at_call 20; refine (hI1.out _ hb.out).mono ?_; rintro e w1 ⟨rfl, kk⟩; clear hI1; have hX1 := Lib.hid (hX.out.onW kk); have hY1 := Lib.hid (hY.out.onW kk); have hb1 : Hid (Below w.heap.size w w1) := hb.out.trans (kk.mono hb.out.size); clear kk hX hY hb)
    | ((with_reducible change wpList _ _ _ ({ dst := none, op := Op.store 23 (.tmp 15) _, type := _, pos := _, after := _, guard := _ } :: _) _ _); refine wpList_store_whole (o := ⟨none, _, _, _, _, _⟩) rfl 23 (.tmp 15) (.tmp 28) rfl (w1.heap.size) ((cells8 r1).toArray) rfl rfl 23 (Z32) (Blk.new w1 _ _) F1.out.size F1.out.zero F1.out.one ?_; intro w2 hP2 kk; have kb := kept_fresh kk; have hX2 := Lib.hid (hX1.out.onW kb); have hY2 := Lib.hid (hY1.out.onW kb); have hb2 : Hid (Below w.heap.size w w2) := hb1.out.trans (kb.mono hb1.out.size); replace hP2 := Lib.hid hP2; clear kk kb hX1 hY1 hb1)
    | ((with_reducible change wpList _ _ _ ({ dst := some 34, op := _, type := _, pos := _, after := _, guard := _ } :: _) _ _); refine wpList_load_row (o := ⟨some 34, _, _, _, _, _⟩) rfl 23 (.tmp 11) rfl (w.heap.size + 1) rfl 23 ((cells8 y).toArray) (0, 0) _ hY2.out Tryd.underlying23 rfl Fy.out.size ?_)
    | (go_at_call 20; refine (hI2.out _ hb2.out).mono ?_; rintro e w3 ⟨rfl, kk⟩; clear hI2; have hX3 := Lib.hid (hX2.out.onW kk); have hY3 := Lib.hid (hY2.out.onW kk); have hP3 := Lib.hid (hP2.out.onW kk); have hb3 : Hid (Below w.heap.size w w3) := hb2.out.trans (kk.mono hb2.out.size); clear kk hX2 hY2 hP2 hb2)
    | ((with_reducible change wpList _ _ _ ({ dst := none, op := Op.store 23 (.tmp 17) _, type := _, pos := _, after := _, guard := _ } :: _) _ _); refine wpList_store_whole (o := ⟨none, _, _, _, _, _⟩) rfl 23 (.tmp 17) (.tmp 37) rfl (w3.heap.size) ((cells8 r2).toArray) rfl rfl 23 (Z32) (Blk.new w3 _ _) F2.out.size F2.out.zero F2.out.one ?_; intro w4 hQ4 kk; have kb := kept_fresh kk; have hX4 := Lib.hid (hX3.out.onW kb); have hY4 := Lib.hid (hY3.out.onW kb); have hP4 := Lib.hid (hP3.out.onW kb); have hb4 : Hid (Below w.heap.size w w4) := hb3.out.trans (kb.mono hb3.out.size); replace hQ4 := Lib.hid hQ4; clear kk kb hX3 hY3 hP3 hb3)
    | ((with_reducible change wpList _ _ _ ({ dst := some 46, op := _, type := _, pos := _, after := _, guard := _ } :: _) _ _); (with_reducible refine Veil.out ?_); refine wpList_rowW (o := ⟨some 46, _, _, _, _, _⟩) rfl 23 (.tmp 15) rfl (w1.heap.size) rfl 23 ((cells8 r1).toArray) (0, 0) _ hP4.out Tryd.underlying23 rfl F1.out.size ?_)
    | ((with_reducible change wpList _ _ _ ({ dst := some 47, op := _, type := _, pos := _, after := _, guard := _ } :: _) _ _); (with_reducible refine Veil.out ?_); refine wpList_rowW (o := ⟨some 47, _, _, _, _, _⟩) rfl 23 (.tmp 17) rfl (w3.heap.size) rfl 23 ((cells8 r2).toArray) (0, 0) _ hQ4.out Tryd.underlying23 rfl F2.out.size ?_)
    | ((with_reducible change wpList _ _ _ ({ dst := some 51, op := _, type := _, pos := _, after := _, guard := _ } :: _) _ _); (with_reducible refine Veil.out ?_); refine wpList_rowW (o := ⟨some 51, _, _, _, _, _⟩) rfl 23 (.tmp 10) rfl (w.heap.size) rfl 23 ((cells8 x).toArray) (0, 0) _ hX4.out Tryd.underlying23 rfl Fx.out.size ?_)
    | ((with_reducible change wpList _ _ _ ({ dst := some 52, op := _, type := _, pos := _, after := _, guard := _ } :: _) _ _); (with_reducible refine Veil.out ?_); refine wpList_rowW (o := ⟨some 52, _, _, _, _, _⟩) rfl 23 (.tmp 11) rfl (w.heap.size + 1) rfl 23 ((cells8 y).toArray) (0, 0) _ hY4.out Tryd.underlying23 rfl Fy.out.size ?_)
    | (go_at_call 21; refine (hSm.out _ hb4.out).mono ?_; rintro e w5 ⟨rfl, kk⟩; clear hSm; have hX5 := Lib.hid (hX4.out.onW kk); have hY5 := Lib.hid (hY4.out.onW kk); have hb5 : Hid (Below w.heap.size w w5) := hb4.out.trans (kk.mono hb4.out.size); clear kk hX4 hY4 hP4 hQ4)
    | ((with_reducible change wpList _ _ _ ({ dst := some 64, op := _, type := _, pos := _, after := _, guard := _ } :: _) _ _); refine wpList_load_row (o := ⟨some 64, _, _, _, _, _⟩) rfl 23 (.tmp 10) rfl (w.heap.size) rfl 23 ((cells8 x).toArray) (0, 0) _ hX5.out Tryd.underlying23 rfl Fx.out.size ?_)
    | (go_at_call 22; refine (hC1.out _ hb5.out).mono ?_; rintro e w6 ⟨v1, xs1, rr1, gc1, rfl, hO1, hT1, kk, ha1⟩; clear hC1; have hY6 := Lib.hid (hY5.out.onW kk); have hb6 : Hid (Below w.heap.size w w6) := hb5.out.trans (kk.mono hb5.out.size); rw [pl1] at hO1; obtain ⟨A1, c1, rfl, hc1, -⟩ := Go.Proofs.YtpgenpogjhpeoaaDoor.Append.Own.reads hO1; have hO6 := Lib.hid (own_up hO1 (fun k e => Nat.le_trans hb5.out.size (ha1 k e))); have hT6 := Lib.hid (Txs.tx hT1 pt1); clear hO1 hT1 ha1 kk)
    | ((with_reducible change wpList _ _ _ ({ dst := some 73, op := _, type := _, pos := _, after := _, guard := _ } :: _) _ _); refine wpList_load_row (o := ⟨some 73, _, _, _, _, _⟩) rfl 23 (.tmp 11) rfl (w.heap.size + 1) rfl 23 ((cells8 y).toArray) (0, 0) _ hY6.out Tryd.underlying23 rfl Fy.out.size ?_)
    | (go_at_call 22; refine (hC2.out _ hb6.out).mono ?_; rintro e w7 ⟨v2, xs2, rr2, gc2, rfl, hO2, hT2, kk, ha2⟩; clear hC2; have hb7 : Hid (Below w.heap.size w w7) := hb6.out.trans (kk.mono hb6.out.size); rw [pl2] at hO2; obtain ⟨A2, c2, rfl, hc2, -, hnil2, hrd2, -⟩ := Go.Proofs.YtpgenpogjhpeoaaDoor.Append.Own.reads hO2; have hO7 := Lib.hid (Go.Proofs.YtpgenpogjhpeoaaDoor.Own.own_below hO6.out kk); have hT7 := Lib.hid (hT6.out.below kk); have hU7 := Lib.hid (Txs.tx hT2 pt2); have hV7 := Lib.hid hO2; clear hO2 hT2 ha2 kk hnil2 hrd2)
    | (go_at_call 23; refine (met_twice s p1 p2 n m pl1 pl2 n40 m40 A1 A2 c1 c2 w7 (hBB.out _ hb7.out) xs1 xs2 _ _ hO7.out hV7.out hT7.out hU7.out pt1 pt2 hM).mono ?_; rintro e w8 ⟨rfl, kk⟩; have hb8 : Hid (Below w.heap.size w w8) := hb7.out.trans (kk.mono hb7.out.size); have hO8 := Lib.hid (Go.Proofs.YtpgenpogjhpeoaaDoor.Own.own_below hO7.out kk); have hV8 := Lib.hid (Go.Proofs.YtpgenpogjhpeoaaDoor.Own.own_below hV7.out kk); have hT8 := Lib.hid (hT7.out.below kk); have hU8 := Lib.hid (hU7.out.below kk); obtain ⟨A3, c3, e3, -, -, hnil3, hrd3, -⟩ := Go.Proofs.YtpgenpogjhpeoaaDoor.Append.Own.reads hV8.out; injection e3 with e31 e32 e33; subst e31 e33; replace hrd3 := Lib.hid hrd3; replace hnil3 := Lib.hid hnil3; have hone := Lib.hid (own_one hV8.out hU8.out pl2); clear kk e32)
    | ((with_reducible change wpList _ _ _ ({ dst := some 108, op := _, type := _, pos := _, after := _, guard := _ } :: _) _ _); refine wpList_append_src _ (o := ⟨some 108, _, _, _, _, _⟩) rfl (.tmp 106) (.tmp 107) 24 rfl w.heap.size 27 i0 (.slice none 0 0) 1 24 Tryd.underlying24 ii iz0 iz1 iz2 rfl (by decide) (.slice A1 n c1) n xs1 rfl hO8.out A2 m c2 xs2 rfl hrd3.out hnil3.out hone.out (by unfold maxLen; omega) (by omega) hb8.out.size ?_; intro v9 w9 hG; obtain ⟨A9, c9, rfl, hP9, hb9⟩ := cat_twice hG pl1 pl2 hO8.out hT8.out hU8.out (by omega) hb8.out; clear hG)
    | (go_at_call 24; refine (among_any s (p1 ++ p2) (n + m) (by rw [List.length_append, pl1, pl2]) (by omega) A9 c9 w9 (hBB.out _ hb9.out) hP9.out (fun q hq => by rcases List.mem_append.1 hq with h | h; rw [pt1 q h]; decide; rw [pt2 q h]; decide) hM.met).mono ?_; rintro e w10 ⟨rfl, kk⟩; replace hb9 := Lib.hid (hb9.out.trans (kk.mono hb9.out.size)); clear kk))
  go_ret
  exact ⟨rfl, hb9.out⟩

set_option maxRecDepth 100000 in
set_option maxHeartbeats 4000000 in
theorem tw_leaf (s size i : Int) (x y : Text) (hx : x.length = 32) (hy : y.length = 32) (n m : Nat) (A B : Option Addr) (c d : Nat) (w : World) (r1 r2 : Text) (k1 k2 : Int) (hl1 : r1.length = 32) (hl2 : r2.length = 32)
    (hI1 : Hid (∀ w', Below w.heap.size w w' → Calls Tryd.prog 20 #[.int .i64 s, .int .i64 size, .int .i64 i, .agg (cells8 x).toArray, .slice A n c] w' fun e w'' => e = .returned (.tuple #[.agg (cells8 r1).toArray, .int .i64 k1]) ∧ Below w'.heap.size w' w''))
    (hI2 : Hid (∀ w', Below w.heap.size w w' → Calls Tryd.prog 20 #[.int .i64 s, .int .i64 size, .int .i64 i, .agg (cells8 y).toArray, .slice B m d] w' fun e w'' => e = .returned (.tuple #[.agg (cells8 r2).toArray, .int .i64 k2]) ∧ Below w'.heap.size w' w'')) (z1 : k1 = 0) (z2 : k2 = 0) (hr : r1 = r2) (hxy : ¬ x = y)
    (p1 p2 : List Text) (hC1 : Hid (∀ w', Below w.heap.size w w' → Calls Tryd.prog 22 #[.int .i64 s, .int .i64 size, .int .i64 i, .agg (cells8 x).toArray, .slice A n c] w' fun e w'' => ∃ v xs r gc, e = .returned (.tuple #[v, .int .i64 k1]) ∧ w''.ownsRow 0 27 1 v p1.length xs ∧ Txs (fun _ => False) w'' gc r xs p1 ∧ Below w'.heap.size w' w'' ∧ ∀ k, v.ownBlock = some k → w'.heap.size ≤ k))
    (hC2 : Hid (∀ w', Below w.heap.size w w' → Calls Tryd.prog 22 #[.int .i64 s, .int .i64 size, .int .i64 i, .agg (cells8 y).toArray, .slice B m d] w' fun e w'' => ∃ v xs r gc, e = .returned (.tuple #[v, .int .i64 k2]) ∧ w''.ownsRow 0 27 1 v p2.length xs ∧ Txs (fun _ => False) w'' gc r xs p2 ∧ Below w'.heap.size w' w'' ∧ ∀ k, v.ownBlock = some k → w'.heap.size ≤ k))
    (pl1 : p1.length = n) (pl2 : p2.length = m) (pt1 : ∀ q ∈ p1, q.length = 65) (pt2 : ∀ q ∈ p2, q.length = 65) (n40 : n ≤ 40) (m40 : m ≤ 40) (hBB : Hid (∀ w', Below w.heap.size w w' → Base w')) (hnm : 0 < m → 0 < n) (hM : MetAt s p1 p2) :
    Calls Tryd.prog 4 #[.int .i64 s, .int .i64 size, .int .i64 i, .agg (cells8 x).toArray, .agg (cells8 y).toArray, .slice A n c, .slice B m d] w fun e w' => e = .returned (.bool true) ∧ Below w.heap.size w w' := by
  have hb : Hid (Below w.heap.size w ((w.alloc (.cells (cells8 x).toArray 23)).alloc (.cells (cells8 y).toArray 23))) := (Below.heap_below w _).alloc (by simp) _
  have hX : Hid (Blk ((w.alloc (.cells (cells8 x).toArray 23)).alloc (.cells (cells8 y).toArray 23)) w.heap.size 23 (cells8 x).toArray) := (Blk.new w _ _).alloc _
  have hY : Hid (Blk ((w.alloc (.cells (cells8 x).toArray 23)).alloc (.cells (cells8 y).toArray 23)) (w.heap.size + 1) 23 (cells8 y).toArray) := by
    have := Blk.new (w.alloc (.cells (cells8 x).toArray 23)) 23 (cells8 y).toArray
    rwa [show (w.alloc (.cells (cells8 x).toArray 23)).heap.size = w.heap.size + 1 by simp] at this
  have Fx := Lib.hid (fit (x := x) hx)
  have Fy := Lib.hid (fit (x := y) hy)
  have F1 := Lib.hid (fit (x := r1) hl1)
  have F2 := Lib.hid (fit (x := r2) hl2)
  subst z1 z2
  have hq1 := neq_dig r1 r2 hl1 hl2
  have hq2 := eql_dig x y hx hy
  rw [decide_eq_true hr] at hq1
  rw [decide_eq_false hxy] at hq2
  simp only [Bool.not_true] at hq1
  obtain ⟨i0, ii, iz0, iz1, iz2⟩ := info_partsN infoT
  clear hr hxy hx hy hl1 hl2
  go_enter Tryd.func4, Tryd.ntmps4
  go_wp2_with (first
    | ((with_reducible change wpList _ _ _ ({ dst := some 25, op := _, type := _, pos := _, after := _, guard := _ } :: _) _ _); refine wpList_load_row (o := ⟨some 25, _, _, _, _, _⟩) rfl 23 (.tmp 10) rfl (w.heap.size) rfl 23 ((cells8 x).toArray) (0, 0) _ hX.out Tryd.underlying23 rfl Fx.out.size ?_)
    | (go_at_call 20; refine (hI1.out _ hb.out).mono ?_; rintro e w1 ⟨rfl, kk⟩; clear hI1; have hX1 := Lib.hid (hX.out.onW kk); have hY1 := Lib.hid (hY.out.onW kk); have hb1 : Hid (Below w.heap.size w w1) := hb.out.trans (kk.mono hb.out.size); clear kk hX hY hb)
    | ((with_reducible change wpList _ _ _ ({ dst := none, op := Op.store 23 (.tmp 15) _, type := _, pos := _, after := _, guard := _ } :: _) _ _); refine wpList_store_whole (o := ⟨none, _, _, _, _, _⟩) rfl 23 (.tmp 15) (.tmp 28) rfl (w1.heap.size) ((cells8 r1).toArray) rfl rfl 23 (Z32) (Blk.new w1 _ _) F1.out.size F1.out.zero F1.out.one ?_; intro w2 hP2 kk; have kb := kept_fresh kk; have hX2 := Lib.hid (hX1.out.onW kb); have hY2 := Lib.hid (hY1.out.onW kb); have hb2 : Hid (Below w.heap.size w w2) := hb1.out.trans (kb.mono hb1.out.size); replace hP2 := Lib.hid hP2; clear kk kb hX1 hY1 hb1)
    | ((with_reducible change wpList _ _ _ ({ dst := some 34, op := _, type := _, pos := _, after := _, guard := _ } :: _) _ _); refine wpList_load_row (o := ⟨some 34, _, _, _, _, _⟩) rfl 23 (.tmp 11) rfl (w.heap.size + 1) rfl 23 ((cells8 y).toArray) (0, 0) _ hY2.out Tryd.underlying23 rfl Fy.out.size ?_)
    | (go_at_call 20; refine (hI2.out _ hb2.out).mono ?_; rintro e w3 ⟨rfl, kk⟩; clear hI2; have hX3 := Lib.hid (hX2.out.onW kk); have hY3 := Lib.hid (hY2.out.onW kk); have hP3 := Lib.hid (hP2.out.onW kk); have hb3 : Hid (Below w.heap.size w w3) := hb2.out.trans (kk.mono hb2.out.size); clear kk hX2 hY2 hP2 hb2)
    | ((with_reducible change wpList _ _ _ ({ dst := none, op := Op.store 23 (.tmp 17) _, type := _, pos := _, after := _, guard := _ } :: _) _ _); refine wpList_store_whole (o := ⟨none, _, _, _, _, _⟩) rfl 23 (.tmp 17) (.tmp 37) rfl (w3.heap.size) ((cells8 r2).toArray) rfl rfl 23 (Z32) (Blk.new w3 _ _) F2.out.size F2.out.zero F2.out.one ?_; intro w4 hQ4 kk; have kb := kept_fresh kk; have hX4 := Lib.hid (hX3.out.onW kb); have hY4 := Lib.hid (hY3.out.onW kb); have hP4 := Lib.hid (hP3.out.onW kb); have hb4 : Hid (Below w.heap.size w w4) := hb3.out.trans (kb.mono hb3.out.size); replace hQ4 := Lib.hid hQ4; clear kk kb hX3 hY3 hP3 hb3)
    | ((with_reducible change wpList _ _ _ ({ dst := some 46, op := _, type := _, pos := _, after := _, guard := _ } :: _) _ _); (with_reducible refine Veil.out ?_); refine wpList_rowW (o := ⟨some 46, _, _, _, _, _⟩) rfl 23 (.tmp 15) rfl (w1.heap.size) rfl 23 ((cells8 r1).toArray) (0, 0) _ hP4.out Tryd.underlying23 rfl F1.out.size ?_)
    | ((with_reducible change wpList _ _ _ ({ dst := some 47, op := _, type := _, pos := _, after := _, guard := _ } :: _) _ _); (with_reducible refine Veil.out ?_); refine wpList_rowW (o := ⟨some 47, _, _, _, _, _⟩) rfl 23 (.tmp 17) rfl (w3.heap.size) rfl 23 ((cells8 r2).toArray) (0, 0) _ hQ4.out Tryd.underlying23 rfl F2.out.size ?_)
    | ((with_reducible change wpList _ _ _ ({ dst := some 51, op := _, type := _, pos := _, after := _, guard := _ } :: _) _ _); (with_reducible refine Veil.out ?_); refine wpList_rowW (o := ⟨some 51, _, _, _, _, _⟩) rfl 23 (.tmp 10) rfl (w.heap.size) rfl 23 ((cells8 x).toArray) (0, 0) _ hX4.out Tryd.underlying23 rfl Fx.out.size ?_)
    | ((with_reducible change wpList _ _ _ ({ dst := some 52, op := _, type := _, pos := _, after := _, guard := _ } :: _) _ _); (with_reducible refine Veil.out ?_); refine wpList_rowW (o := ⟨some 52, _, _, _, _, _⟩) rfl 23 (.tmp 11) rfl (w.heap.size + 1) rfl 23 ((cells8 y).toArray) (0, 0) _ hY4.out Tryd.underlying23 rfl Fy.out.size ?_)
    | ((with_reducible change wpList _ _ _ ({ dst := some 64, op := _, type := _, pos := _, after := _, guard := _ } :: _) _ _); refine wpList_load_row (o := ⟨some 64, _, _, _, _, _⟩) rfl 23 (.tmp 10) rfl (w.heap.size) rfl 23 ((cells8 x).toArray) (0, 0) _ hX4.out Tryd.underlying23 rfl Fx.out.size ?_)
    | (go_at_call 22; refine (hC1.out _ hb4.out).mono ?_; rintro e w6 ⟨v1, xs1, rr1, gc1, rfl, hO1, hT1, kk, ha1⟩; clear hC1; have hY6 := Lib.hid (hY4.out.onW kk); have hb6 : Hid (Below w.heap.size w w6) := hb4.out.trans (kk.mono hb4.out.size); rw [pl1] at hO1; obtain ⟨A1, c1, rfl, hc1, -⟩ := Go.Proofs.YtpgenpogjhpeoaaDoor.Append.Own.reads hO1; have hO6 := Lib.hid (own_up hO1 (fun k e => Nat.le_trans hb4.out.size (ha1 k e))); have hT6 := Lib.hid (Txs.tx hT1 pt1); clear hO1 hT1 ha1 kk)
    | ((with_reducible change wpList _ _ _ ({ dst := some 73, op := _, type := _, pos := _, after := _, guard := _ } :: _) _ _); refine wpList_load_row (o := ⟨some 73, _, _, _, _, _⟩) rfl 23 (.tmp 11) rfl (w.heap.size + 1) rfl 23 ((cells8 y).toArray) (0, 0) _ hY6.out Tryd.underlying23 rfl Fy.out.size ?_)
    | (go_at_call 22; refine (hC2.out _ hb6.out).mono ?_; rintro e w7 ⟨v2, xs2, rr2, gc2, rfl, hO2, hT2, kk, ha2⟩; clear hC2; have hb7 : Hid (Below w.heap.size w w7) := hb6.out.trans (kk.mono hb6.out.size); rw [pl2] at hO2; obtain ⟨A2, c2, rfl, hc2, -, hnil2, hrd2, -⟩ := Go.Proofs.YtpgenpogjhpeoaaDoor.Append.Own.reads hO2; have hO7 := Lib.hid (Go.Proofs.YtpgenpogjhpeoaaDoor.Own.own_below hO6.out kk); have hT7 := Lib.hid (hT6.out.below kk); have hU7 := Lib.hid (Txs.tx hT2 pt2); have hV7 := Lib.hid hO2; clear hO2 hT2 ha2 kk hnil2 hrd2)
    | (go_at_call 23; refine (met_twice s p1 p2 n m pl1 pl2 n40 m40 A1 A2 c1 c2 w7 (hBB.out _ hb7.out) xs1 xs2 _ _ hO7.out hV7.out hT7.out hU7.out pt1 pt2 hM).mono ?_; rintro e w8 ⟨rfl, kk⟩; have hb8 : Hid (Below w.heap.size w w8) := hb7.out.trans (kk.mono hb7.out.size); have hO8 := Lib.hid (Go.Proofs.YtpgenpogjhpeoaaDoor.Own.own_below hO7.out kk); have hV8 := Lib.hid (Go.Proofs.YtpgenpogjhpeoaaDoor.Own.own_below hV7.out kk); have hT8 := Lib.hid (hT7.out.below kk); have hU8 := Lib.hid (hU7.out.below kk); obtain ⟨A3, c3, e3, -, -, hnil3, hrd3, -⟩ := Go.Proofs.YtpgenpogjhpeoaaDoor.Append.Own.reads hV8.out; injection e3 with e31 e32 e33; subst e31 e33; replace hrd3 := Lib.hid hrd3; replace hnil3 := Lib.hid hnil3; have hone := Lib.hid (own_one hV8.out hU8.out pl2); clear kk e32)
    | ((with_reducible change wpList _ _ _ ({ dst := some 108, op := _, type := _, pos := _, after := _, guard := _ } :: _) _ _); refine wpList_append_src _ (o := ⟨some 108, _, _, _, _, _⟩) rfl (.tmp 106) (.tmp 107) 24 rfl w.heap.size 27 i0 (.slice none 0 0) 1 24 Tryd.underlying24 ii iz0 iz1 iz2 rfl (by decide) (.slice A1 n c1) n xs1 rfl hO8.out A2 m c2 xs2 rfl hrd3.out hnil3.out hone.out (by unfold maxLen; omega) (by omega) hb8.out.size ?_; intro v9 w9 hG; obtain ⟨A9, c9, rfl, hP9, hb9⟩ := cat_twice hG pl1 pl2 hO8.out hT8.out hU8.out (by omega) hb8.out; clear hG)
    | (go_at_call 24; refine (among_any s (p1 ++ p2) (n + m) (by rw [List.length_append, pl1, pl2]) (by omega) A9 c9 w9 (hBB.out _ hb9.out) hP9.out (fun q hq => by rcases List.mem_append.1 hq with h | h; rw [pt1 q h]; decide; rw [pt2 q h]; decide) hM.met).mono ?_; rintro e w10 ⟨rfl, kk⟩; replace hb9 := Lib.hid (hb9.out.trans (kk.mono hb9.out.size)); clear kk))
  go_ret
  exact ⟨rfl, hb9.out⟩

theorem treeTwice_any (s size i : Int) (x y : Text) (hx : x.length = 32) (hy : y.length = 32) (ds es : List Text) (n m : Nat) (A B : Option Addr) (c d : Nat) (hn : n < 140737488355328) (hm : m < 140737488355328) (w : World) (hBs : Base w) (hrd : RdD w A n ds) (hre : RdD w B m es) :
    Calls Tryd.prog 4 #[.int .i64 s, .int .i64 size, .int .i64 i, .agg (cells8 x).toArray, .agg (cells8 y).toArray, .slice A n c, .slice B m d] w fun e w' => e = .returned (.bool true) ∧ Below w.heap.size w w' := by
  have hI1 := Lib.hid (fun w' (hb : Below w.heap.size w w') => include_any s size i x hx ds A n c (by omega) w' (hBs.below hb hBs.1) (hrd.below hb))
  have hI2 := Lib.hid (fun w' (hb : Below w.heap.size w w') => include_any s size i y hy es B m d (by omega) w' (hBs.below hb hBs.1) (hre.below hb))
  have hC1 := Lib.hid (fun w' (hb : Below w.heap.size w w') => climb_own s size i x hx ds A n c (by omega) w' (hBs.below hb hBs.1) (hrd.below hb))
  have hC2 := Lib.hid (fun w' (hb : Below w.heap.size w w') => climb_own s size i y hy es B m d (by omega) w' (hBs.below hb hBs.1) (hre.below hb))
  have hSm := Lib.hid (fun w' (hb : Below w.heap.size w w') => sameD_any n m hn ds es A B c d w' (hrd.below hb) (hre.below hb))
  have hl1 := inclOf_len s size i x [] ds hx
  have hl2 := inclOf_len s size i y [] es hy
  have hBB := Lib.hid (fun w' (hb : Below w.heap.size w w') => hBs.below hb hBs.1)
  by_cases z1 : (inclOf s size i x [] ds).2.1 = 0
  · by_cases z2 : (inclOf s size i y [] es).2.1 = 0
    · by_cases hr : (inclOf s size i x [] ds).1 = (inclOf s size i y [] es).1
      · obtain ⟨n40, na, -, pl1, pt1⟩ := incl_taken hx hrd.2.1 z1
        obtain ⟨m40, ma, -, pl2, pt2⟩ := incl_taken hy hre.2.1 z2
        rw [hrd.1] at n40 na pl1
        rw [hre.1] at m40 ma pl2
        by_cases hxy : x = y
        · by_cases hde : ds = es
          · rw [decide_eq_true hde] at hSm
            exact tw_same s size i x y hx hy n m A B c d w _ _ _ _ hl1 hl2 hI1 hI2 z1 z2 hr hxy hSm
          · rw [decide_eq_false hde] at hSm
            exact tw_ways s size i x y hx hy n m A B c d w _ _ _ _ hl1 hl2 hI1 hI2 z1 z2 hr hxy hSm _ _ hC1 hC2 pl1 pl2 pt1 pt2 n40 m40 hBB (by omega) (incl_meet hx hy hrd.2.1 hre.2.1 z1 z2 hr (fun h => hde h.2))
        · exact tw_leaf s size i x y hx hy n m A B c d w _ _ _ _ hl1 hl2 hI1 hI2 z1 z2 hr hxy _ _ hC1 hC2 pl1 pl2 pt1 pt2 n40 m40 hBB (by omega) (incl_meet hx hy hrd.2.1 hre.2.1 z1 z2 hr (fun h => hxy h.1))
      · exact tw_ne s size i x y hx hy n m A B c d w _ _ _ _ hl1 hl2 hI1 hI2 z1 z2 hr
    · exact tw_e2 s size i x y hx hy n m A B c d w _ _ _ _ hl1 hl2 hI1 hI2 z1 z2
  · exact tw_e1 s size i x y hx hy n m A B c d w _ _ _ _ hl1 hl2 hI1 hI2 z1
end Go.Proofs.YtpgenpogjhpeoaaDoor.TreeTwice
