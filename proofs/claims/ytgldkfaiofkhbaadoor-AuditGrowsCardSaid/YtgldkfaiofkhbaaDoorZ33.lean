/-
  Texts of the claim, put into one file: SgM, Rising, EncNoteP, EncNote, RowS, NoteM, Bin, BinH, RingS, Find, NewRing, RefRising, RefNote, VerP, GrowP, AudM, AudNote, Rising0, Verify, AudNew, SameN20, Offers, Law20b.
-/
import Derived.Test.YtgldkfaiofkhbaaDoorZ32
import Derived.Test.YtgldkfaiofkhbaaDoorZ13
import Derived.Test.YtgldkfaiofkhbaaDoorShelf
import Derived.Test.YtgldkfaiofkhbaaDoorZ8
import Derived.Deep.Cut
import Derived.Test.YtgldkfaiofkhbaaDoorZ12
import Derived.Test.YtgldkfaiofkhbaaDoorZ3
import Derived.Test.YtgldkfaiofkhbaaDoorShelfH
import Derived.Test.YtgldkfaiofkhbaaDoorZ24
import Derived.LoopN
import Derived.Test.YtgldkfaiofkhbaaDoorZ4
import Derived.Test.YtgldkfaiofkhbaaDoorZ30
import Derived.Test.YtgldkfaiofkhbaaDoorZ16
import Derived.WalkSpells
import Derived.Test.YtgldkfaiofkhbaaDoorZ20
import Derived.Test.YtgldkfaiofkhbaaDoorZ15
import Derived.Test.YtgldkfaiofkhbaaDoorZ21
import Derived.Deep.CutRange
import Derived.Test.YtgldkfaiofkhbaaDoorZ14

namespace Go.Proofs.YtgldkfaiofkhbaaDoor.SgM
open Go Go.RowKit Go.Proofs.YtgldkfaiofkhbaaDoor Go.Proofs.YtgldkfaiofkhbaaDoor.Mem Go.Proofs.YtgldkfaiofkhbaaDoor.Sha Go.Proofs.YtgldkfaiofkhbaaDoor.Bytes Go.Proofs.YtgldkfaiofkhbaaDoor.SortP Go.Proofs.YtgldkfaiofkhbaaDoor.NoteP Go.Proofs.YtgldkfaiofkhbaaDoor.Rise Go.Proofs.YtgldkfaiofkhbaaDoor.SortM Go.Proofs.YtgldkfaiofkhbaaDoor.Append Go.Proofs.YtgldkfaiofkhbaaDoor.Own

/-- Each is 64 bytes long. -/
def Sns (ds : List Text) : Prop := ∀ d ∈ ds, d.length = 64
theorem Sns.take_ {ds : List Text} (h : Sns ds) (k : Nat) : Sns (ds.take k) := fun d hd => h d (List.mem_of_mem_take hd)
theorem Sns.drop_ {ds : List Text} (h : Sns ds) (k : Nat) : Sns (ds.drop k) := fun d hd => h d (List.mem_of_mem_drop hd)
theorem Sns.at_ {ds : List Text} (h : Sns ds) {i : Nat} {d : Text} (hi : ds[i]? = some d) : d.length = 64 := h d (List.mem_of_getElem? hi)
theorem Sns.append_ {xs ys : List Text} (h : Sns xs) (k : Sns ys) : Sns (xs ++ ys) := fun d hd => by
  rcases List.mem_append.1 hd with x | x
  · exact h d x
  · exact k d x
theorem Sns.one {d : Text} (h : d.length = 64) : Sns [d] := fun x hx => by simp only [List.mem_singleton] at hx; rw [hx, h]
theorem Sns.nil : Sns [] := fun _ h => by cases h
theorem flat_take : ∀ (ds : List Text) (k : Nat), Sns ds → (ds.flatMap cells8).take (k * 64) = (ds.take k).flatMap cells8
  | [], k, _ => by simp
  | d :: ds, 0, _ => by simp
  | d :: ds, k + 1, h => by
    have h1 := flat_take ds k (fun x hx => h x (List.mem_cons_of_mem _ hx))
    have h2 : (cells8 d).length = 64 := by rw [cells8_len]; exact h d (List.mem_cons_self ..)
    simp only [List.flatMap_cons, List.take_succ_cons]
    rw [List.take_append, h2, List.take_of_length_le (by omega), show (k + 1) * 64 - 64 = k * 64 by omega, h1]
theorem flat_drop : ∀ (ds : List Text) (k : Nat), Sns ds → (ds.flatMap cells8).drop (k * 64) = (ds.drop k).flatMap cells8
  | [], k, _ => by simp
  | d :: ds, 0, _ => by simp
  | d :: ds, k + 1, h => by
    have h1 := flat_drop ds k (fun x hx => h x (List.mem_cons_of_mem _ hx))
    have h2 : (cells8 d).length = 64 := by rw [cells8_len]; exact h d (List.mem_cons_self ..)
    simp only [List.flatMap_cons, List.drop_succ_cons]
    rw [List.drop_append, h2, List.drop_of_length_le (by omega), show (k + 1) * 64 - 64 = k * 64 by omega, h1, List.nil_append]
theorem one_signs (ss : List Text) : ∀ u ∈ ss.flatMap cells8, u.oneCell' = true := by
  intro u hu
  obtain ⟨t, -, ht⟩ := List.mem_flatMap.1 hu
  exact cells8_one t u ht
section
variable {w w' : World} {A : Option Addr} {n : Nat} {ds : List Text}
theorem _root_.Go.Proofs.YtgldkfaiofkhbaaDoor.Rise.Sgs.nil_ (w : World) (A : Option Addr) : Sgs w A 0 [] := ⟨rfl, (fun _ h => by cases h), Reads.nil_ _ _ _⟩
theorem _root_.Go.Proofs.YtgldkfaiofkhbaaDoor.Rise.Sgs.drewN (h : Sgs w A n ds) (k : Nat) : Sgs (w.drewN k) A n ds := ⟨h.len, h.all, h.rd.drewN k⟩
theorem _root_.Go.Proofs.YtgldkfaiofkhbaaDoor.Rise.Sgs.take_ (h : Sgs w A n ds) (k : Nat) (hk : k ≤ n) : Sgs w A k (ds.take k) := by
  have hl := h.len
  have ha : Sns (ds.take k) := Sns.take_ h.all k
  have hlen : (ds.take k).length = k := by rw [List.length_take]; omega
  refine ⟨hlen, ha, by rw [flat_len _ ha, hlen], fun h0 => ?_⟩
  obtain ⟨b, o, e, hb, hc⟩ := h.rd.2 (by omega)
  refine ⟨b, o, e, hb, fun j u hu => hc j u ?_⟩
  rw [← flat_take ds k h.all, List.getElem?_take] at hu
  by_cases hj : j < k * 64
  · rw [if_pos hj] at hu; exact hu
  · rw [if_neg hj] at hu; cases hu
/-- Where the rest behind the first k of a row of signs lies. -/
def cutS (A : Option Addr) (k c : Nat) : Option Addr := if c = k then A else A.map (·.add (k * 64))
theorem _root_.Go.Proofs.YtgldkfaiofkhbaaDoor.Rise.Sgs.drop_ (h : Sgs w A n ds) (k c : Nat) (hk : k ≤ n) (hc : n ≤ c) : Sgs w (cutS A k c) (n - k) (ds.drop k) := by
  have hl := h.len
  have ha : Sns (ds.drop k) := Sns.drop_ h.all k
  have hlen : (ds.drop k).length = n - k := by rw [List.length_drop]; omega
  refine ⟨hlen, ha, by rw [flat_len _ ha, hlen], fun h0 => ?_⟩
  obtain ⟨b, o, e, hb, hcs⟩ := h.rd.2 (by omega)
  subst e
  refine ⟨b, o + k * 64, by unfold cutS; rw [if_neg (by omega), Option.map_some, add_at], hb, fun j u hu => ?_⟩
  rw [Nat.add_assoc]
  apply hcs
  rw [← flat_drop ds k h.all, List.getElem?_drop] at hu
  exact hu
end
def Z64 : Array Value := #[Value.int IntKind.u8 0, Value.int IntKind.u8 0, Value.int IntKind.u8 0, Value.int IntKind.u8 0, Value.int IntKind.u8 0, Value.int IntKind.u8 0, Value.int IntKind.u8 0, Value.int IntKind.u8 0, Value.int IntKind.u8 0, Value.int IntKind.u8 0, Value.int IntKind.u8 0, Value.int IntKind.u8 0, Value.int IntKind.u8 0, Value.int IntKind.u8 0, Value.int IntKind.u8 0, Value.int IntKind.u8 0, Value.int IntKind.u8 0, Value.int IntKind.u8 0, Value.int IntKind.u8 0, Value.int IntKind.u8 0, Value.int IntKind.u8 0, Value.int IntKind.u8 0, Value.int IntKind.u8 0, Value.int IntKind.u8 0, Value.int IntKind.u8 0, Value.int IntKind.u8 0, Value.int IntKind.u8 0, Value.int IntKind.u8 0, Value.int IntKind.u8 0, Value.int IntKind.u8 0, Value.int IntKind.u8 0, Value.int IntKind.u8 0, Value.int IntKind.u8 0, Value.int IntKind.u8 0, Value.int IntKind.u8 0, Value.int IntKind.u8 0, Value.int IntKind.u8 0, Value.int IntKind.u8 0, Value.int IntKind.u8 0, Value.int IntKind.u8 0, Value.int IntKind.u8 0, Value.int IntKind.u8 0, Value.int IntKind.u8 0, Value.int IntKind.u8 0, Value.int IntKind.u8 0, Value.int IntKind.u8 0, Value.int IntKind.u8 0, Value.int IntKind.u8 0, Value.int IntKind.u8 0, Value.int IntKind.u8 0, Value.int IntKind.u8 0, Value.int IntKind.u8 0, Value.int IntKind.u8 0, Value.int IntKind.u8 0, Value.int IntKind.u8 0, Value.int IntKind.u8 0, Value.int IntKind.u8 0, Value.int IntKind.u8 0, Value.int IntKind.u8 0, Value.int IntKind.u8 0, Value.int IntKind.u8 0, Value.int IntKind.u8 0, Value.int IntKind.u8 0, Value.int IntKind.u8 0]
theorem info64 : (Tryd.prog.info? 116).map (fun i => (i.zero, i.size, i.bytes)) = some (some (.agg Z64), 64, 64) := by kernel_rfl
theorem info_partsN {P : Program} {e : TypeId} {z : Value} {s b : Nat} (h : (P.info? e).map (fun i => (i.zero, i.size, i.bytes)) = some (some z, s, b)) : ∃ i : TypeInfo, P.info? e = some i ∧ i.zero = some z ∧ i.size = s ∧ i.bytes = b := by
  cases hq : P.info? e with
  | none => simp [hq] at h
  | some i =>
    simp [hq] at h
    exact ⟨i, rfl, h.1, h.2.1, h.2.2⟩
/-- A row of signs of one's own. -/
def OwnS (w : World) (B : Nat) (v : Value) (n : Nat) (ds : List Text) : Prop := Sns ds ∧ ds.length = n ∧ w.ownsRow B 116 64 v n (ds.flatMap cells8)
theorem OwnS.nil (w : World) (B : Nat) : OwnS w B (.slice none 0 0) 0 [] := ⟨Sns.nil, rfl, World.ownsRow_nil _ _ _ _⟩
theorem OwnS.below {w w' : World} {B n : Nat} {v : Value} {ds : List Text} (h : OwnS w B v n ds) (hb : Below w.heap.size w w') : OwnS w' B v n ds := ⟨h.1, h.2.1, own_below h.2.2 hb⟩
theorem OwnS.reads {w : World} {B n : Nat} {v : Value} {ds : List Text} (h : OwnS w B v n ds) : ∃ A c, v = .slice A n c ∧ n ≤ c ∧ c ≤ maxLen ∧ (A = none → n = 0 ∧ c = 0) ∧ Sgs w A n ds ∧ ∀ a, A = some a → B ≤ a.block := by
  obtain ⟨A, c, e, h1, h2, h3, h4, h5⟩ := Own.reads h.2.2
  exact ⟨A, c, e, h1, h2, h3, ⟨h.2.1, h.1, h4⟩, fun a ha => (h5 a ha).1⟩
theorem OwnS.base {w : World} {B B' n : Nat} {v : Value} {ds : List Text} (h : OwnS w B v n ds) (hB : B' ≤ B) : OwnS w B' v n ds := ⟨h.1, h.2.1, ownsRow_base h.2.2 hB⟩
theorem own_some {w : World} {B n c : Nat} {A : Option Addr} {ds : List Text} (h : OwnS w B (.slice A n c) n ds) (hn : 0 < n) : ∃ g, A = some ⟨g, 0, none⟩ := by
  rcases h.2.2.2 with ⟨h2, h3⟩ | ⟨g, c2, cur, h2, -⟩
  · omega
  · injection h2 with h2
    exact ⟨g, h2⟩
/-- What an append of signs onto signs leaves. -/
theorem grew_signs {w w' : World} {B n m : Nat} {v v' : Value} {xs ys : List Text} (h : Grew w B 116 64 v n m (xs.flatMap cells8) (ys.flatMap cells8) v' w') {w0 : World} (hb : Below B w0 w) (hB : B ≤ w.heap.size) (hx : OwnS w B v n xs) (hy : Sns ys) (hm : ys.length = m) :
    OwnS w' B v' (n + m) (xs ++ ys) ∧ Below B w0 w' := by
  refine ⟨⟨Sns.append_ hx.1 hy, by rw [List.length_append, hx.2.1, hm], ?_⟩, ?_⟩
  · have := h.own
    rwa [← List.flatMap_append] at this
  · obtain ⟨A, c, rfl, -, -, -, -, -⟩ := OwnS.reads hx
    exact h.below hb hB (own_block hx.2.2)
end Go.Proofs.YtgldkfaiofkhbaaDoor.SgM

namespace Go.Proofs.YtgldkfaiofkhbaaDoor.Rising
open Go Go.RowKit Go.Proofs.YtgldkfaiofkhbaaDoor Go.Proofs.YtgldkfaiofkhbaaDoor.Mem Go.Proofs.YtgldkfaiofkhbaaDoor.Sha Go.Proofs.YtgldkfaiofkhbaaDoor.Bytes Go.Proofs.YtgldkfaiofkhbaaDoor.SortP Go.Proofs.YtgldkfaiofkhbaaDoor.NoteP Go.Proofs.YtgldkfaiofkhbaaDoor.Rise Go.Proofs.YtgldkfaiofkhbaaDoor.SortM Go.Proofs.YtgldkfaiofkhbaaDoor.Append Go.Proofs.YtgldkfaiofkhbaaDoor.Own Go.Proofs.YtgldkfaiofkhbaaDoor.SgM

theorem sorted_riseB {l d : List Text} (hp : d.Perm l) (hs : d.Pairwise fun a b => lex (kyS b) (kyS a) = false) : rising kyS l = if riseB (ky := kyS) d = true then some d else none := by
  have h := sorted_rising (ky := kyS) hp hs
  by_cases hr : riseB (ky := kyS) d = true
  · rw [if_pos hr, h, if_pos]
    exact (hp.pairwise_iff (R := fun a b => kyS a ≠ kyS b) (fun hab => fun e => hab e.symm)).1 ((riseB_iff.1 hr).imp fun hab => lex_ne hab)
  · rw [if_neg hr]
    cases hq : rising kyS l with
    | none => rfl
    | some r =>
      exfalso
      rw [hq] at h
      by_cases hd : l.Pairwise (fun a b => kyS a ≠ kyS b)
      · rw [if_pos hd] at h
        obtain rfl : r = d := Option.some.inj h
        exact hr (riseB_iff.2 (rising_some hq).1)
      · rw [if_neg hd] at h
        cases h
set_option maxRecDepth 100000 in
/-- slices.SortFunc at a row of signs of one's own. -/
theorem sort_own (ss : List Text) (n B g c : Nat) (hn47 : n ≤ 2199023255552) (w : World) (h : OwnS w B (.slice (some ⟨g, 0, none⟩) n c) n ss) (hB : B ≤ w.heap.size) :
    Calls Tryd.prog 152 #[.slice (some ⟨g, 0, none⟩) n c, .func (.func 153) #[] #[]] w fun e w' => e = .returned (.tuple #[]) ∧ ∃ ds : List Text, Hid (rising kyS ss = if riseB (ky := kyS) ds = true then some ds else none) ∧ Hid (OwnS w' B (.slice (some ⟨g, 0, none⟩) n c) n ds) ∧ Hid (Below B w w') := by
  have hg : g < w.heap.size ∧ B ≤ g := by
    rcases h.2.2.2 with ⟨h2, -⟩ | ⟨g2, c2, cur, h2, hB, hg, -⟩
    · cases h2
    · injection h2 with h3
      injection h3 with h3
      injection h3 with h3
      subst h3
      exact ⟨(Array.getElem?_eq_some_iff.1 hg).1, hB⟩
  have eg : ∀ args w, (callFunc 153 args).run Tryd.prog w = .ok (.enter 153 args) w := enters_of Tryd.func153 (by kernel_rfl) rfl
  have hsn : ∀ t ∈ ss, t.length = 64 := h.1
  have hsz : (arr ss hsn).size = n := (arr_size ss hsn).trans h.2.1
  have hcon := AnyQ.slices_SortFunc Tryd.sortSigns 64 (fun _ => rfl) (fun _ => rfl) enc enc_len enc_one cfS swo 153 #[] g 0 c (arr ss hsn) w eg (byKey_lays g 0 _ w) (holds_own hsn h.2.2) hg.1 (by rw [hsz]; omega)
  simp only [hsz] at hcon
  change Calls _ 152 _ _ _ at hcon
  refine hcon.mono fun e w' ⟨he, d', k, os, hp, hs, hw⟩ => ?_
  have hp' : Sort.PermIn 0 (arr ss hsn).size (arr ss hsn) d' := by rw [hsz]; exact hp
  have hs' : Sort.SortedIn (ltOf cfS) 0 (arr ss hsn).size d' := by rw [hsz]; exact hs
  obtain ⟨h1, h2, h3⟩ := sorted_vals hp' hs'
  rw [arr_vals] at h2
  refine ⟨he, vals d', sorted_riseB h2 h3, ?_, ?_⟩
  · show OwnS w' _ _ _ _
    rw [hw]
    refine ⟨vals_all d', by rw [h1, hsz], own_sorted h.2.2 k d' (by rw [← vals_len, h1, hsz]) os⟩
  · show Below B w w'
    rw [hw]
    exact below_sorted hg.2 hB k d' os
set_option maxRecDepth 100000 in
set_option maxHeartbeats 1000000 in
theorem rising_any (ss : List Text) (n : Nat) (hn0 : 0 < n) (hn47 : n ≤ 2199023255552) (A : Option Addr) (c : Nat) (w : World) (h : Sgs w A n ss) :
    Calls Tryd.prog 101 #[.slice A n c] w fun e w' => ∃ (g c' : Nat) (ds : List Text), e = .returned (.tuple #[.slice (some ⟨g, 0, none⟩) n c', .bool (riseB (ky := kyS) ds)]) ∧ Hid (rising kyS ss = if riseB (ky := kyS) ds = true then some ds else none) ∧ Hid (OwnS w' w.heap.size (.slice (some ⟨g, 0, none⟩) n c') n ds) ∧ Hid (Below w.heap.size w w') := by
  obtain ⟨i0, ii, iz0, iz1, iz2⟩ := info_partsN info64
  obtain ⟨b0, o0, rfl, -, -⟩ := h.rd.2 (by omega)
  have hx0 := Lib.hid h.rd
  have hall : Hid (Sns ss) := h.all
  have hlen : Hid (ss.length = n) := h.len
  have hc1 : Hid (0 + n ≤ maxLen) := by show _ ≤ _; unfold maxLen; omega
  have hc2 : Hid ((0 + n) * 64 ≤ 140737488355328) := by show _ ≤ _; omega
  have hn47' := Lib.hid hn47
  have hn0' := Lib.hid hn0
  clear h hn0 hn47
  go_enter Tryd.func101, Tryd.ntmps101
  go_wp2_with (first
    | (at_builtin; refine wpList_append_src _ rfl (.const (.slice none 0 0)) (.tmp 5) 38 rfl w.heap.size 116 i0 (.agg Z64) 64 64 Tryd.underlying38 ii iz0 iz1 iz2 rfl (by decide) (.slice none 0 0) 0 [] rfl (World.ownsRow_nil _ _ _ _) (some ⟨b0, o0, none⟩) n c (ss.flatMap cells8) rfl hx0.out (fun e => by cases e) (one_signs ss) hc1.out hc2.out (Nat.le_refl _) ?_; intro v1 w1 hG; have hOB := Lib.hid (grew_signs (xs := []) hG (Below.refl _ w) (Nat.le_refl _) (OwnS.nil w _) hall.out hlen.out); rw [Nat.zero_add, List.nil_append] at hOB; obtain ⟨A1, c1, rfl, -, -, hnil1, -, -⟩ := OwnS.reads hOB.out.1; obtain ⟨g1, rfl⟩ := own_some hOB.out.1 hn0'.out; clear hG)
    | (go_at_call 152; refine (sort_own ss n w.heap.size g1 c1 hn47'.out w1 hOB.out.1 hOB.out.2.size).mono ?_; rintro e w2 ⟨rfl, ds, hri, hO2, hb2⟩; obtain ⟨A2, c2, e2, -, -, -, hS2, -⟩ := OwnS.reads hO2.out; injection e2 with e2 _ e3; subst e2 e3; replace hS2 := Lib.hid hS2)
    | (go_at_call 154; refine (rise_any ds n (by have := hn47'.out; omega) _ c1 w2 hS2.out).mono ?_; rintro e w3 ⟨rfl, hb3⟩))
  go_ret2
  exact ⟨g1, c1, ds, rfl, hri, hO2.out.below hb3, (hOB.out.2.trans hb2.out).trans (hb3.mono (by have := hOB.out.2.size; have := hb2.out.size; omega))⟩
end Go.Proofs.YtgldkfaiofkhbaaDoor.Rising

namespace Go.Proofs.YtgldkfaiofkhbaaDoor.EncNoteP
open Go Go.RowKit Go.Proofs.YtgldkfaiofkhbaaDoor Go.Proofs.YtgldkfaiofkhbaaDoor.Mem Go.Proofs.YtgldkfaiofkhbaaDoor.Sha Go.Proofs.YtgldkfaiofkhbaaDoor.Bytes Go.Proofs.YtgldkfaiofkhbaaDoor.SortP Go.Proofs.YtgldkfaiofkhbaaDoor.NoteP Go.Proofs.YtgldkfaiofkhbaaDoor.Rise Go.Proofs.YtgldkfaiofkhbaaDoor.SgM

/-- A sign's tag: its last 32 bytes. -/
def tgS (t : Text) : Text := t.drop 32
theorem kyS_len {t : Text} (h : t.length = 64) : (kyS t).length = 32 := by unfold kyS; rw [List.length_take]; omega
theorem tgS_len {t : Text} (h : t.length = 64) : (tgS t).length = 32 := by unfold tgS; rw [List.length_drop]; omega
theorem kt_eq (t : Text) : [kyS t, tgS t].flatten = t := by unfold kyS tgS; simp
theorem ky_cell {t : Text} {j : Nat} {u : Value} (hu : (cells8 (kyS t))[j]? = some u) : (cells8 t)[0 + j]? = some u := by
  unfold kyS cells8 at hu
  rw [List.map_take, List.getElem?_take] at hu
  rw [Nat.zero_add]
  by_cases hj : j < 32
  · rw [if_pos hj] at hu; exact hu
  · rw [if_neg hj] at hu; cases hu
theorem tg_cell {t : Text} {j : Nat} {u : Value} (hu : (cells8 (tgS t))[j]? = some u) : (cells8 t)[32 + j]? = some u := by
  unfold tgS cells8 at hu
  rw [List.map_drop, List.getElem?_drop] at hu
  exact hu
end Go.Proofs.YtgldkfaiofkhbaaDoor.EncNoteP

namespace Go.Proofs.YtgldkfaiofkhbaaDoor.EncNote
open Go Go.RowKit Go.Proofs.YtgldkfaiofkhbaaDoor Go.Proofs.YtgldkfaiofkhbaaDoor.Mem Go.Proofs.YtgldkfaiofkhbaaDoor.Sha Go.Proofs.YtgldkfaiofkhbaaDoor.Bytes Go.Proofs.YtgldkfaiofkhbaaDoor.SortP Go.Proofs.YtgldkfaiofkhbaaDoor.NoteP Go.Proofs.YtgldkfaiofkhbaaDoor.Rise Go.Proofs.YtgldkfaiofkhbaaDoor.SortM Go.Proofs.YtgldkfaiofkhbaaDoor.Append Go.Proofs.YtgldkfaiofkhbaaDoor.Own Go.Proofs.YtgldkfaiofkhbaaDoor.SgM Go.Proofs.YtgldkfaiofkhbaaDoor.EncNoteP Go.Proofs.YtgldkfaiofkhbaaDoor.Rising Go.Proofs.YtgldkfaiofkhbaaDoor.Octet Go.Proofs.YtgldkfaiofkhbaaDoor.Octet2 Go.Proofs.YtgldkfaiofkhbaaDoor.HeadMem

/-- A note's cells: its head's, and the slice of its signs. -/
def noteCells (h : HeadD) (v : Value) : List Value := headCells h ++ [v]
theorem noteCells_len {h : HeadD} (ok : h.Ok) (v : Value) : (noteCells h v).length = 99 := by unfold noteCells; rw [List.length_append, headCells_len ok]; rfl
theorem noteCells_head {h : HeadD} (v : Value) (j : Nat) (u : Value) (hu : (headCells h)[j]? = some u) : (noteCells h v)[0 + j]? = some u := by
  unfold noteCells
  rw [Nat.zero_add, List.getElem?_append_left (List.getElem?_eq_some_iff.1 hu).1]
  exact hu
theorem noteCells_row {h : HeadD} (ok : h.Ok) (v : Value) : (noteCells h v)[98]? = some v := by
  unfold noteCells
  rw [List.getElem?_append_right (by rw [headCells_len ok]; exact Nat.le_refl _), headCells_len ok]
  rfl
theorem head_from {w0 w : World} {g : Nat} {r : Option Nat} {l : Text} (h : HeadD) (ok : h.Ok) (hr : rightB h = true) (hl : l.length + 113 ≤ 140737488355328) (hW : Wrote w0 g r l w) :
    Calls Tryd.prog 151 #[.pointer (some ⟨g, 0, none⟩), .agg (headCells h).toArray] w fun e w' => e = .returned (.tuple #[]) ∧ Wrote w0 g r (l ++ headBytes h) w' := by
  obtain ⟨r1, h1, k1, c1⟩ := hW
  exact (lay_any h ok hr g r1 l w hl h1).mono fun e w' ⟨he, hx⟩ => ⟨he, Wrote.trans1 k1 c1 hx⟩
theorem all_from {w0 w : World} {g : Nat} {r : Option Nat} {l : Text} (hl : l.length ≤ 140737488355328) (hW : Wrote w0 g r l w) :
    Calls Tryd.prog 60 #[.pointer (some ⟨g, 0, none⟩)] w fun e w' => ∃ v, e = .returned v ∧ Below w.heap.size w w' ∧ w'.ownsRow w.heap.size 5 1 v l.length (cells8 l) := by
  obtain ⟨r1, h1, k1, c1⟩ := hW
  exact all_any g r1 l w hl h1
theorem none_no {α : Type} {b : Bool} {d : α} (h : none = if b = true then some d else none) : b = false := by
  cases b with
  | false => rfl
  | true => cases h
theorem some_yes {α : Type} {b : Bool} {r d : α} (h : some r = if b = true then some d else none) : b = true ∧ r = d := by
  cases b with
  | false => cases h
  | true => exact ⟨rfl, Option.some.inj h⟩
/-- The block of a note that was handed in. -/
structure NoteAt (w : World) (g : Nat) (h : HeadD) (A : Option Addr) (n c : Nat) (ss : List Text) : Prop where
  blk : Blk w g 40 (noteCells h (.slice A n c)).toArray
  sgs : Sgs w A n ss
theorem NoteAt.below {w w' : World} {g n c : Nat} {h : HeadD} {A : Option Addr} {ss : List Text} (k : NoteAt w g h A n c ss) (hb : Below w.heap.size w w') : NoteAt w' g h A n c ss := ⟨(hb.block g k.blk.lt).trans k.blk, k.sgs.below hb⟩
theorem NoteAt.head {w : World} {g n c : Nat} {h : HeadD} {A : Option Addr} {ss : List Text} (k : NoteAt w g h A n c ss) (j : Nat) (u : Value) (hu : (headCells h)[j]? = some u) : w.cell? ⟨g, 0 + j, none⟩ = some u := by
  rw [k.blk.cell (0 + j), List.getElem?_toArray]
  exact noteCells_head _ j u hu
theorem NoteAt.row {w : World} {g n c : Nat} {h : HeadD} {A : Option Addr} {ss : List Text} (k : NoteAt w g h A n c ss) (ok : h.Ok) : w.cell? ⟨g, 98, none⟩ = some (.slice A n c) := by
  rw [k.blk.cell 98, List.getElem?_toArray]
  exact noteCells_row ok _
theorem NoteAt.new {w : World} {n c : Nat} {h : HeadD} {A : Option Addr} {ss : List Text} (k : Sgs w A n ss) : NoteAt (w.alloc (.cells (noteCells h (.slice A n c)).toArray 40)) w.heap.size h A n c ss := ⟨Blk.new _ _ _, k.below (Below.heap_below w _)⟩
theorem len_note (h : HeadD) (ok : h.Ok) {ds : List Text} (hd : Sns ds) {n i : Nat} (hn : ds.length = n) (hi : i ≤ n) : ([] ++ [33] ++ headBytes h ++ [BitVec.ofNat 8 n] ++ (ds.take i).flatten).length = 115 + 64 * i := by
  simp only [List.length_append, List.length_nil, List.length_singleton, headBytes_len ok]
  rw [flatten_len (Sns.take_ hd i), List.length_take]
  omega
theorem b8_cnt {n : Nat} (h : n ≤ 16) : b8 (BitVec.ofNat 8 n) = (n : Int) := by
  unfold b8
  simp
  omega

set_option maxRecDepth 100000 in
set_option maxHeartbeats 2000000 in
theorem enc_wrong (h : HeadD) (ok : h.Ok) (ss : List Text) (n : Nat) (hrB : Hid (rightB h = false)) (A : Option Addr) (c : Nat) (w : World) (hS : Sgs w A n ss) :
    Calls Tryd.prog 100 #[.agg (noteCells h (.slice A n c)).toArray] w fun e w' => e = .returned (.tuple #[.slice none 0 0, .int .i64 1]) ∧ Below w.heap.size w w' := by
  have hb0 : Hid (Below w.heap.size w (w.alloc (.cells (noteCells h (.slice A n c)).toArray 40))) := Below.heap_below w _
  have hN0 : Hid (NoteAt (w.alloc (.cells (noteCells h (.slice A n c)).toArray 40)) w.heap.size h A n c ss) := NoteAt.new hS
  have hsz : Hid ((Tryd.prog.info? 36).map (·.size) = some (headCells h).length) := by show _ = _; rw [headCells_len ok]; exact size98
  have hz : Hid ((w.alloc (.cells (noteCells h (.slice A n c)).toArray 40)).heap.size = w.heap.size + 1) := by show _ = _; simp
  have hR0 : (w.alloc (.cells (noteCells h (.slice A n c)).toArray 40)).cell? ⟨w.heap.size, 98, none⟩ = some (.slice A n c) := hN0.out.row ok
  have ok' := Lib.hid ok
  clear ok hS
  go_enter Tryd.func100, Tryd.ntmps100
  go_wp2_with (first
    | (((with_reducible change wpList _ _ _ ({ dst := some 10, op := _, type := _, pos := _, after := _, guard := _ } :: _) _ _); refine wpList_load_part (o := ⟨some 10, _, _, _, _, _⟩) rfl 36 (.tmp 9) rfl (w.heap.size) (0) rfl (headCells h) _ hN0.out.head Tryd.underlying36 rfl hsz.out ?_))
    | (go_at_call 150; refine (right_any h ok'.out _).mono ?_; rw [hrB.out]; rintro e w2 ⟨rfl, hb2⟩; have hN2 := Lib.hid (hN0.out.below hb2); have hR2 := hN2.out.row ok'.out; have hbb : Hid (Below w.heap.size w w2) := hb0.out.trans (hb2.mono (by rw [hz.out]; omega)); clear hb2))
  go_ret2
  exact ⟨rfl, hbb.out⟩

set_option maxRecDepth 100000 in
set_option maxHeartbeats 2000000 in
theorem enc_none (h : HeadD) (ok : h.Ok) (ss : List Text) (n : Nat) (hrB : Hid (rightB h = true)) (h0 : n = 0) (A : Option Addr) (c : Nat) (w : World) (hS : Sgs w A n ss) :
    Calls Tryd.prog 100 #[.agg (noteCells h (.slice A n c)).toArray] w fun e w' => e = .returned (.tuple #[.slice none 0 0, .int .i64 7]) ∧ Below w.heap.size w w' := by
  have hb0 : Hid (Below w.heap.size w (w.alloc (.cells (noteCells h (.slice A n c)).toArray 40))) := Below.heap_below w _
  have hN0 : Hid (NoteAt (w.alloc (.cells (noteCells h (.slice A n c)).toArray 40)) w.heap.size h A n c ss) := NoteAt.new hS
  have hsz : Hid ((Tryd.prog.info? 36).map (·.size) = some (headCells h).length) := by show _ = _; rw [headCells_len ok]; exact size98
  have hz : Hid ((w.alloc (.cells (noteCells h (.slice A n c)).toArray 40)).heap.size = w.heap.size + 1) := by show _ = _; simp
  have hR0 : (w.alloc (.cells (noteCells h (.slice A n c)).toArray 40)).cell? ⟨w.heap.size, 98, none⟩ = some (.slice A n c) := hN0.out.row ok
  have ok' := Lib.hid ok
  clear ok hS
  subst h0
  go_enter Tryd.func100, Tryd.ntmps100
  go_wp2_with (first
    | (((with_reducible change wpList _ _ _ ({ dst := some 10, op := _, type := _, pos := _, after := _, guard := _ } :: _) _ _); refine wpList_load_part (o := ⟨some 10, _, _, _, _, _⟩) rfl 36 (.tmp 9) rfl (w.heap.size) (0) rfl (headCells h) _ hN0.out.head Tryd.underlying36 rfl hsz.out ?_))
    | (go_at_call 150; refine (right_any h ok'.out _).mono ?_; rw [hrB.out]; rintro e w2 ⟨rfl, hb2⟩; have hN2 := Lib.hid (hN0.out.below hb2); have hR2 := hN2.out.row ok'.out; have hbb : Hid (Below w.heap.size w w2) := hb0.out.trans (hb2.mono (by rw [hz.out]; omega)); clear hb2))
  go_ret2
  exact ⟨rfl, hbb.out⟩

set_option maxRecDepth 100000 in
set_option maxHeartbeats 2000000 in
theorem enc_many (h : HeadD) (ok : h.Ok) (ss : List Text) (n : Nat) (hrB : Hid (rightB h = true)) (h16 : 16 < n) (A : Option Addr) (c : Nat) (w : World) (hS : Sgs w A n ss) :
    Calls Tryd.prog 100 #[.agg (noteCells h (.slice A n c)).toArray] w fun e w' => e = .returned (.tuple #[.slice none 0 0, .int .i64 7]) ∧ Below w.heap.size w w' := by
  have hb0 : Hid (Below w.heap.size w (w.alloc (.cells (noteCells h (.slice A n c)).toArray 40))) := Below.heap_below w _
  have hN0 : Hid (NoteAt (w.alloc (.cells (noteCells h (.slice A n c)).toArray 40)) w.heap.size h A n c ss) := NoteAt.new hS
  have hsz : Hid ((Tryd.prog.info? 36).map (·.size) = some (headCells h).length) := by show _ = _; rw [headCells_len ok]; exact size98
  have hz : Hid ((w.alloc (.cells (noteCells h (.slice A n c)).toArray 40)).heap.size = w.heap.size + 1) := by show _ = _; simp
  have hR0 : (w.alloc (.cells (noteCells h (.slice A n c)).toArray 40)).cell? ⟨w.heap.size, 98, none⟩ = some (.slice A n c) := hN0.out.row ok
  have ok' := Lib.hid ok
  clear ok hS
  have x1 : ¬ ((n : Int) = 0) := by omega
  have x2 : (16 : Int) < (n : Int) := by omega
  clear h16
  go_enter Tryd.func100, Tryd.ntmps100
  go_wp2_with (first
    | (((with_reducible change wpList _ _ _ ({ dst := some 10, op := _, type := _, pos := _, after := _, guard := _ } :: _) _ _); refine wpList_load_part (o := ⟨some 10, _, _, _, _, _⟩) rfl 36 (.tmp 9) rfl (w.heap.size) (0) rfl (headCells h) _ hN0.out.head Tryd.underlying36 rfl hsz.out ?_))
    | (go_at_call 150; refine (right_any h ok'.out _).mono ?_; rw [hrB.out]; rintro e w2 ⟨rfl, hb2⟩; have hN2 := Lib.hid (hN0.out.below hb2); have hR2 := hN2.out.row ok'.out; have hbb : Hid (Below w.heap.size w w2) := hb0.out.trans (hb2.mono (by rw [hz.out]; omega)); clear hb2))
  go_ret2
  exact ⟨rfl, hbb.out⟩

set_option maxRecDepth 100000 in
set_option maxHeartbeats 2000000 in
theorem enc_twice (h : HeadD) (ok : h.Ok) (ss : List Text) (n : Nat) (hrB : Hid (rightB h = true)) (h0 : 0 < n) (h16 : n ≤ 16) (hri0 : Hid (rising kyS ss = none)) (A : Option Addr) (c : Nat) (w : World) (hS : Sgs w A n ss) :
    Calls Tryd.prog 100 #[.agg (noteCells h (.slice A n c)).toArray] w fun e w' => e = .returned (.tuple #[.slice none 0 0, .int .i64 92]) ∧ Below w.heap.size w w' := by
  have hb0 : Hid (Below w.heap.size w (w.alloc (.cells (noteCells h (.slice A n c)).toArray 40))) := Below.heap_below w _
  have hN0 : Hid (NoteAt (w.alloc (.cells (noteCells h (.slice A n c)).toArray 40)) w.heap.size h A n c ss) := NoteAt.new hS
  have hsz : Hid ((Tryd.prog.info? 36).map (·.size) = some (headCells h).length) := by show _ = _; rw [headCells_len ok]; exact size98
  have hz : Hid ((w.alloc (.cells (noteCells h (.slice A n c)).toArray 40)).heap.size = w.heap.size + 1) := by show _ = _; simp
  have hR0 : (w.alloc (.cells (noteCells h (.slice A n c)).toArray 40)).cell? ⟨w.heap.size, 98, none⟩ = some (.slice A n c) := hN0.out.row ok
  have ok' := Lib.hid ok
  clear ok hS
  have x1 : ((n : Int) == 0) = false := by simp; omega
  have x2 : ((16 : Int) < (n : Int)) = False := eq_false (by omega)
  have hn0 := Lib.hid h0
  have hn16 := Lib.hid h16
  clear h0 h16
  go_enter Tryd.func100, Tryd.ntmps100
  go_wp2_with (first
    | (((with_reducible change wpList _ _ _ ({ dst := some 10, op := _, type := _, pos := _, after := _, guard := _ } :: _) _ _); refine wpList_load_part (o := ⟨some 10, _, _, _, _, _⟩) rfl 36 (.tmp 9) rfl (w.heap.size) (0) rfl (headCells h) _ hN0.out.head Tryd.underlying36 rfl hsz.out ?_))
    | (go_at_call 150; refine (right_any h ok'.out _).mono ?_; rw [hrB.out]; rintro e w2 ⟨rfl, hb2⟩; have hN2 := Lib.hid (hN0.out.below hb2); have hR2 := hN2.out.row ok'.out; have hbb : Hid (Below w.heap.size w w2) := hb0.out.trans (hb2.mono (by rw [hz.out]; omega)); clear hb2)
    | (go_at_call 101; refine (rising_any ss n hn0.out (by have := hn16.out; omega) A c w2 hN2.out.sgs).mono ?_; rintro e w3 ⟨gr, cr, ds, rfl, hri, hO3, hb3⟩; have hN3 := Lib.hid (hN2.out.below hb3.out); have hbc : Hid (Below w.heap.size w w3) := hbb.out.trans (hb3.out.mono hbb.out.size); rw [hri0.out] at hri; have hno := none_no hri.out; rw [hno]))
  go_ret2
  exact ⟨rfl, hbc.out⟩

set_option maxRecDepth 100000 in
set_option maxHeartbeats 2000000 in
theorem enc_yes (h : HeadD) (ok : h.Ok) (ss : List Text) (n : Nat) (hrB : Hid (rightB h = true)) (h0 : 0 < n) (h16 : n ≤ 16) (rs : List Text) (hri0 : Hid (rising kyS ss = some rs)) (A : Option Addr) (c : Nat) (w : World) (hS : Sgs w A n ss) :
    Calls Tryd.prog 100 #[.agg (noteCells h (.slice A n c)).toArray] w fun e w' => ∃ v, e = .returned (.tuple #[v, .int .i64 0]) ∧ Below w.heap.size w w' ∧ w'.ownsRow w.heap.size 5 1 v (115 + 64 * n) (cells8 (noteB h rs)) := by
  have hb0 : Hid (Below w.heap.size w (w.alloc (.cells (noteCells h (.slice A n c)).toArray 40))) := Below.heap_below w _
  have hN0 : Hid (NoteAt (w.alloc (.cells (noteCells h (.slice A n c)).toArray 40)) w.heap.size h A n c ss) := NoteAt.new hS
  have hsz : Hid ((Tryd.prog.info? 36).map (·.size) = some (headCells h).length) := by show _ = _; rw [headCells_len ok]; exact size98
  have hz : Hid ((w.alloc (.cells (noteCells h (.slice A n c)).toArray 40)).heap.size = w.heap.size + 1) := by show _ = _; simp
  have hR0 : (w.alloc (.cells (noteCells h (.slice A n c)).toArray 40)).cell? ⟨w.heap.size, 98, none⟩ = some (.slice A n c) := hN0.out.row ok
  have ok' := Lib.hid ok
  clear ok hS
  have x1 : ((n : Int) == 0) = false := by simp; omega
  have x2 : ((16 : Int) < (n : Int)) = False := eq_false (by omega)
  have hn0 := Lib.hid h0
  have hn16 := Lib.hid h16
  clear h0 h16
  have x3 : IntKind.u8.wrap (n : Int) = (n : Int) := by have := hn16.out; simp [IntKind.wrap, IntKind.bits, IntKind.signed]; omega
  have s32 : Hid ((Tryd.prog.info? 23).map (·.size) = some 32) := size32
  have s64 : Hid (∀ x : Text, x.length = 64 → (Tryd.prog.info? 116).map (·.size) = some (cells8 x).length) := fun x hx => by rw [cells8_len, hx]; exact size64
  have s64a : Hid (∀ x : Text, x.length = 64 → (Tryd.prog.info? 116).map (·.size) = some (cells8 x).toArray.size) := fun x hx => by rw [List.size_toArray, cells8_len, hx]; exact size64
  have one64 : Hid (∀ x : Text, ((cells8 x).toArray.all fun v => v.oneCell') = true) := fun x => by rw [List.all_toArray]; exact List.all_eq_true.2 (cells8_one x)
  have z64 : Hid (∀ x : Text, x.length = 64 → (Z64 : Array Value).size = (cells8 x).toArray.size) := fun x hx => by show (64 : Nat) = (cells8 x).length; rw [cells8_len, hx]
  have s32x : Hid (∀ x : Text, x.length = 32 → (Tryd.prog.info? 23).map (·.size) = some (cells8 x).length) := fun x hx => by rw [cells8_len, hx]; exact size32
  go_enter Tryd.func100, Tryd.ntmps100
  go_wp2_with (first
    | (((with_reducible change wpList _ _ _ ({ dst := some 10, op := _, type := _, pos := _, after := _, guard := _ } :: _) _ _); refine wpList_load_part (o := ⟨some 10, _, _, _, _, _⟩) rfl 36 (.tmp 9) rfl (w.heap.size) (0) rfl (headCells h) _ hN0.out.head Tryd.underlying36 rfl hsz.out ?_))
    | (go_at_call 150; refine (right_any h ok'.out _).mono ?_; rw [hrB.out]; rintro e w2 ⟨rfl, hb2⟩; have hN2 := Lib.hid (hN0.out.below hb2); have hR2 := hN2.out.row ok'.out; have hbb : Hid (Below w.heap.size w w2) := hb0.out.trans (hb2.mono (by rw [hz.out]; omega)); clear hb2)
    | (go_at_call 101; refine (rising_any ss n hn0.out (by have := hn16.out; omega) A c w2 hN2.out.sgs).mono ?_; rintro e w3 ⟨gr, cr, ds, rfl, hri, hO3, hb3⟩; have hN3 := Lib.hid (hN2.out.below hb3.out); have hbc : Hid (Below w.heap.size w w3) := hbb.out.trans (hb3.out.mono hbb.out.size); rw [hri0.out] at hri; obtain ⟨hyes, hds⟩ := some_yes hri.out; subst hds; rw [hyes]; have hlen : Hid (rs.length = n) := hO3.out.2.1; have hsns : Hid (Sns rs) := hO3.out.1; obtain ⟨A9, c9, e9, -, -, -, hS3, hA9⟩ := OwnS.reads hO3.out; injection e9 with e9 _ e10; subst e9 e10; replace hS3 := Lib.hid hS3; have hgr : Hid (gr < w3.heap.size) := (by obtain ⟨bx, ox, ex, hx, -⟩ := hS3.out.rd.2 (by have := hn0.out; omega); injection ex with ex; injection ex with ex1 ex2; subst ex1; exact hx); clear hri hO3 hA9 hb3)
    | (go_at_call 57; refine (new_any w3).mono ?_; rintro e w4 ⟨rfl, hw4⟩; have hW4 : Hid (Wrote w4 w3.heap.size none [] w4) := (by show Wrote _ _ _ _ _; rw [hw4]; exact (WrAt.new w3).refl); have hb4 : Hid (Below w3.heap.size w3 w4) := (by show Below _ _ _; rw [hw4]; exact Below.heap_below w3 _); have hz4 : Hid (w4.heap.size = w3.heap.size + 1) := (by show _ = _; rw [hw4]; simp); obtain ⟨gw, hgw⟩ : ∃ gw, Hid (w3.heap.size = gw) := ⟨_, Lib.hid rfl⟩; rw [hgw.out] at hW4 ⊢; have hb5 : Hid (∀ l wx, Wrote w4 gw none l wx → Below w3.heap.size w3 wx) := (fun l wx hx => hb4.out.trans (hx.below (fun k e => by cases e) (by rw [hgw.out]; exact Nat.le_refl _) (by rw [hz4.out]; omega))); clear hw4)
    | (go_at_call 58; refine (put1_from 33 33 rfl (by simp) hW4.out).mono ?_; rintro e w5 ⟨rfl, hW5⟩; replace hW5 := Lib.hid hW5; have hN5 := Lib.hid (hN3.out.below (hb5.out _ _ hW5.out)); clear hW4)
    | (((with_reducible change wpList _ _ _ ({ dst := some 36, op := _, type := _, pos := _, after := _, guard := _ } :: _) _ _); refine wpList_load_part (o := ⟨some 36, _, _, _, _, _⟩) rfl 36 (.tmp 35) rfl (w.heap.size) (0) rfl (headCells h) _ hN5.out.head Tryd.underlying36 rfl hsz.out ?_))
    | (go_at_call 151; refine (head_from h ok'.out hrB.out (by simp) hW5.out).mono ?_; rintro e w6 ⟨rfl, hW6⟩; replace hW6 := Lib.hid hW6; clear hN5)
    | (go_at_call 58; refine (put1_from (n : Int) (BitVec.ofNat 8 n) (b8_cnt hn16.out) (by simp [headBytes_len ok'.out]) hW6.out).mono ?_; rintro e w7 ⟨rfl, hW7⟩; replace hW7 := Lib.hid hW7; clear hW5 hW6))
  go_loopw [45] (fun v wr => ∃ i : Nat, v = .int .i64 (i : Int) ∧ Hid (i ≤ n) ∧ Hid (Wrote w4 gw none ([] ++ [33] ++ headBytes h ++ [BitVec.ofNat 8 n] ++ (rs.take i).flatten) wr)) (fun v _ => n - (intOf v).toNat)
  case atStart => exact ⟨0, rfl, Nat.zero_le _, by show Wrote _ _ _ _ _; simpa using hW7.out⟩
  case round =>
    clear hW7
    obtain ⟨i, rfl, hin, hWi⟩ := hrel
    have hi6 : (i : Int) ≤ 16 := by have := hin.out; have := hn16.out; omega
    have hll := Lib.hid (len_note h ok'.out hsns.out hlen.out hin.out)
    by_cases hlt : i < n
    · have hz1 : (i : Int) < (n : Int) := by omega
      have hz0 : (0 : Int) ≤ (i : Int) := by omega
      have hlt' := Lib.hid hlt
      obtain ⟨x, hx⟩ : ∃ x, Hid (rs[i]? = some x) := ⟨_, List.getElem?_eq_getElem (by rw [hlen.out]; exact hlt)⟩
      have hxl := Lib.hid (Sns.at_ hsns.out hx.out)
      have hstep : Hid ((rs.take (i + 1)).flatten = (rs.take i).flatten ++ [kyS x, tgS x].flatten) := by show _ = _; rw [List.take_add_one, hx.out, kt_eq]; simp
      have hbi := Lib.hid (hb5.out _ _ hWi.out)
      obtain ⟨bx, ox, ex, hbx, hcx⟩ := (hS3.out.below hbi.out).at_ hx.out
      injection ex with ex
      injection ex with ex1 ex2
      subst ex1 ex2
      have hcx' : Hid (∀ j u, (cells8 x)[j]? = some u → wr.cell? ⟨gr, 0 + i * 64 + j, none⟩ = some u) := hcx
      clear hcx hlt
      obtain ⟨w8, hw8⟩ : ∃ w8, Hid (w8 = wr.alloc (.cells (cells8 x).toArray 116)) := ⟨_, Lib.hid rfl⟩
      have hst : (storeCells ⟨wr.heap.size, 0, none⟩ (cells8 x)).run Tryd.prog (wr.alloc (.cells Z64 116)) = .ok () w8 := by rw [hw8.out, ← alloc_setRow wr Z64 (cells8 x).toArray 116]; exact storeCells_row (Blk.new _ _ _) (by show (64 : Nat) = (cells8 x).length; rw [cells8_len, hxl.out]) (cells8_one x)
      unfold Z64 at hst
      have hx64 : (cells8 x).length = 64 := by rw [cells8_len, hxl.out]
      have B8 : Hid (Blk w8 wr.heap.size 116 (cells8 x).toArray) := by show Blk _ _ _ _; rw [hw8.out]; exact Blk.new _ _ _
      have hW8 : Hid (Wrote w4 gw none ([] ++ [33] ++ headBytes h ++ [BitVec.ofNat 8 n] ++ (rs.take i).flatten) w8) := by show Wrote _ _ _ _ _; rw [hw8.out]; exact hWi.out.alloc _
      have q2 : Hid (∀ v ∈ [cells8 (kyS x), cells8 (tgS x)], v.length = 32) := by
        intro v hv
        simp only [List.mem_cons, List.not_mem_nil, or_false] at hv
        rcases hv with rfl | rfl
        · rw [cells8_len, kyS_len hxl.out]
        · rw [cells8_len, tgS_len hxl.out]
      have d2 : Hid (∀ d ∈ [kyS x, tgS x], d.length = 32) := by
        intro v hv
        simp only [List.mem_cons, List.not_mem_nil, or_false] at hv
        rcases hv with rfl | rfl
        · exact kyS_len hxl.out
        · exact tgS_len hxl.out
      obtain ⟨X2, x2'⟩ : ∃ X, Hid (X = ([cells8 (kyS x), cells8 (tgS x)].flatten).toArray) := ⟨_, rfl⟩
      go_wp2_with (first
        | (((with_reducible change wpList _ _ _ ({ dst := some 48, op := _, type := _, pos := _, after := _, guard := _ } :: _) _ _); refine wpList_load_part (o := ⟨some 48, _, _, _, _, _⟩) rfl 116 (.tmp 47) rfl (gr) ((i * 64)) rfl (cells8 x) _ (by have := hcx'.out; simpa using this) Tryd.underlying116 rfl (s64.out x hxl.out) ?_))
        | (((with_reducible change wpList _ _ _ ({ dst := some 51, op := _, type := _, pos := _, after := _, guard := _ } :: _) _ _); refine wpList_load_part (o := ⟨some 51, _, _, _, _, _⟩) rfl 23 (.tmp 50) rfl (wr.heap.size) (0) rfl (cells8 (kyS x)) _ (fun j u hu => (B8.out.cell (0 + j)).trans (by rw [List.getElem?_toArray]; exact ky_cell hu)) Tryd.underlying23 rfl (s32x.out _ (kyS_len hxl.out)) ?_))
        | (((with_reducible change wpList _ _ _ ({ dst := some 53, op := _, type := _, pos := _, after := _, guard := _ } :: _) _ _); refine wpList_load_part (o := ⟨some 53, _, _, _, _, _⟩) rfl 23 (.tmp 52) rfl (wr.heap.size) (32) rfl (cells8 (tgS x)) _ (fun j u hu => (B8.out.cell (32 + j)).trans (by rw [List.getElem?_toArray]; exact tg_cell hu)) Tryd.underlying23 rfl (s32x.out _ (tgS_len hxl.out)) ?_))
        | ((with_reducible change wpList _ _ _ ({ dst := some 54, op := _, type := _, pos := _, after := _, guard := _ } :: _) _ _); refine wpList_buildAggs (o := ⟨some 54, _, _, _, _, _⟩) rfl 42 23 2 _ rfl 32 (by decide) [cells8 (kyS x), cells8 (tgS x)] Tryd.underlying42 size32 zero32 rfl (by decide) (by decide) q2.out rfl ?_; rw [← x2'.out])
        | (go_at_call 75; rw [show X2 = (([kyS x, tgS x].map cells8).flatten).toArray from x2'.out]; refine (digests_new [kyS x, tgS x] 2 rfl d2.out (by rw [hll.out]; omega) hW8.out).mono ?_; rintro e w9 ⟨rfl, hW9⟩; replace hW9 := Lib.hid hW9))
      go_roundw
      case rel => exact ⟨i + 1, by go_num, hlt'.out, by show Wrote _ _ _ _ _; rw [hstep.out]; have := hW9.out; simpa using this⟩
      case measure => (have := hlt'.out; simp [intOf]; omega)
    · have hz1 : ¬ ((i : Int) < (n : Int)) := by omega
      have hin' : i = n := by have := hin.out; omega
      subst hin'
      clear hlt
      have hbi := Lib.hid (hb5.out _ _ hWi.out)
      have hfin : Hid ([] ++ [33] ++ headBytes h ++ [BitVec.ofNat 8 i] ++ (rs.take i).flatten = noteB h rs) := by show _ = _; unfold noteB; rw [List.take_of_length_le (by rw [hlen.out]; exact Nat.le_refl _), hlen.out]; simp
      rw [hfin.out] at hWi hll
      go_wp2_with (go_at_call 60; refine (all_from (by rw [hll.out]; omega) hWi.out).mono ?_; rintro e w9 ⟨v, rfl, hb9, ho9⟩; rw [hll.out] at ho9; obtain ⟨Av, cv, rfl, -⟩ := Own.reads ho9; replace ho9 := Lib.hid ho9; replace hb9 := Lib.hid hb9)
      go_ret2
      have hbw : Below w.heap.size w wr := hbc.out.trans (hbi.out.mono hbc.out.size)
      exact ⟨.slice Av (115 + 64 * i) cv, rfl, hbw.trans (hb9.out.mono hbw.size), ownsRow_base ho9.out hbw.size⟩
end Go.Proofs.YtgldkfaiofkhbaaDoor.EncNote

namespace Go.Proofs.YtgldkfaiofkhbaaDoor.RowS
open Go Go.RowKit Go.Proofs.YtgldkfaiofkhbaaDoor Go.Proofs.YtgldkfaiofkhbaaDoor.Mem Go.Proofs.YtgldkfaiofkhbaaDoor.Sha Go.Proofs.YtgldkfaiofkhbaaDoor.Bytes Go.Proofs.YtgldkfaiofkhbaaDoor.SortP Go.Proofs.YtgldkfaiofkhbaaDoor.NoteP Go.Proofs.YtgldkfaiofkhbaaDoor.Rise Go.Proofs.YtgldkfaiofkhbaaDoor.SortM Go.Proofs.YtgldkfaiofkhbaaDoor.SgM

def z64 : Text := List.replicate 64 0
def RowS (w : World) (g : Nat) (ds : List Text) : Prop := Blk w g 116 (ds.flatMap cells8).toArray
theorem Sns.set_ {ds : List Text} (h : Sns ds) (i : Nat) {x : Text} (hx : x.length = 64) : Sns (ds.set i x) := fun d hd => by
  rcases List.mem_or_eq_of_mem_set hd with h1 | h1
  · exact h d h1
  · rw [h1]; exact hx
theorem RowS.rd {w : World} {g : Nat} {ds : List Text} (h : RowS w g ds) (hd : Sns ds) : Sgs w (some ⟨g, 0, none⟩) ds.length ds :=
  ⟨rfl, hd, Blk.reads h 0 _ (flat_len ds hd) (fun j u hu => by rw [Nat.zero_add, List.getElem?_toArray]; exact hu)⟩
theorem RowS.below {w w' : World} {g : Nat} {ds : List Text} (h : RowS w g ds) (hb : Below w.heap.size w w') : RowS w' g ds := (hb.block g (Blk.lt h)).trans h
theorem RowS.kept {w w' : World} {g : Nat} {ds : List Text} {S : Nat → Prop} (h : RowS w g ds) (hk : Kept S w w') (hS : ¬ S g) : RowS w' g ds := Blk.kept h hk hS
end Go.Proofs.YtgldkfaiofkhbaaDoor.RowS

namespace Go.Proofs.YtgldkfaiofkhbaaDoor.NoteM
open Go Go.RowKit Go.Proofs.YtgldkfaiofkhbaaDoor Go.Proofs.YtgldkfaiofkhbaaDoor.Mem Go.Proofs.YtgldkfaiofkhbaaDoor.Sha Go.Proofs.YtgldkfaiofkhbaaDoor.Bytes Go.Proofs.YtgldkfaiofkhbaaDoor.SortP Go.Proofs.YtgldkfaiofkhbaaDoor.NoteP Go.Proofs.YtgldkfaiofkhbaaDoor.Reader Go.Proofs.YtgldkfaiofkhbaaDoor.Reader2 Go.Proofs.YtgldkfaiofkhbaaDoor.Reader3 Go.Proofs.YtgldkfaiofkhbaaDoor.Rise Go.Proofs.YtgldkfaiofkhbaaDoor.SortM Go.Proofs.YtgldkfaiofkhbaaDoor.SgM Go.Proofs.YtgldkfaiofkhbaaDoor.HeadMem Go.Proofs.YtgldkfaiofkhbaaDoor.HeadTake Go.Proofs.YtgldkfaiofkhbaaDoor.EncNoteP Go.Proofs.YtgldkfaiofkhbaaDoor.EncNote Go.Proofs.YtgldkfaiofkhbaaDoor.RowS Go.Proofs.YtgldkfaiofkhbaaDoor.Fill

/-- The zero head. -/
def h0 : HeadD := ⟨List.replicate 32 0, 0, List.replicate 32 0, List.replicate 32 0, 0⟩
def Z99 : Array Value := #[Value.int IntKind.u8 0, Value.int IntKind.u8 0, Value.int IntKind.u8 0, Value.int IntKind.u8 0, Value.int IntKind.u8 0, Value.int IntKind.u8 0, Value.int IntKind.u8 0, Value.int IntKind.u8 0, Value.int IntKind.u8 0, Value.int IntKind.u8 0, Value.int IntKind.u8 0, Value.int IntKind.u8 0, Value.int IntKind.u8 0, Value.int IntKind.u8 0, Value.int IntKind.u8 0, Value.int IntKind.u8 0, Value.int IntKind.u8 0, Value.int IntKind.u8 0, Value.int IntKind.u8 0, Value.int IntKind.u8 0, Value.int IntKind.u8 0, Value.int IntKind.u8 0, Value.int IntKind.u8 0, Value.int IntKind.u8 0, Value.int IntKind.u8 0, Value.int IntKind.u8 0, Value.int IntKind.u8 0, Value.int IntKind.u8 0, Value.int IntKind.u8 0, Value.int IntKind.u8 0, Value.int IntKind.u8 0, Value.int IntKind.u8 0, Value.int IntKind.i64 0, Value.int IntKind.u8 0, Value.int IntKind.u8 0, Value.int IntKind.u8 0, Value.int IntKind.u8 0, Value.int IntKind.u8 0, Value.int IntKind.u8 0, Value.int IntKind.u8 0, Value.int IntKind.u8 0, Value.int IntKind.u8 0, Value.int IntKind.u8 0, Value.int IntKind.u8 0, Value.int IntKind.u8 0, Value.int IntKind.u8 0, Value.int IntKind.u8 0, Value.int IntKind.u8 0, Value.int IntKind.u8 0, Value.int IntKind.u8 0, Value.int IntKind.u8 0, Value.int IntKind.u8 0, Value.int IntKind.u8 0, Value.int IntKind.u8 0, Value.int IntKind.u8 0, Value.int IntKind.u8 0, Value.int IntKind.u8 0, Value.int IntKind.u8 0, Value.int IntKind.u8 0, Value.int IntKind.u8 0, Value.int IntKind.u8 0, Value.int IntKind.u8 0, Value.int IntKind.u8 0, Value.int IntKind.u8 0, Value.int IntKind.u8 0, Value.int IntKind.u8 0, Value.int IntKind.u8 0, Value.int IntKind.u8 0, Value.int IntKind.u8 0, Value.int IntKind.u8 0, Value.int IntKind.u8 0, Value.int IntKind.u8 0, Value.int IntKind.u8 0, Value.int IntKind.u8 0, Value.int IntKind.u8 0, Value.int IntKind.u8 0, Value.int IntKind.u8 0, Value.int IntKind.u8 0, Value.int IntKind.u8 0, Value.int IntKind.u8 0, Value.int IntKind.u8 0, Value.int IntKind.u8 0, Value.int IntKind.u8 0, Value.int IntKind.u8 0, Value.int IntKind.u8 0, Value.int IntKind.u8 0, Value.int IntKind.u8 0, Value.int IntKind.u8 0, Value.int IntKind.u8 0, Value.int IntKind.u8 0, Value.int IntKind.u8 0, Value.int IntKind.u8 0, Value.int IntKind.u8 0, Value.int IntKind.u8 0, Value.int IntKind.u8 0, Value.int IntKind.u8 0, Value.int IntKind.u8 0, Value.int IntKind.i64 0, Value.slice none 0 0]
theorem z99_size : Z99.size = 99 := by kernel_rfl
theorem size99 : (Tryd.prog.info? 40).map (·.size) = some 99 := by kernel_rfl
theorem built_note (parts : List (Nat × Value)) : Tryd.prog.built 40 parts = Instr.fill (#[((0 : Nat), (98 : Nat)), (98, 1)][·]?) (Z98.toList ++ [Value.slice none 0 0]).toArray parts := by kernel_rfl
theorem run_note {h : HeadD} (ok : h.Ok) (A : Option Addr) (n c : Nat) (w : World) : (Instr.build 40 #[(0, .agg (headCells h).toArray), (1, .slice A n c)]).run Tryd.prog w = .ok (.agg (noteCells h (.slice A n c)).toArray) w := by
  refine run_build w _ _ _ ?_
  rw [built_note]
  have e1 := fill_one (place := (#[((0 : Nat), (98 : Nat)), (98, 1)][·]?)) (i := 0) (v := .agg (headCells h).toArray) (xs := headCells h) (old := Z98.toList) (pre := []) (post := [.slice none 0 0]) (rest := [(1, .slice A n c)]) rfl rfl (headCells_len ok) rfl (by rw [Array.length_toList]; exact z98_size)
  have e2 := fill_one (place := (#[((0 : Nat), (98 : Nat)), (98, 1)][·]?)) (i := 1) (v := .slice A n c) (xs := [.slice A n c]) (old := [.slice none 0 0]) (pre := headCells h) (post := []) (rest := []) rfl rfl rfl (headCells_len ok) rfl
  rw [List.nil_append, List.nil_append] at e1
  rw [List.append_nil, List.append_nil, fill_nil] at e2
  exact e1.trans e2
theorem run_note0 {h : HeadD} (ok : h.Ok) (w : World) : (Instr.build 40 #[(0, .agg (headCells h).toArray)]).run Tryd.prog w = .ok (.agg (noteCells h (.slice none 0 0)).toArray) w := by
  refine run_build w _ _ _ ?_
  rw [built_note]
  have e1 := fill_one (place := (#[((0 : Nat), (98 : Nat)), (98, 1)][·]?)) (i := 0) (v := .agg (headCells h).toArray) (xs := headCells h) (old := Z98.toList) (pre := []) (post := [.slice none 0 0]) (rest := []) rfl rfl (headCells_len ok) rfl (by rw [Array.length_toList]; exact z98_size)
  rw [List.nil_append, List.nil_append, fill_nil] at e1
  exact e1
theorem note_size {h : HeadD} (ok : h.Ok) (v : Value) : (Tryd.prog.info? 40).map (·.size) = some (noteCells h v).toArray.size := by rw [List.size_toArray, noteCells_len ok]; exact size99
theorem note_one {h : HeadD} (A : Option Addr) (n c : Nat) : (noteCells h (.slice A n c)).toArray.all (fun v => v.oneCell') = true := by
  rw [List.all_toArray]
  refine List.all_eq_true.2 fun v hv => ?_
  rcases List.mem_append.1 hv with hv | hv
  · exact headCells_one h v hv
  · simp only [List.mem_singleton] at hv
    subst hv
    rfl
theorem note_zero {h : HeadD} (ok : h.Ok) (v : Value) : Z99.size = (noteCells h v).toArray.size := z99_size.trans (show 99 = (noteCells h v).length from (noteCells_len ok v).symm)
theorem sign_fill (z : Array Value) (hz : z.size = 64) (xs ys : List Value) (hx : xs.length = 32) (hy : ys.length = 32) :
    Instr.fill (#[((0 : Nat), (32 : Nat)), (32, 32)][·]?) z [(0, .agg xs.toArray), (1, .agg ys.toArray)] = some (xs ++ ys).toArray := by
  have h := Great.fill_whole (s := 32) (by omega) [.agg xs.toArray, .agg ys.toArray] z (fun v hv => by
    rcases List.mem_cons.1 hv with rfl | hv
    · exact hx
    · rcases List.mem_cons.1 hv with rfl | hv
      · exact hy
      · cases hv) (by rw [hz]; rfl)
  have e : ([Value.agg xs.toArray, .agg ys.toArray].flatMap fun v => v.cells.toList) = xs ++ ys := by
    simp [Value.cells]
  rw [e] at h
  exact h
theorem built_any (parts : List (Nat × Value)) : Tryd.prog.built 116 parts = Instr.fill (#[((0 : Nat), (32 : Nat)), (32, 32)][·]?) (Array.replicate 64 (.int .u8 0)) parts := by kernel_rfl
/-- What stands while a note is read: the reader, the result's cell, the head. -/
structure DN (w0 w : World) (g gh : Nat) (q : Text) (A : Option Addr) (c need : Nat) (hc : Array Value) : Prop where
  rd : Rd w g q A c need
  res : Blk w w0.heap.size 40 Z99
  head : Blk w gh 36 hc
  below : Below w0.heap.size w0 w
  hg : w0.heap.size < g
  hh : w0.heap.size < gh
  ne : g ≠ gh
section
variable {w0 w w' : World} {g gh c need need' : Nat} {q : Text} {A : Option Addr} {hc : Array Value}
theorem DN.call (h : DN w0 w g gh q A c need hc) (hr : Rd w' g q A c need') (hk : Kept (· = g) w w') : DN w0 w' g gh q A c need' hc :=
  ⟨hr, h.res.kept hk (by have := h.hg; omega), h.head.kept hk (fun e => h.ne e.symm), h.below.trans (Kept.below_of hk (by have := h.hg; omega) h.below.size), h.hg, h.hh, h.ne⟩
theorem DN.far (h : DN w0 w g gh q A c need hc) (hk : Below w.heap.size w w') : DN w0 w' g gh q A c need hc :=
  ⟨h.rd.below hk, h.res.kept (S := fun _ => False) (Kept.of_below hk) (fun x => x), h.head.kept (S := fun _ => False) (Kept.of_below hk) (fun x => x), h.below.trans (hk.mono h.below.size), h.hg, h.hh, h.ne⟩
theorem DN.off {gs : Nat} (h : DN w0 w g gh q A c need hc) (hk : Kept (· = gs) w w') (h1 : w0.heap.size < gs) (h2 : g ≠ gs) (h3 : gh ≠ gs) (h4 : 0 < q.length → ∀ a, A = some a → a.block < gs) : DN w0 w' g gh q A c need hc :=
  ⟨h.rd.keptOff hk h2 (fun h0 a ea e => by have := h4 h0 a ea; omega), h.res.kept hk (by omega), h.head.kept hk h3, h.below.trans (Kept.below_of hk (by omega) h.below.size), h.hg, h.hh, h.ne⟩
end
/-- .. before the head was taken. -/
structure DN0 (w0 w : World) (g : Nat) (q : Text) (A : Option Addr) (c need : Nat) : Prop where
  rd : Rd w g q A c need
  res : Blk w w0.heap.size 40 Z99
  below : Below w0.heap.size w0 w
  hg : w0.heap.size < g
section
variable {w0 w w' : World} {g c need need' : Nat} {q : Text} {A : Option Addr} {hc : Array Value}
theorem DN0.call (h : DN0 w0 w g q A c need) (hr : Rd w' g q A c need') (hk : Kept (· = g) w w') : DN0 w0 w' g q A c need' :=
  ⟨hr, h.res.kept hk (by have := h.hg; omega), h.below.trans (Kept.below_of hk (by have := h.hg; omega) h.below.size), h.hg⟩
theorem DN0.head (h : DN0 w0 w g q A c need) {o : Obj} (hk : Kept (· = w.heap.size) (w.alloc o) w') (hb : Blk w' w.heap.size 36 hc) : DN w0 w' g w.heap.size q A c need hc := by
  have hbb := Decode.below_new hk
  have hlt := h.rd.lt
  exact ⟨h.rd.below hbb, h.res.kept (S := fun _ => False) (Kept.of_below hbb) (fun x => x), hb, h.below.trans (hbb.mono h.below.size), h.hg, by have := h.res.lt; exact this, by omega⟩
end
end Go.Proofs.YtgldkfaiofkhbaaDoor.NoteM

namespace Go.Proofs.YtgldkfaiofkhbaaDoor.Bin
open Go Go.RowKit Go.Proofs.YtgldkfaiofkhbaaDoor Go.Proofs.YtgldkfaiofkhbaaDoor.Mem Go.Proofs.YtgldkfaiofkhbaaDoor.Sha Go.Proofs.YtgldkfaiofkhbaaDoor.Bytes Go.Proofs.YtgldkfaiofkhbaaDoor.SortP Go.Proofs.YtgldkfaiofkhbaaDoor.NoteP Go.Proofs.YtgldkfaiofkhbaaDoor.Compare Go.Proofs.YtgldkfaiofkhbaaDoor.Grown Go.Proofs.YtgldkfaiofkhbaaDoor.Want Go.Proofs.YtgldkfaiofkhbaaDoor.Rise Go.Proofs.YtgldkfaiofkhbaaDoor.SgM Go.Proofs.YtgldkfaiofkhbaaDoor.EncNoteP

/-- A call of a function value. -/
theorem run_fnv {P : Program} {ρ : Operand → Value} {o : Oper} {f : FuncId} {fn : Func} {x : Operand} {args : Array Value} (ca : Array Operand) (ct : Array TypeId) (ho : o.op = .call { callee := .value x, args := ca, argTypes := ct }) (hx : ρ x = .func (.func f) #[] #[]) (ha : (ca.toList.map ρ).toArray = args)
    (hf : P.funcs[f]? = some fn) (hn : (fn.name == "runtime.NumGoroutine") = false) (hb : fn.body.isNone = false) (w : World) : (execOp ρ o).run P w = .ok (.enter f args) w := by
  subst ha
  have hr := run_fn (P := P) hf hn hb
  simp [execOp, ho, hx, resolve, invoke, hr, go_sem]
  rw [← Array.toList_map]
theorem q_fnv {P : Program} {l : List Oper} {ts : List Value} {df : List Deferred} {rest : List Oper} {o : Oper} {C : World → Prop} {Q : Act → Prop} {v : Value} {f : FuncId} {fn : Func} {x : Operand} {args : Array Value} (hg : wantB o.guard l ts = true) (ca : Array Operand) (ct : Array TypeId) (ho : o.op = .call { callee := .value x, args := ca, argTypes := ct }) (hx : (Act.mk ts.toArray df).eval x = .func (.func f) #[] #[]) (ha : (ca.toList.map (Act.mk ts.toArray df).eval).toArray = args)
    (hf : P.funcs[f]? = some fn) (hn : (fn.name == "runtime.NumGoroutine") = false) (hb : fn.body.isNone = false) (h : ∀ w, C w → Calls P f args w fun e w'' => e = .returned v ∧ C w'')
    (hk : ∀ K : Act → Prop, (∀ a, Veil (wpQuiet P l.toArray C Q rest a) → K a) → K ((Act.mk ts.toArray df).put o.dst v)) : Veil (wpQuiet P l.toArray C Q (o :: rest) ⟨ts.toArray, df⟩) :=
  ⟨wpQuiet_call (want hg) (fun w => run_fnv ca ct ho hx ha hf hn hb w) h (fun K hK => hk K fun a ha' => hK a ha'.out)⟩
/-- What the search finds: the first place, below which all lie lower. -/
structure At (ss : List Text) (x : Text) (i : Nat) (f : Bool) : Prop where
  le : i ≤ ss.length
  low : ∀ y ∈ ss.take i, lex (kyS y) (kyS x) = true
  high : ∀ y ∈ ss.drop i, lex (kyS y) (kyS x) = false
  found : f = decide ((ss[i]?).map kyS = some (kyS x))
theorem cmp_low {a b : Text} (h : lex a b = true) : cmpT a b = -1 := by unfold cmpT; rw [if_pos h]
theorem cmp_high {a b : Text} (h : lex a b = false) : 0 ≤ cmpT a b ∧ (cmpT a b = 0 ↔ a = b) := by
  unfold cmpT
  rw [if_neg (by rw [h]; simp)]
  by_cases h2 : lex b a = true
  · rw [if_pos h2]
    exact ⟨by decide, ⟨fun e => (by cases e), fun e => absurd e.symm (lex_ne h2)⟩⟩
  · rw [if_neg h2]
    exact ⟨by decide, ⟨fun _ => lex_total _ _ h (by simpa using h2), fun _ => rfl⟩⟩
end Go.Proofs.YtgldkfaiofkhbaaDoor.Bin

namespace Go.Proofs.YtgldkfaiofkhbaaDoor.BinH
open Go Go.RowKit Go.Proofs.YtgldkfaiofkhbaaDoor Go.Proofs.YtgldkfaiofkhbaaDoor.Mem Go.Proofs.YtgldkfaiofkhbaaDoor.Sha Go.Proofs.YtgldkfaiofkhbaaDoor.Bytes Go.Proofs.YtgldkfaiofkhbaaDoor.SortP Go.Proofs.YtgldkfaiofkhbaaDoor.NoteP Go.Proofs.YtgldkfaiofkhbaaDoor.Compare Go.Proofs.YtgldkfaiofkhbaaDoor.Grown Go.Proofs.YtgldkfaiofkhbaaDoor.Want Go.Proofs.YtgldkfaiofkhbaaDoor.Rise Go.Proofs.YtgldkfaiofkhbaaDoor.SgM Go.Proofs.YtgldkfaiofkhbaaDoor.EncNoteP Go.Proofs.YtgldkfaiofkhbaaDoor.Bin Go.Proofs.YtgldkfaiofkhbaaDoor.RingM

theorem sizeK : (Tryd.prog.info? 103).map (·.size) = some 33 := by kernel_rfl
theorem size32k : (Tryd.prog.info? 23).map (·.size) = some 32 := by kernel_rfl
/-- What the search finds: the first place, below which all lie lower. -/
structure AtK (ss : List KD) (x : Text) (i : Nat) (f : Bool) : Prop where
  le : i ≤ ss.length
  low : ∀ y ∈ ss.take i, lex (idK y) x = true
  high : ∀ y ∈ ss.drop i, lex (idK y) x = false
  found : f = decide ((ss[i]?).map idK = some x)
theorem low_memK {ss : List KD} {x : Text} {i : Nat} (h : ∀ t y, t < i → ss[t]? = some y → lex (idK y) x = true) : ∀ y ∈ ss.take i, lex (idK y) x = true := fun y hy => by
  obtain ⟨t, ht, e⟩ := List.getElem_of_mem hy
  rw [List.length_take] at ht
  refine h t y (by omega) ?_
  rw [← e, List.getElem_take, List.getElem?_eq_getElem (by omega)]
theorem high_memK {ss : List KD} {x : Text} {i : Nat} (h : ∀ t y, i ≤ t → ss[t]? = some y → lex (idK y) x = false) : ∀ y ∈ ss.drop i, lex (idK y) x = false := fun y hy => by
  obtain ⟨t, ht, e⟩ := List.getElem_of_mem hy
  rw [List.length_drop] at ht
  refine h (i + t) y (by omega) ?_
  rw [← e, List.getElem_drop, List.getElem?_eq_getElem (by omega)]
theorem strict_atK {ss : List KD} (hs : Strict idK ss) {i j : Nat} {a b : KD} (hij : i < j) (ha : ss[i]? = some a) (hb : ss[j]? = some b) : lex (idK a) (idK b) = true := by
  obtain ⟨h1, rfl⟩ := List.getElem?_eq_some_iff.1 ha
  obtain ⟨h2, rfl⟩ := List.getElem?_eq_some_iff.1 hb
  exact strict_get hs hij h2
theorem up_lowK {ss : List KD} (hs : Strict idK ss) {x : Text} {y : KD} {h : Nat} (hy : ss[h]? = some y) (hl : lex (idK y) x = true) : ∀ t z, t < h + 1 → ss[t]? = some z → lex (idK z) x = true := fun t z ht hz => by
  by_cases e : t = h
  · subst e
    rw [hy] at hz
    obtain rfl := Option.some.inj hz
    exact hl
  · exact lex_trans _ _ _ (strict_atK hs (by omega) hz hy) hl
theorem up_highK {ss : List KD} (hs : Strict idK ss) {x : Text} {y : KD} {h : Nat} (hy : ss[h]? = some y) (hl : lex (idK y) x = false) : ∀ t z, h ≤ t → ss[t]? = some z → lex (idK z) x = false := fun t z ht hz => by
  by_cases e : t = h
  · subst e
    rw [hy] at hz
    obtain rfl := Option.some.inj hz
    exact hl
  · cases hq : lex (idK z) x with
    | false => rfl
    | true =>
      have := lex_trans _ _ _ (strict_atK hs (by omega) hy hz) hq
      rw [hl] at this
      cases this
/-- A row of held keys. -/
structure Kds (w : World) (A : Option Addr) (n : Nat) (l : List KD) : Prop where
  len : l.length = n
  rd : Reads w 33 A n (l.flatMap encK)
theorem Kds.below {w w' : World} {A : Option Addr} {n : Nat} {l : List KD} (h : Kds w A n l) (hb : Below w.heap.size w w') : Kds w' A n l := ⟨h.len, h.rd.below hb⟩
theorem Kds.at_ {w : World} {A : Option Addr} {n : Nat} {l : List KD} (h : Kds w A n l) {i : Nat} {x : KD} (hx : l[i]? = some x) : ∃ b o, A = some ⟨b, o, none⟩ ∧ b < w.heap.size ∧ ∀ (j : Nat) (u : Value), (encK x)[j]? = some u → w.cell? ⟨b, o + i * 33 + j, none⟩ = some u := by
  have hi : i < l.length := (List.getElem?_eq_some_iff.1 hx).1
  obtain ⟨b, o, e, hb, hc⟩ := h.rd.at_ (by have := h.len; omega)
  refine ⟨b, o, e, hb, fun j u hu => ?_⟩
  have hj : j < 33 := by
    have := (List.getElem?_eq_some_iff.1 hu).1
    rw [encK_len] at this
    exact this
  rw [Nat.add_assoc]
  apply hc
  rw [flatK_at l i x j hx hj]
  exact hu
/-- What the search answers. -/
def BinKOut (ss : List KD) (x : Text) (w : World) (e : Ending) (w' : World) : Prop := ∃ (i : Nat) (f : Bool), e = .returned (.tuple #[.int .i64 (i : Int), .bool f]) ∧ AtK ss x i f ∧ Below w.heap.size w w'
set_option maxRecDepth 100000 in
set_option maxHeartbeats 4000000 in
theorem binK_any (ss : List KD) (n : Nat) (hn47 : n ≤ 1099511627776) (hst : Strict idK ss) (x : Text) (hxl : x.length = 32) (A : Option Addr) (c : Nat) (w : World) (h : Kds w A n ss) :
    Calls Tryd.prog 155 #[.slice A n c, .agg (cells8 x).toArray, .func (.func 156) #[] #[]] w (BinKOut ss x w) := by
  obtain ⟨w0, hw0⟩ : ∃ w0, w.alloc (.cells (cells8 x).toArray 23) = w0 := ⟨_, rfl⟩
  have B0 : Hid (Blk w0 w.heap.size 23 (cells8 x).toArray) := by show Blk _ _ _ _; rw [← hw0]; exact Blk.new _ _ _
  have hb0 : Hid (Below w.heap.size w w0) := by show Below _ _ _; rw [← hw0]; exact Below.heap_below w _
  have S0 := Lib.hid (h.below hb0.out)
  have hn0 := Lib.hid hn47
  have hst0 := Lib.hid hst
  have hx0 := Lib.hid hxl
  have hlen : Hid (ss.length = n) := h.len
  have sX : Hid ((Tryd.prog.info? 23).map (·.size) = some (cells8 x).toArray.size) := size32k.trans (congrArg some (by rw [List.size_toArray, cells8_len, hxl]))
  have i1 : Hid (∀ t y, t < 0 → ss[t]? = some y → lex (idK y) x = true) := fun t y ht => absurd ht (Nat.not_lt_zero t)
  have i2 : Hid (∀ t y, n ≤ t → ss[t]? = some y → lex (idK y) x = false) := fun t y ht hy => by
    have := (List.getElem?_eq_some_iff.1 hy).1
    have := h.len
    omega
  clear h hst hxl
  go_enter Tryd.func155, Tryd.ntmps155
  go_wp2_with fail
  clear hw0
  go_loopw [9, 10] (fun v9 v10 wr => ∃ lo hi : Nat, v9 = .int .i64 (lo : Int) ∧ v10 = .int .i64 (hi : Int) ∧ Hid (lo ≤ hi) ∧ Hid (hi ≤ n) ∧ Hid (∀ t y, t < lo → ss[t]? = some y → lex (idK y) x = true) ∧ Hid (∀ t y, hi ≤ t → ss[t]? = some y → lex (idK y) x = false) ∧ Hid (Below w0.heap.size w0 wr)) (fun v9 v10 _ => (intOf v10).toNat - (intOf v9).toNat)
  case atStart => exact ⟨0, n, rfl, rfl, Nat.zero_le _, Nat.le_refl _, i1.out, i2.out, Below.refl _ _⟩
  case round =>
    clear i1 i2
    obtain ⟨lo, hi, rfl, rfl, hlh, hhn, j1, j2, hb⟩ := hrel
    have hlo : (lo : Int) ≤ 1099511627776 := by have := hlh.out; have := hhn.out; omega
    have hhi : (hi : Int) ≤ 1099511627776 := by have := hhn.out; omega
    have hl0 : (0 : Int) ≤ (lo : Int) := by omega
    have hh0 : (0 : Int) ≤ (hi : Int) := by omega
    have Sr := Lib.hid (S0.out.below hb.out)
    have Br : Hid (Blk wr w.heap.size 23 (cells8 x).toArray) := (hb.out.block _ B0.out.lt).trans B0.out
    by_cases hlt : lo < hi
    · have hz : (lo : Int) < (hi : Int) := by omega
      obtain ⟨m, hm⟩ : ∃ m, Hid ((lo + hi) / 2 = m) := ⟨_, Lib.hid rfl⟩
      have hm1 : Hid (lo ≤ m ∧ m < hi) := by show _ ∧ _; have := hm.out; omega
      have y1 : IntKind.i64.wrap ((lo : Int) + (hi : Int)) = (lo : Int) + (hi : Int) := IntWalk.i64_in _ (by omega)
      have y2 : IntKind.u64.wrap ((lo : Int) + (hi : Int)) = (lo : Int) + (hi : Int) := u64_in _ (by omega) (by omega)
      have y3 : ((lo : Int) + (hi : Int)) / 2 = (m : Int) := by have := hm.out; omega
      have y4 : IntKind.i64.wrap (m : Int) = (m : Int) := IntWalk.i64_in _ (by have := hm1.out; omega)
      have y6 : IntKind.u64.wrap (m : Int) = (m : Int) := u64_in _ (by omega) (by have := hm1.out; omega)
      have hmz : (m : Int) < (n : Int) := by have := hm1.out; have := hhn.out; omega
      have hm0 : (0 : Int) ≤ (m : Int) := by omega
      have hm6 : (m : Int) ≤ 1099511627776 := by have := hm1.out; omega
      obtain ⟨y, hy⟩ : ∃ y, Hid (ss[m]? = some y) := ⟨_, List.getElem?_eq_getElem (by rw [hlen.out]; have := hm1.out; have := hhn.out; omega)⟩
      obtain ⟨cy, hcyE⟩ : ∃ cy, Hid (encK y = cy) := ⟨_, Lib.hid rfl⟩
      obtain ⟨b, o, hA, hbl, hcy⟩ := Sr.out.at_ hy.out
      subst hA
      rw [hcyE.out] at hcy
      have hfy : Hid (∀ w', Below wr.heap.size wr w' → ∀ j u, cy[j]? = some u → w'.cell? ⟨b, o + m * 33 + j, none⟩ = some u) := fun w' hb' j u hu => (hb'.cell (p := ⟨b, o + m * 33 + j, none⟩) hbl).trans (hcy j u hu)
      have sY : Hid ((Tryd.prog.info? 103).map (·.size) = some cy.length) := by show _ = _; rw [← hcyE.out, encK_len]; exact sizeK
      have hlt' : Hid (lo < hi) := hlt
      clear hcy hlt
      go_upto_region 5 with fail
      cases hl : lex (idK y) x with
      | true =>
        have hc : Hid (cmpT (idK y) x = -1) := cmp_low hl
        have hcm : Hid (∀ w', Calls Tryd.prog 156 #[.agg cy.toArray, .agg (cells8 x).toArray] w' fun e w'' => e = .returned (.int .i64 (-1)) ∧ Below w'.heap.size w' w'') := fun w' => by rw [← hcyE.out, ← hc.out]; exact findCmp_below y x hx0.out w'
        have n1 := Lib.hid (up_lowK hst0.out hy.out hl)
        clear hl
        refine q_region (Class wr) (by kernel_rfl) (by kernel_rfl) (Class.mk_ ((Below.refl _ _).drew)) ?_
        refine q_move rfl (.tmp 2) rfl ?_
        (intro K hK; go_simp; refine hK _ ?_; clear hK K)
        refine q_move rfl (.tmp 0) rfl ?_
        (intro K hK; go_simp; refine hK _ ?_; clear hK K)
        refine q_move rfl (.tmp 11) rfl ?_
        (intro K hK; go_simp; refine hK _ ?_; clear hK K)
        refine q_val (v := .pointer (some ⟨b, o + m * 33, none⟩)) rfl (fun w' hw' => by go_simp) ?_
        (intro K hK; go_simp; refine hK _ ?_; clear hK K)
        refine q_part rfl 103 (.tmp 27) rfl b ((o + m * 33)) rfl (cy) _ (fun w' hw' => hfy.out w' hw'.below) Tryd.underlying103 rfl sY.out ?_
        (intro K hK; go_simp; refine hK _ ?_; clear hK K)
        refine q_row rfl 23 (.tmp 4) rfl w.heap.size rfl 23 ((cells8 x).toArray) (0, 0) _ (fun w' hw' => (hw'.below.block _ Br.out.lt).trans Br.out) Tryd.underlying23 rfl sX.out ?_
        (intro K hK; go_simp; refine hK _ ?_; clear hK K)
        refine q_fnv (v := .int .i64 (-1)) (f := 156) (args := #[.agg cy.toArray, .agg (cells8 x).toArray]) rfl _ _ rfl rfl rfl Tryd.func156 (by kernel_rfl) (by kernel_rfl) (fun w' hw' => ((hcm.out w').mono fun e w'' ⟨he, hb⟩ => ⟨he, hw'.next hb⟩)) ?_
        (intro K hK; go_simp; refine hK _ ?_; clear hK K)
        refine q_val (v := .bool true) rfl (fun w' hw' => by go_simp) ?_
        (intro K hK; go_simp; refine hK _ ?_; clear hK K)
        refine q_nil ?_
        intro w5 hw5
        have hb5 : Hid (Below w0.heap.size w0 w5) := hb.out.trans (hw5.below.mono hb.out.size)
        clear hw5
        go_wp2_with fail
        go_roundw
        case rel => exact ⟨m + 1, hi, by go_num, rfl, hm1.out.2, hhn.out, n1.out, j2.out, hb5.out⟩
        case measure => (have := hm1.out; have := hlt'.out; simp [intOf]; omega)
      | false =>
        obtain ⟨r, hc⟩ : ∃ r, Hid (cmpT (idK y) x = r) := ⟨_, Lib.hid rfl⟩
        have hcm : Hid (∀ w', Calls Tryd.prog 156 #[.agg cy.toArray, .agg (cells8 x).toArray] w' fun e w'' => e = .returned (.int .i64 r) ∧ Below w'.heap.size w' w'') := fun w' => by rw [← hcyE.out, ← hc.out]; exact findCmp_below y x hx0.out w'
        have hr0 : (0 : Int) ≤ r := by rw [← hc.out]; exact (cmp_high hl).1
        have n2 := Lib.hid (up_highK hst0.out hy.out hl)
        clear hl
        refine q_region (Class wr) (by kernel_rfl) (by kernel_rfl) (Class.mk_ ((Below.refl _ _).drew)) ?_
        refine q_move rfl (.tmp 2) rfl ?_
        (intro K hK; go_simp; refine hK _ ?_; clear hK K)
        refine q_move rfl (.tmp 0) rfl ?_
        (intro K hK; go_simp; refine hK _ ?_; clear hK K)
        refine q_move rfl (.tmp 11) rfl ?_
        (intro K hK; go_simp; refine hK _ ?_; clear hK K)
        refine q_val (v := .pointer (some ⟨b, o + m * 33, none⟩)) rfl (fun w' hw' => by go_simp) ?_
        (intro K hK; go_simp; refine hK _ ?_; clear hK K)
        refine q_part rfl 103 (.tmp 27) rfl b ((o + m * 33)) rfl (cy) _ (fun w' hw' => hfy.out w' hw'.below) Tryd.underlying103 rfl sY.out ?_
        (intro K hK; go_simp; refine hK _ ?_; clear hK K)
        refine q_row rfl 23 (.tmp 4) rfl w.heap.size rfl 23 ((cells8 x).toArray) (0, 0) _ (fun w' hw' => (hw'.below.block _ Br.out.lt).trans Br.out) Tryd.underlying23 rfl sX.out ?_
        (intro K hK; go_simp; refine hK _ ?_; clear hK K)
        refine q_fnv (v := .int .i64 r) (f := 156) (args := #[.agg cy.toArray, .agg (cells8 x).toArray]) rfl _ _ rfl rfl rfl Tryd.func156 (by kernel_rfl) (by kernel_rfl) (fun w' hw' => ((hcm.out w').mono fun e w'' ⟨he, hb⟩ => ⟨he, hw'.next hb⟩)) ?_
        (intro K hK; go_simp; refine hK _ ?_; clear hK K)
        refine q_val (v := .bool false) rfl (fun w' hw' => by go_simp) ?_
        (intro K hK; go_simp; refine hK _ ?_; clear hK K)
        refine q_nil ?_
        intro w5 hw5
        have hb5 : Hid (Below w0.heap.size w0 w5) := hb.out.trans (hw5.below.mono hb.out.size)
        clear hw5
        go_wp2_with fail
        go_roundw
        case rel => exact ⟨lo, m, rfl, by go_num, hm1.out.1, Nat.le_of_lt (Nat.lt_of_lt_of_le hm1.out.2 hhn.out), j1.out, n2.out, hb5.out⟩
        case measure => (have := hm1.out; have := hlt'.out; simp [intOf]; omega)
    · have hz : ¬ ((lo : Int) < (hi : Int)) := by omega
      obtain rfl : lo = hi := by have := hlh.out; omega
      have bw : Hid (Below w.heap.size w wr) := hb0.out.trans (hb.out.mono hb0.out.size)
      have a1 := Lib.hid (low_memK j1.out)
      have a2 := Lib.hid (high_memK j2.out)
      clear hlt
      go_upto_region 8 with fail
      by_cases hln : lo < n
      · have hz2 : (lo : Int) < (n : Int) := by omega
        obtain ⟨y, hy⟩ : ∃ y, Hid (ss[lo]? = some y) := ⟨_, List.getElem?_eq_getElem (by rw [hlen.out]; exact hln)⟩
        obtain ⟨cy, hcyE⟩ : ∃ cy, Hid (encK y = cy) := ⟨_, Lib.hid rfl⟩
        obtain ⟨b, o, hA, hbl, hcy⟩ := Sr.out.at_ hy.out
        subst hA
        rw [hcyE.out] at hcy
        have hfy : Hid (∀ w', Below wr.heap.size wr w' → ∀ j u, cy[j]? = some u → w'.cell? ⟨b, o + lo * 33 + j, none⟩ = some u) := fun w' hb' j u hu => (hb'.cell (p := ⟨b, o + lo * 33 + j, none⟩) hbl).trans (hcy j u hu)
        have sY : Hid ((Tryd.prog.info? 103).map (·.size) = some cy.length) := by show _ = _; rw [← hcyE.out, encK_len]; exact sizeK
        have hlow : lex (idK y) x = false := j2.out lo y (Nat.le_refl _) hy.out
        obtain ⟨r, hc⟩ : ∃ r, Hid (cmpT (idK y) x = r) := ⟨_, Lib.hid rfl⟩
        have hcm : Hid (∀ w', Calls Tryd.prog 156 #[.agg cy.toArray, .agg (cells8 x).toArray] w' fun e w'' => e = .returned (.int .i64 r) ∧ Below w'.heap.size w' w'') := fun w' => by rw [← hcyE.out, ← hc.out]; exact findCmp_below y x hx0.out w'
        have hfo : Hid ((r == 0) = decide ((ss[lo]?).map idK = some x)) := by
          show _ = _
          rw [hy.out, ← hc.out]
          have e := (cmp_high hlow).2
          by_cases p : idK y = x
          · rw [e.2 p, Option.map_some, p]; simp
          · rw [Option.map_some, decide_eq_false (by simpa using p)]; simp; exact fun q => p (e.1 q)
        obtain ⟨fb, hfb⟩ : ∃ fb, Hid ((r == 0) = fb) := ⟨_, Lib.hid rfl⟩
        have hfb2 := hfb.out
        clear hcy hlow hln
        refine q_region (Class wr) (by kernel_rfl) (by kernel_rfl) (Class.mk_ ((Below.refl _ _).drew)) ?_
        refine q_move rfl (.tmp 9) rfl ?_
        (intro K hK; go_simp; refine hK _ ?_; clear hK K)
        refine q_move rfl (.tmp 9) rfl ?_
        (intro K hK; go_simp; refine hK _ ?_; clear hK K)
        refine q_val (v := .int .i64 (n : Int)) rfl (fun w' hw' => by go_simp) ?_
        (intro K hK; go_simp; refine hK _ ?_; clear hK K)
        refine q_val (v := .bool true) rfl (fun w' hw' => by go_simp) ?_
        (intro K hK; go_simp; refine hK _ ?_; clear hK K)
        refine q_val (v := .bool true) rfl (fun w' hw' => by go_simp) ?_
        (intro K hK; go_simp; refine hK _ ?_; clear hK K)
        refine q_move rfl (.tmp 2) rfl ?_
        (intro K hK; go_simp; refine hK _ ?_; clear hK K)
        refine q_move rfl (.tmp 0) rfl ?_
        (intro K hK; go_simp; refine hK _ ?_; clear hK K)
        refine q_move rfl (.tmp 9) rfl ?_
        (intro K hK; go_simp; refine hK _ ?_; clear hK K)
        refine q_val (v := .pointer (some ⟨b, o + lo * 33, none⟩)) rfl (fun w' hw' => by go_simp) ?_
        (intro K hK; go_simp; refine hK _ ?_; clear hK K)
        refine q_part rfl 103 (.tmp 43) rfl b ((o + lo * 33)) rfl (cy) _ (fun w' hw' => hfy.out w' hw'.below) Tryd.underlying103 rfl sY.out ?_
        (intro K hK; go_simp; refine hK _ ?_; clear hK K)
        refine q_row rfl 23 (.tmp 4) rfl w.heap.size rfl 23 ((cells8 x).toArray) (0, 0) _ (fun w' hw' => (hw'.below.block _ Br.out.lt).trans Br.out) Tryd.underlying23 rfl sX.out ?_
        (intro K hK; go_simp; refine hK _ ?_; clear hK K)
        refine q_fnv (v := .int .i64 r) (f := 156) (args := #[.agg cy.toArray, .agg (cells8 x).toArray]) rfl _ _ rfl rfl rfl Tryd.func156 (by kernel_rfl) (by kernel_rfl) (fun w' hw' => ((hcm.out w').mono fun e w'' ⟨he, hb⟩ => ⟨he, hw'.next hb⟩)) ?_
        (intro K hK; go_simp; refine hK _ ?_; clear hK K)
        refine q_val (v := .bool fb) rfl (fun w' hw' => by go_simp) ?_
        (intro K hK; go_simp; refine hK _ ?_; clear hK K)
        refine q_val (v := .bool fb) rfl (fun w' hw' => by go_simp) ?_
        (intro K hK; go_simp; refine hK _ ?_; clear hK K)
        refine q_val (v := .int .i64 (lo : Int)) rfl (fun w' hw' => by go_simp) ?_
        (intro K hK; go_simp; refine hK _ ?_; clear hK K)
        refine q_val (v := .bool fb) rfl (fun w' hw' => by go_simp) ?_
        (intro K hK; go_simp; refine hK _ ?_; clear hK K)
        refine q_nil ?_
        intro w5 hw5
        have hw5c := Lib.hid hw5.below
        clear hw5
        go_wp2_with fail
        go_ret2
        unfold BinKOut
        exact ⟨lo, fb, rfl, ⟨by rw [hlen.out]; have := hhn.out; exact this, a1.out, a2.out, by rw [← hfb.out, hfo.out]⟩, bw.out.trans (hw5c.out.mono bw.out.size)⟩
      · have hz2 : ¬ ((lo : Int) < (n : Int)) := by omega
        have hnn : Hid (decide ((ss[lo]?).map idK = some x) = false) := by show _ = _; rw [List.getElem?_eq_none (by rw [hlen.out]; omega)]; simp
        clear hln
        refine q_region (Class wr) (by kernel_rfl) (by kernel_rfl) (Class.mk_ ((Below.refl _ _).drew)) ?_
        refine q_move rfl (.tmp 9) rfl ?_
        (intro K hK; go_simp; refine hK _ ?_; clear hK K)
        refine q_move rfl (.tmp 9) rfl ?_
        (intro K hK; go_simp; refine hK _ ?_; clear hK K)
        refine q_val (v := .int .i64 (n : Int)) rfl (fun w' hw' => by go_simp) ?_
        (intro K hK; go_simp; refine hK _ ?_; clear hK K)
        refine q_val (v := .bool false) rfl (fun w' hw' => by go_simp) ?_
        (intro K hK; go_simp; refine hK _ ?_; clear hK K)
        refine q_val (v := .bool false) rfl (fun w' hw' => by go_simp) ?_
        (intro K hK; go_simp; refine hK _ ?_; clear hK K)
        refine q_skip rfl ?_
        (intro K hK; go_simp; refine hK _ ?_; clear hK K)
        refine q_skip rfl ?_
        (intro K hK; go_simp; refine hK _ ?_; clear hK K)
        refine q_skip rfl ?_
        (intro K hK; go_simp; refine hK _ ?_; clear hK K)
        refine q_skip rfl ?_
        (intro K hK; go_simp; refine hK _ ?_; clear hK K)
        refine q_skip rfl ?_
        (intro K hK; go_simp; refine hK _ ?_; clear hK K)
        refine q_skip rfl ?_
        (intro K hK; go_simp; refine hK _ ?_; clear hK K)
        refine q_skip rfl ?_
        (intro K hK; go_simp; refine hK _ ?_; clear hK K)
        refine q_skip rfl ?_
        (intro K hK; go_simp; refine hK _ ?_; clear hK K)
        refine q_val (v := .bool false) rfl (fun w' hw' => by go_simp) ?_
        (intro K hK; go_simp; refine hK _ ?_; clear hK K)
        refine q_val (v := .int .i64 (lo : Int)) rfl (fun w' hw' => by go_simp) ?_
        (intro K hK; go_simp; refine hK _ ?_; clear hK K)
        refine q_val (v := .bool false) rfl (fun w' hw' => by go_simp) ?_
        (intro K hK; go_simp; refine hK _ ?_; clear hK K)
        refine q_nil ?_
        intro w5 hw5
        have hw5c := Lib.hid hw5.below
        clear hw5
        go_wp2_with fail
        go_ret2
        unfold BinKOut
        exact ⟨lo, false, rfl, ⟨by rw [hlen.out]; exact hhn.out, a1.out, a2.out, by rw [hnn.out]⟩, bw.out.trans (hw5c.out.mono bw.out.size)⟩
end Go.Proofs.YtgldkfaiofkhbaaDoor.BinH

namespace Go.Proofs.YtgldkfaiofkhbaaDoor.RingS
open Go Go.RowKit Go.Proofs.YtgldkfaiofkhbaaDoor Go.Proofs.YtgldkfaiofkhbaaDoor.Mem Go.Proofs.YtgldkfaiofkhbaaDoor.Sha Go.Proofs.YtgldkfaiofkhbaaDoor.Bytes Go.Proofs.YtgldkfaiofkhbaaDoor.SortP Go.Proofs.YtgldkfaiofkhbaaDoor.Compare Go.Proofs.YtgldkfaiofkhbaaDoor.Grown Go.Proofs.YtgldkfaiofkhbaaDoor.Want Go.Proofs.YtgldkfaiofkhbaaDoor.Append Go.Proofs.YtgldkfaiofkhbaaDoor.Own Go.Proofs.YtgldkfaiofkhbaaDoor.HeadID Go.Proofs.YtgldkfaiofkhbaaDoor.Fill Go.Proofs.YtgldkfaiofkhbaaDoor.RingM Go.Proofs.YtgldkfaiofkhbaaDoor.BinH

/-- A copy of a key, as a row of one's own. -/
def KeyRow (w : World) (B : Nat) (x : KD) : Prop := w.ownsRow B 5 1 (.slice x.A x.q.length x.c) x.q.length (cells8 x.q)
theorem KeyRow.below {w w' : World} {B : Nat} {x : KD} (h : KeyRow w B x) (hb : Below w.heap.size w w') : KeyRow w' B x := own_below h hb
theorem KeyRow.kept {S : Nat → Prop} {w w' : World} {B : Nat} {x : KD} (h : KeyRow w B x) (hk : Kept S w w') (hS : ∀ k (cur : Array Value), S k → B ≤ k → ¬ Blk w k 5 cur) : KeyRow w' B x := by
  obtain ⟨h1, h2⟩ := h
  refine ⟨h1, ?_⟩
  rcases h2 with h | ⟨g, c, cur, hv, hBg, hg, rest⟩
  · exact .inl h
  · exact .inr ⟨g, c, cur, hv, hBg, Blk.kept hg hk (fun s => hS g cur s hBg hg), rest⟩
theorem KeyRow.reads {w : World} {B : Nat} {x : KD} (h : KeyRow w B x) : Reads w 1 x.A x.q.length (cells8 x.q) ∧ x.q.length ≤ x.c ∧ (x.A = none → x.q.length = 0 ∧ x.c = 0) := by
  obtain ⟨A, c, e, h1, -, h2, h3, -⟩ := Own.reads (show w.ownsRow _ _ _ _ _ _ from h)
  injection e with e1 _ e2
  rw [e1, e2]
  exact ⟨h3, h1, h2⟩
theorem _root_.Go.Proofs.YtgldkfaiofkhbaaDoor.RingM.OwnK.blk {w : World} {B n c g : Nat} {l : List KD} (h : OwnK w B (.slice (some ⟨g, 0, none⟩) n c) n l) : ∃ cur, Blk w g 103 cur := by
  rcases h.2.2 with ⟨h3, -⟩ | ⟨g2, c2, cur, h3, -, hg, -⟩
  · injection h3 with h3; cases h3
  · injection h3 with h3
    injection h3 with h3
    injection h3 with h3
    subst h3
    exact ⟨cur, hg⟩
theorem blk_no {w : World} {g : Nat} {cs ds : Array Value} (h : Blk w g 103 cs) (k : Blk w g 5 ds) : False := by
  have e : some (Obj.cells cs 103 (0, 0)) = some (Obj.cells ds 5 (0, 0)) := h.symm.trans k
  simp at e
theorem _root_.Go.Proofs.YtgldkfaiofkhbaaDoor.RingM.OwnK.off {S : Nat → Prop} {w w' : World} {B n : Nat} {v : Value} {l : List KD} (h : OwnK w B v n l) (hk : Kept S w w') (hS : ∀ k, S k → k < B) : OwnK w' B v n l := by
  obtain ⟨h2, hFl, hown⟩ := h
  refine ⟨h2, hFl, ?_⟩
  rcases hown with h | ⟨g, c, cur, hv, hBg, hg, hnc, hcm, hcs, htk⟩
  · exact .inl h
  · exact .inr ⟨g, c, cur, hv, hBg, Blk.kept hg hk (fun x => by have := hS g x; omega), hnc, hcm, hcs, htk⟩
theorem _root_.Go.Proofs.YtgldkfaiofkhbaaDoor.RingM.OwnK.reads {w : World} {B n : Nat} {v : Value} {l : List KD} (h : OwnK w B v n l) : ∃ A c, v = .slice A n c ∧ n ≤ c ∧ c ≤ maxLen ∧ (A = none → n = 0 ∧ c = 0) ∧ Kds w A n l ∧ ∀ a, A = some a → B ≤ a.block := by
  obtain ⟨A, c, e, h1, h2, h3, h4, h5⟩ := Own.reads h.2
  exact ⟨A, c, e, h1, h2, h3, ⟨h.1, h4⟩, fun a e => (h5 a e).1⟩
/-- The row, one key longer. -/
theorem grew_keys {w w' : World} {B n : Nat} {v v' : Value} {l : List KD} {x : KD} (h : Grew w B 103 33 v n 1 (l.flatMap encK) (encK x) v' w') (hl : l.length = n) : OwnK w' B v' (n + 1) (l ++ [x]) := by
  refine ⟨by rw [List.length_append, hl]; rfl, ?_⟩
  have := h.own
  rwa [List.flatMap_append, show [x].flatMap encK = encK x by simp]
theorem grew_keptK {w w' : World} {base e size n m : Nat} {v v' : Value} {xs news : List Value} (h : Grew w base e size v n m xs news v' w') : Kept (fun k => some k = v.ownBlock) w w' := ⟨h.grow.os, h.grow.tape, h.grow.output, h.grow.size, fun k hk hne => h.grow.block k hk hne⟩
theorem own_atK {w : World} {B n : Nat} {v : Value} {l : List KD} (h : OwnK w B v n l) : ∀ k, v.ownBlock = some k → B ≤ k := fun k hk => by
  rcases h.2.2 with ⟨h2, -⟩ | ⟨g, c, cur, hv, hBg, -⟩
  · rw [h2] at hk; cases hk
  · rw [hv] at hk
    have e : some g = some k := hk
    injection e with e
    omega
theorem reads_one (w : World) {cx : List Value} (h : cx.length = 33) : Reads (w.alloc (.cells ([cx].flatten).toArray 103)) 33 (some ⟨w.heap.size, 0, none⟩) 1 cx := by
  have hb : Blk (w.alloc (.cells ([cx].flatten).toArray 103)) w.heap.size 103 ([cx].flatten).toArray := Blk.new _ _ _
  refine ⟨by rw [h], fun _ => ⟨w.heap.size, 0, rfl, by simp, fun j u hu => ?_⟩⟩
  rw [hb.cell]
  simpa using hu
theorem size33 : (Tryd.prog.info? 103).map (·.size) = some 33 := by kernel_rfl
theorem zero33 : ((Tryd.prog.info? 103).bind (·.zero)).isSome = true := by kernel_rfl
theorem built_held (parts : List (Nat × Value)) : Tryd.prog.built 103 parts = Instr.fill (#[((0 : Nat), (32 : Nat)), (32, 1)][·]?) (List.replicate 32 (Value.int .u8 0) ++ [Value.slice none 0 0]).toArray parts := by kernel_rfl
theorem run_held (x : Text) (hx : x.length = 32) (A : Option Addr) (n c : Nat) (w : World) : (Instr.build 103 #[(0, .agg (cells8 x).toArray), (1, .slice A n c)]).run Tryd.prog w = .ok (.agg (cells8 x ++ [Value.slice A n c]).toArray) w := by
  refine run_build w _ _ _ ?_
  rw [built_held]
  have e1 := fill_one (place := (#[((0 : Nat), (32 : Nat)), (32, 1)][·]?)) (i := 0) (v := .agg (cells8 x).toArray) (xs := cells8 x) (old := List.replicate 32 (Value.int .u8 0)) (pre := []) (post := [Value.slice none 0 0]) (rest := [(1, .slice A n c)]) rfl rfl (by rw [cells8_len, hx]) rfl (by simp)
  have e2 := fill_one (place := (#[((0 : Nat), (32 : Nat)), (32, 1)][·]?)) (i := 1) (v := Value.slice A n c) (xs := [Value.slice A n c]) (old := [Value.slice none 0 0]) (pre := cells8 x) (post := []) (rest := []) rfl rfl rfl (by rw [cells8_len, hx]) rfl
  simp only [List.nil_append, List.append_nil] at e1 e2
  rw [e1, e2, fill_nil]
theorem kept_sortedK {w : World} {g : Nat} (k : Nat) (d : Array KD) (os : Array Obj) : Kept (· = g) w (sortWorldK encK 33 w g 0 k d os) := by
  refine ⟨rfl, rfl, rfl, ?_, fun i hi hne => ?_⟩
  · unfold sortWorldK Sort.putRowK Sort.putRow
    rw [Sort.size_grow]
    unfold Sort.mapBlock
    rw [Array.size_modify]
    exact Nat.le_add_right _ _
  · unfold sortWorldK Sort.putRowK Sort.putRow
    rw [Sort.heap_grow_old _ _ (by unfold Sort.mapBlock; rw [Array.size_modify]; exact hi)]
    unfold Sort.mapBlock
    rw [Array.getElem?_modify, if_neg (fun e => hne e.symm)]
    rfl
set_option maxRecDepth 100000 in
theorem sort_ownK (l : List KD) (n B g c : Nat) (hn47 : n ≤ 2199023255552) (w : World) (h : OwnK w B (.slice (some ⟨g, 0, none⟩) n c) n l) :
    Calls Tryd.prog 49 #[.slice (some ⟨g, 0, none⟩) n c, .func (.func 47) #[] #[]] w fun e w' => e = .returned (.tuple #[]) ∧ ∃ ds : List KD, Hid (ds.Perm l ∧ ds.Pairwise fun a b => lex (idK b) (idK a) = false) ∧ Hid (OwnK w' B (.slice (some ⟨g, 0, none⟩) n c) n ds) ∧ Hid (Kept (· = g) w w') := by
  obtain ⟨cur0, hcur⟩ := h.blk
  have eg : ∀ args w, (callFunc 47 args).run Tryd.prog w = .ok (.enter 47 args) w := enters_of Tryd.func47 (by kernel_rfl) rfl
  have hsz : l.toArray.size = n := by rw [List.size_toArray, h.1]
  have hcon := AnyQ.slices_SortFunc Tryd.sortHeld 33 (fun _ => rfl) (fun _ => rfl) encK encK_len encK_one cfK swoK 47 #[] g 0 c l.toArray w eg (heldCmp_lays g 0 _ w) (holds_ownK h.2) hcur.lt (by rw [hsz]; omega)
  simp only [hsz] at hcon
  change Calls _ 49 _ _ _ at hcon
  refine hcon.mono fun e w' ⟨he, d', k, os, hp, hs, hw⟩ => ?_
  have hp' : Sort.PermIn 0 l.toArray.size l.toArray d' := by rw [hsz]; exact hp
  have hs' : Sort.SortedIn (ltOf cfK) 0 l.toArray.size d' := by rw [hsz]; exact hs
  obtain ⟨h1, h2, h3⟩ := sorted_keys hp' hs'
  refine ⟨he, d'.toList, ⟨h2, h3⟩, ?_, ?_⟩
  · show OwnK w' _ _ _ _
    rw [hw]
    exact ⟨by rw [h1, hsz], own_sortedK h.2 k d' (by rw [← Array.length_toList, h1, hsz]) os⟩
  · show Kept _ w w'
    rw [hw]
    exact kept_sortedK k d' os
/-- A ring, as its caller may read it. -/
def RingAt (w : World) (R : Nat) (l : List KD) : Prop := ∃ A c, Blk w R 100 #[.slice A l.length c] ∧ l.length ≤ c ∧ Kds w A l.length l ∧ ∀ x ∈ l, Reads w 1 x.A x.q.length (cells8 x.q) ∧ x.q.length ≤ x.c ∧ (x.A = none → x.q.length = 0 ∧ x.c = 0)
theorem RingAt.below {w w' : World} {R : Nat} {l : List KD} (h : RingAt w R l) (hb : Below w.heap.size w w') : RingAt w' R l := by
  obtain ⟨A, c, h1, h2, h3, h4⟩ := h
  exact ⟨A, c, (hb.block _ h1.lt).trans h1, h2, h3.below hb, fun x hx => ⟨(h4 x hx).1.below hb, (h4 x hx).2⟩⟩
end Go.Proofs.YtgldkfaiofkhbaaDoor.RingS

namespace Go.Proofs.YtgldkfaiofkhbaaDoor.Find
open Go Go.RowKit Go.Proofs.YtgldkfaiofkhbaaDoor Go.Proofs.YtgldkfaiofkhbaaDoor.Mem Go.Proofs.YtgldkfaiofkhbaaDoor.Sha Go.Proofs.YtgldkfaiofkhbaaDoor.Bytes Go.Proofs.YtgldkfaiofkhbaaDoor.SortP Go.Proofs.YtgldkfaiofkhbaaDoor.QuietTail Go.Proofs.YtgldkfaiofkhbaaDoor.Grown Go.Proofs.YtgldkfaiofkhbaaDoor.Want Go.Proofs.YtgldkfaiofkhbaaDoor.Append Go.Proofs.YtgldkfaiofkhbaaDoor.Own Go.Proofs.YtgldkfaiofkhbaaDoor.HeadID Go.Proofs.YtgldkfaiofkhbaaDoor.Held Go.Proofs.YtgldkfaiofkhbaaDoor.RingM Go.Proofs.YtgldkfaiofkhbaaDoor.BinH Go.Proofs.YtgldkfaiofkhbaaDoor.RingS

theorem size32f : (Tryd.prog.info? 23).map (·.size) = some 32 := by kernel_rfl
theorem at_no {l : List KD} {d : Text} {i : Nat} (hs : Strict idK l) (h : AtK l d i false) : ∀ x ∈ l, idK x ≠ d := fun x hx e => by
  have hf : ¬ (l[i]?).map idK = some d := by simpa using h.found.symm
  have hx2 := hx
  rw [← List.take_append_drop i l] at hx2
  rcases List.mem_append.1 hx2 with hx2 | hx2
  · have := h.low x hx2
    rw [e, lex_irrefl] at this
    cases this
  · obtain ⟨j, hj, rfl⟩ := List.getElem_of_mem hx2
    rw [List.length_drop] at hj
    rw [List.getElem_drop] at e
    by_cases h0 : j = 0
    · subst h0
      apply hf
      rw [List.getElem?_eq_getElem (by omega), Option.map_some]
      exact congrArg some e
    · have h1 : lex (idK (l[i]'(by omega))) (idK l[i + j]) = true := strict_get hs (by omega) (by omega)
      have h2 := h.high (l[i]'(by omega)) (by rw [← List.getElem_cons_drop (by omega)]; exact List.mem_cons_self)
      rw [e, h2] at h1
      cases h1
theorem at_yes {l : List KD} {d : Text} {i : Nat} (h : AtK l d i true) : ∃ x, l[i]? = some x ∧ idK x = d := by
  have hf : (l[i]?).map idK = some d := by simpa using h.found.symm
  cases hx : l[i]? with
  | none => rw [hx] at hf; cases hf
  | some x => rw [hx] at hf; exact ⟨x, rfl, Option.some.inj hf⟩
/-- What the looking up of an id answers. -/
def FindOut (l : List KD) (d : Text) (w : World) (e : Ending) (w' : World) : Prop := Below w.heap.size w w' ∧ (((∀ x ∈ l, idK x ≠ d) ∧ e = .returned (.slice none 0 0)) ∨ ∃ x ∈ l, idK x = d ∧ e = .returned (.slice x.A x.q.length x.c))
set_option maxRecDepth 100000 in
set_option maxHeartbeats 4000000 in
theorem find_any (l : List KD) (hl64 : l.length ≤ 64) (hst : Strict idK l) (d : Text) (hd : d.length = 32) (R : Nat) (w : World) (hR : RingAt w R l) :
    Calls Tryd.prog 102 #[.pointer (some ⟨R, 0, none⟩), .agg (cells8 d).toArray] w (FindOut l d w) := by
  obtain ⟨w0, hw0⟩ : ∃ w0, Hid (w.alloc (.cells (cells8 d).toArray 23) = w0) := ⟨_, Lib.hid rfl⟩
  have B0 : Hid (Blk w0 w.heap.size 23 (cells8 d).toArray) := by show Blk _ _ _ _; rw [← hw0.out]; exact Blk.new _ _ _
  have hb0 : Hid (Below w.heap.size w w0) := by show Below _ _ _; rw [← hw0.out]; exact Below.heap_below w _
  have hw0' := hw0.out
  obtain ⟨n, hn⟩ : ∃ n, Hid (l.length = n) := ⟨_, Lib.hid rfl⟩
  obtain ⟨A, c, hr1, hr2, hr3, hr4⟩ := hR.below hb0.out
  rw [hn.out] at hr1 hr2 hr3 hl64
  have hRg : Hid (∀ w', Below w0.heap.size w0 w' → w'.cell? ⟨R, 0, none⟩ = some (.slice A n c)) := fun w' hb => ((hb.block _ hr1.lt).trans hr1 |> fun h : Blk w' R 100 #[.slice A n c] => h.cell 0)
  have hKd := Lib.hid hr3
  have hst0 := Lib.hid hst
  have hd0 := Lib.hid hd
  have hl0 := Lib.hid hl64
  have sD : Hid ((Tryd.prog.info? 23).map (·.size) = some (cells8 d).toArray.size) := size32f.trans (congrArg some (by rw [List.size_toArray, cells8_len, hd]))
  clear hw0 hR hr1 hr2 hr3 hr4 hst hd hl64
  go_enter Tryd.func102, Tryd.ntmps102
  go_upto_region 1 with fail
  clear hw0'
  have s0 : Hid (Below w0.heap.size w0 w0.drew) := (Below.refl _ _).drew
  refine held_start (fun w' => Below w0.heap.size w0 w') 11 rfl (by kernel_rfl) ?_
  refine held_take (i := 0) (v := .pointer (some ⟨R, 0, none⟩)) rfl (by kernel_rfl) (by kernel_rfl) (by kernel_rfl) (fun _ _ _ h => h) s0.out (by rfl) (fun w' hw' => run_mv (.tmp 0) rfl w') ?_
  (intro K hK; go_simp; refine hK _ ?_; clear hK K)
  refine held_take (i := 1) (v := .pointer (some ⟨R, 0, none⟩)) rfl (by kernel_rfl) (by kernel_rfl) (by kernel_rfl) (fun _ _ _ h => h) s0.out (by rfl) (fun w' hw' => by go_simp) ?_
  (intro K hK; go_simp; refine hK _ ?_; clear hK K)
  refine held_take (i := 2) (v := .pointer (some ⟨R, 0, none⟩)) rfl (by kernel_rfl) (by kernel_rfl) (by kernel_rfl) (fun _ _ _ h => h) s0.out (by rfl) (fun w' hw' => by go_simp) ?_
  (intro K hK; go_simp; refine hK _ ?_; clear hK K)
  refine held_take (i := 3) (v := .slice A n c) rfl (by kernel_rfl) (by kernel_rfl) (by kernel_rfl) (fun _ _ _ h => h) s0.out (by rfl) (fun w' hw' => by have hc := hRg.out w' hw'; go_simp) ?_
  (intro K hK; go_simp; refine hK _ ?_; clear hK K)
  refine held_take (i := 4) (v := .agg ((cells8 d).toArray)) rfl (by kernel_rfl) (by kernel_rfl) (by kernel_rfl) (fun _ _ _ h => h) s0.out (by rfl) (fun w' hw' => exec_row 23 (.tmp 3) rfl (w.heap.size) rfl 23 ((cells8 d).toArray) (0, 0) _ (((hw'.block _ B0.out.lt).trans B0.out)) Tryd.underlying23 rfl sD.out) ?_
  (intro K hK; go_simp; refine hK _ ?_; clear hK K)
  refine held_only (i := 5) rfl (by kernel_rfl) (by rfl) (fun K hK => ?_)
  refine wp_fn (R := fun v w'' => ∃ (i : Nat) (f : Bool), v = .tuple #[.int .i64 (i : Int), .bool f] ∧ AtK l d i f ∧ Below w0.drew.heap.size w0.drew w'') (args := #[.slice A n c, .agg (cells8 d).toArray, .func (.func 156) #[] #[]]) _ _ rfl rfl Tryd.func155 (by kernel_rfl) (by kernel_rfl) ((binK_any l n (by have := hl0.out; omega) hst0.out d hd0.out A c w0.drew (hKd.out.below s0.out)).mono fun e w'' ho => by obtain ⟨i, f, he, ha, hb⟩ := ho; exact ⟨_, he, i, f, rfl, ha, hb⟩) ?_
  rintro qq w5 ⟨i, f, rfl, hAt, kk⟩
  replace hAt := Lib.hid hAt
  have h5 : Hid (Below w0.heap.size w0 w5) := s0.out.trans (kk.mono s0.out.size)
  clear kk
  go_simp
  refine hK _ _ h5.out ?_
  clear hK K
  refine held_take (i := 6) (v := .tuple #[.int .i64 (i : Int), .bool f]) rfl (by kernel_rfl) (by kernel_rfl) (by kernel_rfl) (fun _ _ _ h => h) h5.out (by rfl) (fun w' hw' => run_mv (.tmp 13) rfl w') ?_
  (intro K hK; go_simp; refine hK _ ?_; clear hK K)
  refine held_take (i := 7) (v := .int .i64 (i : Int)) rfl (by kernel_rfl) (by kernel_rfl) (by kernel_rfl) (fun _ _ _ h => h) h5.out (by rfl) (fun w' hw' => by go_simp) ?_
  (intro K hK; go_simp; refine hK _ ?_; clear hK K)
  refine held_take (i := 8) (v := .bool f) rfl (by kernel_rfl) (by kernel_rfl) (by kernel_rfl) (fun _ _ _ h => h) h5.out (by rfl) (fun w' hw' => by go_simp) ?_
  (intro K hK; go_simp; refine hK _ ?_; clear hK K)
  refine held_take (i := 9) (v := .int .i64 (i : Int)) rfl (by kernel_rfl) (by kernel_rfl) (by kernel_rfl) (fun _ _ _ h => h) h5.out (by rfl) (fun w' hw' => by go_simp) ?_
  (intro K hK; go_simp; refine hK _ ?_; clear hK K)
  refine held_take (i := 10) (v := .bool f) rfl (by kernel_rfl) (by kernel_rfl) (by kernel_rfl) (fun _ _ _ h => h) h5.out (by rfl) (fun w' hw' => by go_simp) ?_
  (intro K hK; go_simp; refine hK _ ?_; clear hK K)
  refine held_end (by kernel_rfl) ?_
  cases f with
  | false =>
    have hno := Lib.hid (at_no hst0.out hAt.out)
    go_wp2_with fail
    go_ret
    exact ⟨hb0.out.trans (h5.out.mono hb0.out.size), .inl ⟨hno.out, rfl⟩⟩
  | true =>
    obtain ⟨x, hx, hxd⟩ := at_yes hAt.out
    replace hx := Lib.hid hx
    replace hxd := Lib.hid hxd
    have hin : Hid (i < n) := by show _ < _; rw [← hn.out]; exact (List.getElem?_eq_some_iff.1 hx.out).1
    have z1 : (i : Int) < (n : Int) := by have := hin.out; omega
    have z0 : (0 : Int) ≤ (i : Int) := by omega
    have hi6 : (i : Int) ≤ 64 := by have := hin.out; have := hl0.out; omega
    obtain ⟨b, o, hA, hbl, hcx⟩ := (hKd.out.below h5.out).at_ hx.out
    subst hA
    have hck := hcx 32 _ (encK_key x)
    have hrc := hRg.out w5 h5.out
    obtain ⟨kx, hkx⟩ : ∃ kx, Hid (x.q.length = kx) := ⟨_, Lib.hid rfl⟩
    rw [hkx.out] at hck
    have hxm := Lib.hid (List.mem_of_getElem? hx.out)
    clear hcx
    go_wp2_with fail
    go_ret
    exact ⟨hb0.out.trans (h5.out.mono hb0.out.size), .inr ⟨x, hxm.out, hxd.out, by rw [hkx.out]; rfl⟩⟩
end Go.Proofs.YtgldkfaiofkhbaaDoor.Find

namespace Go.Proofs.YtgldkfaiofkhbaaDoor.NewRing
open Go Go.RowKit Go.Proofs.YtgldkfaiofkhbaaDoor Go.Proofs.YtgldkfaiofkhbaaDoor.Mem Go.Proofs.YtgldkfaiofkhbaaDoor.Sha Go.Proofs.YtgldkfaiofkhbaaDoor.Bytes Go.Proofs.YtgldkfaiofkhbaaDoor.SortP Go.Proofs.YtgldkfaiofkhbaaDoor.QuietTail Go.Proofs.YtgldkfaiofkhbaaDoor.Compare Go.Proofs.YtgldkfaiofkhbaaDoor.Grown Go.Proofs.YtgldkfaiofkhbaaDoor.Want Go.Proofs.YtgldkfaiofkhbaaDoor.Append Go.Proofs.YtgldkfaiofkhbaaDoor.Own Go.Proofs.YtgldkfaiofkhbaaDoor.HashMem Go.Proofs.YtgldkfaiofkhbaaDoor.HeadID Go.Proofs.YtgldkfaiofkhbaaDoor.Fill Go.Proofs.YtgldkfaiofkhbaaDoor.SgM Go.Proofs.YtgldkfaiofkhbaaDoor.Signs Go.Proofs.YtgldkfaiofkhbaaDoor.Held Go.Proofs.YtgldkfaiofkhbaaDoor.RingM Go.Proofs.YtgldkfaiofkhbaaDoor.BinH Go.Proofs.YtgldkfaiofkhbaaDoor.RingS Go.Proofs.YtgldkfaiofkhbaaDoor.DigEq

theorem wp_store_oneH {P : Program} {o : Oper} {a : Act} {w : World} {K : Act → World → Prop} {Q : Exit → Act → World → Prop} (ty : TypeId) (x y : Operand) (ho : o.op = .store ty x y)
    (g : Nat) (v : Value) (hx : a.eval x = .pointer (some ⟨g, 0, none⟩)) (hy : a.eval y = v) (h1 : v.oneCell' = true)
    (t : TypeId) (old : Value) (hg : Blk w g t #[old]) (hi : (P.info? ty).map (·.size) = some 1)
    (h : ∀ w', Blk w' g t #[v] → Kept (· = g) w w' → K (a.put o.dst undef) w') : o.wp P a w K Q := by
  unfold Oper.wp execOp
  simp only [ho, hx, hy, Instr.storeAt, Instr.sureAddr, Sem.run_bind, Sem.run_pure, Result.andThen_ok, run_storeVar_one w g t ty old v hg hi h1]
  exact h _ (setRow_heap _ _ _ _ _ _ hg) (Bytes.Kept.setRow (S := (· = g)) (Kept.refl _ w) rfl _)
/-- Where the making of a ring stands. -/
structure RW (w wr : World) (v : Value) (n : Nat) (l : List KD) : Prop where
  ring : Blk wr w.heap.size 100 #[v]
  row : OwnK wr (w.heap.size + 1) v n l
  keys : ∀ x ∈ l, KeyRow wr (w.heap.size + 1) x
  far : Below w.heap.size w wr
theorem RW.size {w wr : World} {v : Value} {n : Nat} {l : List KD} (h : RW w wr v n l) : w.heap.size + 1 ≤ wr.heap.size := h.ring.lt
theorem RW.below {w wr w' : World} {v : Value} {n : Nat} {l : List KD} (h : RW w wr v n l) (hb : Below wr.heap.size wr w') : RW w w' v n l :=
  ⟨(hb.block _ h.ring.lt).trans h.ring, h.row.below hb, fun x hx => (h.keys x hx).below hb, h.far.trans (hb.mono h.far.size)⟩
theorem keys_grown {w w' : World} {B n m : Nat} {v v' : Value} {l : List KD} {news : List Value} {y : KD} (hO : OwnK w B v n l) (hG : Grew w B 103 33 v n m (l.flatMap encK) news v' w') (h : KeyRow w B y) : KeyRow w' B y := by
  refine h.kept (grew_keptK hG) fun k cur e hBk hb => ?_
  rcases hO.2.2 with ⟨h2, -⟩ | ⟨g, c, cur2, hv, hBg, hg, -⟩
  · rw [h2] at e; cases e
  · rw [hv] at e
    have e : some k = some g := e
    injection e with e
    subst e
    exact blk_no hg hb
theorem RW.push {w w11 w12 : World} {v11 : Value} {n : Nat} {l : List KD} {x : KD} {u : Value} (hf : Below w.heap.size w w11) (hO : OwnK w11 (w.heap.size + 1) v11 (n + 1) (l ++ [x])) (hK : ∀ y ∈ l ++ [x], KeyRow w11 (w.heap.size + 1) y)
    (hB : Blk w12 w.heap.size 100 #[u]) (hu : u = v11) (hk : Kept (· = w.heap.size) w11 w12) : RW w w12 v11 (n + 1) (l ++ [x]) := by
  subst hu
  refine ⟨hB, hO.off hk (fun k e => by omega), fun y hy => (hK y hy).kept hk (fun k cur e hBk _ => by omega), hf.trans (Kept.below_of hk (Nat.le_refl _) hf.size)⟩
theorem RW.sorted {w wr w' : World} {g n c : Nat} {l ds : List KD} (h : RW w wr (.slice (some ⟨g, 0, none⟩) n c) n l) (hp : ds.Perm l) (hO : OwnK w' (w.heap.size + 1) (.slice (some ⟨g, 0, none⟩) n c) n ds) (hk : Kept (· = g) wr w') : RW w w' (.slice (some ⟨g, 0, none⟩) n c) n ds := by
  have hg : w.heap.size + 1 ≤ g := own_atK h.row g rfl
  obtain ⟨cur, hcur⟩ := h.row.blk
  refine ⟨h.ring.kept hk (fun e => by omega), hO, fun x hx => (h.keys x (hp.mem_iff.1 hx)).kept hk (fun k cur2 e _ hb => by subst e; exact blk_no hcur hb), h.far.trans (Kept.below_of hk (by omega) h.far.size)⟩
/-- A ring whose memory lies from B on. -/
structure RingOwn (w : World) (B R : Nat) (l : List KD) : Prop where
  base : B ≤ R
  ring : ∃ A c, Blk w R 100 #[.slice A l.length c] ∧ OwnK w B (.slice A l.length c) l.length l
  keys : ∀ x ∈ l, KeyRow w B x
theorem RingOwn.at_ {w : World} {B R : Nat} {l : List KD} (h : RingOwn w B R l) : RingAt w R l := by
  obtain ⟨A, c, h1, h2⟩ := h.ring
  obtain ⟨A2, c2, e, h3, -, -, h4, -⟩ := h2.reads
  injection e with e1 _ e2
  subst e1 e2
  exact ⟨A, c, h1, h3, h4, fun x hx => (h.keys x hx).reads⟩
theorem RingOwn.below {w w' : World} {B R : Nat} {l : List KD} (h : RingOwn w B R l) (hb : Below w.heap.size w w') : RingOwn w' B R l := by
  obtain ⟨A, c, h1, h2⟩ := h.ring
  exact ⟨h.base, ⟨A, c, (hb.block _ h1.lt).trans h1, h2.below hb⟩, fun x hx => (h.keys x hx).below hb⟩
theorem RingOwn.kept {S : Nat → Prop} {w w' : World} {B R : Nat} {l : List KD} (h : RingOwn w B R l) (hk : Kept S w w') (hS : ∀ k, S k → k < B) : RingOwn w' B R l := by
  obtain ⟨A, c, h1, h2⟩ := h.ring
  have hb := h.base
  refine ⟨hb, ⟨A, c, Blk.kept h1 hk (fun s => by have := hS _ s; omega), h2.1, h2.2.1, ?_⟩, fun x hx => (h.keys x hx).kept hk (fun k cur s hBk _ => by have := hS _ s; omega)⟩
  rcases h2.2.2 with h3 | ⟨g, c3, cur, hv, hBg, hg, rest⟩
  · exact .inl h3
  · exact .inr ⟨g, c3, cur, hv, hBg, Blk.kept hg hk (fun s => by have := hS _ s; omega), rest⟩
theorem RW.ringOwn {w wr : World} {A : Option Addr} {n c : Nat} {l : List KD} (h : RW w wr (.slice A n c) n l) : RingOwn wr w.heap.size w.heap.size l := by
  have hl : l.length = n := h.row.1
  subst hl
  exact ⟨Nat.le_refl _, ⟨A, c, h.ring, h.row.base (Nat.le_succ _)⟩, fun x hx => ownsRow_base (h.keys x hx) (Nat.le_succ _)⟩
theorem own_someK {w : World} {B n c : Nat} {A : Option Addr} {l : List KD} (h : OwnK w B (.slice A n c) n l) (hn : 0 < n) : ∃ g, A = some ⟨g, 0, none⟩ := by
  rcases h.2.2 with ⟨h2, -⟩ | ⟨g, c, cur, hv, -⟩
  · injection h2 with _ h2; omega
  · injection hv with hv
    exact ⟨g, hv⟩
theorem step_ne {ds : List KD} {j k : Nat} {xa xb : KD} (hk : j = k + 1) (ha : ds[k]? = some xa) (hb : ds[j]? = some xb) (hne : idK xa ≠ idK xb) (h : ∀ (t : Nat) a b, t + 1 < j → ds[t]? = some a → ds[t + 1]? = some b → idK a ≠ idK b) : ∀ (t : Nat) a b, t + 1 < j + 1 → ds[t]? = some a → ds[t + 1]? = some b → idK a ≠ idK b := fun t a b ht h1 h2 => by
  by_cases e : t + 1 < j
  · exact h t a b e h1 h2
  · obtain rfl : t = k := by omega
    rw [← hk] at h2
    rw [ha] at h1
    rw [hb] at h2
    rw [← Option.some.inj h1, ← Option.some.inj h2]
    exact hne
/-- Every key is one. -/
def keysB (es : List Text) : Bool := es.all fun q => keyB q.length
def apartB (es : List Text) : Bool := decide ((es.map idOf).Pairwise (· ≠ ·))
/-- What making a ring answers. -/
def ringAns (es : List Text) : Int := if es.length < 1 ∨ 64 < es.length then 7 else if keysB es = true then (if apartB es = true then 0 else 92) else 160
theorem strict_of : ∀ {l : List KD}, (l.Pairwise fun a b => lex (idK b) (idK a) = false) → (∀ (i : Nat) a b, l[i]? = some a → l[i + 1]? = some b → idK a ≠ idK b) → Strict idK l
  | [], _, _ => List.Pairwise.nil
  | [x], _, _ => List.pairwise_singleton _ _
  | x :: y :: l, hs, hn => by
    have hs' := List.pairwise_cons.1 hs
    have ih : Strict idK (y :: l) := strict_of hs'.2 (fun i a b ha hb => hn (i + 1) a b (by simpa using ha) (by simpa using hb))
    have hxy : lex (idK x) (idK y) = true := by
      cases h : lex (idK x) (idK y) with
      | true => rfl
      | false => exact absurd (lex_total _ _ h (hs'.1 y (by simp))) (hn 0 x y rfl rfl)
    refine List.pairwise_cons.2 ⟨fun z hz => ?_, ih⟩
    rcases List.mem_cons.1 hz with rfl | hz
    · exact hxy
    · exact lex_trans _ _ _ hxy ((List.pairwise_cons.1 ih).1 z hz)
theorem apart_strict {es : List Text} {ds : List KD} (hp : (ds.map (·.q)).Perm es) (hs : Strict idK ds) : apartB es = true := by
  unfold apartB
  rw [decide_eq_true_eq]
  have h1 : (ds.map (·.q)).Pairwise (fun a b => idOf a ≠ idOf b) := by
    rw [List.pairwise_map]
    exact hs.imp fun h => lex_ne h
  rw [List.pairwise_map]
  exact (hp.pairwise_iff (fun {_ _} h => h.symm)).1 h1
theorem apart_no {es : List Text} {ds : List KD} (hp : (ds.map (·.q)).Perm es) {i : Nat} {a b : KD} (ha : ds[i]? = some a) (hb : ds[i + 1]? = some b) (e : idK a = idK b) : apartB es = false := by
  unfold apartB
  rw [decide_eq_false_iff_not]
  intro h
  rw [List.pairwise_map] at h
  have h1 : (ds.map (·.q)).Pairwise (fun a b => idOf a ≠ idOf b) := (hp.pairwise_iff (fun {_ _} h => h.symm)).2 h
  rw [List.pairwise_map] at h1
  obtain ⟨x1, rfl⟩ := List.getElem?_eq_some_iff.1 ha
  obtain ⟨x2, rfl⟩ := List.getElem?_eq_some_iff.1 hb
  exact List.pairwise_iff_getElem.1 h1 i (i + 1) x1 x2 (Nat.lt_succ_self i) e
/-- The ring that is made, and the errno. -/
def NewOut (es : List Text) (w : World) (e : Ending) (w' : World) : Prop := ∃ v k, e = .returned (.tuple #[v, .int .i64 k]) ∧ Below w.heap.size w w' ∧ k = ringAns es ∧ (k ≠ 0 → v = .pointer none) ∧ (k = 0 → ∃ l, v = .pointer (some ⟨w.heap.size, 0, none⟩) ∧ RingOwn w' w.heap.size w.heap.size l ∧ (l.map (·.q)).Perm es ∧ Strict idK l)
theorem new_bad {es : List Text} {w w' : World} {k : Int} (hk : k = ringAns es) (h0 : k ≠ 0) (hb : Below w.heap.size w w') : NewOut es w (.returned (.tuple #[.pointer none, .int .i64 k])) w' := ⟨_, _, rfl, hb, hk, fun _ => rfl, fun h => absurd h h0⟩
def Z33 : Array Value := (List.replicate 32 (Value.int .u8 0) ++ [Value.slice none 0 0]).toArray
theorem info33 : (Tryd.prog.info? 103).map (fun i => (i.zero, i.size, i.bytes)) = some (some (.agg Z33), 33, 56) := by kernel_rfl
theorem info1 : (Tryd.prog.info? 5).map (fun i => (i.zero, i.size, i.bytes)) = some (some (.int .u8 0), 1, 1) := by kernel_rfl
theorem size1 : (Tryd.prog.info? 98).map (·.size) = some 1 := by kernel_rfl
theorem qDN : Tryd.prog.eqGuardType Tryd.prog.depth 23 = false := by kernel_rfl
theorem size32n : (Tryd.prog.info? 23).map (·.size) = some 32 := by kernel_rfl
set_option maxRecDepth 100000 in
set_option maxHeartbeats 8000000 in
theorem newRing_any (es : List Text) (p : Nat) (hp : es.length = p) (hp47 : p < 140737488355328) (Ap : Option Addr) (cp : Nat) (w : World) (hB : Base w) (hP : Pieces w Ap es) (hsh : ∀ q ∈ es, q.length < 140737488355228) :
    Calls Tryd.prog 7 #[.slice Ap p cp] w (NewOut es w) := by
  obtain ⟨i0, ii, iz0, iz1, iz2⟩ := info_partsN info33
  obtain ⟨j0, jj, jz0, jz1, jz2⟩ := info_partsN info1
  have hPs : Hid (∀ w', Below w.heap.size w w' → Pieces w' Ap es) := fun w' hb => hP.below hb
  have hBs : Hid (∀ w', Below w.heap.size w w' → Base w') := fun w' hb => hB.below hb hB.1
  have hP0 := Lib.hid hP
  have hp0 := Lib.hid hp
  have hp7 := Lib.hid hp47
  have hsh0 := Lib.hid hsh
  obtain ⟨k9, hk9⟩ : ∃ k9, Hid (ringAns es = k9) := ⟨_, Lib.hid rfl⟩
  clear hp hp47 hB hP hsh
  by_cases h0 : p = 0
  · subst h0
    have hk7 : Hid (7 = ringAns es) := by show _ = _; unfold ringAns; rw [if_pos (by rw [hp0.out]; omega)]
    go_enter Tryd.func7, Tryd.ntmps7
    go_wp2_with fail
    go_ret2
    exact new_bad hk7.out (by decide) (Below.refl _ _)
  by_cases h64 : 64 < p
  · have hk7 : Hid (7 = ringAns es) := by show _ = _; unfold ringAns; rw [if_pos (by rw [hp0.out]; omega)]
    have x1 : ((p : Int) == 0) = false := by simp; omega
    have x2 : (64 : Int) < (p : Int) := by omega
    clear h0 h64
    go_enter Tryd.func7, Tryd.ntmps7
    go_wp2_with fail
    go_ret2
    exact new_bad hk7.out (by decide) (Below.refl _ _)
  have x1 : ((p : Int) == 0) = false := by simp; omega
  have x2 : ((64 : Int) < (p : Int)) = False := eq_false (by omega)
  have hp1 : Hid (1 ≤ p) := by show _ ≤ _; omega
  have hp64 : Hid (p ≤ 64) := by show _ ≤ _; omega
  obtain ⟨w0, hw0⟩ : ∃ w0, Hid (w.alloc (.cells #[.slice none 0 0] 100) = w0) := ⟨_, Lib.hid rfl⟩
  have D0 : Hid (RW w w0 (.slice none 0 0) 0 []) := by show RW _ _ _ _ _; rw [← hw0.out]; exact ⟨Blk.new _ _ _, OwnK.nil _ _, fun x hx => (by cases hx), Below.heap_below w _⟩
  have hw0' := hw0.out
  clear h0 h64 hw0
  go_enter Tryd.func7, Tryd.ntmps7
  go_wp2_with fail
  clear hw0'
  go_loopw [21] (fun v21 wr => ∃ (i c1 : Nat) (A1 : Option Addr) (l : List KD), v21 = .int .i64 (i : Int) ∧ Hid (i ≤ p) ∧ Hid (l.map (·.q) = es.take i) ∧ Hid (keysB (es.take i) = true) ∧ Hid (RW w wr (.slice A1 i c1) i l)) (fun v _ => p - (intOf v).toNat)
  case atStart => exact ⟨0, 0, none, [], rfl, Nat.zero_le _, rfl, rfl, D0.out⟩
  case round =>
    clear D0
    obtain ⟨i, c1, A1, l, rfl, hip, hl, hks, hD⟩ := hrel
    have hi6 : (i : Int) ≤ 64 := by have := hip.out; have := hp64.out; omega
    have hz0 : (0 : Int) ≤ (i : Int) := by omega
    by_cases hlt : i < p
    · have hz : (i : Int) < (p : Int) := by omega
      have hlt' := Lib.hid hlt
      obtain ⟨q, hq⟩ : ∃ q, Hid (es[i]? = some q) := ⟨_, List.getElem?_eq_getElem (by rw [hp0.out]; exact hlt)⟩
      obtain ⟨b, o, hAp, hbp, hcp⟩ := hP0.out (by rw [hp0.out]; omega)
      obtain ⟨Ak, ck, hck, hkc, -, hkn⟩ := hcp i q hq.out
      subst hAp
      have hql : Hid (q.length < 140737488355228) := hsh0.out q (List.mem_of_getElem? hq.out)
      have hRq : Hid (∀ w', Below w.heap.size w w' → Reads w' 1 Ak q.length (cells8 q)) := fun w' hb => by
        obtain ⟨b2, o2, e2, -, hc2⟩ := hPs.out w' hb (by rw [hp0.out]; omega)
        obtain ⟨Ak2, ck2, hck2, -, hr2, -⟩ := hc2 i q hq.out
        injection e2 with e2
        injection e2 with e2 e3
        subst e2 e3
        have : some (Value.slice Ak q.length ck) = some (Value.slice Ak2 q.length ck2) := by rw [← hck, ← hck2]; exact (hb.cell (p := ⟨b, o + i, none⟩) hbp).symm
        injection this with this
        injection this with this
        rw [this]
        exact hr2
      have hcr := (hD.out.far.cell (p := ⟨b, o + i, none⟩) hbp).trans hck
      obtain ⟨k, hk⟩ : ∃ k, Hid (q.length = k) := ⟨_, Lib.hid rfl⟩
      rw [hk.out] at hql hRq hcr hkc hkn
      have hkc0 := Lib.hid hkc
      have hkn0 := Lib.hid hkn
      have hks2 : Hid (keysB (es.take (i + 1)) = keyB k) := by
        show _ = _
        have h1 := hks.out
        unfold keysB at h1 ⊢
        rw [List.take_add_one, hq.out, List.all_append, h1, Option.toList_some, List.all_cons, List.all_nil, hk.out]
        simp
      clear hlt hcp hck hkc hkn
      cases hkb : keyB k with
      | false =>
        have hk1 : Hid (160 = ringAns es) := by
          show _ = _
          unfold ringAns
          rw [if_neg (by rw [hp0.out]; have := hp1.out; have := hp64.out; omega), if_neg]
          intro h
          unfold keysB at h
          have := List.all_eq_true.1 h q (List.mem_of_getElem? hq.out)
          rw [hk.out, hkb] at this
          cases this
        have hkb' := Lib.hid hkb
        clear hkb
        go_wp2_with (go_at_call 45; refine (isKey_any k Ak ck _).mono ?_; rw [hkb'.out]; rintro e w1 ⟨rfl, rfl⟩)
        go_ret2
        exact new_bad hk1.out (by decide) hD.out.far
      | true =>
        have hkb' := Lib.hid hkb
        rw [hkb] at hks2
        clear hkb
        go_upto_region 9 with (go_at_call 45; refine (isKey_any k Ak ck _).mono ?_; rw [hkb'.out]; rintro e w1 ⟨rfl, rfl⟩)
        clear hcr
        obtain ⟨wr, rfl⟩ : ∃ wr, wr = w1 := ⟨w1, rfl⟩
        obtain ⟨iq, hiq⟩ : ∃ iq, Hid (idOf q = iq) := ⟨_, Lib.hid rfl⟩
        have hil : Hid (iq.length = 32) := by show _ = _; rw [← hiq.out]; exact idOf_len q
        have hId : Hid (∀ w', Below w.heap.size w w' → Calls Tryd.prog 46 #[.slice Ak k ck] w' fun e w'' => e = .returned (.agg (cells8 iq).toArray) ∧ Below w'.heap.size w' w'') := fun w' hb => by
          rw [← hiq.out]
          exact id_any q k hk.out Ak ck w' (hBs.out w' hb) (hRq.out w' hb) hkc0.out (by have := hql.out; omega) hkn0.out
        have m1 : Hid (0 + k ≤ maxLen) := by show _ ≤ _; have := hql.out; unfold maxLen; omega
        have m2 : Hid ((0 + k) * 1 ≤ 140737488355328) := by show _ ≤ _; have := hql.out; omega
        have m3 : Hid (i + 1 ≤ maxLen) := by show _ ≤ _; unfold maxLen; omega
        have m4 : Hid ((i + 1) * 56 ≤ 140737488355328) := by show _ ≤ _; omega
        have hll : Hid (l.length = i) := hD.out.row.1
        have hlq : Hid (∀ A8 c8, (l ++ [(⟨q, A8, c8⟩ : KD)]).map (·.q) = es.take (i + 1)) := fun A8 c8 => by rw [List.map_append, hl.out, List.take_add_one, hq.out]; rfl
        have hO0 := Lib.hid hD.out.row
        have hK0 := Lib.hid hD.out.keys
        have hRg := Lib.hid hD.out.ring
        have hfar := Lib.hid hD.out.far
        have s0 : Hid (Below w.heap.size w wr.drew) := hfar.out.trans ((Below.refl _ wr).drew.mono hfar.out.size)
        have kk1 : Below wr.heap.size wr wr.drew := (Below.refl _ _).drew
        replace hO0 := Lib.hid (hO0.out.below kk1)
        replace hK0 := Lib.hid (fun x hx => (hK0.out x hx).below kk1)
        replace hRg : Hid (Blk _ w.heap.size 100 #[.slice A1 i c1]) := (kk1.block _ hRg.out.lt).trans hRg.out
        clear kk1 hfar hD
        refine held_start (fun w' => Below w.heap.size w w') 15 rfl (by kernel_rfl) ?_
        refine held_take (i := 0) (v := .pointer (some ⟨w.heap.size, 0, none⟩)) rfl (by kernel_rfl) (by kernel_rfl) (by kernel_rfl) (fun _ _ _ h => h) s0.out (by rfl) (fun w' hw' => run_mv (.tmp 4) rfl w') ?_
        (intro K hK; go_simp; refine hK _ ?_; clear hK K)
        refine held_take (i := 1) (v := .pointer (some ⟨w.heap.size, 0, none⟩)) rfl (by kernel_rfl) (by kernel_rfl) (by kernel_rfl) (fun _ _ _ h => h) s0.out (by rfl) (fun w' hw' => run_mv (.tmp 4) rfl w') ?_
        (intro K hK; go_simp; refine hK _ ?_; clear hK K)
        refine held_take (i := 2) (v := .pointer (some ⟨w.heap.size, 0, none⟩)) rfl (by kernel_rfl) (by kernel_rfl) (by kernel_rfl) (fun _ _ _ h => h) s0.out (by rfl) (fun w' hw' => by go_simp) ?_
        (intro K hK; go_simp; refine hK _ ?_; clear hK K)
        refine held_take (i := 3) (v := .pointer (some ⟨w.heap.size, 0, none⟩)) rfl (by kernel_rfl) (by kernel_rfl) (by kernel_rfl) (fun _ _ _ h => h) s0.out (by rfl) (fun w' hw' => by go_simp) ?_
        (intro K hK; go_simp; refine hK _ ?_; clear hK K)
        refine held_take (i := 5) (v := .slice Ak k ck) rfl (by kernel_rfl) (by kernel_rfl) (by kernel_rfl) (fun _ _ _ h => h) s0.out (by rfl) (fun w' hw' => run_mv (.tmp 6) rfl w') ?_
        (intro K hK; go_simp; refine hK _ ?_; clear hK K)
        refine held_take (i := 7) (v := .slice Ak k ck) rfl (by kernel_rfl) (by kernel_rfl) (by kernel_rfl) (fun _ _ _ h => h) s0.out (by rfl) (fun w' hw' => run_mv (.tmp 6) rfl w') ?_
        (intro K hK; go_simp; refine hK _ ?_; clear hK K)
        refine held_two (i := 4) (j := 6) rfl rfl (by kernel_rfl) (by rfl) (by rfl) (fun K hK => ?_) (fun K hK => ?_)
        · have hc : (wr.drew).cell? ⟨w.heap.size, 0, none⟩ = some (.slice A1 i c1) := Blk.cell hRg.out 0
          go_simp
          refine hK _ _ s0.out ?_
          clear hK K
          clear hc
          refine held_only (i := 6) rfl (by kernel_rfl) (by rfl) (fun K hK => ?_)
          refine wp_fn (R := fun v w'' => v = .agg (cells8 iq).toArray ∧ Below (wr.drew).heap.size (wr.drew) w'') (args := #[.slice Ak k ck]) _ _ rfl rfl Tryd.func46 (by kernel_rfl) (by kernel_rfl) ((hId.out (wr.drew) s0.out).mono fun e w'' ⟨he, hb⟩ => ⟨_, he, rfl, hb⟩) ?_
          rintro qq w5 ⟨rfl, kk1⟩
          have h5 : Hid (Below w.heap.size w w5) := s0.out.trans (kk1.mono s0.out.size)
          replace hO0 := Lib.hid (hO0.out.below kk1)
          replace hK0 := Lib.hid (fun x hx => (hK0.out x hx).below kk1)
          replace hRg : Hid (Blk _ w.heap.size 100 #[.slice A1 i c1]) := (kk1.block _ hRg.out.lt).trans hRg.out
          clear kk1
          go_simp
          refine hK _ _ h5.out ?_
          clear hK K
          refine held_only (i := 8) rfl (by kernel_rfl) (by rfl) (fun K hK => ?_)
          refine Append.wp_append_src _ (.const (.slice none 0 0)) (.tmp 35) 31 rfl (w5).heap.size 5 j0 (.int .u8 0) 1 1 Tryd.underlying31 jj jz0 jz1 jz2 rfl (by decide) (.slice none 0 0) 0 [] rfl (World.ownsRow_nil _ _ _ _) Ak k ck (cells8 q) rfl (hRq.out _ h5.out) hkn0.out (cells8_one q) m1.out m2.out (Nat.le_refl _) (fun v8 w6 hG8 => ?_)
          have kk1 : Below (w5).heap.size (w5) w6 := hG8.below (Below.refl _ _) (Nat.le_refl _) (fun k e => by cases e)
          have h6 : Hid (Below w.heap.size w w6) := h5.out.trans (kk1.mono h5.out.size)
          have hO8 := hG8.own
          rw [Nat.zero_add, List.nil_append] at hO8
          obtain ⟨A8, c8, rfl, -⟩ := Own.reads hO8
          have hN : Hid (KeyRow w6 (w.heap.size + 1) ⟨q, A8, c8⟩) := by show World.ownsRow _ _ _ _ (.slice A8 q.length c8) q.length _; rw [hk.out]; exact ownsRow_base hO8 hRg.out.lt
          clear hG8 hO8
          replace hO0 := Lib.hid (hO0.out.below kk1)
          replace hK0 := Lib.hid (fun x hx => (hK0.out x hx).below kk1)
          replace hRg : Hid (Blk _ w.heap.size 100 #[.slice A1 i c1]) := (kk1.block _ hRg.out.lt).trans hRg.out
          clear kk1
          go_simp
          refine hK _ _ h6.out ?_
          clear hK K
          obtain ⟨cx, hcx⟩ : ∃ cx, Hid (encK ⟨q, A8, c8⟩ = cx) := ⟨_, Lib.hid rfl⟩
          have hbh : Hid (∀ w', (Instr.build 103 #[(0, .agg (cells8 iq).toArray), (1, .slice A8 k c8)]).run Tryd.prog w' = .ok (.agg cx.toArray) w') := fun w' => by rw [run_held iq hil.out A8 k c8 w', ← hcx.out, ← hiq.out, ← hk.out]; rfl
          have hcl : Hid (cx.length = 33) := by show _ = _; rw [← hcx.out]; exact encK_len _
          have hc1 : Hid (∀ u ∈ cx, u.oneCell' = true) := by intro u hu; rw [← hcx.out] at hu; exact encK_one _ u hu
          have q1 : Hid (∀ v ∈ [cx], v.length = 33) := fun v hv => by simp only [List.mem_singleton] at hv; rw [hv]; exact hcl.out
          obtain ⟨X1, x1⟩ : ∃ X, Hid (([cx].flatten).toArray = X) := ⟨_, Lib.hid rfl⟩
          refine held_take (i := 9) (v := .agg cx.toArray) rfl (by kernel_rfl) (by kernel_rfl) (by kernel_rfl) (fun _ _ _ h => h) h6.out (by rfl) (fun w' hw' => exec_build 103 _ rfl #[(0, .agg (cells8 iq).toArray), (1, .slice A8 k c8)] (by simp; exact ⟨rfl, rfl⟩) _ (hbh.out w')) ?_
          (intro K hK; go_simp; refine hK _ ?_; clear hK K)
          refine held_only (i := 10) rfl (by kernel_rfl) (by rfl) (fun K hK => ?_)
          refine wp_buildAggs 98 103 1 _ rfl 33 (by decide) [cx] Tryd.underlying98 size33 zero33 rfl (by decide) (by decide) q1.out rfl ?_
          rw [x1.out]
          have hX : Hid (Reads (w6.alloc (.cells X1 103)) 33 (some ⟨w6.heap.size, 0, none⟩) 1 cx) := by show Reads _ _ _ _ _; rw [← x1.out]; exact reads_one w6 hcl.out
          have kk1 : Below w6.heap.size w6 (w6.alloc (.cells X1 103)) := Below.heap_below _ _
          have h10 : Hid (Below w.heap.size w (w6.alloc (.cells X1 103))) := h6.out.trans (kk1.mono h6.out.size)
          replace hO0 := Lib.hid (hO0.out.below kk1)
          replace hK0 := Lib.hid (fun x hx => (hK0.out x hx).below kk1)
          replace hRg : Hid (Blk _ w.heap.size 100 #[.slice A1 i c1]) := (kk1.block _ hRg.out.lt).trans hRg.out
          replace hN := Lib.hid (hN.out.below kk1)
          clear kk1
          go_simp
          refine hK _ _ h10.out ?_
          clear hK K
          refine held_only (i := 11) rfl (by kernel_rfl) (by rfl) (fun K hK => ?_)
          refine Append.wp_append_src _ (.tmp 32) (.tmp 38) 98 rfl (w.heap.size + 1) 103 i0 (.agg Z33) 33 56 Tryd.underlying98 ii iz0 iz1 iz2 rfl (by decide) (.slice A1 i c1) i (l.flatMap encK) rfl hO0.out.2 (some ⟨w6.heap.size, 0, none⟩) 1 1 cx rfl hX.out (fun e => by cases e) hc1.out m3.out m4.out hRg.out.lt (fun v11 w11 hG => ?_)
          have h11' : Below (w.heap.size + 1) (w6.alloc (.cells X1 103)) w11 := hG.below (Below.refl _ _) hRg.out.lt (fun k e => own_atK hO0.out k e)
          have h11 : Hid (Below w.heap.size w w11) := h10.out.trans (h11'.mono (Nat.le_succ _))
          have hR11 : Hid (Blk w11 w.heap.size 100 #[.slice A1 i c1]) := (h11'.block _ (Nat.lt_succ_self _)).trans hRg.out
          have hK11 : Hid (∀ y ∈ l ++ [(⟨q, A8, c8⟩ : KD)], KeyRow w11 (w.heap.size + 1) y) := fun y hy => by
            rcases List.mem_append.1 hy with hy | hy
            · exact keys_grown hO0.out hG (hK0.out y hy)
            · simp only [List.mem_singleton] at hy
              rw [hy]
              exact keys_grown hO0.out hG hN.out
          rw [← hcx.out] at hG
          have hO11 : Hid (OwnK w11 (w.heap.size + 1) v11 (i + 1) (l ++ [(⟨q, A8, c8⟩ : KD)])) := grew_keys hG hll.out
          obtain ⟨A11, c11, rfl, -⟩ := hO11.out.reads
          clear hG hN hO0 hK0 hRg h11'
          go_simp
          refine hK _ _ h11.out ?_
          clear hK K
          refine held_take (i := 12) (v := .pointer (some ⟨w.heap.size, 0, none⟩)) rfl (by kernel_rfl) (by kernel_rfl) (by kernel_rfl) (fun _ _ _ h => h) h11.out (by rfl) (fun w' hw' => by go_simp) ?_
          (intro K hK; go_simp; refine hK _ ?_; clear hK K)
          refine held_take (i := 13) (v := .pointer (some ⟨w.heap.size, 0, none⟩)) rfl (by kernel_rfl) (by kernel_rfl) (by kernel_rfl) (fun _ _ _ h => h) h11.out (by rfl) (fun w' hw' => by go_simp) ?_
          (intro K hK; go_simp; refine hK _ ?_; clear hK K)
          refine held_only (i := 14) rfl (by kernel_rfl) (by rfl) (fun K hK => ?_)
          refine wp_store_oneH 98 (.tmp 41) (.tmp 39) rfl w.heap.size (.slice A11 (i + 1) c11) rfl rfl rfl 100 (.slice A1 i c1) hR11.out size1 (fun w12 hB12 hk12 => ?_)
          have D12 := Lib.hid (RW.push h11.out hO11.out hK11.out hB12 rfl hk12)
          have h12 := Lib.hid D12.out.far
          clear hB12 hk12 hR11
          go_simp
          refine hK _ _ h12.out ?_
          clear hK K
          refine held_end (by kernel_rfl) ?_
          go_wp2_with fail
          go_roundw
          case rel => exact ⟨i + 1, c11, A11, l ++ [KD.mk q A8 c8], by go_num, hlt'.out, hlq.out A8 c8, hks2.out, D12.out⟩
          case measure => (have := hlt'.out; simp [intOf]; omega)
        · refine wp_fn (R := fun v w'' => v = .agg (cells8 iq).toArray ∧ Below (wr.drew).heap.size (wr.drew) w'') (args := #[.slice Ak k ck]) _ _ rfl rfl Tryd.func46 (by kernel_rfl) (by kernel_rfl) ((hId.out (wr.drew) s0.out).mono fun e w'' ⟨he, hb⟩ => ⟨_, he, rfl, hb⟩) ?_
          rintro qq w5 ⟨rfl, kk1⟩
          have h5 : Hid (Below w.heap.size w w5) := s0.out.trans (kk1.mono s0.out.size)
          replace hO0 := Lib.hid (hO0.out.below kk1)
          replace hK0 := Lib.hid (fun x hx => (hK0.out x hx).below kk1)
          replace hRg : Hid (Blk _ w.heap.size 100 #[.slice A1 i c1]) := (kk1.block _ hRg.out.lt).trans hRg.out
          clear kk1
          go_simp
          refine hK _ _ h5.out ?_
          clear hK K
          refine held_two (i := 4) (j := 8) rfl rfl (by kernel_rfl) (by rfl) (by rfl) (fun K hK => ?_) (fun K hK => ?_)
          · have hc : (w5).cell? ⟨w.heap.size, 0, none⟩ = some (.slice A1 i c1) := Blk.cell hRg.out 0
            go_simp
            refine hK _ _ h5.out ?_
            clear hK K
            clear hc
            refine held_only (i := 8) rfl (by kernel_rfl) (by rfl) (fun K hK => ?_)
            refine Append.wp_append_src _ (.const (.slice none 0 0)) (.tmp 35) 31 rfl (w5).heap.size 5 j0 (.int .u8 0) 1 1 Tryd.underlying31 jj jz0 jz1 jz2 rfl (by decide) (.slice none 0 0) 0 [] rfl (World.ownsRow_nil _ _ _ _) Ak k ck (cells8 q) rfl (hRq.out _ h5.out) hkn0.out (cells8_one q) m1.out m2.out (Nat.le_refl _) (fun v8 w6 hG8 => ?_)
            have kk1 : Below (w5).heap.size (w5) w6 := hG8.below (Below.refl _ _) (Nat.le_refl _) (fun k e => by cases e)
            have h6 : Hid (Below w.heap.size w w6) := h5.out.trans (kk1.mono h5.out.size)
            have hO8 := hG8.own
            rw [Nat.zero_add, List.nil_append] at hO8
            obtain ⟨A8, c8, rfl, -⟩ := Own.reads hO8
            have hN : Hid (KeyRow w6 (w.heap.size + 1) ⟨q, A8, c8⟩) := by show World.ownsRow _ _ _ _ (.slice A8 q.length c8) q.length _; rw [hk.out]; exact ownsRow_base hO8 hRg.out.lt
            clear hG8 hO8
            replace hO0 := Lib.hid (hO0.out.below kk1)
            replace hK0 := Lib.hid (fun x hx => (hK0.out x hx).below kk1)
            replace hRg : Hid (Blk _ w.heap.size 100 #[.slice A1 i c1]) := (kk1.block _ hRg.out.lt).trans hRg.out
            clear kk1
            go_simp
            refine hK _ _ h6.out ?_
            clear hK K
            obtain ⟨cx, hcx⟩ : ∃ cx, Hid (encK ⟨q, A8, c8⟩ = cx) := ⟨_, Lib.hid rfl⟩
            have hbh : Hid (∀ w', (Instr.build 103 #[(0, .agg (cells8 iq).toArray), (1, .slice A8 k c8)]).run Tryd.prog w' = .ok (.agg cx.toArray) w') := fun w' => by rw [run_held iq hil.out A8 k c8 w', ← hcx.out, ← hiq.out, ← hk.out]; rfl
            have hcl : Hid (cx.length = 33) := by show _ = _; rw [← hcx.out]; exact encK_len _
            have hc1 : Hid (∀ u ∈ cx, u.oneCell' = true) := by intro u hu; rw [← hcx.out] at hu; exact encK_one _ u hu
            have q1 : Hid (∀ v ∈ [cx], v.length = 33) := fun v hv => by simp only [List.mem_singleton] at hv; rw [hv]; exact hcl.out
            obtain ⟨X1, x1⟩ : ∃ X, Hid (([cx].flatten).toArray = X) := ⟨_, Lib.hid rfl⟩
            refine held_take (i := 9) (v := .agg cx.toArray) rfl (by kernel_rfl) (by kernel_rfl) (by kernel_rfl) (fun _ _ _ h => h) h6.out (by rfl) (fun w' hw' => exec_build 103 _ rfl #[(0, .agg (cells8 iq).toArray), (1, .slice A8 k c8)] (by simp; exact ⟨rfl, rfl⟩) _ (hbh.out w')) ?_
            (intro K hK; go_simp; refine hK _ ?_; clear hK K)
            refine held_only (i := 10) rfl (by kernel_rfl) (by rfl) (fun K hK => ?_)
            refine wp_buildAggs 98 103 1 _ rfl 33 (by decide) [cx] Tryd.underlying98 size33 zero33 rfl (by decide) (by decide) q1.out rfl ?_
            rw [x1.out]
            have hX : Hid (Reads (w6.alloc (.cells X1 103)) 33 (some ⟨w6.heap.size, 0, none⟩) 1 cx) := by show Reads _ _ _ _ _; rw [← x1.out]; exact reads_one w6 hcl.out
            have kk1 : Below w6.heap.size w6 (w6.alloc (.cells X1 103)) := Below.heap_below _ _
            have h10 : Hid (Below w.heap.size w (w6.alloc (.cells X1 103))) := h6.out.trans (kk1.mono h6.out.size)
            replace hO0 := Lib.hid (hO0.out.below kk1)
            replace hK0 := Lib.hid (fun x hx => (hK0.out x hx).below kk1)
            replace hRg : Hid (Blk _ w.heap.size 100 #[.slice A1 i c1]) := (kk1.block _ hRg.out.lt).trans hRg.out
            replace hN := Lib.hid (hN.out.below kk1)
            clear kk1
            go_simp
            refine hK _ _ h10.out ?_
            clear hK K
            refine held_only (i := 11) rfl (by kernel_rfl) (by rfl) (fun K hK => ?_)
            refine Append.wp_append_src _ (.tmp 32) (.tmp 38) 98 rfl (w.heap.size + 1) 103 i0 (.agg Z33) 33 56 Tryd.underlying98 ii iz0 iz1 iz2 rfl (by decide) (.slice A1 i c1) i (l.flatMap encK) rfl hO0.out.2 (some ⟨w6.heap.size, 0, none⟩) 1 1 cx rfl hX.out (fun e => by cases e) hc1.out m3.out m4.out hRg.out.lt (fun v11 w11 hG => ?_)
            have h11' : Below (w.heap.size + 1) (w6.alloc (.cells X1 103)) w11 := hG.below (Below.refl _ _) hRg.out.lt (fun k e => own_atK hO0.out k e)
            have h11 : Hid (Below w.heap.size w w11) := h10.out.trans (h11'.mono (Nat.le_succ _))
            have hR11 : Hid (Blk w11 w.heap.size 100 #[.slice A1 i c1]) := (h11'.block _ (Nat.lt_succ_self _)).trans hRg.out
            have hK11 : Hid (∀ y ∈ l ++ [(⟨q, A8, c8⟩ : KD)], KeyRow w11 (w.heap.size + 1) y) := fun y hy => by
              rcases List.mem_append.1 hy with hy | hy
              · exact keys_grown hO0.out hG (hK0.out y hy)
              · simp only [List.mem_singleton] at hy
                rw [hy]
                exact keys_grown hO0.out hG hN.out
            rw [← hcx.out] at hG
            have hO11 : Hid (OwnK w11 (w.heap.size + 1) v11 (i + 1) (l ++ [(⟨q, A8, c8⟩ : KD)])) := grew_keys hG hll.out
            obtain ⟨A11, c11, rfl, -⟩ := hO11.out.reads
            clear hG hN hO0 hK0 hRg h11'
            go_simp
            refine hK _ _ h11.out ?_
            clear hK K
            refine held_take (i := 12) (v := .pointer (some ⟨w.heap.size, 0, none⟩)) rfl (by kernel_rfl) (by kernel_rfl) (by kernel_rfl) (fun _ _ _ h => h) h11.out (by rfl) (fun w' hw' => by go_simp) ?_
            (intro K hK; go_simp; refine hK _ ?_; clear hK K)
            refine held_take (i := 13) (v := .pointer (some ⟨w.heap.size, 0, none⟩)) rfl (by kernel_rfl) (by kernel_rfl) (by kernel_rfl) (fun _ _ _ h => h) h11.out (by rfl) (fun w' hw' => by go_simp) ?_
            (intro K hK; go_simp; refine hK _ ?_; clear hK K)
            refine held_only (i := 14) rfl (by kernel_rfl) (by rfl) (fun K hK => ?_)
            refine wp_store_oneH 98 (.tmp 41) (.tmp 39) rfl w.heap.size (.slice A11 (i + 1) c11) rfl rfl rfl 100 (.slice A1 i c1) hR11.out size1 (fun w12 hB12 hk12 => ?_)
            have D12 := Lib.hid (RW.push h11.out hO11.out hK11.out hB12 rfl hk12)
            have h12 := Lib.hid D12.out.far
            clear hB12 hk12 hR11
            go_simp
            refine hK _ _ h12.out ?_
            clear hK K
            refine held_end (by kernel_rfl) ?_
            go_wp2_with fail
            go_roundw
            case rel => exact ⟨i + 1, c11, A11, l ++ [KD.mk q A8 c8], by go_num, hlt'.out, hlq.out A8 c8, hks2.out, D12.out⟩
            case measure => (have := hlt'.out; simp [intOf]; omega)
          · refine Append.wp_append_src _ (.const (.slice none 0 0)) (.tmp 35) 31 rfl (w5).heap.size 5 j0 (.int .u8 0) 1 1 Tryd.underlying31 jj jz0 jz1 jz2 rfl (by decide) (.slice none 0 0) 0 [] rfl (World.ownsRow_nil _ _ _ _) Ak k ck (cells8 q) rfl (hRq.out _ h5.out) hkn0.out (cells8_one q) m1.out m2.out (Nat.le_refl _) (fun v8 w6 hG8 => ?_)
            have kk1 : Below (w5).heap.size (w5) w6 := hG8.below (Below.refl _ _) (Nat.le_refl _) (fun k e => by cases e)
            have h6 : Hid (Below w.heap.size w w6) := h5.out.trans (kk1.mono h5.out.size)
            have hO8 := hG8.own
            rw [Nat.zero_add, List.nil_append] at hO8
            obtain ⟨A8, c8, rfl, -⟩ := Own.reads hO8
            have hN : Hid (KeyRow w6 (w.heap.size + 1) ⟨q, A8, c8⟩) := by show World.ownsRow _ _ _ _ (.slice A8 q.length c8) q.length _; rw [hk.out]; exact ownsRow_base hO8 hRg.out.lt
            clear hG8 hO8
            replace hO0 := Lib.hid (hO0.out.below kk1)
            replace hK0 := Lib.hid (fun x hx => (hK0.out x hx).below kk1)
            replace hRg : Hid (Blk _ w.heap.size 100 #[.slice A1 i c1]) := (kk1.block _ hRg.out.lt).trans hRg.out
            clear kk1
            go_simp
            refine hK _ _ h6.out ?_
            clear hK K
            obtain ⟨cx, hcx⟩ : ∃ cx, Hid (encK ⟨q, A8, c8⟩ = cx) := ⟨_, Lib.hid rfl⟩
            have hbh : Hid (∀ w', (Instr.build 103 #[(0, .agg (cells8 iq).toArray), (1, .slice A8 k c8)]).run Tryd.prog w' = .ok (.agg cx.toArray) w') := fun w' => by rw [run_held iq hil.out A8 k c8 w', ← hcx.out, ← hiq.out, ← hk.out]; rfl
            have hcl : Hid (cx.length = 33) := by show _ = _; rw [← hcx.out]; exact encK_len _
            have hc1 : Hid (∀ u ∈ cx, u.oneCell' = true) := by intro u hu; rw [← hcx.out] at hu; exact encK_one _ u hu
            have q1 : Hid (∀ v ∈ [cx], v.length = 33) := fun v hv => by simp only [List.mem_singleton] at hv; rw [hv]; exact hcl.out
            obtain ⟨X1, x1⟩ : ∃ X, Hid (([cx].flatten).toArray = X) := ⟨_, Lib.hid rfl⟩
            refine held_take (i := 9) (v := .agg cx.toArray) rfl (by kernel_rfl) (by kernel_rfl) (by kernel_rfl) (fun _ _ _ h => h) h6.out (by rfl) (fun w' hw' => exec_build 103 _ rfl #[(0, .agg (cells8 iq).toArray), (1, .slice A8 k c8)] (by simp; exact ⟨rfl, rfl⟩) _ (hbh.out w')) ?_
            (intro K hK; go_simp; refine hK _ ?_; clear hK K)
            refine held_two (i := 4) (j := 10) rfl rfl (by kernel_rfl) (by rfl) (by rfl) (fun K hK => ?_) (fun K hK => ?_)
            · have hc : (w6).cell? ⟨w.heap.size, 0, none⟩ = some (.slice A1 i c1) := Blk.cell hRg.out 0
              go_simp
              refine hK _ _ h6.out ?_
              clear hK K
              clear hc
              refine held_only (i := 10) rfl (by kernel_rfl) (by rfl) (fun K hK => ?_)
              refine wp_buildAggs 98 103 1 _ rfl 33 (by decide) [cx] Tryd.underlying98 size33 zero33 rfl (by decide) (by decide) q1.out rfl ?_
              rw [x1.out]
              have hX : Hid (Reads (w6.alloc (.cells X1 103)) 33 (some ⟨w6.heap.size, 0, none⟩) 1 cx) := by show Reads _ _ _ _ _; rw [← x1.out]; exact reads_one w6 hcl.out
              have kk1 : Below w6.heap.size w6 (w6.alloc (.cells X1 103)) := Below.heap_below _ _
              have h10 : Hid (Below w.heap.size w (w6.alloc (.cells X1 103))) := h6.out.trans (kk1.mono h6.out.size)
              replace hO0 := Lib.hid (hO0.out.below kk1)
              replace hK0 := Lib.hid (fun x hx => (hK0.out x hx).below kk1)
              replace hRg : Hid (Blk _ w.heap.size 100 #[.slice A1 i c1]) := (kk1.block _ hRg.out.lt).trans hRg.out
              replace hN := Lib.hid (hN.out.below kk1)
              clear kk1
              go_simp
              refine hK _ _ h10.out ?_
              clear hK K
              refine held_only (i := 11) rfl (by kernel_rfl) (by rfl) (fun K hK => ?_)
              refine Append.wp_append_src _ (.tmp 32) (.tmp 38) 98 rfl (w.heap.size + 1) 103 i0 (.agg Z33) 33 56 Tryd.underlying98 ii iz0 iz1 iz2 rfl (by decide) (.slice A1 i c1) i (l.flatMap encK) rfl hO0.out.2 (some ⟨w6.heap.size, 0, none⟩) 1 1 cx rfl hX.out (fun e => by cases e) hc1.out m3.out m4.out hRg.out.lt (fun v11 w11 hG => ?_)
              have h11' : Below (w.heap.size + 1) (w6.alloc (.cells X1 103)) w11 := hG.below (Below.refl _ _) hRg.out.lt (fun k e => own_atK hO0.out k e)
              have h11 : Hid (Below w.heap.size w w11) := h10.out.trans (h11'.mono (Nat.le_succ _))
              have hR11 : Hid (Blk w11 w.heap.size 100 #[.slice A1 i c1]) := (h11'.block _ (Nat.lt_succ_self _)).trans hRg.out
              have hK11 : Hid (∀ y ∈ l ++ [(⟨q, A8, c8⟩ : KD)], KeyRow w11 (w.heap.size + 1) y) := fun y hy => by
                rcases List.mem_append.1 hy with hy | hy
                · exact keys_grown hO0.out hG (hK0.out y hy)
                · simp only [List.mem_singleton] at hy
                  rw [hy]
                  exact keys_grown hO0.out hG hN.out
              rw [← hcx.out] at hG
              have hO11 : Hid (OwnK w11 (w.heap.size + 1) v11 (i + 1) (l ++ [(⟨q, A8, c8⟩ : KD)])) := grew_keys hG hll.out
              obtain ⟨A11, c11, rfl, -⟩ := hO11.out.reads
              clear hG hN hO0 hK0 hRg h11'
              go_simp
              refine hK _ _ h11.out ?_
              clear hK K
              refine held_take (i := 12) (v := .pointer (some ⟨w.heap.size, 0, none⟩)) rfl (by kernel_rfl) (by kernel_rfl) (by kernel_rfl) (fun _ _ _ h => h) h11.out (by rfl) (fun w' hw' => by go_simp) ?_
              (intro K hK; go_simp; refine hK _ ?_; clear hK K)
              refine held_take (i := 13) (v := .pointer (some ⟨w.heap.size, 0, none⟩)) rfl (by kernel_rfl) (by kernel_rfl) (by kernel_rfl) (fun _ _ _ h => h) h11.out (by rfl) (fun w' hw' => by go_simp) ?_
              (intro K hK; go_simp; refine hK _ ?_; clear hK K)
              refine held_only (i := 14) rfl (by kernel_rfl) (by rfl) (fun K hK => ?_)
              refine wp_store_oneH 98 (.tmp 41) (.tmp 39) rfl w.heap.size (.slice A11 (i + 1) c11) rfl rfl rfl 100 (.slice A1 i c1) hR11.out size1 (fun w12 hB12 hk12 => ?_)
              have D12 := Lib.hid (RW.push h11.out hO11.out hK11.out hB12 rfl hk12)
              have h12 := Lib.hid D12.out.far
              clear hB12 hk12 hR11
              go_simp
              refine hK _ _ h12.out ?_
              clear hK K
              refine held_end (by kernel_rfl) ?_
              go_wp2_with fail
              go_roundw
              case rel => exact ⟨i + 1, c11, A11, l ++ [KD.mk q A8 c8], by go_num, hlt'.out, hlq.out A8 c8, hks2.out, D12.out⟩
              case measure => (have := hlt'.out; simp [intOf]; omega)
            · refine wp_buildAggs 98 103 1 _ rfl 33 (by decide) [cx] Tryd.underlying98 size33 zero33 rfl (by decide) (by decide) q1.out rfl ?_
              rw [x1.out]
              have hX : Hid (Reads (w6.alloc (.cells X1 103)) 33 (some ⟨w6.heap.size, 0, none⟩) 1 cx) := by show Reads _ _ _ _ _; rw [← x1.out]; exact reads_one w6 hcl.out
              have kk1 : Below w6.heap.size w6 (w6.alloc (.cells X1 103)) := Below.heap_below _ _
              have h10 : Hid (Below w.heap.size w (w6.alloc (.cells X1 103))) := h6.out.trans (kk1.mono h6.out.size)
              replace hO0 := Lib.hid (hO0.out.below kk1)
              replace hK0 := Lib.hid (fun x hx => (hK0.out x hx).below kk1)
              replace hRg : Hid (Blk _ w.heap.size 100 #[.slice A1 i c1]) := (kk1.block _ hRg.out.lt).trans hRg.out
              replace hN := Lib.hid (hN.out.below kk1)
              clear kk1
              go_simp
              refine hK _ _ h10.out ?_
              clear hK K
              refine held_only (i := 4) rfl (by kernel_rfl) (by rfl) (fun K hK => ?_)
              have hc : ((w6.alloc (.cells X1 103))).cell? ⟨w.heap.size, 0, none⟩ = some (.slice A1 i c1) := Blk.cell hRg.out 0
              go_simp
              refine hK _ _ h10.out ?_
              clear hK K
              clear hc
              refine held_only (i := 11) rfl (by kernel_rfl) (by rfl) (fun K hK => ?_)
              refine Append.wp_append_src _ (.tmp 32) (.tmp 38) 98 rfl (w.heap.size + 1) 103 i0 (.agg Z33) 33 56 Tryd.underlying98 ii iz0 iz1 iz2 rfl (by decide) (.slice A1 i c1) i (l.flatMap encK) rfl hO0.out.2 (some ⟨w6.heap.size, 0, none⟩) 1 1 cx rfl hX.out (fun e => by cases e) hc1.out m3.out m4.out hRg.out.lt (fun v11 w11 hG => ?_)
              have h11' : Below (w.heap.size + 1) (w6.alloc (.cells X1 103)) w11 := hG.below (Below.refl _ _) hRg.out.lt (fun k e => own_atK hO0.out k e)
              have h11 : Hid (Below w.heap.size w w11) := h10.out.trans (h11'.mono (Nat.le_succ _))
              have hR11 : Hid (Blk w11 w.heap.size 100 #[.slice A1 i c1]) := (h11'.block _ (Nat.lt_succ_self _)).trans hRg.out
              have hK11 : Hid (∀ y ∈ l ++ [(⟨q, A8, c8⟩ : KD)], KeyRow w11 (w.heap.size + 1) y) := fun y hy => by
                rcases List.mem_append.1 hy with hy | hy
                · exact keys_grown hO0.out hG (hK0.out y hy)
                · simp only [List.mem_singleton] at hy
                  rw [hy]
                  exact keys_grown hO0.out hG hN.out
              rw [← hcx.out] at hG
              have hO11 : Hid (OwnK w11 (w.heap.size + 1) v11 (i + 1) (l ++ [(⟨q, A8, c8⟩ : KD)])) := grew_keys hG hll.out
              obtain ⟨A11, c11, rfl, -⟩ := hO11.out.reads
              clear hG hN hO0 hK0 hRg h11'
              go_simp
              refine hK _ _ h11.out ?_
              clear hK K
              refine held_take (i := 12) (v := .pointer (some ⟨w.heap.size, 0, none⟩)) rfl (by kernel_rfl) (by kernel_rfl) (by kernel_rfl) (fun _ _ _ h => h) h11.out (by rfl) (fun w' hw' => by go_simp) ?_
              (intro K hK; go_simp; refine hK _ ?_; clear hK K)
              refine held_take (i := 13) (v := .pointer (some ⟨w.heap.size, 0, none⟩)) rfl (by kernel_rfl) (by kernel_rfl) (by kernel_rfl) (fun _ _ _ h => h) h11.out (by rfl) (fun w' hw' => by go_simp) ?_
              (intro K hK; go_simp; refine hK _ ?_; clear hK K)
              refine held_only (i := 14) rfl (by kernel_rfl) (by rfl) (fun K hK => ?_)
              refine wp_store_oneH 98 (.tmp 41) (.tmp 39) rfl w.heap.size (.slice A11 (i + 1) c11) rfl rfl rfl 100 (.slice A1 i c1) hR11.out size1 (fun w12 hB12 hk12 => ?_)
              have D12 := Lib.hid (RW.push h11.out hO11.out hK11.out hB12 rfl hk12)
              have h12 := Lib.hid D12.out.far
              clear hB12 hk12 hR11
              go_simp
              refine hK _ _ h12.out ?_
              clear hK K
              refine held_end (by kernel_rfl) ?_
              go_wp2_with fail
              go_roundw
              case rel => exact ⟨i + 1, c11, A11, l ++ [KD.mk q A8 c8], by go_num, hlt'.out, hlq.out A8 c8, hks2.out, D12.out⟩
              case measure => (have := hlt'.out; simp [intOf]; omega)
    · have hz : ¬ ((i : Int) < (p : Int)) := by omega
      have hin : i = p := by have := hip.out; omega
      subst hin
      clear hlt
      rw [List.take_of_length_le (by rw [hp0.out]; exact Nat.le_refl _)] at hl hks
      have hD0 := hD
      obtain ⟨g, hg⟩ := own_someK hD.out.row hp1.out
      subst hg
      have hR0 : wr.cell? ⟨w.heap.size, 0, none⟩ = some (.slice (some ⟨g, 0, none⟩) i c1) := hD.out.ring.cell 0
      go_upto_region 13 with (go_at_call 49; refine (sort_ownK l i (w.heap.size + 1) g c1 (by have := hp64.out; omega) wr hD.out.row).mono ?_; rintro e w5 ⟨rfl, ds, hds, hO5, hk5⟩; have D5 := Lib.hid (hD.out.sorted hds.out.1 hO5.out hk5.out); clear hO5 hk5 hD0 hD hR0)
      have hpe : Hid ((ds.map (·.q)).Perm es) := by show List.Perm _ _; rw [← hl.out]; exact hds.out.1.map _
      have hdl : Hid (ds.length = i) := D5.out.row.1
      have hKd : Hid (Kds w5 (some ⟨g, 0, none⟩) i ds) := by obtain ⟨A2, c2, e, -, -, -, h3, -⟩ := D5.out.row.reads; injection e with e1; subst e1; exact h3
      clear hl
      go_wp2_with fail
      go_loopw [8] (fun v wx => ∃ j : Nat, v = .int .i64 (j : Int) ∧ Hid (1 ≤ j) ∧ Hid (j ≤ i) ∧ Hid (∀ (t : Nat) a b, t + 1 < j → ds[t]? = some a → ds[t + 1]? = some b → idK a ≠ idK b) ∧ Hid (Below w5.heap.size w5 wx)) (fun v _ => i - (intOf v).toNat)
      case atStart => exact ⟨1, rfl, Nat.le_refl _, hp1.out, (fun t a b ht => by omega), Below.refl _ _⟩
      case round =>
        obtain ⟨j, rfl, hj1, hji, hne, hbx⟩ := hrel
        obtain ⟨wx, rfl⟩ : ∃ wx, wx = wr := ⟨_, rfl⟩
        have hj6 : (j : Int) ≤ 64 := by have := hji.out; have := hp64.out; omega
        have hj0 : (0 : Int) ≤ (j : Int) := by omega
        have Dx := Lib.hid (D5.out.below hbx.out)
        have hRx : wx.cell? ⟨w.heap.size, 0, none⟩ = some (.slice (some ⟨g, 0, none⟩) i c1) := Dx.out.ring.cell 0
        by_cases hjl : j < i
        · have hy : (j : Int) < (i : Int) := by omega
          have hjl' := Lib.hid hjl
          obtain ⟨k, hk⟩ : ∃ k, Hid (j = k + 1) := ⟨j - 1, by show _ = _; have := hj1.out; omega⟩
          have z1 : IntKind.i64.wrap ((j : Int) - 1) = (k : Int) := by rw [IntWalk.i64_in _ (by omega)]; have := hk.out; omega
          have z2 : (k : Int) < (i : Int) := by have := hk.out; omega
          have z3 : (0 : Int) ≤ (k : Int) := by omega
          have z4 : IntKind.i64.wrap (k : Int) = (k : Int) := IntWalk.i64_in _ (by have := hk.out; omega)
          obtain ⟨xa, hxa⟩ : ∃ x, Hid (ds[k]? = some x) := ⟨_, List.getElem?_eq_getElem (by rw [hdl.out]; have := hk.out; omega)⟩
          obtain ⟨xb, hxb⟩ : ∃ x, Hid (ds[j]? = some x) := ⟨_, List.getElem?_eq_getElem (by rw [hdl.out]; exact hjl)⟩
          obtain ⟨ta, hta⟩ : ∃ ta, Hid (idK xa = ta) := ⟨_, Lib.hid rfl⟩
          obtain ⟨tb, htb⟩ : ∃ tb, Hid (idK xb = tb) := ⟨_, Lib.hid rfl⟩
          have hla : Hid (ta.length = 32) := by show _ = _; rw [← hta.out]; exact idK_len _
          have hlb : Hid (tb.length = 32) := by show _ = _; rw [← htb.out]; exact idK_len _
          have hfa : Hid (∀ w', Below wx.heap.size wx w' → ∀ (m : Nat) (u : Value), (cells8 ta)[m]? = some u → w'.cell? ⟨g, k * 33 + m, none⟩ = some u) := fun w' hb' m u hu => by
            obtain ⟨b2, o2, e2, -, hc2⟩ := (hKd.out.below (hbx.out.trans (hb'.mono hbx.out.size))).at_ hxa.out
            injection e2 with e2
            injection e2 with e2 e3
            subst e2 e3
            have := hc2 m u (encK_id (by rw [hta.out]; exact hu))
            rwa [Nat.zero_add] at this
          have hfb : Hid (∀ w', Below wx.heap.size wx w' → ∀ (m : Nat) (u : Value), (cells8 tb)[m]? = some u → w'.cell? ⟨g, j * 33 + m, none⟩ = some u) := fun w' hb' m u hu => by
            obtain ⟨b2, o2, e2, -, hc2⟩ := (hKd.out.below (hbx.out.trans (hb'.mono hbx.out.size))).at_ hxb.out
            injection e2 with e2
            injection e2 with e2 e3
            subst e2 e3
            have := hc2 m u (encK_id (by rw [htb.out]; exact hu))
            rwa [Nat.zero_add] at this
          have sA : Hid ((Tryd.prog.info? 23).map (·.size) = some (cells8 ta).length) := by show _ = _; rw [cells8_len, hla.out]; exact size32n
          have sB : Hid ((Tryd.prog.info? 23).map (·.size) = some (cells8 tb).length) := by show _ = _; rw [cells8_len, hlb.out]; exact size32n
          obtain ⟨eb, heb⟩ : ∃ eb, Hid (decide (ta = tb) = eb) := ⟨_, Lib.hid rfl⟩
          have hcE : Hid (∀ w', (binOp .eql 23 (.agg (cells8 ta).toArray) (.agg (cells8 tb).toArray)).run Tryd.prog w' = .ok (.bool eb) w') := fun w' => by rw [eql_dig _ _ hla.out hlb.out, heb.out]
          clear hjl
          go_upto_region 16 with fail
          clear hRx
          refine q_region (Class wx) (by kernel_rfl) (by kernel_rfl) (Class.mk_ ((Below.refl _ _).drew)) ?_
          refine q_move rfl (.tmp 4) rfl ?_
          (intro K hK; go_simp; refine hK _ ?_; clear hK K)
          refine q_val (v := .pointer (some ⟨w.heap.size, 0, none⟩)) rfl (fun w' hw' => by go_simp) ?_
          (intro K hK; go_simp; refine hK _ ?_; clear hK K)
          refine q_val (v := .pointer (some ⟨w.heap.size, 0, none⟩)) rfl (fun w' hw' => by go_simp) ?_
          (intro K hK; go_simp; refine hK _ ?_; clear hK K)
          refine q_val (v := .slice (some ⟨g, 0, none⟩) i c1) rfl (fun w' hw' => by have hc : w'.cell? ⟨w.heap.size, 0, none⟩ = some (.slice (some ⟨g, 0, none⟩) i c1) := (Dx.out.below hw'.below).ring.cell 0; go_simp) ?_
          (intro K hK; go_simp; refine hK _ ?_; clear hK K)
          refine q_move rfl (.tmp 8) rfl ?_
          (intro K hK; go_simp; refine hK _ ?_; clear hK K)
          refine q_val (v := .int .i64 (k : Int)) rfl (fun w' hw' => by go_simp) ?_
          (intro K hK; go_simp; refine hK _ ?_; clear hK K)
          refine q_val (v := .pointer (some ⟨g, k * 33, none⟩)) rfl (fun w' hw' => by go_simp) ?_
          (intro K hK; go_simp; refine hK _ ?_; clear hK K)
          refine q_val (v := .pointer (some ⟨g, k * 33, none⟩)) rfl (fun w' hw' => by go_simp) ?_
          (intro K hK; go_simp; refine hK _ ?_; clear hK K)
          refine q_part rfl 23 (.tmp 65) rfl g ((k * 33)) rfl (cells8 ta) _ (fun w' hw' => hfa.out w' hw'.below) Tryd.underlying23 rfl sA.out ?_
          (intro K hK; go_simp; refine hK _ ?_; clear hK K)
          refine q_move rfl (.tmp 4) rfl ?_
          (intro K hK; go_simp; refine hK _ ?_; clear hK K)
          refine q_val (v := .pointer (some ⟨w.heap.size, 0, none⟩)) rfl (fun w' hw' => by go_simp) ?_
          (intro K hK; go_simp; refine hK _ ?_; clear hK K)
          refine q_val (v := .pointer (some ⟨w.heap.size, 0, none⟩)) rfl (fun w' hw' => by go_simp) ?_
          (intro K hK; go_simp; refine hK _ ?_; clear hK K)
          refine q_val (v := .slice (some ⟨g, 0, none⟩) i c1) rfl (fun w' hw' => by have hc : w'.cell? ⟨w.heap.size, 0, none⟩ = some (.slice (some ⟨g, 0, none⟩) i c1) := (Dx.out.below hw'.below).ring.cell 0; go_simp) ?_
          (intro K hK; go_simp; refine hK _ ?_; clear hK K)
          refine q_move rfl (.tmp 8) rfl ?_
          (intro K hK; go_simp; refine hK _ ?_; clear hK K)
          refine q_val (v := .pointer (some ⟨g, j * 33, none⟩)) rfl (fun w' hw' => by go_simp) ?_
          (intro K hK; go_simp; refine hK _ ?_; clear hK K)
          refine q_val (v := .pointer (some ⟨g, j * 33, none⟩)) rfl (fun w' hw' => by go_simp) ?_
          (intro K hK; go_simp; refine hK _ ?_; clear hK K)
          refine q_part rfl 23 (.tmp 73) rfl g ((j * 33)) rfl (cells8 tb) _ (fun w' hw' => hfb.out w' hw'.below) Tryd.underlying23 rfl sB.out ?_
          (intro K hK; go_simp; refine hK _ ?_; clear hK K)
          refine q_val (v := .bool eb) rfl (fun w' hw' => run_cmp rfl rfl rfl qDN (hcE.out w')) ?_
          (intro K hK; go_simp; refine hK _ ?_; clear hK K)
          refine q_nil ?_
          intro w7 hw7
          have D7 := Lib.hid (Dx.out.below hw7.below)
          have hb7 : Hid (Below w5.heap.size w5 w7) := hbx.out.trans (hw7.below.mono hbx.out.size)
          clear hw7
          cases eb with
          | true =>
            have h92 : Hid (92 = ringAns es) := by
              show _ = _
              unfold ringAns
              rw [if_neg (by rw [hp0.out]; have := hp1.out; have := hp64.out; omega), if_pos hks.out, if_neg]
              rw [apart_no hpe.out hxa.out (by rw [← hk.out]; exact hxb.out) (by rw [hta.out, htb.out]; exact of_decide_eq_true heb.out)]
              simp
            go_wp2_with fail
            go_ret2
            exact new_bad h92.out (by decide) D7.out.far
          | false =>
            have hn2 := Lib.hid (step_ne hk.out hxa.out hxb.out (by rw [hta.out, htb.out]; exact of_decide_eq_false heb.out) hne.out)
            go_wp2_with fail
            go_roundw
            case rel => exact ⟨j + 1, by go_num, Nat.le_add_left _ _, hjl'.out, hn2.out, hb7.out⟩
            case measure => (have := hjl'.out; simp [intOf]; omega)
        · have hy : ¬ ((j : Int) < (i : Int)) := by omega
          have hst : Hid (Strict idK ds) := strict_of hds.out.2 (fun t a b h1 h2 => hne.out t a b (by have := (List.getElem?_eq_some_iff.1 h2).1; have := hdl.out; omega) h1 h2)
          have h0 : Hid (0 = ringAns es) := by
            show _ = _
            unfold ringAns
            rw [if_neg (by rw [hp0.out]; have := hp1.out; have := hp64.out; omega), if_pos hks.out, if_pos (apart_strict hpe.out hst.out)]
          clear hjl
          go_wp2_with fail
          go_ret2
          exact ⟨_, _, rfl, Dx.out.far, h0.out, fun h => absurd rfl h, fun _ => ⟨ds, rfl, Dx.out.ringOwn, hpe.out, hst.out⟩⟩
end Go.Proofs.YtgldkfaiofkhbaaDoor.NewRing

namespace Go.Proofs.YtgldkfaiofkhbaaDoor.RefRising
open Go Go.RowKit Go.Proofs.YtgldkfaiofkhbaaDoor Go.Proofs.YtgldkfaiofkhbaaDoor.Mem Go.Proofs.YtgldkfaiofkhbaaDoor.Sha Go.Proofs.YtgldkfaiofkhbaaDoor.Bytes Go.Proofs.YtgldkfaiofkhbaaDoor.SortP Go.Proofs.YtgldkfaiofkhbaaDoor.NoteP Go.Proofs.YtgldkfaiofkhbaaDoor.Grown Go.Proofs.YtgldkfaiofkhbaaDoor.Want Go.Proofs.YtgldkfaiofkhbaaDoor.Rise Go.Proofs.YtgldkfaiofkhbaaDoor.Append Go.Proofs.YtgldkfaiofkhbaaDoor.Own Go.Proofs.YtgldkfaiofkhbaaDoor.SgM Go.Proofs.YtgldkfaiofkhbaaDoor.Held Go.Proofs.YtgldkfaiofkhbaaDoor.RefLess Go.Proofs.YtgldkfaiofkhbaaDoor.DigEq Go.Proofs.YtgldkfaiofkhbaaDoor.EncNoteP

/-- What Rising leaves: the row, or nothing. -/
def RisPost (B : Nat) (w' : World) (v : Value) (n : Nat) : Option (List Text) → Prop
  | none => v = .slice none 0 0
  | some rs => OwnS w' B v n rs
theorem RisPost.below {B : Nat} {w w' : World} {v : Value} {n : Nat} {o : Option (List Text)} (h : RisPost B w v n o) (hb : Below w.heap.size w w') : RisPost B w' v n o := by
  cases o with
  | none => exact h
  | some rs => exact OwnS.below h hb
end Go.Proofs.YtgldkfaiofkhbaaDoor.RefRising

namespace Go.Proofs.YtgldkfaiofkhbaaDoor.RefNote
open Go Go.RowKit Go.Proofs.YtgldkfaiofkhbaaDoor Go.Proofs.YtgldkfaiofkhbaaDoor.Mem Go.Proofs.YtgldkfaiofkhbaaDoor.Sha Go.Proofs.YtgldkfaiofkhbaaDoor.Bytes Go.Proofs.YtgldkfaiofkhbaaDoor.SortP Go.Proofs.YtgldkfaiofkhbaaDoor.NoteP Go.Proofs.YtgldkfaiofkhbaaDoor.Rise Go.Proofs.YtgldkfaiofkhbaaDoor.Append Go.Proofs.YtgldkfaiofkhbaaDoor.Own Go.Proofs.YtgldkfaiofkhbaaDoor.SgM Go.Proofs.YtgldkfaiofkhbaaDoor.EncNoteP Go.Proofs.YtgldkfaiofkhbaaDoor.EncNote Go.Proofs.YtgldkfaiofkhbaaDoor.RefRising Go.Proofs.YtgldkfaiofkhbaaDoor.HeadMem

/-- What laying a note down leaves: the bytes, or nothing. -/
def NotePost (B : Nat) (w' : World) (v : Value) : Option Text → Prop
  | none => v = .slice none 0 0
  | some b => w'.ownsRow B 5 1 v b.length (cells8 b)
theorem rising_len {ss rs : List Text} (h : rising kyS ss = some rs) : rs.length = ss.length := (rising_some h).2.length_eq
theorem rising_sns {ss rs : List Text} (h : rising kyS ss = some rs) (hs : Sns ss) : Sns rs := fun t ht => hs t ((rising_some h).2.mem_iff.1 ht)
theorem note_cases (h : HeadD) (ss : List Text) (n : Nat) (hn : ss.length = n) :
    (rightB h = false ∧ noteAns h ss = (none, 1)) ∨ (rightB h = true ∧ n = 0 ∧ noteAns h ss = (none, 7)) ∨ (rightB h = true ∧ 16 < n ∧ noteAns h ss = (none, 7)) ∨ (rightB h = true ∧ 0 < n ∧ n ≤ 16 ∧ rising kyS ss = none ∧ noteAns h ss = (none, 92)) ∨
      (rightB h = true ∧ 0 < n ∧ n ≤ 16 ∧ ∃ rs, rising kyS ss = some rs ∧ noteAns h ss = (some (noteB h rs), 0)) := by
  unfold noteAns
  cases hr : rightB h with
  | false => exact .inl ⟨rfl, by simp⟩
  | true =>
    rw [if_neg (by simp), hn]
    by_cases h0 : n = 0
    · exact .inr (.inl ⟨rfl, h0, by rw [if_pos (.inl h0)]⟩)
    · by_cases h16 : 16 < n
      · exact .inr (.inr (.inl ⟨rfl, h16, by rw [if_pos (.inr h16)]⟩))
      · rw [if_neg (by omega)]
        cases hq : rising kyS ss with
        | none => exact .inr (.inr (.inr (.inl ⟨rfl, by omega, by omega, rfl, rfl⟩)))
        | some rs => exact .inr (.inr (.inr (.inr ⟨rfl, by omega, by omega, rs, rfl, rfl⟩)))
theorem encnote_any (h : HeadD) (ok : h.Ok) (ss : List Text) (n : Nat) (A : Option Addr) (c : Nat) (w : World) (hS : Sgs w A n ss) :
    Calls Tryd.prog 100 #[.agg (noteCells h (.slice A n c)).toArray] w fun e w' => ∃ v, e = .returned (.tuple #[v, .int .i64 (noteAns h ss).2]) ∧ Below w.heap.size w w' ∧ NotePost w.heap.size w' v (noteAns h ss).1 := by
  rcases note_cases h ss n hS.len with ⟨h1, e⟩ | ⟨h1, h2, e⟩ | ⟨h1, h2, e⟩ | ⟨h1, h2, h3, h4, e⟩ | ⟨h1, h2, h3, rs, h4, e⟩
  · rw [e]
    exact (enc_wrong h ok ss n h1 A c w hS).mono fun e w' ⟨he, hb⟩ => ⟨_, he, hb, rfl⟩
  · rw [e]
    exact (enc_none h ok ss n h1 h2 A c w hS).mono fun e w' ⟨he, hb⟩ => ⟨_, he, hb, rfl⟩
  · rw [e]
    exact (enc_many h ok ss n h1 h2 A c w hS).mono fun e w' ⟨he, hb⟩ => ⟨_, he, hb, rfl⟩
  · rw [e]
    exact (enc_twice h ok ss n h1 h2 h3 h4 A c w hS).mono fun e w' ⟨he, hb⟩ => ⟨_, he, hb, rfl⟩
  · rw [e]
    have hl : (noteB h rs).length = 115 + 64 * n := by rw [noteB_len ok (rising_sns h4 hS.all), rising_len h4, hS.len]
    exact (enc_yes h ok ss n h1 h2 h3 rs h4 A c w hS).mono fun e w' ⟨v, he, hb, ho⟩ => ⟨v, he, hb, by show World.ownsRow _ _ _ _ _ _ _; rw [hl]; exact ho⟩
end Go.Proofs.YtgldkfaiofkhbaaDoor.RefNote

namespace Go.Proofs.YtgldkfaiofkhbaaDoor.VerP
open Go Go.RowKit Go.Proofs.YtgldkfaiofkhbaaDoor Go.Proofs.YtgldkfaiofkhbaaDoor.Mem Go.Proofs.YtgldkfaiofkhbaaDoor.Sha Go.Proofs.YtgldkfaiofkhbaaDoor.Bytes Go.Proofs.YtgldkfaiofkhbaaDoor.SortP Go.Proofs.YtgldkfaiofkhbaaDoor.NoteP Go.Proofs.YtgldkfaiofkhbaaDoor.Append Go.Proofs.YtgldkfaiofkhbaaDoor.Own Go.Proofs.YtgldkfaiofkhbaaDoor.HeadMem Go.Proofs.YtgldkfaiofkhbaaDoor.HeadID Go.Proofs.YtgldkfaiofkhbaaDoor.RefNote Go.Proofs.YtgldkfaiofkhbaaDoor.Check Go.Proofs.YtgldkfaiofkhbaaDoor.RingM Go.Proofs.YtgldkfaiofkhbaaDoor.BinH Go.Proofs.YtgldkfaiofkhbaaDoor.RingS Go.Proofs.YtgldkfaiofkhbaaDoor.NewRing Go.Proofs.YtgldkfaiofkhbaaDoor.Find

def pick (keys : List Text) (d : Text) : Option Text := keys.find? (fun q => decide (idOf q = d))
/-- The ids of those among the signs whose keys the ring holds; none: one of them is not that key's. -/
def verF (keys : List Text) (h : HeadD) : List Text → Option (List Text)
  | [] => some []
  | s :: rs => match pick keys (kyS s) with
    | none => verF keys h rs
    | some q => if checkAns h s q = 0 then (verF keys h rs).map (kyS s :: ·) else none
def verEnd (o : Option (List Text)) (least : Int) : Option (List Text) × Int := match o with
  | none => (none, 161)
  | some ids => if (ids.length : Int) < least then (none, 7) else (some ids, 0)
def verAns (keys : List Text) (h : HeadD) (ss : List Text) (least : Int) : Option (List Text) × Int :=
  if least < 1 ∨ 16 < least then (none, 1) else if (noteAns h ss).2 = 0 then verEnd (verF keys h ((rising kyS ss).getD [])) least else (none, 8)
def IdsPost (B : Nat) (w' : World) (v : Value) : Option (List Text) → Prop
  | none => v = .slice none 0 0
  | some ids => (∀ d ∈ ids, d.length = 32) ∧ w'.ownsRow B 23 32 v ids.length (ids.flatMap cells8)
def VerOut (keys : List Text) (h : HeadD) (ss : List Text) (least : Int) (w : World) (e : Ending) (w' : World) : Prop := ∃ v, e = .returned (.tuple #[v, .int .i64 (verAns keys h ss least).2]) ∧ Below w.heap.size w w' ∧ IdsPost w.heap.size w' v (verAns keys h ss least).1
theorem pick_none {keys : List Text} {l : List KD} {d : Text} (hp : (l.map (·.q)).Perm keys) (h : ∀ x ∈ l, idK x ≠ d) : pick keys d = none := by
  unfold pick
  rw [List.find?_eq_none]
  intro q hq
  obtain ⟨x, hx, rfl⟩ := List.mem_map.1 (hp.mem_iff.2 hq)
  have h1 : ¬ idOf x.q = d := h x hx
  simpa using h1
theorem strict_one : ∀ {l : List KD}, Strict idK l → ∀ {x y : KD}, x ∈ l → y ∈ l → idK x = idK y → x = y
  | [], _, _, _, h, _, _ => by cases h
  | z :: l, hs, x, y, hx, hy, e => by
    have hs' := List.pairwise_cons.1 hs
    rcases List.mem_cons.1 hx with e1 | hx2
    · rcases List.mem_cons.1 hy with e2 | hy2
      · rw [e1, e2]
      · have := hs'.1 y hy2
        rw [← e1, e, lex_irrefl] at this
        cases this
    · rcases List.mem_cons.1 hy with e2 | hy2
      · have := hs'.1 x hx2
        rw [← e2, e, lex_irrefl] at this
        cases this
      · exact strict_one hs'.2 hx2 hy2 e
theorem pick_some {keys : List Text} {l : List KD} {d : Text} {x : KD} (hp : (l.map (·.q)).Perm keys) (hs : Strict idK l) (hx : x ∈ l) (hd : idK x = d) : pick keys d = some x.q := by
  unfold pick
  cases h : keys.find? (fun q => decide (idOf q = d)) with
  | none =>
    rw [List.find?_eq_none] at h
    have := h x.q (hp.mem_iff.1 (List.mem_map.2 ⟨x, hx, rfl⟩))
    have h1 : ¬ idOf x.q = d := by simpa using this
    exact absurd hd h1
  | some q =>
    have h1 := List.find?_some h
    obtain ⟨y, hy, rfl⟩ := List.mem_map.1 (hp.mem_iff.2 (List.mem_of_find?_eq_some h))
    have h2' : idOf y.q = d := by simpa using h1
    have h2 : idK y = d := h2'
    rw [strict_one hs hy hx (h2.trans hd.symm)]
theorem find_split {l : List KD} {d : Text} {w w' : World} {e : Ending} (h : FindOut l d w e w') : Below w.heap.size w w' ∧ ∃ v, e = .returned v ∧ (((∀ x ∈ l, idK x ≠ d) ∧ v = .slice none 0 0) ∨ ∃ x ∈ l, idK x = d ∧ v = .slice x.A x.q.length x.c) := by
  obtain ⟨hb, h⟩ := h
  refine ⟨hb, ?_⟩
  rcases h with ⟨a, b⟩ | ⟨x, a, b, c⟩
  · exact ⟨_, b, .inl ⟨a, rfl⟩⟩
  · exact ⟨_, c, .inr ⟨x, a, b, rfl⟩⟩
/-- A step past a sign whose key the ring does not hold. -/
theorem ver_skip {keys : List Text} {h : HeadD} {rs ids : List Text} {i : Nat} {x : Text} (hv : verF keys h rs = (verF keys h (rs.drop i)).map (ids ++ ·)) (hx : rs[i]? = some x) (hn : pick keys (kyS x) = none) : verF keys h rs = (verF keys h (rs.drop (i + 1))).map (ids ++ ·) := by
  rw [hv]
  obtain ⟨h1, rfl⟩ := List.getElem?_eq_some_iff.1 hx
  rw [List.drop_eq_getElem_cons h1, verF, hn]
theorem ver_bad {keys : List Text} {h : HeadD} {rs ids : List Text} {i : Nat} {x q : Text} (hv : verF keys h rs = (verF keys h (rs.drop i)).map (ids ++ ·)) (hx : rs[i]? = some x) (hn : pick keys (kyS x) = some q) (hc : ¬ checkAns h x q = 0) : verF keys h rs = none := by
  rw [hv]
  obtain ⟨h1, rfl⟩ := List.getElem?_eq_some_iff.1 hx
  rw [List.drop_eq_getElem_cons h1, verF, hn]
  show Option.map _ (if _ then _ else _) = _
  rw [if_neg hc]
  rfl
theorem ver_take {keys : List Text} {h : HeadD} {rs ids : List Text} {i : Nat} {x q : Text} (hv : verF keys h rs = (verF keys h (rs.drop i)).map (ids ++ ·)) (hx : rs[i]? = some x) (hn : pick keys (kyS x) = some q) (hc : checkAns h x q = 0) : verF keys h rs = (verF keys h (rs.drop (i + 1))).map (ids ++ [kyS x] ++ ·) := by
  rw [hv]
  obtain ⟨h1, rfl⟩ := List.getElem?_eq_some_iff.1 hx
  rw [List.drop_eq_getElem_cons h1, verF, hn]
  show Option.map _ (if _ then _ else _) = _
  rw [if_pos hc]
  cases verF keys h (rs.drop (i + 1)) with
  | none => rfl
  | some r => simp
theorem ver_done {keys : List Text} {h : HeadD} {rs ids : List Text} {i : Nat} (hv : verF keys h rs = (verF keys h (rs.drop i)).map (ids ++ ·)) (hi : rs.length ≤ i) : verF keys h rs = some ids := by
  rw [hv, List.drop_of_length_le hi]
  simp [verF]
theorem reads_oneN {T : TypeId} {s : Nat} (w : World) {cx : List Value} (h : cx.length = s) : Reads (w.alloc (.cells ([cx].flatten).toArray T)) s (some ⟨w.heap.size, 0, none⟩) 1 cx := by
  have hb : Blk (w.alloc (.cells ([cx].flatten).toArray T)) w.heap.size T ([cx].flatten).toArray := Blk.new _ _ _
  refine ⟨by rw [h]; simp, fun _ => ⟨w.heap.size, 0, rfl, by simp, fun j u hu => ?_⟩⟩
  rw [hb.cell]
  simpa using hu
theorem own_at {w : World} {B n s : Nat} {e : TypeId} {v : Value} {xs : List Value} (h : w.ownsRow B e s v n xs) : ∀ k, v.ownBlock = some k → B ≤ k := fun k hk => by
  rcases h.2 with ⟨h2, -⟩ | ⟨g, c, cur, hv, hBg, -⟩
  · rw [h2] at hk; cases hk
  · rw [hv] at hk
    have e : some g = some k := hk
    injection e with e
    omega
theorem ids_grown {w w' : World} {B m : Nat} {v v' : Value} {ids : List Text} {d : Text} (hG : Grew w B 23 32 v m 1 (ids.flatMap cells8) (cells8 d) v' w') : w'.ownsRow B 23 32 v' (m + 1) ((ids ++ [d]).flatMap cells8) := by
  have := hG.own
  rwa [List.flatMap_append, show [d].flatMap cells8 = cells8 d by simp]
end Go.Proofs.YtgldkfaiofkhbaaDoor.VerP

namespace Go.Proofs.YtgldkfaiofkhbaaDoor.GrowP
open Go Go.RowKit Go.Proofs.YtgldkfaiofkhbaaDoor Go.Proofs.YtgldkfaiofkhbaaDoor.Mem Go.Proofs.YtgldkfaiofkhbaaDoor.Sha Go.Proofs.YtgldkfaiofkhbaaDoor.Bytes Go.Proofs.YtgldkfaiofkhbaaDoor.HeadMem Go.Proofs.YtgldkfaiofkhbaaDoor.VerP Go.Proofs.YtgldkfaiofkhbaaDoor.HeadCmp Go.Proofs.YtgldkfaiofkhbaaDoor.Subs Go.Proofs.YtgldkfaiofkhbaaDoor.RefCons Go.Proofs.YtgldkfaiofkhbaaDoor.EncConsAny Go.Proofs.YtgldkfaiofkhbaaDoor.AudJoins

/-- Behind the head's tests: what the consistency proof comes to. -/
def joinA (s : Int) (H h : HeadD) (x y : Int) (ds : List Text) : Int :=
  if consWant x y ds = none ∨ x ≠ H.size ∨ y ≠ h.size then 170 else audJoins s H.root h.root x y ds
/-- Behind the signs' test. -/
def headA (s : Int) (H h : HeadD) (x y : Int) (ds : List Text) : Int :=
  if h.log ≠ H.log then 173 else if h.size < H.size then 172 else if headB h H = true then 0 else if h.size = H.size ∨ h.clock < H.clock then 173 else joinA s H h x y ds
/-- What it answers to an offer. -/
def takeA (s least : Int) (es : List Text) (H h : HeadD) (ss : List Text) (x y : Int) (ds : List Text) : Int :=
  if (verAns es h ss least).2 ≠ 0 then (verAns es h ss least).2 else headA s H h x y ds
/-- Is another head trusted behind it? -/
def newB (s least : Int) (es : List Text) (H h : HeadD) (ss : List Text) (x y : Int) (ds : List Text) : Bool := decide (takeA s least es H h ss x y ds = 0) && !headB h H
theorem take_yes {s least : Int} {es : List Text} {H h : HeadD} {ss : List Text} {x y : Int} {ds : List Text} (e : takeA s least es H h ss x y ds = 0) : (verAns es h ss least).2 = 0 ∧ headA s H h x y ds = 0 := by
  unfold takeA at e
  by_cases hv : (verAns es h ss least).2 = 0
  · rw [if_neg (fun k => k hv)] at e
    exact ⟨hv, e⟩
  · rw [if_pos hv] at e
    exact absurd e hv
theorem head_yes {s : Int} {H h : HeadD} {x y : Int} {ds : List Text} (e : headA s H h x y ds = 0) : h.log = H.log ∧ ((headB h H = true ∧ h = H) ∨ (headB h H = false ∧ H.size < h.size ∧ H.clock ≤ h.clock)) := by
  unfold headA at e
  by_cases h1 : h.log ≠ H.log
  · rw [if_pos h1] at e
    exact absurd e (by decide)
  · rw [if_neg h1] at e
    refine ⟨Decidable.not_not.1 h1, ?_⟩
    by_cases h2 : h.size < H.size
    · rw [if_pos h2] at e
      exact absurd e (by decide)
    · rw [if_neg h2] at e
      cases h3 : headB h H with
      | true => exact .inl ⟨rfl, headB_yes h3⟩
      | false =>
        rw [if_neg (by rw [h3]; decide)] at e
        by_cases h4 : h.size = H.size ∨ h.clock < H.clock
        · rw [if_pos h4] at e
          exact absurd e (by decide)
        · exact .inr ⟨rfl, by omega, by omega⟩
/-- An offer that was taken, taken again. -/
theorem take_again {s least : Int} {es : List Text} {H h : HeadD} {ss : List Text} {x y : Int} {ds : List Text} (e : takeA s least es H h ss x y ds = 0) (x' y' : Int) (ds' : List Text) : takeA s least es h h ss x' y' ds' = 0 := by
  obtain ⟨h1, -⟩ := take_yes e
  unfold takeA
  rw [if_neg (fun k => k h1)]
  unfold headA
  rw [if_neg (fun k => k rfl), if_neg (by omega), if_pos (headB_refl h)]
end Go.Proofs.YtgldkfaiofkhbaaDoor.GrowP

namespace Go.Proofs.YtgldkfaiofkhbaaDoor.AudM
open Go Go.RowKit Go.Proofs.YtgldkfaiofkhbaaDoor Go.Proofs.YtgldkfaiofkhbaaDoor.Mem Go.Proofs.YtgldkfaiofkhbaaDoor.Sha Go.Proofs.YtgldkfaiofkhbaaDoor.Bytes Go.Proofs.YtgldkfaiofkhbaaDoor.SortP Go.Proofs.YtgldkfaiofkhbaaDoor.NoteP Go.Proofs.YtgldkfaiofkhbaaDoor.Rise Go.Proofs.YtgldkfaiofkhbaaDoor.SortM Go.Proofs.YtgldkfaiofkhbaaDoor.SgM Go.Proofs.YtgldkfaiofkhbaaDoor.HeadMem Go.Proofs.YtgldkfaiofkhbaaDoor.EncNote Go.Proofs.YtgldkfaiofkhbaaDoor.NoteM Go.Proofs.YtgldkfaiofkhbaaDoor.HeadCmp Go.Proofs.YtgldkfaiofkhbaaDoor.GrowP

def audC (s least : Int) (R : Nat) (h : HeadD) (v : Value) : List Value := [.int .i64 s, .int .i64 least, .pointer (some ⟨R, 0, none⟩)] ++ noteCells h v
theorem audC_len {s least : Int} {R : Nat} {h : HeadD} (ok : h.Ok) (v : Value) : (audC s least R h v).length = 102 := by unfold audC; rw [List.length_append, noteCells_len ok]; rfl
theorem audC_note {s least : Int} {R : Nat} {h : HeadD} (v : Value) (j : Nat) (u : Value) (hu : (noteCells h v)[j]? = some u) : (audC s least R h v)[3 + j]? = some u := by
  unfold audC
  rw [List.getElem?_append_right (by simp), List.length_cons, List.length_cons, List.length_cons, List.length_nil, show 3 + j - (0 + 1 + 1 + 1) = j by omega]
  exact hu
/-- An auditor that trusts a note. -/
structure AudAt (w : World) (a : Nat) (s least : Int) (R : Nat) (h : HeadD) (A : Option Addr) (n c : Nat) (ss : List Text) : Prop where
  ok : h.Ok
  nil : A = none → n = 0 ∧ c = 0
  few : n ≤ 16
  blk : Blk w a 110 (audC s least R h (.slice A n c)).toArray
  sgs : Sgs w A n ss
section
variable {w w' : World} {a : Nat} {s least : Int} {R : Nat} {h : HeadD} {A : Option Addr} {n c : Nat} {ss : List Text}
theorem AudAt.below (k : AudAt w a s least R h A n c ss) (hb : Below w.heap.size w w') : AudAt w' a s least R h A n c ss := ⟨k.ok, k.nil, k.few, (hb.block _ k.blk.lt).trans k.blk, k.sgs.below hb⟩
theorem _root_.Go.Proofs.YtgldkfaiofkhbaaDoor.Rise.Sgs.kept {S : Nat → Prop} (k : Sgs w A n ss) (hk : Kept S w w') (hS : ∀ b o, A = some ⟨b, o, none⟩ → ¬ S b) : Sgs w' A n ss := ⟨k.len, k.all, k.rd.kept hk hS⟩
theorem AudAt.kept {S : Nat → Prop} (k : AudAt w a s least R h A n c ss) (hk : Kept S w w') (h1 : ¬ S a) (h2 : ∀ b o, A = some ⟨b, o, none⟩ → ¬ S b) : AudAt w' a s least R h A n c ss := ⟨k.ok, k.nil, k.few, k.blk.kept hk h1, k.sgs.kept hk h2⟩
theorem AudAt.width (k : AudAt w a s least R h A n c ss) : w.cell? ⟨a, 0, none⟩ = some (.int .i64 s) := by rw [k.blk.cell 0]; rfl
theorem AudAt.wants (k : AudAt w a s least R h A n c ss) : w.cell? ⟨a, 1, none⟩ = some (.int .i64 least) := by rw [k.blk.cell 1]; rfl
theorem AudAt.ring (k : AudAt w a s least R h A n c ss) : w.cell? ⟨a, 2, none⟩ = some (.pointer (some ⟨R, 0, none⟩)) := by rw [k.blk.cell 2]; rfl
theorem AudAt.note (k : AudAt w a s least R h A n c ss) (j : Nat) (u : Value) (hu : (noteCells h (.slice A n c))[j]? = some u) : w.cell? ⟨a, 3 + j, none⟩ = some u := by
  rw [k.blk.cell (3 + j), List.getElem?_toArray]
  exact audC_note _ j u hu
theorem AudAt.head (k : AudAt w a s least R h A n c ss) (j : Nat) (u : Value) (hu : (headCells h)[j]? = some u) : w.cell? ⟨a, 3 + j, none⟩ = some u := by
  refine k.note j u ?_
  have := noteCells_head (h := h) (.slice A n c) j u hu
  rwa [Nat.zero_add] at this
theorem AudAt.row (k : AudAt w a s least R h A n c ss) : w.cell? ⟨a, 101, none⟩ = some (.slice A n c) := k.note 98 _ (noteCells_row k.ok _)
end
/-- Another note stored into an auditor. -/
theorem audC_set {s least : Int} {R : Nat} {h h' : HeadD} (ok : h.Ok) (ok' : h'.Ok) (v v' : Value) : ((audC s least R h v).toArray.toList.take 3 ++ (noteCells h' v').toArray.toList ++ (audC s least R h v).toArray.toList.drop (3 + (noteCells h' v').toArray.size)).toArray = (audC s least R h' v').toArray := by
  have e1 : (noteCells h' v').toArray.size = 99 := by rw [List.size_toArray, noteCells_len ok']
  have e2 : (audC s least R h v).drop (3 + 99) = [] := List.drop_of_length_le (by rw [audC_len ok]; omega)
  rw [e1, List.toList_toArray, List.toList_toArray, e2, List.append_nil]
  congr 1
/-- What an offer leaves of an auditor: it trusts the offered note, or all stays as it was. -/
def TakePost (a : Nat) (s least : Int) (R : Nat) (es : List Text) (H h : HeadD) (rs : List Text) (x y : Int) (ds : List Text) (w w' : World) : Prop :=
  (newB s least es H h rs x y ds = false ∧ Below w.heap.size w w') ∨ (newB s least es H h rs x y ds = true ∧ Kept (· = a) w w' ∧ ∃ (A' : Option Addr) (n' c' : Nat), AudAt w' a s least R h A' n' c' rs ∧ ∀ b, A' = some b → w.heap.size ≤ b.block)
def TakeOut (a : Nat) (s least : Int) (R : Nat) (es : List Text) (H h : HeadD) (rs : List Text) (x y : Int) (ds : List Text) (w : World) (e : Ending) (w' : World) : Prop :=
  e = .returned (.int .i64 (takeA s least es H h rs x y ds)) ∧ TakePost a s least R es H h rs x y ds w w'
theorem TakeOut.kept {a : Nat} {s least : Int} {R : Nat} {es : List Text} {H h : HeadD} {rs : List Text} {x y : Int} {ds : List Text} {w w' : World} {e : Ending} (k : TakeOut a s least R es H h rs x y ds w e w') : Kept (· = a) w w' := by
  rcases k.2 with ⟨-, hb⟩ | ⟨-, hk, -⟩
  · exact Kept.of_below hb
  · exact hk
theorem ownS_off {S : Nat → Prop} {w w' : World} {B n : Nat} {v : Value} {ds : List Text} (h : OwnS w B v n ds) (hk : Kept S w w') (hS : ∀ k, S k → k < B) : OwnS w' B v n ds := by
  obtain ⟨h1, h2, hFl, hown⟩ := h
  refine ⟨h1, h2, hFl, ?_⟩
  rcases hown with h | ⟨g, c, cur, hv, hBg, hg, hnc, hcm, hcs, htk⟩
  · exact .inl h
  · exact .inr ⟨g, c, cur, hv, hBg, Blk.kept hg hk (fun x => by have := hS g x; omega), hnc, hcm, hcs, htk⟩
end Go.Proofs.YtgldkfaiofkhbaaDoor.AudM

namespace Go.Proofs.YtgldkfaiofkhbaaDoor.AudNote
open Go Go.RowKit Go.Proofs.YtgldkfaiofkhbaaDoor Go.Proofs.YtgldkfaiofkhbaaDoor.Mem Go.Proofs.YtgldkfaiofkhbaaDoor.Sha Go.Proofs.YtgldkfaiofkhbaaDoor.Bytes Go.Proofs.YtgldkfaiofkhbaaDoor.SortP Go.Proofs.YtgldkfaiofkhbaaDoor.NoteP Go.Proofs.YtgldkfaiofkhbaaDoor.QuietTail Go.Proofs.YtgldkfaiofkhbaaDoor.Grown Go.Proofs.YtgldkfaiofkhbaaDoor.Held Go.Proofs.YtgldkfaiofkhbaaDoor.Want Go.Proofs.YtgldkfaiofkhbaaDoor.Append Go.Proofs.YtgldkfaiofkhbaaDoor.Own Go.Proofs.YtgldkfaiofkhbaaDoor.Rise Go.Proofs.YtgldkfaiofkhbaaDoor.SortM Go.Proofs.YtgldkfaiofkhbaaDoor.SgM Go.Proofs.YtgldkfaiofkhbaaDoor.HeadMem Go.Proofs.YtgldkfaiofkhbaaDoor.EncNote Go.Proofs.YtgldkfaiofkhbaaDoor.NoteM Go.Proofs.YtgldkfaiofkhbaaDoor.Fill Go.Proofs.YtgldkfaiofkhbaaDoor.HeadTake Go.Proofs.YtgldkfaiofkhbaaDoor.Decode Go.Proofs.YtgldkfaiofkhbaaDoor.AudM

/-- A copy of a note. -/
def CopyOut (h : HeadD) (n : Nat) (ss : List Text) (w : World) (e : Ending) (w' : World) : Prop := ∃ (A' : Option Addr) (c' : Nat), e = .returned (.agg (noteCells h (.slice A' n c')).toArray) ∧ OwnS w' w.heap.size (.slice A' n c') n ss ∧ Below w.heap.size w w'
theorem CopyOut.mk_ {h : HeadD} {n c' : Nat} {ss : List Text} {w w' : World} {e : Ending} {A' : Option Addr} (he : e = .returned (.agg (noteCells h (.slice A' n c')).toArray)) (hO : OwnS w' w.heap.size (.slice A' n c') n ss) (hb : Below w.heap.size w w') : CopyOut h n ss w e w' := ⟨A', c', he, hO, hb⟩
theorem sgs_own {w : World} {A : Option Addr} {n : Nat} {ss : List Text} (h : Sgs w A n ss) : Sns ss ∧ ss.length = n := ⟨h.all, h.len⟩
set_option maxRecDepth 100000 in
set_option maxHeartbeats 4000000 in
theorem copied_any (h : HeadD) (ok : h.Ok) (ss : List Text) (n : Nat) (hn47 : n ≤ 2199023255552) (A : Option Addr) (c : Nat) (hnil : A = none → n = 0 ∧ c = 0) (w : World) (hS : Sgs w A n ss) :
    Calls Tryd.prog 52 #[.agg (noteCells h (.slice A n c)).toArray] w (CopyOut h n ss w) := by
  obtain ⟨i0, ii, iz0, iz1, iz2⟩ := info_partsN info64
  obtain ⟨w1, hw1⟩ : ∃ w1, Hid ((w.alloc (.cells (noteCells h (.slice A n c)).toArray 40)).alloc (.cells Z99 40) = w1) := ⟨_, Lib.hid rfl⟩
  have hw1' : (w.alloc (.cells (noteCells h (.slice A n c)).toArray 40)).alloc (.cells Tryd.zeroCells40 40) = w1 := hw1.out
  have hs0 : Hid (w.heap.size + 2 = w1.heap.size) := by show _ = _; rw [← hw1.out]; simp
  have N1 : Hid (NoteAt w1 w.heap.size h A n c ss) := by show NoteAt _ _ _ _ _ _ _; rw [← hw1.out]; exact (NoteAt.new hS).below (Below.heap_below _ _)
  have R1 : Hid (Blk w1 (w.heap.size + 1) 40 Z99) := by
    show Blk _ _ _ _
    rw [← hw1.out]
    have := Blk.new (w.alloc (.cells (noteCells h (.slice A n c)).toArray 40)) 40 Z99
    rwa [show (w.alloc (.cells (noteCells h (.slice A n c)).toArray 40)).heap.size = w.heap.size + 1 by simp] at this
  have b1 : Hid (Below w.heap.size w w1) := by show Below _ _ _; rw [← hw1.out]; exact (Below.heap_below w _).alloc (by simp) _
  have hsz : Hid ((Tryd.prog.info? 36).map (·.size) = some (headCells h).length) := by show _ = _; rw [headCells_len ok]; exact size98
  have z1 := Lib.hid (fun v => note_size ok v)
  have z2 := Lib.hid (fun v => note_zero ok v)
  have z3 := Lib.hid (fun A n c => note_one (h := h) A n c)
  have hbn := Lib.hid (fun A n c w' => run_note ok A n c w')
  have hso := Lib.hid (sgs_own hS)
  have hc1 : Hid (0 + n ≤ maxLen) := by show _ ≤ _; unfold maxLen; omega
  have hc2 : Hid ((0 + n) * 64 ≤ 140737488355328) := by show _ ≤ _; omega
  have hn0 := Lib.hid hnil
  have hrow := Lib.hid (N1.out.row ok)
  clear hw1 ok hnil hS hn47
  go_enter Tryd.func52, Tryd.ntmps52
  go_upto_region 1 with fail
  have s0 : Hid (Kept (· = w.heap.size + 1) w1 w1.drew) := (Kept.refl _ w1).drew
  refine held_start (fun w' => Kept (· = w.heap.size + 1) w1 w') 7 rfl (by kernel_rfl) ?_
  refine held_take (i := 0) (v := .pointer (some ⟨w.heap.size, 0, none⟩)) rfl (by kernel_rfl) (by kernel_rfl) (by kernel_rfl) (fun _ _ _ h => h) s0.out (by rfl) (fun w' hw' => by go_simp) ?_
  (intro K hK; go_simp; refine hK _ ?_; clear hK K)
  refine held_take (i := 1) (v := .agg (headCells h).toArray) rfl (by kernel_rfl) (by kernel_rfl) (by kernel_rfl) (fun _ _ _ h => h) s0.out (by rfl) (fun w' hw' => exec_part 36 (.tmp 3) rfl (w.heap.size) (0) rfl (headCells h) _ ((fun j u hu => (Kept.cell hw' (p := ⟨w.heap.size, 0 + j, none⟩) N1.out.blk.lt (by simp)).trans (N1.out.head j u hu))) Tryd.underlying36 rfl hsz.out) ?_
  (intro K hK; go_simp; refine hK _ ?_; clear hK K)
  refine held_take (i := 2) (v := .pointer (some ⟨w.heap.size, 98, none⟩)) rfl (by kernel_rfl) (by kernel_rfl) (by kernel_rfl) (fun _ _ _ h => h) s0.out (by rfl) (fun w' hw' => by go_simp) ?_
  (intro K hK; go_simp; refine hK _ ?_; clear hK K)
  refine held_take (i := 3) (v := .slice A n c) rfl (by kernel_rfl) (by kernel_rfl) (by kernel_rfl) (fun _ _ _ h => h) s0.out (by rfl) (fun w' hw' => by have hc := (Kept.cell hw' (p := ⟨w.heap.size, 98, none⟩) N1.out.blk.lt (by simp)).trans hrow.out; go_simp) ?_
  (intro K hK; go_simp; refine hK _ ?_; clear hK K)
  refine held_only (i := 4) rfl (by kernel_rfl) (by rfl) (fun K hK => ?_)
  refine Append.wp_append_src _ (.const (.slice none 0 0)) (.tmp 6) 38 rfl w1.heap.size 116 i0 (.agg Z64) 64 64 Tryd.underlying38 ii iz0 iz1 iz2 rfl (by decide) (.slice none 0 0) 0 (([] : List Text).flatMap cells8) rfl (World.ownsRow_nil _ _ _ _) A n c (ss.flatMap cells8) rfl N1.out.sgs.rd.drew hn0.out (one_signs ss) hc1.out hc2.out (Nat.le_refl _) (fun v8 w8 hG => ?_)
  obtain ⟨hO8, hb8⟩ := grew_signs (xs := []) hG (Below.refl w1.heap.size w1.drew) (Nat.le_refl _) (OwnS.nil _ _) hso.out.1 hso.out.2
  rw [Nat.zero_add, List.nil_append] at hO8
  obtain ⟨A8, c8, rfl, -⟩ := OwnS.reads hO8
  replace hO8 := Lib.hid hO8
  have bb8 : Hid (Below w1.heap.size w1 w8) := ((Below.refl _ w1).drew).trans hb8
  have k8 : Hid (Kept (· = w.heap.size + 1) w1 w8) := Kept.of_below bb8.out
  have R8 : Hid (Blk w8 (w.heap.size + 1) 40 Z99) := (bb8.out.block _ R1.out.lt).trans R1.out
  clear hG hb8
  go_simp
  refine hK _ _ k8.out ?_
  clear hK K
  refine held_take (i := 5) (v := .agg (noteCells h (.slice A8 n c8)).toArray) rfl (by kernel_rfl) (by kernel_rfl) (by kernel_rfl) (fun _ _ _ h => h) k8.out (by rfl) (fun w' hw' => exec_build 40 #[(0, .tmp 4), (1, .tmp 7)] rfl #[(0, .agg (headCells h).toArray), (1, .slice A8 n c8)] (by first | rfl | (simp [Act.eval]; done)) _ (hbn.out A8 n c8 w')) ?_
  (intro K hK; go_simp; refine hK _ ?_; clear hK K)
  refine held_only (i := 6) rfl (by kernel_rfl) (by rfl) (fun K hK => ?_)
  refine wp_store_whole 40 (.tmp 2) (.tmp 8) rfl (w.heap.size + 1) (noteCells h (.slice A8 n c8)).toArray rfl rfl 40 Z99 R8.out (z1.out _) (z2.out _) (z3.out _ _ _) ?_
  intro w9 B9 kk9
  have hO9 : Hid (OwnS w9 w.heap.size (.slice A8 n c8) n ss) := (ownS_off hO8.out kk9 (fun k e => by have := hs0.out; omega)).base b1.out.size
  have hb9 : Hid (Below w.heap.size w w9) := (b1.out.trans (bb8.out.mono b1.out.size)).trans (Kept.below_of kk9 (Nat.le_succ _) (b1.out.trans (bb8.out.mono b1.out.size)).size)
  have k9 : Hid (Kept (· = w.heap.size + 1) w1 w9) := k8.out.trans kk9 (fun i _ e => e)
  replace B9 := Lib.hid B9
  clear kk9
  go_simp
  refine hK _ _ k9.out ?_
  clear hK K
  refine held_end (by kernel_rfl) ?_
  go_wp2_with fail
  refine bodyPost_ret (results_cell_row rfl _ _ (w.heap.size + 1) 40 (noteCells h (.slice A8 n c8)).toArray (0, 0) _ rfl B9.out Tryd.underlying40 rfl (z1.out _)) rfl ?_
  exact CopyOut.mk_ rfl hO9.out hb9.out
set_option maxRecDepth 100000 in
set_option maxHeartbeats 4000000 in
theorem audHead_any (a : Nat) (s least : Int) (R : Nat) (h : HeadD) (A : Option Addr) (n c : Nat) (ss : List Text) (w : World) (hA : AudAt w a s least R h A n c ss) :
    Calls Tryd.prog 10 #[.pointer (some ⟨a, 0, none⟩)] w fun e w' => e = .returned (.agg (headCells h).toArray) ∧ Below w.heap.size w w' := by
  obtain ⟨w1, hw1⟩ : ∃ w1, Hid (w.alloc (.cells Z98 36) = w1) := ⟨_, Lib.hid rfl⟩
  have hw1' : w.alloc (.cells Tryd.zeroCells36 36) = w1 := hw1.out
  have R1 : Hid (Blk w1 w.heap.size 36 Z98) := by show Blk _ _ _ _; rw [← hw1.out]; exact Blk.new w _ _
  have b1 : Hid (Below w.heap.size w w1) := by show Below _ _ _; rw [← hw1.out]; exact Below.heap_below w _
  have hA1 := Lib.hid (hA.below b1.out)
  have hsz : Hid ((Tryd.prog.info? 36).map (·.size) = some (headCells h).length) := by show _ = _; rw [headCells_len hA.ok]; exact size98
  have hsz' : Hid ((Tryd.prog.info? 36).map (·.size) = some (headCells h).toArray.size) := by show _ = _; rw [List.size_toArray]; exact hsz.out
  have z2 : Hid (Z98.size = (headCells h).toArray.size) := z98_size.trans (show 98 = (headCells h).length from (headCells_len hA.ok).symm)
  have z3 : Hid ((headCells h).toArray.all (fun v => v.oneCell') = true) := by show _ = _; rw [List.all_toArray]; exact List.all_eq_true.2 (headCells_one h)
  clear hw1 hA
  go_enter Tryd.func10, Tryd.ntmps10
  go_wp2_with (first
    | (((with_reducible change wpList _ _ _ ({ dst := some 7, op := _, type := _, pos := _, after := _, guard := _ } :: _) _ _); refine wpList_load_part (o := ⟨some 7, _, _, _, _, _⟩) rfl 36 (.tmp 6) rfl (a) (3) rfl (headCells h) _ hA1.out.head Tryd.underlying36 rfl hsz.out ?_))
    | ((with_reducible change wpList _ _ _ ({ dst := none, op := Op.store 36 (.tmp 2) (.tmp 7), type := _, pos := _, after := _, guard := _ } :: _) _ _); refine wpList_store_row (o := ⟨none, _, _, _, _, _⟩) rfl 36 (.tmp 2) (.tmp 7) rfl w.heap.size (headCells h).toArray rfl rfl 36 Z98 R1.out hsz'.out z2.out z3.out ?_))
  refine bodyPost_ret (results_cell_row rfl _ _ w.heap.size 36 (headCells h).toArray (0, 0) _ rfl (setRow_heap _ _ _ _ _ _ R1.out) Tryd.underlying36 rfl hsz'.out) rfl ?_
  exact ⟨rfl, below_setRow b1.out (Nat.le_refl _) _⟩
set_option maxRecDepth 100000 in
set_option maxHeartbeats 4000000 in
theorem audNote_any (a : Nat) (s least : Int) (R : Nat) (h : HeadD) (A : Option Addr) (n c : Nat) (ss : List Text) (w : World) (hA : AudAt w a s least R h A n c ss) :
    Calls Tryd.prog 11 #[.pointer (some ⟨a, 0, none⟩)] w (CopyOut h n ss w) := by
  obtain ⟨w1, hw1⟩ : ∃ w1, Hid (w.alloc (.cells Z99 40) = w1) := ⟨_, Lib.hid rfl⟩
  have hw1' : w.alloc (.cells Tryd.zeroCells40 40) = w1 := hw1.out
  have R1 : Hid (Blk w1 w.heap.size 40 Z99) := by show Blk _ _ _ _; rw [← hw1.out]; exact Blk.new w _ _
  have b1 : Hid (Below w.heap.size w w1) := by show Below _ _ _; rw [← hw1.out]; exact Below.heap_below w _
  have hA1 := Lib.hid (hA.below b1.out)
  have zL : Hid ((Tryd.prog.info? 40).map (·.size) = some (noteCells h (.slice A n c)).length) := by show _ = _; have := note_size hA.ok (.slice A n c); rw [List.size_toArray] at this; exact this
  have z1 := Lib.hid (fun v => note_size hA.ok v)
  have z2 := Lib.hid (fun v => note_zero hA.ok v)
  have z3 := Lib.hid (fun A n c => note_one (h := h) A n c)
  clear hw1 hA
  go_enter Tryd.func11, Tryd.ntmps11
  go_wp2_with (first
    | (((with_reducible change wpList _ _ _ ({ dst := some 6, op := _, type := _, pos := _, after := _, guard := _ } :: _) _ _); refine wpList_load_part (o := ⟨some 6, _, _, _, _, _⟩) rfl 40 (.tmp 5) rfl (a) (3) rfl (noteCells h (.slice A n c)) _ hA1.out.note Tryd.underlying40 rfl zL.out ?_))
    | (go_at_call 52; refine (copied_any h hA1.out.ok ss n (by have := hA1.out.few; omega) A c hA1.out.nil w1 hA1.out.sgs).mono ?_; rintro e w2 ⟨A2, c2, rfl, hO, hb2⟩; have hO2 : Hid (OwnS w2 w.heap.size (.slice A2 n c2) n ss) := hO.base b1.out.size; have bb2 : Hid (Below w.heap.size w w2) := b1.out.trans (hb2.mono b1.out.size); have R2 : Hid (Blk w2 w.heap.size 40 Z99) := (hb2.block _ R1.out.lt).trans R1.out; have hOn : Hid (OwnS w2 w1.heap.size (.slice A2 n c2) n ss) := hO; have hlt1 : Hid (w.heap.size < w1.heap.size) := R1.out.lt; clear hO hb2)
    | ((with_reducible change wpList _ _ _ ({ dst := none, op := Op.store 40 (.tmp 2) (.tmp 7), type := _, pos := _, after := _, guard := _ } :: _) _ _); refine Held.wpList_store_whole (o := ⟨none, _, _, _, _, _⟩) rfl 40 (.tmp 2) (.tmp 7) rfl w.heap.size (noteCells h (.slice A2 n c2)).toArray rfl rfl 40 Z99 R2.out (z1.out _) (z2.out _) (z3.out _ _ _) ?_; intro w9 B9 kk9; have hO9 : Hid (OwnS w9 w.heap.size (.slice A2 n c2) n ss) := (ownS_off hOn.out kk9 (fun k e => by have := hlt1.out; omega)).base b1.out.size; have hb9 : Hid (Below w.heap.size w w9) := bb2.out.trans (Kept.below_of kk9 (Nat.le_refl _) bb2.out.size); replace B9 := Lib.hid B9; clear kk9))
  refine bodyPost_ret (results_cell_row rfl _ _ w.heap.size 40 (noteCells h (.slice A2 n c2)).toArray (0, 0) _ rfl B9.out Tryd.underlying40 rfl (z1.out _)) rfl ?_
  exact CopyOut.mk_ rfl hO9.out hb9.out
end Go.Proofs.YtgldkfaiofkhbaaDoor.AudNote

namespace Go.Proofs.YtgldkfaiofkhbaaDoor.Rising0
open Go Go.RowKit Go.Proofs.YtgldkfaiofkhbaaDoor Go.Proofs.YtgldkfaiofkhbaaDoor.Mem Go.Proofs.YtgldkfaiofkhbaaDoor.Sha Go.Proofs.YtgldkfaiofkhbaaDoor.Bytes Go.Proofs.YtgldkfaiofkhbaaDoor.SortP Go.Proofs.YtgldkfaiofkhbaaDoor.NoteP Go.Proofs.YtgldkfaiofkhbaaDoor.Rise Go.Proofs.YtgldkfaiofkhbaaDoor.SortM Go.Proofs.YtgldkfaiofkhbaaDoor.Append Go.Proofs.YtgldkfaiofkhbaaDoor.Own Go.Proofs.YtgldkfaiofkhbaaDoor.SgM Go.Proofs.YtgldkfaiofkhbaaDoor.Rising

set_option maxRecDepth 100000 in
set_option maxHeartbeats 1000000 in
theorem insertion0 (f : Value) (w : World) : Calls Tryd.prog 186 #[.slice none 0 0, .int .i64 0, .int .i64 0, f] w fun e w' => e = .returned (.tuple #[]) ∧ w' = w := by
  go_enter Tryd.func186, Tryd.ntmps186
  go_wp2_with fail
  refine wp_loop_rounds 1 ?_
  rw [rounds_succ]
  go_wp2_with fail
  go_end0
  exact ⟨rfl, rfl⟩
set_option maxRecDepth 100000 in
set_option maxHeartbeats 1000000 in
theorem pdq0 (f : Value) (l : Int) (w : World) : Calls Tryd.prog 178 #[.slice none 0 0, .int .i64 0, .int .i64 0, .int .i64 l, f] w fun e w' => e = .returned (.tuple #[]) ∧ w' = w := by
  have hI := Lib.hid (insertion0 f w)
  go_enter Tryd.func178, Tryd.ntmps178
  go_wp2_with fail
  refine wp_loop_rounds 1 ?_
  rw [rounds_succ]
  go_wp2_with (go_at_call 186; refine hI.out.mono ?_; rintro e w' ⟨rfl, rfl⟩)
  exact bodyPost_ret (results_none rfl _ _ _) rfl ⟨rfl, rfl⟩
theorem len0 (w : World) : Calls Tryd.prog 96 #[.int .u64 0] w fun e w' => (∃ l : Int, e = .returned (.int .i64 l)) ∧ w' = w := by
  have h := Any.bits_Len (SlLaysF0.n15.bits { Tryd.sortSigns with }) 0 w (by decide) (by decide)
  change Calls _ 96 _ _ _ at h
  exact h.mono fun e w' ⟨he, hw⟩ => ⟨⟨_, he⟩, hw⟩
set_option maxRecDepth 100000 in
set_option maxHeartbeats 1000000 in
theorem sort0 (f : Value) (w : World) : Calls Tryd.prog 152 #[.slice none 0 0, f] w fun e w' => e = .returned (.tuple #[]) ∧ w' = w := by
  have hL := Lib.hid (len0 w)
  have hP := Lib.hid (fun l => pdq0 f l w)
  go_enter Tryd.func152, Tryd.ntmps152
  go_wp2_with (first
    | (go_at_call 96; refine hL.out.mono ?_; rintro e w' ⟨⟨l, rfl⟩, rfl⟩)
    | (go_at_call 178; refine (hP.out l).mono ?_; rintro e w' ⟨rfl, rfl⟩))
  go_end0
  exact ⟨rfl, rfl⟩
set_option maxRecDepth 100000 in
set_option maxHeartbeats 1000000 in
theorem rising0 (A : Option Addr) (c : Nat) (w : World) (hnil : A = none → (0 : Nat) = 0 ∧ c = 0) :
    Calls Tryd.prog 101 #[.slice A 0 c] w fun e w' => e = .returned (.tuple #[.slice none 0 0, .bool true]) ∧ Below w.heap.size w w' := by
  obtain ⟨i0, ii, iz0, iz1, iz2⟩ := info_partsN info64
  have hn := Lib.hid hnil
  have hx0 : Hid (Reads w 64 A 0 (([] : List Text).flatMap cells8)) := Reads.nil_ _ _ _
  have hc1 : Hid (0 + 0 ≤ maxLen) := by show _ ≤ _; unfold maxLen; omega
  have hc2 : Hid ((0 + 0) * 64 ≤ 140737488355328) := by show _ ≤ _; omega
  clear hnil
  go_enter Tryd.func101, Tryd.ntmps101
  go_wp2_with (first
    | (at_builtin; refine wpList_append_src _ rfl (.const (.slice none 0 0)) (.tmp 5) 38 rfl w.heap.size 116 i0 (.agg Z64) 64 64 Tryd.underlying38 ii iz0 iz1 iz2 rfl (by decide) (.slice none 0 0) 0 [] rfl (World.ownsRow_nil _ _ _ _) A 0 c (([] : List Text).flatMap cells8) rfl hx0.out hn.out (one_signs []) hc1.out hc2.out (Nat.le_refl _) ?_; intro v1 w1 hG; obtain rfl := hG.nil_.2 ⟨rfl, rfl⟩; have hb1 : Hid (Below w.heap.size w w1) := hG.below (Below.refl _ _) (Nat.le_refl _) (fun k e => by cases e); clear hG)
    | (go_at_call 152; refine (sort0 _ w1).mono ?_; rintro e w2 ⟨rfl, hw2⟩; subst hw2)
    | (go_at_call 154; refine (rise_any [] 0 (by decide) none 0 _ (Sgs.nil_ _ _)).mono ?_; rintro e w3 ⟨rfl, hb3⟩; have hb4 : Hid (Below w.heap.size w w3) := hb1.out.trans (hb3.mono hb1.out.size)))
  go_ret2
  exact ⟨rfl, hb4.out⟩
theorem rising_all (ss : List Text) (n : Nat) (hn47 : n ≤ 2199023255552) (A : Option Addr) (c : Nat) (w : World) (h : Sgs w A n ss) (hnil : A = none → n = 0 ∧ c = 0) :
    Calls Tryd.prog 101 #[.slice A n c] w fun e w' => ∃ (A' : Option Addr) (c' : Nat) (ds : List Text), e = .returned (.tuple #[.slice A' n c', .bool (riseB (ky := kyS) ds)]) ∧ Hid (rising kyS ss = if riseB (ky := kyS) ds = true then some ds else none) ∧ Hid (OwnS w' w.heap.size (.slice A' n c') n ds) ∧ Hid (Below w.heap.size w w') := by
  by_cases h0 : n = 0
  · subst h0
    obtain rfl : ss = [] := List.eq_nil_of_length_eq_zero h.len
    exact (rising0 A c w hnil).mono fun e w' ⟨he, hb⟩ => ⟨none, 0, [], he, rfl, OwnS.nil _ _, hb⟩
  · exact (rising_any ss n (by omega) hn47 A c w h).mono fun e w' ⟨g, c', ds, he, h1, h2, h3⟩ => ⟨_, c', ds, he, h1, h2, h3⟩
end Go.Proofs.YtgldkfaiofkhbaaDoor.Rising0

namespace Go.Proofs.YtgldkfaiofkhbaaDoor.Verify
open Go Go.RowKit Go.Proofs.YtgldkfaiofkhbaaDoor Go.Proofs.YtgldkfaiofkhbaaDoor.Mem Go.Proofs.YtgldkfaiofkhbaaDoor.Sha Go.Proofs.YtgldkfaiofkhbaaDoor.Bytes Go.Proofs.YtgldkfaiofkhbaaDoor.SortP Go.Proofs.YtgldkfaiofkhbaaDoor.NoteP Go.Proofs.YtgldkfaiofkhbaaDoor.Grown Go.Proofs.YtgldkfaiofkhbaaDoor.Want Go.Proofs.YtgldkfaiofkhbaaDoor.Append Go.Proofs.YtgldkfaiofkhbaaDoor.Own Go.Proofs.YtgldkfaiofkhbaaDoor.Rise Go.Proofs.YtgldkfaiofkhbaaDoor.SortM Go.Proofs.YtgldkfaiofkhbaaDoor.SgM Go.Proofs.YtgldkfaiofkhbaaDoor.HashMem Go.Proofs.YtgldkfaiofkhbaaDoor.HeadMem Go.Proofs.YtgldkfaiofkhbaaDoor.EncNoteP Go.Proofs.YtgldkfaiofkhbaaDoor.EncNote Go.Proofs.YtgldkfaiofkhbaaDoor.NoteM Go.Proofs.YtgldkfaiofkhbaaDoor.RefNote Go.Proofs.YtgldkfaiofkhbaaDoor.Sign Go.Proofs.YtgldkfaiofkhbaaDoor.Signs Go.Proofs.YtgldkfaiofkhbaaDoor.Check Go.Proofs.YtgldkfaiofkhbaaDoor.Decode Go.Proofs.YtgldkfaiofkhbaaDoor.Rising0 Go.Proofs.YtgldkfaiofkhbaaDoor.RingM Go.Proofs.YtgldkfaiofkhbaaDoor.BinH Go.Proofs.YtgldkfaiofkhbaaDoor.RingS Go.Proofs.YtgldkfaiofkhbaaDoor.NewRing Go.Proofs.YtgldkfaiofkhbaaDoor.Find Go.Proofs.YtgldkfaiofkhbaaDoor.VerP

theorem size32v : (Tryd.prog.info? 23).map (·.size) = some 32 := by kernel_rfl
theorem zero32v : ((Tryd.prog.info? 23).bind (·.zero)).isSome = true := by kernel_rfl
theorem info32v : (Tryd.prog.info? 23).map (fun i => (i.zero, i.size, i.bytes)) = some (some (.agg Z32), 32, 32) := by kernel_rfl
theorem eql_nil (w : World) (a : Option Addr) (n c : Nat) : (binOp .eql 31 (.slice a n c) (.slice none 0 0)).run Tryd.prog w = .ok (.bool a.isNone) w := by
  simp only [binOp]
  simp [Op.equal, Op.maxDepth, Lib.run_equalIn_slice_nil w 9999 31 _ a n c 0 0 Tryd.underlying31]
theorem out_ver {keys : List Text} {h : HeadD} {ss : List Text} {least : Int} {w w' : World} {o : Option (List Text)} {k : Int} {v : Value} (ha : verAns keys h ss least = (o, k)) (hb : Below w.heap.size w w') (hp : IdsPost w.heap.size w' v o) : VerOut keys h ss least w (.returned (.tuple #[v, .int .i64 k])) w' := ⟨v, by rw [ha], hb, by rw [ha]; exact hp⟩
set_option maxRecDepth 100000 in
set_option maxHeartbeats 8000000 in
theorem verify_any (keys : List Text) (l : List KD) (hpm : (l.map (·.q)).Perm keys) (hst : Strict idK l) (hl64 : l.length ≤ 64) (hkb : ∀ x ∈ l, keyB x.q.length = true) (h : HeadD) (ok : h.Ok) (ss : List Text) (n : Nat) (A : Option Addr) (c : Nat) (hnil : A = none → n = 0 ∧ c = 0) (least : Int) (R : Nat) (w : World) (hB : Base w) (hR : RingAt w R l) (hS : Sgs w A n ss) :
    Calls Tryd.prog 53 #[.pointer (some ⟨R, 0, none⟩), .agg (noteCells h (.slice A n c)).toArray, .int .i64 least] w (VerOut keys h ss least w) := by
  obtain ⟨w0, hw0⟩ : ∃ w0, Hid (w.alloc (.cells (noteCells h (.slice A n c)).toArray 40) = w0) := ⟨_, Lib.hid rfl⟩
  have N0 : Hid (NoteAt w0 w.heap.size h A n c ss) := by show NoteAt _ _ _ _ _ _ _; rw [← hw0.out]; exact NoteAt.new hS
  have hb0 : Hid (Below w.heap.size w w0) := by show Below _ _ _; rw [← hw0.out]; exact Below.heap_below w _
  have hw0' := hw0.out
  have zN := Lib.hid (fun v => note_size ok v)
  have hBs : Hid (∀ w', Below w.heap.size w w' → Base w') := fun w' hb => hB.below hb hB.1
  have hRs : Hid (∀ w', Below w.heap.size w w' → RingAt w' R l) := fun w' hb => hR.below hb
  have ok' := Lib.hid ok
  have hnl := Lib.hid hnil
  have hpm0 := Lib.hid hpm
  have hst0 := Lib.hid hst
  have hl0 := Lib.hid hl64
  have hkb0 := Lib.hid hkb
  clear hw0 hB hR hS ok hnil hpm hst hl64 hkb
  by_cases hl1 : least < 1
  · have ha : Hid (verAns keys h ss least = (none, 1)) := by show _ = _; unfold verAns; rw [if_pos (.inl hl1)]
    go_enter Tryd.func53, Tryd.ntmps53
    go_wp2_with fail
    go_ret2
    exact out_ver ha.out hb0.out rfl
  by_cases hl2 : 16 < least
  · have ha : Hid (verAns keys h ss least = (none, 1)) := by show _ = _; unfold verAns; rw [if_pos (.inr hl2)]
    have x1 : (least < 1) = False := eq_false hl1
    clear hl1
    go_enter Tryd.func53, Tryd.ntmps53
    go_wp2_with fail
    go_ret2
    exact out_ver ha.out hb0.out rfl
  have x1 : (least < 1) = False := eq_false hl1
  have x2 : ((16 : Int) < least) = False := eq_false hl2
  have hls : Hid (¬ (least < 1 ∨ 16 < least)) := fun h => by rcases h with h | h <;> contradiction
  clear hl1 hl2
  obtain ⟨k7, hk7⟩ : ∃ k7, Hid ((noteAns h ss).2 = k7) := ⟨_, Lib.hid rfl⟩
  by_cases hk0 : ¬ (k7 = 0)
  · have ha : Hid (verAns keys h ss least = (none, 8)) := by show _ = _; unfold verAns; rw [if_neg hls.out, hk7.out, if_neg hk0]
    go_enter Tryd.func53, Tryd.ntmps53
    go_wp2_with (first
    | (((with_reducible change wpList _ _ _ ({ dst := some 23, op := _, type := _, pos := _, after := _, guard := _ } :: _) _ _); refine wpList_load_row (o := ⟨some 23, _, _, _, _, _⟩) rfl 40 (.tmp 4) rfl (w.heap.size) rfl 40 ((noteCells h (.slice A n c)).toArray) (0, 0) _ N0.out.blk Tryd.underlying40 rfl (zN.out _) ?_))
    | (go_at_call 100; refine (encnote_any h ok'.out ss n A c w0 N0.out.sgs).mono ?_; rw [hk7.out]; rintro e w1 ⟨v1, rfl, hb1, -⟩; have bb1 : Hid (Below w.heap.size w w1) := hb0.out.trans (hb1.mono hb0.out.size); have N1 := Lib.hid (N0.out.below hb1); have hR1 := N1.out.row ok'.out; clear hb1 hw0'))

    go_ret2
    exact out_ver ha.out bb1.out rfl
  have hk1 : k7 = 0 := Decidable.not_not.1 hk0
  subst hk1
  clear hk0
  obtain ⟨hn16, rs, hrs⟩ : n ≤ 16 ∧ ∃ rs, Hid (rising kyS ss = some rs) := by
    rcases note_cases h ss n N0.out.sgs.len with ⟨-, e⟩ | ⟨-, -, e⟩ | ⟨-, -, e⟩ | ⟨-, -, -, -, e⟩ | ⟨-, -, h3, rs, h4, e⟩
    · have := hk7.out; rw [e] at this; cases this
    · have := hk7.out; rw [e] at this; cases this
    · have := hk7.out; rw [e] at this; cases this
    · have := hk7.out; rw [e] at this; cases this
    · exact ⟨h3, rs, h4⟩
  have hn0 := Lib.hid hn16
  clear hn16
  have hvE : Hid (verAns keys h ss least = verEnd (verF keys h rs) least) := by show _ = _; unfold verAns; rw [if_neg hls.out, hk7.out, if_pos rfl, hrs.out]; rfl
  obtain ⟨vf, hvf⟩ : ∃ vf, Hid (verF keys h rs = vf) := ⟨_, Lib.hid rfl⟩
  rw [hvf.out] at hvE
  obtain ⟨i0, ii, iz0, iz1, iz2⟩ := info_partsN info32v
  go_enter Tryd.func53, Tryd.ntmps53
  go_upto_region 8 with (first
    | (((with_reducible change wpList _ _ _ ({ dst := some 23, op := _, type := _, pos := _, after := _, guard := _ } :: _) _ _); refine wpList_load_row (o := ⟨some 23, _, _, _, _, _⟩) rfl 40 (.tmp 4) rfl (w.heap.size) rfl 40 ((noteCells h (.slice A n c)).toArray) (0, 0) _ N0.out.blk Tryd.underlying40 rfl (zN.out _) ?_))
    | (go_at_call 100; refine (encnote_any h ok'.out ss n A c w0 N0.out.sgs).mono ?_; rw [hk7.out]; rintro e w1 ⟨v1, rfl, hb1, -⟩; have bb1 : Hid (Below w.heap.size w w1) := hb0.out.trans (hb1.mono hb0.out.size); have N1 := Lib.hid (N0.out.below hb1); have hR1 := N1.out.row ok'.out; clear hb1 hw0')
    | (go_at_call 101; refine (rising_all ss n (by have := hn0.out; omega) A c w1 N1.out.sgs hnl.out).mono ?_; rintro e w3 ⟨A3, c3, ds, rfl, hri, hO3, hb3⟩; rw [hrs.out] at hri; obtain ⟨hr0, rfl⟩ := some_yes hri.out; rw [hr0]; have bb3 : Hid (Below w.heap.size w w3) := bb1.out.trans (hb3.out.mono bb1.out.size); have N3 := Lib.hid (N1.out.below hb3.out); have hS3 : Hid (Sgs w3 A3 n rs) := (by obtain ⟨A9, c9, e9, -, -, -, x, -⟩ := hO3.out.reads; injection e9 with e9 _ e10; subst e9 e10; exact x); clear hri hO3 hb3 bb1 N1 hR1))

  have hsz : Hid ((Tryd.prog.info? 36).map (·.size) = some (headCells h).length) := by show _ = _; rw [headCells_len ok'.out]; exact size98
  go_wp2_with fail
  go_loopw [12, 37] (fun v12 v37 wr => ∃ (i m c12 : Nat) (A12 : Option Addr) (ids : List Text), v37 = .int .i64 (i : Int) ∧ v12 = .slice A12 m c12 ∧ Hid (i ≤ n) ∧ Hid (m ≤ i) ∧ Hid (ids.length = m) ∧ Hid (∀ d ∈ ids, d.length = 32) ∧ Hid (World.ownsRow wr w3.heap.size 23 32 (.slice A12 m c12) m (ids.flatMap cells8)) ∧ Hid (vf = (verF keys h (rs.drop i)).map (ids ++ ·)) ∧ Hid (Below w3.heap.size w3 wr)) (fun _ v _ => n - (intOf v).toNat)
  case atStart => exact ⟨0, 0, 0, none, [], rfl, rfl, Nat.zero_le _, Nat.le_refl _, rfl, (fun d hd => by cases hd), World.ownsRow_nil _ _ _ _, (by show _ = _; rw [← hvf.out, List.drop_zero]; simp), Below.refl _ _⟩
  case round =>
    obtain ⟨i, m, c12, A12, ids, rfl, rfl, hin, hmi, hil, hid, hO, hv, hbe⟩ := hrel
    have hi6 : (i : Int) ≤ 16 := by have := hin.out; have := hn0.out; omega
    have hz0 : (0 : Int) ≤ (i : Int) := by omega
    have Nr := Lib.hid (N3.out.below hbe.out)
    have Sr := Lib.hid (hS3.out.below hbe.out)
    have bbr : Hid (Below w.heap.size w wr) := bb3.out.trans (hbe.out.mono bb3.out.size)
    by_cases hlt : i < n
    · have hz : (i : Int) < (n : Int) := by omega
      have hlt' : Hid (i < n) := hlt
      obtain ⟨x, hx⟩ : ∃ x, Hid (rs[i]? = some x) := ⟨_, List.getElem?_eq_getElem (by rw [Sr.out.len]; exact hlt)⟩
      have hxl := Lib.hid (Sr.out.all x (List.mem_of_getElem? hx.out))
      obtain ⟨bx, ox, hA, hbx, hcx⟩ := Sr.out.at_ hx.out
      subst hA
      have hcx' := Lib.hid hcx
      have s64 : Hid ((Tryd.prog.info? 116).map (·.size) = some (cells8 x).length) := by show _ = _; rw [cells8_len, hxl.out]; exact Sign.size64
      have s1 := Lib.hid (sign_size x hxl.out)
      have s2 := Lib.hid (sign_zero x hxl.out)
      have s3 := Lib.hid (sign_one x)
      have hkl := Lib.hid (kyS_len hxl.out)
      have sK : Hid ((Tryd.prog.info? 23).map (·.size) = some (cells8 (kyS x)).length) := by show _ = _; rw [cells8_len, hkl.out]; exact size32v
      have q1 : Hid (∀ v ∈ [cells8 (kyS x)], v.length = 32) := fun v hv => by simp only [List.mem_singleton] at hv; rw [hv, cells8_len, hkl.out]
      clear hcx hlt
      go_upto_region 12 with (first
    | (((with_reducible change wpList _ _ _ ({ dst := some 40, op := _, type := _, pos := _, after := _, guard := _ } :: _) _ _); refine wpList_load_part (o := ⟨some 40, _, _, _, _, _⟩) rfl 116 (.tmp 39) rfl (bx) ((ox + i * 64)) rfl (cells8 x) _ hcx'.out Tryd.underlying116 rfl s64.out ?_))
    | ((with_reducible change wpList _ _ _ ({ dst := none, op := Op.store 116 (.tmp 14) (.tmp 40), type := _, pos := _, after := _, guard := _ } :: _) _ _); refine wpList_store_all (o := ⟨none, _, _, _, _, _⟩) rfl 116 (.tmp 14) (.tmp 40) rfl wr.heap.size (cells8 x).toArray rfl rfl 116 Z64 (Blk.new wr _ _) s1.out s2.out s3.out ?_; intro w4 hB4 hk4; have b4 : Hid (Below wr.heap.size wr w4) := below_new hk4; have hB4' : Hid (Blk w4 wr.heap.size 116 (cells8 x).toArray) := hB4; clear hk4 hB4; obtain ⟨g14, hg14⟩ : ∃ g14, Hid (wr.heap.size = g14) := ⟨_, Lib.hid rfl⟩; rw [hg14.out] at hB4' ⊢)
    | (((with_reducible change wpList _ _ _ ({ dst := some 43, op := _, type := _, pos := _, after := _, guard := _ } :: _) _ _); refine wpList_load_part (o := ⟨some 43, _, _, _, _, _⟩) rfl 23 (.tmp 42) rfl (g14) (0) rfl (cells8 (kyS x)) _ (fun j u hu => (hB4'.out.cell (0 + j)).trans (by rw [List.getElem?_toArray]; exact ky_cell hu)) Tryd.underlying23 rfl sK.out ?_))
    | (go_at_call 102; refine (find_any l hl0.out hst0.out (kyS x) hkl.out R w4 (hRs.out w4 (bbr.out.trans (b4.out.mono bbr.out.size)))).mono ?_; intro e w5 hF; obtain ⟨hb5, v15, rfl, hv15⟩ := find_split hF; have b45 : Hid (Below wr.heap.size wr w5) := b4.out.trans (hb5.mono b4.out.size); have bb5 : Hid (Below w.heap.size w w5) := bbr.out.trans (b45.out.mono bbr.out.size); have B5 : Hid (Blk w5 g14 116 (cells8 x).toArray) := (hb5.block _ hB4'.out.lt).trans hB4'.out; have N5 := Lib.hid (Nr.out.below b45.out); clear hb5 hF b4 hB4'))

      rcases hv15 with ⟨hno, rfl⟩ | ⟨y, hy, hyd, rfl⟩
      · have hv' : Hid (vf = (verF keys h (rs.drop (i + 1))).map (ids ++ ·)) := hvf.out.symm.trans (ver_skip (hvf.out.trans hv.out) hx.out (pick_none hpm0.out hno))
        have hO' := Lib.hid (own_below hO.out (b45.out))
        have hnn := eql_nil w5 none 0 0
        clear hno
        go_wp2_with fail
        go_roundw
        case rel => exact ⟨i + 1, m, c12, A12, ids, by go_num, rfl, hlt'.out, Nat.le_succ_of_le hmi.out, hil.out, hid.out, hO'.out, hv'.out, hbe.out.trans (b45.out.mono hbe.out.size)⟩
        case measure => (have := hlt'.out; simp [intOf]; omega)
      · have hpk := Lib.hid (pick_some hpm0.out hst0.out hy hyd)
        obtain ⟨_, _, -, -, -, hky⟩ := hRs.out w5 bb5.out
        obtain ⟨hry, hyc, hyn⟩ := hky y hy
        have hk64 := keyB_yes (hkb0.out y hy)
        obtain ⟨by_, oy, hyA, -⟩ := hry.2 (by have := hk64.1; omega)
        obtain ⟨ky, hky'⟩ : ∃ ky, Hid (y.q.length = ky) := ⟨_, Lib.hid rfl⟩
        obtain ⟨yA, hyA'⟩ : ∃ yA, y.A = yA := ⟨_, rfl⟩
        rw [hky'.out] at hry hyc hyn ⊢
        rw [hyA'] at hry hyn hyA ⊢
        subst hyA
        have hry' := Lib.hid hry
        have hyc' := Lib.hid hyc
        obtain ⟨yc, hyc2⟩ : ∃ yc, y.c = yc := ⟨_, rfl⟩
        rw [hyc2] at hyc' ⊢
        obtain ⟨ck, hck⟩ : ∃ ck, Hid (checkAns h x y.q = ck) := ⟨_, Lib.hid rfl⟩
        clear hy hyd hky hry hyc hyn hk64 hyA' hyc2
        have hnn : (binOp .eql 31 (.slice (some ⟨by_, oy, none⟩) ky yc) (.slice none 0 0)).run Tryd.prog w5 = .ok (.bool false) w5 := eql_nil w5 _ ky yc
        go_upto_region 13 with fail
        clear hnn
        by_cases hc0 : ck = 0
        · subst hc0
          have hv' : Hid (vf = (verF keys h (rs.drop (i + 1))).map (ids ++ [kyS x] ++ ·)) := hvf.out.symm.trans (ver_take (hvf.out.trans hv.out) hx.out hpk.out hck.out)
          have m1 : Hid (m + 1 ≤ maxLen) := by show _ ≤ _; have := hmi.out; unfold maxLen; omega
          have m2 : Hid ((m + 1) * 32 ≤ 140737488355328) := by show _ ≤ _; have := hmi.out; omega
          go_wp2_with (first
    | (((with_reducible change wpList _ _ _ ({ dst := some 48, op := _, type := _, pos := _, after := _, guard := _ } :: _) _ _); refine wpList_load_part (o := ⟨some 48, _, _, _, _, _⟩) rfl 36 (.tmp 47) rfl (w.heap.size) (0) rfl (headCells h) _ N5.out.head Tryd.underlying36 rfl hsz.out ?_))
    | (((with_reducible change wpList _ _ _ ({ dst := some 49, op := _, type := _, pos := _, after := _, guard := _ } :: _) _ _); refine wpList_load_row (o := ⟨some 49, _, _, _, _, _⟩) rfl 116 (.tmp 14) rfl (g14) rfl 116 ((cells8 x).toArray) (0, 0) _ B5.out Tryd.underlying116 rfl s1.out ?_))
    | (go_at_call 103; refine (check_any h ok'.out x hxl.out y.q ky hky'.out _ yc w5 (hBs.out w5 bb5.out) hry'.out hyc'.out (fun e => by cases e)).mono ?_; rw [hck.out]; rintro e w6 ⟨rfl, hb6⟩; have b46 : Hid (Below wr.heap.size wr w6) := b45.out.trans (hb6.mono b45.out.size); have bb6 : Hid (Below w.heap.size w w6) := bbr.out.trans (b46.out.mono bbr.out.size); have B6 : Hid (Blk w6 g14 116 (cells8 x).toArray) := (hb6.block _ B5.out.lt).trans B5.out; clear hb6 B5 N5)
    | (((with_reducible change wpList _ _ _ ({ dst := some 55, op := _, type := _, pos := _, after := _, guard := _ } :: _) _ _); refine wpList_load_part (o := ⟨some 55, _, _, _, _, _⟩) rfl 23 (.tmp 54) rfl (g14) (0) rfl (cells8 (kyS x)) _ (fun j u hu => (B6.out.cell (0 + j)).trans (by rw [List.getElem?_toArray]; exact ky_cell hu)) Tryd.underlying23 rfl sK.out ?_))
    | ((with_reducible change wpList _ _ _ ({ dst := some 56, op := _, type := _, pos := _, after := _, guard := _ } :: _) _ _); refine wpList_buildAggs (o := ⟨some 56, _, _, _, _, _⟩) rfl 42 23 1 _ rfl 32 (by decide) [cells8 (kyS x)] Tryd.underlying42 size32v zero32v rfl (by decide) (by decide) q1.out rfl ?_; have hX : Hid (Reads (w6.alloc (.cells ([cells8 (kyS x)].flatten).toArray 23)) 32 (some ⟨w6.heap.size, 0, none⟩) 1 (cells8 (kyS x))) := reads_oneN w6 (by rw [cells8_len, hkl.out]); have b47 : Hid (Below wr.heap.size wr (w6.alloc (.cells ([cells8 (kyS x)].flatten).toArray 23))) := b46.out.alloc b46.out.size _; have hO7 := Lib.hid (own_below hO.out b47.out); have bs7 : Hid (w3.heap.size ≤ (w6.alloc (.cells ([cells8 (kyS x)].flatten).toArray 23)).heap.size) := (by have a1 := hbe.out.size; have a2 := b47.out.size; show _ ≤ _; omega); have be7 : Hid (Below w3.heap.size w3 (w6.alloc (.cells ([cells8 (kyS x)].flatten).toArray 23))) := hbe.out.trans (b47.out.mono hbe.out.size); obtain ⟨w7, hw7⟩ : ∃ w7, w6.alloc (.cells ([cells8 (kyS x)].flatten).toArray 23) = w7 := ⟨_, rfl⟩; rw [hw7] at hX b47 hO7 bs7 be7 ⊢)
    | ((with_reducible change wpList _ _ _ ({ dst := some 57, op := _, type := _, pos := _, after := _, guard := _ } :: _) _ _); refine wpList_append_src _ (o := ⟨some 57, _, _, _, _, _⟩) rfl (.tmp 53) (.tmp 56) 42 rfl w3.heap.size 23 i0 (.agg Z32) 32 32 Tryd.underlying42 ii iz0 iz1 iz2 rfl (by decide) (.slice A12 m c12) m (ids.flatMap cells8) rfl hO7.out (some ⟨w6.heap.size, 0, none⟩) 1 1 (cells8 (kyS x)) rfl hX.out (fun e => by cases e) (cells8_one _) m1.out m2.out bs7.out ?_; intro v9 w9 hG; have hO9' := ids_grown hG; have hb9 : Hid (Below w3.heap.size w3 w9) := hG.below be7.out bs7.out (fun k e => own_at hO7.out k e); obtain ⟨A9, c9, rfl, -⟩ := Own.reads hO9'; have hO9 := Lib.hid hO9'; clear hG hO9'))

          go_roundw
          case rel => exact ⟨i + 1, m + 1, c9, A9, ids ++ [kyS x], by go_num, rfl, hlt'.out, Nat.succ_le_succ hmi.out, (by show _ = _; rw [List.length_append, hil.out]; rfl), (fun d hd => by rcases List.mem_append.1 hd with hd | hd; exact hid.out d hd; simp only [List.mem_singleton] at hd; rw [hd]; exact hkl.out), hO9.out, hv'.out, hb9.out⟩
          case measure => (have := hlt'.out; simp [intOf]; omega)
        · have ha : Hid (verAns keys h ss least = (none, 161)) := by show _ = _; rw [hvE.out, ← hvf.out, ver_bad (hvf.out.trans hv.out) hx.out hpk.out (by rw [hck.out]; exact hc0)]; rfl
          go_wp2_with (first
    | (((with_reducible change wpList _ _ _ ({ dst := some 48, op := _, type := _, pos := _, after := _, guard := _ } :: _) _ _); refine wpList_load_part (o := ⟨some 48, _, _, _, _, _⟩) rfl 36 (.tmp 47) rfl (w.heap.size) (0) rfl (headCells h) _ N5.out.head Tryd.underlying36 rfl hsz.out ?_))
    | (((with_reducible change wpList _ _ _ ({ dst := some 49, op := _, type := _, pos := _, after := _, guard := _ } :: _) _ _); refine wpList_load_row (o := ⟨some 49, _, _, _, _, _⟩) rfl 116 (.tmp 14) rfl (g14) rfl 116 ((cells8 x).toArray) (0, 0) _ B5.out Tryd.underlying116 rfl s1.out ?_))
    | (go_at_call 103; refine (check_any h ok'.out x hxl.out y.q ky hky'.out _ yc w5 (hBs.out w5 bb5.out) hry'.out hyc'.out (fun e => by cases e)).mono ?_; rw [hck.out]; rintro e w6 ⟨rfl, hb6⟩; have b46 : Hid (Below wr.heap.size wr w6) := b45.out.trans (hb6.mono b45.out.size); have bb6 : Hid (Below w.heap.size w w6) := bbr.out.trans (b46.out.mono bbr.out.size); have B6 : Hid (Blk w6 g14 116 (cells8 x).toArray) := (hb6.block _ B5.out.lt).trans B5.out; clear hb6 B5 N5))

          go_ret2
          exact out_ver ha.out bb6.out rfl
    · have hz : ¬ ((i : Int) < (n : Int)) := by omega
      have hdn : Hid (vf = some ids) := hvf.out.symm.trans (ver_done (hvf.out.trans hv.out) (by rw [Sr.out.len]; omega))
      clear hlt
      by_cases hml : (m : Int) < least
      · have ha : Hid (verAns keys h ss least = (none, 7)) := by show _ = _; rw [hvE.out, hdn.out]; show (if _ then _ else _) = _; rw [if_pos (by rw [hil.out]; exact hml)]
        go_wp2_with fail
        go_ret2
        exact out_ver ha.out bbr.out rfl
      · have ha : Hid (verAns keys h ss least = (some ids, 0)) := by show _ = _; rw [hvE.out, hdn.out]; show (if _ then _ else _) = _; rw [if_neg (by rw [hil.out]; exact hml)]
        go_wp2_with fail
        go_ret2
        exact out_ver ha.out bbr.out ⟨hid.out, by rw [hil.out]; exact ownsRow_base hO.out bb3.out.size⟩
end Go.Proofs.YtgldkfaiofkhbaaDoor.Verify

namespace Go.Proofs.YtgldkfaiofkhbaaDoor.AudNew
open Go Go.RowKit Go.Proofs.YtgldkfaiofkhbaaDoor Go.Proofs.YtgldkfaiofkhbaaDoor.Mem Go.Proofs.YtgldkfaiofkhbaaDoor.Sha Go.Proofs.YtgldkfaiofkhbaaDoor.Bytes Go.Proofs.YtgldkfaiofkhbaaDoor.HashMem Go.Proofs.YtgldkfaiofkhbaaDoor.DigestMem Go.Proofs.YtgldkfaiofkhbaaDoor.SortP Go.Proofs.YtgldkfaiofkhbaaDoor.NoteP Go.Proofs.YtgldkfaiofkhbaaDoor.QuietTail Go.Proofs.YtgldkfaiofkhbaaDoor.Grown Go.Proofs.YtgldkfaiofkhbaaDoor.TreeMem Go.Proofs.YtgldkfaiofkhbaaDoor.Held Go.Proofs.YtgldkfaiofkhbaaDoor.Want Go.Proofs.YtgldkfaiofkhbaaDoor.Append Go.Proofs.YtgldkfaiofkhbaaDoor.Own Go.Proofs.YtgldkfaiofkhbaaDoor.Rise Go.Proofs.YtgldkfaiofkhbaaDoor.SortM Go.Proofs.YtgldkfaiofkhbaaDoor.SgM Go.Proofs.YtgldkfaiofkhbaaDoor.HeadMem Go.Proofs.YtgldkfaiofkhbaaDoor.EncNoteP Go.Proofs.YtgldkfaiofkhbaaDoor.EncNote Go.Proofs.YtgldkfaiofkhbaaDoor.RefNote Go.Proofs.YtgldkfaiofkhbaaDoor.NoteM Go.Proofs.YtgldkfaiofkhbaaDoor.Fill Go.Proofs.YtgldkfaiofkhbaaDoor.HeadTake Go.Proofs.YtgldkfaiofkhbaaDoor.Decode Go.Proofs.YtgldkfaiofkhbaaDoor.SignEq Go.Proofs.YtgldkfaiofkhbaaDoor.CmpW Go.Proofs.YtgldkfaiofkhbaaDoor.RingM Go.Proofs.YtgldkfaiofkhbaaDoor.RingS Go.Proofs.YtgldkfaiofkhbaaDoor.VerP Go.Proofs.YtgldkfaiofkhbaaDoor.Verify Go.Proofs.YtgldkfaiofkhbaaDoor.Signs Go.Proofs.YtgldkfaiofkhbaaDoor.HeadID Go.Proofs.YtgldkfaiofkhbaaDoor.Ref17 Go.Proofs.YtgldkfaiofkhbaaDoor.RefCons Go.Proofs.YtgldkfaiofkhbaaDoor.EncConsAny Go.Proofs.YtgldkfaiofkhbaaDoor.AudJoins Go.Proofs.YtgldkfaiofkhbaaDoor.HeadCmp Go.Proofs.YtgldkfaiofkhbaaDoor.GrowP Go.Proofs.YtgldkfaiofkhbaaDoor.AudM Go.Proofs.YtgldkfaiofkhbaaDoor.AudNote Go.Proofs.YtgldkfaiofkhbaaDoor.Digest Go.Proofs.YtgldkfaiofkhbaaDoor.TreeRoot Go.Proofs.YtgldkfaiofkhbaaDoor.DigestTop Go.Proofs.YtgldkfaiofkhbaaDoor.SparseP Go.Proofs.YtgldkfaiofkhbaaDoor.EmptyD Go.Proofs.YtgldkfaiofkhbaaDoor.Clamp

/-- The head of the empty log. -/
def H00 (s : Int) (log : Text) : HeadD := ⟨log, 0, noneOf s, emp s 256, 0⟩
theorem H00_ok (s : Int) {log : Text} (hl : log.length = 32) : (H00 s log).Ok := ⟨hl, cutTo_len _ _ (sum_len _) (clampN_ok s).2, emp_len s 256, (show (-9223372036854775808 : Int) ≤ 0 ∧ (0 : Int) ≤ 9223372036854775807 by decide), (show (-9223372036854775808 : Int) ≤ 0 ∧ (0 : Int) ≤ 9223372036854775807 by decide)⟩
def newA (least : Int) : Int := if least < 1 ∨ 16 < least then 1 else 0
/-- What making an auditor leaves. -/
def NewAud (s : Int) (log : Text) (least : Int) (R : Nat) (w : World) (e : Ending) (w' : World) : Prop := ∃ v k, e = .returned (.tuple #[v, .int .i64 k]) ∧ Below w.heap.size w w' ∧ k = newA least ∧ (k ≠ 0 → v = .pointer none) ∧ (k = 0 → ∃ a, v = .pointer (some ⟨a, 0, none⟩) ∧ w.heap.size ≤ a ∧ AudAt w' a (cl s) least R (H00 (cl s) log) none 0 0 [])
theorem new_no {s : Int} {log : Text} {least : Int} {R : Nat} {w w' : World} {e : Ending} (h : least < 1 ∨ 16 < least) (he : e = .returned (.tuple #[.pointer none, .int .i64 1])) (hb : Below w.heap.size w w') : NewAud s log least R w e w' := ⟨_, _, he, hb, by unfold newA; rw [if_pos h], fun _ => rfl, fun h => by cases h⟩
theorem new_yes {s : Int} {log : Text} {least : Int} {R a : Nat} {w w' : World} {e : Ending} (h : ¬ (least < 1 ∨ 16 < least)) (he : e = .returned (.tuple #[.pointer (some ⟨a, 0, none⟩), .int .i64 0])) (hb : Below w.heap.size w w') (hl : w.heap.size ≤ a) (hA : AudAt w' a (cl s) least R (H00 (cl s) log) none 0 0 []) : NewAud s log least R w e w' := ⟨_, _, he, hb, by unfold newA; rw [if_neg h], fun h => absurd rfl h, fun _ => ⟨a, rfl, hl, hA⟩⟩
theorem built_head (parts : List (Nat × Value)) : Tryd.prog.built 36 parts = Instr.fill (#[((0 : Nat), (32 : Nat)), (32, 1), (33, 32), (65, 32), (97, 1)][·]?) (List.replicate 32 (Value.int .u8 0) ++ ([Value.int .i64 0] ++ (List.replicate 32 (Value.int .u8 0) ++ (List.replicate 32 (Value.int .u8 0) ++ [Value.int .i64 0])))).toArray parts := by kernel_rfl
theorem run_head0 (x y z : Text) (hx : x.length = 32) (hy : y.length = 32) (hz : z.length = 32) (w : World) : (Instr.build 36 #[(0, .agg (cells8 x).toArray), (2, .agg (cells8 y).toArray), (3, .agg (cells8 z).toArray)]).run Tryd.prog w = .ok (.agg (headCells ⟨x, 0, y, z, 0⟩).toArray) w := by
  refine run_build w _ _ _ ?_
  rw [built_head]
  have hc : ∀ t : Text, t.length = 32 → (cells8 t).length = 32 := fun t h => by rw [cells8_len, h]
  have e1 := fill_one (place := (#[((0 : Nat), (32 : Nat)), (32, 1), (33, 32), (65, 32), (97, 1)][·]?)) (i := 0) (v := .agg (cells8 x).toArray) (xs := cells8 x) (old := List.replicate 32 (Value.int .u8 0)) (pre := []) (post := [Value.int .i64 0] ++ (List.replicate 32 (Value.int .u8 0) ++ (List.replicate 32 (Value.int .u8 0) ++ [Value.int .i64 0]))) (rest := [(2, .agg (cells8 y).toArray), (3, .agg (cells8 z).toArray)]) rfl rfl (hc x hx) rfl (by simp)
  have e2 := fill_one (place := (#[((0 : Nat), (32 : Nat)), (32, 1), (33, 32), (65, 32), (97, 1)][·]?)) (i := 2) (v := .agg (cells8 y).toArray) (xs := cells8 y) (old := List.replicate 32 (Value.int .u8 0)) (pre := cells8 x ++ [Value.int .i64 0]) (post := List.replicate 32 (Value.int .u8 0) ++ [Value.int .i64 0]) (rest := [(3, .agg (cells8 z).toArray)]) rfl rfl (hc y hy) (by rw [List.length_append, hc x hx]; rfl) (by simp)
  have e3 := fill_one (place := (#[((0 : Nat), (32 : Nat)), (32, 1), (33, 32), (65, 32), (97, 1)][·]?)) (i := 3) (v := .agg (cells8 z).toArray) (xs := cells8 z) (old := List.replicate 32 (Value.int .u8 0)) (pre := cells8 x ++ [Value.int .i64 0] ++ cells8 y) (post := [Value.int .i64 0]) (rest := []) rfl rfl (hc z hz) (by rw [List.length_append, List.length_append, hc x hx, hc y hy]; rfl) (by simp)
  rw [fill_nil] at e3
  simp only [List.nil_append, List.append_assoc] at e1 e2 e3
  rw [e1, e2, e3]
  rfl
theorem built_aud (parts : List (Nat × Value)) : Tryd.prog.built 110 parts = Instr.fill (#[((0 : Nat), (1 : Nat)), (1, 1), (2, 1), (3, 99)][·]?) ([Value.int .i64 0] ++ ([Value.int .i64 0] ++ ([Value.pointer none] ++ Z99.toList))).toArray parts := by kernel_rfl
theorem run_aud (s least : Int) (R : Nat) {h : HeadD} (ok : h.Ok) (v : Value) (w : World) : (Instr.build 110 #[(0, .int .i64 s), (1, .int .i64 least), (2, .pointer (some ⟨R, 0, none⟩)), (3, .agg (noteCells h v).toArray)]).run Tryd.prog w = .ok (.agg (audC s least R h v).toArray) w := by
  refine run_build w _ _ _ ?_
  rw [built_aud]
  have e1 := fill_one (place := (#[((0 : Nat), (1 : Nat)), (1, 1), (2, 1), (3, 99)][·]?)) (i := 0) (v := .int .i64 s) (xs := [.int .i64 s]) (old := [Value.int .i64 0]) (pre := []) (post := [Value.int .i64 0] ++ ([Value.pointer none] ++ Z99.toList)) (rest := [(1, .int .i64 least), (2, .pointer (some ⟨R, 0, none⟩)), (3, .agg (noteCells h v).toArray)]) rfl rfl rfl rfl rfl
  have e2 := fill_one (place := (#[((0 : Nat), (1 : Nat)), (1, 1), (2, 1), (3, 99)][·]?)) (i := 1) (v := .int .i64 least) (xs := [.int .i64 least]) (old := [Value.int .i64 0]) (pre := [.int .i64 s]) (post := [Value.pointer none] ++ Z99.toList) (rest := [(2, .pointer (some ⟨R, 0, none⟩)), (3, .agg (noteCells h v).toArray)]) rfl rfl rfl rfl rfl
  have e3 := fill_one (place := (#[((0 : Nat), (1 : Nat)), (1, 1), (2, 1), (3, 99)][·]?)) (i := 2) (v := .pointer (some ⟨R, 0, none⟩)) (xs := [.pointer (some ⟨R, 0, none⟩)]) (old := [Value.pointer none]) (pre := [.int .i64 s, .int .i64 least]) (post := Z99.toList) (rest := [(3, .agg (noteCells h v).toArray)]) rfl rfl rfl rfl rfl
  have e4 := fill_one (place := (#[((0 : Nat), (1 : Nat)), (1, 1), (2, 1), (3, 99)][·]?)) (i := 3) (v := .agg (noteCells h v).toArray) (xs := noteCells h v) (old := Z99.toList) (pre := [.int .i64 s, .int .i64 least, .pointer (some ⟨R, 0, none⟩)]) (post := []) (rest := []) rfl rfl (noteCells_len ok v) rfl (by rw [Array.length_toList]; exact z99_size)
  rw [fill_nil] at e4
  simp only [List.nil_append, List.append_nil, List.cons_append] at e1 e2 e3 e4
  simp only [List.nil_append, List.cons_append]
  rw [e1, e2, e3, e4]
  rfl
theorem sizeAu : (Tryd.prog.info? 110).map (·.size) = some 102 := by kernel_rfl
structure FitH (cs : Array Value) : Prop where
  size : (Tryd.prog.info? 36).map (·.size) = some cs.size
  zero : Z98.size = cs.size
  one : cs.all (fun v => v.oneCell') = true
theorem fitH {h : HeadD} (ok : h.Ok) : FitH (headCells h).toArray := ⟨by rw [List.size_toArray, headCells_len ok]; exact size98, z98_size.trans (show 98 = (headCells h).length from (headCells_len ok).symm), by rw [List.all_toArray]; exact List.all_eq_true.2 (headCells_one h)⟩
set_option maxRecDepth 100000 in
set_option maxHeartbeats 4000000 in
theorem audNew_any (s : Int) (log : Text) (hl : log.length = 32) (least : Int) (R : Nat) (w : World) (hB : Base w) :
    Calls Tryd.prog 9 #[.int .i64 s, .agg (cells8 log).toArray, .pointer (some ⟨R, 0, none⟩), .int .i64 least] w (NewAud s log least R w) := by
  have hb0 : Hid (Below w.heap.size w (w.alloc (.cells (cells8 log).toArray 23))) := Below.heap_below w _
  by_cases hl1 : least < 1
  · go_enter Tryd.func9, Tryd.ntmps9
    go_wp2_with fail
    go_ret2
    exact new_no (.inl hl1) rfl hb0.out
  by_cases hl2 : 16 < least
  · have x1 : (least < 1) = False := eq_false hl1
    go_enter Tryd.func9, Tryd.ntmps9
    go_wp2_with fail
    go_ret2
    exact new_no (.inr hl2) rfl hb0.out
  have x1 : (least < 1) = False := eq_false hl1
  have x2 : ((16 : Int) < least) = False := eq_false hl2
  have hls : Hid (¬ (least < 1 ∨ 16 < least)) := fun h => by rcases h with h | h <;> contradiction
  clear hl1 hl2
  obtain ⟨sc, hsc⟩ : ∃ sc, Hid (cl s = sc) := ⟨_, Lib.hid rfl⟩
  obtain ⟨nn, hnn⟩ : ∃ x, Hid (noneOf sc = x) := ⟨_, Lib.hid rfl⟩
  obtain ⟨ee, hee⟩ : ∃ x, Hid (emp sc 256 = x) := ⟨_, Lib.hid rfl⟩
  have hnl : Hid (nn.length = 32) := by show _ = _; rw [← hnn.out]; exact cutTo_len _ _ (sum_len _) (clampN_ok sc).2
  have hel : Hid (ee.length = 32) := by show _ = _; rw [← hee.out]; exact emp_len sc 256
  have hH0 : Hid (H00 sc log = ⟨log, 0, nn, ee, 0⟩) := by show _ = _; rw [← hnn.out, ← hee.out]; rfl
  have okH : Hid ((⟨log, 0, nn, ee, 0⟩ : HeadD).Ok) := by show HeadD.Ok _; rw [← hH0.out]; exact H00_ok sc hl
  have hNo : Hid (∀ w', Below w.heap.size w w' → Calls Tryd.prog 50 #[.int .i64 sc] w' fun e w'' => e = .returned (.agg (cells8 nn).toArray) ∧ Below w'.heap.size w' w'') := fun w' hb => by
    have := nothing_any sc w' (hB.below hb hB.1)
    rw [← hnn.out]
    exact this
  have hEm : Hid (∀ w', Below w.heap.size w w' → Calls Tryd.prog 51 #[.int .i64 sc, .int .i64 256] w' fun e w'' => e = .returned (.agg (cells8 ee).toArray) ∧ Below w'.heap.size w' w'') := fun w' hb => by
    have := emptyH_any sc w' (hB.below hb hB.1)
    rw [hee.out] at this
    exact this
  have hbh := Lib.hid (fun w' => run_head0 log nn ee hl hnl.out hel.out w')
  have hfl := Lib.hid (dig_size log hl)
  obtain ⟨H, hH⟩ : ∃ H : HeadD, Hid (H = ⟨log, 0, nn, ee, 0⟩) := ⟨_, Lib.hid rfl⟩
  rw [← hH.out] at hbh okH hH0
  have hFH := Lib.hid (fitH okH.out)
  have hn0 := Lib.hid (fun w' => run_note0 okH.out w')
  have hau := Lib.hid (fun v w' => run_aud sc least R okH.out v w')
  have hsH : Hid ((Tryd.prog.info? 110).map (·.size) = some (audC sc least R H (.slice none 0 0)).toArray.size) := by show _ = _; rw [List.size_toArray, audC_len okH.out]; exact sizeAu
  have hBl : Hid (Blk (w.alloc (.cells (cells8 log).toArray 23)) w.heap.size 23 (cells8 log).toArray) := Blk.new w _ _
  clear hB hnn hee hnl hel hH hl
  go_enter Tryd.func9, Tryd.ntmps9
  go_upto_region 3 with fail
  try clear x1 x2
  generalize w.alloc (.cells (cells8 log).toArray 23) = w1 at *
  go_cut [0] from 21 to 24 (fun v wr => v = .int .i64 sc ∧ Hid (w1 = wr))
  case first =>
    have hmn : min (max s 1) 32 = sc := by
      have h := hsc.out
      unfold cl clampN at h
      split at h
      · omega
      · split at h <;> omega
    replace hmn := Lib.hid hmn
    clear hNo hEm hbh hFH hn0 hau hsH hH0 okH
    go_wp2_with fail
    go_meet
    case rel => exact ⟨by rw [hmn.out], rfl⟩
  case rest =>
    obtain ⟨rfl, hw⟩ := hcut
    obtain rfl := hw.out
    clear hw
    go_upto_region 4 with fail
    go_cut [10] from 24 to 30 (fun v wr => ∃ gh, v = .pointer (some ⟨gh, 0, none⟩) ∧ Hid (Blk wr gh 36 (headCells H).toArray) ∧ Hid (Below w1.heap.size w1 wr))
    case first =>
      have s0 : Hid (Below w1.heap.size w1 w1.drew) := (Below.refl _ _).drew
      refine held_start (fun w' => Below w1.heap.size w1 w') 8 rfl (by kernel_rfl) ?_
      refine held_take (i := 0) (v := .agg ((cells8 log).toArray)) rfl (by kernel_rfl) (by kernel_rfl) (by kernel_rfl) (fun _ _ _ h => h) s0.out (by rfl) (fun w' hw' => exec_row 23 (.tmp 5) rfl (w.heap.size) rfl 23 ((cells8 log).toArray) (0, 0) _ ((show Blk w' w.heap.size 23 (cells8 log).toArray from (hw'.block _ hBl.out.lt).trans hBl.out)) Tryd.underlying23 rfl hfl.out) ?_
      (intro K hK; go_simp; refine hK _ ?_; clear hK K)
      refine held_take (i := 1) (v := .int .i64 sc) rfl (by kernel_rfl) (by kernel_rfl) (by kernel_rfl) (fun _ _ _ h => h) s0.out (by rfl) (fun w' hw' => run_mv (.tmp 0) rfl w') ?_
      (intro K hK; go_simp; refine hK _ ?_; clear hK K)
      refine held_take (i := 3) (v := .int .i64 sc) rfl (by kernel_rfl) (by kernel_rfl) (by kernel_rfl) (fun _ _ _ h => h) s0.out (by rfl) (fun w' hw' => run_mv (.tmp 0) rfl w') ?_
      (intro K hK; go_simp; refine hK _ ?_; clear hK K)
      refine held_two (i := 2) (j := 6) rfl rfl (by kernel_rfl) (by rfl) (by rfl) (fun K hK => ?_) (fun K hK => ?_)
      · refine wp_fn (R := fun v w'' => v = .agg (cells8 nn).toArray ∧ Below w1.heap.size w1 w'' ∧ Below (w1.drew).heap.size (w1.drew) w'') (args := #[.int .i64 sc]) _ _ rfl rfl Tryd.func50 (by kernel_rfl) (by kernel_rfl) ((hNo.out _ (hb0.out.trans ((s0.out).mono hb0.out.size))).mono fun e w'' ⟨he, hb⟩ => ⟨_, he, rfl, s0.out.trans (hb.mono s0.out.size), hb⟩) ?_
        rintro qq w5 ⟨rfl, h5, kk1⟩
        replace h5 := Lib.hid h5
        replace kk1 := Lib.hid kk1
        clear kk1
        go_simp
        refine hK _ _ h5.out ?_
        clear hK K
        refine held_two (i := 4) (j := 6) rfl rfl (by kernel_rfl) (by rfl) (by rfl) (fun K hK => ?_) (fun K hK => ?_)
        · refine wp_fn (R := fun v w'' => v = .agg (cells8 ee).toArray ∧ Below w1.heap.size w1 w'' ∧ Below (w5).heap.size (w5) w'') (args := #[.int .i64 sc, .int .i64 256]) _ _ rfl rfl Tryd.func51 (by kernel_rfl) (by kernel_rfl) ((hEm.out _ (hb0.out.trans ((h5.out).mono hb0.out.size))).mono fun e w'' ⟨he, hb⟩ => ⟨_, he, rfl, h5.out.trans (hb.mono h5.out.size), hb⟩) ?_
          rintro qq w6 ⟨rfl, h6, kk1⟩
          replace h6 := Lib.hid h6
          replace kk1 := Lib.hid kk1
          clear kk1
          go_simp
          refine hK _ _ h6.out ?_
          clear hK K
          refine held_take (i := 5) (v := .agg (headCells H).toArray) rfl (by kernel_rfl) (by kernel_rfl) (by kernel_rfl) (fun _ _ _ h => h) h6.out (by rfl) (fun w' hw' => exec_build 36 #[(0, .tmp 24), (2, .tmp 26), (3, .tmp 28)] rfl #[(0, .agg (cells8 log).toArray), (2, .agg (cells8 nn).toArray), (3, .agg (cells8 ee).toArray)] (by first | rfl | (simp [Act.eval]; done)) _ (hbh.out w')) ?_
          (intro K hK; go_simp; refine hK _ ?_; clear hK K)
          refine held_only (i := 6) rfl (by kernel_rfl) (by rfl) (fun K hK => ?_)
          have h7 := Lib.hid (h6.out.alloc h6.out.size (.cells Z98 36))
          have bb : Hid (Blk (w6.alloc (.cells Z98 36)) w6.heap.size 36 Z98) := Blk.new _ _ _
          go_simp
          refine hK _ _ h7.out ?_
          clear hK K
          refine held_only (i := 7) rfl (by kernel_rfl) (by rfl) (fun K hK => ?_)
          refine wp_store_whole 36 (.tmp 10) (.tmp 29) rfl (w6.heap.size) ((headCells H).toArray) rfl rfl 36 (Z98) (bb.out) hFH.out.size hFH.out.zero hFH.out.one ?_
          intro w99 B9 k9
          have b9 : Hid (Below w1.heap.size w1 w99) := h7.out.trans (Kept.below_of k9 (h6.out.size) h7.out.size)
          go_simp
          refine hK _ _ b9.out ?_
          clear hK K
          refine held_end (by kernel_rfl) ?_
          go_wp2_with fail
          go_meet
          case rel => exact ⟨_, rfl, B9, b9.out⟩
        · have h6 := Lib.hid (h5.out.alloc h5.out.size (.cells Z98 36))
          have bb : Hid (Blk (w5.alloc (.cells Z98 36)) w5.heap.size 36 Z98) := Blk.new _ _ _
          go_simp
          refine hK _ _ h6.out ?_
          clear hK K
          refine held_only (i := 4) rfl (by kernel_rfl) (by rfl) (fun K hK => ?_)
          refine wp_fn (R := fun v w'' => v = .agg (cells8 ee).toArray ∧ Below w1.heap.size w1 w'' ∧ Below ((w5.alloc (.cells Z98 36))).heap.size ((w5.alloc (.cells Z98 36))) w'') (args := #[.int .i64 sc, .int .i64 256]) _ _ rfl rfl Tryd.func51 (by kernel_rfl) (by kernel_rfl) ((hEm.out _ (hb0.out.trans ((h6.out).mono hb0.out.size))).mono fun e w'' ⟨he, hb⟩ => ⟨_, he, rfl, h6.out.trans (hb.mono h6.out.size), hb⟩) ?_
          rintro qq w7 ⟨rfl, h7, kk1⟩
          replace h7 := Lib.hid h7
          replace kk1 := Lib.hid kk1
          replace bb := Lib.hid ((kk1.out.block _ (Blk.lt bb.out)).trans bb.out)
          clear kk1
          go_simp
          refine hK _ _ h7.out ?_
          clear hK K
          refine held_take (i := 5) (v := .agg (headCells H).toArray) rfl (by kernel_rfl) (by kernel_rfl) (by kernel_rfl) (fun _ _ _ h => h) h7.out (by rfl) (fun w' hw' => exec_build 36 #[(0, .tmp 24), (2, .tmp 26), (3, .tmp 28)] rfl #[(0, .agg (cells8 log).toArray), (2, .agg (cells8 nn).toArray), (3, .agg (cells8 ee).toArray)] (by first | rfl | (simp [Act.eval]; done)) _ (hbh.out w')) ?_
          (intro K hK; go_simp; refine hK _ ?_; clear hK K)
          refine held_only (i := 7) rfl (by kernel_rfl) (by rfl) (fun K hK => ?_)
          refine wp_store_whole 36 (.tmp 10) (.tmp 29) rfl (w5.heap.size) ((headCells H).toArray) rfl rfl 36 (Z98) (bb.out) hFH.out.size hFH.out.zero hFH.out.one ?_
          intro w99 B9 k9
          have b9 : Hid (Below w1.heap.size w1 w99) := h7.out.trans (Kept.below_of k9 (h5.out.size) h7.out.size)
          go_simp
          refine hK _ _ b9.out ?_
          clear hK K
          refine held_end (by kernel_rfl) ?_
          go_wp2_with fail
          go_meet
          case rel => exact ⟨_, rfl, B9, b9.out⟩
      · have h5 := Lib.hid (s0.out.alloc s0.out.size (.cells Z98 36))
        have bb : Hid (Blk (w1.drew.alloc (.cells Z98 36)) w1.heap.size 36 Z98) := Blk.new _ _ _
        go_simp
        refine hK _ _ h5.out ?_
        clear hK K
        refine held_only (i := 2) rfl (by kernel_rfl) (by rfl) (fun K hK => ?_)
        refine wp_fn (R := fun v w'' => v = .agg (cells8 nn).toArray ∧ Below w1.heap.size w1 w'' ∧ Below ((w1.drew.alloc (.cells Z98 36))).heap.size ((w1.drew.alloc (.cells Z98 36))) w'') (args := #[.int .i64 sc]) _ _ rfl rfl Tryd.func50 (by kernel_rfl) (by kernel_rfl) ((hNo.out _ (hb0.out.trans ((h5.out).mono hb0.out.size))).mono fun e w'' ⟨he, hb⟩ => ⟨_, he, rfl, h5.out.trans (hb.mono h5.out.size), hb⟩) ?_
        rintro qq w6 ⟨rfl, h6, kk1⟩
        replace h6 := Lib.hid h6
        replace kk1 := Lib.hid kk1
        replace bb := Lib.hid ((kk1.out.block _ (Blk.lt bb.out)).trans bb.out)
        clear kk1
        go_simp
        refine hK _ _ h6.out ?_
        clear hK K
        refine held_only (i := 4) rfl (by kernel_rfl) (by rfl) (fun K hK => ?_)
        refine wp_fn (R := fun v w'' => v = .agg (cells8 ee).toArray ∧ Below w1.heap.size w1 w'' ∧ Below (w6).heap.size (w6) w'') (args := #[.int .i64 sc, .int .i64 256]) _ _ rfl rfl Tryd.func51 (by kernel_rfl) (by kernel_rfl) ((hEm.out _ (hb0.out.trans ((h6.out).mono hb0.out.size))).mono fun e w'' ⟨he, hb⟩ => ⟨_, he, rfl, h6.out.trans (hb.mono h6.out.size), hb⟩) ?_
        rintro qq w7 ⟨rfl, h7, kk1⟩
        replace h7 := Lib.hid h7
        replace kk1 := Lib.hid kk1
        replace bb := Lib.hid ((kk1.out.block _ (Blk.lt bb.out)).trans bb.out)
        clear kk1
        go_simp
        refine hK _ _ h7.out ?_
        clear hK K
        refine held_take (i := 5) (v := .agg (headCells H).toArray) rfl (by kernel_rfl) (by kernel_rfl) (by kernel_rfl) (fun _ _ _ h => h) h7.out (by rfl) (fun w' hw' => exec_build 36 #[(0, .tmp 24), (2, .tmp 26), (3, .tmp 28)] rfl #[(0, .agg (cells8 log).toArray), (2, .agg (cells8 nn).toArray), (3, .agg (cells8 ee).toArray)] (by first | rfl | (simp [Act.eval]; done)) _ (hbh.out w')) ?_
        (intro K hK; go_simp; refine hK _ ?_; clear hK K)
        refine held_only (i := 7) rfl (by kernel_rfl) (by rfl) (fun K hK => ?_)
        refine wp_store_whole 36 (.tmp 10) (.tmp 29) rfl (w1.heap.size) ((headCells H).toArray) rfl rfl 36 (Z98) (bb.out) hFH.out.size hFH.out.zero hFH.out.one ?_
        intro w99 B9 k9
        have b9 : Hid (Below w1.heap.size w1 w99) := h7.out.trans (Kept.below_of k9 (s0.out.size) h7.out.size)
        go_simp
        refine hK _ _ b9.out ?_
        clear hK K
        refine held_end (by kernel_rfl) ?_
        go_wp2_with fail
        go_meet
        case rel => exact ⟨_, rfl, B9, b9.out⟩
    case rest =>
    obtain ⟨gh, rfl, hG, hbe⟩ := hcut
    obtain ⟨w2, rfl⟩ : ∃ w2, w2 = wc := ⟨_, rfl⟩
    have bb2 : Hid (Below w.heap.size w w2) := hb0.out.trans (hbe.out.mono hb0.out.size)
    clear hbe
    go_wp2_with (first
    | (((with_reducible change wpList _ _ _ ({ dst := some 33, op := _, type := _, pos := _, after := _, guard := _ } :: _) _ _); refine wpList_load_row (o := ⟨some 33, _, _, _, _, _⟩) rfl 36 (.tmp 10) rfl (gh) rfl 36 ((headCells H).toArray) (0, 0) _ hG.out Tryd.underlying36 rfl hFH.out.size ?_))
    | ((with_reducible change wpList _ _ _ ({ dst := some 34, op := _, type := _, pos := _, after := _, guard := _ } :: _) _ _); refine wpList_buildF (o := ⟨some 34, _, _, _, _, _⟩) rfl 40 #[(0, .tmp 33)] rfl #[(0, .agg (headCells H).toArray)] (by first | rfl | (simp [Act.eval, Act.put]; done)) (.agg (noteCells H (.slice none 0 0)).toArray) (hn0.out _) ?_)
    | ((with_reducible change wpList _ _ _ ({ dst := some 35, op := _, type := _, pos := _, after := _, guard := _ } :: _) _ _); refine wpList_buildF (o := ⟨some 35, _, _, _, _, _⟩) rfl 110 #[(0, .tmp 30), (1, .tmp 31), (2, .tmp 32), (3, .tmp 34)] rfl #[(0, .int .i64 sc), (1, .int .i64 least), (2, .pointer (some ⟨R, 0, none⟩)), (3, .agg (noteCells H (.slice none 0 0)).toArray)] (by first | rfl | (simp [Act.eval, Act.put]; done)) (.agg (audC sc least R H (.slice none 0 0)).toArray) (hau.out _ _) ?_))
    go_ret2
    refine new_yes hls.out rfl (bb2.out.alloc bb2.out.size _) bb2.out.size ?_
    rw [hsc.out, hH0.out]
    exact ⟨okH.out, fun _ => ⟨rfl, rfl⟩, Nat.zero_le _, Blk.new _ _ _, Sgs.nil_ _ _⟩
end Go.Proofs.YtgldkfaiofkhbaaDoor.AudNew

namespace Go.Proofs.YtgldkfaiofkhbaaDoor.SameN20
open Go Go.RowKit Go.Proofs.YtgldkfaiofkhbaaDoor Go.Proofs.YtgldkfaiofkhbaaDoor.Mem Go.Proofs.YtgldkfaiofkhbaaDoor.Sha Go.Proofs.YtgldkfaiofkhbaaDoor.Bytes Go.Proofs.YtgldkfaiofkhbaaDoor.SortP Go.Proofs.YtgldkfaiofkhbaaDoor.NoteP Go.Proofs.YtgldkfaiofkhbaaDoor.QuietTail Go.Proofs.YtgldkfaiofkhbaaDoor.Grown Go.Proofs.YtgldkfaiofkhbaaDoor.Want Go.Proofs.YtgldkfaiofkhbaaDoor.Rise Go.Proofs.YtgldkfaiofkhbaaDoor.SortM Go.Proofs.YtgldkfaiofkhbaaDoor.SgM Go.Proofs.YtgldkfaiofkhbaaDoor.HeadMem Go.Proofs.YtgldkfaiofkhbaaDoor.EncNoteP Go.Proofs.YtgldkfaiofkhbaaDoor.EncNote Go.Proofs.YtgldkfaiofkhbaaDoor.RowS Go.Proofs.YtgldkfaiofkhbaaDoor.Fill Go.Proofs.YtgldkfaiofkhbaaDoor.NoteM Go.Proofs.YtgldkfaiofkhbaaDoor.SignEq Go.Proofs.YtgldkfaiofkhbaaDoor.HeadEq Go.Proofs.YtgldkfaiofkhbaaDoor.CmpW

theorem qSG : Tryd.prog.eqGuardType Tryd.prog.depth 116 = false := by kernel_rfl
theorem qHD : Tryd.prog.eqGuardType Tryd.prog.depth 36 = false := by kernel_rfl
theorem size64t : (Tryd.prog.info? 116).map (·.size) = some 64 := by kernel_rfl
set_option maxRecDepth 100000 in
set_option maxHeartbeats 1000000 in
theorem sameS20_any (ss : List Text) (n : Nat) (hn47 : n ≤ 2199023255552) (A B : Option Addr) (c d : Nat) (w : World) (ha : Sgs w A n ss) (hb : Sgs w B n ss) :
    Calls Tryd.prog 55 #[.slice A n c, .slice B n d] w fun e w' => e = .returned (.bool true) ∧ ∃ m, w' = w.drewN m := by
  replace ha := Lib.hid ha
  replace hb := Lib.hid hb
  have hn0 := Lib.hid hn47
  clear hn47
  go_enter Tryd.func55, Tryd.ntmps55
  go_wp2_with fail
  go_loopw [5] (fun v wr => ∃ i m : Nat, v = .int .i64 (i : Int) ∧ Hid (i ≤ n) ∧ Hid (wr = w.drewN m)) (fun v _ => n - (intOf v).toNat)
  case atStart => exact ⟨0, 0, rfl, Nat.zero_le _, rfl⟩
  case round =>
    obtain ⟨i, m, rfl, hi, hw⟩ := hrel
    have hi6 : (i : Int) ≤ 2199023255552 := by have := hi.out; have := hn0.out; omega
    by_cases hlt : i < n
    · have hz : (i : Int) < (n : Int) := by omega
      have hz0 : (0 : Int) ≤ (i : Int) := by omega
      have hlt' := Lib.hid hlt
      obtain ⟨x, hx⟩ : ∃ x, Hid (ss[i]? = some x) := ⟨_, List.getElem?_eq_getElem (by rw [ha.out.len]; exact hlt)⟩
      have hxl := Lib.hid (ha.out.all x (List.mem_of_getElem? hx.out))
      obtain ⟨b1, o1, rfl, -, h1⟩ := ha.out.at_ hx.out
      obtain ⟨b2, o2, rfl, -, h2⟩ := hb.out.at_ hx.out
      have hf1 : Hid (∀ w', (∃ q, w' = wr.drewN q) → ∀ j u, (cells8 x)[j]? = some u → w'.cell? ⟨b1, o1 + i * 64 + j, none⟩ = some u) := fun w' hw' j u hu => by obtain ⟨q, rfl⟩ := hw'; rw [hw.out]; exact h1 j u hu
      have hf2 : Hid (∀ w', (∃ q, w' = wr.drewN q) → ∀ j u, (cells8 x)[j]? = some u → w'.cell? ⟨b2, o2 + i * 64 + j, none⟩ = some u) := fun w' hw' j u hu => by obtain ⟨q, rfl⟩ := hw'; rw [hw.out]; exact h2 j u hu
      have s64 : Hid ((Tryd.prog.info? 116).map (·.size) = some (cells8 x).length) := by show _ = _; rw [cells8_len, hxl.out]; exact size64t
      have hq : Hid (∀ w', (binOp .neq 116 (.agg (cells8 x).toArray) (.agg (cells8 x).toArray)).run Tryd.prog w' = .ok (.bool false) w') := fun w' => by rw [neq_sign x x hxl.out hxl.out]; simp
      clear h1 h2 hlt
      go_upto_region 6 with fail
      refine q_region (fun w' => ∃ m, w' = wr.drewN m) (by kernel_rfl) (by kernel_rfl) (⟨1, rfl⟩) ?_
      refine q_move rfl (.tmp 0) rfl ?_
      (intro K hK; go_simp; refine hK _ ?_; clear hK K)
      refine q_move rfl (.tmp 5) rfl ?_
      (intro K hK; go_simp; refine hK _ ?_; clear hK K)
      refine q_val (v := .pointer (some ⟨b1, o1 + i * 64, none⟩)) rfl (fun w' hw' => by go_simp) ?_
      (intro K hK; go_simp; refine hK _ ?_; clear hK K)
      refine q_part rfl 116 (.tmp 19) rfl b1 ((o1 + i * 64)) rfl (cells8 x) _ (fun w' hw' => hf1.out w' hw') Tryd.underlying116 rfl s64.out ?_
      (intro K hK; go_simp; refine hK _ ?_; clear hK K)
      refine q_move rfl (.tmp 1) rfl ?_
      (intro K hK; go_simp; refine hK _ ?_; clear hK K)
      refine q_move rfl (.tmp 5) rfl ?_
      (intro K hK; go_simp; refine hK _ ?_; clear hK K)
      refine q_val (v := .pointer (some ⟨b2, o2 + i * 64, none⟩)) rfl (fun w' hw' => by go_simp) ?_
      (intro K hK; go_simp; refine hK _ ?_; clear hK K)
      refine q_part rfl 116 (.tmp 23) rfl b2 ((o2 + i * 64)) rfl (cells8 x) _ (fun w' hw' => hf2.out w' hw') Tryd.underlying116 rfl s64.out ?_
      (intro K hK; go_simp; refine hK _ ?_; clear hK K)
      refine q_val (v := .bool false) rfl (fun w' hw' => run_cmp rfl rfl rfl qSG (hq.out w')) ?_
      (intro K hK; go_simp; refine hK _ ?_; clear hK K)
      refine q_nil ?_
      intro w5 hw5
      obtain ⟨m5, rfl⟩ := hw5
      go_wp2_with fail
      go_roundw
      case rel => exact ⟨i + 1, m + m5, by go_num, hlt'.out, by show _ = _; rw [hw.out, World.drewN_drewN]⟩
      case measure => (have := hlt'.out; simp [intOf]; omega)
    · have hz : ¬ ((i : Int) < (n : Int)) := by omega
      clear hlt
      go_wp2_with fail
      go_ret
      exact ⟨rfl, m, hw.out⟩
set_option maxRecDepth 100000 in
set_option maxHeartbeats 1000000 in
theorem sameN20_any (h : HeadD) (ok : h.Ok) (ss : List Text) (n : Nat) (hn47 : n ≤ 2199023255552) (A B : Option Addr) (c d : Nat) (w : World) (ha : Sgs w A n ss) (hb : Sgs w B n ss) :
    Calls Tryd.prog 13 #[.agg (noteCells h (.slice A n c)).toArray, .agg (noteCells h (.slice B n d)).toArray] w fun e w' => e = .returned (.bool true) ∧ Below w.heap.size w w' := by
  obtain ⟨w0, hw0⟩ : ∃ w0, (w.alloc (.cells (noteCells h (.slice A n c)).toArray 40)).alloc (.cells (noteCells h (.slice B n d)).toArray 40) = w0 := ⟨_, rfl⟩
  have hz : (w.alloc (.cells (noteCells h (.slice A n c)).toArray 40)).heap.size = w.heap.size + 1 := by simp
  have N1 : Hid (NoteAt w0 w.heap.size h A n c ss) := by show NoteAt _ _ _ _ _ _ _; rw [← hw0]; exact (NoteAt.new ha).below (Below.heap_below _ _)
  have N2 : Hid (NoteAt w0 (w.heap.size + 1) h B n d ss) := by show NoteAt _ _ _ _ _ _ _; rw [← hw0, ← hz]; exact NoteAt.new (hb.below (Below.heap_below w _))
  have hb0 : Hid (Below w.heap.size w w0) := by show Below _ _ _; rw [← hw0]; exact (Below.heap_below w _).alloc (by rw [hz]; omega) _
  have hsz : Hid ((Tryd.prog.info? 36).map (·.size) = some (headCells h).length) := by show _ = _; rw [headCells_len ok]; exact size98
  have hE : Hid (∀ w', (binOp .eql 36 (.agg (headCells h).toArray) (.agg (headCells h).toArray)).run Tryd.prog w' = .ok (.bool true) w') := eql_head h ok
  have r1 := N1.out.row ok
  have r2 := N2.out.row ok
  clear ha hb ok hz
  go_enter Tryd.func13, Tryd.ntmps13
  go_wp2_with (first
    | (((with_reducible change wpList _ _ _ ({ dst := some 6, op := _, type := _, pos := _, after := _, guard := _ } :: _) _ _); refine wpList_load_part (o := ⟨some 6, _, _, _, _, _⟩) rfl 36 (.tmp 5) rfl (w.heap.size) (0) rfl (headCells h) _ N1.out.head Tryd.underlying36 rfl hsz.out ?_))
    | (((with_reducible change wpList _ _ _ ({ dst := some 8, op := _, type := _, pos := _, after := _, guard := _ } :: _) _ _); refine wpList_load_part (o := ⟨some 8, _, _, _, _, _⟩) rfl 36 (.tmp 7) rfl ((w.heap.size + 1)) (0) rfl (headCells h) _ N2.out.head Tryd.underlying36 rfl hsz.out ?_))
    | ((with_reducible change wpList _ _ _ ({ dst := some 9, op := _, type := _, pos := _, after := _, guard := _ } :: _) _ _); (with_reducible refine Veil.out ?_); refine wpList_cmpW (o := ⟨some 9, _, _, _, _, _⟩) rfl .eql 36 36 (.tmp 6) (.tmp 8) rfl ((headCells h).toArray) ((headCells h).toArray) rfl rfl qHD (.bool true) (hE.out _) ?_)
    | (go_at_call 55; refine (sameS20_any ss n hn47 A B c d w0 N1.out.sgs N2.out.sgs).mono ?_; rintro e w2 ⟨rfl, m2, rfl⟩))
  go_ret
  exact ⟨rfl, below_drawn hb0.out m2⟩
end Go.Proofs.YtgldkfaiofkhbaaDoor.SameN20

namespace Go.Proofs.YtgldkfaiofkhbaaDoor.Offers
open Go Go.RowKit Go.Proofs.YtgldkfaiofkhbaaDoor Go.Proofs.YtgldkfaiofkhbaaDoor.Mem Go.Proofs.YtgldkfaiofkhbaaDoor.Sha Go.Proofs.YtgldkfaiofkhbaaDoor.Bytes Go.Proofs.YtgldkfaiofkhbaaDoor.SortM Go.Proofs.YtgldkfaiofkhbaaDoor.SgM Go.Proofs.YtgldkfaiofkhbaaDoor.Rise Go.Proofs.YtgldkfaiofkhbaaDoor.HeadMem Go.Proofs.YtgldkfaiofkhbaaDoor.EncNote Go.Proofs.YtgldkfaiofkhbaaDoor.NoteM Go.Proofs.YtgldkfaiofkhbaaDoor.TreeMem

structure OfferD where
  h : HeadD
  A : Option Addr
  n : Nat
  c : Nat
  ss : List Text
  x : Int
  y : Int
  A2 : Option Addr
  m : Nat
  c2 : Nat
  ds : List Text
def consC (p : OfferD) : List Value := [.int .i64 p.x, .int .i64 p.y, .slice p.A2 p.m p.c2]
def offC (p : OfferD) : List Value := noteCells p.h (.slice p.A p.n p.c) ++ consC p
structure OfferOk (w : World) (p : OfferD) : Prop where
  ok : p.h.Ok
  nil : p.A = none → p.n = 0 ∧ p.c = 0
  sgs : Sgs w p.A p.n p.ss
  few : p.m < 140737488355328
  rd : RdD w p.A2 p.m p.ds
theorem OfferOk.below {w w' : World} {p : OfferD} (h : OfferOk w p) (hb : Below w.heap.size w w') : OfferOk w' p := ⟨h.ok, h.nil, h.sgs.below hb, h.few, h.rd.below hb⟩
structure OffersAt (w : World) (A : Option Addr) (n : Nat) (l : List OfferD) : Prop where
  len : l.length = n
  ok : ∀ p ∈ l, OfferOk w p
  rd : Reads w 102 A n (l.flatMap offC)
theorem OffersAt.below {w w' : World} {A : Option Addr} {n : Nat} {l : List OfferD} (h : OffersAt w A n l) (hb : Below w.heap.size w w') : OffersAt w' A n l := ⟨h.len, fun x hx => (h.ok x hx).below hb, h.rd.below hb⟩
theorem offC_len {p : OfferD} (ok : p.h.Ok) : (offC p).length = 102 := by unfold offC; rw [List.length_append, noteCells_len ok]; rfl
theorem offC_note {p : OfferD} (j : Nat) (u : Value) (hu : (noteCells p.h (.slice p.A p.n p.c))[j]? = some u) : (offC p)[j]? = some u := by
  unfold offC
  rw [List.getElem?_append_left (List.getElem?_eq_some_iff.1 hu).1]
  exact hu
theorem offC_cons {p : OfferD} (ok : p.h.Ok) (j : Nat) (u : Value) (hu : (consC p)[j]? = some u) : (offC p)[99 + j]? = some u := by
  unfold offC
  rw [List.getElem?_append_right (by rw [noteCells_len ok]; omega), noteCells_len ok, show 99 + j - 99 = j by omega]
  exact hu
theorem offC_one (p : OfferD) : ∀ v ∈ offC p, v.oneCell' = true := by
  intro v hv
  rcases List.mem_append.1 hv with hv | hv
  · have := note_one (h := p.h) p.A p.n p.c
    rw [List.all_toArray] at this
    exact List.all_eq_true.1 this v hv
  · simp only [consC, List.mem_cons, List.not_mem_nil, or_false] at hv
    rcases hv with rfl | rfl | rfl <;> rfl
theorem flat_at102 : ∀ (l : List OfferD), (∀ x ∈ l, x.h.Ok) → ∀ (i : Nat) (x : OfferD) (j : Nat), l[i]? = some x → j < 102 → (l.flatMap offC)[i * 102 + j]? = (offC x)[j]?
  | [], _, i, x, j, h, _ => by cases h
  | s :: l, hl, i, x, j, h, hj => by
    have hs : (offC s).length = 102 := offC_len (hl s (by simp))
    rw [List.flatMap_cons]
    cases i with
    | zero =>
      obtain rfl : s = x := Option.some.inj h
      rw [Nat.zero_mul, Nat.zero_add, List.getElem?_append_left (by omega)]
    | succ i =>
      rw [List.getElem?_append_right (by omega), hs, show (i + 1) * 102 + j - 102 = i * 102 + j by omega]
      exact flat_at102 l (fun t ht => hl t (by simp [ht])) i x j h hj
theorem OffersAt.at_ {w : World} {A : Option Addr} {n i : Nat} {l : List OfferD} {x : OfferD} (h : OffersAt w A n l) (hx : l[i]? = some x) : ∃ b o, A = some ⟨b, o, none⟩ ∧ b < w.heap.size ∧ ∀ (j : Nat) (u : Value), (offC x)[j]? = some u → w.cell? ⟨b, o + i * 102 + j, none⟩ = some u := by
  have hi : i < l.length := (List.getElem?_eq_some_iff.1 hx).1
  obtain ⟨b, o, e, hb, hc⟩ := h.rd.2 (by have := h.len; omega)
  have hxo := (h.ok x (List.mem_of_getElem? hx)).ok
  refine ⟨b, o, e, hb, fun j u hu => ?_⟩
  have hj : j < 102 := by have := (List.getElem?_eq_some_iff.1 hu).1; have := offC_len hxo; omega
  rw [Nat.add_assoc]
  refine hc _ u ?_
  have := flat_at102 l (fun y hy => (h.ok y hy).ok) i x j hx hj
  first
    | (rw [this]; exact hu)
    | (rw [Nat.mul_comm] at this; rw [this]; exact hu)
end Go.Proofs.YtgldkfaiofkhbaaDoor.Offers

namespace Go.Proofs.YtgldkfaiofkhbaaDoor.Law20b
open Go Go.RowKit Go.Proofs.YtgldkfaiofkhbaaDoor Go.Proofs.YtgldkfaiofkhbaaDoor.Mem Go.Proofs.YtgldkfaiofkhbaaDoor.Sha Go.Proofs.YtgldkfaiofkhbaaDoor.Bytes Go.Proofs.YtgldkfaiofkhbaaDoor.Chain Go.Proofs.YtgldkfaiofkhbaaDoor.HeadMem Go.Proofs.YtgldkfaiofkhbaaDoor.EncNote Go.Proofs.YtgldkfaiofkhbaaDoor.NoteM

set_option maxRecDepth 100000 in
theorem fewX_yes (A : Option Addr) (n c N : Nat) (hn : n ≤ N) (w : World) :
    Calls Tryd.prog 8 #[.slice A n c, .int .i64 (N : Int)] w fun e w' => e = .returned (.slice A n c) ∧ w = w' := by
  have h1 : (n : Int) ≤ (N : Int) := by omega
  go_enter Tryd.func8, Tryd.ntmps8
  go_wp2_with fail
  go_ret
  exact ⟨rfl, rfl⟩
set_option maxRecDepth 100000 in
theorem fewX_no (A : Option Addr) (n c N : Nat) (hn : N < n) (hc : n ≤ c) (w : World) :
    Calls Tryd.prog 8 #[.slice A n c, .int .i64 (N : Int)] w fun e w' => e = .returned (.slice A N c) ∧ w = w' := by
  have h1 : (N : Int) < (n : Int) := by omega
  have X := run_headOf (P := Tryd.prog) (t := 24) (A := A) (n := n) (c := c) (m := N) Tryd.underlying24 (fun _ => rfl) (by omega) (N : Int) rfl
  go_enter Tryd.func8, Tryd.ntmps8
  go_wp2_with fail
  go_ret
  exact ⟨rfl, rfl⟩
theorem fewX_any (A : Option Addr) (n c N : Nat) (hc : n ≤ c) (w : World) :
    Calls Tryd.prog 8 #[.slice A n c, .int .i64 (N : Int)] w fun e w' => e = .returned (.slice A (min n N) c) ∧ w = w' := by
  by_cases h : n ≤ N
  · rw [Nat.min_eq_left h]
    exact fewX_yes A n c N h w
  · rw [Nat.min_eq_right (by omega)]
    exact fewX_no A n c N (by omega) hc w
theorem pieces_takeX {w : World} {A : Option Addr} {es : List Text} (h : Pieces w A es) (k : Nat) : Pieces w A (es.take k) := fun h0 => by
  obtain ⟨b, o, e, hb, hc⟩ := h (by rw [List.length_take] at h0; omega)
  refine ⟨b, o, e, hb, fun i q hq => hc i q ?_⟩
  rw [List.getElem?_take] at hq
  split at hq
  · exact hq
  · cases hq
theorem isAgg_signs (w : World) : (isAgg 38).run Tryd.prog w = .ok false w := by
  unfold isAgg
  rw [Sem.run_bind, run_underlying Tryd.underlying38 w]
  rfl
theorem run_noteSigns {h : HeadD} (ok : h.Ok) (v : Value) (w : World) : (Instr.field 40 (.agg (noteCells h v).toArray) 1).run Tryd.prog w = .ok v w := by
  have hv : (noteCells h v)[98]? = some v := noteCells_row ok v
  unfold Instr.field
  simp [Sem.run_bind, run_underlying Tryd.underlying40 w, Result.andThen, asAgg, part, isAgg_signs w, hv]
end Go.Proofs.YtgldkfaiofkhbaaDoor.Law20b
