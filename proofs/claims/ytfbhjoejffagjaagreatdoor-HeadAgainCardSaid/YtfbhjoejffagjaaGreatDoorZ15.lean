/-
  Texts of the claim, put into one file: Octet2, HeadMem0, HeadMem, HeadLaid, RefHead, HeadEnc.
-/
import Derived.Test.YtfbhjoejffagjaaGreatDoorZ14
import Derived.Test.YtfbhjoejffagjaaGreatDoorZ9

namespace Go.Proofs.YtfbhjoejffagjaaGreatDoor.Octet2
open Go Go.RowKit Go.Proofs.YtfbhjoejffagjaaGreatDoor Mem Sha Bytes Go.Proofs.YtfbhjoejffagjaaGreatDoor.Append Octet

theorem Wrote.append {wr W : World} {g : Nat} {r : Option Nat} {l q : Text} {v v1 : Value} (hw : WrAt wr g r l) (hv : ∀ u, Blk wr g 161 #[u] → u = v) (hG : Grew wr 0 5 1 v l.length q.length (cells8 l) (cells8 q) v1 W) :
  Wrote wr g r (l ++ q) (W.setCell ⟨g, 0, none⟩ v1) := by
 obtain ⟨v', hb, ho, hvr, hr1⟩ := hw
 obtain rfl := hv v' hb
 have hk0 : Kept (fun k => k = g ∨ some k = r) wr W := (Kept.refl _ wr).grown hG.grow (fun k hk => .inl (.inr (by rw [← hvr]; exact hk.symm)))
 have hbW : Blk W g 161 #[v'] := (hG.grow.block g hb.lt (fun e => by
  have := (hr1 g (by rw [← hvr]; exact e.symm)).1
  omega)).trans hb
 have hat : ∀ k, v1.ownBlock = some k → g < k ∧ k < W.heap.size := by
  intro k hk
  have hlt : k < W.heap.size := by
   rcases hG.own.2 with ⟨rfl, _⟩ | ⟨g', cap, cur, rfl, _, h2, _⟩
   ·cases hk
   ·obtain rfl : g' = k := by simpa [Value.ownBlock] using hk
    exact (Array.getElem?_eq_some_iff.1 h2).1
  refine ⟨?_, hlt⟩
  rcases hG.at_ with h | h
  ·exact (hr1 k (by rw [← hvr, ← h, hk])).1
  ·rw [h] at hk
   injection hk with hk
   have := hb.lt
   omega
 refine ⟨v1.ownBlock, ⟨v1, hbW.set_ 0 _, ?_, rfl, fun k e => ⟨(hat k e).1, by have := (hat k e).2; simpa [World.setCell] using this⟩⟩, hk0.setCell (.inl (.inl rfl)) _, ?_⟩
 ·have hown := hG.own
  refine ⟨by simp [cells8_len], ?_⟩
  have hl2 : (l ++ q).length = l.length + q.length := List.length_append
  have hc2 : cells8 (l ++ q) = cells8 l ++ cells8 q := by simp [cells8]
  rw [hl2, hc2]
  rcases hown.2 with h | ⟨g', cap, cur, rfl, h1, h2, h3⟩
  ·exact .inl h
  ·refine .inr ⟨g', cap, cur, rfl, h1, ?_, h3⟩
   have := (hat g' rfl).1
   exact (Below.heap_setCell W ⟨g, 0, none⟩ _ g' (fun e => by simp at e; omega)).trans h2
 ·rcases hG.at_ with h | h
  ·exact .inl (by rw [h, hvr])
  ·exact .inr ⟨_, h, Nat.le_refl _⟩

theorem rowAll (d : Text) (hd : d.length = 32) : (Tryz.prog.info? 34).map (·.size) = some (cells8 d).length := by rw [cells8_len, hd]; exact size31
theorem z32 : Z32.size = 32 := rfl

set_option maxRecDepth 100000 in
set_option maxHeartbeats 1000000 in
theorem digests_any (g : Nat) (r : Option Nat) (l : Text) (ds : List Text) (n : Nat) (hn : ds.length = n) (hd : ∀ d ∈ ds, d.length = 32) (A : Option Addr) (c : Nat) (w : World) (hl : l.length + 32 * n ≤ 140737488355328)
  (hw : WrAt w g r l) (hr : Reads w 32 A n (ds.flatMap cells8)) (hA : 0 < n → ∀ a, A = some a → a.block ≠ g ∧ some a.block ≠ r) :
  Calls Tryz.prog 68 #[.pointer (some ⟨g, 0, none⟩), .slice A n c] w fun e w' => e = .returned (.tuple #[]) ∧ Wrote w g r (l ++ ds.flatten) w' := by
 obtain ⟨i0, hi, hz0, hz1, hz2⟩ := info_parts8 info8
 have H0 : Hid (Wrote w g r (l ++ (ds.take 0).flatten) w) := (show Wrote w g r (l ++ (ds.take 0).flatten) w by simpa using hw.refl)
 have hN : (n : Int) < 9223372036854775807 := by omega
 replace hN := Lib.hid hN
 replace hl := Lib.hid hl
 replace hn := Lib.hid hn
 replace hd := Lib.hid hd
 replace hr := Lib.hid hr
 replace hA := Lib.hid hA
 clear hw
 go_enter Tryz.func68, Tryz.ntmps68
 go_wp2_with fail
 go_loopw [8] (fun v wr => ∃ i : Nat, v = .int .i64 (i : Int) ∧ Hid (i ≤ n) ∧ Hid (Wrote w g r (l ++ (ds.take i).flatten) wr)) (fun v _ => n - (intOf v).toNat)
 case atStart => exact ⟨0, rfl, (show 0 ≤ n by omega), H0.out⟩
 case round =>
  clear H0
  obtain ⟨i, rfl, hi2, hW⟩ := hrel
  by_cases hlt : i < n
  ·have hz : (i : Int) < (n : Int) := by omega
   have hz0' : (0 : Int) ≤ (i : Int) := by omega
   have hil : (i : Int) < 9223372036854775807 := by have := hN.out; omega
   obtain ⟨r1, h1, k1, c1⟩ := hW.out
   obtain ⟨v, hb, ho, hvr, hr1⟩ := h1
   have hne : some g ≠ v.ownBlock := fun e => by
    have := (hr1 g (by rw [← hvr]; exact e.symm)).1
    omega
   obtain ⟨d, hdi⟩ : ∃ d, Hid (ds[i]? = some d) := ⟨_, List.getElem?_eq_getElem (by rw [hn.out]; exact hlt)⟩
   have hdl : Hid (d.length = 32) := hd.out d (List.mem_of_getElem? hdi.out)
   obtain ⟨b, o, rfl, hbl, hcell⟩ := hr.out.2 (by omega)
   have hel : ∀ j u, (cells8 d)[j]? = some u → wr.cell? ⟨b, o + i * 32 + j, none⟩ = some u := fun j u hu => by
    have h2 := hcell _ _ (digs_at ds hd.out i d hdi.out j u hu)
    have h3 := hA.out (by omega) _ rfl
    rw [Nat.add_assoc]
    exact (k1.cell (p := ⟨b, o + (i * 32 + j), none⟩) hbl (fun h => by rcases h with h | h; exact h3.1 h; exact h3.2 h)).trans h2
   replace hel := Lib.hid hel
   clear hcell hbl
   have hva : (wr.alloc (.cells (cells8 d).toArray 34)).cell? ⟨g, 0, none⟩ = some v := (World.cell?_alloc_lt wr _ ⟨g, 0, none⟩ hb.lt).trans (by rw [hb.cell 0]; rfl)
   have hlen : Hid ((l ++ (ds.take i).flatten).length + 32 ≤ 140737488355328) := by
    show _ ≤ _
    have := hl.out
    have h5 := (digs_len (ds.take i) (fun x hx => hd.out x (List.mem_of_mem_take hx))).1
    have h6 := List.length_take_le i ds
    rw [List.length_append, h5]
    have : (ds.take i).length ≤ i := by rw [List.length_take]; omega
    omega
   have hts : Hid (l ++ (ds.take (i + 1)).flatten = (l ++ (ds.take i).flatten) ++ d) := by
    show _ = _
    rw [List.take_add_one, hdi.out]
    simp
   have hO := Lib.hid ho
   have hV : ∀ u, Blk wr g 161 #[u] → u = v := fun u hu => by
    have h1 : some (Obj.cells #[u] 161 (0, 0)) = some (Obj.cells #[v] 161 (0, 0)) := (show wr.heap[g]? = _ from hu).symm.trans hb
    simpa using h1
   have hro := Lib.hid (rowAll d hdl.out)
   have hc8 : Hid ((cells8 d).length = 32) := (cells8_len d).trans hdl.out
   have hs1 : Hid ((Tryz.prog.info? 34).map (·.size) = some (cells8 d).toArray.size) := (show _ = _ by rw [List.size_toArray]; exact hro.out)
   have hs2 : Hid (Z32.size = (cells8 d).toArray.size) := (by have e : (cells8 d).toArray.size = (cells8 d).length := List.size_toArray; show Z32.size = _; rw [e, hc8.out]; rfl)
   replace hV := Lib.hid hV
   replace hne := Lib.hid hne
   replace hb := Lib.hid hb
   clear hr1 ho hvr c1 k1
   generalize l ++ (ds.take i).flatten = L at *
   go_wp2_with (first
    | ((with_reducible change wpList _ _ _ (⟨some 11, _, _, _, _, _⟩ :: _) _ _); refine wpList_load_part (o := ⟨some 11, _, _, _, _, _⟩) rfl 34 (.tmp 10) rfl b (o + i * 32) rfl (cells8 d) _ hel.out Tryz.underlying34 rfl hro.out ?_)
    | ((with_reducible change wpList _ _ _ ({ dst := none, op := Op.store 34 _ _, type := _, pos := _, after := _, guard := _ } :: _) _ _); refine wpList_store_row (o := ⟨none, _, _, _, _, _⟩) rfl 34 (.tmp 5) (.tmp 11) rfl wr.heap.size (cells8 d).toArray rfl rfl 34 Z32 (heap_alloc_new wr _) hs1.out hs2.out (cells8_all1 d) ?_; rw [alloc_setRow]))
   have hm1 : Hid ((cells8 d).length = 32 * 1) := hc8.out
   have hm2 : Hid (∀ (j : Nat) (u : Value), (cells8 d)[j]? = some u → ((wr.alloc (.cells (cells8 d).toArray 34)).drew).cell? ((⟨wr.heap.size, 0, none⟩ : Addr).add j) = some u) := World.news_of_block (w := (wr.alloc (.cells (cells8 d).toArray 34)).drew) (heap_alloc_new wr _)
   go_region_law (refine step_append_lies (P := Tryz.prog) ((wr.alloc (.cells (cells8 d).toArray 34)).drew) (o := ⟨some 18, _, _, _, _, _⟩) rfl (.tmp 16) (.tmp 17) 31 rfl 0 5 i0 (.int .u8 0) 1 1 Tryz.underlying31 hi hz0 hz1 hz2 rfl (by decide) v L.length (cells8 L) ?hs (World.ownsRow.alloc (w := wr) hO.out _) ⟨wr.heap.size, 0, none⟩ 32 32 (cells8 d) ?hx hm1.out hm2.out (cells8_one d) (by decide) ?c1 ?c2 (Nat.zero_le _) _ rfl ?_; (case hs => go_simp); (case hx => go_simp); (case c1 => have := hlen.out; unfold maxLen; omega); (case c2 => have := hlen.out; omega); intro G cap W hown hgrow hat hlt2; have hK0 : Kept (fun _ => False) wr ((wr.alloc (.cells (cells8 d).toArray 34)).drew) := ((Kept.refl _ wr).alloc _).drew; have hX : Hid (Wrote w g r (L ++ d) (W.setCell ⟨g, 0, none⟩ (.slice (some ⟨G, 0, none⟩) (L.length + 32) cap))) := hW.out.step (fun r1 h1 => Wrote.put (q := d) h1 hV.out rfl hdl.out.symm hK0 hown hgrow hat hlt2); obtain ⟨hf1, hf2⟩ := far_cell hb.out hne.out hK0 hgrow; clear hown hgrow hat hlt2 hK0)
   all_goals
    go_wp2_with fail
    go_roundw
    case rel => exact ⟨i + 1, by go_num, (show i + 1 ≤ n by omega), (show Wrote _ _ _ _ _ by rw [hts.out]; exact hX.out)⟩
    case measure => simp [intOf]; omega
  ·obtain rfl : i = n := by have := hi2.out; omega
   have hz : (i : Int) ≤ (i : Int) := by omega
   have hT : Hid (ds.take i = ds) := List.take_of_length_le (by have := hn.out; omega)
   go_wp2_with fail
   go_end0
   exact ⟨rfl, by have := hW.out; rw [hT.out] at this; exact this⟩

theorem new_any (w : World) : Calls Tryz.prog 65 #[] w fun e w' => e = .returned (.pointer (some ⟨w.heap.size, 0, none⟩)) ∧ w' = w.alloc (.cells #[.slice none 0 0] 161) := by
 go_enter Tryz.func65, Tryz.ntmps65
 go_wp2_with fail
 go_ret
 exact ⟨rfl, rfl⟩
theorem WrAt.new (w : World) : WrAt (w.alloc (.cells #[.slice none 0 0] 161)) w.heap.size none [] :=
 ⟨_, Blk.new w _ _, World.ownsRow_nil _ _ _ _, rfl, fun _ e => by cases e⟩

theorem put1_lit (n : Int) (c : BitVec 8) (hc : b8 c = n) (g : Nat) (r : Option Nat) (l : Text) (w : World) (hl : l.length + 1 ≤ 140737488355328) (hw : WrAt w g r l) :
  Calls Tryz.prog 66 #[.pointer (some ⟨g, 0, none⟩), .int .u8 n] w fun e w' => e = .returned (.tuple #[]) ∧ Wrote w g r (l ++ [c]) w' := by
 subst hc
 exact put1 g r l c w hl hw
theorem put8_lit (n : Int) (N : Nat) (hn : (N : Int) = n) (hN : N < 18446744073709551616) (g : Nat) (r : Option Nat) (l : Text) (w : World) (hl : l.length + 8 ≤ 140737488355328) (hw : WrAt w g r l) :
  Calls Tryz.prog 105 #[.pointer (some ⟨g, 0, none⟩), .int .u64 n] w fun e w' => e = .returned (.tuple #[]) ∧ Wrote w g r (l ++ be8 N) w' := by
 subst hn
 exact put8 g r l N hN w hl hw


set_option maxRecDepth 100000 in
set_option maxHeartbeats 1000000 in
theorem all_any (g : Nat) (r : Option Nat) (l : Text) (w : World) (hl : l.length ≤ 140737488355328) (hw : WrAt w g r l) :
  Calls Tryz.prog 69 #[.pointer (some ⟨g, 0, none⟩)] w fun e w' => ∃ v, e = .returned v ∧ Below w.heap.size w w' ∧ w'.ownsRow w.heap.size 5 1 v l.length (cells8 l) := by
 obtain ⟨i0, hi, hz0, hz1, hz2⟩ := info_parts8 info8
 obtain ⟨v, hb, ho, hvr, hr1⟩ := hw
 obtain ⟨A, c, rfl, hnc, hcm, hnil, hrd, -⟩ := Own.reads ho
 have hv : w.cell? ⟨g, 0, none⟩ = some (.slice A l.length c) := by rw [hb.cell 0]; rfl
 have hc1 : Hid (0 + l.length ≤ maxLen) := by show _ ≤ _; omega
 have hc2 : Hid ((0 + l.length) * 1 ≤ 140737488355328) := by show _ ≤ _; omega
 replace hrd := Lib.hid hrd
 replace hnil := Lib.hid hnil
 clear ho hb hvr hr1 hl hnc hcm
 go_enter Tryz.func69, Tryz.ntmps69
 go_wp2_with (at_builtin; refine wpList_append_src _ rfl (.const (.slice none 0 0)) (.tmp 6) 31 rfl w.heap.size 5 i0 (.int .u8 0) 1 1 Tryz.underlying31 hi hz0 hz1 hz2 rfl (by decide) (.slice none 0 0) 0 [] rfl (World.ownsRow_nil _ _ _ _) A l.length c (cells8 l) rfl hrd.out hnil.out (cells8_one l) hc1.out hc2.out (Nat.le_refl _) ?_; intro v1 w1 hG; replace hG := Lib.hid hG)
 go_ret
 refine ⟨v1, rfl, hG.out.below (Below.refl _ _) (Nat.le_refl _) (fun k e => by cases e), ?_⟩
 have := hG.out.own
 simpa using this

/-! ### The same, said of what was written since a world w0 -/
section
variable {w0 w w' wi : World} {g : Nat} {r r1 : Option Nat} {l l2 : Text}
theorem put1_from (n : Int) (c : BitVec 8) (hc : b8 c = n) (hl : l.length + 1 ≤ 140737488355328) (hW : Wrote w0 g r l w) :
  Calls Tryz.prog 66 #[.pointer (some ⟨g, 0, none⟩), .int .u8 n] w fun e w' => e = .returned (.tuple #[]) ∧ Wrote w0 g r (l ++ [c]) w' := by
 obtain ⟨r1, h1, k1, c1⟩ := hW
 exact (put1_lit n c hc g r1 l w hl h1).mono fun e w' ⟨he, hx⟩ => ⟨he, Wrote.trans1 k1 c1 hx⟩
theorem put8_from (n : Int) (N : Nat) (hn : (N : Int) = n) (hN : N < 18446744073709551616) (hl : l.length + 8 ≤ 140737488355328) (hW : Wrote w0 g r l w) :
  Calls Tryz.prog 105 #[.pointer (some ⟨g, 0, none⟩), .int .u64 n] w fun e w' => e = .returned (.tuple #[]) ∧ Wrote w0 g r (l ++ be8 N) w' := by
 obtain ⟨r1, h1, k1, c1⟩ := hW
 exact (put8_lit n N hn hN g r1 l w hl h1).mono fun e w' ⟨he, hx⟩ => ⟨he, Wrote.trans1 k1 c1 hx⟩
theorem digests_new (ds : List Text) (n : Nat) (hn : ds.length = n) (hd : ∀ d ∈ ds, d.length = 32) (hl : l.length + 32 * n ≤ 140737488355328) (hW : Wrote w0 g r l wi) :
  Calls Tryz.prog 68 #[.pointer (some ⟨g, 0, none⟩), .slice (some ⟨wi.heap.size, 0, none⟩) n n] (wi.alloc (.cells ((ds.map cells8).flatten).toArray 34)) fun e w' => e = .returned (.tuple #[]) ∧ Wrote w0 g r (l ++ ds.flatten) w' := by
 obtain ⟨r1, h1, k1, c1⟩ := hW
 have hr : Reads (wi.alloc (.cells ((ds.map cells8).flatten).toArray 34)) 32 (some ⟨wi.heap.size, 0, none⟩) n (ds.flatMap cells8) :=
  (Blk.new wi 34 ((ds.map cells8).flatten).toArray).reads 0 _ (by rw [(digs_len ds hd).2, hn]; omega) (fun j u hu => by rw [Nat.zero_add, List.getElem?_toArray, ← List.flatMap_def]; exact hu)
 refine (digests_any g r1 l ds n hn hd _ n _ hl (h1.alloc _) hr (fun _ a e => ?_)).mono fun e w' ⟨he, hx⟩ => ⟨he, Wrote.trans1 (k1.alloc _) c1 hx⟩
 injection e with e
 subst e
 refine ⟨fun e => ?_, fun e => ?_⟩
 ·have := h1.lt; simp at e; omega
 ·obtain ⟨v, hb, _, _, hr1⟩ := h1
  have := (hr1 wi.heap.size (by rw [← e])).2
  omega
end
end Go.Proofs.YtfbhjoejffagjaaGreatDoor.Octet2

namespace Go.Proofs.YtfbhjoejffagjaaGreatDoor.HeadMem
open Go Go.RowKit Go.Proofs.YtfbhjoejffagjaaGreatDoor Mem Sha Bytes Go.Proofs.YtfbhjoejffagjaaGreatDoor.Append Octet Octet2

theorem agg_hi {T : TypeId} {cs : List Value} {n : Nat} (h : (Tryz.prog.info? T).map (·.size) = some n) (hl : cs.length = n) : (Tryz.prog.info? T).map (·.size) = some cs.length := by rw [hl]; exact h
theorem size32 : (Tryz.prog.info? 34).map (·.size) = some 32 := by kernel_rfl
theorem zero32 : ((Tryz.prog.info? 34).bind (·.zero)).isSome = true := by kernel_rfl
end Go.Proofs.YtfbhjoejffagjaaGreatDoor.HeadMem

namespace Go.Proofs.YtfbhjoejffagjaaGreatDoor.HeadMem
open Go Go.RowKit Go.Proofs.YtfbhjoejffagjaaGreatDoor Mem Sha Bytes Go.Proofs.YtfbhjoejffagjaaGreatDoor.Append Octet Octet2

structure HeadD where
 log : Text
 size : Int
 root : Text
 index : Text
 clock : Int
structure HeadD.Ok (h : HeadD) : Prop where
 log : h.log.length = 32
 root : h.root.length = 32
 index : h.index.length = 32
 size : -9223372036854775808 ≤ h.size ∧ h.size ≤ 9223372036854775807
 clock : -9223372036854775808 ≤ h.clock ∧ h.clock ≤ 9223372036854775807
def headCells (h : HeadD) : List Value := cells8 h.log ++ ([.int .i64 h.size] ++ (cells8 h.root ++ (cells8 h.index ++ [.int .i64 h.clock])))
theorem headCells_len {h : HeadD} (ok : h.Ok) : (headCells h).length = 98 := by simp [headCells, cells8_len, ok.log, ok.root, ok.index]
theorem headCells_one (h : HeadD) : ∀ v ∈ headCells h, v.oneCell' = true := by
 intro v hv
 simp only [headCells, List.mem_append, List.mem_singleton] at hv
 rcases hv with hv | rfl | hv | hv | rfl
 ·exact cells8_one _ v hv
 ·rfl
 ·exact cells8_one _ v hv
 ·exact cells8_one _ v hv
 ·rfl
theorem headCells_log {h : HeadD} (j : Nat) (v : Value) (hv : (cells8 h.log)[j]? = some v) : (headCells h)[0 + j]? = some v := by
 have hj : j < (cells8 h.log).length := (List.getElem?_eq_some_iff.1 hv).1
 rw [headCells, Nat.zero_add, List.getElem?_append_left hj, hv]
theorem headCells_size {h : HeadD} (ok : h.Ok) : (headCells h)[32]? = some (.int .i64 h.size) := by
 rw [headCells, List.getElem?_append_right (by rw [cells8_len, ok.log]; omega), cells8_len, ok.log]
 rfl
theorem headCells_root {h : HeadD} (ok : h.Ok) (j : Nat) (v : Value) (hv : (cells8 h.root)[j]? = some v) : (headCells h)[33 + j]? = some v := by
 have hj : j < (cells8 h.root).length := (List.getElem?_eq_some_iff.1 hv).1
 rw [headCells, List.getElem?_append_right (by rw [cells8_len, ok.log]; omega), cells8_len, ok.log, List.getElem?_append_right (by simp; omega)]
 rw [List.length_singleton, show 33 + j - 32 - 1 = j by omega, List.getElem?_append_left hj, hv]
theorem headCells_index {h : HeadD} (ok : h.Ok) (j : Nat) (v : Value) (hv : (cells8 h.index)[j]? = some v) : (headCells h)[65 + j]? = some v := by
 have hj : j < (cells8 h.index).length := (List.getElem?_eq_some_iff.1 hv).1
 rw [headCells, List.getElem?_append_right (by rw [cells8_len, ok.log]; omega), cells8_len, ok.log, List.getElem?_append_right (by simp; omega)]
 rw [List.length_singleton, List.getElem?_append_right (by rw [cells8_len, ok.root]; omega), cells8_len, ok.root, show 65 + j - 32 - 1 - 32 = j by omega, List.getElem?_append_left hj, hv]
theorem headCells_clock {h : HeadD} (ok : h.Ok) : (headCells h)[97]? = some (.int .i64 h.clock) := by
 rw [headCells, List.getElem?_append_right (by rw [cells8_len, ok.log]; omega), cells8_len, ok.log, List.getElem?_append_right (by simp)]
 rw [List.length_singleton, List.getElem?_append_right (by rw [cells8_len, ok.root]; omega), cells8_len, ok.root, List.getElem?_append_right (by rw [cells8_len, ok.index]; omega), cells8_len, ok.index]
 rfl
def rightB (h : HeadD) : Bool := decide (0 ≤ h.size) && decide (h.size ≤ 1099511627776) && decide (0 ≤ h.clock) && decide (h.clock ≤ 4611686018427387904)
def headBytes (h : HeadD) : Text := [32] ++ h.log ++ be8 h.size.toNat ++ (h.root ++ h.index) ++ be8 h.clock.toNat
theorem headBytes_len {h : HeadD} (ok : h.Ok) : (headBytes h).length = 113 := by simp [headBytes, be8_len, ok.log, ok.root, ok.index]

set_option maxRecDepth 100000 in
set_option maxHeartbeats 1000000 in
theorem right_any (h : HeadD) (ok : h.Ok) (w : World) :
  Calls Tryz.prog 63 #[.agg (headCells h).toArray] w fun e w' => e = .returned (.bool (rightB h)) ∧ Below w.heap.size w w' := by
 have e1 : (headCells h).toArray[32]? = some (.int .i64 h.size) := by rw [List.getElem?_toArray]; exact headCells_size ok
 have e2 : (headCells h).toArray[97]? = some (.int .i64 h.clock) := by rw [List.getElem?_toArray]; exact headCells_clock ok
 have f1 := headCells_size ok
 have f2 := headCells_clock ok
 have hb : Below w.heap.size w (w.alloc (.cells (headCells h).toArray 36)) := Below.heap_below w _
 replace hb := Lib.hid hb
 have hk : Hid (rightB h = (decide (0 ≤ h.size) && decide (h.size ≤ 1099511627776) && decide (0 ≤ h.clock) && decide (h.clock ≤ 4611686018427387904))) := rfl
 generalize rightB h = b at *
 generalize headCells h = cs at *
 generalize h.size = n at *
 generalize h.clock = m at *
 rcases Bool.eq_false_or_eq_true (decide (0 ≤ n)) with b1 | b1 <;> rcases Bool.eq_false_or_eq_true (decide (n ≤ 1099511627776)) with b2 | b2 <;> rcases Bool.eq_false_or_eq_true (decide (0 ≤ m)) with b3 | b3 <;> rcases Bool.eq_false_or_eq_true (decide (m ≤ 4611686018427387904)) with b4 | b4
 all_goals
  have k1 := Lib.hid b1
  have k2 := Lib.hid b2
  have k3 := Lib.hid b3
  have k4 := Lib.hid b4
  go_enter Tryz.func63, Tryz.ntmps63
  go_wp2_with fail
  go_ret
  refine ⟨?_, hb.out⟩
  rw [hk.out, k1.out, k2.out, k3.out, k4.out]
  rfl

theorem size98 : (Tryz.prog.info? 36).map (·.size) = some 98 := by kernel_rfl

set_option maxRecDepth 100000 in
set_option maxHeartbeats 1000000 in
theorem lay_any (h : HeadD) (ok : h.Ok) (hr : rightB h = true) (g : Nat) (r : Option Nat) (l : Text) (w : World) (hl : l.length + 113 ≤ 140737488355328) (hw : WrAt w g r l) :
  Calls Tryz.prog 67 #[.pointer (some ⟨g, 0, none⟩), .agg (headCells h).toArray] w fun e w' => e = .returned (.tuple #[]) ∧ Wrote w g r (l ++ headBytes h) w' := by
 have hrb : 0 ≤ h.size ∧ h.size ≤ 1099511627776 ∧ 0 ≤ h.clock ∧ h.clock ≤ 4611686018427387904 := by simpa [rightB, and_assoc] using hr
 obtain ⟨hs0, hs1, hm0, hm1⟩ := hrb
 have hW0 : Hid (Wrote (w.alloc (.cells (headCells h).toArray 36)) g r l (w.alloc (.cells (headCells h).toArray 36))) := (hw.alloc _).refl
 have hne : Hid (w.heap.size ≠ g ∧ some w.heap.size ≠ r) := by
  refine ⟨fun e => ?_, fun e => ?_⟩
  ·have := hw.lt; omega
  ·obtain ⟨v, _, _, _, hr1⟩ := hw
   have := (hr1 _ e.symm).2
   omega
 have hB0 : Hid (Blk (w.alloc (.cells (headCells h).toArray 36)) w.heap.size 36 (headCells h).toArray) := Blk.new w _ _
 replace hl := Lib.hid hl
 have dl := Lib.hid ok.log
 have dr := Lib.hid ok.root
 have di := Lib.hid ok.index
 have c1 := fun (w' : World) (hb : Blk w' w.heap.size 36 (headCells h).toArray) (j : Nat) (v : Value) (hv : (cells8 h.log)[j]? = some v) => ((hb.cell (0 + j)).trans (by rw [List.getElem?_toArray]; exact headCells_log j v hv) : w'.cell? ⟨w.heap.size, 0 + j, none⟩ = some v)
 have c2 := fun (w' : World) (hb : Blk w' w.heap.size 36 (headCells h).toArray) => ((hb.cell 32).trans (by rw [List.getElem?_toArray]; exact headCells_size ok) : w'.cell? ⟨w.heap.size, 32, none⟩ = some (.int .i64 h.size))
 have c3 := fun (w' : World) (hb : Blk w' w.heap.size 36 (headCells h).toArray) (j : Nat) (v : Value) (hv : (cells8 h.root)[j]? = some v) => ((hb.cell (33 + j)).trans (by rw [List.getElem?_toArray]; exact headCells_root ok j v hv) : w'.cell? ⟨w.heap.size, 33 + j, none⟩ = some v)
 have c4 := fun (w' : World) (hb : Blk w' w.heap.size 36 (headCells h).toArray) (j : Nat) (v : Value) (hv : (cells8 h.index)[j]? = some v) => ((hb.cell (65 + j)).trans (by rw [List.getElem?_toArray]; exact headCells_index ok j v hv) : w'.cell? ⟨w.heap.size, 65 + j, none⟩ = some v)
 have c5 := fun (w' : World) (hb : Blk w' w.heap.size 36 (headCells h).toArray) => ((hb.cell 97).trans (by rw [List.getElem?_toArray]; exact headCells_clock ok) : w'.cell? ⟨w.heap.size, 97, none⟩ = some (.int .i64 h.clock))
 replace c1 := Lib.hid c1
 replace c2 := Lib.hid c2
 replace c3 := Lib.hid c3
 replace c4 := Lib.hid c4
 replace c5 := Lib.hid c5
 have s1 : Hid ((Tryz.prog.info? 34).map (·.size) = some (cells8 h.log).length) := agg_hi size32 (by rw [cells8_len, ok.log])
 have s2 : Hid ((Tryz.prog.info? 34).map (·.size) = some (cells8 h.root).length) := agg_hi size32 (by rw [cells8_len, ok.root])
 have s3 : Hid ((Tryz.prog.info? 34).map (·.size) = some (cells8 h.index).length) := agg_hi size32 (by rw [cells8_len, ok.index])
 have q1 : Hid (∀ v ∈ [cells8 h.log], v.length = 32) := by intro v hv; simp only [List.mem_singleton] at hv; rw [hv, cells8_len, ok.log]
 have q2 : Hid (∀ v ∈ [cells8 h.root, cells8 h.index], v.length = 32) := by
  intro v hv
  simp only [List.mem_cons, List.not_mem_nil, or_false] at hv
  rcases hv with rfl | rfl
  ·rw [cells8_len, ok.root]
  ·rw [cells8_len, ok.index]
 have d1 : Hid (∀ d ∈ [h.log], d.length = 32) := by intro v hv; simp only [List.mem_singleton] at hv; rw [hv, ok.log]
 have d2 : Hid (∀ d ∈ [h.root, h.index], d.length = 32) := by
  intro v hv
  simp only [List.mem_cons, List.not_mem_nil, or_false] at hv
  rcases hv with rfl | rfl
  ·exact ok.root
  ·exact ok.index
 have y1 : IntKind.u64.wrap h.size = h.size := u64_in _ hs0 (by omega)
 have y2 : IntKind.u64.wrap h.clock = h.clock := u64_in _ hm0 (by omega)
 have n1 : Hid ((h.size.toNat : Int) = h.size ∧ h.size.toNat < 18446744073709551616) := by refine ⟨?_, ?_⟩ <;> omega
 have n2 : Hid ((h.clock.toNat : Int) = h.clock ∧ h.clock.toNat < 18446744073709551616) := by refine ⟨?_, ?_⟩ <;> omega
 have hfin : Hid (l ++ headBytes h = l ++ [32] ++ [h.log].flatten ++ be8 h.size.toNat ++ [h.root, h.index].flatten ++ be8 h.clock.toNat) := by show _ = _; simp [headBytes]
 have l8 := fun N => Lib.hid (be8_len N)
 have hB9 := hB0
 obtain ⟨X1, x1⟩ : ∃ X, Hid (X = ([cells8 h.log].flatten).toArray) := ⟨_, rfl⟩
 obtain ⟨X2, x2⟩ : ∃ X, Hid (X = ([cells8 h.root, cells8 h.index].flatten).toArray) := ⟨_, rfl⟩
 go_enter Tryz.func67, Tryz.ntmps67
 go_wp2_with (first
  | (go_at_call 66; refine (put1_from 32 32 rfl (by have := hl.out; omega) hW0.out).mono ?_; rintro e w1 ⟨rfl, hW1⟩; replace hW1 := Lib.hid hW1; have hB1 := Lib.hid (hW1.out.blk hB0.out hne.out.1 hne.out.2); have e1 := Lib.hid (c1.out w1 hB1.out); clear hW0 hB0)
  | ((with_reducible change wpList _ _ _ (⟨some 8, _, _, _, _, _⟩ :: _) _ _); refine wpList_load_part (o := ⟨some 8, _, _, _, _, _⟩) rfl 34 (.tmp 7) rfl w.heap.size 0 rfl (cells8 h.log) _ e1.out Tryz.underlying34 rfl s1.out ?_)
  | ((with_reducible change wpList _ _ _ (⟨some 9, _, _, _, _, _⟩ :: _) _ _); refine wpList_buildAggs (o := ⟨some 9, _, _, _, _, _⟩) rfl 73 34 1 _ rfl 32 (by decide) [cells8 h.log] Tryz.underlying73 size32 zero32 rfl (by decide) (by decide) q1.out rfl ?_; rw [← x1.out])
  | (go_at_call 68; rw [show X1 = (([h.log].map cells8).flatten).toArray from x1.out]; refine (digests_new [h.log] 1 rfl d1.out (by have := hl.out; simp; omega) hW1.out).mono ?_; rintro e w2 ⟨rfl, hW2⟩; replace hW2 := Lib.hid hW2; have hB2 := Lib.hid (hW2.out.blk hB9.out hne.out.1 hne.out.2); have e2 := c2.out w2 hB2.out; clear hW1 hB1 e1)
  | (go_at_call 105; refine (put8_from h.size h.size.toNat n1.out.1 n1.out.2 (by have := hl.out; have := dl.out; simp; omega) hW2.out).mono ?_; rintro e w3 ⟨rfl, hW3⟩; replace hW3 := Lib.hid hW3; have hB3 := Lib.hid (hW3.out.blk hB9.out hne.out.1 hne.out.2); have e3 := Lib.hid (c3.out w3 hB3.out); have e4 := Lib.hid (c4.out w3 hB3.out); clear hW2 hB2 e2)
  | ((with_reducible change wpList _ _ _ (⟨some 18, _, _, _, _, _⟩ :: _) _ _); refine wpList_load_part (o := ⟨some 18, _, _, _, _, _⟩) rfl 34 (.tmp 17) rfl w.heap.size 33 rfl (cells8 h.root) _ e3.out Tryz.underlying34 rfl s2.out ?_)
  | ((with_reducible change wpList _ _ _ (⟨some 20, _, _, _, _, _⟩ :: _) _ _); refine wpList_load_part (o := ⟨some 20, _, _, _, _, _⟩) rfl 34 (.tmp 19) rfl w.heap.size 65 rfl (cells8 h.index) _ e4.out Tryz.underlying34 rfl s3.out ?_)
  | ((with_reducible change wpList _ _ _ (⟨some 21, _, _, _, _, _⟩ :: _) _ _); refine wpList_buildAggs (o := ⟨some 21, _, _, _, _, _⟩) rfl 73 34 2 _ rfl 32 (by decide) [cells8 h.root, cells8 h.index] Tryz.underlying73 size32 zero32 rfl (by decide) (by decide) q2.out rfl ?_; rw [← x2.out])
  | (go_at_call 68; rw [show X2 = (([h.root, h.index].map cells8).flatten).toArray from x2.out]; refine (digests_new [h.root, h.index] 2 rfl d2.out (by have := hl.out; have := dl.out; have := (l8 h.size.toNat).out; simp; omega) hW3.out).mono ?_; rintro e w4 ⟨rfl, hW4⟩; replace hW4 := Lib.hid hW4; have hB4 := Lib.hid (hW4.out.blk hB9.out hne.out.1 hne.out.2); have e5 := c5.out w4 hB4.out; clear hW3 hB3 e3 e4)
  | (go_at_call 105; refine (put8_from h.clock h.clock.toNat n2.out.1 n2.out.2 (by have := hl.out; have := dl.out; have := dr.out; have := di.out; have := (l8 h.size.toNat).out; simp; omega) hW4.out).mono ?_; rintro e w5 ⟨rfl, hW5⟩; replace hW5 := Lib.hid hW5))
 go_end0
 exact ⟨rfl, by have := hW5.out.of_alloc; rw [← hfin.out] at this; exact this⟩
end Go.Proofs.YtfbhjoejffagjaaGreatDoor.HeadMem

namespace Go.Proofs.YtfbhjoejffagjaaGreatDoor.HeadEnc
open Go Go.RowKit Go.Proofs.YtfbhjoejffagjaaGreatDoor Mem Sha Bytes Go.Proofs.YtfbhjoejffagjaaGreatDoor.Append Octet Octet2 HeadMem

set_option maxRecDepth 100000 in
set_option maxHeartbeats 1000000 in
theorem laid_any (h : HeadD) (ok : h.Ok) (hr : rightB h = true) (w : World) :
  Calls Tryz.prog 64 #[.agg (headCells h).toArray] w fun e w' => ∃ v, e = .returned v ∧ Below w.heap.size w w' ∧ w'.ownsRow w.heap.size 5 1 v 113 (cells8 (headBytes h)) := by
 have hb0 : Hid (Below w.heap.size w (w.alloc (.cells (headCells h).toArray 36))) := Below.heap_below w _
 have hN := Lib.hid (WrAt.new (w.alloc (.cells (headCells h).toArray 36)))
 have hB : Hid (Blk ((w.alloc (.cells (headCells h).toArray 36)).alloc (.cells #[.slice none 0 0] 161)) w.heap.size 36 (headCells h).toArray) := (Blk.new w _ _).alloc _
 have hsz : Hid ((Tryz.prog.info? 36).map (·.size) = some (headCells h).toArray.size) := by show _ = _; rw [List.size_toArray, headCells_len ok]; exact size98
 have hlen := Lib.hid (headBytes_len ok)
 have hz : Hid ((w.alloc (.cells (headCells h).toArray 36)).heap.size = w.heap.size + 1) := by show _ = _; simp
 rw [hz.out] at hN
 go_enter Tryz.func64, Tryz.ntmps64
 go_wp2_with (first
  | (go_at_call 65; refine (new_any _).mono ?_; rintro e w1 ⟨rfl, rfl⟩)
  | ((with_reducible change wpList _ _ _ (⟨some 6, _, _, _, _, _⟩ :: _) _ _); refine wpList_load_row (o := ⟨some 6, _, _, _, _, _⟩) rfl 36 (.tmp 1) rfl w.heap.size rfl 36 (headCells h).toArray (0, 0) _ hB.out Tryz.underlying36 rfl hsz.out ?_)
  | (go_at_call 67; refine (lay_any h ok hr (w.heap.size + 1) none [] _ (by simp) hN.out).mono ?_; rintro e w2 ⟨rfl, hW2⟩; have hb2 : Hid (Below w.heap.size w w2) := (hb0.out.alloc (by simp) _).trans (hW2.below (fun _ e => by cases e) (B := w.heap.size) (by omega) (by simp; omega)); obtain ⟨r2, hA2, -, -⟩ := hW2; replace hA2 := Lib.hid hA2)
  | (go_at_call 69; refine (all_any (w.heap.size + 1) r2 (headBytes h) w2 (by rw [hlen.out]; omega) hA2.out).mono ?_; rintro e w3 ⟨v, rfl, hb3, ho3⟩; rw [hlen.out] at ho3; obtain ⟨Av, cv, rfl, -⟩ := Own.reads ho3; have hb4 : Hid (Below w.heap.size w w3) := hb2.out.trans (hb3.mono hb2.out.size); replace ho3 := Lib.hid ho3; clear hb3))
 go_ret
 exact ⟨_, rfl, hb4.out, ownsRow_base ho3.out hb2.out.size⟩

end Go.Proofs.YtfbhjoejffagjaaGreatDoor.HeadEnc

namespace Go.Proofs.YtfbhjoejffagjaaGreatDoor.RefHead
open Go Go.RowKit Go.Proofs.YtfbhjoejffagjaaGreatDoor Mem Sha Bytes Go.Proofs.YtfbhjoejffagjaaGreatDoor.Append Octet Octet2 HeadMem

theorem own_new (w : World) (B : Nat) (hB : B ≤ w.heap.size) (e : TypeId) (cs : Array Value) (n : Nat) (hn : cs.size = n) (hm : n ≤ maxLen) : (w.alloc (.cells cs e)).ownsRow B e 1 (.slice (some ⟨w.heap.size, 0, none⟩) n n) n cs.toList :=
 ⟨by simp [hn], .inr ⟨w.heap.size, n, cs, rfl, hB, heap_alloc_new w _, Nat.le_refl _, hm, by omega, by rw [List.take_of_length_le (by simp [hn])]⟩⟩

set_option maxRecDepth 100000 in
set_option maxHeartbeats 1000000 in
theorem low_any (N : Nat) (hN : N < 9223372036854775808) (w : World) :
  Calls Tryz.prog 76 #[.int .i64 (N : Int)] w fun e w' => ∃ v, e = .returned v ∧ Below w.heap.size w w' ∧ w'.ownsRow w.heap.size 5 1 v 8 (cells8 (be8 N)) := by
 obtain ⟨i0, hi, hz0, hz1, hz2⟩ := info_parts8 info8
 have H0 : Hid (w.ownsRow w.heap.size 5 1 (.slice none 0 0) 0 (cells8 ((be8 N).take 0))) := World.ownsRow_nil _ _ _ _
 have HN : Hid ((N : Int) < 9223372036854775808) := by show _ < _; omega
 clear hN
 go_enter Tryz.func76, Tryz.ntmps76
 go_wp2_with fail
 go_loopw [3, 4] (fun b v wr => ∃ (j : Nat) (A : Option Addr) (c : Nat), b = .slice A j c ∧ v = .int .i64 (7 - (j : Int)) ∧ Hid (j ≤ 8) ∧ Hid (wr.ownsRow w.heap.size 5 1 (.slice A j c) j (cells8 ((be8 N).take j))) ∧ Hid (Below w.heap.size w wr)) (fun _ v _ => (1 + intOf v).toNat)
 case atStart => exact ⟨0, none, 0, rfl, rfl, (show 0 ≤ 8 by omega), H0.out, Below.refl _ _⟩
 case round =>
  clear H0
  obtain ⟨j, A, c, rfl, rfl, hj, hO, hW⟩ := hrel
  by_cases hlt : j < 8
  ·have hz : (0 : Int) ≤ 7 - (j : Int) := by omega
   have hz7 : (j : Int) ≤ 7 := by omega
   have hzj : (0 : Int) ≤ (j : Int) := by omega
   obtain ⟨x, hx⟩ : ∃ x, Hid (x = byteAt N (56 - 8 * j)) := ⟨_, rfl⟩
   have y4 : (8 * (7 - (j : Int))).toNat = 56 - 8 * j := by omega
   have y3 : (N : Int) / 2 ^ (56 - 8 * j) % 256 = b8 x := by rw [hx.out]; exact b8_at N _
   have y5 : (8 * (7 - (j : Int))) < 64 := by omega
   have y6 : 0 ≤ (8 * (7 - (j : Int))) := by omega
   have y7 : (0 : Int) ≤ (N : Int) / 2 ^ (56 - 8 * j) := Int.ediv_nonneg (by omega) (by exact Int.le_of_lt (Int.pow_pos (by decide)))
   have hts : Hid ((be8 N).take (j + 1) = (be8 N).take j ++ [x]) := by show _ = _; rw [List.take_add_one, be8_at N j hlt, hx.out]; rfl
   have hsz : Hid (w.heap.size ≤ wr.heap.size) := hW.out.size
   have hnew : Hid (Reads (wr.alloc (.cells #[.int .u8 (b8 x)] 5)) 1 (some ⟨wr.heap.size, 0, none⟩) 1 (cells8 [x])) := (Blk.new wr 5 _).reads 0 _ rfl (fun j u hu => by rw [Nat.zero_add]; exact by simpa [cells8, cell8] using hu)
   have hO1 : Hid ((wr.alloc (.cells #[.int .u8 (b8 x)] 5)).ownsRow w.heap.size 5 1 (.slice A j c) j (cells8 ((be8 N).take j))) := World.ownsRow.alloc (w := wr) hO.out _
   have hW1 : Hid (Below w.heap.size w (wr.alloc (.cells #[.int .u8 (b8 x)] 5))) := hW.out.alloc hsz.out _
   have hs1 : Hid (w.heap.size ≤ (wr.alloc (.cells #[.int .u8 (b8 x)] 5)).heap.size) := hW1.out.size
   go_wp2_with (at_builtin; refine wpList_append_src _ rfl (.tmp 9) (.tmp 15) 31 rfl w.heap.size 5 i0 (.int .u8 0) 1 1 Tryz.underlying31 hi hz0 hz1 hz2 rfl (by decide) (.slice A j c) j (cells8 ((be8 N).take j)) rfl hO1.out (some ⟨wr.heap.size, 0, none⟩) 1 1 (cells8 [x]) rfl hnew.out (fun e => by cases e) (cells8_one [x]) (by unfold maxLen; omega) (by omega) hs1.out ?_; intro v1 W hG; obtain ⟨A1, c1, rfl, -⟩ := Own.reads hG.own; have hb1 : Hid (Below w.heap.size w W) := hG.below hW1.out hs1.out (fun k hk => by
     obtain ⟨A2, c2, e2, _, _, _, _, h2⟩ := Own.reads hO1.out
     injection e2 with e2 _ e3
     subst e2
     cases A with
     | none => cases hk
     | some a => injection hk with hk; subst hk; exact (h2 a rfl).1); replace hG := Lib.hid hG.own)
   go_roundw
   case rel => exact ⟨j + 1, A1, c1, rfl, by go_num, (show j + 1 ≤ 8 by omega), (by show World.ownsRow _ _ _ _ _ _ _; rw [hts.out]; have := hG.out; simpa [cells8] using this), hb1.out⟩
   case measure => simp [intOf]; omega
  ·obtain rfl : j = 8 := by have := hj.out; omega
   have hT : Hid ((be8 N).take 8 = be8 N) := List.take_of_length_le (by rw [be8_len]; omega)
   go_wp2_with fail
   go_ret
   exact ⟨_, rfl, hW.out, by have := hO.out; rw [hT.out] at this; exact this⟩

theorem low_lit (n : Int) (N : Nat) (hn : (N : Int) = n) (hN : N < 9223372036854775808) (w : World) :
  Calls Tryz.prog 76 #[.int .i64 n] w fun e w' => ∃ v, e = .returned v ∧ Below w.heap.size w w' ∧ w'.ownsRow w.heap.size 5 1 v 8 (cells8 (be8 N)) := by
 subst hn
 exact low_any N hN w
theorem own_block {w : World} {B e size n : Nat} {A : Option Addr} {c : Nat} {xs : List Value} (h : w.ownsRow B e size (.slice A n c) n xs) : ∀ k, Value.ownBlock (.slice A n c) = some k → B ≤ k := by
 intro k hk
 obtain ⟨A2, c2, e2, _, _, _, _, h2⟩ := Own.reads h
 injection e2 with e2 _ e3
 subst e2
 cases A with
 | none => cases hk
 | some a => injection hk with hk; subst hk; exact (h2 a rfl).1
theorem grew_text {w w' : World} {B n m : Nat} {A : Option Addr} {c : Nat} {q r : Text} {v' : Value} (h : Grew w B 5 1 (.slice A n c) n m (cells8 q) (cells8 r) v' w') {w0 : World} (hb : Below B w0 w) (hB : B ≤ w.heap.size) (hown : w.ownsRow B 5 1 (.slice A n c) n (cells8 q)) (s : Text) (hs : s = q ++ r) (k : Nat) (hk : k = n + m) :
  ∃ A' c', v' = .slice A' k c' ∧ Hid (w'.ownsRow B 5 1 (.slice A' k c') k (cells8 s)) ∧ Hid (Below B w0 w') := by
 subst hs
 subst hk
 have ho := h.own
 obtain ⟨A', c', rfl, -⟩ := Own.reads ho
 refine ⟨A', c', rfl, ?_, h.below hb hB (own_block hown)⟩
 show w'.ownsRow _ _ _ _ _ _
 simpa [cells8] using ho

theorem own_below {w w' : World} {B e size n : Nat} {v : Value} {xs : List Value} (h : w.ownsRow B e size v n xs) (hb : Below w.heap.size w w') : w'.ownsRow B e size v n xs :=
 ⟨h.1, h.2.imp id fun ⟨g, cap, cur, h1, h2, h3, h4⟩ => ⟨g, cap, cur, h1, h2, (hb.block g (Array.getElem?_eq_some_iff.1 h3).1).trans h3, h4⟩⟩

set_option maxRecDepth 100000 in
set_option maxHeartbeats 1000000 in
theorem refHead_yes (h : HeadD) (ok : h.Ok) (hr : rightB h = true) (w : World) :
  Calls Tryz.prog 35 #[.agg (headCells h).toArray] w fun e w' => ∃ v, e = .returned (.tuple #[v, .bool true]) ∧ Below w.heap.size w w' ∧ w'.ownsRow w.heap.size 5 1 v 113 (cells8 (headBytes h)) := by
 obtain ⟨i0, hi, hz0, hz1, hz2⟩ := info_parts8 info8
 have hrb : 0 ≤ h.size ∧ h.size ≤ 1099511627776 ∧ 0 ≤ h.clock ∧ h.clock ≤ 4611686018427387904 := by simpa [rightB, and_assoc] using hr
 obtain ⟨hs0, hs1, hm0, hm1⟩ := hrb
 have e1 : (headCells h).toArray[32]? = some (.int .i64 h.size) := by rw [List.getElem?_toArray]; exact headCells_size ok
 have e2 : (headCells h).toArray[97]? = some (.int .i64 h.clock) := by rw [List.getElem?_toArray]; exact headCells_clock ok
 have f1 := headCells_size ok
 have f2 := headCells_clock ok
 have n1 : Hid ((h.size.toNat : Int) = h.size ∧ h.size.toNat < 9223372036854775808) := by refine ⟨?_, ?_⟩ <;> omega
 have n2 : Hid ((h.clock.toNat : Int) = h.clock ∧ h.clock.toNat < 9223372036854775808) := by refine ⟨?_, ?_⟩ <;> omega
 have d1 : decide (h.size < 0) = false := by simp; omega
 have d2 : decide (1099511627776 < h.size) = false := by simp; omega
 have d3 : decide (h.clock < 0) = false := by simp; omega
 have d4 : decide (4611686018427387904 < h.clock) = false := by simp; omega
 have hb0 : Hid (Below w.heap.size w (w.alloc (.cells (headCells h).toArray 36))) := Below.heap_below w _
 have hz1' : Hid ((w.alloc (.cells (headCells h).toArray 36)).heap.size = w.heap.size + 1) := by show _ = _; simp
 have hB0 : Hid (Blk (w.alloc (.cells (headCells h).toArray 36)) w.heap.size 36 (headCells h).toArray) := Blk.new w _ _
 have hB1 : Hid (Blk ((w.alloc (.cells (headCells h).toArray 36)).alloc (.cells #[.int .u8 32] 5)) w.heap.size 36 (headCells h).toArray) := (Blk.new w _ _).alloc _
 have hO1 : Hid (((w.alloc (.cells (headCells h).toArray 36)).alloc (.cells #[.int .u8 32] 5)).ownsRow (w.heap.size + 1) 5 1 (.slice (some ⟨w.heap.size + 1, 0, none⟩) 1 1) 1 (cells8 [32])) := by
  have := own_new (w.alloc (.cells (headCells h).toArray 36)) (w.heap.size + 1) (Nat.le_of_eq hz1'.out.symm) 5 #[.int .u8 32] 1 rfl (by unfold maxLen; omega)
  rw [hz1'.out] at this
  exact this
 have hb1 : Hid (Below (w.heap.size + 1) (w.alloc (.cells (headCells h).toArray 36)) ((w.alloc (.cells (headCells h).toArray 36)).alloc (.cells #[.int .u8 32] 5))) := (Below.refl _ _).alloc (Nat.le_of_eq hz1'.out.symm) _
 have hs1 : Hid (w.heap.size + 1 ≤ ((w.alloc (.cells (headCells h).toArray 36)).alloc (.cells #[.int .u8 32] 5)).heap.size) := by have := hb1.out.size; have := hz1'.out; show _ ≤ _; omega
 have c1 := fun (w' : World) (hb : Blk w' w.heap.size 36 (headCells h).toArray) => hb.reads (size := 1) (n := 32) 0 (cells8 h.log) (by rw [cells8_len, ok.log]) (fun j u hu => by rw [List.getElem?_toArray]; exact headCells_log j u hu)
 have cr3 := fun (w' : World) (hb : Blk w' w.heap.size 36 (headCells h).toArray) => hb.reads (size := 1) (n := 32) 33 (cells8 h.root) (by rw [cells8_len, ok.root]) (fun j u hu => by rw [List.getElem?_toArray]; exact headCells_root ok j u hu)
 have cr4 := fun (w' : World) (hb : Blk w' w.heap.size 36 (headCells h).toArray) => hb.reads (size := 1) (n := 32) 65 (cells8 h.index) (by rw [cells8_len, ok.index]) (fun j u hu => by rw [List.getElem?_toArray]; exact headCells_index ok j u hu)
 have r1 := Lib.hid (c1 _ hB1.out)
 replace cr3 := Lib.hid cr3
 replace cr4 := Lib.hid cr4
 clear c1
 have hfin : Hid (headBytes h = ([32] ++ h.log ++ be8 h.size.toNat ++ h.root ++ h.index ++ be8 h.clock.toNat)) := by show _ = _; simp [headBytes]
 go_enter Tryz.func35, Tryz.ntmps35
 go_wp2_with (first
  | ((with_reducible change wpList _ _ _ (⟨some 26, _, _, _, _, _⟩ :: _) _ _); refine wpList_append_src _ (o := ⟨some 26, _, _, _, _, _⟩) rfl (.tmp 23) (.tmp 25) 31 rfl (w.heap.size + 1) 5 i0 (.int .u8 0) 1 1 Tryz.underlying31 hi hz0 hz1 hz2 rfl (by decide) (.slice (some ⟨w.heap.size + 1, 0, none⟩) 1 1) 1 (cells8 [32]) rfl hO1.out (some ⟨w.heap.size, 0, none⟩) 32 32 (cells8 h.log) rfl r1.out (fun e => by cases e) (cells8_one _) (by unfold maxLen; omega) (by omega) hs1.out ?_; intro v2 w2 hG; obtain ⟨A2, c2, rfl, hO2, hb2⟩ := grew_text hG hb1.out hs1.out hO1.out ([32] ++ h.log) rfl 33 rfl; clear hG; have hs2 : Hid (w.heap.size + 1 ≤ w2.heap.size) := (by have := hb2.out.size; have := hz1'.out; show _ ≤ _; omega); have hB2 := Lib.hid ((hb2.out.block w.heap.size (by omega)).trans hB0.out); have g2 : w2.cell? ⟨w.heap.size, 32, none⟩ = some (.int .i64 h.size) := (Blk.cell hB2.out 32).trans e1)
  | (go_at_call 76; refine (low_lit h.size h.size.toNat n1.out.1 n1.out.2 w2).mono ?_; rintro e w3 ⟨v3, rfl, hl3, ho3⟩; obtain ⟨Al, cl, rfl, -, -, hnl, hrl, -⟩ := Own.reads ho3; have hb3 : Hid (Below (w.heap.size + 1) (w.alloc (.cells (headCells h).toArray 36)) w3) := hb2.out.trans (hl3.mono hs2.out); have hO3 := Lib.hid (own_below hO2.out hl3); have hs3 : Hid (w.heap.size + 1 ≤ w3.heap.size) := Nat.le_trans hs2.out hl3.size; have hB3 := Lib.hid ((hl3.block w.heap.size (by have := hs2.out; omega)).trans hB2.out); replace hrl := Lib.hid hrl; replace hnl := Lib.hid hnl; clear hl3 ho3 n1)
  | ((with_reducible change wpList _ _ _ (⟨some 31, _, _, _, _, _⟩ :: _) _ _); refine wpList_append_src _ (o := ⟨some 31, _, _, _, _, _⟩) rfl (.tmp 27) (.tmp 30) 31 rfl (w.heap.size + 1) 5 i0 (.int .u8 0) 1 1 Tryz.underlying31 hi hz0 hz1 hz2 rfl (by decide) (.slice A2 33 c2) 33 (cells8 ([32] ++ h.log)) rfl hO3.out (Al) 8 cl (cells8 (be8 h.size.toNat)) rfl hrl.out hnl.out (cells8_one _) (by unfold maxLen; omega) (by omega) hs3.out ?_; intro v4 w4 hG; obtain ⟨A4, c4, rfl, hO4, hb4⟩ := grew_text hG hb3.out hs3.out hO3.out ([32] ++ h.log ++ be8 h.size.toNat) rfl 41 rfl; clear hG; have hs4 : Hid (w.heap.size + 1 ≤ w4.heap.size) := (by have := hb4.out.size; have := hz1'.out; show _ ≤ _; omega); have hB4 := Lib.hid ((hb4.out.block w.heap.size (by omega)).trans hB0.out); have r4 := Lib.hid (cr3.out w4 hB4.out))
  | ((with_reducible change wpList _ _ _ (⟨some 35, _, _, _, _, _⟩ :: _) _ _); refine wpList_append_src _ (o := ⟨some 35, _, _, _, _, _⟩) rfl (.tmp 32) (.tmp 34) 31 rfl (w.heap.size + 1) 5 i0 (.int .u8 0) 1 1 Tryz.underlying31 hi hz0 hz1 hz2 rfl (by decide) (.slice A4 41 c4) 41 (cells8 ([32] ++ h.log ++ be8 h.size.toNat)) rfl hO4.out (some ⟨w.heap.size, 33, none⟩) 32 32 (cells8 h.root) rfl r4.out (fun e => by cases e) (cells8_one _) (by unfold maxLen; omega) (by omega) hs4.out ?_; intro v5 w5 hG; obtain ⟨A5, c5, rfl, hO5, hb5⟩ := grew_text hG hb4.out hs4.out hO4.out ([32] ++ h.log ++ be8 h.size.toNat ++ h.root) rfl 73 rfl; clear hG; have hs5 : Hid (w.heap.size + 1 ≤ w5.heap.size) := (by have := hb5.out.size; have := hz1'.out; show _ ≤ _; omega); have hB5 := Lib.hid ((hb5.out.block w.heap.size (by omega)).trans hB0.out); have r5 := Lib.hid (cr4.out w5 hB5.out))
  | ((with_reducible change wpList _ _ _ (⟨some 39, _, _, _, _, _⟩ :: _) _ _); refine wpList_append_src _ (o := ⟨some 39, _, _, _, _, _⟩) rfl (.tmp 36) (.tmp 38) 31 rfl (w.heap.size + 1) 5 i0 (.int .u8 0) 1 1 Tryz.underlying31 hi hz0 hz1 hz2 rfl (by decide) (.slice A5 73 c5) 73 (cells8 ([32] ++ h.log ++ be8 h.size.toNat ++ h.root)) rfl hO5.out (some ⟨w.heap.size, 65, none⟩) 32 32 (cells8 h.index) rfl r5.out (fun e => by cases e) (cells8_one _) (by unfold maxLen; omega) (by omega) hs5.out ?_; intro v6 w6 hG; obtain ⟨A6, c6, rfl, hO6, hb6⟩ := grew_text hG hb5.out hs5.out hO5.out ([32] ++ h.log ++ be8 h.size.toNat ++ h.root ++ h.index) rfl 105 rfl; clear hG; have hs6 : Hid (w.heap.size + 1 ≤ w6.heap.size) := (by have := hb6.out.size; have := hz1'.out; show _ ≤ _; omega); have hB6 := Lib.hid ((hb6.out.block w.heap.size (by omega)).trans hB0.out); have g6 : w6.cell? ⟨w.heap.size, 97, none⟩ = some (.int .i64 h.clock) := (Blk.cell hB6.out 97).trans e2)
  | (go_at_call 76; refine (low_lit h.clock h.clock.toNat n2.out.1 n2.out.2 w6).mono ?_; rintro e w7 ⟨v7, rfl, hl7, ho7⟩; obtain ⟨Am, cm, rfl, -, -, hnm, hrm, -⟩ := Own.reads ho7; have hb7 : Hid (Below (w.heap.size + 1) (w.alloc (.cells (headCells h).toArray 36)) w7) := hb6.out.trans (hl7.mono hs6.out); have hO7 := Lib.hid (own_below hO6.out hl7); have hs7 : Hid (w.heap.size + 1 ≤ w7.heap.size) := Nat.le_trans hs6.out hl7.size; replace hrm := Lib.hid hrm; replace hnm := Lib.hid hnm; clear hl7 ho7)
  | ((with_reducible change wpList _ _ _ (⟨some 44, _, _, _, _, _⟩ :: _) _ _); refine wpList_append_src _ (o := ⟨some 44, _, _, _, _, _⟩) rfl (.tmp 40) (.tmp 43) 31 rfl (w.heap.size + 1) 5 i0 (.int .u8 0) 1 1 Tryz.underlying31 hi hz0 hz1 hz2 rfl (by decide) (.slice A6 105 c6) 105 (cells8 ([32] ++ h.log ++ be8 h.size.toNat ++ h.root ++ h.index)) rfl hO7.out (Am) 8 cm (cells8 (be8 h.clock.toNat)) rfl hrm.out hnm.out (cells8_one _) (by unfold maxLen; omega) (by omega) hs7.out ?_; intro v8 w8 hG; obtain ⟨A8, c8, rfl, hO8, hb8⟩ := grew_text hG hb7.out hs7.out hO7.out ([32] ++ h.log ++ be8 h.size.toNat ++ h.root ++ h.index ++ be8 h.clock.toNat) rfl 113 rfl; clear hG))
 go_ret2
 exact ⟨_, rfl, hb0.out.trans (hb8.out.mono (by omega)), by have := hO8.out; rw [← hfin.out] at this; exact ownsRow_base this (by omega)⟩

theorem not_le_ (a b : Int) : decide (b < a) = !decide (a ≤ b) := by
 by_cases h : a ≤ b
 ·rw [decide_eq_true h, decide_eq_false (by omega)]; rfl
 ·rw [decide_eq_false h, decide_eq_true (by omega)]; rfl

set_option maxRecDepth 100000 in
set_option maxHeartbeats 1000000 in
theorem refHead_no (h : HeadD) (ok : h.Ok) (hr : rightB h = false) (w : World) :
  Calls Tryz.prog 35 #[.agg (headCells h).toArray] w fun e w' => e = .returned (.tuple #[.slice none 0 0, .bool false]) ∧ Below w.heap.size w w' := by
 have e1 : (headCells h).toArray[32]? = some (.int .i64 h.size) := by rw [List.getElem?_toArray]; exact headCells_size ok
 have e2 : (headCells h).toArray[97]? = some (.int .i64 h.clock) := by rw [List.getElem?_toArray]; exact headCells_clock ok
 have f1 := headCells_size ok
 have f2 := headCells_clock ok
 have hb : Below w.heap.size w (w.alloc (.cells (headCells h).toArray 36)) := Below.heap_below w _
 replace hb := Lib.hid hb
 have hk : Hid ((decide (0 ≤ h.size) && decide (h.size ≤ 1099511627776) && decide (0 ≤ h.clock) && decide (h.clock ≤ 4611686018427387904)) = false) := hr
 clear hr
 generalize headCells h = cs at *
 generalize h.size = n at *
 generalize h.clock = m at *
 have d1 := not_le_ 0 n
 have d2 := not_le_ n 1099511627776
 have d3 := not_le_ 0 m
 have d4 := not_le_ m 4611686018427387904
 rcases Bool.eq_false_or_eq_true (decide (0 ≤ n)) with b1 | b1 <;> rcases Bool.eq_false_or_eq_true (decide (n ≤ 1099511627776)) with b2 | b2 <;> rcases Bool.eq_false_or_eq_true (decide (0 ≤ m)) with b3 | b3 <;> rcases Bool.eq_false_or_eq_true (decide (m ≤ 4611686018427387904)) with b4 | b4
 all_goals
  rw [b1] at d1
  rw [b2] at d2
  rw [b3] at d3
  rw [b4] at d4
  simp only [Bool.not_true, Bool.not_false] at d1 d2 d3 d4
  have k0 : Hid (Bool.and (Bool.and (Bool.and (decide (0 ≤ n)) (decide (n ≤ 1099511627776))) (decide (0 ≤ m))) (decide (m ≤ 4611686018427387904)) = false) := hk.out
  have k1 := k0.out
  rw [b1, b2, b3, b4] at k1
  first
  | exact absurd k1 (by decide)
  | (clear k1 k0; go_enter Tryz.func35, Tryz.ntmps35; go_wp2_with fail; go_ret2; exact ⟨rfl, hb.out⟩)
end Go.Proofs.YtfbhjoejffagjaaGreatDoor.RefHead

namespace Go.Proofs.YtfbhjoejffagjaaGreatDoor.HeadEnc
open Go Go.RowKit Go.Proofs.YtfbhjoejffagjaaGreatDoor Mem Sha Bytes Go.Proofs.YtfbhjoejffagjaaGreatDoor.Append Octet Octet2 HeadMem

set_option maxRecDepth 100000 in
set_option maxHeartbeats 1000000 in
theorem encodeHead_yes (h : HeadD) (ok : h.Ok) (hr : rightB h = true) (w : World) :
  Calls Tryz.prog 32 #[.agg (headCells h).toArray] w fun e w' => ∃ v, e = .returned (.tuple #[v, .int .i64 0]) ∧ Below w.heap.size w w' ∧ w'.ownsRow w.heap.size 5 1 v 113 (cells8 (headBytes h)) := by
 have hb0 : Hid (Below w.heap.size w (w.alloc (.cells (headCells h).toArray 36))) := Below.heap_below w _
 have hB : Hid (Blk (w.alloc (.cells (headCells h).toArray 36)) w.heap.size 36 (headCells h).toArray) := Blk.new w _ _
 have hsz : Hid ((Tryz.prog.info? 36).map (·.size) = some (headCells h).toArray.size) := by show _ = _; rw [List.size_toArray, headCells_len ok]; exact size98
 have hz : Hid ((w.alloc (.cells (headCells h).toArray 36)).heap.size = w.heap.size + 1) := by show _ = _; simp
 go_enter Tryz.func32, Tryz.ntmps32
 go_wp2_with (first
  | ((with_reducible change wpList _ _ _ (⟨some 4, _, _, _, _, _⟩ :: _) _ _); refine wpList_load_row (o := ⟨some 4, _, _, _, _, _⟩) rfl 36 (.tmp 1) rfl w.heap.size rfl 36 (headCells h).toArray (0, 0) _ hB.out Tryz.underlying36 rfl hsz.out ?_)
  | (go_at_call 63; refine (right_any h ok _).mono ?_; rw [hr]; rintro e w2 ⟨rfl, hb2⟩; rw [hz.out] at hb2; have hB2 := Lib.hid ((hb2.block w.heap.size (by omega)).trans hB.out); have hbb : Hid (Below w.heap.size w w2) := hb0.out.trans (hb2.mono (by omega)); clear hb2)
  | ((with_reducible change wpList _ _ _ (⟨some 7, _, _, _, _, _⟩ :: _) _ _); refine wpList_load_row (o := ⟨some 7, _, _, _, _, _⟩) rfl 36 (.tmp 1) rfl w.heap.size rfl 36 (headCells h).toArray (0, 0) _ hB2.out Tryz.underlying36 rfl hsz.out ?_)
  | (go_at_call 64; refine (laid_any h ok hr _).mono ?_; rintro e w3 ⟨v, rfl, hb3, ho3⟩; obtain ⟨Av, cv, rfl, -⟩ := Own.reads ho3; have hb4 : Hid (Below w.heap.size w w3) := hbb.out.trans (hb3.mono hbb.out.size); replace ho3 := Lib.hid ho3; clear hb3))
 go_ret2
 exact ⟨_, rfl, hb4.out, ownsRow_base ho3.out hbb.out.size⟩

set_option maxRecDepth 100000 in
set_option maxHeartbeats 1000000 in
theorem encodeHead_no (h : HeadD) (ok : h.Ok) (hr : rightB h = false) (w : World) :
  Calls Tryz.prog 32 #[.agg (headCells h).toArray] w fun e w' => e = .returned (.tuple #[.slice none 0 0, .int .i64 1]) ∧ Below w.heap.size w w' := by
 have hb0 : Hid (Below w.heap.size w (w.alloc (.cells (headCells h).toArray 36))) := Below.heap_below w _
 have hB : Hid (Blk (w.alloc (.cells (headCells h).toArray 36)) w.heap.size 36 (headCells h).toArray) := Blk.new w _ _
 have hsz : Hid ((Tryz.prog.info? 36).map (·.size) = some (headCells h).toArray.size) := by show _ = _; rw [List.size_toArray, headCells_len ok]; exact size98
 have hz : Hid ((w.alloc (.cells (headCells h).toArray 36)).heap.size = w.heap.size + 1) := by show _ = _; simp
 go_enter Tryz.func32, Tryz.ntmps32
 go_wp2_with (first
  | ((with_reducible change wpList _ _ _ (⟨some 4, _, _, _, _, _⟩ :: _) _ _); refine wpList_load_row (o := ⟨some 4, _, _, _, _, _⟩) rfl 36 (.tmp 1) rfl w.heap.size rfl 36 (headCells h).toArray (0, 0) _ hB.out Tryz.underlying36 rfl hsz.out ?_)
  | (go_at_call 63; refine (right_any h ok _).mono ?_; rw [hr]; rintro e w2 ⟨rfl, hb2⟩; rw [hz.out] at hb2; have hbb : Hid (Below w.heap.size w w2) := hb0.out.trans (hb2.mono (by omega)); clear hb2))
 go_ret2
 exact ⟨rfl, hbb.out⟩
end Go.Proofs.YtfbhjoejffagjaaGreatDoor.HeadEnc
