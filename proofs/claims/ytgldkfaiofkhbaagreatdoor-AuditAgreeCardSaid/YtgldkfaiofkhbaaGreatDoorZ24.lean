/-
  Texts of the claim, put into one file: Octet2, HeadMem0, HeadMem, HeadLaid, ProofBeside, Beside17, ProofEnc, BetwRef, RefHead, NumberNew.
-/
import Derived.Test.YtgldkfaiofkhbaaGreatDoorZ23
import Derived.Test.YtgldkfaiofkhbaaGreatDoorZ6
import Derived.Outline
import Derived.Test.YtgldkfaiofkhbaaGreatDoorZ0

namespace Go.Proofs.YtgldkfaiofkhbaaGreatDoor.Octet2
open Go Go.RowKit Go.Proofs.YtgldkfaiofkhbaaGreatDoor Mem Sha Bytes Go.Proofs.YtgldkfaiofkhbaaGreatDoor.Append Octet

theorem Wrote.append {wr W : World} {g : Nat} {r : Option Nat} {l q : Text} {v v1 : Value} (hw : WrAt wr g r l) (hv : ∀ u, Blk wr g 313 #[u] → u = v) (hG : Grew wr 0 5 1 v l.length q.length (cells8 l) (cells8 q) v1 W) :
  Wrote wr g r (l ++ q) (W.setCell ⟨g, 0, none⟩ v1) := by
 obtain ⟨v', hb, ho, hvr, hr1⟩ := hw
 obtain rfl := hv v' hb
 have hk0 : Kept (fun k => k = g ∨ some k = r) wr W := (Kept.refl _ wr).grown hG.grow (fun k hk => .inl (.inr (by rw [← hvr]; exact hk.symm)))
 have hbW : Blk W g 313 #[v'] := (hG.grow.block g hb.lt (fun e => by
  have := (hr1 g (by rw [← hvr]; exact e.symm)).1
  omega)).trans hb
 have hat : ∀ k, v1.ownBlock = some k → g < k ∧ k < W.heap.size := by
  intro k hk
  have hlt : k < W.heap.size := by
   rcases hG.own.2 with ⟨rfl, _⟩ | ⟨g', cap, cur, rfl, _, h2, _⟩
   ·cases hk
   ·obtain rfl : g' = k := by simpa [Value.ownBlock] using hk
    exact (Array.getElem?_eq_some_iff.1 h2).1
  refine ⟨?_, hlt⟩
  rcases hG.at_ with h | h
  ·exact (hr1 k (by rw [← hvr, ← h, hk])).1
  ·rw [h] at hk
   injection hk with hk
   have := hb.lt
   omega
 refine ⟨v1.ownBlock, ⟨v1, hbW.set_ 0 _, ?_, rfl, fun k e => ⟨(hat k e).1, by have := (hat k e).2; simpa [World.setCell] using this⟩⟩, hk0.setCell (.inl (.inl rfl)) _, ?_⟩
 ·have hown := hG.own
  refine ⟨by simp [cells8_len], ?_⟩
  have hl2 : (l ++ q).length = l.length + q.length := List.length_append
  have hc2 : cells8 (l ++ q) = cells8 l ++ cells8 q := by simp [cells8]
  rw [hl2, hc2]
  rcases hown.2 with h | ⟨g', cap, cur, rfl, h1, h2, h3⟩
  ·exact .inl h
  ·refine .inr ⟨g', cap, cur, rfl, h1, ?_, h3⟩
   have := (hat g' rfl).1
   exact (Below.heap_setCell W ⟨g, 0, none⟩ _ g' (fun e => by simp at e; omega)).trans h2
 ·rcases hG.at_ with h | h
  ·exact .inl (by rw [h, hvr])
  ·exact .inr ⟨_, h, Nat.le_refl _⟩

theorem rowAll (d : Text) (hd : d.length = 32) : (Tryz.prog.info? 23).map (·.size) = some (cells8 d).length := by rw [cells8_len, hd]; exact size31
theorem z32 : Z32.size = 32 := rfl

set_option maxRecDepth 100000 in
set_option maxHeartbeats 1000000 in
theorem digests_any (g : Nat) (r : Option Nat) (l : Text) (ds : List Text) (n : Nat) (hn : ds.length = n) (hd : ∀ d ∈ ds, d.length = 32) (A : Option Addr) (c : Nat) (w : World) (hl : l.length + 32 * n ≤ 140737488355328)
  (hw : WrAt w g r l) (hr : Reads w 32 A n (ds.flatMap cells8)) (hA : 0 < n → ∀ a, A = some a → a.block ≠ g ∧ some a.block ≠ r) :
  Calls Tryz.prog 156 #[.pointer (some ⟨g, 0, none⟩), .slice A n c] w fun e w' => e = .returned (.tuple #[]) ∧ Wrote w g r (l ++ ds.flatten) w' := by
 obtain ⟨i0, hi, hz0, hz1, hz2⟩ := info_parts8 info8
 have H0 : Hid (Wrote w g r (l ++ (ds.take 0).flatten) w) := (show Wrote w g r (l ++ (ds.take 0).flatten) w by simpa using hw.refl)
 have hN : (n : Int) < 9223372036854775807 := by omega
 replace hN := Lib.hid hN
 replace hl := Lib.hid hl
 replace hn := Lib.hid hn
 replace hd := Lib.hid hd
 replace hr := Lib.hid hr
 replace hA := Lib.hid hA
 clear hw
 go_enter Tryz.func156, Tryz.ntmps156
 go_wp2_with fail
 go_loopw [8] (fun v wr => ∃ i : Nat, v = .int .i64 (i : Int) ∧ Hid (i ≤ n) ∧ Hid (Wrote w g r (l ++ (ds.take i).flatten) wr)) (fun v _ => n - (intOf v).toNat)
 case atStart => exact ⟨0, rfl, (show 0 ≤ n by omega), H0.out⟩
 case round =>
  clear H0
  obtain ⟨i, rfl, hi2, hW⟩ := hrel
  by_cases hlt : i < n
  ·have hz : (i : Int) < (n : Int) := by omega
   have hz0' : (0 : Int) ≤ (i : Int) := by omega
   have hil : (i : Int) < 9223372036854775807 := by have := hN.out; omega
   obtain ⟨r1, h1, k1, c1⟩ := hW.out
   obtain ⟨v, hb, ho, hvr, hr1⟩ := h1
   have hne : some g ≠ v.ownBlock := fun e => by
    have := (hr1 g (by rw [← hvr]; exact e.symm)).1
    omega
   obtain ⟨d, hdi⟩ : ∃ d, Hid (ds[i]? = some d) := ⟨_, List.getElem?_eq_getElem (by rw [hn.out]; exact hlt)⟩
   have hdl : Hid (d.length = 32) := hd.out d (List.mem_of_getElem? hdi.out)
   obtain ⟨b, o, rfl, hbl, hcell⟩ := hr.out.2 (by omega)
   have hel : ∀ j u, (cells8 d)[j]? = some u → wr.cell? ⟨b, o + i * 32 + j, none⟩ = some u := fun j u hu => by
    have h2 := hcell _ _ (digs_at ds hd.out i d hdi.out j u hu)
    have h3 := hA.out (by omega) _ rfl
    rw [Nat.add_assoc]
    exact (k1.cell (p := ⟨b, o + (i * 32 + j), none⟩) hbl (fun h => by rcases h with h | h; exact h3.1 h; exact h3.2 h)).trans h2
   replace hel := Lib.hid hel
   clear hcell hbl
   have hva : (wr.alloc (.cells (cells8 d).toArray 23)).cell? ⟨g, 0, none⟩ = some v := (World.cell?_alloc_lt wr _ ⟨g, 0, none⟩ hb.lt).trans (by rw [hb.cell 0]; rfl)
   have hlen : Hid ((l ++ (ds.take i).flatten).length + 32 ≤ 140737488355328) := by
    show _ ≤ _
    have := hl.out
    have h5 := (digs_len (ds.take i) (fun x hx => hd.out x (List.mem_of_mem_take hx))).1
    have h6 := List.length_take_le i ds
    rw [List.length_append, h5]
    have : (ds.take i).length ≤ i := by rw [List.length_take]; omega
    omega
   have hts : Hid (l ++ (ds.take (i + 1)).flatten = (l ++ (ds.take i).flatten) ++ d) := by
    show _ = _
    rw [List.take_add_one, hdi.out]
    simp
   have hO := Lib.hid ho
   have hV : ∀ u, Blk wr g 313 #[u] → u = v := fun u hu => by
    have h1 : some (Obj.cells #[u] 313 (0, 0)) = some (Obj.cells #[v] 313 (0, 0)) := (show wr.heap[g]? = _ from hu).symm.trans hb
    simpa using h1
   have hro := Lib.hid (rowAll d hdl.out)
   have hc8 : Hid ((cells8 d).length = 32) := (cells8_len d).trans hdl.out
   have hs1 : Hid ((Tryz.prog.info? 23).map (·.size) = some (cells8 d).toArray.size) := (show _ = _ by rw [List.size_toArray]; exact hro.out)
   have hs2 : Hid (Z32.size = (cells8 d).toArray.size) := (by have e : (cells8 d).toArray.size = (cells8 d).length := List.size_toArray; show Z32.size = _; rw [e, hc8.out]; rfl)
   replace hV := Lib.hid hV
   replace hne := Lib.hid hne
   replace hb := Lib.hid hb
   clear hr1 ho hvr c1 k1
   generalize l ++ (ds.take i).flatten = L at *
   go_wp2_with (first
    | ((with_reducible change wpList _ _ _ (⟨some 11, _, _, _, _, _⟩ :: _) _ _); refine wpList_load_part (o := ⟨some 11, _, _, _, _, _⟩) rfl 23 (.tmp 10) rfl b (o + i * 32) rfl (cells8 d) _ hel.out Tryz.underlying23 rfl hro.out ?_)
    | ((with_reducible change wpList _ _ _ ({ dst := none, op := Op.store 23 _ _, type := _, pos := _, after := _, guard := _ } :: _) _ _); refine wpList_store_row (o := ⟨none, _, _, _, _, _⟩) rfl 23 (.tmp 5) (.tmp 11) rfl wr.heap.size (cells8 d).toArray rfl rfl 23 Z32 (heap_alloc_new wr _) hs1.out hs2.out (cells8_all1 d) ?_; rw [alloc_setRow]))
   have hm1 : Hid ((cells8 d).length = 32 * 1) := hc8.out
   have hm2 : Hid (∀ (j : Nat) (u : Value), (cells8 d)[j]? = some u → ((wr.alloc (.cells (cells8 d).toArray 23)).drew).cell? ((⟨wr.heap.size, 0, none⟩ : Addr).add j) = some u) := World.news_of_block (w := (wr.alloc (.cells (cells8 d).toArray 23)).drew) (heap_alloc_new wr _)
   go_region_law (refine step_append_lies (P := Tryz.prog) ((wr.alloc (.cells (cells8 d).toArray 23)).drew) (o := ⟨some 18, _, _, _, _, _⟩) rfl (.tmp 16) (.tmp 17) 27 rfl 0 5 i0 (.int .u8 0) 1 1 Tryz.underlying27 hi hz0 hz1 hz2 rfl (by decide) v L.length (cells8 L) ?hs (World.ownsRow.alloc (w := wr) hO.out _) ⟨wr.heap.size, 0, none⟩ 32 32 (cells8 d) ?hx hm1.out hm2.out (cells8_one d) (by decide) ?c1 ?c2 (Nat.zero_le _) _ rfl ?_; (case hs => go_simp); (case hx => go_simp); (case c1 => have := hlen.out; unfold maxLen; omega); (case c2 => have := hlen.out; omega); intro G cap W hown hgrow hat hlt2; have hK0 : Kept (fun _ => False) wr ((wr.alloc (.cells (cells8 d).toArray 23)).drew) := ((Kept.refl _ wr).alloc _).drew; have hX : Hid (Wrote w g r (L ++ d) (W.setCell ⟨g, 0, none⟩ (.slice (some ⟨G, 0, none⟩) (L.length + 32) cap))) := hW.out.step (fun r1 h1 => Wrote.put (q := d) h1 hV.out rfl hdl.out.symm hK0 hown hgrow hat hlt2); obtain ⟨hf1, hf2⟩ := far_cell hb.out hne.out hK0 hgrow; clear hown hgrow hat hlt2 hK0)
   all_goals
    go_wp2_with fail
    go_roundw
    case rel => exact ⟨i + 1, by go_num, (show i + 1 ≤ n by omega), (show Wrote _ _ _ _ _ by rw [hts.out]; exact hX.out)⟩
    case measure => simp [intOf]; omega
  ·obtain rfl : i = n := by have := hi2.out; omega
   have hz : (i : Int) ≤ (i : Int) := by omega
   have hT : Hid (ds.take i = ds) := List.take_of_length_le (by have := hn.out; omega)
   go_wp2_with fail
   go_end0
   exact ⟨rfl, by have := hW.out; rw [hT.out] at this; exact this⟩

theorem new_any (w : World) : Calls Tryz.prog 130 #[] w fun e w' => e = .returned (.pointer (some ⟨w.heap.size, 0, none⟩)) ∧ w' = w.alloc (.cells #[.slice none 0 0] 313) := by
 go_enter Tryz.func130, Tryz.ntmps130
 go_wp2_with fail
 go_ret
 exact ⟨rfl, rfl⟩
theorem WrAt.new (w : World) : WrAt (w.alloc (.cells #[.slice none 0 0] 313)) w.heap.size none [] :=
 ⟨_, Blk.new w _ _, World.ownsRow_nil _ _ _ _, rfl, fun _ e => by cases e⟩

theorem put1_lit (n : Int) (c : BitVec 8) (hc : b8 c = n) (g : Nat) (r : Option Nat) (l : Text) (w : World) (hl : l.length + 1 ≤ 140737488355328) (hw : WrAt w g r l) :
  Calls Tryz.prog 131 #[.pointer (some ⟨g, 0, none⟩), .int .u8 n] w fun e w' => e = .returned (.tuple #[]) ∧ Wrote w g r (l ++ [c]) w' := by
 subst hc
 exact put1 g r l c w hl hw
theorem put8_lit (n : Int) (N : Nat) (hn : (N : Int) = n) (hN : N < 18446744073709551616) (g : Nat) (r : Option Nat) (l : Text) (w : World) (hl : l.length + 8 ≤ 140737488355328) (hw : WrAt w g r l) :
  Calls Tryz.prog 218 #[.pointer (some ⟨g, 0, none⟩), .int .u64 n] w fun e w' => e = .returned (.tuple #[]) ∧ Wrote w g r (l ++ be8 N) w' := by
 subst hn
 exact put8 g r l N hN w hl hw


set_option maxRecDepth 100000 in
set_option maxHeartbeats 1000000 in
theorem all_any (g : Nat) (r : Option Nat) (l : Text) (w : World) (hl : l.length ≤ 140737488355328) (hw : WrAt w g r l) :
  Calls Tryz.prog 133 #[.pointer (some ⟨g, 0, none⟩)] w fun e w' => ∃ v, e = .returned v ∧ Below w.heap.size w w' ∧ w'.ownsRow w.heap.size 5 1 v l.length (cells8 l) := by
 obtain ⟨i0, hi, hz0, hz1, hz2⟩ := info_parts8 info8
 obtain ⟨v, hb, ho, hvr, hr1⟩ := hw
 obtain ⟨A, c, rfl, hnc, hcm, hnil, hrd, -⟩ := Own.reads ho
 have hv : w.cell? ⟨g, 0, none⟩ = some (.slice A l.length c) := by rw [hb.cell 0]; rfl
 have hc1 : Hid (0 + l.length ≤ maxLen) := by show _ ≤ _; omega
 have hc2 : Hid ((0 + l.length) * 1 ≤ 140737488355328) := by show _ ≤ _; omega
 replace hrd := Lib.hid hrd
 replace hnil := Lib.hid hnil
 clear ho hb hvr hr1 hl hnc hcm
 go_enter Tryz.func133, Tryz.ntmps133
 go_wp2_with (at_builtin; refine wpList_append_src _ rfl (.const (.slice none 0 0)) (.tmp 6) 27 rfl w.heap.size 5 i0 (.int .u8 0) 1 1 Tryz.underlying27 hi hz0 hz1 hz2 rfl (by decide) (.slice none 0 0) 0 [] rfl (World.ownsRow_nil _ _ _ _) A l.length c (cells8 l) rfl hrd.out hnil.out (cells8_one l) hc1.out hc2.out (Nat.le_refl _) ?_; intro v1 w1 hG; replace hG := Lib.hid hG)
 go_ret
 refine ⟨v1, rfl, hG.out.below (Below.refl _ _) (Nat.le_refl _) (fun k e => by cases e), ?_⟩
 have := hG.out.own
 simpa using this

set_option maxRecDepth 100000 in
set_option maxHeartbeats 1000000 in
theorem raw_any (g : Nat) (r : Option Nat) (l : Text) (ps : List Text) (n : Nat) (hn : ps.length = n) (A : Option Addr) (c : Nat) (w : World) (hl : l.length + ps.flatten.length ≤ 140737488355328) (hn47 : n < 140737488355328)
  (hw : WrAt w g r l) (hp : Apart w g r A ps) :
  Calls Tryz.prog 232 #[.pointer (some ⟨g, 0, none⟩), .slice A n c] w fun e w' => e = .returned (.tuple #[]) ∧ Wrote w g r (l ++ ps.flatten) w' := by
 obtain ⟨i0, hi, hz0, hz1, hz2⟩ := info_parts8 info8
 have H0 : Hid (Wrote w g r (l ++ (ps.take 0).flatten) w) := (show Wrote w g r (l ++ (ps.take 0).flatten) w by simpa using hw.refl)
 have hN : (n : Int) < 9223372036854775807 := by omega
 replace hN := Lib.hid hN
 replace hl := Lib.hid hl
 replace hn := Lib.hid hn
 replace hp := Lib.hid hp
 clear hw hn47
 go_enter Tryz.func232, Tryz.ntmps232
 go_wp2_with fail
 go_loopw [8] (fun v wr => ∃ i : Nat, v = .int .i64 (i : Int) ∧ Hid (i ≤ n) ∧ Hid (Wrote w g r (l ++ (ps.take i).flatten) wr)) (fun v _ => n - (intOf v).toNat)
 case atStart => exact ⟨0, rfl, (show 0 ≤ n by omega), H0.out⟩
 case round =>
  clear H0
  obtain ⟨i, rfl, hi2, hW⟩ := hrel
  by_cases hlt : i < n
  ·have hz : (i : Int) < (n : Int) := by omega
   have hz0' : (0 : Int) ≤ (i : Int) := by omega
   have hil : (i : Int) < 9223372036854775807 := by have := hN.out; omega
   obtain ⟨r1, h1, k1, c1⟩ := hW.out
   obtain ⟨v, hb, ho, hvr, hr1⟩ := h1
   have hne : some g ≠ v.ownBlock := fun e => by
    have := (hr1 g (by rw [← hvr]; exact e.symm)).1
    omega
   obtain ⟨q, hqi⟩ : ∃ q, Hid (ps[i]? = some q) := ⟨_, List.getElem?_eq_getElem (by rw [hn.out]; exact hlt)⟩
   obtain ⟨b, o, Ai, ci, rfl, hcell, hrd, hnil⟩ := hp.out.at_ hqi.out k1
   have hgc : wr.cell? ⟨g, 0, none⟩ = some v := by rw [hb.cell 0]; rfl
   obtain ⟨m, hm⟩ : ∃ m, Hid (q.length = m) := ⟨_, rfl⟩
   rw [hm.out] at hcell hrd hnil
   replace hrd := Lib.hid hrd
   replace hnil := Lib.hid hnil
   have hlen : Hid ((l ++ (ps.take i).flatten).length + q.length ≤ 140737488355328) := by
    show _ ≤ _
    have := hl.out
    have h5 := (pieces_sum ps i q hqi.out).2
    rw [List.length_append]
    omega
   have hts : Hid (l ++ (ps.take (i + 1)).flatten = (l ++ (ps.take i).flatten) ++ q) := by
    show _ = _
    rw [(pieces_sum ps i q hqi.out).1]
    simp
   have hO := Lib.hid ho
   have hV : ∀ u, Blk wr g 313 #[u] → u = v := fun u hu => by
    have h1 : some (Obj.cells #[u] 313 (0, 0)) = some (Obj.cells #[v] 313 (0, 0)) := (show wr.heap[g]? = _ from hu).symm.trans hb
    simpa using h1
   replace hV := Lib.hid hV
   replace hne := Lib.hid hne
   replace hb := Lib.hid hb
   clear hr1 ho hvr c1 k1
   generalize l ++ (ps.take i).flatten = L at *
   have hc1 : Hid (L.length + m ≤ maxLen) := by show _ ≤ _; have := hlen.out; have := hm.out; unfold maxLen; omega
   have hc2 : Hid ((L.length + m) * 1 ≤ 140737488355328) := by show _ ≤ _; have := hlen.out; have := hm.out; omega
   go_wp2_with (at_builtin; refine wpList_append_src wr rfl (.tmp 16) (.tmp 17) 27 rfl 0 5 i0 (.int .u8 0) 1 1 Tryz.underlying27 hi hz0 hz1 hz2 rfl (by decide) v L.length (cells8 L) rfl hO.out Ai m ci (cells8 q) rfl hrd.out hnil.out (cells8_one q) hc1.out hc2.out (Nat.zero_le _) ?_; intro v1 W hG; obtain ⟨Av, cv, rfl, -⟩ := Own.reads hG.own; have hX := Lib.hid (hW.out.step (fun r1 h1 => Wrote.append (q := q) h1 hV.out (by rw [hm.out]; exact hG))); obtain ⟨hf1, hf2⟩ := far_cell hb.out hne.out (Kept.refl _ wr) hG.grow; clear hG)
   go_roundw
   case rel => exact ⟨i + 1, by go_num, (show i + 1 ≤ n by omega), (show Wrote _ _ _ _ _ by rw [hts.out]; exact hX.out)⟩
   case measure => simp [intOf]; omega
  ·obtain rfl : i = n := by have := hi2.out; omega
   have hz : (i : Int) ≤ (i : Int) := by omega
   have hT : Hid (ps.take i = ps) := List.take_of_length_le (by have := hn.out; omega)
   go_wp2_with fail
   go_end0
   exact ⟨rfl, by have := hW.out; rw [hT.out] at this; exact this⟩

/-! ### The same, said of what was written since a world w0 -/
section
variable {w0 w w' wi : World} {g : Nat} {r r1 : Option Nat} {l l2 : Text}
theorem put1_from (n : Int) (c : BitVec 8) (hc : b8 c = n) (hl : l.length + 1 ≤ 140737488355328) (hW : Wrote w0 g r l w) :
  Calls Tryz.prog 131 #[.pointer (some ⟨g, 0, none⟩), .int .u8 n] w fun e w' => e = .returned (.tuple #[]) ∧ Wrote w0 g r (l ++ [c]) w' := by
 obtain ⟨r1, h1, k1, c1⟩ := hW
 exact (put1_lit n c hc g r1 l w hl h1).mono fun e w' ⟨he, hx⟩ => ⟨he, Wrote.trans1 k1 c1 hx⟩
theorem put8_from (n : Int) (N : Nat) (hn : (N : Int) = n) (hN : N < 18446744073709551616) (hl : l.length + 8 ≤ 140737488355328) (hW : Wrote w0 g r l w) :
  Calls Tryz.prog 218 #[.pointer (some ⟨g, 0, none⟩), .int .u64 n] w fun e w' => e = .returned (.tuple #[]) ∧ Wrote w0 g r (l ++ be8 N) w' := by
 obtain ⟨r1, h1, k1, c1⟩ := hW
 exact (put8_lit n N hn hN g r1 l w hl h1).mono fun e w' ⟨he, hx⟩ => ⟨he, Wrote.trans1 k1 c1 hx⟩
theorem digests_new (ds : List Text) (n : Nat) (hn : ds.length = n) (hd : ∀ d ∈ ds, d.length = 32) (hl : l.length + 32 * n ≤ 140737488355328) (hW : Wrote w0 g r l wi) :
  Calls Tryz.prog 156 #[.pointer (some ⟨g, 0, none⟩), .slice (some ⟨wi.heap.size, 0, none⟩) n n] (wi.alloc (.cells ((ds.map cells8).flatten).toArray 23)) fun e w' => e = .returned (.tuple #[]) ∧ Wrote w0 g r (l ++ ds.flatten) w' := by
 obtain ⟨r1, h1, k1, c1⟩ := hW
 have hr : Reads (wi.alloc (.cells ((ds.map cells8).flatten).toArray 23)) 32 (some ⟨wi.heap.size, 0, none⟩) n (ds.flatMap cells8) :=
  (Blk.new wi 23 ((ds.map cells8).flatten).toArray).reads 0 _ (by rw [(digs_len ds hd).2, hn]; omega) (fun j u hu => by rw [Nat.zero_add, List.getElem?_toArray, ← List.flatMap_def]; exact hu)
 refine (digests_any g r1 l ds n hn hd _ n _ hl (h1.alloc _) hr (fun _ a e => ?_)).mono fun e w' ⟨he, hx⟩ => ⟨he, Wrote.trans1 (k1.alloc _) c1 hx⟩
 injection e with e
 subst e
 refine ⟨fun e => ?_, fun e => ?_⟩
 ·have := h1.lt; simp at e; omega
 ·obtain ⟨v, hb, _, _, hr1⟩ := h1
  have := (hr1 wi.heap.size (by rw [← e])).2
  omega
theorem digests_old (ds : List Text) (n : Nat) (hn : ds.length = n) (hd : ∀ d ∈ ds, d.length = 32) (A : Option Addr) (c : Nat) (hl : l.length + 32 * n ≤ 140737488355328) (hr : Reads w0 32 A n (ds.flatMap cells8)) (hA : 0 < n → ∀ a, A = some a → a.block ≠ g ∧ some a.block ≠ r)
  (hW : Wrote w0 g r l w) :
  Calls Tryz.prog 156 #[.pointer (some ⟨g, 0, none⟩), .slice A n c] w fun e w' => e = .returned (.tuple #[]) ∧ Wrote w0 g r (l ++ ds.flatten) w' := by
 obtain ⟨r1, h1, k1, c1⟩ := hW
 have hr1 : Reads w 32 A n (ds.flatMap cells8) := hr.kept0 k1 (fun hp b o e h => by
  have := hA (by omega) _ e
  rcases h with h | h
  ·exact this.1 h
  ·exact this.2 h)
 refine (digests_any g r1 l ds n hn hd A c w hl h1 hr1 (fun h0 a e => ?_)).mono fun e w' ⟨he, hx⟩ => ⟨he, Wrote.trans1 k1 c1 hx⟩
 have h2 := hA h0 a e
 refine ⟨h2.1, fun e2 => ?_⟩
 rcases c1 with rfl | ⟨k, rfl, hk⟩
 ·exact h2.2 e2
 ·injection e2 with e2
  obtain ⟨b, o, e3, hb, _⟩ := hr.2 (by omega)
  rw [e] at e3
  injection e3 with e3
  subst e3
  simp at e2
  omega
end
end Go.Proofs.YtgldkfaiofkhbaaGreatDoor.Octet2

namespace Go.Proofs.YtgldkfaiofkhbaaGreatDoor.HeadMem
open Go Go.RowKit Go.Proofs.YtgldkfaiofkhbaaGreatDoor Mem Sha Bytes Go.Proofs.YtgldkfaiofkhbaaGreatDoor.Append Octet Octet2

theorem agg_hi {T : TypeId} {cs : List Value} {n : Nat} (h : (Tryz.prog.info? T).map (·.size) = some n) (hl : cs.length = n) : (Tryz.prog.info? T).map (·.size) = some cs.length := by rw [hl]; exact h
theorem size32 : (Tryz.prog.info? 23).map (·.size) = some 32 := by kernel_rfl
theorem zero32 : ((Tryz.prog.info? 23).bind (·.zero)).isSome = true := by kernel_rfl
end Go.Proofs.YtgldkfaiofkhbaaGreatDoor.HeadMem

namespace Go.Proofs.YtgldkfaiofkhbaaGreatDoor.HeadMem
open Go Go.RowKit Go.Proofs.YtgldkfaiofkhbaaGreatDoor Mem Sha Bytes Go.Proofs.YtgldkfaiofkhbaaGreatDoor.Append Octet Octet2

structure HeadD where
 log : Text
 size : Int
 root : Text
 index : Text
 clock : Int
structure HeadD.Ok (h : HeadD) : Prop where
 log : h.log.length = 32
 root : h.root.length = 32
 index : h.index.length = 32
 size : -9223372036854775808 ≤ h.size ∧ h.size ≤ 9223372036854775807
 clock : -9223372036854775808 ≤ h.clock ∧ h.clock ≤ 9223372036854775807
def headCells (h : HeadD) : List Value := cells8 h.log ++ ([.int .i64 h.size] ++ (cells8 h.root ++ (cells8 h.index ++ [.int .i64 h.clock])))
theorem headCells_len {h : HeadD} (ok : h.Ok) : (headCells h).length = 98 := by simp [headCells, cells8_len, ok.log, ok.root, ok.index]
theorem headCells_one (h : HeadD) : ∀ v ∈ headCells h, v.oneCell' = true := by
 intro v hv
 simp only [headCells, List.mem_append, List.mem_singleton] at hv
 rcases hv with hv | rfl | hv | hv | rfl
 ·exact cells8_one _ v hv
 ·rfl
 ·exact cells8_one _ v hv
 ·exact cells8_one _ v hv
 ·rfl
theorem headCells_log {h : HeadD} (j : Nat) (v : Value) (hv : (cells8 h.log)[j]? = some v) : (headCells h)[0 + j]? = some v := by
 have hj : j < (cells8 h.log).length := (List.getElem?_eq_some_iff.1 hv).1
 rw [headCells, Nat.zero_add, List.getElem?_append_left hj, hv]
theorem headCells_size {h : HeadD} (ok : h.Ok) : (headCells h)[32]? = some (.int .i64 h.size) := by
 rw [headCells, List.getElem?_append_right (by rw [cells8_len, ok.log]; omega), cells8_len, ok.log]
 rfl
theorem headCells_root {h : HeadD} (ok : h.Ok) (j : Nat) (v : Value) (hv : (cells8 h.root)[j]? = some v) : (headCells h)[33 + j]? = some v := by
 have hj : j < (cells8 h.root).length := (List.getElem?_eq_some_iff.1 hv).1
 rw [headCells, List.getElem?_append_right (by rw [cells8_len, ok.log]; omega), cells8_len, ok.log, List.getElem?_append_right (by simp; omega)]
 rw [List.length_singleton, show 33 + j - 32 - 1 = j by omega, List.getElem?_append_left hj, hv]
theorem headCells_index {h : HeadD} (ok : h.Ok) (j : Nat) (v : Value) (hv : (cells8 h.index)[j]? = some v) : (headCells h)[65 + j]? = some v := by
 have hj : j < (cells8 h.index).length := (List.getElem?_eq_some_iff.1 hv).1
 rw [headCells, List.getElem?_append_right (by rw [cells8_len, ok.log]; omega), cells8_len, ok.log, List.getElem?_append_right (by simp; omega)]
 rw [List.length_singleton, List.getElem?_append_right (by rw [cells8_len, ok.root]; omega), cells8_len, ok.root, show 65 + j - 32 - 1 - 32 = j by omega, List.getElem?_append_left hj, hv]
theorem headCells_clock {h : HeadD} (ok : h.Ok) : (headCells h)[97]? = some (.int .i64 h.clock) := by
 rw [headCells, List.getElem?_append_right (by rw [cells8_len, ok.log]; omega), cells8_len, ok.log, List.getElem?_append_right (by simp)]
 rw [List.length_singleton, List.getElem?_append_right (by rw [cells8_len, ok.root]; omega), cells8_len, ok.root, List.getElem?_append_right (by rw [cells8_len, ok.index]; omega), cells8_len, ok.index]
 rfl
def rightB (h : HeadD) : Bool := decide (0 ≤ h.size) && decide (h.size ≤ 1099511627776) && decide (0 ≤ h.clock) && decide (h.clock ≤ 4611686018427387904)
def headBytes (h : HeadD) : Text := [32] ++ h.log ++ be8 h.size.toNat ++ (h.root ++ h.index) ++ be8 h.clock.toNat
theorem headBytes_len {h : HeadD} (ok : h.Ok) : (headBytes h).length = 113 := by simp [headBytes, be8_len, ok.log, ok.root, ok.index]

set_option maxRecDepth 100000 in
set_option maxHeartbeats 1000000 in
theorem right_any (h : HeadD) (ok : h.Ok) (w : World) :
  Calls Tryz.prog 209 #[.agg (headCells h).toArray] w fun e w' => e = .returned (.bool (rightB h)) ∧ Below w.heap.size w w' := by
 have e1 : (headCells h).toArray[32]? = some (.int .i64 h.size) := by rw [List.getElem?_toArray]; exact headCells_size ok
 have e2 : (headCells h).toArray[97]? = some (.int .i64 h.clock) := by rw [List.getElem?_toArray]; exact headCells_clock ok
 have f1 := headCells_size ok
 have f2 := headCells_clock ok
 have hb : Below w.heap.size w (w.alloc (.cells (headCells h).toArray 36)) := Below.heap_below w _
 replace hb := Lib.hid hb
 have hk : Hid (rightB h = (decide (0 ≤ h.size) && decide (h.size ≤ 1099511627776) && decide (0 ≤ h.clock) && decide (h.clock ≤ 4611686018427387904))) := rfl
 generalize rightB h = b at *
 generalize headCells h = cs at *
 generalize h.size = n at *
 generalize h.clock = m at *
 rcases Bool.eq_false_or_eq_true (decide (0 ≤ n)) with b1 | b1 <;> rcases Bool.eq_false_or_eq_true (decide (n ≤ 1099511627776)) with b2 | b2 <;> rcases Bool.eq_false_or_eq_true (decide (0 ≤ m)) with b3 | b3 <;> rcases Bool.eq_false_or_eq_true (decide (m ≤ 4611686018427387904)) with b4 | b4
 all_goals
  have k1 := Lib.hid b1
  have k2 := Lib.hid b2
  have k3 := Lib.hid b3
  have k4 := Lib.hid b4
  go_enter Tryz.func209, Tryz.ntmps209
  go_wp2_with fail
  go_ret
  refine ⟨?_, hb.out⟩
  rw [hk.out, k1.out, k2.out, k3.out, k4.out]
  rfl

theorem size98 : (Tryz.prog.info? 36).map (·.size) = some 98 := by kernel_rfl

set_option maxRecDepth 100000 in
set_option maxHeartbeats 1000000 in
theorem lay_any (h : HeadD) (ok : h.Ok) (hr : rightB h = true) (g : Nat) (r : Option Nat) (l : Text) (w : World) (hl : l.length + 113 ≤ 140737488355328) (hw : WrAt w g r l) :
  Calls Tryz.prog 210 #[.pointer (some ⟨g, 0, none⟩), .agg (headCells h).toArray] w fun e w' => e = .returned (.tuple #[]) ∧ Wrote w g r (l ++ headBytes h) w' := by
 have hrb : 0 ≤ h.size ∧ h.size ≤ 1099511627776 ∧ 0 ≤ h.clock ∧ h.clock ≤ 4611686018427387904 := by simpa [rightB, and_assoc] using hr
 obtain ⟨hs0, hs1, hm0, hm1⟩ := hrb
 have hW0 : Hid (Wrote (w.alloc (.cells (headCells h).toArray 36)) g r l (w.alloc (.cells (headCells h).toArray 36))) := (hw.alloc _).refl
 have hne : Hid (w.heap.size ≠ g ∧ some w.heap.size ≠ r) := by
  refine ⟨fun e => ?_, fun e => ?_⟩
  ·have := hw.lt; omega
  ·obtain ⟨v, _, _, _, hr1⟩ := hw
   have := (hr1 _ e.symm).2
   omega
 have hB0 : Hid (Blk (w.alloc (.cells (headCells h).toArray 36)) w.heap.size 36 (headCells h).toArray) := Blk.new w _ _
 replace hl := Lib.hid hl
 have dl := Lib.hid ok.log
 have dr := Lib.hid ok.root
 have di := Lib.hid ok.index
 have c1 := fun (w' : World) (hb : Blk w' w.heap.size 36 (headCells h).toArray) (j : Nat) (v : Value) (hv : (cells8 h.log)[j]? = some v) => ((hb.cell (0 + j)).trans (by rw [List.getElem?_toArray]; exact headCells_log j v hv) : w'.cell? ⟨w.heap.size, 0 + j, none⟩ = some v)
 have c2 := fun (w' : World) (hb : Blk w' w.heap.size 36 (headCells h).toArray) => ((hb.cell 32).trans (by rw [List.getElem?_toArray]; exact headCells_size ok) : w'.cell? ⟨w.heap.size, 32, none⟩ = some (.int .i64 h.size))
 have c3 := fun (w' : World) (hb : Blk w' w.heap.size 36 (headCells h).toArray) (j : Nat) (v : Value) (hv : (cells8 h.root)[j]? = some v) => ((hb.cell (33 + j)).trans (by rw [List.getElem?_toArray]; exact headCells_root ok j v hv) : w'.cell? ⟨w.heap.size, 33 + j, none⟩ = some v)
 have c4 := fun (w' : World) (hb : Blk w' w.heap.size 36 (headCells h).toArray) (j : Nat) (v : Value) (hv : (cells8 h.index)[j]? = some v) => ((hb.cell (65 + j)).trans (by rw [List.getElem?_toArray]; exact headCells_index ok j v hv) : w'.cell? ⟨w.heap.size, 65 + j, none⟩ = some v)
 have c5 := fun (w' : World) (hb : Blk w' w.heap.size 36 (headCells h).toArray) => ((hb.cell 97).trans (by rw [List.getElem?_toArray]; exact headCells_clock ok) : w'.cell? ⟨w.heap.size, 97, none⟩ = some (.int .i64 h.clock))
 replace c1 := Lib.hid c1
 replace c2 := Lib.hid c2
 replace c3 := Lib.hid c3
 replace c4 := Lib.hid c4
 replace c5 := Lib.hid c5
 have s1 : Hid ((Tryz.prog.info? 23).map (·.size) = some (cells8 h.log).length) := agg_hi size32 (by rw [cells8_len, ok.log])
 have s2 : Hid ((Tryz.prog.info? 23).map (·.size) = some (cells8 h.root).length) := agg_hi size32 (by rw [cells8_len, ok.root])
 have s3 : Hid ((Tryz.prog.info? 23).map (·.size) = some (cells8 h.index).length) := agg_hi size32 (by rw [cells8_len, ok.index])
 have q1 : Hid (∀ v ∈ [cells8 h.log], v.length = 32) := by intro v hv; simp only [List.mem_singleton] at hv; rw [hv, cells8_len, ok.log]
 have q2 : Hid (∀ v ∈ [cells8 h.root, cells8 h.index], v.length = 32) := by
  intro v hv
  simp only [List.mem_cons, List.not_mem_nil, or_false] at hv
  rcases hv with rfl | rfl
  ·rw [cells8_len, ok.root]
  ·rw [cells8_len, ok.index]
 have d1 : Hid (∀ d ∈ [h.log], d.length = 32) := by intro v hv; simp only [List.mem_singleton] at hv; rw [hv, ok.log]
 have d2 : Hid (∀ d ∈ [h.root, h.index], d.length = 32) := by
  intro v hv
  simp only [List.mem_cons, List.not_mem_nil, or_false] at hv
  rcases hv with rfl | rfl
  ·exact ok.root
  ·exact ok.index
 have y1 : IntKind.u64.wrap h.size = h.size := u64_in _ hs0 (by omega)
 have y2 : IntKind.u64.wrap h.clock = h.clock := u64_in _ hm0 (by omega)
 have n1 : Hid ((h.size.toNat : Int) = h.size ∧ h.size.toNat < 18446744073709551616) := by refine ⟨?_, ?_⟩ <;> omega
 have n2 : Hid ((h.clock.toNat : Int) = h.clock ∧ h.clock.toNat < 18446744073709551616) := by refine ⟨?_, ?_⟩ <;> omega
 have hfin : Hid (l ++ headBytes h = l ++ [32] ++ [h.log].flatten ++ be8 h.size.toNat ++ [h.root, h.index].flatten ++ be8 h.clock.toNat) := by show _ = _; simp [headBytes]
 have l8 := fun N => Lib.hid (be8_len N)
 have hB9 := hB0
 obtain ⟨X1, x1⟩ : ∃ X, Hid (X = ([cells8 h.log].flatten).toArray) := ⟨_, rfl⟩
 obtain ⟨X2, x2⟩ : ∃ X, Hid (X = ([cells8 h.root, cells8 h.index].flatten).toArray) := ⟨_, rfl⟩
 go_enter Tryz.func210, Tryz.ntmps210
 go_wp2_with (first
  | (go_at_call 131; refine (put1_from 32 32 rfl (by have := hl.out; omega) hW0.out).mono ?_; rintro e w1 ⟨rfl, hW1⟩; replace hW1 := Lib.hid hW1; have hB1 := Lib.hid (hW1.out.blk hB0.out hne.out.1 hne.out.2); have e1 := Lib.hid (c1.out w1 hB1.out); clear hW0 hB0)
  | ((with_reducible change wpList _ _ _ (⟨some 8, _, _, _, _, _⟩ :: _) _ _); refine wpList_load_part (o := ⟨some 8, _, _, _, _, _⟩) rfl 23 (.tmp 7) rfl w.heap.size 0 rfl (cells8 h.log) _ e1.out Tryz.underlying23 rfl s1.out ?_)
  | ((with_reducible change wpList _ _ _ (⟨some 9, _, _, _, _, _⟩ :: _) _ _); refine wpList_buildAggs (o := ⟨some 9, _, _, _, _, _⟩) rfl 44 23 1 _ rfl 32 (by decide) [cells8 h.log] Tryz.underlying44 size32 zero32 rfl (by decide) (by decide) q1.out rfl ?_; rw [← x1.out])
  | (go_at_call 156; rw [show X1 = (([h.log].map cells8).flatten).toArray from x1.out]; refine (digests_new [h.log] 1 rfl d1.out (by have := hl.out; simp; omega) hW1.out).mono ?_; rintro e w2 ⟨rfl, hW2⟩; replace hW2 := Lib.hid hW2; have hB2 := Lib.hid (hW2.out.blk hB9.out hne.out.1 hne.out.2); have e2 := c2.out w2 hB2.out; clear hW1 hB1 e1)
  | (go_at_call 218; refine (put8_from h.size h.size.toNat n1.out.1 n1.out.2 (by have := hl.out; have := dl.out; simp; omega) hW2.out).mono ?_; rintro e w3 ⟨rfl, hW3⟩; replace hW3 := Lib.hid hW3; have hB3 := Lib.hid (hW3.out.blk hB9.out hne.out.1 hne.out.2); have e3 := Lib.hid (c3.out w3 hB3.out); have e4 := Lib.hid (c4.out w3 hB3.out); clear hW2 hB2 e2)
  | ((with_reducible change wpList _ _ _ (⟨some 18, _, _, _, _, _⟩ :: _) _ _); refine wpList_load_part (o := ⟨some 18, _, _, _, _, _⟩) rfl 23 (.tmp 17) rfl w.heap.size 33 rfl (cells8 h.root) _ e3.out Tryz.underlying23 rfl s2.out ?_)
  | ((with_reducible change wpList _ _ _ (⟨some 20, _, _, _, _, _⟩ :: _) _ _); refine wpList_load_part (o := ⟨some 20, _, _, _, _, _⟩) rfl 23 (.tmp 19) rfl w.heap.size 65 rfl (cells8 h.index) _ e4.out Tryz.underlying23 rfl s3.out ?_)
  | ((with_reducible change wpList _ _ _ (⟨some 21, _, _, _, _, _⟩ :: _) _ _); refine wpList_buildAggs (o := ⟨some 21, _, _, _, _, _⟩) rfl 44 23 2 _ rfl 32 (by decide) [cells8 h.root, cells8 h.index] Tryz.underlying44 size32 zero32 rfl (by decide) (by decide) q2.out rfl ?_; rw [← x2.out])
  | (go_at_call 156; rw [show X2 = (([h.root, h.index].map cells8).flatten).toArray from x2.out]; refine (digests_new [h.root, h.index] 2 rfl d2.out (by have := hl.out; have := dl.out; have := (l8 h.size.toNat).out; simp; omega) hW3.out).mono ?_; rintro e w4 ⟨rfl, hW4⟩; replace hW4 := Lib.hid hW4; have hB4 := Lib.hid (hW4.out.blk hB9.out hne.out.1 hne.out.2); have e5 := c5.out w4 hB4.out; clear hW3 hB3 e3 e4)
  | (go_at_call 218; refine (put8_from h.clock h.clock.toNat n2.out.1 n2.out.2 (by have := hl.out; have := dl.out; have := dr.out; have := di.out; have := (l8 h.size.toNat).out; simp; omega) hW4.out).mono ?_; rintro e w5 ⟨rfl, hW5⟩; replace hW5 := Lib.hid hW5))
 go_end0
 exact ⟨rfl, by have := hW5.out.of_alloc; rw [← hfin.out] at this; exact this⟩
end Go.Proofs.YtgldkfaiofkhbaaGreatDoor.HeadMem

namespace Go.Proofs.YtgldkfaiofkhbaaGreatDoor.HeadEnc
open Go Go.RowKit Go.Proofs.YtgldkfaiofkhbaaGreatDoor Mem Sha Bytes Go.Proofs.YtgldkfaiofkhbaaGreatDoor.Append Octet Octet2 HeadMem

set_option maxRecDepth 100000 in
set_option maxHeartbeats 1000000 in
theorem laid_any (h : HeadD) (ok : h.Ok) (hr : rightB h = true) (w : World) :
  Calls Tryz.prog 264 #[.agg (headCells h).toArray] w fun e w' => ∃ v, e = .returned v ∧ Below w.heap.size w w' ∧ w'.ownsRow w.heap.size 5 1 v 113 (cells8 (headBytes h)) := by
 have hb0 : Hid (Below w.heap.size w (w.alloc (.cells (headCells h).toArray 36))) := Below.heap_below w _
 have hN := Lib.hid (WrAt.new (w.alloc (.cells (headCells h).toArray 36)))
 have hB : Hid (Blk ((w.alloc (.cells (headCells h).toArray 36)).alloc (.cells #[.slice none 0 0] 313)) w.heap.size 36 (headCells h).toArray) := (Blk.new w _ _).alloc _
 have hsz : Hid ((Tryz.prog.info? 36).map (·.size) = some (headCells h).toArray.size) := by show _ = _; rw [List.size_toArray, headCells_len ok]; exact size98
 have hlen := Lib.hid (headBytes_len ok)
 have hz : Hid ((w.alloc (.cells (headCells h).toArray 36)).heap.size = w.heap.size + 1) := by show _ = _; simp
 rw [hz.out] at hN
 go_enter Tryz.func264, Tryz.ntmps264
 go_wp2_with (first
  | (go_at_call 130; refine (new_any _).mono ?_; rintro e w1 ⟨rfl, rfl⟩)
  | ((with_reducible change wpList _ _ _ (⟨some 6, _, _, _, _, _⟩ :: _) _ _); refine wpList_load_row (o := ⟨some 6, _, _, _, _, _⟩) rfl 36 (.tmp 1) rfl w.heap.size rfl 36 (headCells h).toArray (0, 0) _ hB.out Tryz.underlying36 rfl hsz.out ?_)
  | (go_at_call 210; refine (lay_any h ok hr (w.heap.size + 1) none [] _ (by simp) hN.out).mono ?_; rintro e w2 ⟨rfl, hW2⟩; have hb2 : Hid (Below w.heap.size w w2) := (hb0.out.alloc (by simp) _).trans (hW2.below (fun _ e => by cases e) (B := w.heap.size) (by omega) (by simp; omega)); obtain ⟨r2, hA2, -, -⟩ := hW2; replace hA2 := Lib.hid hA2)
  | (go_at_call 133; refine (all_any (w.heap.size + 1) r2 (headBytes h) w2 (by rw [hlen.out]; omega) hA2.out).mono ?_; rintro e w3 ⟨v, rfl, hb3, ho3⟩; rw [hlen.out] at ho3; obtain ⟨Av, cv, rfl, -⟩ := Own.reads ho3; have hb4 : Hid (Below w.heap.size w w3) := hb2.out.trans (hb3.mono hb2.out.size); replace ho3 := Lib.hid ho3; clear hb3))
 go_ret
 exact ⟨_, rfl, hb4.out, ownsRow_base ho3.out hb2.out.size⟩

end Go.Proofs.YtgldkfaiofkhbaaGreatDoor.HeadEnc

namespace Go.Proofs.YtgldkfaiofkhbaaGreatDoor.ProofBeside
open Go Go.RowKit Go.Proofs.YtgldkfaiofkhbaaGreatDoor Mem Sha Bytes Go.Proofs.YtgldkfaiofkhbaaGreatDoor.Append Octet Octet2 HeadMem

def nbAt (i l : Nat) : Nat := (i / 2 ^ l ^^^ 1) * 2 ^ l
def cnt (size i : Nat) : Nat → Nat
 | 0 => 0
 | k + 1 => cnt size i k + if nbAt i k < size then 1 else 0
theorem cnt_le (size i : Nat) : ∀ k, cnt size i k ≤ k
 | 0 => Nat.le_refl _
 | k + 1 => by have := cnt_le size i k; unfold cnt; split <;> omega
def levels (size : Nat) : Nat := if size ≤ 1 then 0 else Nat.log2 (size - 1) + 1
def insideB (size i : Int) : Bool := decide (1 ≤ size) && decide (size ≤ 1099511627776) && decide (0 ≤ i) && decide (i < size)
def besideOf (size i : Nat) : Nat := cnt size i (levels size)

theorem xor1 (a : Nat) : a ^^^ 1 ≤ a + 1 := by
 have h1 : (a ^^^ 1) / 2 = a / 2 := by
  have h := Nat.shiftRight_xor_distrib (a := a) (b := 1) (i := 1)
  simpa [Nat.shiftRight_succ] using h
 omega
theorem nbAt_le (i k : Nat) : nbAt i k ≤ i + 2 ^ k := by
 unfold nbAt
 have h1 := Nat.mul_le_mul_right (2 ^ k) (xor1 (i / 2 ^ k))
 have h2 := Nat.div_mul_le_self i (2 ^ k)
 rw [Nat.succ_mul] at h1
 omega
theorem xor_i64 (a : Nat) (h : a < 9223372036854775806) : bits .xor .i64 (a : Int) 1 = ((a ^^^ 1 : Nat) : Int) := by
 show IntKind.i64.wrap (((BitVec.ofInt 64 (a : Int) ^^^ BitVec.ofInt 64 1).toNat : Nat) : Int) = _
 have e : (BitVec.ofInt 64 (a : Int) ^^^ BitVec.ofInt 64 1).toNat = a ^^^ 1 := by
  rw [BitVec.toNat_xor, BitVec.ofInt_natCast, BitVec.toNat_ofNat, Nat.mod_eq_of_lt (by omega)]
  rfl
 rw [e]
 have := xor1 a
 exact IntWalk.i64_in _ (by omega)
theorem levels_lt {size k : Nat} (h : 2 ^ k < size) : k < levels size := by
 unfold levels
 have hp := Nat.two_pow_pos k
 rw [if_neg (by omega)]
 have : k ≤ Nat.log2 (size - 1) := (Nat.le_log2 (by omega)).2 (by omega)
 omega
theorem levels_ge {size k : Nat} (h : ¬ 2 ^ k < size) : levels size ≤ k := by
 unfold levels
 split
 ·omega
 ·rename_i h1
  have : Nat.log2 (size - 1) < k := (Nat.log2_lt (by omega)).2 (by omega)
  omega

set_option maxRecDepth 100000 in
set_option maxHeartbeats 1000000 in
theorem beside_no (size i : Int) (h : insideB size i = false) (w : World) :
  Calls Tryz.prog 152 #[.int .i64 size, .int .i64 i] w fun e w' => e = .returned (.tuple #[.int .i64 0, .bool false]) ∧ w = w' := by
 have hc : size < 1 ∨ (1 ≤ size ∧ 1099511627776 < size) ∨ (1 ≤ size ∧ size ≤ 1099511627776 ∧ i < 0) ∨ (1 ≤ size ∧ size ≤ 1099511627776 ∧ 0 ≤ i ∧ size ≤ i) := by
  simp only [insideB, Bool.and_eq_false_iff, decide_eq_false_iff_not] at h
  omega
 clear h
 rcases hc with h1 | ⟨h1, h2⟩ | ⟨h1, h2, h3⟩ | ⟨h1, h2, h3, h4⟩
 ·have y1 : decide (size < 1) = true := decide_eq_true h1
  clear h1
  go_enter Tryz.func152, Tryz.ntmps152
  go_wp2_with fail
  go_ret2
  exact ⟨rfl, rfl⟩
 ·have y1 : decide (size < 1) = false := decide_eq_false (by omega)
  have y2 : decide (1099511627776 < size) = true := decide_eq_true h2
  clear h1 h2
  go_enter Tryz.func152, Tryz.ntmps152
  go_wp2_with fail
  go_ret2
  exact ⟨rfl, rfl⟩
 ·have y1 : decide (size < 1) = false := decide_eq_false (by omega)
  have y2 : decide (1099511627776 < size) = false := decide_eq_false (by omega)
  have y3 : decide (i < 0) = true := decide_eq_true h3
  clear h1 h2 h3
  go_enter Tryz.func152, Tryz.ntmps152
  go_wp2_with fail
  go_ret2
  exact ⟨rfl, rfl⟩
 ·have y1 : decide (size < 1) = false := decide_eq_false (by omega)
  have y2 : decide (1099511627776 < size) = false := decide_eq_false (by omega)
  have y3 : decide (i < 0) = false := decide_eq_false (by omega)
  have y4 : decide (size ≤ i) = true := decide_eq_true h4
  clear h1 h2 h3 h4
  go_enter Tryz.func152, Tryz.ntmps152
  go_wp2_with fail
  go_ret2
  exact ⟨rfl, rfl⟩

set_option maxRecDepth 100000 in
set_option maxHeartbeats 1000000 in
theorem beside_yes (size i : Nat) (hs : size ≤ 1099511627776) (hi : i < size) (w : World) :
    Calls Tryz.prog 152 #[.int .i64 size, .int .i64 i] w fun e w' => e = .returned (.tuple #[.int .i64 (besideOf size i), .bool true]) ∧ w = w' := by
  have y1 : decide ((size : Int) < 1) = false := decide_eq_false (by omega)
  have y2 : decide (1099511627776 < (size : Int)) = false := decide_eq_false (by omega)
  have y3 : decide ((i : Int) < 0) = false := decide_eq_false (by omega)
  have y4 : decide ((size : Int) ≤ (i : Int)) = false := decide_eq_false (by omega)
  go_enter Tryz.func152, Tryz.ntmps152
  go_wp2_with fail
  clear y1 y2 y3 y4
  go_loop [6, 7] (fun n v => ∃ k : Nat, v = .int .i64 (k : Int) ∧ n = .int .i64 (cnt size i k : Nat) ∧ Hid (k ≤ levels size)) (fun _ v => 41 - (intOf v).toNat)
  case atStart => exact ⟨0, rfl, rfl, Nat.zero_le _⟩
  case round =>
    obtain ⟨k, rfl, rfl, hkl⟩ := hrel
    have hc := cnt_le size i k
    have hk0 : (0 : Int) ≤ (k : Int) := by omega
    have hk41 : (k : Int) < 64 := by
      rcases Nat.lt_or_ge k 41 with h | h
      · omega
      · have h1 := hkl.out
        have h2 : levels size ≤ 40 := levels_ge (by have h40 : (2 : Nat) ^ 40 = 1099511627776 := by decide
                                                    omega)
        omega
    obtain ⟨p, hp⟩ : ∃ p, Hid (2 ^ k = p) := ⟨_, Lib.hid rfl⟩
    have hk40' : k ≤ 40 := by
      have h1 := hkl.out
      have h2 : levels size ≤ 40 := levels_ge (by have h40 : (2 : Nat) ^ 40 = 1099511627776 := by decide
                                                  omega)
      omega
    have hp40 : Hid (p ≤ 1099511627776) := by
      show p ≤ _
      rw [← hp.out]
      have h40 : (2 : Nat) ^ 40 = 1099511627776 := by decide
      rw [← h40]
      exact Nat.pow_le_pow_right (by omega) hk40'
    have z1 : wrap64 ((2 : Int) ^ k) = (p : Int) := by
      have h1 : ((2 : Int) ^ k) = (p : Int) := by rw [← hp.out]; simp
      rw [h1]
      have := hp40.out
      exact IntWalk.wrap64_in _ (by omega)
    have z2 : bits .xor .i64 ((i : Int) / 2 ^ k) 1 = ((i / 2 ^ k ^^^ 1 : Nat) : Int) := by
      have h1 : (i : Int) / 2 ^ k = ((i / 2 ^ k : Nat) : Int) := by simp
      rw [h1]
      have := Nat.div_le_self i (2 ^ k)
      exact xor_i64 _ (by omega)
    obtain ⟨x, hx⟩ : ∃ x, Hid (i / 2 ^ k ^^^ 1 = x) := ⟨_, Lib.hid rfl⟩
    rw [hx.out] at z2
    obtain ⟨q, hq⟩ : ∃ q, Hid (nbAt i k = q) := ⟨_, Lib.hid rfl⟩
    have z3 : wrap64 ((x : Int) * 2 ^ k) = (q : Int) := by
      have h1 : ((x : Int) * 2 ^ k) = (q : Int) := by rw [← hq.out, ← hx.out]; unfold nbAt; simp
      rw [h1]
      have := nbAt_le i k
      have h2 := hq.out
      have h3 := hp.out
      have h4 := hp40.out
      exact IntWalk.wrap64_in _ (by omega)
    by_cases hlt : p < size
    · have hs2 : Hid (k + 1 ≤ levels size) := levels_lt (by rw [hp.out]; exact hlt)
      by_cases hq2 : q < size
      · have hz1 : (p : Int) < (size : Int) := by omega
        have hz2 : (q : Int) < (size : Int) := by omega
        have hst : Hid (cnt size i (k + 1) = cnt size i k + 1) := by show _ = _; simp only [cnt]; rw [hq.out, if_pos hq2]
        clear hlt hq2
        go_wp2_with fail
        go_round
        case rel => exact ⟨k + 1, by go_num, by rw [hst.out]; go_num, hs2.out⟩
        case measure => simp [intOf]; omega
      · have hz1 : (p : Int) < (size : Int) := by omega
        have hz2 : decide (q < size) = false := decide_eq_false (by omega)
        have hst : Hid (cnt size i (k + 1) = cnt size i k) := by show _ = _; simp only [cnt]; rw [hq.out, if_neg hq2]; rfl
        clear hlt hq2
        go_wp2_with fail
        go_round
        case rel => exact ⟨k + 1, by go_num, by rw [hst.out], hs2.out⟩
        case measure => simp [intOf]; omega
    · have hz1 : decide (p < size) = false := decide_eq_false (by omega)
      have hst : Hid (besideOf size i = cnt size i k) := by
        have h1 := levels_ge (size := size) (k := k) (by rw [hp.out]; exact hlt)
        have h2 := hkl.out
        obtain rfl : k = levels size := by omega
        rfl
      clear hlt
      go_wp2_with fail
      go_ret2
      refine ⟨?_, rfl⟩
      show Ending.returned (.tuple #[.int .i64 ((cnt size i k : Nat) : Int), .bool true]) = _
      rw [hst.out]
end Go.Proofs.YtgldkfaiofkhbaaGreatDoor.ProofBeside

namespace Go.Proofs.YtgldkfaiofkhbaaGreatDoor.Beside17
open Go Go.RowKit Go.Proofs.YtgldkfaiofkhbaaGreatDoor Mem Sha Bytes TreeMath Sides RefSides ProofBeside

theorem xor1_eq (a : Nat) : a ^^^ 1 = if a % 2 = 1 then a - 1 else a + 1 := by
 have h1 : (a ^^^ 1) / 2 = a / 2 := by
  have h := Nat.shiftRight_xor_distrib (a := a) (b := 1) (i := 1)
  simpa [Nat.shiftRight_succ] using h
 have h2 : ((a ^^^ 1) % 2 = 1) ↔ ¬ ((a % 2 = 1) ↔ (1 % 2 = 1)) := Nat.xor_mod_two_eq_one
 split <;> omega
theorem nb_lvl {n i l : Nat} (hi : i < n) : (lvl n i l).length = if nbAt i l < n then 1 else 0 := by
 unfold lvl nbAt
 rw [xor1_eq]
 by_cases h1 : i / 2 ^ l % 2 = 1
 ·rw [if_pos h1, if_pos h1, if_pos]
  ·rfl
  ·have h2 := Nat.div_mul_le_self i (2 ^ l)
   have h3 := Nat.mul_le_mul_right (2 ^ l) (Nat.sub_le (i / 2 ^ l) 1)
   omega
 ·rw [if_neg h1, if_neg h1]
  split <;> rfl
theorem cnt_lv {n i : Nat} (hi : i < n) : ∀ k, cnt n i k = (lv n i k).length
 | 0 => rfl
 | k + 1 => by rw [lv_succ, List.length_append, nb_lvl hi, ← cnt_lv hi k]; rfl
theorem levels_pow (size : Nat) : size ≤ 2 ^ levels size := by
 rcases Nat.lt_or_ge (2 ^ levels size) size with h | h
 ·have := levels_lt h; omega
 ·exact h
theorem beside_sides {n i : Nat} (hi : i < n) : besideOf n i = (sides n i).length := by
 unfold besideOf
 rw [cnt_lv hi, sides_eq hi (levels_pow n)]
end Go.Proofs.YtgldkfaiofkhbaaGreatDoor.Beside17

namespace Go.Proofs.YtgldkfaiofkhbaaGreatDoor.ProofEnc
open Go Go.RowKit Go.Proofs.YtgldkfaiofkhbaaGreatDoor Mem Sha Bytes Go.Proofs.YtgldkfaiofkhbaaGreatDoor.Append Octet Octet2 HeadMem ProofBeside

section
variable {w0 w : World} {g : Nat} {r : Option Nat} {l : Text}
set_option maxRecDepth 100000 in
set_option maxHeartbeats 1000000 in
theorem number_from (N : Nat) (hN : N < 9223372036854775808) (ds : List Text) (n : Nat) (hn : ds.length = n) (hd : ∀ d ∈ ds, d.length = 32) (A : Option Addr) (c : Nat) (hl : l.length + 8 + 32 * n ≤ 140737488355328) (hr : Reads w0 32 A n (ds.flatMap cells8)) (hA : 0 < n → ∀ a, A = some a → a.block ≠ g ∧ some a.block ≠ r)
  (hW : Wrote w0 g r l w) :
  Calls Tryz.prog 132 #[.pointer (some ⟨g, 0, none⟩), .int .i64 (N : Int), .slice A n c] w fun e w' => e = .returned (.tuple #[]) ∧ Wrote w0 g r (l ++ be8 N ++ ds.flatten) w' := by
 have y1 : IntKind.u64.wrap (N : Int) = (N : Int) := u64_in _ (by omega) (by omega)
 have hN' := Lib.hid hN
 replace hW := Lib.hid hW
 replace hn := Lib.hid hn
 replace hd := Lib.hid hd
 replace hr := Lib.hid hr
 replace hA := Lib.hid hA
 replace hl := Lib.hid hl
 clear hN
 go_enter Tryz.func132, Tryz.ntmps132
 go_wp2_with (first
  | (go_at_call 218; refine (put8_from (N : Int) N rfl (by have := hN'.out; omega) (by have := hl.out; omega) hW.out).mono ?_; rintro e w1 ⟨rfl, hW1⟩; replace hW1 := Lib.hid hW1)
  | (go_at_call 156; refine (digests_old ds n hn.out hd.out A c (by have := hl.out; simp [be8_len]; omega) hr.out hA.out hW1.out).mono ?_; rintro e w2 ⟨rfl, hW2⟩; replace hW2 := Lib.hid hW2))
 go_end0
 exact ⟨rfl, hW2.out⟩
end

def inclBytes (size i : Nat) (ds : List Text) : Text := [48] ++ be8 size ++ be8 i ++ ds.flatten
theorem flat32_len : ∀ (ds : List Text), (∀ d ∈ ds, d.length = 32) → ds.flatten.length = 32 * ds.length
 | [], _ => rfl
 | d :: ds, h => by
  have h1 := flat32_len ds (fun x hx => h x (List.mem_cons_of_mem _ hx))
  have h2 := h d (List.mem_cons_self ..)
  simp only [List.flatten_cons, List.length_append, List.length_cons]
  omega
theorem inclBytes_len (size i : Nat) (ds : List Text) (h : ∀ d ∈ ds, d.length = 32) : (inclBytes size i ds).length = 17 + 32 * ds.length := by
 simp only [inclBytes, List.length_append, be8_len, flat32_len ds h, List.length_cons, List.length_nil]
theorem below_alloc1 (w : World) (o : Obj) : Below w.heap.size w (w.alloc o) := (Below.refl _ w).alloc (Nat.le_refl _) o

theorem levels_le {size : Nat} (hs : size ≤ 1099511627776) : levels size ≤ 40 := by
 have h40 : (2 : Nat) ^ 40 = 1099511627776 := by decide
 exact levels_ge (by omega)
theorem besideOf_le {size i : Nat} (hs : size ≤ 1099511627776) : besideOf size i ≤ 40 := Nat.le_trans (cnt_le _ _ _) (levels_le hs)

set_option maxRecDepth 100000 in
set_option maxHeartbeats 1000000 in
theorem encodeInclusion_yes (size i : Nat) (hs : size ≤ 1099511627776) (hi : i < size) (ds : List Text) (n : Nat) (hn : ds.length = n) (hd : ∀ d ∈ ds, d.length = 32) (A : Option Addr) (c : Nat) (w : World) (hr : Reads w 32 A n (ds.flatMap cells8)) (hlt : ∀ a, 0 < n → A = some a → a.block < w.heap.size) (hcnt : besideOf size i = n) :
  Calls Tryz.prog 87 #[.agg #[.int .i64 size, .int .i64 i, .slice A n c]] w fun e w' => ∃ v, e = .returned (.tuple #[v, .int .i64 0]) ∧ Below w.heap.size w w' ∧ w'.ownsRow w.heap.size 5 1 v (17 + 32 * n) (cells8 (inclBytes size i ds)) := by
 obtain ⟨cs, hcs⟩ : ∃ cs : Array Value, cs = #[.int .i64 size, .int .i64 i, .slice A n c] := ⟨_, rfl⟩
 have c0 : cs[0]? = some (.int .i64 size) := by rw [hcs]; rfl
 have c1 : cs[1]? = some (.int .i64 i) := by rw [hcs]; rfl
 have c2 : cs[2]? = some (.slice A n c) := by rw [hcs]; rfl
 have hn40 : n ≤ 40 := by rw [← hcnt]; exact besideOf_le hs
 have hB0 : Hid (Blk ((w.alloc (.cells cs 48)).alloc (.cells #[.slice none 0 0] 313)) w.heap.size 48 cs) := (Blk.new w _ _).alloc _
 have hN := Lib.hid (WrAt.new (w.alloc (.cells cs 48)))
 have hz : Hid ((w.alloc (.cells cs 48)).heap.size = w.heap.size + 1) := by show _ = _; simp
 rw [hz.out] at hN
 have hW0 := Lib.hid hN.out.refl
 have hb0 : Hid (Below w.heap.size w ((w.alloc (.cells cs 48)).alloc (.cells #[.slice none 0 0] 313))) := (below_alloc1 w _).alloc (by rw [hz.out]; omega) _
 have hR0 : Hid (Reads ((w.alloc (.cells cs 48)).alloc (.cells #[.slice none 0 0] 313)) 32 A n (ds.flatMap cells8)) := (hr.alloc _).alloc _
 have hA : Hid (0 < n → ∀ a, A = some a → a.block ≠ w.heap.size + 1 ∧ some a.block ≠ none) := fun h a e => ⟨by have := hlt a h e; omega, by simp⟩
 have hNil : Hid (Reads ((w.alloc (.cells cs 48)).alloc (.cells #[.slice none 0 0] 313)) 32 none 0 (([] : List Text).flatMap cells8)) := Reads.nil_ _ _ _
 have e0 := (Blk.new w 48 cs).cell 0
 have e1 := (Blk.new w 48 cs).cell 1
 have e2 := (Blk.new w 48 cs).cell 2
 rw [c0] at e0
 rw [c1] at e1
 rw [c2] at e2
 replace c0 := Lib.hid c0
 replace c1 := Lib.hid c1
 replace c2 := Lib.hid c2
 have z : ((n : Int) == (n : Int)) = true := by simp
 have hst : Hid (∀ w', Wrote ((w.alloc (.cells cs 48)).alloc (.cells #[.slice none 0 0] 313)) (w.heap.size + 1) none [48] w' → w'.cell? ⟨w.heap.size, 0, none⟩ = some (.int .i64 size)) := fun w' h => ((h.blk hB0.out (by omega) (by simp)).cell 0).trans c0.out
 have hst2 : Hid (∀ w' l, Wrote ((w.alloc (.cells cs 48)).alloc (.cells #[.slice none 0 0] 313)) (w.heap.size + 1) none l w' → w'.cell? ⟨w.heap.size, 1, none⟩ = some (.int .i64 i) ∧ w'.cell? ⟨w.heap.size, 2, none⟩ = some (.slice A n c)) := fun w' l h => ⟨((h.blk hB0.out (by omega) (by simp)).cell 1).trans c1.out, ((h.blk hB0.out (by omega) (by simp)).cell 2).trans c2.out⟩
 have hlen : Hid ((inclBytes size i ds).length = 17 + 32 * n) := by show _ = _; rw [inclBytes_len _ _ _ hd, hn]
 have hfin : Hid (([] : Text) ++ [48] ++ be8 size ++ ([] : List Text).flatten ++ be8 i ++ ds.flatten = inclBytes size i ds) := by show _ = _; simp [inclBytes]
 have hs' := Lib.hid hs
 have hi' := Lib.hid hi
 replace hcnt := Lib.hid hcnt
 replace hn := Lib.hid hn
 replace hd := Lib.hid hd
 replace hn40 := Lib.hid hn40
 have hB9 := hB0
 clear hs hi hr hlt hB0 hN
 rw [← hcs]
 clear hcs
 go_enter Tryz.func87, Tryz.ntmps87
 go_wp2_with (first
  | (go_at_call 152; refine (beside_yes size i hs'.out hi'.out _).mono ?_; rw [hcnt.out]; rintro e w1 ⟨rfl, rfl⟩)
  | (go_at_call 130; refine (new_any _).mono ?_; rintro e w1 ⟨rfl, rfl⟩)
  | (go_at_call 131; refine (put1_from 48 48 rfl (by simp) hW0.out).mono ?_; rintro e w1 ⟨rfl, hW1⟩; have g0 := hst.out w1 hW1; replace hW1 := Lib.hid hW1; clear hW0)
  | (go_at_call 132; refine (number_from size (by have := hs'.out; omega) [] 0 rfl (by simp) none 0 (by simp) hNil.out (fun h => absurd h (by simp)) hW1.out).mono ?_; rintro e w2 ⟨rfl, hW2⟩; obtain ⟨g1, g2⟩ := hst2.out w2 _ hW2; replace hW2 := Lib.hid hW2; clear hW1 g0)
  | (go_at_call 132; refine (number_from i (by have := hs'.out; have := hi'.out; omega) ds n hn.out hd.out A c (by have := hn40.out; simp [be8_len]; omega) hR0.out hA.out hW2.out).mono ?_; rintro e w3 ⟨rfl, hW3⟩; rw [hfin.out] at hW3; have hb3 : Hid (Below w.heap.size w w3) := hb0.out.trans (hW3.below (fun _ e => by cases e) (B := w.heap.size) (by omega) hb0.out.size); obtain ⟨r3, hA3, -, -⟩ := hW3; replace hA3 := Lib.hid hA3; clear hW2 g1 g2)
  | (go_at_call 133; refine (all_any (w.heap.size + 1) r3 (inclBytes size i ds) w3 (by rw [hlen.out]; have := hn40.out; omega) hA3.out).mono ?_; rintro e w4 ⟨v, rfl, hb4, ho4⟩; rw [hlen.out] at ho4; obtain ⟨Av, cv, rfl, -⟩ := Own.reads ho4; have hb5 : Hid (Below w.heap.size w w4) := hb3.out.trans (hb4.mono hb3.out.size); replace ho4 := Lib.hid ho4; clear hb4))
 go_ret2
 exact ⟨_, rfl, hb5.out, ownsRow_base ho4.out hb3.out.size⟩

set_option maxRecDepth 100000 in
set_option maxHeartbeats 1000000 in
theorem encodeInclusion_out (size i : Int) (A : Option Addr) (n c : Nat) (w : World) (hin : insideB size i = false) :
  Calls Tryz.prog 87 #[.agg #[.int .i64 size, .int .i64 i, .slice A n c]] w fun e w' => e = .returned (.tuple #[.slice none 0 0, .int .i64 170]) ∧ Below w.heap.size w w' := by
 have hb0 : Hid (Below w.heap.size w (w.alloc (.cells #[.int .i64 size, .int .i64 i, .slice A n c] 48))) := below_alloc1 w _
 replace hin := Lib.hid hin
 go_enter Tryz.func87, Tryz.ntmps87
 go_wp2_with (go_at_call 152; refine (beside_no size i hin.out _).mono ?_; rintro e w1 ⟨rfl, rfl⟩)
 go_ret2
 exact ⟨rfl, hb0.out⟩

set_option maxRecDepth 100000 in
set_option maxHeartbeats 1000000 in
theorem encodeInclusion_no (size i : Nat) (hs : size ≤ 1099511627776) (hi : i < size) (A : Option Addr) (n c : Nat) (w : World) (hcnt : besideOf size i ≠ n) :
  Calls Tryz.prog 87 #[.agg #[.int .i64 size, .int .i64 i, .slice A n c]] w fun e w' => e = .returned (.tuple #[.slice none 0 0, .int .i64 170]) ∧ Below w.heap.size w w' := by
 have hb0 : Hid (Below w.heap.size w (w.alloc (.cells #[.int .i64 size, .int .i64 i, .slice A n c] 48))) := below_alloc1 w _
 have hs' := Lib.hid hs
 have hi' := Lib.hid hi
 clear hs hi
 obtain ⟨m, hm⟩ : ∃ m, Hid (besideOf size i = m) := ⟨_, Lib.hid rfl⟩
 rw [hm.out] at hcnt
 have z1 : ((m : Int) == (n : Int)) = false := by simp; omega
 have z2 : ((m : Int) != (n : Int)) = true := by simp; omega
 clear hcnt
 go_enter Tryz.func87, Tryz.ntmps87
 go_wp2_with (go_at_call 152; refine (beside_yes size i hs'.out hi'.out _).mono ?_; rw [hm.out]; rintro e w1 ⟨rfl, rfl⟩)
 go_ret2
 exact ⟨rfl, hb0.out⟩
end Go.Proofs.YtgldkfaiofkhbaaGreatDoor.ProofEnc

namespace Go.Proofs.YtgldkfaiofkhbaaGreatDoor.BetwRef
open Go Go.RowKit Go.Proofs.YtgldkfaiofkhbaaGreatDoor Mem Bytes TreeMath Subs Beside17

theorem joins_four (x y : Int) (h : joinsB x y = false) : x < 0 ∨ (0 ≤ x ∧ y < x) ∨ (0 ≤ x ∧ x ≤ y ∧ 1099511627776 < y) := by
 simp only [joinsB, Bool.and_eq_false_iff, decide_eq_false_iff_not] at h
 omega
end Go.Proofs.YtgldkfaiofkhbaaGreatDoor.BetwRef

namespace Go.Proofs.YtgldkfaiofkhbaaGreatDoor.RefHead
open Go Go.RowKit Go.Proofs.YtgldkfaiofkhbaaGreatDoor Mem Sha Bytes Go.Proofs.YtgldkfaiofkhbaaGreatDoor.Append Octet Octet2 HeadMem

theorem own_block {w : World} {B e size n : Nat} {A : Option Addr} {c : Nat} {xs : List Value} (h : w.ownsRow B e size (.slice A n c) n xs) : ∀ k, Value.ownBlock (.slice A n c) = some k → B ≤ k := by
 intro k hk
 obtain ⟨A2, c2, e2, _, _, _, _, h2⟩ := Own.reads h
 injection e2 with e2 _ e3
 subst e2
 cases A with
 | none => cases hk
 | some a => injection hk with hk; subst hk; exact (h2 a rfl).1
theorem own_below {w w' : World} {B e size n : Nat} {v : Value} {xs : List Value} (h : w.ownsRow B e size v n xs) (hb : Below w.heap.size w w') : w'.ownsRow B e size v n xs :=
 ⟨h.1, h.2.imp id fun ⟨g, cap, cur, h1, h2, h3, h4⟩ => ⟨g, cap, cur, h1, h2, (hb.block g (Array.getElem?_eq_some_iff.1 h3).1).trans h3, h4⟩⟩

end Go.Proofs.YtgldkfaiofkhbaaGreatDoor.RefHead

namespace Go.Proofs.YtgldkfaiofkhbaaGreatDoor.NumberNew
open Go Go.RowKit Go.Proofs.YtgldkfaiofkhbaaGreatDoor Mem Sha Bytes Octet Octet2 HeadMem ProofEnc

section
variable {w0 wi : World} {g : Nat} {r : Option Nat} {l : Text}
end
end Go.Proofs.YtgldkfaiofkhbaaGreatDoor.NumberNew
