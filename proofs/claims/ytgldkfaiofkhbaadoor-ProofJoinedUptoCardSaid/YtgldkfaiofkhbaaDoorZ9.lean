/-
  Texts of the claim, put into one file: Octet2, HeadMem0, ProofBeside, Beside17, ProofEnc, Octet4, NumberNew, HeadMem, BetwRef.
-/
import Derived.Test.YtgldkfaiofkhbaaDoorZ8
import Derived.Test.YtgldkfaiofkhbaaDoorZ5
import Derived.Outline
import Derived.Test.YtgldkfaiofkhbaaDoorZ0

namespace Go.Proofs.YtgldkfaiofkhbaaDoor.Octet2
open Go Go.RowKit Go.Proofs.YtgldkfaiofkhbaaDoor Go.Proofs.YtgldkfaiofkhbaaDoor.Mem Go.Proofs.YtgldkfaiofkhbaaDoor.Sha Go.Proofs.YtgldkfaiofkhbaaDoor.Bytes Go.Proofs.YtgldkfaiofkhbaaDoor.Append Go.Proofs.YtgldkfaiofkhbaaDoor.Octet

/-- What an append (its source nil or not) and the store of the field leave. -/
theorem Wrote.append {wr W : World} {g : Nat} {r : Option Nat} {l q : Text} {v v1 : Value} (hw : WrAt wr g r l) (hv : ∀ u, Blk wr g 171 #[u] → u = v) (hG : Grew wr 0 5 1 v l.length q.length (cells8 l) (cells8 q) v1 W) :
    Wrote wr g r (l ++ q) (W.setCell ⟨g, 0, none⟩ v1) := by
  obtain ⟨v', hb, ho, hvr, hr1⟩ := hw
  obtain rfl := hv v' hb
  have hk0 : Kept (fun k => k = g ∨ some k = r) wr W := (Kept.refl _ wr).grown hG.grow (fun k hk => .inl (.inr (by rw [← hvr]; exact hk.symm)))
  have hbW : Blk W g 171 #[v'] := (hG.grow.block g hb.lt (fun e => by
    have := (hr1 g (by rw [← hvr]; exact e.symm)).1
    omega)).trans hb
  have hat : ∀ k, v1.ownBlock = some k → g < k ∧ k < W.heap.size := by
    intro k hk
    have hlt : k < W.heap.size := by
      rcases hG.own.2 with ⟨rfl, _⟩ | ⟨g', cap, cur, rfl, _, h2, _⟩
      · cases hk
      · obtain rfl : g' = k := by simpa [Value.ownBlock] using hk
        exact (Array.getElem?_eq_some_iff.1 h2).1
    refine ⟨?_, hlt⟩
    rcases hG.at_ with h | h
    · exact (hr1 k (by rw [← hvr, ← h, hk])).1
    · rw [h] at hk
      injection hk with hk
      have := hb.lt
      omega
  refine ⟨v1.ownBlock, ⟨v1, hbW.set_ 0 _, ?_, rfl, fun k e => ⟨(hat k e).1, by have := (hat k e).2; simpa [World.setCell] using this⟩⟩, hk0.setCell (.inl (.inl rfl)) _, ?_⟩
  · have hown := hG.own
    refine ⟨by simp [cells8_len], ?_⟩
    have hl2 : (l ++ q).length = l.length + q.length := List.length_append
    have hc2 : cells8 (l ++ q) = cells8 l ++ cells8 q := by simp [cells8]
    rw [hl2, hc2]
    rcases hown.2 with h | ⟨g', cap, cur, rfl, h1, h2, h3⟩
    · exact .inl h
    · refine .inr ⟨g', cap, cur, rfl, h1, ?_, h3⟩
      have := (hat g' rfl).1
      exact (Below.heap_setCell W ⟨g, 0, none⟩ _ g' (fun e => by simp at e; omega)).trans h2
  · rcases hG.at_ with h | h
    · exact .inl (by rw [h, hvr])
    · exact .inr ⟨_, h, Nat.le_refl _⟩

theorem rowAll (d : Text) (hd : d.length = 32) : (Tryd.prog.info? 23).map (·.size) = some (cells8 d).length := by rw [cells8_len, hd]; exact size31
theorem z32 : Z32.size = 32 := rfl

set_option maxRecDepth 100000 in
set_option maxHeartbeats 1000000 in
theorem digests_any (g : Nat) (r : Option Nat) (l : Text) (ds : List Text) (n : Nat) (hn : ds.length = n) (hd : ∀ d ∈ ds, d.length = 32) (A : Option Addr) (c : Nat) (w : World) (hl : l.length + 32 * n ≤ 140737488355328)
    (hw : WrAt w g r l) (hr : Reads w 32 A n (ds.flatMap cells8)) (hA : 0 < n → ∀ a, A = some a → a.block ≠ g ∧ some a.block ≠ r) :
    Calls Tryd.prog 75 #[.pointer (some ⟨g, 0, none⟩), .slice A n c] w fun e w' => e = .returned (.tuple #[]) ∧ Wrote w g r (l ++ ds.flatten) w' := by
  obtain ⟨i0, hi, hz0, hz1, hz2⟩ := info_parts8 info8
  have H0 : Hid (Wrote w g r (l ++ (ds.take 0).flatten) w) := (show Wrote w g r (l ++ (ds.take 0).flatten) w by simpa using hw.refl)
  have hN : (n : Int) < 9223372036854775807 := by omega
  replace hN := Lib.hid hN
  replace hl := Lib.hid hl
  replace hn := Lib.hid hn
  replace hd := Lib.hid hd
  replace hr := Lib.hid hr
  replace hA := Lib.hid hA
  clear hw
  go_enter Tryd.func75, Tryd.ntmps75
  go_wp2_with fail
  go_loopw [8] (fun v wr => ∃ i : Nat, v = .int .i64 (i : Int) ∧ Hid (i ≤ n) ∧ Hid (Wrote w g r (l ++ (ds.take i).flatten) wr)) (fun v _ => n - (intOf v).toNat)
  case atStart => exact ⟨0, rfl, (show 0 ≤ n by omega), H0.out⟩
  case round =>
    clear H0
    obtain ⟨i, rfl, hi2, hW⟩ := hrel
    by_cases hlt : i < n
    · have hz : (i : Int) < (n : Int) := by omega
      have hz0' : (0 : Int) ≤ (i : Int) := by omega
      have hil : (i : Int) < 9223372036854775807 := by have := hN.out; omega
      obtain ⟨r1, h1, k1, c1⟩ := hW.out
      obtain ⟨v, hb, ho, hvr, hr1⟩ := h1
      have hne : some g ≠ v.ownBlock := fun e => by
        have := (hr1 g (by rw [← hvr]; exact e.symm)).1
        omega
      obtain ⟨d, hdi⟩ : ∃ d, Hid (ds[i]? = some d) := ⟨_, List.getElem?_eq_getElem (by rw [hn.out]; exact hlt)⟩
      have hdl : Hid (d.length = 32) := hd.out d (List.mem_of_getElem? hdi.out)
      obtain ⟨b, o, rfl, hbl, hcell⟩ := hr.out.2 (by omega)
      have hel : ∀ j u, (cells8 d)[j]? = some u → wr.cell? ⟨b, o + i * 32 + j, none⟩ = some u := fun j u hu => by
        have h2 := hcell _ _ (digs_at ds hd.out i d hdi.out j u hu)
        have h3 := hA.out (by omega) _ rfl
        rw [Nat.add_assoc]
        exact (k1.cell (p := ⟨b, o + (i * 32 + j), none⟩) hbl (fun h => by rcases h with h | h; exact h3.1 h; exact h3.2 h)).trans h2
      replace hel := Lib.hid hel
      clear hcell hbl
      have hva : (wr.alloc (.cells (cells8 d).toArray 23)).cell? ⟨g, 0, none⟩ = some v := (World.cell?_alloc_lt wr _ ⟨g, 0, none⟩ hb.lt).trans (by rw [hb.cell 0]; rfl)
      have hlen : Hid ((l ++ (ds.take i).flatten).length + 32 ≤ 140737488355328) := by
        show _ ≤ _
        have := hl.out
        have h5 := (digs_len (ds.take i) (fun x hx => hd.out x (List.mem_of_mem_take hx))).1
        have h6 := List.length_take_le i ds
        rw [List.length_append, h5]
        have : (ds.take i).length ≤ i := by rw [List.length_take]; omega
        omega
      have hts : Hid (l ++ (ds.take (i + 1)).flatten = (l ++ (ds.take i).flatten) ++ d) := by
        show _ = _
        rw [List.take_add_one, hdi.out]
        simp
      have hO := Lib.hid ho
      have hV : ∀ u, Blk wr g 171 #[u] → u = v := fun u hu => by
        have h1 : some (Obj.cells #[u] 171 (0, 0)) = some (Obj.cells #[v] 171 (0, 0)) := (show wr.heap[g]? = _ from hu).symm.trans hb
        simpa using h1
      have hro := Lib.hid (rowAll d hdl.out)
      have hc8 : Hid ((cells8 d).length = 32) := (cells8_len d).trans hdl.out
      have hs1 : Hid ((Tryd.prog.info? 23).map (·.size) = some (cells8 d).toArray.size) := (show _ = _ by rw [List.size_toArray]; exact hro.out)
      have hs2 : Hid (Z32.size = (cells8 d).toArray.size) := (by have e : (cells8 d).toArray.size = (cells8 d).length := List.size_toArray; show Z32.size = _; rw [e, hc8.out]; rfl)
      replace hV := Lib.hid hV
      replace hne := Lib.hid hne
      replace hb := Lib.hid hb
      clear hr1 ho hvr c1 k1
      generalize l ++ (ds.take i).flatten = L at *
      go_wp2_with (first
        | ((with_reducible change wpList _ _ _ ({ dst := some 11, op := _, type := _, pos := _, after := _, guard := _ } :: _) _ _); refine wpList_load_part (o := ⟨some 11, _, _, _, _, _⟩) rfl 23 (.tmp 10) rfl b (o + i * 32) rfl (cells8 d) _ hel.out Tryd.underlying23 rfl hro.out ?_)
        | ((with_reducible change wpList _ _ _ ({ dst := none, op := Op.store 23 _ _, type := _, pos := _, after := _, guard := _ } :: _) _ _); refine wpList_store_row (o := ⟨none, _, _, _, _, _⟩) rfl 23 (.tmp 5) (.tmp 11) rfl wr.heap.size (cells8 d).toArray rfl rfl 23 Z32 (heap_alloc_new wr _) hs1.out hs2.out (cells8_all1 d) ?_; rw [alloc_setRow]))
      have hm1 : Hid ((cells8 d).length = 32 * 1) := hc8.out
      have hm2 : Hid (∀ (j : Nat) (u : Value), (cells8 d)[j]? = some u → ((wr.alloc (.cells (cells8 d).toArray 23)).drew).cell? ((⟨wr.heap.size, 0, none⟩ : Addr).add j) = some u) := World.news_of_block (w := (wr.alloc (.cells (cells8 d).toArray 23)).drew) (heap_alloc_new wr _)
      go_region_law (refine step_append_lies (P := Tryd.prog) ((wr.alloc (.cells (cells8 d).toArray 23)).drew) (o := ⟨some 18, _, _, _, _, _⟩) rfl (.tmp 16) (.tmp 17) 31 rfl 0 5 i0 (.int .u8 0) 1 1 Tryd.underlying31 hi hz0 hz1 hz2 rfl (by decide) v L.length (cells8 L) ?hs (World.ownsRow.alloc (w := wr) hO.out _) ⟨wr.heap.size, 0, none⟩ 32 32 (cells8 d) ?hx hm1.out hm2.out (cells8_one d) (by decide) ?c1 ?c2 (Nat.zero_le _) _ rfl ?_; (case hs => go_simp); (case hx => go_simp); (case c1 => have := hlen.out; unfold maxLen; omega); (case c2 => have := hlen.out; omega); intro G cap W hown hgrow hat hlt2; have hK0 : Kept (fun _ => False) wr ((wr.alloc (.cells (cells8 d).toArray 23)).drew) := ((Kept.refl _ wr).alloc _).drew; have hX : Hid (Wrote w g r (L ++ d) (W.setCell ⟨g, 0, none⟩ (.slice (some ⟨G, 0, none⟩) (L.length + 32) cap))) := hW.out.step (fun r1 h1 => Wrote.put (q := d) h1 hV.out rfl hdl.out.symm hK0 hown hgrow hat hlt2); obtain ⟨hf1, hf2⟩ := far_cell hb.out hne.out hK0 hgrow; clear hown hgrow hat hlt2 hK0)
      all_goals
        go_wp2_with fail
        go_roundw
        case rel => exact ⟨i + 1, by go_num, (show i + 1 ≤ n by omega), (show Wrote _ _ _ _ _ by rw [hts.out]; exact hX.out)⟩
        case measure => simp [intOf]; omega
    · obtain rfl : i = n := by have := hi2.out; omega
      have hz : (i : Int) ≤ (i : Int) := by omega
      have hT : Hid (ds.take i = ds) := List.take_of_length_le (by have := hn.out; omega)
      go_wp2_with fail
      go_end0
      exact ⟨rfl, by have := hW.out; rw [hT.out] at this; exact this⟩

/-- New: a writer that holds nothing. -/
theorem new_any (w : World) : Calls Tryd.prog 57 #[] w fun e w' => e = .returned (.pointer (some ⟨w.heap.size, 0, none⟩)) ∧ w' = w.alloc (.cells #[.slice none 0 0] 171) := by
  go_enter Tryd.func57, Tryd.ntmps57
  go_wp2_with fail
  go_ret
  exact ⟨rfl, rfl⟩
theorem WrAt.new (w : World) : WrAt (w.alloc (.cells #[.slice none 0 0] 171)) w.heap.size none [] :=
  ⟨_, Blk.new w _ _, World.ownsRow_nil _ _ _ _, rfl, fun _ e => by cases e⟩

theorem put1_lit (n : Int) (c : BitVec 8) (hc : b8 c = n) (g : Nat) (r : Option Nat) (l : Text) (w : World) (hl : l.length + 1 ≤ 140737488355328) (hw : WrAt w g r l) :
    Calls Tryd.prog 58 #[.pointer (some ⟨g, 0, none⟩), .int .u8 n] w fun e w' => e = .returned (.tuple #[]) ∧ Wrote w g r (l ++ [c]) w' := by
  subst hc
  exact put1 g r l c w hl hw
theorem put8_lit (n : Int) (N : Nat) (hn : (N : Int) = n) (hN : N < 18446744073709551616) (g : Nat) (r : Option Nat) (l : Text) (w : World) (hl : l.length + 8 ≤ 140737488355328) (hw : WrAt w g r l) :
    Calls Tryd.prog 107 #[.pointer (some ⟨g, 0, none⟩), .int .u64 n] w fun e w' => e = .returned (.tuple #[]) ∧ Wrote w g r (l ++ be8 N) w' := by
  subst hn
  exact put8 g r l N hN w hl hw


set_option maxRecDepth 100000 in
set_option maxHeartbeats 1000000 in
/-- All: a copy of what was laid. -/
theorem all_any (g : Nat) (r : Option Nat) (l : Text) (w : World) (hl : l.length ≤ 140737488355328) (hw : WrAt w g r l) :
    Calls Tryd.prog 60 #[.pointer (some ⟨g, 0, none⟩)] w fun e w' => ∃ v, e = .returned v ∧ Below w.heap.size w w' ∧ w'.ownsRow w.heap.size 5 1 v l.length (cells8 l) := by
  obtain ⟨i0, hi, hz0, hz1, hz2⟩ := info_parts8 info8
  obtain ⟨v, hb, ho, hvr, hr1⟩ := hw
  obtain ⟨A, c, rfl, hnc, hcm, hnil, hrd, -⟩ := Own.reads ho
  have hv : w.cell? ⟨g, 0, none⟩ = some (.slice A l.length c) := by rw [hb.cell 0]; rfl
  have hc1 : Hid (0 + l.length ≤ maxLen) := by show _ ≤ _; omega
  have hc2 : Hid ((0 + l.length) * 1 ≤ 140737488355328) := by show _ ≤ _; omega
  replace hrd := Lib.hid hrd
  replace hnil := Lib.hid hnil
  clear ho hb hvr hr1 hl hnc hcm
  go_enter Tryd.func60, Tryd.ntmps60
  go_wp2_with (at_builtin; refine wpList_append_src _ rfl (.const (.slice none 0 0)) (.tmp 6) 31 rfl w.heap.size 5 i0 (.int .u8 0) 1 1 Tryd.underlying31 hi hz0 hz1 hz2 rfl (by decide) (.slice none 0 0) 0 [] rfl (World.ownsRow_nil _ _ _ _) A l.length c (cells8 l) rfl hrd.out hnil.out (cells8_one l) hc1.out hc2.out (Nat.le_refl _) ?_; intro v1 w1 hG; replace hG := Lib.hid hG)
  go_ret
  refine ⟨v1, rfl, hG.out.below (Below.refl _ _) (Nat.le_refl _) (fun k e => by cases e), ?_⟩
  have := hG.out.own
  simpa using this

set_option maxRecDepth 100000 in
set_option maxHeartbeats 1000000 in
theorem raw_any (g : Nat) (r : Option Nat) (l : Text) (ps : List Text) (n : Nat) (hn : ps.length = n) (A : Option Addr) (c : Nat) (w : World) (hl : l.length + ps.flatten.length ≤ 140737488355328) (hn47 : n < 140737488355328)
    (hw : WrAt w g r l) (hp : Apart w g r A ps) :
    Calls Tryd.prog 119 #[.pointer (some ⟨g, 0, none⟩), .slice A n c] w fun e w' => e = .returned (.tuple #[]) ∧ Wrote w g r (l ++ ps.flatten) w' := by
  obtain ⟨i0, hi, hz0, hz1, hz2⟩ := info_parts8 info8
  have H0 : Hid (Wrote w g r (l ++ (ps.take 0).flatten) w) := (show Wrote w g r (l ++ (ps.take 0).flatten) w by simpa using hw.refl)
  have hN : (n : Int) < 9223372036854775807 := by omega
  replace hN := Lib.hid hN
  replace hl := Lib.hid hl
  replace hn := Lib.hid hn
  replace hp := Lib.hid hp
  clear hw hn47
  go_enter Tryd.func119, Tryd.ntmps119
  go_wp2_with fail
  go_loopw [8] (fun v wr => ∃ i : Nat, v = .int .i64 (i : Int) ∧ Hid (i ≤ n) ∧ Hid (Wrote w g r (l ++ (ps.take i).flatten) wr)) (fun v _ => n - (intOf v).toNat)
  case atStart => exact ⟨0, rfl, (show 0 ≤ n by omega), H0.out⟩
  case round =>
    clear H0
    obtain ⟨i, rfl, hi2, hW⟩ := hrel
    by_cases hlt : i < n
    · have hz : (i : Int) < (n : Int) := by omega
      have hz0' : (0 : Int) ≤ (i : Int) := by omega
      have hil : (i : Int) < 9223372036854775807 := by have := hN.out; omega
      obtain ⟨r1, h1, k1, c1⟩ := hW.out
      obtain ⟨v, hb, ho, hvr, hr1⟩ := h1
      have hne : some g ≠ v.ownBlock := fun e => by
        have := (hr1 g (by rw [← hvr]; exact e.symm)).1
        omega
      obtain ⟨q, hqi⟩ : ∃ q, Hid (ps[i]? = some q) := ⟨_, List.getElem?_eq_getElem (by rw [hn.out]; exact hlt)⟩
      obtain ⟨b, o, Ai, ci, rfl, hcell, hrd, hnil⟩ := hp.out.at_ hqi.out k1
      have hgc : wr.cell? ⟨g, 0, none⟩ = some v := by rw [hb.cell 0]; rfl
      obtain ⟨m, hm⟩ : ∃ m, Hid (q.length = m) := ⟨_, rfl⟩
      rw [hm.out] at hcell hrd hnil
      replace hrd := Lib.hid hrd
      replace hnil := Lib.hid hnil
      have hlen : Hid ((l ++ (ps.take i).flatten).length + q.length ≤ 140737488355328) := by
        show _ ≤ _
        have := hl.out
        have h5 := (pieces_sum ps i q hqi.out).2
        rw [List.length_append]
        omega
      have hts : Hid (l ++ (ps.take (i + 1)).flatten = (l ++ (ps.take i).flatten) ++ q) := by
        show _ = _
        rw [(pieces_sum ps i q hqi.out).1]
        simp
      have hO := Lib.hid ho
      have hV : ∀ u, Blk wr g 171 #[u] → u = v := fun u hu => by
        have h1 : some (Obj.cells #[u] 171 (0, 0)) = some (Obj.cells #[v] 171 (0, 0)) := (show wr.heap[g]? = _ from hu).symm.trans hb
        simpa using h1
      replace hV := Lib.hid hV
      replace hne := Lib.hid hne
      replace hb := Lib.hid hb
      clear hr1 ho hvr c1 k1
      generalize l ++ (ps.take i).flatten = L at *
      have hc1 : Hid (L.length + m ≤ maxLen) := by show _ ≤ _; have := hlen.out; have := hm.out; unfold maxLen; omega
      have hc2 : Hid ((L.length + m) * 1 ≤ 140737488355328) := by show _ ≤ _; have := hlen.out; have := hm.out; omega
      go_wp2_with (at_builtin; refine wpList_append_src wr rfl (.tmp 16) (.tmp 17) 31 rfl 0 5 i0 (.int .u8 0) 1 1 Tryd.underlying31 hi hz0 hz1 hz2 rfl (by decide) v L.length (cells8 L) rfl hO.out Ai m ci (cells8 q) rfl hrd.out hnil.out (cells8_one q) hc1.out hc2.out (Nat.zero_le _) ?_; intro v1 W hG; obtain ⟨Av, cv, rfl, -⟩ := Own.reads hG.own; have hX := Lib.hid (hW.out.step (fun r1 h1 => Wrote.append (q := q) h1 hV.out (by rw [hm.out]; exact hG))); obtain ⟨hf1, hf2⟩ := far_cell hb.out hne.out (Kept.refl _ wr) hG.grow; clear hG)
      go_roundw
      case rel => exact ⟨i + 1, by go_num, (show i + 1 ≤ n by omega), (show Wrote _ _ _ _ _ by rw [hts.out]; exact hX.out)⟩
      case measure => simp [intOf]; omega
    · obtain rfl : i = n := by have := hi2.out; omega
      have hz : (i : Int) ≤ (i : Int) := by omega
      have hT : Hid (ps.take i = ps) := List.take_of_length_le (by have := hn.out; omega)
      go_wp2_with fail
      go_end0
      exact ⟨rfl, by have := hW.out; rw [hT.out] at this; exact this⟩

/-! ### The same, said of what was written since a world w0 -/
section
variable {w0 w w' wi : World} {g : Nat} {r r1 : Option Nat} {l l2 : Text}
theorem put1_from (n : Int) (c : BitVec 8) (hc : b8 c = n) (hl : l.length + 1 ≤ 140737488355328) (hW : Wrote w0 g r l w) :
    Calls Tryd.prog 58 #[.pointer (some ⟨g, 0, none⟩), .int .u8 n] w fun e w' => e = .returned (.tuple #[]) ∧ Wrote w0 g r (l ++ [c]) w' := by
  obtain ⟨r1, h1, k1, c1⟩ := hW
  exact (put1_lit n c hc g r1 l w hl h1).mono fun e w' ⟨he, hx⟩ => ⟨he, Wrote.trans1 k1 c1 hx⟩
theorem put8_from (n : Int) (N : Nat) (hn : (N : Int) = n) (hN : N < 18446744073709551616) (hl : l.length + 8 ≤ 140737488355328) (hW : Wrote w0 g r l w) :
    Calls Tryd.prog 107 #[.pointer (some ⟨g, 0, none⟩), .int .u64 n] w fun e w' => e = .returned (.tuple #[]) ∧ Wrote w0 g r (l ++ be8 N) w' := by
  obtain ⟨r1, h1, k1, c1⟩ := hW
  exact (put8_lit n N hn hN g r1 l w hl h1).mono fun e w' ⟨he, hx⟩ => ⟨he, Wrote.trans1 k1 c1 hx⟩
/-- Digests that were there ahead of the writing. -/
theorem digests_old (ds : List Text) (n : Nat) (hn : ds.length = n) (hd : ∀ d ∈ ds, d.length = 32) (A : Option Addr) (c : Nat) (hl : l.length + 32 * n ≤ 140737488355328) (hr : Reads w0 32 A n (ds.flatMap cells8)) (hA : 0 < n → ∀ a, A = some a → a.block ≠ g ∧ some a.block ≠ r)
    (hW : Wrote w0 g r l w) :
    Calls Tryd.prog 75 #[.pointer (some ⟨g, 0, none⟩), .slice A n c] w fun e w' => e = .returned (.tuple #[]) ∧ Wrote w0 g r (l ++ ds.flatten) w' := by
  obtain ⟨r1, h1, k1, c1⟩ := hW
  have hr1 : Reads w 32 A n (ds.flatMap cells8) := hr.kept0 k1 (fun hp b o e h => by
    have := hA (by omega) _ e
    rcases h with h | h
    · exact this.1 h
    · exact this.2 h)
  refine (digests_any g r1 l ds n hn hd A c w hl h1 hr1 (fun h0 a e => ?_)).mono fun e w' ⟨he, hx⟩ => ⟨he, Wrote.trans1 k1 c1 hx⟩
  have h2 := hA h0 a e
  refine ⟨h2.1, fun e2 => ?_⟩
  rcases c1 with rfl | ⟨k, rfl, hk⟩
  · exact h2.2 e2
  · injection e2 with e2
    obtain ⟨b, o, e3, hb, _⟩ := hr.2 (by omega)
    rw [e] at e3
    injection e3 with e3
    subst e3
    simp at e2
    omega
end
end Go.Proofs.YtgldkfaiofkhbaaDoor.Octet2

namespace Go.Proofs.YtgldkfaiofkhbaaDoor.HeadMem
open Go Go.RowKit Go.Proofs.YtgldkfaiofkhbaaDoor Go.Proofs.YtgldkfaiofkhbaaDoor.Mem Go.Proofs.YtgldkfaiofkhbaaDoor.Sha Go.Proofs.YtgldkfaiofkhbaaDoor.Bytes Go.Proofs.YtgldkfaiofkhbaaDoor.Append Go.Proofs.YtgldkfaiofkhbaaDoor.Octet Go.Proofs.YtgldkfaiofkhbaaDoor.Octet2

theorem agg_hi {T : TypeId} {cs : List Value} {n : Nat} (h : (Tryd.prog.info? T).map (·.size) = some n) (hl : cs.length = n) : (Tryd.prog.info? T).map (·.size) = some cs.length := by rw [hl]; exact h
theorem size32 : (Tryd.prog.info? 23).map (·.size) = some 32 := by kernel_rfl
theorem zero32 : ((Tryd.prog.info? 23).bind (·.zero)).isSome = true := by kernel_rfl
end Go.Proofs.YtgldkfaiofkhbaaDoor.HeadMem

namespace Go.Proofs.YtgldkfaiofkhbaaDoor.ProofBeside
open Go Go.RowKit Go.Proofs.YtgldkfaiofkhbaaDoor Go.Proofs.YtgldkfaiofkhbaaDoor.Mem Go.Proofs.YtgldkfaiofkhbaaDoor.Sha Go.Proofs.YtgldkfaiofkhbaaDoor.Bytes Go.Proofs.YtgldkfaiofkhbaaDoor.Append Go.Proofs.YtgldkfaiofkhbaaDoor.Octet Go.Proofs.YtgldkfaiofkhbaaDoor.Octet2 Go.Proofs.YtgldkfaiofkhbaaDoor.HeadMem

/-- The neighbour's first leaf at level l. -/
def nbAt (i l : Nat) : Nat := (i / 2 ^ l ^^^ 1) * 2 ^ l
/-- How many levels below k have a neighbour. -/
def cnt (size i : Nat) : Nat → Nat
  | 0 => 0
  | k + 1 => cnt size i k + if nbAt i k < size then 1 else 0
theorem cnt_le (size i : Nat) : ∀ k, cnt size i k ≤ k
  | 0 => Nat.le_refl _
  | k + 1 => by have := cnt_le size i k; unfold cnt; split <;> omega
/-- How many levels a tree of that size has. -/
def levels (size : Nat) : Nat := if size ≤ 1 then 0 else Nat.log2 (size - 1) + 1
def insideB (size i : Int) : Bool := decide (1 ≤ size) && decide (size ≤ 1099511627776) && decide (0 ≤ i) && decide (i < size)
def besideOf (size i : Nat) : Nat := cnt size i (levels size)

theorem xor1 (a : Nat) : a ^^^ 1 ≤ a + 1 := by
  have h1 : (a ^^^ 1) / 2 = a / 2 := by
    have h := Nat.shiftRight_xor_distrib (a := a) (b := 1) (i := 1)
    simpa [Nat.shiftRight_succ] using h
  omega
theorem nbAt_le (i k : Nat) : nbAt i k ≤ i + 2 ^ k := by
  unfold nbAt
  have h1 := Nat.mul_le_mul_right (2 ^ k) (xor1 (i / 2 ^ k))
  have h2 := Nat.div_mul_le_self i (2 ^ k)
  rw [Nat.succ_mul] at h1
  omega
theorem xor_i64 (a : Nat) (h : a < 9223372036854775806) : bits .xor .i64 (a : Int) 1 = ((a ^^^ 1 : Nat) : Int) := by
  show IntKind.i64.wrap (((BitVec.ofInt 64 (a : Int) ^^^ BitVec.ofInt 64 1).toNat : Nat) : Int) = _
  have e : (BitVec.ofInt 64 (a : Int) ^^^ BitVec.ofInt 64 1).toNat = a ^^^ 1 := by
    rw [BitVec.toNat_xor, BitVec.ofInt_natCast, BitVec.toNat_ofNat, Nat.mod_eq_of_lt (by omega)]
    rfl
  rw [e]
  have := xor1 a
  exact IntWalk.i64_in _ (by omega)
theorem levels_lt {size k : Nat} (h : 2 ^ k < size) : k < levels size := by
  unfold levels
  have hp := Nat.two_pow_pos k
  rw [if_neg (by omega)]
  have : k ≤ Nat.log2 (size - 1) := (Nat.le_log2 (by omega)).2 (by omega)
  omega
theorem levels_ge {size k : Nat} (h : ¬ 2 ^ k < size) : levels size ≤ k := by
  unfold levels
  split
  · omega
  · rename_i h1
    have : Nat.log2 (size - 1) < k := (Nat.log2_lt (by omega)).2 (by omega)
    omega

set_option maxRecDepth 100000 in
set_option maxHeartbeats 1000000 in
theorem beside_no (size i : Int) (h : insideB size i = false) (w : World) :
    Calls Tryd.prog 56 #[.int .i64 size, .int .i64 i] w fun e w' => e = .returned (.tuple #[.int .i64 0, .bool false]) ∧ w = w' := by
  have hc : size < 1 ∨ (1 ≤ size ∧ 1099511627776 < size) ∨ (1 ≤ size ∧ size ≤ 1099511627776 ∧ i < 0) ∨ (1 ≤ size ∧ size ≤ 1099511627776 ∧ 0 ≤ i ∧ size ≤ i) := by
    simp only [insideB, Bool.and_eq_false_iff, decide_eq_false_iff_not] at h
    omega
  clear h
  rcases hc with h1 | ⟨h1, h2⟩ | ⟨h1, h2, h3⟩ | ⟨h1, h2, h3, h4⟩
  · have y1 : decide (size < 1) = true := decide_eq_true h1
    clear h1
    go_enter Tryd.func56, Tryd.ntmps56
    go_wp2_with fail
    go_ret2
    exact ⟨rfl, rfl⟩
  · have y1 : decide (size < 1) = false := decide_eq_false (by omega)
    have y2 : decide (1099511627776 < size) = true := decide_eq_true h2
    clear h1 h2
    go_enter Tryd.func56, Tryd.ntmps56
    go_wp2_with fail
    go_ret2
    exact ⟨rfl, rfl⟩
  · have y1 : decide (size < 1) = false := decide_eq_false (by omega)
    have y2 : decide (1099511627776 < size) = false := decide_eq_false (by omega)
    have y3 : decide (i < 0) = true := decide_eq_true h3
    clear h1 h2 h3
    go_enter Tryd.func56, Tryd.ntmps56
    go_wp2_with fail
    go_ret2
    exact ⟨rfl, rfl⟩
  · have y1 : decide (size < 1) = false := decide_eq_false (by omega)
    have y2 : decide (1099511627776 < size) = false := decide_eq_false (by omega)
    have y3 : decide (i < 0) = false := decide_eq_false (by omega)
    have y4 : decide (size ≤ i) = true := decide_eq_true h4
    clear h1 h2 h3 h4
    go_enter Tryd.func56, Tryd.ntmps56
    go_wp2_with fail
    go_ret2
    exact ⟨rfl, rfl⟩

set_option maxRecDepth 100000 in
set_option maxHeartbeats 1000000 in
theorem beside_yes (size i : Nat) (hs : size ≤ 1099511627776) (hi : i < size) (w : World) :
    Calls Tryd.prog 56 #[.int .i64 size, .int .i64 i] w fun e w' => e = .returned (.tuple #[.int .i64 (besideOf size i), .bool true]) ∧ w = w' := by
  have y1 : decide ((size : Int) < 1) = false := decide_eq_false (by omega)
  have y2 : decide (1099511627776 < (size : Int)) = false := decide_eq_false (by omega)
  have y3 : decide ((i : Int) < 0) = false := decide_eq_false (by omega)
  have y4 : decide ((size : Int) ≤ (i : Int)) = false := decide_eq_false (by omega)
  go_enter Tryd.func56, Tryd.ntmps56
  go_wp2_with fail
  clear y1 y2 y3 y4
  go_loop [6, 7] (fun n v => ∃ k : Nat, v = .int .i64 (k : Int) ∧ n = .int .i64 (cnt size i k : Nat) ∧ Hid (k ≤ levels size)) (fun _ v => 41 - (intOf v).toNat)
  case atStart => exact ⟨0, rfl, rfl, Nat.zero_le _⟩
  case round =>
    obtain ⟨k, rfl, rfl, hkl⟩ := hrel
    have hc := cnt_le size i k
    have hk0 : (0 : Int) ≤ (k : Int) := by omega
    have hk41 : (k : Int) < 64 := by
      rcases Nat.lt_or_ge k 41 with h | h
      · omega
      · have h1 := hkl.out
        have h2 : levels size ≤ 40 := levels_ge (by have h40 : (2 : Nat) ^ 40 = 1099511627776 := by decide
                                                    omega)
        omega
    obtain ⟨p, hp⟩ : ∃ p, Hid (2 ^ k = p) := ⟨_, Lib.hid rfl⟩
    have hk40' : k ≤ 40 := by
      have h1 := hkl.out
      have h2 : levels size ≤ 40 := levels_ge (by have h40 : (2 : Nat) ^ 40 = 1099511627776 := by decide
                                                  omega)
      omega
    have hp40 : Hid (p ≤ 1099511627776) := by
      show p ≤ _
      rw [← hp.out]
      have h40 : (2 : Nat) ^ 40 = 1099511627776 := by decide
      rw [← h40]
      exact Nat.pow_le_pow_right (by omega) hk40'
    have z1 : wrap64 ((2 : Int) ^ k) = (p : Int) := by
      have h1 : ((2 : Int) ^ k) = (p : Int) := by rw [← hp.out]; simp
      rw [h1]
      have := hp40.out
      exact IntWalk.wrap64_in _ (by omega)
    have z2 : bits .xor .i64 ((i : Int) / 2 ^ k) 1 = ((i / 2 ^ k ^^^ 1 : Nat) : Int) := by
      have h1 : (i : Int) / 2 ^ k = ((i / 2 ^ k : Nat) : Int) := by simp
      rw [h1]
      have := Nat.div_le_self i (2 ^ k)
      exact xor_i64 _ (by omega)
    obtain ⟨x, hx⟩ : ∃ x, Hid (i / 2 ^ k ^^^ 1 = x) := ⟨_, Lib.hid rfl⟩
    rw [hx.out] at z2
    obtain ⟨q, hq⟩ : ∃ q, Hid (nbAt i k = q) := ⟨_, Lib.hid rfl⟩
    have z3 : wrap64 ((x : Int) * 2 ^ k) = (q : Int) := by
      have h1 : ((x : Int) * 2 ^ k) = (q : Int) := by rw [← hq.out, ← hx.out]; unfold nbAt; simp
      rw [h1]
      have := nbAt_le i k
      have h2 := hq.out
      have h3 := hp.out
      have h4 := hp40.out
      exact IntWalk.wrap64_in _ (by omega)
    by_cases hlt : p < size
    · have hs2 : Hid (k + 1 ≤ levels size) := levels_lt (by rw [hp.out]; exact hlt)
      by_cases hq2 : q < size
      · have hz1 : (p : Int) < (size : Int) := by omega
        have hz2 : (q : Int) < (size : Int) := by omega
        have hst : Hid (cnt size i (k + 1) = cnt size i k + 1) := by show _ = _; simp only [cnt]; rw [hq.out, if_pos hq2]
        clear hlt hq2
        go_wp2_with fail
        go_round
        case rel => exact ⟨k + 1, by go_num, by rw [hst.out]; go_num, hs2.out⟩
        case measure => simp [intOf]; omega
      · have hz1 : (p : Int) < (size : Int) := by omega
        have hz2 : decide (q < size) = false := decide_eq_false (by omega)
        have hst : Hid (cnt size i (k + 1) = cnt size i k) := by show _ = _; simp only [cnt]; rw [hq.out, if_neg hq2]; rfl
        clear hlt hq2
        go_wp2_with fail
        go_round
        case rel => exact ⟨k + 1, by go_num, by rw [hst.out], hs2.out⟩
        case measure => simp [intOf]; omega
    · have hz1 : decide (p < size) = false := decide_eq_false (by omega)
      have hst : Hid (besideOf size i = cnt size i k) := by
        have h1 := levels_ge (size := size) (k := k) (by rw [hp.out]; exact hlt)
        have h2 := hkl.out
        obtain rfl : k = levels size := by omega
        rfl
      clear hlt
      go_wp2_with fail
      go_ret2
      refine ⟨?_, rfl⟩
      show Ending.returned (.tuple #[.int .i64 ((cnt size i k : Nat) : Int), .bool true]) = _
      rw [hst.out]
end Go.Proofs.YtgldkfaiofkhbaaDoor.ProofBeside

namespace Go.Proofs.YtgldkfaiofkhbaaDoor.Beside17
open Go Go.RowKit Go.Proofs.YtgldkfaiofkhbaaDoor Go.Proofs.YtgldkfaiofkhbaaDoor.Mem Go.Proofs.YtgldkfaiofkhbaaDoor.Sha Go.Proofs.YtgldkfaiofkhbaaDoor.Bytes Go.Proofs.YtgldkfaiofkhbaaDoor.TreeMath Go.Proofs.YtgldkfaiofkhbaaDoor.Sides Go.Proofs.YtgldkfaiofkhbaaDoor.RefSides Go.Proofs.YtgldkfaiofkhbaaDoor.ProofBeside

theorem xor1_eq (a : Nat) : a ^^^ 1 = if a % 2 = 1 then a - 1 else a + 1 := by
  have h1 : (a ^^^ 1) / 2 = a / 2 := by
    have h := Nat.shiftRight_xor_distrib (a := a) (b := 1) (i := 1)
    simpa [Nat.shiftRight_succ] using h
  have h2 : ((a ^^^ 1) % 2 = 1) ↔ ¬ ((a % 2 = 1) ↔ (1 % 2 = 1)) := Nat.xor_mod_two_eq_one
  split <;> omega
theorem nb_lvl {n i l : Nat} (hi : i < n) : (lvl n i l).length = if nbAt i l < n then 1 else 0 := by
  unfold lvl nbAt
  rw [xor1_eq]
  by_cases h1 : i / 2 ^ l % 2 = 1
  · rw [if_pos h1, if_pos h1, if_pos]
    · rfl
    · have h2 := Nat.div_mul_le_self i (2 ^ l)
      have h3 := Nat.mul_le_mul_right (2 ^ l) (Nat.sub_le (i / 2 ^ l) 1)
      omega
  · rw [if_neg h1, if_neg h1]
    split <;> rfl
theorem cnt_lv {n i : Nat} (hi : i < n) : ∀ k, cnt n i k = (lv n i k).length
  | 0 => rfl
  | k + 1 => by rw [lv_succ, List.length_append, nb_lvl hi, ← cnt_lv hi k]; rfl
theorem levels_pow (size : Nat) : size ≤ 2 ^ levels size := by
  rcases Nat.lt_or_ge (2 ^ levels size) size with h | h
  · have := levels_lt h; omega
  · exact h
theorem beside_sides {n i : Nat} (hi : i < n) : besideOf n i = (sides n i).length := by
  unfold besideOf
  rw [cnt_lv hi, sides_eq hi (levels_pow n)]
end Go.Proofs.YtgldkfaiofkhbaaDoor.Beside17

namespace Go.Proofs.YtgldkfaiofkhbaaDoor.ProofEnc
open Go Go.RowKit Go.Proofs.YtgldkfaiofkhbaaDoor Go.Proofs.YtgldkfaiofkhbaaDoor.Mem Go.Proofs.YtgldkfaiofkhbaaDoor.Sha Go.Proofs.YtgldkfaiofkhbaaDoor.Bytes Go.Proofs.YtgldkfaiofkhbaaDoor.Append Go.Proofs.YtgldkfaiofkhbaaDoor.Octet Go.Proofs.YtgldkfaiofkhbaaDoor.Octet2 Go.Proofs.YtgldkfaiofkhbaaDoor.HeadMem Go.Proofs.YtgldkfaiofkhbaaDoor.ProofBeside

section
variable {w0 w : World} {g : Nat} {r : Option Nat} {l : Text}
set_option maxRecDepth 100000 in
set_option maxHeartbeats 1000000 in
theorem number_from (N : Nat) (hN : N < 9223372036854775808) (ds : List Text) (n : Nat) (hn : ds.length = n) (hd : ∀ d ∈ ds, d.length = 32) (A : Option Addr) (c : Nat) (hl : l.length + 8 + 32 * n ≤ 140737488355328) (hr : Reads w0 32 A n (ds.flatMap cells8)) (hA : 0 < n → ∀ a, A = some a → a.block ≠ g ∧ some a.block ≠ r)
    (hW : Wrote w0 g r l w) :
    Calls Tryd.prog 59 #[.pointer (some ⟨g, 0, none⟩), .int .i64 (N : Int), .slice A n c] w fun e w' => e = .returned (.tuple #[]) ∧ Wrote w0 g r (l ++ be8 N ++ ds.flatten) w' := by
  have y1 : IntKind.u64.wrap (N : Int) = (N : Int) := u64_in _ (by omega) (by omega)
  have hN' := Lib.hid hN
  replace hW := Lib.hid hW
  replace hn := Lib.hid hn
  replace hd := Lib.hid hd
  replace hr := Lib.hid hr
  replace hA := Lib.hid hA
  replace hl := Lib.hid hl
  clear hN
  go_enter Tryd.func59, Tryd.ntmps59
  go_wp2_with (first
    | (go_at_call 107; refine (put8_from (N : Int) N rfl (by have := hN'.out; omega) (by have := hl.out; omega) hW.out).mono ?_; rintro e w1 ⟨rfl, hW1⟩; replace hW1 := Lib.hid hW1)
    | (go_at_call 75; refine (digests_old ds n hn.out hd.out A c (by have := hl.out; simp [be8_len]; omega) hr.out hA.out hW1.out).mono ?_; rintro e w2 ⟨rfl, hW2⟩; replace hW2 := Lib.hid hW2))
  go_end0
  exact ⟨rfl, hW2.out⟩
end

theorem flat32_len : ∀ (ds : List Text), (∀ d ∈ ds, d.length = 32) → ds.flatten.length = 32 * ds.length
  | [], _ => rfl
  | d :: ds, h => by
    have h1 := flat32_len ds (fun x hx => h x (List.mem_cons_of_mem _ hx))
    have h2 := h d (List.mem_cons_self ..)
    simp only [List.flatten_cons, List.length_append, List.length_cons]
    omega
theorem levels_le {size : Nat} (hs : size ≤ 1099511627776) : levels size ≤ 40 := by
  have h40 : (2 : Nat) ^ 40 = 1099511627776 := by decide
  exact levels_ge (by omega)
theorem besideOf_le {size i : Nat} (hs : size ≤ 1099511627776) : besideOf size i ≤ 40 := Nat.le_trans (cnt_le _ _ _) (levels_le hs)

end Go.Proofs.YtgldkfaiofkhbaaDoor.ProofEnc

namespace Go.Proofs.YtgldkfaiofkhbaaDoor.Octet4
open Go Go.RowKit Go.Proofs.YtgldkfaiofkhbaaDoor Go.Proofs.YtgldkfaiofkhbaaDoor.Mem Go.Proofs.YtgldkfaiofkhbaaDoor.Sha Go.Proofs.YtgldkfaiofkhbaaDoor.Bytes Go.Proofs.YtgldkfaiofkhbaaDoor.Octet

/-- A number's four bytes, the highest first. -/
def be4 (N : Nat) : Text := (List.range 4).map fun i => byteAt N (24 - 8 * i)
theorem be4_len (N : Nat) : (be4 N).length = 4 := by simp [be4]
theorem be4_at (N j : Nat) (hj : j < 4) : (be4 N)[j]? = some (byteAt N (24 - 8 * j)) := by
  unfold be4
  rw [List.getElem?_map, List.getElem?_range hj]
  rfl

set_option maxRecDepth 100000 in
theorem width4 (w : World) : Calls Tryd.prog 127 #[] w fun e w' => e = .returned (.int .i64 4) ∧ w = w' := by
  have hx : bits .xor .u32 IntKind.u32.max 0 = mW 4 0 := by decide +kernel
  go_enter Tryd.func127, Tryd.ntmps127
  go_wp2_with fail
  clear hx
  go_loop [1, 2] (fun n m => ∃ k : Nat, k ≤ 4 ∧ n = .int .i64 (k : Int) ∧ m = .int .u32 (mW 4 (8 * k))) (fun n _ => 4 - (intOf n).toNat)
  case atStart => exact ⟨0, by omega, rfl, rfl⟩
  case round =>
    obtain ⟨k, hk, rfl, rfl⟩ := hrel
    by_cases hlt : k < 4
    · have c1 : (mW 4 (8 * k) != 0) = true := by have := mW_pos 4 (8 * k) (by omega); simp; omega
      have cN := mW_nonneg 4 (8 * k)
      go_wp2_with fail
      go_loop [2, 9] (fun m i => ∃ j : Nat, j ≤ 8 ∧ i = .int .i64 (j : Int) ∧ m = .int .u32 (mW 4 (8 * k + j))) (fun _ i => 8 - (intOf i).toNat)
      case atStart => exact ⟨0, by omega, rfl, rfl⟩
      case round =>
        obtain ⟨j, hj, rfl, rfl⟩ := hrel
        clear c1 cN
        by_cases hl : j < 8
        · have y0 : mW 4 (8 * k + j) / 2 = mW 4 (8 * k + (j + 1)) := mW_half 4 (8 * k + j)
          have y1 := mW_nonneg 4 (8 * k + j)
          go_wp2_with fail
          go_round
          case rel => exact ⟨j + 1, by omega, by go_num, rfl⟩
          case measure => simp [intOf]; omega
        · obtain rfl : j = 8 := by omega
          go_wp2_with fail
          go_round
          case rel => exact ⟨k + 1, by omega, by go_num, by rw [Nat.mul_add]⟩
          case measure => simp [intOf]; omega
    · obtain rfl : k = 4 := by omega
      have c1 : (mW 4 (8 * 4) != 0) = false := by decide +kernel
      go_wp2_with fail
      go_ret
      exact ⟨rfl, rfl⟩

set_option maxRecDepth 100000 in
set_option maxHeartbeats 1000000 in
theorem put4 (g : Nat) (r : Option Nat) (l : Text) (N : Nat) (hN : Hid (N < 4294967296)) (w : World) (hl : l.length + 4 ≤ 140737488355328) (hw : WrAt w g r l) :
    Calls Tryd.prog 85 #[.pointer (some ⟨g, 0, none⟩), .int .u32 (N : Int)] w fun e w' => e = .returned (.tuple #[]) ∧ Wrote w g r (l ++ (be4 N)) w' := by
  obtain ⟨i0, hi, hz0, hz1, hz2⟩ := info_parts8 info8
  have H0 : Hid (Wrote w g r (l ++ (be4 N).take 0) w) := (show Wrote w g r (l ++ (be4 N).take 0) w by simpa using hw.refl)
  replace hl := Lib.hid hl
  clear hw
  have y2 : IntKind.u64.wrap (N : Int) = (N : Int) := u64_in _ (by omega) (by have := hN.out; omega)
  go_enter Tryd.func85, Tryd.ntmps85
  go_wp2_with (go_at_call 127; refine (width4 _).mono ?_; rintro e w' ⟨rfl, rfl⟩)
  go_loopw [4] (fun v wr => ∃ j : Nat, v = .int .i64 (3 - (j : Int)) ∧ Hid (j ≤ 4) ∧ Hid (Wrote w g r (l ++ (be4 N).take j) wr)) (fun v _ => (1 + intOf v).toNat)
  case atStart => exact ⟨0, rfl, (show 0 ≤ 4 by omega), H0.out⟩
  case round =>
    clear H0
    obtain ⟨j, rfl, hj, hW⟩ := hrel
    by_cases hlt : j < 4
    · have hz : (0 : Int) ≤ 3 - (j : Int) := by omega
      have hzj : (0 : Int) ≤ (j : Int) := by omega
      obtain ⟨r1, h1, k1, c1⟩ := hW.out
      obtain ⟨v, hb, ho, hvr, hr1⟩ := h1
      have hne : some g ≠ v.ownBlock := fun e => by
        have := (hr1 g (by rw [← hvr]; exact e.symm)).1
        omega
      have hv := hb.cell 0
      have hvf := hb.frozen 0
      simp only [Array.getElem?_singleton, if_pos] at hv
      have y1 : IntKind.i64.wrap (8 * (3 - (j : Int))) = 8 * (3 - (j : Int)) := IntWalk.i64_in _ (by omega)
      have y4 : (8 * (3 - (j : Int))).toNat = 24 - 8 * j := by omega
      obtain ⟨c, hcd⟩ : ∃ c, Hid (c = byteAt N (24 - 8 * j)) := ⟨_, rfl⟩
      have y3 : IntKind.u8.wrap ((N : Int) / 2 ^ (24 - 8 * j)) = b8 c := by
        rw [hcd.out, ← b8_at]
        simp [IntKind.wrap, IntKind.bits, IntKind.signed]
      have y5 : (8 * (3 - (j : Int))) < 64 := by omega
      have y6 : 0 ≤ (8 * (3 - (j : Int))) := by omega
      have hva : (wr.alloc (.cells #[.int .u8 (b8 c)] 5)).cell? ⟨g, 0, none⟩ = some v := (World.cell?_alloc_lt wr _ ⟨g, 0, none⟩ hb.lt).trans hv
      have hc : Hid ((be4 N)[j]? = some c) := by rw [hcd.out]; exact be4_at N j hlt
      have hlen : Hid ((l ++ (be4 N).take j).length + 1 ≤ 140737488355328) := by
        show _ ≤ _
        have := hl.out
        rw [List.length_append]
        have := List.length_take_le j (be4 N)
        omega
      have hts := Lib.hid (take_step l (be4 N) j c hc.out)
      have hO := Lib.hid ho
      have hV : ∀ u, Blk wr g 171 #[u] → u = v := fun u hu => by
        have h1 : some (Obj.cells #[u] 171 (0, 0)) = some (Obj.cells #[v] 171 (0, 0)) := (show wr.heap[g]? = _ from hu).symm.trans hb
        simpa using h1
      replace hV := Lib.hid hV
      replace hne := Lib.hid hne
      replace hb := Lib.hid hb
      clear hr1 ho hvr c1 k1
      generalize l ++ (be4 N).take j = L at *
      go_wp2_with fail
      go_region_law (refine step_append_lies (P := Tryd.prog) (wr.drew.alloc (.cells #[.int .u8 (b8 c)] 5)) (o := ⟨some 25, _, _, _, _, _⟩) rfl (.tmp 17) (.tmp 24) 31 rfl 0 5 i0 (.int .u8 0) 1 1 Tryd.underlying31 hi hz0 hz1 hz2 rfl (by decide) v L.length (cells8 L) ?hs (World.ownsRow.alloc (w := wr.drew) hO.out _) ⟨wr.heap.size, 0, none⟩ 1 1 [.int .u8 (b8 c)] ?hx rfl (new_cells _ _ _ _ rfl) (Mem.one_one rfl) (by decide) ?c1 ?c2 (Nat.zero_le _) _ rfl ?_; (case hs => go_simp); (case hx => go_simp); (case c1 => have := hlen.out; unfold maxLen; omega); (case c2 => have := hlen.out; omega); intro G cap W hown hgrow hat hlt2; have hK0 : Kept (fun _ => False) wr (wr.drew.alloc (.cells #[.int .u8 (b8 c)] 5)) := ((Kept.refl _ wr).drew).alloc _; have hX : Hid (Wrote w g r (L ++ [c]) (W.setCell ⟨g, 0, none⟩ (.slice (some ⟨G, 0, none⟩) (L.length + 1) cap))) := hW.out.step (fun r1 h1 => Wrote.put (q := [c]) h1 hV.out rfl rfl hK0 hown hgrow hat hlt2); obtain ⟨hf1, hf2⟩ := far_cell hb.out hne.out hK0 hgrow; clear hown hgrow hat hlt2 hK0)
      all_goals
        go_wp2_with fail
        go_roundw
        case rel => exact ⟨j + 1, by go_num, (show j + 1 ≤ 4 by omega), (show Wrote _ _ _ _ _ by rw [hts.out]; exact hX.out)⟩
        case measure => simp [intOf]; omega
    · obtain rfl : j = 4 := by have := hj.out; omega
      have hT : (be4 N).take 4 = (be4 N) := List.take_of_length_le (by rw [be4_len]; omega)
      have hT := Lib.hid hT
      go_wp2_with fail
      go_end0
      exact ⟨rfl, by have := hW.out; rw [hT.out] at this; exact this⟩
end Go.Proofs.YtgldkfaiofkhbaaDoor.Octet4

namespace Go.Proofs.YtgldkfaiofkhbaaDoor.NumberNew
open Go Go.RowKit Go.Proofs.YtgldkfaiofkhbaaDoor Go.Proofs.YtgldkfaiofkhbaaDoor.Mem Go.Proofs.YtgldkfaiofkhbaaDoor.Sha Go.Proofs.YtgldkfaiofkhbaaDoor.Bytes Go.Proofs.YtgldkfaiofkhbaaDoor.Octet Go.Proofs.YtgldkfaiofkhbaaDoor.Octet2 Go.Proofs.YtgldkfaiofkhbaaDoor.HeadMem Go.Proofs.YtgldkfaiofkhbaaDoor.ProofEnc

section
variable {w0 wi : World} {g : Nat} {r : Option Nat} {l : Text}
theorem number_new (N : Nat) (hN : N < 9223372036854775808) (ds : List Text) (n : Nat) (hn : ds.length = n) (hd : ∀ d ∈ ds, d.length = 32) (hl : l.length + 8 + 32 * n ≤ 140737488355328) (hW : Wrote w0 g r l wi) :
    Calls Tryd.prog 59 #[.pointer (some ⟨g, 0, none⟩), .int .i64 (N : Int), .slice (some ⟨wi.heap.size, 0, none⟩) n n] (wi.alloc (.cells ((ds.map cells8).flatten).toArray 23)) fun e w' => e = .returned (.tuple #[]) ∧ Wrote w0 g r (l ++ be8 N ++ ds.flatten) w' := by
  obtain ⟨r1, h1, k1, c1⟩ := hW
  have hr : Reads (wi.alloc (.cells ((ds.map cells8).flatten).toArray 23)) 32 (some ⟨wi.heap.size, 0, none⟩) n (ds.flatMap cells8) :=
    (Blk.new wi 23 ((ds.map cells8).flatten).toArray).reads 0 _ (by rw [(digs_len ds hd).2, hn]; omega) (fun j u hu => by rw [Nat.zero_add, List.getElem?_toArray, ← List.flatMap_def]; exact hu)
  refine (number_from N hN ds n hn hd _ n hl hr (fun _ a e => ?_) (h1.alloc _).refl).mono fun e w' ⟨he, hx⟩ => ⟨he, Wrote.trans1 (k1.alloc _) c1 hx⟩
  injection e with e
  subst e
  refine ⟨fun e => ?_, fun e => ?_⟩
  · have := h1.lt; simp at e; omega
  · obtain ⟨v, hb, _, _, hr1⟩ := h1
    have := (hr1 wi.heap.size (by rw [← e])).2
    omega
end
end Go.Proofs.YtgldkfaiofkhbaaDoor.NumberNew

namespace Go.Proofs.YtgldkfaiofkhbaaDoor.HeadMem
open Go Go.RowKit Go.Proofs.YtgldkfaiofkhbaaDoor Go.Proofs.YtgldkfaiofkhbaaDoor.Mem Go.Proofs.YtgldkfaiofkhbaaDoor.Sha Go.Proofs.YtgldkfaiofkhbaaDoor.Bytes Go.Proofs.YtgldkfaiofkhbaaDoor.Append Go.Proofs.YtgldkfaiofkhbaaDoor.Octet Go.Proofs.YtgldkfaiofkhbaaDoor.Octet2

structure HeadD where
  log : Text
  size : Int
  root : Text
  index : Text
  clock : Int
structure HeadD.Ok (h : HeadD) : Prop where
  log : h.log.length = 32
  root : h.root.length = 32
  index : h.index.length = 32
  size : -9223372036854775808 ≤ h.size ∧ h.size ≤ 9223372036854775807
  clock : -9223372036854775808 ≤ h.clock ∧ h.clock ≤ 9223372036854775807
/-- A head's bytes. -/
def headBytes (h : HeadD) : Text := [32] ++ h.log ++ be8 h.size.toNat ++ (h.root ++ h.index) ++ be8 h.clock.toNat
end Go.Proofs.YtgldkfaiofkhbaaDoor.HeadMem

namespace Go.Proofs.YtgldkfaiofkhbaaDoor.BetwRef
open Go Go.RowKit Go.Proofs.YtgldkfaiofkhbaaDoor Go.Proofs.YtgldkfaiofkhbaaDoor.Mem Go.Proofs.YtgldkfaiofkhbaaDoor.Bytes Go.Proofs.YtgldkfaiofkhbaaDoor.TreeMath Go.Proofs.YtgldkfaiofkhbaaDoor.Subs Go.Proofs.YtgldkfaiofkhbaaDoor.Beside17

end Go.Proofs.YtgldkfaiofkhbaaDoor.BetwRef
