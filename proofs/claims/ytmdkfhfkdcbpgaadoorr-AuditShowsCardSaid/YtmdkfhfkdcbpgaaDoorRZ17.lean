/-
  Texts of the claim, put into one file: Octet2, HeadMem0, ProofBeside, ProofEnc, Beside17.
-/
import Derived.Test.YtmdkfhfkdcbpgaaDoorRZ16
import Derived.Test.YtmdkfhfkdcbpgaaDoorRZ9
import Derived.Outline
import Derived.Test.YtmdkfhfkdcbpgaaDoorRZ0

namespace Go.Proofs.YtmdkfhfkdcbpgaaDoorR.Octet2
open Go Go.RowKit Go.Proofs.YtmdkfhfkdcbpgaaDoorR Go.Proofs.YtmdkfhfkdcbpgaaDoorR.Mem Go.Proofs.YtmdkfhfkdcbpgaaDoorR.Sha Go.Proofs.YtmdkfhfkdcbpgaaDoorR.Bytes Go.Proofs.YtmdkfhfkdcbpgaaDoorR.Append Go.Proofs.YtmdkfhfkdcbpgaaDoorR.Octet

/-- What an append (its source nil or not) and the store of the field leave. -/
theorem Wrote.append {wr W : World} {g : Nat} {r : Option Nat} {l q : Text} {v v1 : Value} (hw : WrAt wr g r l) (hv : ∀ u, Blk wr g 173 #[u] → u = v) (hG : Grew wr 0 5 1 v l.length q.length (cells8 l) (cells8 q) v1 W) :
    Wrote wr g r (l ++ q) (W.setCell ⟨g, 0, none⟩ v1) := by
  obtain ⟨v', hb, ho, hvr, hr1⟩ := hw
  obtain rfl := hv v' hb
  have hk0 : Kept (fun k => k = g ∨ some k = r) wr W := (Kept.refl _ wr).grown hG.grow (fun k hk => .inl (.inr (by rw [← hvr]; exact hk.symm)))
  have hbW : Blk W g 173 #[v'] := (hG.grow.block g hb.lt (fun e => by
    have := (hr1 g (by rw [← hvr]; exact e.symm)).1
    omega)).trans hb
  have hat : ∀ k, v1.ownBlock = some k → g < k ∧ k < W.heap.size := by
    intro k hk
    have hlt : k < W.heap.size := by
      rcases hG.own.2 with ⟨rfl, _⟩ | ⟨g', cap, cur, rfl, _, h2, _⟩
      · cases hk
      · obtain rfl : g' = k := by simpa [Value.ownBlock] using hk
        exact (Array.getElem?_eq_some_iff.1 h2).1
    refine ⟨?_, hlt⟩
    rcases hG.at_ with h | h
    · exact (hr1 k (by rw [← hvr, ← h, hk])).1
    · rw [h] at hk
      injection hk with hk
      have := hb.lt
      omega
  refine ⟨v1.ownBlock, ⟨v1, hbW.set_ 0 _, ?_, rfl, fun k e => ⟨(hat k e).1, by have := (hat k e).2; simpa [World.setCell] using this⟩⟩, hk0.setCell (.inl (.inl rfl)) _, ?_⟩
  · have hown := hG.own
    refine ⟨by simp [cells8_len], ?_⟩
    have hl2 : (l ++ q).length = l.length + q.length := List.length_append
    have hc2 : cells8 (l ++ q) = cells8 l ++ cells8 q := by simp [cells8]
    rw [hl2, hc2]
    rcases hown.2 with h | ⟨g', cap, cur, rfl, h1, h2, h3⟩
    · exact .inl h
    · refine .inr ⟨g', cap, cur, rfl, h1, ?_, h3⟩
      have := (hat g' rfl).1
      exact (Below.heap_setCell W ⟨g, 0, none⟩ _ g' (fun e => by simp at e; omega)).trans h2
  · rcases hG.at_ with h | h
    · exact .inl (by rw [h, hvr])
    · exact .inr ⟨_, h, Nat.le_refl _⟩

theorem rowAll (d : Text) (hd : d.length = 32) : (Tryd.prog.info? 23).map (·.size) = some (cells8 d).length := by rw [cells8_len, hd]; exact size31
theorem z32 : Z32.size = 32 := rfl

set_option maxRecDepth 100000 in
set_option maxHeartbeats 1000000 in
theorem digests_any (g : Nat) (r : Option Nat) (l : Text) (ds : List Text) (n : Nat) (hn : ds.length = n) (hd : ∀ d ∈ ds, d.length = 32) (A : Option Addr) (c : Nat) (w : World) (hl : l.length + 32 * n ≤ 140737488355328)
    (hw : WrAt w g r l) (hr : Reads w 32 A n (ds.flatMap cells8)) (hA : 0 < n → ∀ a, A = some a → a.block ≠ g ∧ some a.block ≠ r) :
    Calls Tryd.prog 70 #[.pointer (some ⟨g, 0, none⟩), .slice A n c] w fun e w' => e = .returned (.tuple #[]) ∧ Wrote w g r (l ++ ds.flatten) w' := by
  obtain ⟨i0, hi, hz0, hz1, hz2⟩ := info_parts8 info8
  have H0 : Hid (Wrote w g r (l ++ (ds.take 0).flatten) w) := (show Wrote w g r (l ++ (ds.take 0).flatten) w by simpa using hw.refl)
  have hN : (n : Int) < 9223372036854775807 := by omega
  replace hN := Lib.hid hN
  replace hl := Lib.hid hl
  replace hn := Lib.hid hn
  replace hd := Lib.hid hd
  replace hr := Lib.hid hr
  replace hA := Lib.hid hA
  clear hw
  go_enter Tryd.func70, Tryd.ntmps70
  go_wp2_with fail
  go_loopw [8] (fun v wr => ∃ i : Nat, v = .int .i64 (i : Int) ∧ Hid (i ≤ n) ∧ Hid (Wrote w g r (l ++ (ds.take i).flatten) wr)) (fun v _ => n - (intOf v).toNat)
  case atStart => exact ⟨0, rfl, (show 0 ≤ n by omega), H0.out⟩
  case round =>
    clear H0
    obtain ⟨i, rfl, hi2, hW⟩ := hrel
    by_cases hlt : i < n
    · have hz : (i : Int) < (n : Int) := by omega
      have hz0' : (0 : Int) ≤ (i : Int) := by omega
      have hil : (i : Int) < 9223372036854775807 := by have := hN.out; omega
      obtain ⟨r1, h1, k1, c1⟩ := hW.out
      obtain ⟨v, hb, ho, hvr, hr1⟩ := h1
      have hne : some g ≠ v.ownBlock := fun e => by
        have := (hr1 g (by rw [← hvr]; exact e.symm)).1
        omega
      obtain ⟨d, hdi⟩ : ∃ d, Hid (ds[i]? = some d) := ⟨_, List.getElem?_eq_getElem (by rw [hn.out]; exact hlt)⟩
      have hdl : Hid (d.length = 32) := hd.out d (List.mem_of_getElem? hdi.out)
      obtain ⟨b, o, rfl, hbl, hcell⟩ := hr.out.2 (by omega)
      have hel : ∀ j u, (cells8 d)[j]? = some u → wr.cell? ⟨b, o + i * 32 + j, none⟩ = some u := fun j u hu => by
        have h2 := hcell _ _ (digs_at ds hd.out i d hdi.out j u hu)
        have h3 := hA.out (by omega) _ rfl
        rw [Nat.add_assoc]
        exact (k1.cell (p := ⟨b, o + (i * 32 + j), none⟩) hbl (fun h => by rcases h with h | h; exact h3.1 h; exact h3.2 h)).trans h2
      replace hel := Lib.hid hel
      clear hcell hbl
      have hva : (wr.alloc (.cells (cells8 d).toArray 23)).cell? ⟨g, 0, none⟩ = some v := (World.cell?_alloc_lt wr _ ⟨g, 0, none⟩ hb.lt).trans (by rw [hb.cell 0]; rfl)
      have hlen : Hid ((l ++ (ds.take i).flatten).length + 32 ≤ 140737488355328) := by
        show _ ≤ _
        have := hl.out
        have h5 := (digs_len (ds.take i) (fun x hx => hd.out x (List.mem_of_mem_take hx))).1
        have h6 := List.length_take_le i ds
        rw [List.length_append, h5]
        have : (ds.take i).length ≤ i := by rw [List.length_take]; omega
        omega
      have hts : Hid (l ++ (ds.take (i + 1)).flatten = (l ++ (ds.take i).flatten) ++ d) := by
        show _ = _
        rw [List.take_add_one, hdi.out]
        simp
      have hO := Lib.hid ho
      have hV : ∀ u, Blk wr g 173 #[u] → u = v := fun u hu => by
        have h1 : some (Obj.cells #[u] 173 (0, 0)) = some (Obj.cells #[v] 173 (0, 0)) := (show wr.heap[g]? = _ from hu).symm.trans hb
        simpa using h1
      have hro := Lib.hid (rowAll d hdl.out)
      have hc8 : Hid ((cells8 d).length = 32) := (cells8_len d).trans hdl.out
      have hs1 : Hid ((Tryd.prog.info? 23).map (·.size) = some (cells8 d).toArray.size) := (show _ = _ by rw [List.size_toArray]; exact hro.out)
      have hs2 : Hid (Z32.size = (cells8 d).toArray.size) := (by have e : (cells8 d).toArray.size = (cells8 d).length := List.size_toArray; show Z32.size = _; rw [e, hc8.out]; rfl)
      replace hV := Lib.hid hV
      replace hne := Lib.hid hne
      replace hb := Lib.hid hb
      clear hr1 ho hvr c1 k1
      generalize l ++ (ds.take i).flatten = L at *
      go_wp2_with (first
        | ((with_reducible change wpList _ _ _ ({ dst := some 11, op := _, type := _, pos := _, after := _, guard := _ } :: _) _ _); refine wpList_load_part (o := ⟨some 11, _, _, _, _, _⟩) rfl 23 (.tmp 10) rfl b (o + i * 32) rfl (cells8 d) _ hel.out Tryd.underlying23 rfl hro.out ?_)
        | ((with_reducible change wpList _ _ _ ({ dst := none, op := Op.store 23 _ _, type := _, pos := _, after := _, guard := _ } :: _) _ _); refine wpList_store_row (o := ⟨none, _, _, _, _, _⟩) rfl 23 (.tmp 5) (.tmp 11) rfl wr.heap.size (cells8 d).toArray rfl rfl 23 Z32 (heap_alloc_new wr _) hs1.out hs2.out (cells8_all1 d) ?_; rw [alloc_setRow]))
      have hm1 : Hid ((cells8 d).length = 32 * 1) := hc8.out
      have hm2 : Hid (∀ (j : Nat) (u : Value), (cells8 d)[j]? = some u → ((wr.alloc (.cells (cells8 d).toArray 23)).drew).cell? ((⟨wr.heap.size, 0, none⟩ : Addr).add j) = some u) := World.news_of_block (w := (wr.alloc (.cells (cells8 d).toArray 23)).drew) (heap_alloc_new wr _)
      go_region_law (refine step_append_lies (P := Tryd.prog) ((wr.alloc (.cells (cells8 d).toArray 23)).drew) (o := ⟨some 18, _, _, _, _, _⟩) rfl (.tmp 16) (.tmp 17) 27 rfl 0 5 i0 (.int .u8 0) 1 1 Tryd.underlying27 hi hz0 hz1 hz2 rfl (by decide) v L.length (cells8 L) ?hs (World.ownsRow.alloc (w := wr) hO.out _) ⟨wr.heap.size, 0, none⟩ 32 32 (cells8 d) ?hx hm1.out hm2.out (cells8_one d) (by decide) ?c1 ?c2 (Nat.zero_le _) _ rfl ?_; (case hs => go_simp); (case hx => go_simp); (case c1 => have := hlen.out; unfold maxLen; omega); (case c2 => have := hlen.out; omega); intro G cap W hown hgrow hat hlt2; have hK0 : Kept (fun _ => False) wr ((wr.alloc (.cells (cells8 d).toArray 23)).drew) := ((Kept.refl _ wr).alloc _).drew; have hX : Hid (Wrote w g r (L ++ d) (W.setCell ⟨g, 0, none⟩ (.slice (some ⟨G, 0, none⟩) (L.length + 32) cap))) := hW.out.step (fun r1 h1 => Wrote.put (q := d) h1 hV.out rfl hdl.out.symm hK0 hown hgrow hat hlt2); obtain ⟨hf1, hf2⟩ := far_cell hb.out hne.out hK0 hgrow; clear hown hgrow hat hlt2 hK0)
      all_goals
        go_wp2_with fail
        go_roundw
        case rel => exact ⟨i + 1, by go_num, (show i + 1 ≤ n by omega), (show Wrote _ _ _ _ _ by rw [hts.out]; exact hX.out)⟩
        case measure => simp [intOf]; omega
    · obtain rfl : i = n := by have := hi2.out; omega
      have hz : (i : Int) ≤ (i : Int) := by omega
      have hT : Hid (ds.take i = ds) := List.take_of_length_le (by have := hn.out; omega)
      go_wp2_with fail
      go_end0
      exact ⟨rfl, by have := hW.out; rw [hT.out] at this; exact this⟩

/-- New: a writer that holds nothing. -/
theorem new_any (w : World) : Calls Tryd.prog 64 #[] w fun e w' => e = .returned (.pointer (some ⟨w.heap.size, 0, none⟩)) ∧ w' = w.alloc (.cells #[.slice none 0 0] 173) := by
  go_enter Tryd.func64, Tryd.ntmps64
  go_wp2_with fail
  go_ret
  exact ⟨rfl, rfl⟩
theorem WrAt.new (w : World) : WrAt (w.alloc (.cells #[.slice none 0 0] 173)) w.heap.size none [] :=
  ⟨_, Blk.new w _ _, World.ownsRow_nil _ _ _ _, rfl, fun _ e => by cases e⟩

theorem put1_lit (n : Int) (c : BitVec 8) (hc : b8 c = n) (g : Nat) (r : Option Nat) (l : Text) (w : World) (hl : l.length + 1 ≤ 140737488355328) (hw : WrAt w g r l) :
    Calls Tryd.prog 65 #[.pointer (some ⟨g, 0, none⟩), .int .u8 n] w fun e w' => e = .returned (.tuple #[]) ∧ Wrote w g r (l ++ [c]) w' := by
  subst hc
  exact put1 g r l c w hl hw
theorem put8_lit (n : Int) (N : Nat) (hn : (N : Int) = n) (hN : N < 18446744073709551616) (g : Nat) (r : Option Nat) (l : Text) (w : World) (hl : l.length + 8 ≤ 140737488355328) (hw : WrAt w g r l) :
    Calls Tryd.prog 115 #[.pointer (some ⟨g, 0, none⟩), .int .u64 n] w fun e w' => e = .returned (.tuple #[]) ∧ Wrote w g r (l ++ be8 N) w' := by
  subst hn
  exact put8 g r l N hN w hl hw


set_option maxRecDepth 100000 in
set_option maxHeartbeats 1000000 in
/-- All: a copy of what was laid. -/
theorem all_any (g : Nat) (r : Option Nat) (l : Text) (w : World) (hl : l.length ≤ 140737488355328) (hw : WrAt w g r l) :
    Calls Tryd.prog 71 #[.pointer (some ⟨g, 0, none⟩)] w fun e w' => ∃ v, e = .returned v ∧ Below w.heap.size w w' ∧ w'.ownsRow w.heap.size 5 1 v l.length (cells8 l) := by
  obtain ⟨i0, hi, hz0, hz1, hz2⟩ := info_parts8 info8
  obtain ⟨v, hb, ho, hvr, hr1⟩ := hw
  obtain ⟨A, c, rfl, hnc, hcm, hnil, hrd, -⟩ := Own.reads ho
  have hv : w.cell? ⟨g, 0, none⟩ = some (.slice A l.length c) := by rw [hb.cell 0]; rfl
  have hc1 : Hid (0 + l.length ≤ maxLen) := by show _ ≤ _; omega
  have hc2 : Hid ((0 + l.length) * 1 ≤ 140737488355328) := by show _ ≤ _; omega
  replace hrd := Lib.hid hrd
  replace hnil := Lib.hid hnil
  clear ho hb hvr hr1 hl hnc hcm
  go_enter Tryd.func71, Tryd.ntmps71
  go_wp2_with (at_builtin; refine wpList_append_src _ rfl (.const (.slice none 0 0)) (.tmp 6) 27 rfl w.heap.size 5 i0 (.int .u8 0) 1 1 Tryd.underlying27 hi hz0 hz1 hz2 rfl (by decide) (.slice none 0 0) 0 [] rfl (World.ownsRow_nil _ _ _ _) A l.length c (cells8 l) rfl hrd.out hnil.out (cells8_one l) hc1.out hc2.out (Nat.le_refl _) ?_; intro v1 w1 hG; replace hG := Lib.hid hG)
  go_ret
  refine ⟨v1, rfl, hG.out.below (Below.refl _ _) (Nat.le_refl _) (fun k e => by cases e), ?_⟩
  have := hG.out.own
  simpa using this

set_option maxRecDepth 100000 in
set_option maxHeartbeats 1000000 in
theorem raw_any (g : Nat) (r : Option Nat) (l : Text) (ps : List Text) (n : Nat) (hn : ps.length = n) (A : Option Addr) (c : Nat) (w : World) (hl : l.length + ps.flatten.length ≤ 140737488355328) (hn47 : n < 140737488355328)
    (hw : WrAt w g r l) (hp : Apart w g r A ps) :
    Calls Tryd.prog 114 #[.pointer (some ⟨g, 0, none⟩), .slice A n c] w fun e w' => e = .returned (.tuple #[]) ∧ Wrote w g r (l ++ ps.flatten) w' := by
  obtain ⟨i0, hi, hz0, hz1, hz2⟩ := info_parts8 info8
  have H0 : Hid (Wrote w g r (l ++ (ps.take 0).flatten) w) := (show Wrote w g r (l ++ (ps.take 0).flatten) w by simpa using hw.refl)
  have hN : (n : Int) < 9223372036854775807 := by omega
  replace hN := Lib.hid hN
  replace hl := Lib.hid hl
  replace hn := Lib.hid hn
  replace hp := Lib.hid hp
  clear hw hn47
  go_enter Tryd.func114, Tryd.ntmps114
  go_wp2_with fail
  go_loopw [8] (fun v wr => ∃ i : Nat, v = .int .i64 (i : Int) ∧ Hid (i ≤ n) ∧ Hid (Wrote w g r (l ++ (ps.take i).flatten) wr)) (fun v _ => n - (intOf v).toNat)
  case atStart => exact ⟨0, rfl, (show 0 ≤ n by omega), H0.out⟩
  case round =>
    clear H0
    obtain ⟨i, rfl, hi2, hW⟩ := hrel
    by_cases hlt : i < n
    · have hz : (i : Int) < (n : Int) := by omega
      have hz0' : (0 : Int) ≤ (i : Int) := by omega
      have hil : (i : Int) < 9223372036854775807 := by have := hN.out; omega
      obtain ⟨r1, h1, k1, c1⟩ := hW.out
      obtain ⟨v, hb, ho, hvr, hr1⟩ := h1
      have hne : some g ≠ v.ownBlock := fun e => by
        have := (hr1 g (by rw [← hvr]; exact e.symm)).1
        omega
      obtain ⟨q, hqi⟩ : ∃ q, Hid (ps[i]? = some q) := ⟨_, List.getElem?_eq_getElem (by rw [hn.out]; exact hlt)⟩
      obtain ⟨b, o, Ai, ci, rfl, hcell, hrd, hnil⟩ := hp.out.at_ hqi.out k1
      have hgc : wr.cell? ⟨g, 0, none⟩ = some v := by rw [hb.cell 0]; rfl
      obtain ⟨m, hm⟩ : ∃ m, Hid (q.length = m) := ⟨_, rfl⟩
      rw [hm.out] at hcell hrd hnil
      replace hrd := Lib.hid hrd
      replace hnil := Lib.hid hnil
      have hlen : Hid ((l ++ (ps.take i).flatten).length + q.length ≤ 140737488355328) := by
        show _ ≤ _
        have := hl.out
        have h5 := (pieces_sum ps i q hqi.out).2
        rw [List.length_append]
        omega
      have hts : Hid (l ++ (ps.take (i + 1)).flatten = (l ++ (ps.take i).flatten) ++ q) := by
        show _ = _
        rw [(pieces_sum ps i q hqi.out).1]
        simp
      have hO := Lib.hid ho
      have hV : ∀ u, Blk wr g 173 #[u] → u = v := fun u hu => by
        have h1 : some (Obj.cells #[u] 173 (0, 0)) = some (Obj.cells #[v] 173 (0, 0)) := (show wr.heap[g]? = _ from hu).symm.trans hb
        simpa using h1
      replace hV := Lib.hid hV
      replace hne := Lib.hid hne
      replace hb := Lib.hid hb
      clear hr1 ho hvr c1 k1
      generalize l ++ (ps.take i).flatten = L at *
      have hc1 : Hid (L.length + m ≤ maxLen) := by show _ ≤ _; have := hlen.out; have := hm.out; unfold maxLen; omega
      have hc2 : Hid ((L.length + m) * 1 ≤ 140737488355328) := by show _ ≤ _; have := hlen.out; have := hm.out; omega
      go_wp2_with (at_builtin; refine wpList_append_src wr rfl (.tmp 16) (.tmp 17) 27 rfl 0 5 i0 (.int .u8 0) 1 1 Tryd.underlying27 hi hz0 hz1 hz2 rfl (by decide) v L.length (cells8 L) rfl hO.out Ai m ci (cells8 q) rfl hrd.out hnil.out (cells8_one q) hc1.out hc2.out (Nat.zero_le _) ?_; intro v1 W hG; obtain ⟨Av, cv, rfl, -⟩ := Own.reads hG.own; have hX := Lib.hid (hW.out.step (fun r1 h1 => Wrote.append (q := q) h1 hV.out (by rw [hm.out]; exact hG))); obtain ⟨hf1, hf2⟩ := far_cell hb.out hne.out (Kept.refl _ wr) hG.grow; clear hG)
      go_roundw
      case rel => exact ⟨i + 1, by go_num, (show i + 1 ≤ n by omega), (show Wrote _ _ _ _ _ by rw [hts.out]; exact hX.out)⟩
      case measure => simp [intOf]; omega
    · obtain rfl : i = n := by have := hi2.out; omega
      have hz : (i : Int) ≤ (i : Int) := by omega
      have hT : Hid (ps.take i = ps) := List.take_of_length_le (by have := hn.out; omega)
      go_wp2_with fail
      go_end0
      exact ⟨rfl, by have := hW.out; rw [hT.out] at this; exact this⟩

/-! ### The same, said of what was written since a world w0 -/
section
variable {w0 w w' wi : World} {g : Nat} {r r1 : Option Nat} {l l2 : Text}
theorem put1_from (n : Int) (c : BitVec 8) (hc : b8 c = n) (hl : l.length + 1 ≤ 140737488355328) (hW : Wrote w0 g r l w) :
    Calls Tryd.prog 65 #[.pointer (some ⟨g, 0, none⟩), .int .u8 n] w fun e w' => e = .returned (.tuple #[]) ∧ Wrote w0 g r (l ++ [c]) w' := by
  obtain ⟨r1, h1, k1, c1⟩ := hW
  exact (put1_lit n c hc g r1 l w hl h1).mono fun e w' ⟨he, hx⟩ => ⟨he, Wrote.trans1 k1 c1 hx⟩
theorem put8_from (n : Int) (N : Nat) (hn : (N : Int) = n) (hN : N < 18446744073709551616) (hl : l.length + 8 ≤ 140737488355328) (hW : Wrote w0 g r l w) :
    Calls Tryd.prog 115 #[.pointer (some ⟨g, 0, none⟩), .int .u64 n] w fun e w' => e = .returned (.tuple #[]) ∧ Wrote w0 g r (l ++ be8 N) w' := by
  obtain ⟨r1, h1, k1, c1⟩ := hW
  exact (put8_lit n N hn hN g r1 l w hl h1).mono fun e w' ⟨he, hx⟩ => ⟨he, Wrote.trans1 k1 c1 hx⟩
/-- Digests that were laid just now into a block of their own. -/
theorem digests_new (ds : List Text) (n : Nat) (hn : ds.length = n) (hd : ∀ d ∈ ds, d.length = 32) (hl : l.length + 32 * n ≤ 140737488355328) (hW : Wrote w0 g r l wi) :
    Calls Tryd.prog 70 #[.pointer (some ⟨g, 0, none⟩), .slice (some ⟨wi.heap.size, 0, none⟩) n n] (wi.alloc (.cells ((ds.map cells8).flatten).toArray 23)) fun e w' => e = .returned (.tuple #[]) ∧ Wrote w0 g r (l ++ ds.flatten) w' := by
  obtain ⟨r1, h1, k1, c1⟩ := hW
  have hr : Reads (wi.alloc (.cells ((ds.map cells8).flatten).toArray 23)) 32 (some ⟨wi.heap.size, 0, none⟩) n (ds.flatMap cells8) :=
    (Blk.new wi 23 ((ds.map cells8).flatten).toArray).reads 0 _ (by rw [(digs_len ds hd).2, hn]; omega) (fun j u hu => by rw [Nat.zero_add, List.getElem?_toArray, ← List.flatMap_def]; exact hu)
  refine (digests_any g r1 l ds n hn hd _ n _ hl (h1.alloc _) hr (fun _ a e => ?_)).mono fun e w' ⟨he, hx⟩ => ⟨he, Wrote.trans1 (k1.alloc _) c1 hx⟩
  injection e with e
  subst e
  refine ⟨fun e => ?_, fun e => ?_⟩
  · have := h1.lt; simp at e; omega
  · obtain ⟨v, hb, _, _, hr1⟩ := h1
    have := (hr1 wi.heap.size (by rw [← e])).2
    omega
/-- Digests that were there ahead of the writing. -/
theorem digests_old (ds : List Text) (n : Nat) (hn : ds.length = n) (hd : ∀ d ∈ ds, d.length = 32) (A : Option Addr) (c : Nat) (hl : l.length + 32 * n ≤ 140737488355328) (hr : Reads w0 32 A n (ds.flatMap cells8)) (hA : 0 < n → ∀ a, A = some a → a.block ≠ g ∧ some a.block ≠ r)
    (hW : Wrote w0 g r l w) :
    Calls Tryd.prog 70 #[.pointer (some ⟨g, 0, none⟩), .slice A n c] w fun e w' => e = .returned (.tuple #[]) ∧ Wrote w0 g r (l ++ ds.flatten) w' := by
  obtain ⟨r1, h1, k1, c1⟩ := hW
  have hr1 : Reads w 32 A n (ds.flatMap cells8) := hr.kept0 k1 (fun hp b o e h => by
    have := hA (by omega) _ e
    rcases h with h | h
    · exact this.1 h
    · exact this.2 h)
  refine (digests_any g r1 l ds n hn hd A c w hl h1 hr1 (fun h0 a e => ?_)).mono fun e w' ⟨he, hx⟩ => ⟨he, Wrote.trans1 k1 c1 hx⟩
  have h2 := hA h0 a e
  refine ⟨h2.1, fun e2 => ?_⟩
  rcases c1 with rfl | ⟨k, rfl, hk⟩
  · exact h2.2 e2
  · injection e2 with e2
    obtain ⟨b, o, e3, hb, _⟩ := hr.2 (by omega)
    rw [e] at e3
    injection e3 with e3
    subst e3
    simp at e2
    omega
end
end Go.Proofs.YtmdkfhfkdcbpgaaDoorR.Octet2

namespace Go.Proofs.YtmdkfhfkdcbpgaaDoorR.HeadMem
open Go Go.RowKit Go.Proofs.YtmdkfhfkdcbpgaaDoorR Go.Proofs.YtmdkfhfkdcbpgaaDoorR.Mem Go.Proofs.YtmdkfhfkdcbpgaaDoorR.Sha Go.Proofs.YtmdkfhfkdcbpgaaDoorR.Bytes Go.Proofs.YtmdkfhfkdcbpgaaDoorR.Append Go.Proofs.YtmdkfhfkdcbpgaaDoorR.Octet Go.Proofs.YtmdkfhfkdcbpgaaDoorR.Octet2

theorem agg_hi {T : TypeId} {cs : List Value} {n : Nat} (h : (Tryd.prog.info? T).map (·.size) = some n) (hl : cs.length = n) : (Tryd.prog.info? T).map (·.size) = some cs.length := by rw [hl]; exact h
theorem size32 : (Tryd.prog.info? 23).map (·.size) = some 32 := by kernel_rfl
theorem zero32 : ((Tryd.prog.info? 23).bind (·.zero)).isSome = true := by kernel_rfl
end Go.Proofs.YtmdkfhfkdcbpgaaDoorR.HeadMem

namespace Go.Proofs.YtmdkfhfkdcbpgaaDoorR.ProofBeside
open Go Go.RowKit Go.Proofs.YtmdkfhfkdcbpgaaDoorR Go.Proofs.YtmdkfhfkdcbpgaaDoorR.Mem Go.Proofs.YtmdkfhfkdcbpgaaDoorR.Sha Go.Proofs.YtmdkfhfkdcbpgaaDoorR.Bytes Go.Proofs.YtmdkfhfkdcbpgaaDoorR.Append Go.Proofs.YtmdkfhfkdcbpgaaDoorR.Octet Go.Proofs.YtmdkfhfkdcbpgaaDoorR.Octet2 Go.Proofs.YtmdkfhfkdcbpgaaDoorR.HeadMem

/-- The neighbour's first leaf at level l. -/
def nbAt (i l : Nat) : Nat := (i / 2 ^ l ^^^ 1) * 2 ^ l
/-- How many levels below k have a neighbour. -/
def cnt (size i : Nat) : Nat → Nat
  | 0 => 0
  | k + 1 => cnt size i k + if nbAt i k < size then 1 else 0
/-- How many levels a tree of that size has. -/
def levels (size : Nat) : Nat := if size ≤ 1 then 0 else Nat.log2 (size - 1) + 1
end Go.Proofs.YtmdkfhfkdcbpgaaDoorR.ProofBeside

namespace Go.Proofs.YtmdkfhfkdcbpgaaDoorR.ProofEnc
open Go Go.RowKit Go.Proofs.YtmdkfhfkdcbpgaaDoorR Go.Proofs.YtmdkfhfkdcbpgaaDoorR.Mem Go.Proofs.YtmdkfhfkdcbpgaaDoorR.Sha Go.Proofs.YtmdkfhfkdcbpgaaDoorR.Bytes Go.Proofs.YtmdkfhfkdcbpgaaDoorR.Append Go.Proofs.YtmdkfhfkdcbpgaaDoorR.Octet Go.Proofs.YtmdkfhfkdcbpgaaDoorR.Octet2 Go.Proofs.YtmdkfhfkdcbpgaaDoorR.HeadMem Go.Proofs.YtmdkfhfkdcbpgaaDoorR.ProofBeside

section
variable {w0 w : World} {g : Nat} {r : Option Nat} {l : Text}
set_option maxRecDepth 100000 in
set_option maxHeartbeats 1000000 in
theorem number_from (N : Nat) (hN : N < 9223372036854775808) (ds : List Text) (n : Nat) (hn : ds.length = n) (hd : ∀ d ∈ ds, d.length = 32) (A : Option Addr) (c : Nat) (hl : l.length + 8 + 32 * n ≤ 140737488355328) (hr : Reads w0 32 A n (ds.flatMap cells8)) (hA : 0 < n → ∀ a, A = some a → a.block ≠ g ∧ some a.block ≠ r)
    (hW : Wrote w0 g r l w) :
    Calls Tryd.prog 67 #[.pointer (some ⟨g, 0, none⟩), .int .i64 (N : Int), .slice A n c] w fun e w' => e = .returned (.tuple #[]) ∧ Wrote w0 g r (l ++ be8 N ++ ds.flatten) w' := by
  have y1 : IntKind.u64.wrap (N : Int) = (N : Int) := u64_in _ (by omega) (by omega)
  have hN' := Lib.hid hN
  replace hW := Lib.hid hW
  replace hn := Lib.hid hn
  replace hd := Lib.hid hd
  replace hr := Lib.hid hr
  replace hA := Lib.hid hA
  replace hl := Lib.hid hl
  clear hN
  go_enter Tryd.func67, Tryd.ntmps67
  go_wp2_with (first
    | (go_at_call 115; refine (put8_from (N : Int) N rfl (by have := hN'.out; omega) (by have := hl.out; omega) hW.out).mono ?_; rintro e w1 ⟨rfl, hW1⟩; replace hW1 := Lib.hid hW1)
    | (go_at_call 70; refine (digests_old ds n hn.out hd.out A c (by have := hl.out; simp [be8_len]; omega) hr.out hA.out hW1.out).mono ?_; rintro e w2 ⟨rfl, hW2⟩; replace hW2 := Lib.hid hW2))
  go_end0
  exact ⟨rfl, hW2.out⟩
end

theorem flat32_len : ∀ (ds : List Text), (∀ d ∈ ds, d.length = 32) → ds.flatten.length = 32 * ds.length
  | [], _ => rfl
  | d :: ds, h => by
    have h1 := flat32_len ds (fun x hx => h x (List.mem_cons_of_mem _ hx))
    have h2 := h d (List.mem_cons_self ..)
    simp only [List.flatten_cons, List.length_append, List.length_cons]
    omega
end Go.Proofs.YtmdkfhfkdcbpgaaDoorR.ProofEnc

namespace Go.Proofs.YtmdkfhfkdcbpgaaDoorR.Beside17
open Go Go.RowKit Go.Proofs.YtmdkfhfkdcbpgaaDoorR Go.Proofs.YtmdkfhfkdcbpgaaDoorR.Mem Go.Proofs.YtmdkfhfkdcbpgaaDoorR.Sha Go.Proofs.YtmdkfhfkdcbpgaaDoorR.Bytes Go.Proofs.YtmdkfhfkdcbpgaaDoorR.TreeMath Go.Proofs.YtmdkfhfkdcbpgaaDoorR.Sides Go.Proofs.YtmdkfhfkdcbpgaaDoorR.RefSides Go.Proofs.YtmdkfhfkdcbpgaaDoorR.ProofBeside

end Go.Proofs.YtmdkfhfkdcbpgaaDoorR.Beside17
