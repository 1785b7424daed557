/-
  Texts of the claim, put into one file: HeadBack.
-/
import Derived.Test.YteelanamlhfmgaaZ28
import Derived.Test.YteelanamlhfmgaaZ22
import Derived.Test.YteelanamlhfmgaaZ15
import Derived.Deep.Cut
import Derived.Deep.CutRange

namespace Go.Proofs.Yteelanamlhfmgaa.HeadBack
open Go Go.RowKit Go.Proofs.Yteelanamlhfmgaa Go.Proofs.Yteelanamlhfmgaa.Mem Go.Proofs.Yteelanamlhfmgaa.Sha Go.Proofs.Yteelanamlhfmgaa.Bytes Go.Proofs.Yteelanamlhfmgaa.SortP Go.Proofs.Yteelanamlhfmgaa.NoteP Go.Proofs.Yteelanamlhfmgaa.QuietTail Go.Proofs.Yteelanamlhfmgaa.Grown Go.Proofs.Yteelanamlhfmgaa.Want Go.Proofs.Yteelanamlhfmgaa.Guard2 Go.Proofs.Yteelanamlhfmgaa.Append Go.Proofs.Yteelanamlhfmgaa.Own Go.Proofs.Yteelanamlhfmgaa.Rise Go.Proofs.Yteelanamlhfmgaa.SortM Go.Proofs.Yteelanamlhfmgaa.SgM Go.Proofs.Yteelanamlhfmgaa.HeadMem Go.Proofs.Yteelanamlhfmgaa.HeadEq Go.Proofs.Yteelanamlhfmgaa.EncNoteP Go.Proofs.Yteelanamlhfmgaa.EncNote Go.Proofs.Yteelanamlhfmgaa.RowS Go.Proofs.Yteelanamlhfmgaa.Fill Go.Proofs.Yteelanamlhfmgaa.NoteM Go.Proofs.Yteelanamlhfmgaa.CmpW Go.Proofs.Yteelanamlhfmgaa.SameSigns Go.Proofs.Yteelanamlhfmgaa.HeadTake Go.Proofs.Yteelanamlhfmgaa.HeadTake2 Go.Proofs.Yteelanamlhfmgaa.Decode Go.Proofs.Yteelanamlhfmgaa.Kept16 Go.Proofs.Yteelanamlhfmgaa.RefNote Go.Proofs.Yteelanamlhfmgaa.DecNote Go.Proofs.Yteelanamlhfmgaa.Law16 Go.Proofs.Yteelanamlhfmgaa.Notes Go.Proofs.Yteelanamlhfmgaa.BackP

theorem noteT_len2 (h : HeadD) (ok : h.Ok) (ss : List Text) (hs : Sns ss) : (noteT h ss).length < 140737488355228 := by
  unfold noteT
  rcases note_cases h ss ss.length rfl with ⟨-, e⟩ | ⟨-, -, e⟩ | ⟨-, -, e⟩ | ⟨-, -, -, -, e⟩ | ⟨-, -, h3, rs, h4, e⟩ <;> rw [e]
  · simp
  · simp
  · simp
  · simp
  · show (noteB h rs).length < _
    rw [noteB_len ok (rising_sns h4 hs), rising_len h4]
    omega
/-- The bytes that laying a head down leaves, none where it refuses. -/
def headT (h : HeadD) : Text := if rightB h = true then headBytes h else []
theorem headT_len (h : HeadD) (ok : h.Ok) : (headT h).length < 140737488355328 := by
  unfold headT
  split
  · rw [headBytes_len ok]; decide
  · decide
theorem encHead_u (h : HeadD) (ok : h.Ok) (w : World) : Calls Try.prog 8 #[.agg (headCells h).toArray] w fun e w' => ∃ (A : Option Addr) (c : Nat), e = .returned (.tuple #[.slice A (headT h).length c, .int .i64 (if rightB h = true then 0 else 1)]) ∧ Below w.heap.size w w' ∧ (A = none → (headT h).length = 0 ∧ c = 0) ∧ Reads w' 1 A (headT h).length (cells8 (headT h)) := by
  unfold headT
  cases hr : rightB h with
  | true =>
    refine (HeadEnc.encodeHead_yes h ok hr w).mono fun e w' ⟨v, he, hb, ho⟩ => ?_
    obtain ⟨A, c, rfl, -, -, h2, h3, -⟩ := Own.reads ho
    have hl := headBytes_len ok
    exact ⟨A, c, by rw [he, if_pos rfl, if_pos rfl, hl], hb, by rw [if_pos rfl, hl]; exact h2, by rw [if_pos rfl, hl]; exact h3⟩
  | false =>
    refine (HeadEnc.encodeHead_no h ok hr w).mono fun e w' ⟨he, hb⟩ => ⟨none, 0, he, hb, fun _ => ⟨rfl, rfl⟩, Reads.nil_ _ _ _⟩
/-- What reading a head answers, the zero head where it refuses. -/
def decHd (q : Text) : HeadD := if decOk q = true then headOf q else h0
theorem decHd_ok (q : Text) : (decHd q).Ok := by
  unfold decHd
  split
  · rename_i h
    unfold decOk at h
    rw [Bool.and_eq_true, decide_eq_true_eq] at h
    exact headOf_ok q (by omega) h.2
  · exact h0_ok
theorem decHead_u (q : Text) (k : Nat) (hk : q.length = k) (hk47 : k < 140737488355328) (A : Option Addr) (c : Nat) (w : World) (hr : Reads w 1 A k (cells8 q)) (hnil : A = none → k = 0 ∧ c = 0) :
    Calls Try.prog 9 #[.slice A k c] w fun e w' => e = .returned (.tuple #[.agg (headCells (decHd q)).toArray, .int .i64 (if decOk q = true then 0 else 8)]) ∧ Below w.heap.size w w' := by
  refine (decode_any q k hk hk47 A c w hr hnil).mono fun e w' ⟨he, hb⟩ => ⟨?_, hb⟩
  rw [he]
  unfold decOut decHd
  split
  · rfl
  · rw [h0_cells]
theorem neq_head (h : HeadD) (ok : h.Ok) (w : World) : (binOp .neq 25 (.agg (headCells h).toArray) (.agg (headCells h).toArray)).run Try.prog w = .ok (.bool false) w := by
  have e := equal_head 9997 h ok w
  rw [run_neq_struct w, e]
  rfl
/-- A roomy text as a row of one's own, a hundred places behind it. -/
theorem roomy_own {w : World} {g B : Nat} {q : Text} (h : Law16.Roomy w g q) (hB : B ≤ g) (hm : q.length + 100 ≤ maxLen) : w.ownsRow B 5 1 (.slice (some ⟨g, 0, none⟩) q.length (q.length + 100)) q.length (cells8 q) := by
  obtain ⟨cs, hb, hs, hc⟩ := h
  refine ⟨by rw [cells8_len, Nat.mul_one], .inr ⟨g, q.length + 100, cs, rfl, hB, hb, by omega, hm, by rw [hs, Nat.mul_one], ?_⟩⟩
  apply List.ext_getElem?
  intro j
  rw [List.getElem?_take, Nat.mul_one]
  by_cases hj : j < q.length
  · rw [if_pos hj, Array.getElem?_toList, hc j (by omega), cells8_at q j hj]
    show some (if j < q.length then cell8 (q.getD j 0) else .int .u8 165) = _
    rw [if_pos hj]
  · rw [if_neg hj, List.getElem?_eq_none (by rw [cells8_len]; omega)]
set_option maxRecDepth 100000 in
theorem run_front {A : Option Addr} {n c m : Nat} (hm : m ≤ c) (x : Int) (hx : x = m) (w : World) : (Instr.sliceAt 29 (.slice A n c) none (some (.int .i64 x)) none).run Try.prog w = .ok (.slice A m c) w := run_headOf Try.underlying29 (fun _ => rfl) hm x hx w
theorem noteAns_zero {h : HeadD} {ss : List Text} (hz : (noteAns h ss).2 = 0) : rightB h = true ∧ 0 < ss.length ∧ ss.length ≤ 16 ∧ ∃ rs, rising kyS ss = some rs ∧ noteAns h ss = (some (noteB h rs), 0) := by
  rcases note_cases h ss ss.length rfl with ⟨-, e⟩ | ⟨-, -, e⟩ | ⟨-, -, e⟩ | ⟨-, -, -, -, e⟩ | ⟨h1, h2, h3, rs, h4, e⟩
  · rw [e] at hz; cases hz
  · rw [e] at hz; cases hz
  · rw [e] at hz; cases hz
  · rw [e] at hz; cases hz
  · exact ⟨h1, h2, h3, rs, h4, e⟩
theorem noteAns_sorted {h : HeadD} (hr : rightB h = true) {rs : List Text} (h0 : 0 < rs.length) (h16 : rs.length ≤ 16) (hst : Strict kyS rs) : noteAns h rs = (some (noteB h rs), 0) := by
  unfold noteAns
  rw [if_neg (by rw [hr]; simp), if_neg (by omega), rising_strict hst]
set_option maxRecDepth 100000 in
set_option maxHeartbeats 8000000 in
theorem headBack_any (h1 : HeadD) (ok1 : h1.Ok) (h : HeadD) (ok : h.Ok) (ss : List Text) (n : Nat) (A : Option Addr) (c : Nat) (hc : n ≤ c) (q : Text) (k : Nat) (hk : q.length = k) (hk47 : k < 140737488355328) (Ar : Option Addr) (cr : Nat) (hkc : k ≤ cr) (hnr : Ar = none → k = 0 ∧ cr = 0) (w : World) (hS : Sgs w A n ss) (hr : Reads w 1 Ar k (cells8 q)) :
    Calls Try.prog 4 #[.agg (headCells h1).toArray, .agg (noteCells h (.slice A n c)).toArray, .slice Ar k cr] w fun e w' => e = .returned (.bool true) ∧ Below w.heap.size w w' := by
  obtain ⟨i0, ii, iz0, iz1, iz2⟩ := info_parts8 info8
  obtain ⟨w0, hw0⟩ : ∃ w0, (w.alloc (.cells (headCells h1).toArray 25)).alloc (.cells (noteCells h (.slice A n c)).toArray 28) = w0 := ⟨_, rfl⟩
  have hz : (w.alloc (.cells (headCells h1).toArray 25)).heap.size = w.heap.size + 1 := by simp
  have HB0 : Hid (Blk w0 w.heap.size 25 (headCells h1).toArray) := by show Blk _ _ _ _; rw [← hw0]; exact (Blk.new w _ _).alloc _
  have N0 : Hid (NoteAt w0 (w.heap.size + 1) h A n c ss) := by show NoteAt _ _ _ _ _ _ _; rw [← hw0, ← hz]; exact NoteAt.new (hS.below (Below.heap_below w _))
  have hb0 : Hid (Below w.heap.size w w0) := by show Below _ _ _; rw [← hw0]; exact (Below.heap_below w _).alloc (by rw [hz]; omega) _
  have hRr : Hid (∀ w', Below w.heap.size w w' → Reads w' 1 Ar k (cells8 q)) := fun w' hb => hr.below hb
  have hSs : Hid (∀ w', Below w.heap.size w w' → Sgs w' A n ss) := fun w' hb => hS.below hb
  have zN := Lib.hid (fun v => note_size ok v)
  have oN := Lib.hid (fun A n c => note_one (h := h) A n c)
  have sN : Hid (∀ v u, (noteCells h v).toArray.size = (noteCells h u).toArray.size) := fun v u => by rw [← note_zero ok v, ← note_zero ok u]
  have zQ := Lib.hid (fun v => note_size (decH_ok q) v)
  have oQ := Lib.hid (fun A n c => note_one (h := decH q) A n c)
  have sQ := Lib.hid (fun v => note_zero (decH_ok q) v)
  have s0N := Lib.hid (fun v => note_zero ok v)
  obtain ⟨hz1, ho1, hs1⟩ := head_sizes ok1
  obtain ⟨dz, do_, ds_⟩ := head_sizes (decHd_ok q)
  have hE1 := Lib.hid (fun w' : World => neq_head h1 ok1 w')
  have hEn := Lib.hid (fun w' : World => neq_head h ok w')
  have szH : Hid ((Try.prog.info? 25).map (·.size) = some (headCells h).length) := by show _ = _; rw [headCells_len ok]; exact size98
  have hk0 := Lib.hid hk
  have hk7 := Lib.hid hk47
  have hkc0 := Lib.hid hkc
  have hnr0 := Lib.hid hnr
  have ok' := Lib.hid ok
  have ok1' := Lib.hid ok1
  have hc0 := Lib.hid hc
  have cs1 : Hid ((headCells h1).toArray[32]? = some (.int .i64 h1.size)) := by show _ = _; rw [List.getElem?_toArray]; exact headCells_size ok1
  have cc1 : Hid ((headCells h1).toArray[97]? = some (.int .i64 h1.clock)) := by show _ = _; rw [List.getElem?_toArray]; exact headCells_clock ok1
  clear hS hr ok ok1 hk hk47 hkc hnr hc hz
  go_enter Try.func4, Try.ntmps4
  go_upto_region 2 with (first
    | (((with_reducible change wpList _ _ _ ({ dst := some 25, op := _, type := _, pos := _, after := _, guard := _ } :: _) _ _); refine wpList_load_row (o := ⟨some 25, _, _, _, _, _⟩) rfl 28 (.tmp 4) rfl ((w.heap.size + 1)) rfl 28 ((noteCells h (.slice A n c)).toArray) (0, 0) _ N0.out.blk Try.underlying28 rfl (zN.out _) ?_))
    | (go_at_call 5; refine (short_any h ok'.out ss n A c hc0.out w0 N0.out.sgs).mono ?_; rintro e w1 ⟨m, hm, rfl, hS1, hb1⟩; have B1 : Hid (Blk w1 (w.heap.size + 1) 28 (noteCells h (.slice A n c)).toArray) := (hb1.block _ N0.out.blk.lt).trans N0.out.blk; have HB1 : Hid (Blk w1 w.heap.size 25 (headCells h1).toArray) := (hb1.block _ HB0.out.lt).trans HB0.out; have bb1 : Hid (Below w.heap.size w w1) := hb0.out.trans (hb1.mono hb0.out.size); clear hb1 N0 hb0 hw0 hS1 HB0)
    | ((with_reducible change wpList _ _ _ ({ dst := none, op := Op.store 28 (.tmp 4) (.tmp 26), type := _, pos := _, after := _, guard := _ } :: _) _ _); refine wpList_store_all (o := ⟨none, _, _, _, _, _⟩) rfl 28 (.tmp 4) (.tmp 26) rfl (w.heap.size + 1) (noteCells h (.slice A m c)).toArray rfl rfl 28 (noteCells h (.slice A n c)).toArray B1.out (zN.out _) (sN.out _ _) (oN.out _ _ _) ?_; intro wN hBN hkN; have bbN : Hid (Below w.heap.size w wN) := bb1.out.trans (Kept.below_of hkN (by omega) bb1.out.size); have HN : Hid (Blk wN w.heap.size 25 (headCells h1).toArray) := HB1.out.kept hkN (by omega); have NN : Hid (NoteAt wN (w.heap.size + 1) h A m c (ss.take m)) := ⟨hBN.out, (hSs.out wN bbN.out).take_ m hm.out.2⟩; clear hkN hBN B1 bb1 HB1))
  have c32 : wN.cell? ⟨w.heap.size, 32, none⟩ = some (.int .i64 h1.size) := (HN.out.cell 32).trans cs1.out
  have c97 : wN.cell? ⟨w.heap.size, 97, none⟩ = some (.int .i64 h1.clock) := (HN.out.cell 97).trans cc1.out
  obtain ⟨k1, hk1⟩ : ∃ k1 : Int, Hid ((if rightB h1 = true then (0 : Int) else 1) = k1) := ⟨_, Lib.hid rfl⟩
  obtain ⟨t1, ht1⟩ : ∃ t1, Hid (headT h1 = t1) := ⟨_, Lib.hid rfl⟩
  have hl1 : Hid (t1.length < 140737488355328) := by show _ < _; rw [← ht1.out]; exact headT_len h1 ok1'.out
  go_upto_region 3 with (first
    | (((with_reducible change wpList _ _ _ ({ dst := some 28, op := _, type := _, pos := _, after := _, guard := _ } :: _) _ _); refine wpList_load_row (o := ⟨some 28, _, _, _, _, _⟩) rfl 25 (.tmp 3) rfl (w.heap.size) rfl 25 ((headCells h1).toArray) (0, 0) _ HN.out Try.underlying25 rfl hz1.out ?_))
    | (go_at_call 8; refine (encHead_u h1 ok1'.out wN).mono ?_; rintro e w3 ⟨A7, c7, rfl, hb3, hn3, hr3⟩; rw [hk1.out]; rw [ht1.out] at hn3 hr3 ⊢; replace hr3 := Lib.hid hr3; replace hn3 := Lib.hid hn3; have b3 : Hid (Below wN.heap.size wN w3) := hb3; have d32 : w3.cell? ⟨w.heap.size, 32, none⟩ = some (.int .i64 h1.size) := (hb3.cell (p := ⟨w.heap.size, 32, none⟩) HN.out.lt).trans c32; have d97 : w3.cell? ⟨w.heap.size, 97, none⟩ = some (.int .i64 h1.clock) := (hb3.cell (p := ⟨w.heap.size, 97, none⟩) HN.out.lt).trans c97; clear hb3 c32 c97))
  go_cut [52] from 32 to 52 (fun v wr => v = .bool false ∧ Hid (wr = w3))
  case first =>
    have hkk : Hid (rightB h1 = (decide (0 ≤ h1.size) && decide (h1.size ≤ 1099511627776) && decide (0 ≤ h1.clock) && decide (h1.clock ≤ 4611686018427387904))) := rfl
    have hk1' := hk1
    clear hk1 ht1 hr3 hn3
    generalize rightB h1 = rb at *
    generalize h1.size = sz at *
    generalize h1.clock = cl at *
    by_cases p1 : 0 ≤ sz
    · by_cases p2 : sz ≤ 1099511627776
      · by_cases p3 : 0 ≤ cl
        · by_cases p4 : cl ≤ 4611686018427387904
          · obtain rfl : k1 = 0 := by rw [← hk1'.out, hkk.out]; simp [p1, p2, p3, p4]
            clear hkk hk1'
            go_wp2_with fail
            go_meet
            case rel => exact ⟨rfl, rfl⟩
          · obtain rfl : k1 = 1 := by rw [← hk1'.out, hkk.out]; simp [p1, p2, p3, p4]
            clear hkk hk1'
            go_wp2_with fail
            go_meet
            case rel => exact ⟨rfl, rfl⟩
        · obtain rfl : k1 = 1 := by rw [← hk1'.out, hkk.out]; simp [p1, p2, p3]
          clear hkk hk1'
          go_wp2_with fail
          go_meet
          case rel => exact ⟨rfl, rfl⟩
      · obtain rfl : k1 = 1 := by rw [← hk1'.out, hkk.out]; simp [p1, p2]
        clear hkk hk1'
        go_wp2_with fail
        go_meet
        case rel => exact ⟨rfl, rfl⟩
    · obtain rfl : k1 = 1 := by rw [← hk1'.out, hkk.out]; simp [p1]
      clear hkk hk1'
      go_wp2_with fail
      go_meet
      case rel => exact ⟨rfl, rfl⟩
  obtain ⟨rfl, hwc⟩ := hcut
  have hwc' := hwc.out
  subst hwc'
  clear hwc d32 d97
  go_upto_if 54 with fail
  go_cut [9, 10] from 53 to 66 (fun _ _ wr => Hid (Below wN.heap.size wN wr))
  case first =>
    by_cases hk0' : k1 = 0
    · have hrt : Hid (rightB h1 = true) := by
        show _ = _
        have e := hk1.out
        rw [hk0'] at e
        by_cases p : rightB h1 = true
        · exact p
        · rw [if_neg p] at e; cases e
      subst hk0'
      have et : Hid (t1 = headBytes h1) := by show _ = _; rw [← ht1.out]; unfold headT; rw [if_pos hrt.out]
      have e1 : Hid (decOk t1 = true ∧ decHd t1 = h1) := by
        show _ ∧ _
        rw [et.out]
        obtain ⟨a1, a2⟩ := dec_head ok1'.out hrt.out
        refine ⟨a1, ?_⟩
        unfold decHd
        rw [if_pos a1, a2]
      go_wp2_with (first
        | (go_at_call 9; refine (decHead_u t1 t1.length rfl hl1.out A7 c7 _ hr3.out hn3.out).mono ?_; rw [e1.out.2, if_pos e1.out.1]; rintro e w4 ⟨rfl, hb4⟩; have b4 : Hid (Below wN.heap.size wN w4) := b3.out.trans (hb4.mono b3.out.size); clear hb4)
        | ((with_reducible change wpList _ _ _ ({ dst := none, op := Op.store 25 (.tmp 9) (.tmp 58), type := _, pos := _, after := _, guard := _ } :: _) _ _); refine wpList_store_all (o := ⟨none, _, _, _, _, _⟩) rfl 25 (.tmp 9) (.tmp 58) rfl w4.heap.size (headCells h1).toArray rfl rfl 25 Z98 (Blk.new w4 _ _) hz1.out hs1.out ho1.out ?_; intro w5 hB5 hk5; have hbn := below_new hk5; have b5 : Hid (Below wN.heap.size wN w5) := b4.out.trans (hbn.mono b4.out.size); have H5 : Hid (Blk w5 w.heap.size 25 (headCells h1).toArray) := (b5.out.block _ HN.out.lt).trans HN.out; clear hk5 hbn b4; generalize w4.heap.size = m9 at *)
        | ((with_reducible change wpList _ _ _ ({ dst := some 63, op := _, type := _, pos := _, after := _, guard := _ } :: _) _ _); (with_reducible refine Veil.out ?_); refine wpList_rowW (o := ⟨some 63, _, _, _, _, _⟩) rfl 25 (.tmp 9) rfl (m9) rfl 25 ((headCells h1).toArray) (0, 0) _ hB5.out Try.underlying25 rfl hz1.out ?_)
        | ((with_reducible change wpList _ _ _ ({ dst := some 64, op := _, type := _, pos := _, after := _, guard := _ } :: _) _ _); (with_reducible refine Veil.out ?_); refine wpList_rowW (o := ⟨some 64, _, _, _, _, _⟩) rfl 25 (.tmp 3) rfl (w.heap.size) rfl 25 ((headCells h1).toArray) (0, 0) _ H5.out Try.underlying25 rfl hz1.out ?_)
        | ((with_reducible change wpList _ _ _ ({ dst := some 65, op := _, type := _, pos := _, after := _, guard := _ } :: _) _ _); (with_reducible refine Veil.out ?_); refine wpList_cmpW (o := ⟨some 65, _, _, _, _, _⟩) rfl .neq 25 25 (.tmp 63) (.tmp 64) rfl ((headCells h1).toArray) ((headCells h1).toArray) rfl rfl qHD (.bool false) (hE1.out _) ?_))
      go_meet
      case rel => exact b5.out
    · have hkf : (k1 == 0) = false := by simpa using hk0'
      clear hk0'
      go_wp2_with fail
      go_meet
      case rel => exact b3.out
  have b3c : Hid (Below wN.heap.size wN wc) := hcut
  clear hcut b3 hr3 hn3 hl1 ht1 hk1
  obtain ⟨wA, hwA⟩ : ∃ wA, wA = wc := ⟨_, rfl⟩
  rw [← hwA] at b3c ⊢
  clear hwA
  have hNm : Hid ((ss.take m).length = m) := NN.out.sgs.len
  have NA := Lib.hid (NN.out.below b3c.out)
  obtain ⟨k7, hk7'⟩ : ∃ k7, Hid ((noteAns h (ss.take m)).2 = k7) := ⟨_, Lib.hid rfl⟩
  obtain ⟨bt, hbt⟩ : ∃ bt, Hid ((noteAns h (ss.take m)).1.getD [] = bt) := ⟨_, Lib.hid rfl⟩
  have hl8 : Hid (bt.length < 140737488355228) := by show _ < _; have := noteT_len2 h ok'.out (ss.take m) NN.out.sgs.all; unfold noteT at this; rw [hbt.out] at this; exact this
  go_upto_if 73 with (first
    | (((with_reducible change wpList _ _ _ ({ dst := some 68, op := _, type := _, pos := _, after := _, guard := _ } :: _) _ _); refine wpList_load_row (o := ⟨some 68, _, _, _, _, _⟩) rfl 28 (.tmp 4) rfl ((w.heap.size + 1)) rfl 28 ((noteCells h (.slice A m c)).toArray) (0, 0) _ NA.out.blk Try.underlying28 rfl (zN.out _) ?_))
    | (go_at_call 10; refine (encnote_any h ok'.out (ss.take m) m A c wA NA.out.sgs).mono ?_; rintro e w3 ⟨v3, rfl, hb3, hP3⟩; rw [hk7'.out]; obtain ⟨A11, c11, rfl, hc11, hn11, hr11⟩ := post_reads hP3; rw [hbt.out] at hc11 hn11 hr11 ⊢; replace hr11 := Lib.hid hr11; replace hn11 := Lib.hid hn11; replace hc11 := Lib.hid hc11; have b3 : Hid (Below wN.heap.size wN w3) := b3c.out.trans (hb3.mono b3c.out.size); clear hb3 hP3 NA))
  go_cut [12, 13, 14, 15, 16, 17, 18] from 72 to 136 (fun _ _ _ _ _ _ _ wr => Hid (Below wN.heap.size wN wr))
  case first =>
    by_cases hk0' : k7 = 0
    · obtain ⟨hrt, hm0, hm16, rs, hri, hna⟩ := noteAns_zero (hk7'.out.trans hk0')
      subst hk0'
      rw [hNm.out] at hm0 hm16
      have hrl : Hid (rs.length = m) := (rising_len hri).trans hNm.out
      have hrs : Hid (Sns rs) := rising_sns hri NN.out.sgs.all
      have hst : Hid (Strict kyS rs) := (rising_some hri).1
      have et : Hid (bt = noteB h rs) := by show _ = _; rw [← hbt.out, hna]; rfl
      have eb : Hid (noteOk bt = true) := by show _ = _; rw [et.out]; exact (note_back ok'.out hrt hrs.out (by rw [hrl.out]; omega) (by rw [hrl.out]; omega) hst.out).1
      have ed : Hid (decH bt = h ∧ decS bt = rs) := by show _ ∧ _; rw [et.out]; exact dec_same ok'.out hrt hrs.out (by rw [hrl.out]; omega) (by rw [hrl.out]; omega) hst.out
      have ea : Hid (noteAns h rs = (some bt, 0)) := by show _ = _; rw [et.out]; exact noteAns_sorted hrt (by rw [hrl.out]; omega) (by rw [hrl.out]; omega) hst.out
      have hmL : Hid (m ≤ 16) := hm16
      have hbl : Hid (bt.length = 115 + 64 * m) := by show _ = _; rw [et.out, noteB_len ok'.out hrs.out, hrl.out]
      clear hri hna hm0 hm16 hrt
      go_wp2_with (first
        | (go_at_call 11; refine (decnote_any bt bt.length rfl (by have := hl8.out; omega) A11 c11 w3 hr11.out hn11.out).mono ?_; rw [if_pos eb.out]; rintro e w4 ⟨v4, rfl, hb4, A4, c4, rfl, -, -, hS4, -⟩; rw [ed.out.1, ed.out.2, hrl.out] at ⊢; rw [ed.out.2, hrl.out] at hS4; replace hS4 := Lib.hid hS4; have b4 : Hid (Below wN.heap.size wN w4) := b3.out.trans (hb4.mono b3.out.size); have hr4 := Lib.hid (hr11.out.below hb4); clear hb4 b3 hr11)
        | ((with_reducible change wpList _ _ _ ({ dst := none, op := Op.store 28 (.tmp 12) (.tmp 77), type := _, pos := _, after := _, guard := _ } :: _) _ _); refine wpList_store_all (o := ⟨none, _, _, _, _, _⟩) rfl 28 (.tmp 12) (.tmp 77) rfl w4.heap.size (noteCells h (.slice A4 m c4)).toArray rfl rfl 28 Z99 (Blk.new w4 _ _) (zN.out _) (s0N.out _) (oN.out _ _ _) ?_; intro w5 hB5 hk5; have hbn := below_new hk5; have b5 : Hid (Below wN.heap.size wN w5) := b4.out.trans (hbn.mono b4.out.size); have N5 : Hid (NoteAt w5 w4.heap.size h A4 m c4 rs) := ⟨hB5.out, hS4.out.below hbn⟩; have hr5 := Lib.hid (hr4.out.below hbn); clear hk5 hbn b4 hB5 hS4 hr4; generalize w4.heap.size = m12 at *)
        | (((with_reducible change wpList _ _ _ ({ dst := some 80, op := _, type := _, pos := _, after := _, guard := _ } :: _) _ _); refine wpList_load_row (o := ⟨some 80, _, _, _, _, _⟩) rfl 28 (.tmp 12) rfl (m12) rfl 28 ((noteCells h (.slice A4 m c4)).toArray) (0, 0) _ N5.out.blk Try.underlying28 rfl (zN.out _) ?_))
        | (go_at_call 10; refine (encnote_any h ok'.out rs m A4 c4 w5 N5.out.sgs).mono ?_; rw [ea.out]; rintro e w6 ⟨v6, rfl, hb6, hP6⟩; obtain ⟨A14, c14, rfl, -, -, hr14⟩ := post_reads hP6; replace hr14 : Hid (Reads w6 1 A14 bt.length (cells8 bt)) := hr14; have N6 := Lib.hid (N5.out.below hb6); have b6 : Hid (Below wN.heap.size wN w6) := b5.out.trans (hb6.mono b5.out.size); have hr6 := Lib.hid (hr5.out.below hb6); have P6 := Lib.hid (NN.out.below b6.out); have q1 := N6.out.row ok'.out; have q2 := P6.out.row ok'.out; clear hb6 hP6 N5 b5 hr5; simp only [Option.getD_some])
        | ((with_reducible change wpList _ _ _ ({ dst := some 92, op := _, type := _, pos := _, after := _, guard := _ } :: _) _ _); (with_reducible refine Veil.out ?_); refine wpList_partW (o := ⟨some 92, _, _, _, _, _⟩) rfl 25 (.tmp 91) rfl (m12) (0) rfl (headCells h) _ N6.out.head Try.underlying25 rfl szH.out ?_)
        | ((with_reducible change wpList _ _ _ ({ dst := some 94, op := _, type := _, pos := _, after := _, guard := _ } :: _) _ _); (with_reducible refine Veil.out ?_); refine wpList_partW (o := ⟨some 94, _, _, _, _, _⟩) rfl 25 (.tmp 93) rfl ((w.heap.size + 1)) (0) rfl (headCells h) _ P6.out.head Try.underlying25 rfl szH.out ?_)
        | ((with_reducible change wpList _ _ _ ({ dst := some 95, op := _, type := _, pos := _, after := _, guard := _ } :: _) _ _); (with_reducible refine Veil.out ?_); refine wpList_cmpW (o := ⟨some 95, _, _, _, _, _⟩) rfl .neq 25 25 (.tmp 92) (.tmp 94) rfl ((headCells h).toArray) ((headCells h).toArray) rfl rfl qHD (.bool false) (hEn.out _) ?_)
        | (go_at_call 12; refine (same_any bt bt.length rfl (by have := hl8.out; omega) A14 A11 c14 c11 w6 hr14.out hr6.out).mono ?_; rintro e w7' ⟨rfl, n7, rfl⟩; have hb7 : Below w6.heap.size w6 (w6.drewN n7) := below_drawn (Below.refl _ _) n7; have b7 : Hid (Below wN.heap.size wN (w6.drewN n7)) := b6.out.trans (hb7.mono b6.out.size); have hr7 := Lib.hid (hr6.out.below hb7); clear hb7 b6 hr6 hr14 N6 P6 q1 q2; generalize w6.drewN n7 = w7 at *))
      go_loopw [16] (fun v wr => ∃ i : Nat, v = .int .i64 (i : Int) ∧ Hid (i ≤ bt.length) ∧ Hid (Below w7.heap.size w7 wr)) (fun v _ => bt.length - (intOf v).toNat)
      case atStart => exact ⟨0, rfl, Nat.zero_le _, Below.refl _ _⟩
      case round =>
        obtain ⟨i, rfl, hi, hbi⟩ := hrel
        have hi6 : (i : Int) ≤ 140737488355328 := by have := hi.out; have := hl8.out; omega
        have hi0 : (0 : Int) ≤ (i : Int) := by omega
        have bi : Hid (Below wN.heap.size wN wr) := b7.out.trans (hbi.out.mono b7.out.size)
        have hri := Lib.hid (hr7.out.below hbi.out)
        by_cases hlt : i < bt.length
        · have hz1 : (i : Int) < (bt.length : Int) := by omega
          have hlt' := Lib.hid hlt
          have hT := run_front (A := A11) (n := bt.length) (c := c11) (m := i) (by have := hc11.out; omega) (i : Int) rfl
          have en : Hid (noteOk (bt.take i) = false) := note_begin eb.out hlt
          have hrt := Lib.hid (Bytes.Reads.front hri.out i (by omega))
          have hnt : Hid (A11 = none → i = 0 ∧ c11 = 0) := fun e => by have := hn11.out e; omega
          have htl : Hid ((bt.take i).length = i) := by show _ = _; rw [List.length_take]; omega
          clear hlt
          go_wp2_with (first
            | (go_at_call 11; refine (decnote_any (bt.take i) i htl.out (by have := hlt'.out; have := hl8.out; omega) A11 c11 wr hrt.out hnt.out).mono ?_; rw [if_neg (by rw [en.out]; simp)]; rintro e w8 ⟨v8, rfl, hb8, hP8⟩; obtain ⟨A8, c8, rfl, -, -, -, -⟩ := hP8; have b8' : Hid (Below w7.heap.size w7 w8) := hbi.out.trans (hb8.mono hbi.out.size); have z8 := Lib.hid (fun v => note_size (decH_ok (bt.take i)) v); have o8 := Lib.hid (fun A n c => note_one (h := decH (bt.take i)) A n c); have s8 := Lib.hid (fun v => note_zero (decH_ok (bt.take i)) v); obtain ⟨dH, hdH⟩ : ∃ dH, Hid (decH (bt.take i) = dH) := ⟨_, Lib.hid rfl⟩; rw [hdH.out] at z8 o8 s8 ⊢; obtain ⟨l8, hl8'⟩ : ∃ l8, Hid ((decS (bt.take i)).length = l8) := ⟨_, Lib.hid rfl⟩; rw [hl8'.out]; clear hb8)
            | ((with_reducible change wpList _ _ _ ({ dst := none, op := Op.store 28 (.tmp 17) (.tmp 123), type := _, pos := _, after := _, guard := _ } :: _) _ _); refine wpList_store_all (o := ⟨none, _, _, _, _, _⟩) rfl 28 (.tmp 17) (.tmp 123) rfl w8.heap.size (noteCells dH (.slice A8 l8 c8)).toArray rfl rfl 28 Z99 (Blk.new w8 _ _) (z8.out _) (s8.out _) (o8.out _ _ _) ?_; intro w9 hB9 hk9; have hbn := below_new hk9; have b9' : Hid (Below w7.heap.size w7 w9) := b8'.out.trans (hbn.mono b8'.out.size); clear hk9 hbn hB9 b8'))
          go_roundw
          case rel => exact ⟨i + 1, by go_num, hlt'.out, b9'.out⟩
          case measure => (have := hlt'.out; simp [intOf]; omega)
        · have hz1 : ¬ ((i : Int) < (bt.length : Int)) := by omega
          clear hlt hi
          have en : Hid (noteOk (bt ++ [0]) = false) := note_behind eb.out 0
          have m1 : Hid (bt.length + 1 ≤ maxLen) := by show _ ≤ _; have := hl8.out; unfold maxLen; omega
          have m2 : Hid ((bt.length + 1) * 1 ≤ 140737488355328) := by show _ ≤ _; have := hl8.out; omega
          go_wp2_with (first
            | (go_at_call 13; refine (roomy_any bt bt.length rfl (by have := hl8.out; omega) A11 c11 wr hri.out).mono ?_; rintro e w8 ⟨gr, rfl, hgr, R8, hb8⟩; have b8' : Hid (Below wN.heap.size wN w8) := bi.out.trans (hb8.mono bi.out.size); have R9 : Hid (Law16.Roomy (w8.alloc (.cells #[.int .u8 0] 5)) gr bt) := Law16.Roomy.below R8 (Below.heap_below w8 _) (Tab.lt R8); have O9 := Lib.hid (roomy_own R9.out hgr (by have := hl8.out; unfold maxLen; omega)); have b9' : Hid (Below wr.heap.size wr (w8.alloc (.cells #[.int .u8 0] 5))) := hb8.alloc hb8.size _; have r1 : Hid (Reads (w8.alloc (.cells #[.int .u8 0] 5)) 1 (some ⟨w8.heap.size, 0, none⟩) 1 (cells8 [0])) := (by have := RefNote.own_one w8 (.int .u8 0) [0] rfl; obtain ⟨A9, c9, e9, -, -, -, hr9, -⟩ := Own.reads this; injection e9 with e9; subst e9; exact hr9); clear hb8 R8)
            | ((with_reducible change wpList _ _ _ ({ dst := some 131, op := _, type := _, pos := _, after := _, guard := _ } :: _) _ _); refine wpList_append_src _ (o := ⟨some 131, _, _, _, _, _⟩) rfl (.tmp 129) (.tmp 130) 29 rfl wr.heap.size 5 i0 (.int .u8 0) 1 1 Try.underlying29 ii iz0 iz1 iz2 rfl (by decide) (.slice (some ⟨gr, 0, none⟩) bt.length (bt.length + 100)) bt.length (cells8 bt) rfl O9.out (some ⟨w8.heap.size, 0, none⟩) 1 1 (cells8 [0]) rfl r1.out (fun e => by cases e) (cells8_one _) m1.out m2.out b9'.out.size ?_; intro v10 w10 hG; obtain ⟨A10, c10, rfl, hO10, hb10⟩ := grew_text hG b9'.out b9'.out.size O9.out (bt ++ [0]) rfl (bt.length + 1) rfl; obtain ⟨A11', c11', e11, -, -, hn10, hr10, -⟩ := Own.reads hO10.out; injection e11 with e11 _ e12; subst e11 e12; replace hn10 := Lib.hid hn10; replace hr10 := Lib.hid hr10; have b10 : Hid (Below wN.heap.size wN w10) := bi.out.trans (hb10.out.mono bi.out.size); clear hG hO10)
            | (go_at_call 11; refine (decnote_any (bt ++ [0]) (bt.length + 1) (by simp) (by have := hl8.out; omega) A10 c10 w10 hr10.out hn10.out).mono ?_; rw [if_neg (by rw [en.out]; simp)]; rintro e w11 ⟨v11, rfl, hb11, hP11⟩; obtain ⟨A12, c12, rfl, -, -, -, -⟩ := hP11; have b11 : Hid (Below wN.heap.size wN w11) := b10.out.trans (hb11.mono b10.out.size); clear hb11))
          go_meet
          case rel => exact b11.out
    · have hkf : (k7 == 0) = false := by simpa using hk0'
      clear hk0'
      go_wp2_with fail
      go_meet
      case rel => exact b3.out
  have b3d : Hid (Below wN.heap.size wN wc) := hcut
  clear hcut b3 hr11 hn11 hc11 hl8 hbt hk7' b3c
  obtain ⟨wB, hwB⟩ : ∃ wB, wB = wc := ⟨_, rfl⟩
  rw [← hwB] at b3d ⊢
  clear hwB
  obtain ⟨kq, hkq⟩ : ∃ kq : Int, Hid ((if decOk q = true then (0 : Int) else 8) = kq) := ⟨_, Lib.hid rfl⟩
  have bwB : Hid (Below w.heap.size w wB) := bbN.out.trans (b3d.out.mono bbN.out.size)
  have z98 : Hid (Z98.size = (headCells (decHd q)).toArray.size) := ds_
  go_upto_if 143 with (first
    | (go_at_call 9; refine (decHead_u q k hk0.out hk7.out Ar cr wB (hRr.out wB bwB.out) hnr0.out).mono ?_; rw [hkq.out]; rintro e w3 ⟨rfl, hb3⟩; have b3 : Hid (Below wN.heap.size wN w3) := b3d.out.trans (hb3.mono b3d.out.size); clear hb3)
    | ((with_reducible change wpList _ _ _ ({ dst := none, op := Op.store 25 (.tmp 19) (.tmp 140), type := _, pos := _, after := _, guard := _ } :: _) _ _); refine wpList_store_all (o := ⟨none, _, _, _, _, _⟩) rfl 25 (.tmp 19) (.tmp 140) rfl w3.heap.size (headCells (decHd q)).toArray rfl rfl 25 Z98 (Blk.new w3 _ _) dz.out z98.out do_.out ?_; intro w4 hB4 hk4; have hbn := below_new hk4; have b4 : Hid (Below wN.heap.size wN w4) := b3.out.trans (hbn.mono b3.out.size); have H4 := hB4; clear hk4 hbn b3 hB4; generalize w3.heap.size = m19 at *))
  go_cut [20, 21] from 142 to 156 (fun _ _ wr => Hid (Below wN.heap.size wN wr))
  case first =>
    by_cases hk0' : kq = 0
    · have hdk : Hid (decOk q = true) := by
        show _ = _
        have e := hkq.out
        rw [hk0'] at e
        by_cases p : decOk q = true
        · exact p
        · rw [if_neg p] at e; cases e
      subst hk0'
      have ea : Hid (rightB (decHd q) = true ∧ headT (decHd q) = q) := by
        show _ ∧ _
        have e : decHd q = headOf q := by unfold decHd; rw [if_pos hdk.out]
        rw [e]
        obtain ⟨a1, a2⟩ := dec_again hdk.out
        refine ⟨a1, ?_⟩
        unfold headT
        rw [if_pos a1, a2]
      go_wp2_with (first
        | (((with_reducible change wpList _ _ _ ({ dst := some 145, op := _, type := _, pos := _, after := _, guard := _ } :: _) _ _); refine wpList_load_row (o := ⟨some 145, _, _, _, _, _⟩) rfl 25 (.tmp 19) rfl (m19) rfl 25 ((headCells (decHd q)).toArray) (0, 0) _ H4.out Try.underlying25 rfl dz.out ?_))
        | (go_at_call 8; refine (encHead_u (decHd q) (decHd_ok q) w4).mono ?_; rw [if_pos ea.out.1, ea.out.2, hk0.out]; rintro e w5 ⟨A20, c20, rfl, hb5, -, hr5⟩; have b5 : Hid (Below wN.heap.size wN w5) := b4.out.trans (hb5.mono b4.out.size); replace hr5 := Lib.hid hr5; have bw5 : Hid (Below w.heap.size w w5) := bbN.out.trans (b5.out.mono bbN.out.size); clear hb5)
        | (go_at_call 12; refine (same_any q k hk0.out (by have := hk7.out; omega) A20 Ar c20 cr w5 hr5.out (hRr.out w5 bw5.out)).mono ?_; rintro e w6 ⟨rfl, n6, rfl⟩))
      go_meet
      case rel => exact below_drawn b5.out _
    · have hkf : (kq == 0) = false := by simpa using hk0'
      clear hk0'
      go_wp2_with fail
      go_meet
      case rel => exact b4.out
  have b3e : Hid (Below wN.heap.size wN wc) := hcut
  clear hcut b4 H4 hkq bwB b3d
  obtain ⟨wC, hwC⟩ : ∃ wC, wC = wc := ⟨_, rfl⟩
  rw [← hwC] at b3e ⊢
  clear hwC
  obtain ⟨kr, hkr⟩ : ∃ kr : Int, Hid ((if noteOk q = true then (0 : Int) else 8) = kr) := ⟨_, Lib.hid rfl⟩
  have bwC : Hid (Below w.heap.size w wC) := bbN.out.trans (b3e.out.mono bbN.out.size)
  obtain ⟨m9, hm9⟩ : ∃ m9, Hid ((decS q).length = m9) := ⟨_, Lib.hid rfl⟩
  go_upto_if 163 with (first
    | (go_at_call 11; refine (decnote_any q k hk0.out hk7.out Ar cr wC (hRr.out wC bwC.out) hnr0.out).mono ?_; rw [hkr.out]; rintro e w3 ⟨v3, rfl, hb3, A3, c3, rfl, -, -, hS3, -⟩; rw [hm9.out] at hS3 ⊢; replace hS3 := Lib.hid hS3; have b3 : Hid (Below wN.heap.size wN w3) := b3e.out.trans (hb3.mono b3e.out.size); clear hb3)
    | ((with_reducible change wpList _ _ _ ({ dst := none, op := Op.store 28 (.tmp 22) (.tmp 160), type := _, pos := _, after := _, guard := _ } :: _) _ _); refine wpList_store_all (o := ⟨none, _, _, _, _, _⟩) rfl 28 (.tmp 22) (.tmp 160) rfl w3.heap.size (noteCells (decH q) (.slice A3 m9 c3)).toArray rfl rfl 28 Z99 (Blk.new w3 _ _) (zQ.out _) (sQ.out _) (oQ.out _ _ _) ?_; intro w4 hB4 hk4; have hbn := below_new hk4; have b4 : Hid (Below wN.heap.size wN w4) := b3.out.trans (hbn.mono b3.out.size); have N4 : Hid (NoteAt w4 w3.heap.size (decH q) A3 m9 c3 (decS q)) := ⟨hB4.out, hS3.out.below hbn⟩; clear hk4 hbn b3 hB4 hS3; generalize w3.heap.size = m22 at *))
  go_cut [23, 24] from 162 to 176 (fun _ _ wr => Hid (Below wN.heap.size wN wr))
  case first =>
    by_cases hk0' : kr = 0
    · have hdk : Hid (noteOk q = true) := by
        show _ = _
        have e := hkr.out
        rw [hk0'] at e
        by_cases p : noteOk q = true
        · exact p
        · rw [if_neg p] at e; cases e
      subst hk0'
      have ea : Hid (noteAns (decH q) (decS q) = (some q, 0)) := note_again hdk.out
      go_wp2_with (first
        | (((with_reducible change wpList _ _ _ ({ dst := some 165, op := _, type := _, pos := _, after := _, guard := _ } :: _) _ _); refine wpList_load_row (o := ⟨some 165, _, _, _, _, _⟩) rfl 28 (.tmp 22) rfl (m22) rfl 28 ((noteCells (decH q) (.slice A3 m9 c3)).toArray) (0, 0) _ N4.out.blk Try.underlying28 rfl (zQ.out _) ?_))
        | (go_at_call 10; refine (encnote_any (decH q) (decH_ok q) (decS q) m9 A3 c3 w4 N4.out.sgs).mono ?_; rw [ea.out]; rintro e w5 ⟨v5, rfl, hb5, hP5⟩; obtain ⟨A23, c23, rfl, -, -, hr5⟩ := post_reads hP5; replace hr5 : Hid (Reads w5 1 A23 k (cells8 q)) := (by have h9 : Reads w5 1 A23 q.length (cells8 q) := hr5; rw [hk0.out] at h9; exact h9); simp only [Option.getD_some, hk0.out]; have b5 : Hid (Below wN.heap.size wN w5) := b4.out.trans (hb5.mono b4.out.size); have bw5 : Hid (Below w.heap.size w w5) := bbN.out.trans (b5.out.mono bbN.out.size); clear hb5 hP5)
        | (go_at_call 12; refine (same_any q k hk0.out (by have := hk7.out; omega) A23 Ar c23 cr w5 hr5.out (hRr.out w5 bw5.out)).mono ?_; rintro e w6 ⟨rfl, n6, rfl⟩))
      go_meet
      case rel => exact below_drawn b5.out _
    · have hkf : (kr == 0) = false := by simpa using hk0'
      clear hk0'
      go_wp2_with fail
      go_meet
      case rel => exact b4.out
  have b9 : Hid (Below wN.heap.size wN wc) := hcut
  clear hcut b4 N4 hkr bwC b3e
  go_wp2_with fail
  go_ret
  exact ⟨rfl, bbN.out.trans (b9.out.mono bbN.out.size)⟩
end Go.Proofs.Yteelanamlhfmgaa.HeadBack
