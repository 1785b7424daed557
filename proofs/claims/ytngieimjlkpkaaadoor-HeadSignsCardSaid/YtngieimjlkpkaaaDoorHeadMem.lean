/-
  A head as cells, its bytes; right, lay, laid, EncodeHead, walked.
-/
import Derived.Test.YtngieimjlkpkaaaDoorOctet2
namespace Go.Proofs.YtngieimjlkpkaaaDoor.HeadMem
open Go Go.RowKit Go.Proofs.YtngieimjlkpkaaaDoor Go.Proofs.YtngieimjlkpkaaaDoor.Mem Go.Proofs.YtngieimjlkpkaaaDoor.Sha Go.Proofs.YtngieimjlkpkaaaDoor.Bytes Go.Proofs.YtngieimjlkpkaaaDoor.Append Go.Proofs.YtngieimjlkpkaaaDoor.Octet Go.Proofs.YtngieimjlkpkaaaDoor.Octet2

structure HeadD where
  log : Text
  size : Int
  root : Text
  index : Text
  clock : Int
structure HeadD.Ok (h : HeadD) : Prop where
  log : h.log.length = 32
  root : h.root.length = 32
  index : h.index.length = 32
  size : -9223372036854775808 ≤ h.size ∧ h.size ≤ 9223372036854775807
  clock : -9223372036854775808 ≤ h.clock ∧ h.clock ≤ 9223372036854775807
def headCells (h : HeadD) : List Value := cells8 h.log ++ ([.int .i64 h.size] ++ (cells8 h.root ++ (cells8 h.index ++ [.int .i64 h.clock])))
theorem headCells_len {h : HeadD} (ok : h.Ok) : (headCells h).length = 98 := by simp [headCells, cells8_len, ok.log, ok.root, ok.index]
theorem headCells_one (h : HeadD) : ∀ v ∈ headCells h, v.oneCell' = true := by
  intro v hv
  simp only [headCells, List.mem_append, List.mem_singleton] at hv
  rcases hv with hv | rfl | hv | hv | rfl
  · exact cells8_one _ v hv
  · rfl
  · exact cells8_one _ v hv
  · exact cells8_one _ v hv
  · rfl
theorem headCells_log {h : HeadD} (j : Nat) (v : Value) (hv : (cells8 h.log)[j]? = some v) : (headCells h)[0 + j]? = some v := by
  have hj : j < (cells8 h.log).length := (List.getElem?_eq_some_iff.1 hv).1
  rw [headCells, Nat.zero_add, List.getElem?_append_left hj, hv]
theorem headCells_size {h : HeadD} (ok : h.Ok) : (headCells h)[32]? = some (.int .i64 h.size) := by
  rw [headCells, List.getElem?_append_right (by rw [cells8_len, ok.log]; omega), cells8_len, ok.log]
  rfl
theorem headCells_root {h : HeadD} (ok : h.Ok) (j : Nat) (v : Value) (hv : (cells8 h.root)[j]? = some v) : (headCells h)[33 + j]? = some v := by
  have hj : j < (cells8 h.root).length := (List.getElem?_eq_some_iff.1 hv).1
  rw [headCells, List.getElem?_append_right (by rw [cells8_len, ok.log]; omega), cells8_len, ok.log, List.getElem?_append_right (by simp; omega)]
  rw [List.length_singleton, show 33 + j - 32 - 1 = j by omega, List.getElem?_append_left hj, hv]
theorem headCells_index {h : HeadD} (ok : h.Ok) (j : Nat) (v : Value) (hv : (cells8 h.index)[j]? = some v) : (headCells h)[65 + j]? = some v := by
  have hj : j < (cells8 h.index).length := (List.getElem?_eq_some_iff.1 hv).1
  rw [headCells, List.getElem?_append_right (by rw [cells8_len, ok.log]; omega), cells8_len, ok.log, List.getElem?_append_right (by simp; omega)]
  rw [List.length_singleton, List.getElem?_append_right (by rw [cells8_len, ok.root]; omega), cells8_len, ok.root, show 65 + j - 32 - 1 - 32 = j by omega, List.getElem?_append_left hj, hv]
theorem headCells_clock {h : HeadD} (ok : h.Ok) : (headCells h)[97]? = some (.int .i64 h.clock) := by
  rw [headCells, List.getElem?_append_right (by rw [cells8_len, ok.log]; omega), cells8_len, ok.log, List.getElem?_append_right (by simp)]
  rw [List.length_singleton, List.getElem?_append_right (by rw [cells8_len, ok.root]; omega), cells8_len, ok.root, List.getElem?_append_right (by rw [cells8_len, ok.index]; omega), cells8_len, ok.index]
  rfl
/-- Whether a head's numbers may be. -/
def rightB (h : HeadD) : Bool := decide (0 ≤ h.size) && decide (h.size ≤ 1099511627776) && decide (0 ≤ h.clock) && decide (h.clock ≤ 4611686018427387904)
/-- A head's bytes. -/
def headBytes (h : HeadD) : Text := [32] ++ h.log ++ be8 h.size.toNat ++ (h.root ++ h.index) ++ be8 h.clock.toNat
theorem headBytes_len {h : HeadD} (ok : h.Ok) : (headBytes h).length = 113 := by simp [headBytes, be8_len, ok.log, ok.root, ok.index]

set_option maxRecDepth 100000 in
set_option maxHeartbeats 1000000 in
theorem right_any (h : HeadD) (ok : h.Ok) (w : World) :
    Calls Tryd.prog 56 #[.agg (headCells h).toArray] w fun e w' => e = .returned (.bool (rightB h)) ∧ Below w.heap.size w w' := by
  have e1 : (headCells h).toArray[32]? = some (.int .i64 h.size) := by rw [List.getElem?_toArray]; exact headCells_size ok
  have e2 : (headCells h).toArray[97]? = some (.int .i64 h.clock) := by rw [List.getElem?_toArray]; exact headCells_clock ok
  have f1 := headCells_size ok
  have f2 := headCells_clock ok
  have hb : Below w.heap.size w (w.alloc (.cells (headCells h).toArray 49)) := Below.heap_below w _
  replace hb := Lib.hid hb
  have hk : Hid (rightB h = (decide (0 ≤ h.size) && decide (h.size ≤ 1099511627776) && decide (0 ≤ h.clock) && decide (h.clock ≤ 4611686018427387904))) := rfl
  generalize rightB h = b at *
  generalize headCells h = cs at *
  generalize h.size = n at *
  generalize h.clock = m at *
  rcases Bool.eq_false_or_eq_true (decide (0 ≤ n)) with b1 | b1 <;> rcases Bool.eq_false_or_eq_true (decide (n ≤ 1099511627776)) with b2 | b2 <;> rcases Bool.eq_false_or_eq_true (decide (0 ≤ m)) with b3 | b3 <;> rcases Bool.eq_false_or_eq_true (decide (m ≤ 4611686018427387904)) with b4 | b4
  all_goals
    have k1 := Lib.hid b1
    have k2 := Lib.hid b2
    have k3 := Lib.hid b3
    have k4 := Lib.hid b4
    go_enter Tryd.func56, Tryd.ntmps56
    go_wp2_with fail
    go_ret
    refine ⟨?_, hb.out⟩
    rw [hk.out, k1.out, k2.out, k3.out, k4.out]
    rfl

theorem agg_hi {T : TypeId} {cs : List Value} {n : Nat} (h : (Tryd.prog.info? T).map (·.size) = some n) (hl : cs.length = n) : (Tryd.prog.info? T).map (·.size) = some cs.length := by rw [hl]; exact h
theorem size32 : (Tryd.prog.info? 31).map (·.size) = some 32 := by kernel_rfl
theorem zero32 : ((Tryd.prog.info? 31).bind (·.zero)).isSome = true := by kernel_rfl
theorem size98 : (Tryd.prog.info? 49).map (·.size) = some 98 := by kernel_rfl

set_option maxRecDepth 100000 in
set_option maxHeartbeats 1000000 in
theorem lay_any (h : HeadD) (ok : h.Ok) (hr : rightB h = true) (g : Nat) (r : Option Nat) (l : Text) (w : World) (hl : l.length + 113 ≤ 140737488355328) (hw : WrAt w g r l) :
    Calls Tryd.prog 88 #[.pointer (some ⟨g, 0, none⟩), .agg (headCells h).toArray] w fun e w' => e = .returned (.tuple #[]) ∧ Wrote w g r (l ++ headBytes h) w' := by
  have hrb : 0 ≤ h.size ∧ h.size ≤ 1099511627776 ∧ 0 ≤ h.clock ∧ h.clock ≤ 4611686018427387904 := by simpa [rightB, and_assoc] using hr
  obtain ⟨hs0, hs1, hm0, hm1⟩ := hrb
  have hW0 : Hid (Wrote (w.alloc (.cells (headCells h).toArray 49)) g r l (w.alloc (.cells (headCells h).toArray 49))) := (hw.alloc _).refl
  have hne : Hid (w.heap.size ≠ g ∧ some w.heap.size ≠ r) := by
    refine ⟨fun e => ?_, fun e => ?_⟩
    · have := hw.lt; omega
    · obtain ⟨v, _, _, _, hr1⟩ := hw
      have := (hr1 _ e.symm).2
      omega
  have hB0 : Hid (Blk (w.alloc (.cells (headCells h).toArray 49)) w.heap.size 49 (headCells h).toArray) := Blk.new w _ _
  replace hl := Lib.hid hl
  have dl := Lib.hid ok.log
  have dr := Lib.hid ok.root
  have di := Lib.hid ok.index
  have c1 := fun (w' : World) (hb : Blk w' w.heap.size 49 (headCells h).toArray) (j : Nat) (v : Value) (hv : (cells8 h.log)[j]? = some v) => ((hb.cell (0 + j)).trans (by rw [List.getElem?_toArray]; exact headCells_log j v hv) : w'.cell? ⟨w.heap.size, 0 + j, none⟩ = some v)
  have c2 := fun (w' : World) (hb : Blk w' w.heap.size 49 (headCells h).toArray) => ((hb.cell 32).trans (by rw [List.getElem?_toArray]; exact headCells_size ok) : w'.cell? ⟨w.heap.size, 32, none⟩ = some (.int .i64 h.size))
  have c3 := fun (w' : World) (hb : Blk w' w.heap.size 49 (headCells h).toArray) (j : Nat) (v : Value) (hv : (cells8 h.root)[j]? = some v) => ((hb.cell (33 + j)).trans (by rw [List.getElem?_toArray]; exact headCells_root ok j v hv) : w'.cell? ⟨w.heap.size, 33 + j, none⟩ = some v)
  have c4 := fun (w' : World) (hb : Blk w' w.heap.size 49 (headCells h).toArray) (j : Nat) (v : Value) (hv : (cells8 h.index)[j]? = some v) => ((hb.cell (65 + j)).trans (by rw [List.getElem?_toArray]; exact headCells_index ok j v hv) : w'.cell? ⟨w.heap.size, 65 + j, none⟩ = some v)
  have c5 := fun (w' : World) (hb : Blk w' w.heap.size 49 (headCells h).toArray) => ((hb.cell 97).trans (by rw [List.getElem?_toArray]; exact headCells_clock ok) : w'.cell? ⟨w.heap.size, 97, none⟩ = some (.int .i64 h.clock))
  replace c1 := Lib.hid c1
  replace c2 := Lib.hid c2
  replace c3 := Lib.hid c3
  replace c4 := Lib.hid c4
  replace c5 := Lib.hid c5
  have s1 : Hid ((Tryd.prog.info? 31).map (·.size) = some (cells8 h.log).length) := agg_hi size32 (by rw [cells8_len, ok.log])
  have s2 : Hid ((Tryd.prog.info? 31).map (·.size) = some (cells8 h.root).length) := agg_hi size32 (by rw [cells8_len, ok.root])
  have s3 : Hid ((Tryd.prog.info? 31).map (·.size) = some (cells8 h.index).length) := agg_hi size32 (by rw [cells8_len, ok.index])
  have q1 : Hid (∀ v ∈ [cells8 h.log], v.length = 32) := by intro v hv; simp only [List.mem_singleton] at hv; rw [hv, cells8_len, ok.log]
  have q2 : Hid (∀ v ∈ [cells8 h.root, cells8 h.index], v.length = 32) := by
    intro v hv
    simp only [List.mem_cons, List.not_mem_nil, or_false] at hv
    rcases hv with rfl | rfl
    · rw [cells8_len, ok.root]
    · rw [cells8_len, ok.index]
  have d1 : Hid (∀ d ∈ [h.log], d.length = 32) := by intro v hv; simp only [List.mem_singleton] at hv; rw [hv, ok.log]
  have d2 : Hid (∀ d ∈ [h.root, h.index], d.length = 32) := by
    intro v hv
    simp only [List.mem_cons, List.not_mem_nil, or_false] at hv
    rcases hv with rfl | rfl
    · exact ok.root
    · exact ok.index
  have y1 : IntKind.u64.wrap h.size = h.size := u64_in _ hs0 (by omega)
  have y2 : IntKind.u64.wrap h.clock = h.clock := u64_in _ hm0 (by omega)
  have n1 : Hid ((h.size.toNat : Int) = h.size ∧ h.size.toNat < 18446744073709551616) := by refine ⟨?_, ?_⟩ <;> omega
  have n2 : Hid ((h.clock.toNat : Int) = h.clock ∧ h.clock.toNat < 18446744073709551616) := by refine ⟨?_, ?_⟩ <;> omega
  have hfin : Hid (l ++ headBytes h = l ++ [32] ++ [h.log].flatten ++ be8 h.size.toNat ++ [h.root, h.index].flatten ++ be8 h.clock.toNat) := by show _ = _; simp [headBytes]
  have l8 := fun N => Lib.hid (be8_len N)
  have hB9 := hB0
  obtain ⟨X1, x1⟩ : ∃ X, Hid (X = ([cells8 h.log].flatten).toArray) := ⟨_, rfl⟩
  obtain ⟨X2, x2⟩ : ∃ X, Hid (X = ([cells8 h.root, cells8 h.index].flatten).toArray) := ⟨_, rfl⟩
  go_enter Tryd.func88, Tryd.ntmps88
  go_wp2_with (first
    | (go_at_call 93; refine (put1_from 32 32 rfl (by have := hl.out; omega) hW0.out).mono ?_; rintro e w1 ⟨rfl, hW1⟩; replace hW1 := Lib.hid hW1; have hB1 := Lib.hid (hW1.out.blk hB0.out hne.out.1 hne.out.2); have e1 := Lib.hid (c1.out w1 hB1.out); clear hW0 hB0)
    | ((with_reducible change wpList _ _ _ ({ dst := some 8, op := _, type := _, pos := _, after := _, guard := _ } :: _) _ _); refine wpList_load_part (o := ⟨some 8, _, _, _, _, _⟩) rfl 31 (.tmp 7) rfl w.heap.size 0 rfl (cells8 h.log) _ e1.out Tryd.underlying31 rfl s1.out ?_)
    | ((with_reducible change wpList _ _ _ ({ dst := some 9, op := _, type := _, pos := _, after := _, guard := _ } :: _) _ _); refine wpList_buildAggs (o := ⟨some 9, _, _, _, _, _⟩) rfl 41 31 1 _ rfl 32 (by decide) [cells8 h.log] Tryd.underlying41 size32 zero32 rfl (by decide) (by decide) q1.out rfl ?_; rw [← x1.out])
    | (go_at_call 94; rw [show X1 = (([h.log].map cells8).flatten).toArray from x1.out]; refine (digests_new [h.log] 1 rfl d1.out (by have := hl.out; simp; omega) hW1.out).mono ?_; rintro e w2 ⟨rfl, hW2⟩; replace hW2 := Lib.hid hW2; have hB2 := Lib.hid (hW2.out.blk hB9.out hne.out.1 hne.out.2); have e2 := c2.out w2 hB2.out; clear hW1 hB1 e1)
    | (go_at_call 95; refine (put8_from h.size h.size.toNat n1.out.1 n1.out.2 (by have := hl.out; have := dl.out; simp; omega) hW2.out).mono ?_; rintro e w3 ⟨rfl, hW3⟩; replace hW3 := Lib.hid hW3; have hB3 := Lib.hid (hW3.out.blk hB9.out hne.out.1 hne.out.2); have e3 := Lib.hid (c3.out w3 hB3.out); have e4 := Lib.hid (c4.out w3 hB3.out); clear hW2 hB2 e2)
    | ((with_reducible change wpList _ _ _ ({ dst := some 18, op := _, type := _, pos := _, after := _, guard := _ } :: _) _ _); refine wpList_load_part (o := ⟨some 18, _, _, _, _, _⟩) rfl 31 (.tmp 17) rfl w.heap.size 33 rfl (cells8 h.root) _ e3.out Tryd.underlying31 rfl s2.out ?_)
    | ((with_reducible change wpList _ _ _ ({ dst := some 20, op := _, type := _, pos := _, after := _, guard := _ } :: _) _ _); refine wpList_load_part (o := ⟨some 20, _, _, _, _, _⟩) rfl 31 (.tmp 19) rfl w.heap.size 65 rfl (cells8 h.index) _ e4.out Tryd.underlying31 rfl s3.out ?_)
    | ((with_reducible change wpList _ _ _ ({ dst := some 21, op := _, type := _, pos := _, after := _, guard := _ } :: _) _ _); refine wpList_buildAggs (o := ⟨some 21, _, _, _, _, _⟩) rfl 41 31 2 _ rfl 32 (by decide) [cells8 h.root, cells8 h.index] Tryd.underlying41 size32 zero32 rfl (by decide) (by decide) q2.out rfl ?_; rw [← x2.out])
    | (go_at_call 94; rw [show X2 = (([h.root, h.index].map cells8).flatten).toArray from x2.out]; refine (digests_new [h.root, h.index] 2 rfl d2.out (by have := hl.out; have := dl.out; have := (l8 h.size.toNat).out; simp; omega) hW3.out).mono ?_; rintro e w4 ⟨rfl, hW4⟩; replace hW4 := Lib.hid hW4; have hB4 := Lib.hid (hW4.out.blk hB9.out hne.out.1 hne.out.2); have e5 := c5.out w4 hB4.out; clear hW3 hB3 e3 e4)
    | (go_at_call 95; refine (put8_from h.clock h.clock.toNat n2.out.1 n2.out.2 (by have := hl.out; have := dl.out; have := dr.out; have := di.out; have := (l8 h.size.toNat).out; simp; omega) hW4.out).mono ?_; rintro e w5 ⟨rfl, hW5⟩; replace hW5 := Lib.hid hW5))
  go_end0
  exact ⟨rfl, by have := hW5.out.of_alloc; rw [← hfin.out] at this; exact this⟩
end Go.Proofs.YtngieimjlkpkaaaDoor.HeadMem
