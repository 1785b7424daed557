/-
  head.isKey and head.Sign, walked. (Printed by gen_signs.py.)
-/
import Derived.Test.YtngieimjlkpkaaaDoorHeadSign
namespace Go.Proofs.YtngieimjlkpkaaaDoor.Signs
open Go Go.RowKit Go.Proofs.YtngieimjlkpkaaaDoor Go.Proofs.YtngieimjlkpkaaaDoor.Mem Go.Proofs.YtngieimjlkpkaaaDoor.Sha Go.Proofs.YtngieimjlkpkaaaDoor.Bytes Go.Proofs.YtngieimjlkpkaaaDoor.HashMem Go.Proofs.YtngieimjlkpkaaaDoor.Append Go.Proofs.YtngieimjlkpkaaaDoor.DigestMem Go.Proofs.YtngieimjlkpkaaaDoor.Digest Go.Proofs.YtngieimjlkpkaaaDoor.Mac Go.Proofs.YtngieimjlkpkaaaDoor.HeadMem Go.Proofs.YtngieimjlkpkaaaDoor.HeadID Go.Proofs.YtngieimjlkpkaaaDoor.Sign Go.Proofs.YtngieimjlkpkaaaDoor.HeadSign

theorem results_cell_row2 {P : Program} {fn : Func} {p u : Tmp} {ty : TypeId} (h : fn.results = #[.cell p ty, .tmp u]) (tmps : Array Value) (w : World) (g : Nat) (t : TypeId) (cs : Array Value) (fr : Nat × Nat) (d : TypeDesc)
    (hp : tmps.getD p undef = .pointer (some ⟨g, 0, none⟩)) (hg : w.heap[g]? = some (.cells cs t fr))
    (hu : P.underlying ty = some d) (hd : (match d with | .struct _ | .array _ _ => true | _ => false) = true) (hi : (P.info? ty).map (·.size) = some cs.size) :
    (results fn tmps).run P w = .ok (.tuple #[.agg cs, tmps.getD u undef]) w := by
  have hp' : tmps[p]?.getD undef = .pointer (some ⟨g, 0, none⟩) := by simpa using hp
  simp [results, h, hp', asAddr, run_loadVar_row w g t ty cs fr d hg hu hd hi, Result.andThen]
/-- A key has one to 64 bytes. -/
def keyB (k : Nat) : Bool := decide (0 < (k : Int)) && decide ((k : Int) ≤ 64)
theorem keyB_yes {k : Nat} (h : keyB k = true) : 0 < k ∧ k ≤ 64 := by
  unfold keyB at h
  simp at h
  omega
/-- No sign at all. -/
def noSign : Text := List.replicate 64 0
theorem noSign_len : noSign.length = 64 := by simp [noSign]
/-- What signing answers: the sign and the error's number. -/
def signAns (h : HeadD) (q : Text) : Text × Int := if keyB q.length then (if rightB h then (signOf h q, 0) else (noSign, 1)) else (noSign, 160)
theorem signAns_len (h : HeadD) (q : Text) : (signAns h q).1.length = 64 := by
  unfold signAns
  split
  · split
    · exact signOf_len h q
    · exact noSign_len
  · exact noSign_len

set_option maxRecDepth 100000 in
theorem isKey_any (k : Nat) (A : Option Addr) (c : Nat) (w : World) :
    Calls Tryd.prog 55 #[.slice A k c] w fun e w' => e = .returned (.bool (keyB k)) ∧ w' = w := by
  by_cases h1 : (0 : Int) < (k : Int)
  · by_cases h2 : (k : Int) ≤ 64
    · have h3 : Hid (keyB k = true) := by show _ = _; simp only [keyB, h1, h2, decide_true, Bool.and_self]
      go_enter Tryd.func55, Tryd.ntmps55
      go_wp2_with fail
      go_ret
      rw [h3.out]
      exact ⟨rfl, rfl⟩
    · have h3 : Hid (keyB k = false) := by show _ = _; simp only [keyB, h2, decide_false, Bool.and_false]
      go_enter Tryd.func55, Tryd.ntmps55
      go_wp2_with fail
      go_ret
      rw [h3.out]
      exact ⟨rfl, rfl⟩
  · have h3 : Hid (keyB k = false) := by show _ = _; simp only [keyB, h1, decide_false, Bool.false_and]
    go_enter Tryd.func55, Tryd.ntmps55
    go_wp2_with fail
    go_ret
    rw [h3.out]
    exact ⟨rfl, rfl⟩

set_option maxRecDepth 100000 in
set_option maxHeartbeats 1000000 in
theorem headSign_any (h : HeadD) (ok : h.Ok) (q : Text) (k : Nat) (hk : q.length = k) (A : Option Addr) (c : Nat) (w : World) (hB : Base w) (hq : Reads w 1 A k (cells8 q)) (hc : k ≤ c) (hnil : A = none → k = 0 ∧ c = 0) :
    Calls Tryd.prog 31 #[.agg (headCells h).toArray, .slice A k c] w fun e w' => e = .returned (.tuple #[.agg (cells8 (signAns h q).1).toArray, .int .i64 (signAns h q).2]) ∧ Below w.heap.size w w' := by
  have hH : Hid (Blk ((w.alloc (.cells (headCells h).toArray 49)).alloc (.cells Z64 51)) w.heap.size 49 (headCells h).toArray) := heap_alloc2_old w _ _
  have hS : Hid (Blk ((w.alloc (.cells (headCells h).toArray 49)).alloc (.cells Z64 51)) (w.heap.size + 1) 51 Z64) := heap_alloc2_new w _ _
  have hb0 : Hid (Below w.heap.size w ((w.alloc (.cells (headCells h).toArray 49)).alloc (.cells Z64 51))) := ((Below.refl _ w).alloc (Nat.le_refl _) _).alloc (by simp) _
  have hsz : Hid ((Tryd.prog.info? 49).map (·.size) = some (headCells h).toArray.size) := by show _ = _; rw [List.size_toArray, headCells_len ok]; exact size98
  have n1 := Lib.hid (sign_size _ noSign_len)
  have n2 := Lib.hid (sign_zero _ noSign_len)
  have n3 := Lib.hid (sign_one noSign)
  have m1 := Lib.hid (sign_size _ (signOf_len h q))
  have m2 := Lib.hid (sign_zero _ (signOf_len h q))
  have m3 := Lib.hid (sign_one (signOf h q))
  obtain ⟨W, hW⟩ : ∃ W, Hid (W = ((w.alloc (.cells (headCells h).toArray 49)).alloc (.cells Z64 51))) := ⟨_, rfl⟩
  replace hk := Lib.hid hk
  replace hB := Lib.hid hB
  replace hq := Lib.hid hq
  replace hnil := Lib.hid hnil
  have okh := Lib.hid ok
  clear ok
  by_cases hkey : keyB k = true
  · have hkk := keyB_yes hkey
    by_cases hr : rightB h = true
    · have hans : Hid (signAns h q = (signOf h q, 0)) := by show _ = _; unfold signAns; rw [hk.out, if_pos hkey, if_pos hr]
      rw [hans.out]
      have hkeyh := Lib.hid hkey
      have hrh := Lib.hid hr
      clear hkey hr
      go_enter Tryd.func31, Tryd.ntmps31
      go_wp2_with (first
        | (go_at_call 55; refine (isKey_any k A c _).mono ?_; rw [hkeyh.out]; rintro e w1 ⟨rfl, rfl⟩)
        | ((with_reducible change wpList _ _ _ ({ dst := some 10, op := _, type := _, pos := _, after := _, guard := _ } :: _) _ _); refine wpList_load_row (o := ⟨some 10, _, _, _, _, _⟩) rfl 49 (.tmp 2) rfl (w.heap.size) rfl 49 ((headCells h).toArray) (0, 0) _ hH.out Tryd.underlying49 rfl hsz.out ?_)
        | (go_at_call 56; refine (right_any h okh.out _).mono ?_; rw [hrh.out]; rintro e w2 ⟨rfl, hb2⟩; replace hb2 := Lib.hid hb2; have hH2 : Hid (Blk w2 w.heap.size 49 (headCells h).toArray) := (hb2.out.block _ hH.out.lt).trans hH.out; have hS2 : Hid (Blk w2 (w.heap.size + 1) 51 Z64) := (hb2.out.block _ hS.out.lt).trans hS.out; have hbw : Hid (Below w.heap.size w w2) := hb0.out.trans (hb2.out.mono hb0.out.size); clear hb2)
        | ((with_reducible change wpList _ _ _ ({ dst := some 14, op := _, type := _, pos := _, after := _, guard := _ } :: _) _ _); refine wpList_load_row (o := ⟨some 14, _, _, _, _, _⟩) rfl 49 (.tmp 2) rfl (w.heap.size) rfl 49 ((headCells h).toArray) (0, 0) _ hH2.out Tryd.underlying49 rfl hsz.out ?_)
        | (go_at_call 57; refine (sign_any h okh.out hrh.out q k hk.out hkk.2 A c w2 (hB.out.below hbw.out hB.out.1) (hq.out.below hbw.out) hc hnil.out).mono ?_; rintro e w3 ⟨rfl, hb3⟩; have hS3 : Hid (Blk w3 (w.heap.size + 1) 51 Z64) := (hb3.block _ hS2.out.lt).trans hS2.out; have hbw3 : Hid (Below w.heap.size w w3) := hbw.out.trans (hb3.mono hbw.out.size); clear hb3)
        | ((with_reducible change wpList _ _ _ ({ dst := none, op := Op.store 51 _ _, type := _, pos := _, after := _, guard := _ } :: _) _ _); refine wpList_store_row (o := ⟨none, _, _, _, _, _⟩) rfl 51 (.tmp 4) (.tmp 16) rfl (w.heap.size + 1) ((cells8 (signOf h q)).toArray) rfl rfl 51 (Z64) hS3.out m1.out m2.out m3.out ?_))
      refine bodyPost_ret (results_cell_row2 rfl _ _ (w.heap.size + 1) 51 (cells8 (signOf h q)).toArray (0, 0) _ rfl (setRow_heap _ _ _ _ _ _ hS3.out) Tryd.underlying51 rfl m1.out) rfl ?_
      exact ⟨rfl, below_setRow hbw3.out (by omega) _⟩
    · have hans : Hid (signAns h q = (noSign, 1)) := by show _ = _; unfold signAns; rw [hk.out, if_pos hkey, if_neg hr]
      rw [hans.out]
      have hkeyh := Lib.hid hkey
      have hrh : Hid (rightB h = false) := by show _ = _; simpa using hr
      clear hkey hr
      go_enter Tryd.func31, Tryd.ntmps31
      go_wp2_with (first
        | (go_at_call 55; refine (isKey_any k A c _).mono ?_; rw [hkeyh.out]; rintro e w1 ⟨rfl, rfl⟩)
        | ((with_reducible change wpList _ _ _ ({ dst := some 10, op := _, type := _, pos := _, after := _, guard := _ } :: _) _ _); refine wpList_load_row (o := ⟨some 10, _, _, _, _, _⟩) rfl 49 (.tmp 2) rfl (w.heap.size) rfl 49 ((headCells h).toArray) (0, 0) _ hH.out Tryd.underlying49 rfl hsz.out ?_)
        | (go_at_call 56; refine (right_any h okh.out _).mono ?_; rw [hrh.out]; rintro e w2 ⟨rfl, hb2⟩; replace hb2 := Lib.hid hb2; have hS2 : Hid (Blk w2 (w.heap.size + 1) 51 Z64) := (hb2.out.block _ hS.out.lt).trans hS.out; have hbw : Hid (Below w.heap.size w w2) := hb0.out.trans (hb2.out.mono hb0.out.size); clear hb2)
        | ((with_reducible change wpList _ _ _ ({ dst := none, op := Op.store 51 _ _, type := _, pos := _, after := _, guard := _ } :: _) _ _); refine wpList_store_row (o := ⟨none, _, _, _, _, _⟩) rfl 51 (.tmp 4) (.tmp 13) rfl (w.heap.size + 1) ((cells8 noSign).toArray) rfl rfl 51 (Z64) hS2.out n1.out n2.out n3.out ?_))
      refine bodyPost_ret (results_cell_row2 rfl _ _ (w.heap.size + 1) 51 (cells8 (noSign)).toArray (0, 0) _ rfl (setRow_heap _ _ _ _ _ _ hS2.out) Tryd.underlying51 rfl n1.out) rfl ?_
      exact ⟨rfl, below_setRow hbw.out (by omega) _⟩
  · have hans : Hid (signAns h q = (noSign, 160)) := by show _ = _; unfold signAns; rw [hk.out, if_neg hkey]
    rw [hans.out]
    have hkeyh : Hid (keyB k = false) := by show _ = _; simpa using hkey
    clear hkey
    go_enter Tryd.func31, Tryd.ntmps31
    go_wp2_with (first
      | (go_at_call 55; refine (isKey_any k A c _).mono ?_; rw [hkeyh.out]; rintro e w1 ⟨rfl, rfl⟩)
      | ((with_reducible change wpList _ _ _ ({ dst := none, op := Op.store 51 _ _, type := _, pos := _, after := _, guard := _ } :: _) _ _); refine wpList_store_row (o := ⟨none, _, _, _, _, _⟩) rfl 51 (.tmp 4) (.tmp 9) rfl (w.heap.size + 1) ((cells8 noSign).toArray) rfl rfl 51 (Z64) hS.out n1.out n2.out n3.out ?_))
    refine bodyPost_ret (results_cell_row2 rfl _ _ (w.heap.size + 1) 51 (cells8 (noSign)).toArray (0, 0) _ rfl (setRow_heap _ _ _ _ _ _ hS.out) Tryd.underlying51 rfl n1.out) rfl ?_
    exact ⟨rfl, below_setRow hb0.out (by omega) _⟩
end Go.Proofs.YtngieimjlkpkaaaDoor.Signs
