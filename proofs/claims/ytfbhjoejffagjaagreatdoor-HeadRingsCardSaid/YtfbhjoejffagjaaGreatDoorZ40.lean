/-
  Texts of the claim, put into one file: Insert.
-/
import Derived.Test.YtfbhjoejffagjaaGreatDoorZ31
import Derived.Test.YtfbhjoejffagjaaGreatDoorZ21
import Derived.Test.YtfbhjoejffagjaaGreatDoorZ11
import Derived.Lib.Overlaps
import Derived.Lib.AppendZerosOnto
import Derived.Laws.Externs
import Derived.Deep.Cut

namespace Go.Proofs.YtfbhjoejffagjaaGreatDoor.Insert
open Go Go.RowKit Go.Proofs.YtfbhjoejffagjaaGreatDoor Go.Proofs.YtfbhjoejffagjaaGreatDoor.Mem Go.Proofs.YtfbhjoejffagjaaGreatDoor.Sha Go.Proofs.YtfbhjoejffagjaaGreatDoor.Bytes Go.Proofs.YtfbhjoejffagjaaGreatDoor.SortP Go.Proofs.YtfbhjoejffagjaaGreatDoor.NoteP Go.Proofs.YtfbhjoejffagjaaGreatDoor.QuietTail Go.Proofs.YtfbhjoejffagjaaGreatDoor.Grown Go.Proofs.YtfbhjoejffagjaaGreatDoor.Want Go.Proofs.YtfbhjoejffagjaaGreatDoor.Append Go.Proofs.YtfbhjoejffagjaaGreatDoor.Own Go.Proofs.YtfbhjoejffagjaaGreatDoor.Rise Go.Proofs.YtfbhjoejffagjaaGreatDoor.SortM Go.Proofs.YtfbhjoejffagjaaGreatDoor.SgM Go.Proofs.YtfbhjoejffagjaaGreatDoor.EncNoteP Go.Proofs.YtfbhjoejffagjaaGreatDoor.RowS

/-- One sign laid between. -/
def mid (ss : List Text) (i : Nat) (x : Text) : List Text := ss.take i ++ [x] ++ ss.drop i
set_option maxRecDepth 100000 in
set_option maxHeartbeats 2000000 in
theorem ins_end (ss : List Text) (n : Nat) (hn47 : n ≤ 1099511627776) (x : Text) (hx : x.length = 64) (A : Option Addr) (c B gv : Nat) (w : World) (hB : B ≤ w.heap.size) (hO : OwnS w B (.slice A n c) n ss) (hV : Blk w gv 56 (cells8 x).toArray) :
    Calls Tryz.prog 80 #[.slice A n c, .int .i64 (n : Int), .slice (some ⟨gv, 0, none⟩) 1 1] w fun e w' => ∃ v, e = .returned v ∧ OwnS w' B v (n + 1) (mid ss n x) ∧ Below B w w' := by
  obtain ⟨i0, ii, iz0, iz1, iz2⟩ := info_partsN info64
  have hT := run_tailS (A := A) (n := n) (c := c) (k := n) (Nat.le_refl _) (n : Int) rfl
  have hN : Hid (Reads w 64 (some ⟨gv, 0, none⟩) 1 ([x].flatMap cells8)) := Blk.reads hV 0 _ (by rw [List.flatMap_cons, List.flatMap_nil, List.append_nil, cells8_len, hx]) (fun j u hu => by rw [Nat.zero_add, List.getElem?_toArray]; simpa using hu)
  have m1 : Hid (n + 1 ≤ maxLen) := by show _ ≤ _; unfold maxLen; omega
  have m2 : Hid ((n + 1) * 64 ≤ 140737488355328) := by show _ ≤ _; omega
  have hxs : Hid (Sns [x]) := Sns.one hx
  have hO' := Lib.hid hO
  have hB' := Lib.hid hB
  have hm : Hid (mid ss n x = ss ++ [x]) := by
    show _ = _
    unfold mid
    rw [List.take_of_length_le (Nat.le_of_eq hO.2.1), List.drop_of_length_le (Nat.le_of_eq hO.2.1), List.append_nil]
  have hn6 : (n : Int) ≤ 1099511627776 := by omega
  clear hO hV hB hx
  go_enter Tryz.func80, Tryz.ntmps80
  go_wp2_with ((with_reducible change wpList _ _ _ ({ dst := some 25, op := _, type := _, pos := _, after := _, guard := _ } :: _) _ _); refine wpList_append_src _ (o := ⟨some 25, _, _, _, _, _⟩) rfl (.tmp 23) (.tmp 24) 37 rfl B 56 i0 (.agg Z64) 64 64 Tryz.underlying37 ii iz0 iz1 iz2 rfl (by decide) (.slice A n c) n (ss.flatMap cells8) rfl hO'.out.2.2 (some ⟨gv, 0, none⟩) 1 1 ([x].flatMap cells8) rfl hN.out (fun e => by cases e) (one_signs [x]) m1.out m2.out hB'.out ?_; intro v1 w1 hG; have hOB := Lib.hid (grew_signs hG (Below.refl _ _) hB'.out hO'.out hxs.out rfl); clear hG)
  go_ret
  exact ⟨v1, rfl, by rw [hm.out]; exact hOB.out.1, hOB.out.2⟩
end Go.Proofs.YtfbhjoejffagjaaGreatDoor.Insert
