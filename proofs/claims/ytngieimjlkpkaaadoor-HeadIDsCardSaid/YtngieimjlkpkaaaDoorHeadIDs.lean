/-
  docketlaw16.HeadIDs, walked.
-/
import Derived.Test.YtngieimjlkpkaaaDoorHeadLog
import Derived.Test.YtngieimjlkpkaaaDoorDigEq
namespace Go.Proofs.YtngieimjlkpkaaaDoor.HeadIDs
open Go Go.RowKit Go.Proofs.YtngieimjlkpkaaaDoor Go.Proofs.YtngieimjlkpkaaaDoor.Mem Go.Proofs.YtngieimjlkpkaaaDoor.Sha Go.Proofs.YtngieimjlkpkaaaDoor.ShaWalk Go.Proofs.YtngieimjlkpkaaaDoor.HashMem Go.Proofs.YtngieimjlkpkaaaDoor.Hash Go.Proofs.YtngieimjlkpkaaaDoor.HashSum Go.Proofs.YtngieimjlkpkaaaDoor.DigestMem Go.Proofs.YtngieimjlkpkaaaDoor.Digest Go.Proofs.YtngieimjlkpkaaaDoor.DigestOf Go.Proofs.YtngieimjlkpkaaaDoor.RefSum Go.Proofs.YtngieimjlkpkaaaDoor.HeadID Go.Proofs.YtngieimjlkpkaaaDoor.Law16 Go.Proofs.YtngieimjlkpkaaaDoor.HeadLog Go.Proofs.YtngieimjlkpkaaaDoor.DigEq

set_option maxRecDepth 100000 in
set_option maxHeartbeats 600000 in
theorem headIDs_any (s : ByteArray) (hs63 : s.size < 9223372036854775807) (q : Text) (k : Nat) (hk : q.length = k) (A : Option Addr) (c : Nat) (w : World) (hB : Base w) (hr : Reads w 1 A k (cells8 q)) (hc : k ≤ c) (hk47 : k < 140737488355328) (hnil : A = none → k = 0 ∧ c = 0) :
    Calls Tryd.prog 4 #[.string s, .slice A k c] w fun e w' => e = .returned (.bool true) ∧ Below w.heap.size w w' := by
  have hne : ∀ w, (binOp .neq 31 (.agg (cells8 (idOf q)).toArray) (.agg (cells8 (idOf q)).toArray)).run Tryd.prog w = .ok (.bool false) w := fun w => by rw [neq_dig _ _ (idOf_len q) (idOf_len q) w]; simp
  have heq : ∀ w, (binOp .eql 31 (.agg (cells8 (logOf s q)).toArray) (.agg (cells8 (logOf s q)).toArray)).run Tryd.prog w = .ok (.bool true) w := fun w => by rw [eql_dig (logOf s q) (logOf s q) (cutTo_len _ _ (sum_len _) (clampN_ok 32).2) (cutTo_len _ _ (sum_len _) (clampN_ok 32).2) w]; simp
  replace hB := Lib.hid hB
  replace hr := Lib.hid hr
  replace hs63 := Lib.hid hs63
  replace hk47 := Lib.hid hk47
  have hl : Hid (k < 140737488355428) := by have := hk47.out; show k < _; omega
  go_enter Tryd.func4, Tryd.ntmps4
  go_wp2_with (first
    | (go_at_call 13; refine (roomy_any q k hk hk47.out A c w hr.out).mono ?_; rintro e w1 ⟨g, rfl, hg, hR1, hb1⟩; replace hg := Lib.hid hg; replace hR1 := Lib.hid hR1; replace hb1 := Lib.hid hb1; have hG1 : Hid (Reads w1 1 (some ⟨g, 0, none⟩) k (cells8 q)) := (by have := hR1.out.reads; rw [hk] at this; exact this))
    | (go_at_call 14; refine (id_any q k hk (some ⟨g, 0, none⟩) (k + 100) w1 (hB.out.below hb1.out hB.out.1) hG1.out (by omega) hk47.out (fun h => by cases h)).mono ?_; rintro e w2 ⟨rfl, hx2⟩; have hb2 : Hid (Below w.heap.size w w2) := hb1.out.trans (hx2.mono hb1.out.size); have hR2 : Hid (Law16.Roomy w2 g q) := hR1.out.below hx2 hR1.out.lt; clear hx2)
    | (go_at_call 15; refine (refid_any q k hk A c w2 (hr.out.below hb2.out) hc hk47.out hnil).mono ?_; rintro e w3 ⟨rfl, hx3⟩; have hb3 : Hid (Below w.heap.size w w3) := hb2.out.trans (hx3.mono hb2.out.size); have hR3 : Hid (Law16.Roomy w3 g q) := hR2.out.below hx3 hR2.out.lt; clear hx3)
    | (go_at_call 16; refine (left_any q k hk hk47.out g A c w3 hR3.out (hr.out.below hb3.out)).mono ?_; rintro e w4 ⟨rfl, n4, rfl⟩; have hb4 : Hid (Below w.heap.size w (w3.drewN n4)) := below_drawn hb3.out n4; have hR4 : Hid (Law16.Roomy (w3.drewN n4) g q) := hR3.out; generalize w3.drewN n4 = w4 at *; have hG4 : Hid (Reads w4 1 (some ⟨g, 0, none⟩) k (cells8 q)) := (by have := Law16.Roomy.reads hR4.out; rw [hk] at this; exact this))
    | (go_at_call 17; refine (log_any s hs63.out q k hk (some ⟨g, 0, none⟩) (k + 100) w4 (hB.out.below hb4.out hB.out.1) hG4.out (by omega) hk47.out (fun h => by cases h)).mono ?_; rintro e w5 ⟨rfl, hx5⟩; have hb5 : Hid (Below w.heap.size w w5) := hb4.out.trans (hx5.mono hb4.out.size); have hR5 : Hid (Law16.Roomy w5 g q) := Law16.Roomy.below hR4.out hx5 (Tab.lt hR4.out); clear hx5)
    | (go_at_call 18; refine (reflog_any s hs63.out q k hk A c w5 (hr.out.below hb5.out) hc hk47.out hnil).mono ?_; rintro e w6 ⟨rfl, hx6⟩; have hb6 : Hid (Below w.heap.size w w6) := hb5.out.trans (hx6.mono hb5.out.size); have hR6 : Hid (Law16.Roomy w6 g q) := Law16.Roomy.below hR5.out hx6 (Tab.lt hR5.out); clear hx6)
    | (go_at_call 16; refine (left_any q k hk hk47.out g A c w6 hR6.out (hr.out.below hb6.out)).mono ?_; rintro e w7 ⟨rfl, n7, rfl⟩; have hb7 : Hid (Below w.heap.size w (w6.drewN n7)) := below_drawn hb6.out n7))
  go_ret
  exact ⟨rfl, hb7.out⟩
end Go.Proofs.YtngieimjlkpkaaaDoor.HeadIDs
