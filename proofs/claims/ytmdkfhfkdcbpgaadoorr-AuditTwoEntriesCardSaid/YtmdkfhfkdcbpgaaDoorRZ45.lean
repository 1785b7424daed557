/-
  Texts of the claim, put into one file: AuditTwoEvents.
-/
import Derived.Test.YtmdkfhfkdcbpgaaDoorRZ43
import Derived.Test.YtmdkfhfkdcbpgaaDoorRZ42
import Derived.Test.YtmdkfhfkdcbpgaaDoorRZ23
import Derived.Test.YtmdkfhfkdcbpgaaDoorRZ4
import Derived.Test.YtmdkfhfkdcbpgaaDoorRZ33
import Derived.LoopN

namespace Go.Proofs.YtmdkfhfkdcbpgaaDoorR.AuditTwoEvents
open Go Go.RowKit Go.Proofs.YtmdkfhfkdcbpgaaDoorR Mem Sha Bytes HashMem DigestMem RefSum RefCut QuietTail Grown TreeMem TreeRoot Go.Proofs.YtmdkfhfkdcbpgaaDoorR.Append Held Guard Chain ProofEnc Ref17 TwiceP Clash Node RowsT RowsY Want Law20 Same8 Extract Book Book2 AudIncl Way20 TwoEvP Included WayOwn TwoEv TwoEvAny Told20 Told20b BuildD

structure FitE (cs : Array Value) : Prop where
 size : (Tryd.prog.info? 82).map (·.size) = some cs.size
 zero : (#[Value.slice none 0 0, Value.slice none 0 0] : Array Value).size = cs.size
 one : cs.all (fun v => v.oneCell') = true
theorem XR.fit {w : World} {s : Int} {want : Bool} {ts : List Text} {xa xb : Value} {ok : Bool} (h : XR w s want ts xa xb ok) : FitE #[xa, xb] := by
 refine ⟨sizeE2, rfl, ?_⟩
 rcases h with ⟨-, rfl, rfl, -⟩ | ⟨-, -, ga, ca, gb, cb, p, q, rfl, rfl, -⟩
 ·rw [List.all_toArray]; rfl
 ·rw [List.all_toArray]; rfl
end Go.Proofs.YtmdkfhfkdcbpgaaDoorR.AuditTwoEvents
