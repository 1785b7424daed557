/-
  docketlaw16.HeadNumbers, walked.
-/
import Derived.Test.YtngieimjlkpkaaaHeadEnc
namespace Go.Proofs.Ytngieimjlkpkaaa.HeadNumbers
open Go Go.RowKit Go.Proofs.Ytngieimjlkpkaaa Go.Proofs.Ytngieimjlkpkaaa.Mem Go.Proofs.Ytngieimjlkpkaaa.Sha Go.Proofs.Ytngieimjlkpkaaa.Bytes Go.Proofs.Ytngieimjlkpkaaa.Append Go.Proofs.Ytngieimjlkpkaaa.Octet Go.Proofs.Ytngieimjlkpkaaa.Octet2 Go.Proofs.Ytngieimjlkpkaaa.HeadMem Go.Proofs.Ytngieimjlkpkaaa.HeadEnc

def zeroHead : HeadD := ⟨List.replicate 32 0, 0, List.replicate 32 0, List.replicate 32 0, 0⟩
theorem zero_ok : zeroHead.Ok := ⟨rfl, rfl, rfl, by decide, by decide⟩
theorem zero_enc (cs : Array Value) (hc : cs = (headCells zeroHead).toArray) (w : World) :
    Calls Try.prog 8 #[.agg cs] w fun e w' => ∃ v, e = .returned (.tuple #[v, .int .i64 0]) ∧ Below w.heap.size w w' ∧ w'.ownsRow w.heap.size 5 1 v 113 (cells8 (headBytes zeroHead)) := by
  subst hc
  exact encodeHead_yes zeroHead zero_ok (by decide) w

set_option maxRecDepth 100000 in
set_option maxHeartbeats 1000000 in
theorem headNumbers_any (w : World) : Calls Try.prog 4 #[] w fun e w' => e = .returned (.bool true) ∧ Below w.heap.size w w' := by
  have k0 : Hid ((cells8 (headBytes zeroHead))[0]? = some (.int .u8 32)) := by show _ = _; rfl
  have k1 : Hid ((cells8 (headBytes zeroHead))[112]? = some (.int .u8 0)) := by show _ = _; rfl
  go_enter Try.func4, Try.ntmps4
  go_wp2_with (go_at_call 8; refine (zero_enc _ (by kernel_rfl) _).mono ?_; rintro e w1 ⟨v, rfl, hb, ho⟩; obtain ⟨g, cap, rfl, -, -⟩ := ho.form (by decide); have c0 := ho.cells (g := g) rfl 0 _ k0.out; have c1 := ho.cells (g := g) rfl 112 _ k1.out; rw [add_at] at c0 c1; replace hb := Lib.hid hb; clear ho)
  go_ret
  exact ⟨rfl, hb.out⟩
end Go.Proofs.Ytngieimjlkpkaaa.HeadNumbers
