/-
  docketlaw17.ProofNumbers, walked.
-/
import Derived.Test.YtngieimjlkpkaaaProofIdx4
namespace Go.Proofs.Ytngieimjlkpkaaa.ProofNumbers
open Go Go.RowKit Go.Proofs.Ytngieimjlkpkaaa Go.Proofs.Ytngieimjlkpkaaa.Mem Go.Proofs.Ytngieimjlkpkaaa.Sha Go.Proofs.Ytngieimjlkpkaaa.Bytes Go.Proofs.Ytngieimjlkpkaaa.Append Go.Proofs.Ytngieimjlkpkaaa.Octet Go.Proofs.Ytngieimjlkpkaaa.Octet2 Go.Proofs.Ytngieimjlkpkaaa.HeadMem Go.Proofs.Ytngieimjlkpkaaa.ProofBeside Go.Proofs.Ytngieimjlkpkaaa.ProofEnc Go.Proofs.Ytngieimjlkpkaaa.ProofIdx Go.Proofs.Ytngieimjlkpkaaa.ProofIdx2 Go.Proofs.Ytngieimjlkpkaaa.ProofIdx3 Go.Proofs.Ytngieimjlkpkaaa.ProofIdx4

theorem b10 : besideOf 1 0 = 0 := by decide +kernel
def c2 : ByteArray := { data := #[99, 45, 50] }
theorem incl10 (w : World) : Calls Try.prog 9 #[.agg #[.int .i64 1, .int .i64 0, .slice none 0 0]] w fun e w' => ∃ v, e = .returned (.tuple #[v, .int .i64 0]) ∧ Below w.heap.size w w' ∧ w'.ownsRow w.heap.size 5 1 v 17 (cells8 (inclBytes 1 0 [])) :=
  encodeInclusion_yes 1 0 (by decide) (by decide) [] 0 rfl (by simp) none 0 w (Reads.nil_ _ _ _) (by simp) b10
theorem idx2 (cs : Array Value) (hc : cs = (idxCells c2 false z33 (List.replicate 32 0) none 0 0).toArray) (w : World) : Calls Try.prog 10 #[.agg cs] w fun e w' => ∃ v, e = .returned (.tuple #[v, .int .i64 0]) ∧ Below w.heap.size w w' ∧ w'.ownsRow w.heap.size 5 1 v 38 (cells8 (idxBytes c2 (List.replicate 32 0) [])) := by
  subst hc
  exact encodeIndexed_nf c2 (by decide) (by decide +kernel) (List.replicate 32 0) rfl [] 0 rfl (by simp) (by decide +kernel) none 0 w (Reads.nil_ _ _ _)

set_option maxRecDepth 100000 in
set_option maxHeartbeats 1000000 in
theorem proofNumbers_any (w : World) :
    Calls Try.prog 5 #[] w fun e w' => e = .returned (.bool true) ∧ Below w.heap.size w w' := by
  have k0 : Hid ((cells8 (inclBytes 1 0 []))[0]? = some (.int .u8 48)) := by show _ = _; kernel_rfl
  have k1 : Hid ((cells8 (inclBytes 1 0 []))[8]? = some (.int .u8 1)) := by show _ = _; kernel_rfl
  have k2 : Hid ((cells8 (inclBytes 1 0 []))[16]? = some (.int .u8 0)) := by show _ = _; kernel_rfl
  have j0 : Hid ((cells8 (idxBytes c2 (List.replicate 32 0) []))[0]? = some (.int .u8 50)) := by show _ = _; kernel_rfl
  have j1 : Hid ((cells8 (idxBytes c2 (List.replicate 32 0) []))[1]? = some (.int .u8 3)) := by show _ = _; kernel_rfl
  go_enter Try.func5, Try.ntmps5
  go_wp2_with (first
    | (go_at_call 9; refine (incl10 _).mono ?_; rintro e w1 ⟨v1, rfl, hb1, ho1⟩; obtain ⟨g1, cap1, rfl, -, hg1⟩ := ho1.form (by decide); have hc : Hid (∀ (w' : World), Below w1.heap.size w1 w' → w'.cell? ⟨g1, 0, none⟩ = some (.int .u8 48) ∧ w'.cell? ⟨g1, 8, none⟩ = some (.int .u8 1) ∧ w'.cell? ⟨g1, 16, none⟩ = some (.int .u8 0)) := (fun w' hb => ⟨(hb.cell (p := ⟨g1, 0, none⟩) hg1).trans ((ho1.cellAt 0 (by decide)).trans k0.out), (hb.cell (p := ⟨g1, 8, none⟩) hg1).trans ((ho1.cellAt 8 (by decide)).trans k1.out), (hb.cell (p := ⟨g1, 16, none⟩) hg1).trans ((ho1.cellAt 16 (by decide)).trans k2.out)⟩); replace hb1 := Lib.hid hb1; clear ho1 hg1)
    | (go_at_call 10; refine (idx2 _ (by kernel_rfl) _).mono ?_; rintro e w2 ⟨v2, rfl, hb2, ho2⟩; obtain ⟨g2, cap2, rfl, -, -⟩ := ho2.form (by decide); obtain ⟨a0, a1, a2⟩ := hc.out w2 hb2; have b0 := (ho2.cellAt 0 (by decide)).trans j0.out; have b1 := (ho2.cellAt 1 (by decide)).trans j1.out; have bb2 : Hid (Below w.heap.size w w2) := hb1.out.trans (hb2.mono hb1.out.size); clear ho2 hb2 hc))
  go_ret
  exact ⟨rfl, bb2.out⟩
end Go.Proofs.Ytngieimjlkpkaaa.ProofNumbers
