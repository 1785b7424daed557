/-
  No cell of these rows narrows 'for every input' (looked for: loops, veiled, ifaces, maps, wideKeys, modest, calm, conditions, laid).
  DERIVED. THE GIVEN ROWS OF THIS SEAT. 5 by the template 'for every input the law returns true; each argument reads behind the call as it read before'; 0 by the template 'total and deterministic' (their statements: YtngieimjlkpkaaaTotals.lean).
  GIVEN WITH THE SEED: the statements are not yours to turn. If you find one false, say at which input.
  Laid BY PROGRAM, IN A SANDBOX (cutbox-rows.mjs): the forced cells as the released guide's own fill.sh prints them over the translation 552ead5a4222c503… (all of the seat's roots in one cut). By AI agents, Wed Nov 11 2026. No macro, syntax, notation, axiom, sorry.
-/
import Derived.Test.YtngieimjlkpkaaaChecked
import GoSem.Claim
import GoSem.ClaimJoined
import GoSem.ClaimMapViews
import Derived.JoinedTies
import Derived.KernelRfl
namespace Go.Proofs.Ytngieimjlkpkaaa
/- THE CELL 'sum', in the pinned program and in every row, IS THE sha256 OF THE DUMP (.gsa) THAT YtngieimjlkpkaaaProg.lean LOADS. Nothing in Lean hashes anything: it is a label: what it is worth is what the hold of that sum in a sandbox is worth. -/
noncomputable def Try.pinned : Pinned := { name := "ytngieimjlkpkaaa", sum := "552ead5a4222c503fab7af0e845f004fe0b322652b8d1fe3a8568339e19ef6b1", checked := Try.checked }
namespace Rows
def none {H : Type} : Left H := { results := [], args := [] }

/-- 'docketlaw22.WatchNames': WHATEVER THE INPUT: true; the input reads as it did. -/
def watchNamesSpec : ChangeSpec := { name := "watchNames", fn := fun _ => fun
  | [] => { results := [.lit (.bool true)], args := [] }
  | _ => none }
def watchNamesRow : OpenClaim := { program := "ytngieimjlkpkaaa", sum := "552ead5a4222c503fab7af0e845f004fe0b322652b8d1fe3a8568339e19ef6b1", func := "docket/docketlaw22.WatchNames", spec := "watchNames", apart := false }
def WatchNamesSaid : Prop := watchNamesRow.holds Try.pinned (OpenSpec.ofChange watchNamesSpec)

/-- ITS FALSE NEIGHBOUR: 'it returns false'. Refute it at one input. -/
def watchNamesWrong : ChangeSpec := { name := "watchNames", fn := fun _ => fun
  | [] => { results := [.lit (.bool false)], args := [] }
  | _ => none }
def WatchNamesWrongFalsely : Prop := watchNamesRow.holds Try.pinned (OpenSpec.ofChange watchNamesWrong)

/-- 'docketlaw16.HeadNumbers': WHATEVER THE INPUT: true; the input reads as it did. -/
def headNumbersSpec : ChangeSpec := { name := "headNumbers", fn := fun _ => fun
  | [] => { results := [.lit (.bool true)], args := [] }
  | _ => none }
def headNumbersRow : OpenClaim := { program := "ytngieimjlkpkaaa", sum := "552ead5a4222c503fab7af0e845f004fe0b322652b8d1fe3a8568339e19ef6b1", func := "docket/docketlaw16.HeadNumbers", spec := "headNumbers", apart := false }
def HeadNumbersSaid : Prop := headNumbersRow.holds Try.pinned (OpenSpec.ofChange headNumbersSpec)

/-- ITS FALSE NEIGHBOUR: 'it returns false'. Refute it at one input. -/
def headNumbersWrong : ChangeSpec := { name := "headNumbers", fn := fun _ => fun
  | [] => { results := [.lit (.bool false)], args := [] }
  | _ => none }
def HeadNumbersWrongFalsely : Prop := headNumbersRow.holds Try.pinned (OpenSpec.ofChange headNumbersWrong)

/-- 'docketlaw17.ProofNumbers': WHATEVER THE INPUT: true; the input reads as it did. -/
def proofNumbersSpec : ChangeSpec := { name := "proofNumbers", fn := fun _ => fun
  | [] => { results := [.lit (.bool true)], args := [] }
  | _ => none }
def proofNumbersRow : OpenClaim := { program := "ytngieimjlkpkaaa", sum := "552ead5a4222c503fab7af0e845f004fe0b322652b8d1fe3a8568339e19ef6b1", func := "docket/docketlaw17.ProofNumbers", spec := "proofNumbers", apart := false }
def ProofNumbersSaid : Prop := proofNumbersRow.holds Try.pinned (OpenSpec.ofChange proofNumbersSpec)

/-- ITS FALSE NEIGHBOUR: 'it returns false'. Refute it at one input. -/
def proofNumbersWrong : ChangeSpec := { name := "proofNumbers", fn := fun _ => fun
  | [] => { results := [.lit (.bool false)], args := [] }
  | _ => none }
def ProofNumbersWrongFalsely : Prop := proofNumbersRow.holds Try.pinned (OpenSpec.ofChange proofNumbersWrong)

/-- 'docketlaw16.HeadHeads': WHATEVER THE INPUT: true; the input reads as it did. -/
def headHeadsSpec : ChangeSpec := { name := "headHeads", fn := fun _ => fun
  | [d1, d2] => { results := [.lit (.bool true)], args := [d1, d2] }
  | _ => none }
def headHeadsRow : OpenClaim := { program := "ytngieimjlkpkaaa", sum := "552ead5a4222c503fab7af0e845f004fe0b322652b8d1fe3a8568339e19ef6b1", func := "docket/docketlaw16.HeadHeads", spec := "headHeads", apart := false }
def HeadHeadsSaid : Prop := headHeadsRow.holds Try.pinned (OpenSpec.ofChange headHeadsSpec)

/-- ITS FALSE NEIGHBOUR: 'it returns false'. Refute it at one input. -/
def headHeadsWrong : ChangeSpec := { name := "headHeads", fn := fun _ => fun
  | [d1, d2] => { results := [.lit (.bool false)], args := [d1, d2] }
  | _ => none }
def HeadHeadsWrongFalsely : Prop := headHeadsRow.holds Try.pinned (OpenSpec.ofChange headHeadsWrong)

/-- 'docketlaw17.ProofInclusions': WHATEVER THE INPUT: true; the input reads as it did. -/
def proofInclusionsSpec : ChangeSpec := { name := "proofInclusions", fn := fun _ => fun
  | [d1, d2] => { results := [.lit (.bool true)], args := [d1, d2] }
  | _ => none }
def proofInclusionsRow : OpenClaim := { program := "ytngieimjlkpkaaa", sum := "552ead5a4222c503fab7af0e845f004fe0b322652b8d1fe3a8568339e19ef6b1", func := "docket/docketlaw17.ProofInclusions", spec := "proofInclusions", apart := false }
def ProofInclusionsSaid : Prop := proofInclusionsRow.holds Try.pinned (OpenSpec.ofChange proofInclusionsSpec)

/-- ITS FALSE NEIGHBOUR: 'it returns false'. Refute it at one input. -/
def proofInclusionsWrong : ChangeSpec := { name := "proofInclusions", fn := fun _ => fun
  | [d1, d2] => { results := [.lit (.bool false)], args := [d1, d2] }
  | _ => none }
def ProofInclusionsWrongFalsely : Prop := proofInclusionsRow.holds Try.pinned (OpenSpec.ofChange proofInclusionsWrong)

/- THE SECOND FORM. 'bulk': how many values and letters a reading holds, each counted each time it is reached (what is shared counts as often as it is met; a slice's spare places count too). A statement '..UptoSaid' is the law's where the arguments, and the package variables that the reading takes, are together of bulk at most 1048576: NARROWER than '..Said'. Prove '..Said' where nothing that the law and all that it calls make is longer than what came in: it says more and counts as full. Else prove '..UptoSaid'. A law counts once. -/
mutual
def uptoBulk {H : Type} : DataW H → Nat
  | .lit (.string bytes) => bytes.length + 1
  | .lit _ => 1
  | .nil => 1
  | .ptr d => uptoBulk d + 1
  | .slice elems spare => uptoBulkAll elems + uptoBulkAll spare + 1
  | .agg parts => uptoBulkAll parts + 1
  | .iface _ d => uptoBulk d + 1
  | .map entries => uptoBulkEntries entries + 1
  | .held _ => 1
def uptoBulkAll {H : Type} : List (DataW H) → Nat
  | [] => 0
  | d :: r => uptoBulk d + uptoBulkAll r
def uptoBulkEntries {H : Type} : List (Lit × DataW H) → Nat
  | [] => 0
  | x :: r => uptoBulkEntry x + uptoBulkEntries r
def uptoBulkEntry {H : Type} : Lit × DataW H → Nat
  | (.string bytes, d) => bytes.length + uptoBulk d + 1
  | (_, d) => uptoBulk d + 1
 end
def uptoSmall : (H : Type) → List (DataW H) → Bool := fun _ ds => decide (uptoBulkAll ds ≤ 1048576)
def OpenSpec.upto (s : _root_.Go.ChangeSpec) : _root_.Go.OpenSpec := { _root_.Go.OpenSpec.ofChange s with cond := some uptoSmall }

/-- 'docketlaw22.WatchNames', WHERE WHAT IT READS IS OF BULK AT MOST 1048576: true; the input reads as it did. -/
def watchNamesUptoRow : OpenClaim := { program := "ytngieimjlkpkaaa", sum := "552ead5a4222c503fab7af0e845f004fe0b322652b8d1fe3a8568339e19ef6b1", func := "docket/docketlaw22.WatchNames", spec := "watchNames", apart := false, narrowed := true }
def WatchNamesUptoSaid : Prop := watchNamesUptoRow.holds Try.pinned (OpenSpec.upto watchNamesSpec)

/-- 'docketlaw16.HeadNumbers', WHERE WHAT IT READS IS OF BULK AT MOST 1048576: true; the input reads as it did. -/
def headNumbersUptoRow : OpenClaim := { program := "ytngieimjlkpkaaa", sum := "552ead5a4222c503fab7af0e845f004fe0b322652b8d1fe3a8568339e19ef6b1", func := "docket/docketlaw16.HeadNumbers", spec := "headNumbers", apart := false, narrowed := true }
def HeadNumbersUptoSaid : Prop := headNumbersUptoRow.holds Try.pinned (OpenSpec.upto headNumbersSpec)

/-- 'docketlaw17.ProofNumbers', WHERE WHAT IT READS IS OF BULK AT MOST 1048576: true; the input reads as it did. -/
def proofNumbersUptoRow : OpenClaim := { program := "ytngieimjlkpkaaa", sum := "552ead5a4222c503fab7af0e845f004fe0b322652b8d1fe3a8568339e19ef6b1", func := "docket/docketlaw17.ProofNumbers", spec := "proofNumbers", apart := false, narrowed := true }
def ProofNumbersUptoSaid : Prop := proofNumbersUptoRow.holds Try.pinned (OpenSpec.upto proofNumbersSpec)

/-- 'docketlaw16.HeadHeads', WHERE WHAT IT READS IS OF BULK AT MOST 1048576: true; the input reads as it did. -/
def headHeadsUptoRow : OpenClaim := { program := "ytngieimjlkpkaaa", sum := "552ead5a4222c503fab7af0e845f004fe0b322652b8d1fe3a8568339e19ef6b1", func := "docket/docketlaw16.HeadHeads", spec := "headHeads", apart := false, narrowed := true }
def HeadHeadsUptoSaid : Prop := headHeadsUptoRow.holds Try.pinned (OpenSpec.upto headHeadsSpec)

/-- 'docketlaw17.ProofInclusions', WHERE WHAT IT READS IS OF BULK AT MOST 1048576: true; the input reads as it did. -/
def proofInclusionsUptoRow : OpenClaim := { program := "ytngieimjlkpkaaa", sum := "552ead5a4222c503fab7af0e845f004fe0b322652b8d1fe3a8568339e19ef6b1", func := "docket/docketlaw17.ProofInclusions", spec := "proofInclusions", apart := false, narrowed := true }
def ProofInclusionsUptoSaid : Prop := proofInclusionsUptoRow.holds Try.pinned (OpenSpec.upto proofInclusionsSpec)

end Rows
end Go.Proofs.Ytngieimjlkpkaaa
