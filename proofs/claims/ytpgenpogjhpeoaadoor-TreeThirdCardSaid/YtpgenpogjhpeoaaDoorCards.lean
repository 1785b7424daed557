/-
  DERIVED. GIVEN WITH THE SEED: THE CARDS: each row of YtpgenpogjhpeoaaDoorRows.lean that lists a variable, with what it lists TIED to the program's text (the seventh form; the later family's looks); each row that meets fmt, with fmt's text TOLD by the authors' own Lean function (tested against real Go, not proved from fmt's source: count such statements apart). THE CARD IS WHAT COUNTS. Prove the row's statement (the work); the ties are given (YtpgenpogjhpeoaaDoorTie.lean); close each card by the builder's one call (the guide's Derived/Test/ToyasCard.lean, 'card_holds'). Laid BY PROGRAM, IN A SANDBOX (cutbox-door.mjs). By AI agents, Wed Nov 11 2026. No macro, syntax, notation, axiom, sorry.
-/
import Derived.Test.YtpgenpogjhpeoaaDoorRows
import GoSem.ClaimSeven
namespace Go.Proofs.YtpgenpogjhpeoaaDoor
namespace Rows

/-- THE TIED CARD OF 'docketlaw17.ProofCuts'. -/
def proofCutsCard : Claim7 := { stood := { row := proofCutsRow, standIns := [], harness := (true, "f4a07ec8532e0e5360d3e0b3d0cf16ad1175aa24d5a5660a39dd2226aa4fd36f"), looks := false }, kinds := [], alts := [], laidByText := true, laidKinds := [.data], laidTests := true, laidLooks := .later }
def ProofCutsCardSaid : Prop := Claim7.holds Tryd.pinned (.plain (OpenSpec.ofChange proofCutsSpec)) proofCutsCard

/-- THE TIED CARD OF 'docketlaw6.TreeTwice'. -/
def treeTwiceCard : Claim7 := { stood := { row := treeTwiceRow, standIns := [], harness := (true, "f4a07ec8532e0e5360d3e0b3d0cf16ad1175aa24d5a5660a39dd2226aa4fd36f"), looks := false }, kinds := [], alts := [], laidByText := true, laidKinds := [.data], laidTests := true, laidLooks := .later }
def TreeTwiceCardSaid : Prop := Claim7.holds Tryd.pinned (.plain (OpenSpec.ofChange treeTwiceSpec)) treeTwiceCard

/-- THE TIED CARD OF 'docketlaw6.TreeJoins'. -/
def treeJoinsCard : Claim7 := { stood := { row := treeJoinsRow, standIns := [], harness := (true, "f4a07ec8532e0e5360d3e0b3d0cf16ad1175aa24d5a5660a39dd2226aa4fd36f"), looks := false }, kinds := [], alts := [], laidByText := true, laidKinds := [.data], laidTests := true, laidLooks := .later }
def TreeJoinsCardSaid : Prop := Claim7.holds Tryd.pinned (.plain (OpenSpec.ofChange treeJoinsSpec)) treeJoinsCard

/-- THE TIED CARD OF 'docketlaw20.AuditIncludes'. -/
def auditIncludesCard : Claim7 := { stood := { row := auditIncludesRow, standIns := [], harness := (true, "f4a07ec8532e0e5360d3e0b3d0cf16ad1175aa24d5a5660a39dd2226aa4fd36f"), looks := false }, kinds := [], alts := [], laidByText := true, laidKinds := [.data], laidTests := true, laidLooks := .later }
def AuditIncludesCardSaid : Prop := Claim7.holds Tryd.pinned (.plain (OpenSpec.ofChange auditIncludesSpec)) auditIncludesCard

/-- THE TIED CARD OF 'docketlaw6.TreeProves'. -/
def treeProvesCard : Claim7 := { stood := { row := treeProvesRow, standIns := [], harness := (true, "f4a07ec8532e0e5360d3e0b3d0cf16ad1175aa24d5a5660a39dd2226aa4fd36f"), looks := false }, kinds := [], alts := [], laidByText := true, laidKinds := [.data, .data, .data], laidTests := true, laidLooks := .later }
def TreeProvesCardSaid : Prop := Claim7.holds Tryd.pinned (.plain (OpenSpec.ofChange treeProvesSpec)) treeProvesCard

/-- THE TIED CARD OF 'docketlaw20.AuditNumbers'. -/
def auditNumbersCard : Claim7 := { stood := { row := auditNumbersRow, standIns := [], harness := (true, "f4a07ec8532e0e5360d3e0b3d0cf16ad1175aa24d5a5660a39dd2226aa4fd36f"), looks := false }, kinds := [], alts := [], laidByText := true, laidKinds := [.data], laidTests := true, laidLooks := .later }
def AuditNumbersCardSaid : Prop := Claim7.holds Tryd.pinned (.plain (OpenSpec.ofChange auditNumbersSpec)) auditNumbersCard

/-- THE TIED CARD OF 'docketlaw20.AuditJoins'. -/
def auditJoinsCard : Claim7 := { stood := { row := auditJoinsRow, standIns := [], harness := (true, "f4a07ec8532e0e5360d3e0b3d0cf16ad1175aa24d5a5660a39dd2226aa4fd36f"), looks := false }, kinds := [], alts := [], laidByText := true, laidKinds := [.data], laidTests := true, laidLooks := .later }
def AuditJoinsCardSaid : Prop := Claim7.holds Tryd.pinned (.plain (OpenSpec.ofChange auditJoinsSpec)) auditJoinsCard

/-- THE TIED CARD OF 'docketlaw20.AuditShows'. -/
def auditShowsCard : Claim7 := { stood := { row := auditShowsRow, standIns := [], harness := (true, "f4a07ec8532e0e5360d3e0b3d0cf16ad1175aa24d5a5660a39dd2226aa4fd36f"), looks := false }, kinds := [], alts := [], laidByText := true, laidKinds := [.data], laidTests := true, laidLooks := .later }
def AuditShowsCardSaid : Prop := Claim7.holds Tryd.pinned (.plain (OpenSpec.ofChange auditShowsSpec)) auditShowsCard

/-- THE TIED CARD OF 'docketlaw6.TreeThird'. -/
def treeThirdCard : Claim7 := { stood := { row := treeThirdRow, standIns := [], harness := (true, "f4a07ec8532e0e5360d3e0b3d0cf16ad1175aa24d5a5660a39dd2226aa4fd36f"), looks := false }, kinds := [], alts := [], laidByText := true, laidKinds := [.data], laidTests := true, laidLooks := .later }
def TreeThirdCardSaid : Prop := Claim7.holds Tryd.pinned (.plain (OpenSpec.ofChange treeThirdSpec)) treeThirdCard

/-- THE SECOND FORM's CARD OF 'docketlaw17.ProofCuts'. -/
def proofCutsUptoCard : Claim7 := { stood := { row := proofCutsUptoRow, standIns := [], harness := (true, "f4a07ec8532e0e5360d3e0b3d0cf16ad1175aa24d5a5660a39dd2226aa4fd36f"), looks := false }, kinds := [], alts := [], laidByText := true, laidKinds := [.data], laidTests := true, laidLooks := .later }
def ProofCutsUptoCardSaid : Prop := Claim7.holds Tryd.pinned (.plain (OpenSpec.upto proofCutsSpec)) proofCutsUptoCard

/-- THE SECOND FORM's CARD OF 'docketlaw6.TreeTwice'. -/
def treeTwiceUptoCard : Claim7 := { stood := { row := treeTwiceUptoRow, standIns := [], harness := (true, "f4a07ec8532e0e5360d3e0b3d0cf16ad1175aa24d5a5660a39dd2226aa4fd36f"), looks := false }, kinds := [], alts := [], laidByText := true, laidKinds := [.data], laidTests := true, laidLooks := .later }
def TreeTwiceUptoCardSaid : Prop := Claim7.holds Tryd.pinned (.plain (OpenSpec.upto treeTwiceSpec)) treeTwiceUptoCard

/-- THE SECOND FORM's CARD OF 'docketlaw6.TreeJoins'. -/
def treeJoinsUptoCard : Claim7 := { stood := { row := treeJoinsUptoRow, standIns := [], harness := (true, "f4a07ec8532e0e5360d3e0b3d0cf16ad1175aa24d5a5660a39dd2226aa4fd36f"), looks := false }, kinds := [], alts := [], laidByText := true, laidKinds := [.data], laidTests := true, laidLooks := .later }
def TreeJoinsUptoCardSaid : Prop := Claim7.holds Tryd.pinned (.plain (OpenSpec.upto treeJoinsSpec)) treeJoinsUptoCard

/-- THE SECOND FORM's CARD OF 'docketlaw20.AuditIncludes'. -/
def auditIncludesUptoCard : Claim7 := { stood := { row := auditIncludesUptoRow, standIns := [], harness := (true, "f4a07ec8532e0e5360d3e0b3d0cf16ad1175aa24d5a5660a39dd2226aa4fd36f"), looks := false }, kinds := [], alts := [], laidByText := true, laidKinds := [.data], laidTests := true, laidLooks := .later }
def AuditIncludesUptoCardSaid : Prop := Claim7.holds Tryd.pinned (.plain (OpenSpec.upto auditIncludesSpec)) auditIncludesUptoCard

/-- THE SECOND FORM's CARD OF 'docketlaw6.TreeProves'. -/
def treeProvesUptoCard : Claim7 := { stood := { row := treeProvesUptoRow, standIns := [], harness := (true, "f4a07ec8532e0e5360d3e0b3d0cf16ad1175aa24d5a5660a39dd2226aa4fd36f"), looks := false }, kinds := [], alts := [], laidByText := true, laidKinds := [.data, .data, .data], laidTests := true, laidLooks := .later }
def TreeProvesUptoCardSaid : Prop := Claim7.holds Tryd.pinned (.plain (OpenSpec.upto treeProvesSpec)) treeProvesUptoCard

/-- THE SECOND FORM's CARD OF 'docketlaw20.AuditNumbers'. -/
def auditNumbersUptoCard : Claim7 := { stood := { row := auditNumbersUptoRow, standIns := [], harness := (true, "f4a07ec8532e0e5360d3e0b3d0cf16ad1175aa24d5a5660a39dd2226aa4fd36f"), looks := false }, kinds := [], alts := [], laidByText := true, laidKinds := [.data], laidTests := true, laidLooks := .later }
def AuditNumbersUptoCardSaid : Prop := Claim7.holds Tryd.pinned (.plain (OpenSpec.upto auditNumbersSpec)) auditNumbersUptoCard

/-- THE SECOND FORM's CARD OF 'docketlaw20.AuditJoins'. -/
def auditJoinsUptoCard : Claim7 := { stood := { row := auditJoinsUptoRow, standIns := [], harness := (true, "f4a07ec8532e0e5360d3e0b3d0cf16ad1175aa24d5a5660a39dd2226aa4fd36f"), looks := false }, kinds := [], alts := [], laidByText := true, laidKinds := [.data], laidTests := true, laidLooks := .later }
def AuditJoinsUptoCardSaid : Prop := Claim7.holds Tryd.pinned (.plain (OpenSpec.upto auditJoinsSpec)) auditJoinsUptoCard

/-- THE SECOND FORM's CARD OF 'docketlaw20.AuditShows'. -/
def auditShowsUptoCard : Claim7 := { stood := { row := auditShowsUptoRow, standIns := [], harness := (true, "f4a07ec8532e0e5360d3e0b3d0cf16ad1175aa24d5a5660a39dd2226aa4fd36f"), looks := false }, kinds := [], alts := [], laidByText := true, laidKinds := [.data], laidTests := true, laidLooks := .later }
def AuditShowsUptoCardSaid : Prop := Claim7.holds Tryd.pinned (.plain (OpenSpec.upto auditShowsSpec)) auditShowsUptoCard

/-- THE SECOND FORM's CARD OF 'docketlaw6.TreeThird'. -/
def treeThirdUptoCard : Claim7 := { stood := { row := treeThirdUptoRow, standIns := [], harness := (true, "f4a07ec8532e0e5360d3e0b3d0cf16ad1175aa24d5a5660a39dd2226aa4fd36f"), looks := false }, kinds := [], alts := [], laidByText := true, laidKinds := [.data], laidTests := true, laidLooks := .later }
def TreeThirdUptoCardSaid : Prop := Claim7.holds Tryd.pinned (.plain (OpenSpec.upto treeThirdSpec)) treeThirdUptoCard
end Rows
end Go.Proofs.YtpgenpogjhpeoaaDoor
