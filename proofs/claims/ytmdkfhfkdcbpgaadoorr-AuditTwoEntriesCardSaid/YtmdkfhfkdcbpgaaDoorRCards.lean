/-
  DERIVED. GIVEN WITH THE SEED: THE CARDS: each row of YtmdkfhfkdcbpgaaDoorRRows.lean that lists a variable, with what it lists TIED to the program's text (the seventh form; the later family's looks); each row that meets fmt, with fmt's text TOLD by the authors' own Lean function (tested against real Go, not proved from fmt's source: count such statements apart). THE CARD IS WHAT COUNTS. Prove the row's statement (the work); the ties are given (YtmdkfhfkdcbpgaaDoorRTie.lean); close each card by the builder's one call (the guide's Derived/Test/ToyasCard.lean, 'card_holds'). Laid BY PROGRAM, IN A SANDBOX (cutbox-door.mjs). By AI agents, Wed Nov 11 2026. No macro, syntax, notation, axiom, sorry.
-/
import Derived.Test.YtmdkfhfkdcbpgaaDoorRRows
import GoSem.ClaimSeven
namespace Go.Proofs.YtmdkfhfkdcbpgaaDoorR
namespace Rows

/-- THE TIED CARD OF 'docketlaw17.ProofCuts'. -/
def proofCutsCard : Claim7 := { stood := { row := proofCutsRow, standIns := [], harness := (true, "7e16cc2abf1d508c5ab5a7f1ed779cc6a076a9374811eeec0f4eff8678734a97"), looks := false }, kinds := [], alts := [], laidByText := true, laidKinds := [.data], laidTests := true, laidLooks := .later }
def ProofCutsCardSaid : Prop := Claim7.holds Tryd.pinned (.plain (OpenSpec.ofChange proofCutsSpec)) proofCutsCard

/-- THE TIED CARD OF 'docketlaw17.ProofJoined'. -/
def proofJoinedCard : Claim7 := { stood := { row := proofJoinedRow, standIns := [], harness := (true, "7e16cc2abf1d508c5ab5a7f1ed779cc6a076a9374811eeec0f4eff8678734a97"), looks := false }, kinds := [], alts := [], laidByText := true, laidKinds := [.data], laidTests := true, laidLooks := .later }
def ProofJoinedCardSaid : Prop := Claim7.holds Tryd.pinned (.plain (OpenSpec.ofChange proofJoinedSpec)) proofJoinedCard

/-- THE TIED CARD OF 'docketlaw6.TreeProves'. -/
def treeProvesCard : Claim7 := { stood := { row := treeProvesRow, standIns := [], harness := (true, "7e16cc2abf1d508c5ab5a7f1ed779cc6a076a9374811eeec0f4eff8678734a97"), looks := false }, kinds := [], alts := [], laidByText := true, laidKinds := [.data, .data, .data], laidTests := true, laidLooks := .later }
def TreeProvesCardSaid : Prop := Claim7.holds Tryd.pinned (.plain (OpenSpec.ofChange treeProvesSpec)) treeProvesCard

/-- THE TIED CARD OF 'docketlaw20.AuditShows'. -/
def auditShowsCard : Claim7 := { stood := { row := auditShowsRow, standIns := [], harness := (true, "7e16cc2abf1d508c5ab5a7f1ed779cc6a076a9374811eeec0f4eff8678734a97"), looks := false }, kinds := [], alts := [], laidByText := true, laidKinds := [.data], laidTests := true, laidLooks := .later }
def AuditShowsCardSaid : Prop := Claim7.holds Tryd.pinned (.plain (OpenSpec.ofChange auditShowsSpec)) auditShowsCard

/-- THE TIED CARD OF 'docketlaw20.AuditTwoEvents'. -/
def auditTwoEventsCard : Claim7 := { stood := { row := auditTwoEventsRow, standIns := [], harness := (true, "7e16cc2abf1d508c5ab5a7f1ed779cc6a076a9374811eeec0f4eff8678734a97"), looks := false }, kinds := [], alts := [], laidByText := true, laidKinds := [.data], laidTests := true, laidLooks := .later }
def AuditTwoEventsCardSaid : Prop := Claim7.holds Tryd.pinned (.plain (OpenSpec.ofChange auditTwoEventsSpec)) auditTwoEventsCard

/-- THE TIED CARD OF 'docketlaw20.AuditTwoEntries'. -/
def auditTwoEntriesCard : Claim7 := { stood := { row := auditTwoEntriesRow, standIns := [], harness := (true, "7e16cc2abf1d508c5ab5a7f1ed779cc6a076a9374811eeec0f4eff8678734a97"), looks := false }, kinds := [], alts := [], laidByText := true, laidKinds := [.data], laidTests := true, laidLooks := .later }
def AuditTwoEntriesCardSaid : Prop := Claim7.holds Tryd.pinned (.plain (OpenSpec.ofChange auditTwoEntriesSpec)) auditTwoEntriesCard

/-- THE TIED CARD OF 'docketlaw20.AuditTwoSizes'. -/
def auditTwoSizesCard : Claim7 := { stood := { row := auditTwoSizesRow, standIns := [], harness := (true, "7e16cc2abf1d508c5ab5a7f1ed779cc6a076a9374811eeec0f4eff8678734a97"), looks := false }, kinds := [], alts := [], laidByText := true, laidKinds := [.data], laidTests := true, laidLooks := .later }
def AuditTwoSizesCardSaid : Prop := Claim7.holds Tryd.pinned (.plain (OpenSpec.ofChange auditTwoSizesSpec)) auditTwoSizesCard

/-- THE TIED CARD OF 'docketlaw20.AuditTwoHistories'. -/
def auditTwoHistoriesCard : Claim7 := { stood := { row := auditTwoHistoriesRow, standIns := [], harness := (true, "7e16cc2abf1d508c5ab5a7f1ed779cc6a076a9374811eeec0f4eff8678734a97"), looks := false }, kinds := [], alts := [], laidByText := true, laidKinds := [.data], laidTests := true, laidLooks := .later }
def AuditTwoHistoriesCardSaid : Prop := Claim7.holds Tryd.pinned (.plain (OpenSpec.ofChange auditTwoHistoriesSpec)) auditTwoHistoriesCard

/-- THE SECOND FORM's CARD OF 'docketlaw17.ProofCuts'. -/
def proofCutsUptoCard : Claim7 := { stood := { row := proofCutsUptoRow, standIns := [], harness := (true, "7e16cc2abf1d508c5ab5a7f1ed779cc6a076a9374811eeec0f4eff8678734a97"), looks := false }, kinds := [], alts := [], laidByText := true, laidKinds := [.data], laidTests := true, laidLooks := .later }
def ProofCutsUptoCardSaid : Prop := Claim7.holds Tryd.pinned (.plain (OpenSpec.upto proofCutsSpec)) proofCutsUptoCard

/-- THE SECOND FORM's CARD OF 'docketlaw17.ProofJoined'. -/
def proofJoinedUptoCard : Claim7 := { stood := { row := proofJoinedUptoRow, standIns := [], harness := (true, "7e16cc2abf1d508c5ab5a7f1ed779cc6a076a9374811eeec0f4eff8678734a97"), looks := false }, kinds := [], alts := [], laidByText := true, laidKinds := [.data], laidTests := true, laidLooks := .later }
def ProofJoinedUptoCardSaid : Prop := Claim7.holds Tryd.pinned (.plain (OpenSpec.upto proofJoinedSpec)) proofJoinedUptoCard

/-- THE SECOND FORM's CARD OF 'docketlaw6.TreeProves'. -/
def treeProvesUptoCard : Claim7 := { stood := { row := treeProvesUptoRow, standIns := [], harness := (true, "7e16cc2abf1d508c5ab5a7f1ed779cc6a076a9374811eeec0f4eff8678734a97"), looks := false }, kinds := [], alts := [], laidByText := true, laidKinds := [.data, .data, .data], laidTests := true, laidLooks := .later }
def TreeProvesUptoCardSaid : Prop := Claim7.holds Tryd.pinned (.plain (OpenSpec.upto treeProvesSpec)) treeProvesUptoCard

/-- THE SECOND FORM's CARD OF 'docketlaw20.AuditShows'. -/
def auditShowsUptoCard : Claim7 := { stood := { row := auditShowsUptoRow, standIns := [], harness := (true, "7e16cc2abf1d508c5ab5a7f1ed779cc6a076a9374811eeec0f4eff8678734a97"), looks := false }, kinds := [], alts := [], laidByText := true, laidKinds := [.data], laidTests := true, laidLooks := .later }
def AuditShowsUptoCardSaid : Prop := Claim7.holds Tryd.pinned (.plain (OpenSpec.upto auditShowsSpec)) auditShowsUptoCard

/-- THE SECOND FORM's CARD OF 'docketlaw20.AuditTwoEvents'. -/
def auditTwoEventsUptoCard : Claim7 := { stood := { row := auditTwoEventsUptoRow, standIns := [], harness := (true, "7e16cc2abf1d508c5ab5a7f1ed779cc6a076a9374811eeec0f4eff8678734a97"), looks := false }, kinds := [], alts := [], laidByText := true, laidKinds := [.data], laidTests := true, laidLooks := .later }
def AuditTwoEventsUptoCardSaid : Prop := Claim7.holds Tryd.pinned (.plain (OpenSpec.upto auditTwoEventsSpec)) auditTwoEventsUptoCard

/-- THE SECOND FORM's CARD OF 'docketlaw20.AuditTwoEntries'. -/
def auditTwoEntriesUptoCard : Claim7 := { stood := { row := auditTwoEntriesUptoRow, standIns := [], harness := (true, "7e16cc2abf1d508c5ab5a7f1ed779cc6a076a9374811eeec0f4eff8678734a97"), looks := false }, kinds := [], alts := [], laidByText := true, laidKinds := [.data], laidTests := true, laidLooks := .later }
def AuditTwoEntriesUptoCardSaid : Prop := Claim7.holds Tryd.pinned (.plain (OpenSpec.upto auditTwoEntriesSpec)) auditTwoEntriesUptoCard

/-- THE SECOND FORM's CARD OF 'docketlaw20.AuditTwoSizes'. -/
def auditTwoSizesUptoCard : Claim7 := { stood := { row := auditTwoSizesUptoRow, standIns := [], harness := (true, "7e16cc2abf1d508c5ab5a7f1ed779cc6a076a9374811eeec0f4eff8678734a97"), looks := false }, kinds := [], alts := [], laidByText := true, laidKinds := [.data], laidTests := true, laidLooks := .later }
def AuditTwoSizesUptoCardSaid : Prop := Claim7.holds Tryd.pinned (.plain (OpenSpec.upto auditTwoSizesSpec)) auditTwoSizesUptoCard

/-- THE SECOND FORM's CARD OF 'docketlaw20.AuditTwoHistories'. -/
def auditTwoHistoriesUptoCard : Claim7 := { stood := { row := auditTwoHistoriesUptoRow, standIns := [], harness := (true, "7e16cc2abf1d508c5ab5a7f1ed779cc6a076a9374811eeec0f4eff8678734a97"), looks := false }, kinds := [], alts := [], laidByText := true, laidKinds := [.data], laidTests := true, laidLooks := .later }
def AuditTwoHistoriesUptoCardSaid : Prop := Claim7.holds Tryd.pinned (.plain (OpenSpec.upto auditTwoHistoriesSpec)) auditTwoHistoriesUptoCard
end Rows
end Go.Proofs.YtmdkfhfkdcbpgaaDoorR
