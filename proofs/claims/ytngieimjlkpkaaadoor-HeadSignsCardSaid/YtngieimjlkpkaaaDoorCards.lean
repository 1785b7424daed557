/-
  DERIVED. GIVEN WITH THE SEED: THE CARDS: each row of YtngieimjlkpkaaaDoorRows.lean that lists a variable, with what it lists TIED to the program's text (the seventh form; the later family's looks); each row that meets fmt, with fmt's text TOLD by the authors' own Lean function (tested against real Go, not proved from fmt's source: count such statements apart). THE CARD IS WHAT COUNTS. Prove the row's statement (the work); the ties are given (YtngieimjlkpkaaaDoorTie.lean); close each card by the builder's one call (the guide's Derived/Test/ToyasCard.lean, 'card_holds'). Laid BY PROGRAM, IN A SANDBOX (cutbox-door.mjs). By AI agents, Wed Nov 11 2026. No macro, syntax, notation, axiom, sorry.
-/
import Derived.Test.YtngieimjlkpkaaaDoorRows
import GoSem.ClaimSeven
namespace Go.Proofs.YtngieimjlkpkaaaDoor
namespace Rows

/-- THE TIED CARD OF 'docketlaw6.TreeSpots'. -/
def treeSpotsCard : Claim7 := { stood := { row := treeSpotsRow, standIns := [], harness := (true, "4ac46e92874c53df34d7cffe1472d846db20aa3c570fb49f3b135f8b7eca89c6"), looks := false }, kinds := [], alts := [], laidByText := true, laidKinds := [.data, .data], laidTests := true, laidLooks := .later }
def TreeSpotsCardSaid : Prop := Claim7.holds Tryd.pinned (.plain (OpenSpec.ofChange treeSpotsSpec)) treeSpotsCard

/-- THE TIED CARD OF 'docketlaw16.HeadIDs'. -/
def headIDsCard : Claim7 := { stood := { row := headIDsRow, standIns := [], harness := (true, "4ac46e92874c53df34d7cffe1472d846db20aa3c570fb49f3b135f8b7eca89c6"), looks := false }, kinds := [], alts := [], laidByText := true, laidKinds := [.data], laidTests := true, laidLooks := .later }
def HeadIDsCardSaid : Prop := Claim7.holds Tryd.pinned (.plain (OpenSpec.ofChange headIDsSpec)) headIDsCard

/-- THE TIED CARD OF 'docketlaw20.AuditChains'. -/
def auditChainsCard : Claim7 := { stood := { row := auditChainsRow, standIns := [], harness := (true, "4ac46e92874c53df34d7cffe1472d846db20aa3c570fb49f3b135f8b7eca89c6"), looks := false }, kinds := [], alts := [], laidByText := true, laidKinds := [.data], laidTests := true, laidLooks := .later }
def AuditChainsCardSaid : Prop := Claim7.holds Tryd.pinned (.plain (OpenSpec.ofChange auditChainsSpec)) auditChainsCard

/-- THE TIED CARD OF 'docketlaw6.TreeRoots'. -/
def treeRootsCard : Claim7 := { stood := { row := treeRootsRow, standIns := [], harness := (true, "4ac46e92874c53df34d7cffe1472d846db20aa3c570fb49f3b135f8b7eca89c6"), looks := false }, kinds := [], alts := [], laidByText := true, laidKinds := [.data], laidTests := true, laidLooks := .later }
def TreeRootsCardSaid : Prop := Claim7.holds Tryd.pinned (.plain (OpenSpec.ofChange treeRootsSpec)) treeRootsCard

/-- THE TIED CARD OF 'docketlaw16.HeadSigns'. -/
def headSignsCard : Claim7 := { stood := { row := headSignsRow, standIns := [], harness := (true, "4ac46e92874c53df34d7cffe1472d846db20aa3c570fb49f3b135f8b7eca89c6"), looks := false }, kinds := [], alts := [], laidByText := true, laidKinds := [.data], laidTests := true, laidLooks := .later }
def HeadSignsCardSaid : Prop := Claim7.holds Tryd.pinned (.plain (OpenSpec.ofChange headSignsSpec)) headSignsCard

/-- THE TIED CARD OF 'docketlaw6.TreeNumbers'. -/
def treeNumbersCard : Claim7 := { stood := { row := treeNumbersRow, standIns := [], harness := (true, "4ac46e92874c53df34d7cffe1472d846db20aa3c570fb49f3b135f8b7eca89c6"), looks := false }, kinds := [], alts := [], laidByText := true, laidKinds := [.data, .data, .data], laidTests := true, laidLooks := .later }
def TreeNumbersCardSaid : Prop := Claim7.holds Tryd.pinned (.plain (OpenSpec.ofChange treeNumbersSpec)) treeNumbersCard

/-- THE TIED CARD OF 'docketlaw6.TreeIncludes'. -/
def treeIncludesCard : Claim7 := { stood := { row := treeIncludesRow, standIns := [], harness := (true, "4ac46e92874c53df34d7cffe1472d846db20aa3c570fb49f3b135f8b7eca89c6"), looks := false }, kinds := [], alts := [], laidByText := true, laidKinds := [.data], laidTests := true, laidLooks := .later }
def TreeIncludesCardSaid : Prop := Claim7.holds Tryd.pinned (.plain (OpenSpec.ofChange treeIncludesSpec)) treeIncludesCard

/-- THE SECOND FORM's CARD OF 'docketlaw6.TreeSpots'. -/
def treeSpotsUptoCard : Claim7 := { stood := { row := treeSpotsUptoRow, standIns := [], harness := (true, "4ac46e92874c53df34d7cffe1472d846db20aa3c570fb49f3b135f8b7eca89c6"), looks := false }, kinds := [], alts := [], laidByText := true, laidKinds := [.data, .data], laidTests := true, laidLooks := .later }
def TreeSpotsUptoCardSaid : Prop := Claim7.holds Tryd.pinned (.plain (OpenSpec.upto treeSpotsSpec)) treeSpotsUptoCard

/-- THE SECOND FORM's CARD OF 'docketlaw16.HeadIDs'. -/
def headIDsUptoCard : Claim7 := { stood := { row := headIDsUptoRow, standIns := [], harness := (true, "4ac46e92874c53df34d7cffe1472d846db20aa3c570fb49f3b135f8b7eca89c6"), looks := false }, kinds := [], alts := [], laidByText := true, laidKinds := [.data], laidTests := true, laidLooks := .later }
def HeadIDsUptoCardSaid : Prop := Claim7.holds Tryd.pinned (.plain (OpenSpec.upto headIDsSpec)) headIDsUptoCard

/-- THE SECOND FORM's CARD OF 'docketlaw20.AuditChains'. -/
def auditChainsUptoCard : Claim7 := { stood := { row := auditChainsUptoRow, standIns := [], harness := (true, "4ac46e92874c53df34d7cffe1472d846db20aa3c570fb49f3b135f8b7eca89c6"), looks := false }, kinds := [], alts := [], laidByText := true, laidKinds := [.data], laidTests := true, laidLooks := .later }
def AuditChainsUptoCardSaid : Prop := Claim7.holds Tryd.pinned (.plain (OpenSpec.upto auditChainsSpec)) auditChainsUptoCard

/-- THE SECOND FORM's CARD OF 'docketlaw6.TreeRoots'. -/
def treeRootsUptoCard : Claim7 := { stood := { row := treeRootsUptoRow, standIns := [], harness := (true, "4ac46e92874c53df34d7cffe1472d846db20aa3c570fb49f3b135f8b7eca89c6"), looks := false }, kinds := [], alts := [], laidByText := true, laidKinds := [.data], laidTests := true, laidLooks := .later }
def TreeRootsUptoCardSaid : Prop := Claim7.holds Tryd.pinned (.plain (OpenSpec.upto treeRootsSpec)) treeRootsUptoCard

/-- THE SECOND FORM's CARD OF 'docketlaw16.HeadSigns'. -/
def headSignsUptoCard : Claim7 := { stood := { row := headSignsUptoRow, standIns := [], harness := (true, "4ac46e92874c53df34d7cffe1472d846db20aa3c570fb49f3b135f8b7eca89c6"), looks := false }, kinds := [], alts := [], laidByText := true, laidKinds := [.data], laidTests := true, laidLooks := .later }
def HeadSignsUptoCardSaid : Prop := Claim7.holds Tryd.pinned (.plain (OpenSpec.upto headSignsSpec)) headSignsUptoCard

/-- THE SECOND FORM's CARD OF 'docketlaw6.TreeNumbers'. -/
def treeNumbersUptoCard : Claim7 := { stood := { row := treeNumbersUptoRow, standIns := [], harness := (true, "4ac46e92874c53df34d7cffe1472d846db20aa3c570fb49f3b135f8b7eca89c6"), looks := false }, kinds := [], alts := [], laidByText := true, laidKinds := [.data, .data, .data], laidTests := true, laidLooks := .later }
def TreeNumbersUptoCardSaid : Prop := Claim7.holds Tryd.pinned (.plain (OpenSpec.upto treeNumbersSpec)) treeNumbersUptoCard

/-- THE SECOND FORM's CARD OF 'docketlaw6.TreeIncludes'. -/
def treeIncludesUptoCard : Claim7 := { stood := { row := treeIncludesUptoRow, standIns := [], harness := (true, "4ac46e92874c53df34d7cffe1472d846db20aa3c570fb49f3b135f8b7eca89c6"), looks := false }, kinds := [], alts := [], laidByText := true, laidKinds := [.data], laidTests := true, laidLooks := .later }
def TreeIncludesUptoCardSaid : Prop := Claim7.holds Tryd.pinned (.plain (OpenSpec.upto treeIncludesSpec)) treeIncludesUptoCard
end Rows
end Go.Proofs.YtngieimjlkpkaaaDoor
