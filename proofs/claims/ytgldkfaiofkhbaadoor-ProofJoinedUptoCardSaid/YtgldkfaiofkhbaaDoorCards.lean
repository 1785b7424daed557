/-
  DERIVED. GIVEN WITH THE SEED: THE CARDS: each row of YtgldkfaiofkhbaaDoorRows.lean that lists a variable, with what it lists TIED to the program's text (the seventh form; the later family's looks); each row that meets fmt, with fmt's text TOLD by the authors' own Lean function (tested against real Go, not proved from fmt's source: count such statements apart). THE CARD IS WHAT COUNTS. Prove the row's statement (the work); the ties are given (YtgldkfaiofkhbaaDoorTie.lean); close each card by the builder's one call (the guide's Derived/Test/ToyasCard.lean, 'card_holds'). Laid BY PROGRAM, IN A SANDBOX (cutbox-door.mjs). By AI agents, Wed Nov 11 2026. No macro, syntax, notation, axiom, sorry.
-/
import Derived.Test.YtgldkfaiofkhbaaDoorRows
import GoSem.ClaimSeven
namespace Go.Proofs.YtgldkfaiofkhbaaDoor
namespace Rows

/-- THE TIED CARD OF 'docketlaw20.AuditGrows'. -/
def auditGrowsCard : Claim7 := { stood := { row := auditGrowsRow, standIns := [], harness := (true, "9d39f291937f85bf3664781b679f4b97625f9288e15d9b2a6ec4f3732586412d"), looks := false }, kinds := [], alts := [], laidByText := true, laidKinds := [.data], laidTests := true, laidLooks := .later }
def AuditGrowsCardSaid : Prop := Claim7.holds Tryd.pinned (.plain (OpenSpec.ofChange auditGrowsSpec)) auditGrowsCard

/-- THE TIED CARD OF 'docketlaw17.ProofSpelt'. -/
def proofSpeltCard : Claim7 := { stood := { row := proofSpeltRow, standIns := [], harness := (true, "9d39f291937f85bf3664781b679f4b97625f9288e15d9b2a6ec4f3732586412d"), looks := false }, kinds := [], alts := [], laidByText := true, laidKinds := [.data, .data, .data], laidTests := true, laidLooks := .later }
def ProofSpeltCardSaid : Prop := Claim7.holds Tryd.pinned (.plain (OpenSpec.ofChange proofSpeltSpec)) proofSpeltCard

/-- THE TIED CARD OF 'docketlaw17.ProofJoined'. -/
def proofJoinedCard : Claim7 := { stood := { row := proofJoinedRow, standIns := [], harness := (true, "9d39f291937f85bf3664781b679f4b97625f9288e15d9b2a6ec4f3732586412d"), looks := false }, kinds := [], alts := [], laidByText := true, laidKinds := [.data], laidTests := true, laidLooks := .later }
def ProofJoinedCardSaid : Prop := Claim7.holds Tryd.pinned (.plain (OpenSpec.ofChange proofJoinedSpec)) proofJoinedCard

/-- THE TIED CARD OF 'docketlaw6.TreeProves'. -/
def treeProvesCard : Claim7 := { stood := { row := treeProvesRow, standIns := [], harness := (true, "9d39f291937f85bf3664781b679f4b97625f9288e15d9b2a6ec4f3732586412d"), looks := false }, kinds := [], alts := [], laidByText := true, laidKinds := [.data, .data, .data], laidTests := true, laidLooks := .later }
def TreeProvesCardSaid : Prop := Claim7.holds Tryd.pinned (.plain (OpenSpec.ofChange treeProvesSpec)) treeProvesCard

/-- THE SECOND FORM's CARD OF 'docketlaw20.AuditGrows'. -/
def auditGrowsUptoCard : Claim7 := { stood := { row := auditGrowsUptoRow, standIns := [], harness := (true, "9d39f291937f85bf3664781b679f4b97625f9288e15d9b2a6ec4f3732586412d"), looks := false }, kinds := [], alts := [], laidByText := true, laidKinds := [.data], laidTests := true, laidLooks := .later }
def AuditGrowsUptoCardSaid : Prop := Claim7.holds Tryd.pinned (.plain (OpenSpec.upto auditGrowsSpec)) auditGrowsUptoCard

/-- THE SECOND FORM's CARD OF 'docketlaw17.ProofSpelt'. -/
def proofSpeltUptoCard : Claim7 := { stood := { row := proofSpeltUptoRow, standIns := [], harness := (true, "9d39f291937f85bf3664781b679f4b97625f9288e15d9b2a6ec4f3732586412d"), looks := false }, kinds := [], alts := [], laidByText := true, laidKinds := [.data, .data, .data], laidTests := true, laidLooks := .later }
def ProofSpeltUptoCardSaid : Prop := Claim7.holds Tryd.pinned (.plain (OpenSpec.upto proofSpeltSpec)) proofSpeltUptoCard

/-- THE SECOND FORM's CARD OF 'docketlaw17.ProofJoined'. -/
def proofJoinedUptoCard : Claim7 := { stood := { row := proofJoinedUptoRow, standIns := [], harness := (true, "9d39f291937f85bf3664781b679f4b97625f9288e15d9b2a6ec4f3732586412d"), looks := false }, kinds := [], alts := [], laidByText := true, laidKinds := [.data], laidTests := true, laidLooks := .later }
def ProofJoinedUptoCardSaid : Prop := Claim7.holds Tryd.pinned (.plain (OpenSpec.upto proofJoinedSpec)) proofJoinedUptoCard

/-- THE SECOND FORM's CARD OF 'docketlaw6.TreeProves'. -/
def treeProvesUptoCard : Claim7 := { stood := { row := treeProvesUptoRow, standIns := [], harness := (true, "9d39f291937f85bf3664781b679f4b97625f9288e15d9b2a6ec4f3732586412d"), looks := false }, kinds := [], alts := [], laidByText := true, laidKinds := [.data, .data, .data], laidTests := true, laidLooks := .later }
def TreeProvesUptoCardSaid : Prop := Claim7.holds Tryd.pinned (.plain (OpenSpec.upto treeProvesSpec)) treeProvesUptoCard
end Rows
end Go.Proofs.YtgldkfaiofkhbaaDoor
