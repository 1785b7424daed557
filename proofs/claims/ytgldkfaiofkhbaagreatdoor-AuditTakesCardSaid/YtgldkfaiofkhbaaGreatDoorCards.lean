/-
  DERIVED. GIVEN WITH THE SEED: THE CARDS: each row of YtgldkfaiofkhbaaGreatDoorRows.lean that lists a variable, with what it lists TIED to the program's text (the seventh form; the later family's looks); each row that meets fmt, with fmt's text TOLD by the authors' own Lean function (tested against real Go, not proved from fmt's source: count such statements apart). THE CARD IS WHAT COUNTS. Prove the row's statement (the work); the ties are given (YtgldkfaiofkhbaaGreatDoorTie.lean); close each card by the builder's one call (the guide's Derived/Test/ToyasCard.lean, 'card_holds'). Laid BY PROGRAM, IN A SANDBOX (cutbox-door.mjs). By AI agents, Wed Nov 11 2026. No macro, syntax, notation, axiom, sorry.
-/
import Derived.Test.YtgldkfaiofkhbaaGreatDoorRows
import GoSem.ClaimSeven
namespace Go.Proofs.YtgldkfaiofkhbaaGreatDoor
namespace Rows

/-- THE TIED CARD OF 'docketlaw20.AuditTakes'. -/
def auditTakesCard : Claim7 := { stood := { row := auditTakesRow, standIns := [], harness := (true, "da25a18c9b1251a6d01ef72d7188c69ad4b373345becfab58b9e70e30edd2507"), looks := false }, kinds := [], alts := [], laidByText := true, laidKinds := [.data], laidTests := true, laidLooks := .later }
def AuditTakesCardSaid : Prop := Claim7.holds Tryz.pinned (.plain (OpenSpec.ofChange auditTakesSpec)) auditTakesCard

/-- THE TIED CARD OF 'docketlaw20.AuditAgree'. -/
def auditAgreeCard : Claim7 := { stood := { row := auditAgreeRow, standIns := [], harness := (true, "da25a18c9b1251a6d01ef72d7188c69ad4b373345becfab58b9e70e30edd2507"), looks := false }, kinds := [], alts := [], laidByText := true, laidKinds := [.data], laidTests := true, laidLooks := .later }
def AuditAgreeCardSaid : Prop := Claim7.holds Tryz.pinned (.plain (OpenSpec.ofChange auditAgreeSpec)) auditAgreeCard

/-- THE TIED CARD OF 'docketlaw20.AuditMemory'. -/
def auditMemoryCard : Claim7 := { stood := { row := auditMemoryRow, standIns := [], harness := (true, "da25a18c9b1251a6d01ef72d7188c69ad4b373345becfab58b9e70e30edd2507"), looks := false }, kinds := [], alts := [], laidByText := true, laidKinds := [.data], laidTests := true, laidLooks := .later }
def AuditMemoryCardSaid : Prop := Claim7.holds Tryz.pinned (.plain (OpenSpec.ofChange auditMemorySpec)) auditMemoryCard

/-- THE TIED CARD OF 'docketlaw17.ProofMemory'. -/
def proofMemoryCard : Claim7 := { stood := { row := proofMemoryRow, standIns := [], harness := (true, "da25a18c9b1251a6d01ef72d7188c69ad4b373345becfab58b9e70e30edd2507"), looks := false }, kinds := [], alts := [], laidByText := true, laidKinds := [.data], laidTests := true, laidLooks := .later }
def ProofMemoryCardSaid : Prop := Claim7.holds Tryz.pinned (.plain (OpenSpec.ofChange proofMemorySpec)) proofMemoryCard

/-- THE SECOND FORM's CARD OF 'docketlaw20.AuditTakes'. -/
def auditTakesUptoCard : Claim7 := { stood := { row := auditTakesUptoRow, standIns := [], harness := (true, "da25a18c9b1251a6d01ef72d7188c69ad4b373345becfab58b9e70e30edd2507"), looks := false }, kinds := [], alts := [], laidByText := true, laidKinds := [.data], laidTests := true, laidLooks := .later }
def AuditTakesUptoCardSaid : Prop := Claim7.holds Tryz.pinned (.plain (OpenSpec.upto auditTakesSpec)) auditTakesUptoCard

/-- THE SECOND FORM's CARD OF 'docketlaw20.AuditAgree'. -/
def auditAgreeUptoCard : Claim7 := { stood := { row := auditAgreeUptoRow, standIns := [], harness := (true, "da25a18c9b1251a6d01ef72d7188c69ad4b373345becfab58b9e70e30edd2507"), looks := false }, kinds := [], alts := [], laidByText := true, laidKinds := [.data], laidTests := true, laidLooks := .later }
def AuditAgreeUptoCardSaid : Prop := Claim7.holds Tryz.pinned (.plain (OpenSpec.upto auditAgreeSpec)) auditAgreeUptoCard

/-- THE SECOND FORM's CARD OF 'docketlaw20.AuditMemory'. -/
def auditMemoryUptoCard : Claim7 := { stood := { row := auditMemoryUptoRow, standIns := [], harness := (true, "da25a18c9b1251a6d01ef72d7188c69ad4b373345becfab58b9e70e30edd2507"), looks := false }, kinds := [], alts := [], laidByText := true, laidKinds := [.data], laidTests := true, laidLooks := .later }
def AuditMemoryUptoCardSaid : Prop := Claim7.holds Tryz.pinned (.plain (OpenSpec.upto auditMemorySpec)) auditMemoryUptoCard

/-- THE SECOND FORM's CARD OF 'docketlaw17.ProofMemory'. -/
def proofMemoryUptoCard : Claim7 := { stood := { row := proofMemoryUptoRow, standIns := [], harness := (true, "da25a18c9b1251a6d01ef72d7188c69ad4b373345becfab58b9e70e30edd2507"), looks := false }, kinds := [], alts := [], laidByText := true, laidKinds := [.data], laidTests := true, laidLooks := .later }
def ProofMemoryUptoCardSaid : Prop := Claim7.holds Tryz.pinned (.plain (OpenSpec.upto proofMemorySpec)) proofMemoryUptoCard
end Rows
end Go.Proofs.YtgldkfaiofkhbaaGreatDoor
