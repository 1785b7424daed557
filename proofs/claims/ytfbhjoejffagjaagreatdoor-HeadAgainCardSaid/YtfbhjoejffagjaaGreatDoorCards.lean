/-
  DERIVED. GIVEN WITH THE SEED: THE CARDS: each row of YtfbhjoejffagjaaGreatDoorRows.lean that lists a variable, with what it lists TIED to the program's text (the seventh form; the later family's looks); each row that meets fmt, with fmt's text TOLD by the authors' own Lean function (tested against real Go, not proved from fmt's source: count such statements apart). THE CARD IS WHAT COUNTS. Prove the row's statement (the work); the ties are given (YtfbhjoejffagjaaGreatDoorTie.lean); close each card by the builder's one call (the guide's Derived/Test/ToyasCard.lean, 'card_holds'). Laid BY PROGRAM, IN A SANDBOX (cutbox-door.mjs). By AI agents, Wed Nov 11 2026. No macro, syntax, notation, axiom, sorry.
-/
import Derived.Test.YtfbhjoejffagjaaGreatDoorRows
import GoSem.ClaimSeven
namespace Go.Proofs.YtfbhjoejffagjaaGreatDoor
namespace Rows

/-- THE TIED CARD OF 'docketlaw16.HeadRings'. -/
def headRingsCard : Claim7 := { stood := { row := headRingsRow, standIns := [], harness := (true, "4a655304342e6f154bf6b04e80e00d181302441679560fe860c90d901796c9ae"), looks := false }, kinds := [], alts := [], laidByText := true, laidKinds := [.data], laidTests := true, laidLooks := .later }
def HeadRingsCardSaid : Prop := Claim7.holds Tryz.pinned (.plain (OpenSpec.ofChange headRingsSpec)) headRingsCard

/-- THE TIED CARD OF 'docketlaw16.HeadMemory'. -/
def headMemoryCard : Claim7 := { stood := { row := headMemoryRow, standIns := [], harness := (true, "4a655304342e6f154bf6b04e80e00d181302441679560fe860c90d901796c9ae"), looks := false }, kinds := [], alts := [], laidByText := true, laidKinds := [.data], laidTests := true, laidLooks := .later }
def HeadMemoryCardSaid : Prop := Claim7.holds Tryz.pinned (.plain (OpenSpec.ofChange headMemorySpec)) headMemoryCard

/-- THE TIED CARD OF 'docketlaw16.HeadAgain'. -/
def headAgainCard : Claim7 := { stood := { row := headAgainRow, standIns := [], harness := (true, "4a655304342e6f154bf6b04e80e00d181302441679560fe860c90d901796c9ae"), looks := false }, kinds := [], alts := [], laidByText := true, laidKinds := [.data], laidTests := true, laidLooks := .later }
def HeadAgainCardSaid : Prop := Claim7.holds Tryz.pinned (.plain (OpenSpec.ofChange headAgainSpec)) headAgainCard

/-- THE SECOND FORM's CARD OF 'docketlaw16.HeadRings'. -/
def headRingsUptoCard : Claim7 := { stood := { row := headRingsUptoRow, standIns := [], harness := (true, "4a655304342e6f154bf6b04e80e00d181302441679560fe860c90d901796c9ae"), looks := false }, kinds := [], alts := [], laidByText := true, laidKinds := [.data], laidTests := true, laidLooks := .later }
def HeadRingsUptoCardSaid : Prop := Claim7.holds Tryz.pinned (.plain (OpenSpec.upto headRingsSpec)) headRingsUptoCard

/-- THE SECOND FORM's CARD OF 'docketlaw16.HeadMemory'. -/
def headMemoryUptoCard : Claim7 := { stood := { row := headMemoryUptoRow, standIns := [], harness := (true, "4a655304342e6f154bf6b04e80e00d181302441679560fe860c90d901796c9ae"), looks := false }, kinds := [], alts := [], laidByText := true, laidKinds := [.data], laidTests := true, laidLooks := .later }
def HeadMemoryUptoCardSaid : Prop := Claim7.holds Tryz.pinned (.plain (OpenSpec.upto headMemorySpec)) headMemoryUptoCard

/-- THE SECOND FORM's CARD OF 'docketlaw16.HeadAgain'. -/
def headAgainUptoCard : Claim7 := { stood := { row := headAgainUptoRow, standIns := [], harness := (true, "4a655304342e6f154bf6b04e80e00d181302441679560fe860c90d901796c9ae"), looks := false }, kinds := [], alts := [], laidByText := true, laidKinds := [.data], laidTests := true, laidLooks := .later }
def HeadAgainUptoCardSaid : Prop := Claim7.holds Tryz.pinned (.plain (OpenSpec.upto headAgainSpec)) headAgainUptoCard
end Rows
end Go.Proofs.YtfbhjoejffagjaaGreatDoor
