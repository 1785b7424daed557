/-
  DERIVED. GIVEN WITH THE SEED: THE CARDS: each row of YteelanamlhfmgaaDoorRows.lean that lists a variable, with what it lists TIED to the program's text (the seventh form; the later family's looks); each row that meets fmt, with fmt's text TOLD by the authors' own Lean function (tested against real Go, not proved from fmt's source: count such statements apart). THE CARD IS WHAT COUNTS. Prove the row's statement (the work); the ties are given (YteelanamlhfmgaaDoorTie.lean); close each card by the builder's one call (the guide's Derived/Test/ToyasCard.lean, 'card_holds'). Laid BY PROGRAM, IN A SANDBOX (cutbox-door.mjs). By AI agents, Wed Nov 11 2026. No macro, syntax, notation, axiom, sorry.
-/
import Derived.Test.YteelanamlhfmgaaDoorRows
import GoSem.ClaimSeven
namespace Go.Proofs.YteelanamlhfmgaaDoor
namespace Rows

/-- THE TIED CARD OF 'docketlaw16.HeadAdds'. -/
def headAddsCard : Claim7 := { stood := { row := headAddsRow, standIns := [], harness := (true, "5a226730ef629e16567be47ca503723af0f449c8987d1911225a2256fdb94ae7"), looks := false }, kinds := [], alts := [], laidByText := true, laidKinds := [.data], laidTests := true, laidLooks := .later }
def HeadAddsCardSaid : Prop := Claim7.holds Tryd.pinned (.plain (OpenSpec.ofChange headAddsSpec)) headAddsCard

/-- THE TIED CARD OF 'docketlaw16.HeadOrder'. -/
def headOrderCard : Claim7 := { stood := { row := headOrderRow, standIns := [], harness := (true, "5a226730ef629e16567be47ca503723af0f449c8987d1911225a2256fdb94ae7"), looks := false }, kinds := [], alts := [], laidByText := true, laidKinds := [.data], laidTests := true, laidLooks := .later }
def HeadOrderCardSaid : Prop := Claim7.holds Tryd.pinned (.plain (OpenSpec.ofChange headOrderSpec)) headOrderCard

/-- THE TIED CARD OF 'docketlaw16.HeadSigned'. -/
def headSignedCard : Claim7 := { stood := { row := headSignedRow, standIns := [], harness := (true, "5a226730ef629e16567be47ca503723af0f449c8987d1911225a2256fdb94ae7"), looks := false }, kinds := [], alts := [], laidByText := true, laidKinds := [.data], laidTests := true, laidLooks := .later }
def HeadSignedCardSaid : Prop := Claim7.holds Tryd.pinned (.plain (OpenSpec.ofChange headSignedSpec)) headSignedCard

/-- THE SECOND FORM's CARD OF 'docketlaw16.HeadAdds'. -/
def headAddsUptoCard : Claim7 := { stood := { row := headAddsUptoRow, standIns := [], harness := (true, "5a226730ef629e16567be47ca503723af0f449c8987d1911225a2256fdb94ae7"), looks := false }, kinds := [], alts := [], laidByText := true, laidKinds := [.data], laidTests := true, laidLooks := .later }
def HeadAddsUptoCardSaid : Prop := Claim7.holds Tryd.pinned (.plain (OpenSpec.upto headAddsSpec)) headAddsUptoCard

/-- THE SECOND FORM's CARD OF 'docketlaw16.HeadOrder'. -/
def headOrderUptoCard : Claim7 := { stood := { row := headOrderUptoRow, standIns := [], harness := (true, "5a226730ef629e16567be47ca503723af0f449c8987d1911225a2256fdb94ae7"), looks := false }, kinds := [], alts := [], laidByText := true, laidKinds := [.data], laidTests := true, laidLooks := .later }
def HeadOrderUptoCardSaid : Prop := Claim7.holds Tryd.pinned (.plain (OpenSpec.upto headOrderSpec)) headOrderUptoCard

/-- THE SECOND FORM's CARD OF 'docketlaw16.HeadSigned'. -/
def headSignedUptoCard : Claim7 := { stood := { row := headSignedUptoRow, standIns := [], harness := (true, "5a226730ef629e16567be47ca503723af0f449c8987d1911225a2256fdb94ae7"), looks := false }, kinds := [], alts := [], laidByText := true, laidKinds := [.data], laidTests := true, laidLooks := .later }
def HeadSignedUptoCardSaid : Prop := Claim7.holds Tryd.pinned (.plain (OpenSpec.upto headSignedSpec)) headSignedUptoCard
end Rows
end Go.Proofs.YteelanamlhfmgaaDoor
