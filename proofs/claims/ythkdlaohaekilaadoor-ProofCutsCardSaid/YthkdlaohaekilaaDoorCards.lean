/-
  DERIVED. GIVEN WITH THE SEED: THE CARDS: each row of YthkdlaohaekilaaDoorRows.lean that lists a variable, with what it lists TIED to the program's text (the seventh form; the later family's looks); each row that meets fmt, with fmt's text TOLD by the authors' own Lean function (tested against real Go, not proved from fmt's source: count such statements apart). THE CARD IS WHAT COUNTS. Prove the row's statement (the work); the ties are given (YthkdlaohaekilaaDoorTie.lean); close each card by the builder's one call (the guide's Derived/Test/ToyasCard.lean, 'card_holds'). Laid BY PROGRAM, IN A SANDBOX (cutbox-door.mjs). By AI agents, Wed Nov 11 2026. No macro, syntax, notation, axiom, sorry.
-/
import Derived.Test.YthkdlaohaekilaaDoorRows
import GoSem.ClaimSeven
namespace Go.Proofs.YthkdlaohaekilaaDoor
namespace Rows

/-- THE TIED CARD OF 'docketlaw17.ProofCuts'. -/
def proofCutsCard : Claim7 := { stood := { row := proofCutsRow, standIns := [], harness := (true, "5726764487d30abba9db683df901b681e6ad91be872f7cea382fa31642945341"), looks := false }, kinds := [], alts := [], laidByText := true, laidKinds := [.data], laidTests := true, laidLooks := .later }
def ProofCutsCardSaid : Prop := Claim7.holds Tryd.pinned (.plain (OpenSpec.ofChange proofCutsSpec)) proofCutsCard

/-- THE TIED CARD OF 'docketlaw17.ProofJoined'. -/
def proofJoinedCard : Claim7 := { stood := { row := proofJoinedRow, standIns := [], harness := (true, "5726764487d30abba9db683df901b681e6ad91be872f7cea382fa31642945341"), looks := false }, kinds := [], alts := [], laidByText := true, laidKinds := [.data], laidTests := true, laidLooks := .later }
def ProofJoinedCardSaid : Prop := Claim7.holds Tryd.pinned (.plain (OpenSpec.ofChange proofJoinedSpec)) proofJoinedCard

/-- THE TIED CARD OF 'docketlaw6.TreeProves'. -/
def treeProvesCard : Claim7 := { stood := { row := treeProvesRow, standIns := [], harness := (true, "5726764487d30abba9db683df901b681e6ad91be872f7cea382fa31642945341"), looks := false }, kinds := [], alts := [], laidByText := true, laidKinds := [.data, .data, .data], laidTests := true, laidLooks := .later }
def TreeProvesCardSaid : Prop := Claim7.holds Tryd.pinned (.plain (OpenSpec.ofChange treeProvesSpec)) treeProvesCard

/-- THE TIED CARD OF 'docketlaw16.HeadAdds'. -/
def headAddsCard : Claim7 := { stood := { row := headAddsRow, standIns := [], harness := (true, "5726764487d30abba9db683df901b681e6ad91be872f7cea382fa31642945341"), looks := false }, kinds := [], alts := [], laidByText := true, laidKinds := [.data], laidTests := true, laidLooks := .later }
def HeadAddsCardSaid : Prop := Claim7.holds Tryd.pinned (.plain (OpenSpec.ofChange headAddsSpec)) headAddsCard

/-- THE TIED CARD OF 'docketlaw16.HeadOrder'. -/
def headOrderCard : Claim7 := { stood := { row := headOrderRow, standIns := [], harness := (true, "5726764487d30abba9db683df901b681e6ad91be872f7cea382fa31642945341"), looks := false }, kinds := [], alts := [], laidByText := true, laidKinds := [.data], laidTests := true, laidLooks := .later }
def HeadOrderCardSaid : Prop := Claim7.holds Tryd.pinned (.plain (OpenSpec.ofChange headOrderSpec)) headOrderCard

/-- THE TIED CARD OF 'docketlaw16.HeadSigned'. -/
def headSignedCard : Claim7 := { stood := { row := headSignedRow, standIns := [], harness := (true, "5726764487d30abba9db683df901b681e6ad91be872f7cea382fa31642945341"), looks := false }, kinds := [], alts := [], laidByText := true, laidKinds := [.data], laidTests := true, laidLooks := .later }
def HeadSignedCardSaid : Prop := Claim7.holds Tryd.pinned (.plain (OpenSpec.ofChange headSignedSpec)) headSignedCard

/-- THE SECOND FORM's CARD OF 'docketlaw17.ProofCuts'. -/
def proofCutsUptoCard : Claim7 := { stood := { row := proofCutsUptoRow, standIns := [], harness := (true, "5726764487d30abba9db683df901b681e6ad91be872f7cea382fa31642945341"), looks := false }, kinds := [], alts := [], laidByText := true, laidKinds := [.data], laidTests := true, laidLooks := .later }
def ProofCutsUptoCardSaid : Prop := Claim7.holds Tryd.pinned (.plain (OpenSpec.upto proofCutsSpec)) proofCutsUptoCard

/-- THE SECOND FORM's CARD OF 'docketlaw17.ProofJoined'. -/
def proofJoinedUptoCard : Claim7 := { stood := { row := proofJoinedUptoRow, standIns := [], harness := (true, "5726764487d30abba9db683df901b681e6ad91be872f7cea382fa31642945341"), looks := false }, kinds := [], alts := [], laidByText := true, laidKinds := [.data], laidTests := true, laidLooks := .later }
def ProofJoinedUptoCardSaid : Prop := Claim7.holds Tryd.pinned (.plain (OpenSpec.upto proofJoinedSpec)) proofJoinedUptoCard

/-- THE SECOND FORM's CARD OF 'docketlaw6.TreeProves'. -/
def treeProvesUptoCard : Claim7 := { stood := { row := treeProvesUptoRow, standIns := [], harness := (true, "5726764487d30abba9db683df901b681e6ad91be872f7cea382fa31642945341"), looks := false }, kinds := [], alts := [], laidByText := true, laidKinds := [.data, .data, .data], laidTests := true, laidLooks := .later }
def TreeProvesUptoCardSaid : Prop := Claim7.holds Tryd.pinned (.plain (OpenSpec.upto treeProvesSpec)) treeProvesUptoCard

/-- THE SECOND FORM's CARD OF 'docketlaw16.HeadAdds'. -/
def headAddsUptoCard : Claim7 := { stood := { row := headAddsUptoRow, standIns := [], harness := (true, "5726764487d30abba9db683df901b681e6ad91be872f7cea382fa31642945341"), looks := false }, kinds := [], alts := [], laidByText := true, laidKinds := [.data], laidTests := true, laidLooks := .later }
def HeadAddsUptoCardSaid : Prop := Claim7.holds Tryd.pinned (.plain (OpenSpec.upto headAddsSpec)) headAddsUptoCard

/-- THE SECOND FORM's CARD OF 'docketlaw16.HeadOrder'. -/
def headOrderUptoCard : Claim7 := { stood := { row := headOrderUptoRow, standIns := [], harness := (true, "5726764487d30abba9db683df901b681e6ad91be872f7cea382fa31642945341"), looks := false }, kinds := [], alts := [], laidByText := true, laidKinds := [.data], laidTests := true, laidLooks := .later }
def HeadOrderUptoCardSaid : Prop := Claim7.holds Tryd.pinned (.plain (OpenSpec.upto headOrderSpec)) headOrderUptoCard

/-- THE SECOND FORM's CARD OF 'docketlaw16.HeadSigned'. -/
def headSignedUptoCard : Claim7 := { stood := { row := headSignedUptoRow, standIns := [], harness := (true, "5726764487d30abba9db683df901b681e6ad91be872f7cea382fa31642945341"), looks := false }, kinds := [], alts := [], laidByText := true, laidKinds := [.data], laidTests := true, laidLooks := .later }
def HeadSignedUptoCardSaid : Prop := Claim7.holds Tryd.pinned (.plain (OpenSpec.upto headSignedSpec)) headSignedUptoCard
end Rows
end Go.Proofs.YthkdlaohaekilaaDoor
