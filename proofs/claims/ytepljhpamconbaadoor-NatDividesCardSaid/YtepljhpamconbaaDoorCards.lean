/-
  DERIVED. GIVEN WITH THE SEED: THE CARDS: each row of YtepljhpamconbaaDoorRows.lean that lists a variable, with what it lists TIED to the program's text (the seventh form; the later family's looks); each row that meets fmt, with fmt's text TOLD by the authors' own Lean function (tested against real Go, not proved from fmt's source: count such statements apart). THE CARD IS WHAT COUNTS. Prove the row's statement (the work); the ties are given (YtepljhpamconbaaDoorTie.lean); close each card by the builder's one call (the guide's Derived/Test/ToyasCard.lean, 'card_holds'). Laid BY PROGRAM, IN A SANDBOX (cutbox-door.mjs). By AI agents, Wed Nov 11 2026. No macro, syntax, notation, axiom, sorry.
-/
import Derived.Test.YtepljhpamconbaaDoorRows
import GoSem.ClaimSeven
namespace Go.Proofs.YtepljhpamconbaaDoor
namespace Rows

/-- THE TIED CARD OF 'waypointlaw01.NatText'. -/
def natTextCard : Claim7 := { stood := { row := natTextRow, standIns := [], harness := (true, "fe3b1125528397cf24607fc3df87d8c61334eb917b5aba773f1b3c5d07c89109"), looks := false }, kinds := [], alts := [], laidByText := true, laidKinds := [.data, .data, .data], laidTests := true, laidLooks := .later }
def NatTextCardSaid : Prop := Claim7.holds Tryd.pinned (.plain (OpenSpec.ofChange natTextSpec)) natTextCard

/-- THE TIED CARD OF 'waypointlaw01.NatParse'. -/
def natParseCard : Claim7 := { stood := { row := natParseRow, standIns := [], harness := (true, "fe3b1125528397cf24607fc3df87d8c61334eb917b5aba773f1b3c5d07c89109"), looks := false }, kinds := [], alts := [], laidByText := true, laidKinds := [.data, .data, .data], laidTests := true, laidLooks := .later }
def NatParseCardSaid : Prop := Claim7.holds Tryd.pinned (.plain (OpenSpec.ofChange natParseSpec)) natParseCard

/-- THE TIED CARD OF 'waypointlaw01.NatProducts'. -/
def natProductsCard : Claim7 := { stood := { row := natProductsRow, standIns := [], harness := (true, "fe3b1125528397cf24607fc3df87d8c61334eb917b5aba773f1b3c5d07c89109"), looks := false }, kinds := [], alts := [], laidByText := true, laidKinds := [.data, .data, .data], laidTests := true, laidLooks := .later }
def NatProductsCardSaid : Prop := Claim7.holds Tryd.pinned (.plain (OpenSpec.ofChange natProductsSpec)) natProductsCard

/-- THE TIED CARD OF 'waypointlaw01.NatQuotients'. -/
def natQuotientsCard : Claim7 := { stood := { row := natQuotientsRow, standIns := [], harness := (true, "fe3b1125528397cf24607fc3df87d8c61334eb917b5aba773f1b3c5d07c89109"), looks := false }, kinds := [], alts := [], laidByText := true, laidKinds := [.data, .data, .data], laidTests := true, laidLooks := .later }
def NatQuotientsCardSaid : Prop := Claim7.holds Tryd.pinned (.plain (OpenSpec.ofChange natQuotientsSpec)) natQuotientsCard

/-- THE TIED CARD OF 'waypointlaw01.NatBits'. -/
def natBitsCard : Claim7 := { stood := { row := natBitsRow, standIns := [], harness := (true, "fe3b1125528397cf24607fc3df87d8c61334eb917b5aba773f1b3c5d07c89109"), looks := false }, kinds := [], alts := [], laidByText := true, laidKinds := [.data, .data, .data], laidTests := true, laidLooks := .later }
def NatBitsCardSaid : Prop := Claim7.holds Tryd.pinned (.plain (OpenSpec.ofChange natBitsSpec)) natBitsCard

/-- THE TIED CARD OF 'waypointlaw01.NatDivides'. -/
def natDividesCard : Claim7 := { stood := { row := natDividesRow, standIns := [], harness := (true, "fe3b1125528397cf24607fc3df87d8c61334eb917b5aba773f1b3c5d07c89109"), looks := false }, kinds := [], alts := [], laidByText := true, laidKinds := [.data, .data, .data], laidTests := true, laidLooks := .later }
def NatDividesCardSaid : Prop := Claim7.holds Tryd.pinned (.plain (OpenSpec.ofChange natDividesSpec)) natDividesCard

/-- THE TIED CARD OF 'waypointlaw01.NatSums'. -/
def natSumsCard : Claim7 := { stood := { row := natSumsRow, standIns := [], harness := (true, "fe3b1125528397cf24607fc3df87d8c61334eb917b5aba773f1b3c5d07c89109"), looks := false }, kinds := [], alts := [], laidByText := true, laidKinds := [.data, .data, .data], laidTests := true, laidLooks := .later }
def NatSumsCardSaid : Prop := Claim7.holds Tryd.pinned (.plain (OpenSpec.ofChange natSumsSpec)) natSumsCard

/-- THE TIED CARD OF 'waypointlaw01.NatAlgebra'. -/
def natAlgebraCard : Claim7 := { stood := { row := natAlgebraRow, standIns := [], harness := (true, "fe3b1125528397cf24607fc3df87d8c61334eb917b5aba773f1b3c5d07c89109"), looks := false }, kinds := [], alts := [], laidByText := true, laidKinds := [.data, .data, .data], laidTests := true, laidLooks := .later }
def NatAlgebraCardSaid : Prop := Claim7.holds Tryd.pinned (.plain (OpenSpec.ofChange natAlgebraSpec)) natAlgebraCard

/-- THE SECOND FORM's CARD OF 'waypointlaw01.NatText'. -/
def natTextUptoCard : Claim7 := { stood := { row := natTextUptoRow, standIns := [], harness := (true, "fe3b1125528397cf24607fc3df87d8c61334eb917b5aba773f1b3c5d07c89109"), looks := false }, kinds := [], alts := [], laidByText := true, laidKinds := [.data, .data, .data], laidTests := true, laidLooks := .later }
def NatTextUptoCardSaid : Prop := Claim7.holds Tryd.pinned (.plain (OpenSpec.upto natTextSpec)) natTextUptoCard

/-- THE SECOND FORM's CARD OF 'waypointlaw01.NatParse'. -/
def natParseUptoCard : Claim7 := { stood := { row := natParseUptoRow, standIns := [], harness := (true, "fe3b1125528397cf24607fc3df87d8c61334eb917b5aba773f1b3c5d07c89109"), looks := false }, kinds := [], alts := [], laidByText := true, laidKinds := [.data, .data, .data], laidTests := true, laidLooks := .later }
def NatParseUptoCardSaid : Prop := Claim7.holds Tryd.pinned (.plain (OpenSpec.upto natParseSpec)) natParseUptoCard

/-- THE SECOND FORM's CARD OF 'waypointlaw01.NatProducts'. -/
def natProductsUptoCard : Claim7 := { stood := { row := natProductsUptoRow, standIns := [], harness := (true, "fe3b1125528397cf24607fc3df87d8c61334eb917b5aba773f1b3c5d07c89109"), looks := false }, kinds := [], alts := [], laidByText := true, laidKinds := [.data, .data, .data], laidTests := true, laidLooks := .later }
def NatProductsUptoCardSaid : Prop := Claim7.holds Tryd.pinned (.plain (OpenSpec.upto natProductsSpec)) natProductsUptoCard

/-- THE SECOND FORM's CARD OF 'waypointlaw01.NatQuotients'. -/
def natQuotientsUptoCard : Claim7 := { stood := { row := natQuotientsUptoRow, standIns := [], harness := (true, "fe3b1125528397cf24607fc3df87d8c61334eb917b5aba773f1b3c5d07c89109"), looks := false }, kinds := [], alts := [], laidByText := true, laidKinds := [.data, .data, .data], laidTests := true, laidLooks := .later }
def NatQuotientsUptoCardSaid : Prop := Claim7.holds Tryd.pinned (.plain (OpenSpec.upto natQuotientsSpec)) natQuotientsUptoCard

/-- THE SECOND FORM's CARD OF 'waypointlaw01.NatBits'. -/
def natBitsUptoCard : Claim7 := { stood := { row := natBitsUptoRow, standIns := [], harness := (true, "fe3b1125528397cf24607fc3df87d8c61334eb917b5aba773f1b3c5d07c89109"), looks := false }, kinds := [], alts := [], laidByText := true, laidKinds := [.data, .data, .data], laidTests := true, laidLooks := .later }
def NatBitsUptoCardSaid : Prop := Claim7.holds Tryd.pinned (.plain (OpenSpec.upto natBitsSpec)) natBitsUptoCard

/-- THE SECOND FORM's CARD OF 'waypointlaw01.NatDivides'. -/
def natDividesUptoCard : Claim7 := { stood := { row := natDividesUptoRow, standIns := [], harness := (true, "fe3b1125528397cf24607fc3df87d8c61334eb917b5aba773f1b3c5d07c89109"), looks := false }, kinds := [], alts := [], laidByText := true, laidKinds := [.data, .data, .data], laidTests := true, laidLooks := .later }
def NatDividesUptoCardSaid : Prop := Claim7.holds Tryd.pinned (.plain (OpenSpec.upto natDividesSpec)) natDividesUptoCard

/-- THE SECOND FORM's CARD OF 'waypointlaw01.NatSums'. -/
def natSumsUptoCard : Claim7 := { stood := { row := natSumsUptoRow, standIns := [], harness := (true, "fe3b1125528397cf24607fc3df87d8c61334eb917b5aba773f1b3c5d07c89109"), looks := false }, kinds := [], alts := [], laidByText := true, laidKinds := [.data, .data, .data], laidTests := true, laidLooks := .later }
def NatSumsUptoCardSaid : Prop := Claim7.holds Tryd.pinned (.plain (OpenSpec.upto natSumsSpec)) natSumsUptoCard

/-- THE SECOND FORM's CARD OF 'waypointlaw01.NatAlgebra'. -/
def natAlgebraUptoCard : Claim7 := { stood := { row := natAlgebraUptoRow, standIns := [], harness := (true, "fe3b1125528397cf24607fc3df87d8c61334eb917b5aba773f1b3c5d07c89109"), looks := false }, kinds := [], alts := [], laidByText := true, laidKinds := [.data, .data, .data], laidTests := true, laidLooks := .later }
def NatAlgebraUptoCardSaid : Prop := Claim7.holds Tryd.pinned (.plain (OpenSpec.upto natAlgebraSpec)) natAlgebraUptoCard
end Rows
end Go.Proofs.YtepljhpamconbaaDoor
