/-
  DERIVED. GIVEN WITH THE SEED: THE CARDS: each row of YthkoaaneikhjjaaDoorRows.lean that lists a variable, with what it lists TIED to the program's text (the seventh form; the later family's looks); each row that meets fmt, with fmt's text TOLD by the authors' own Lean function (tested against real Go, not proved from fmt's source: count such statements apart). THE CARD IS WHAT COUNTS. Prove the row's statement (the work); the ties are given (YthkoaaneikhjjaaDoorTie.lean); close each card by the builder's one call (the guide's Derived/Test/ToyasCard.lean, 'card_holds'). Laid BY PROGRAM, IN A SANDBOX (cutbox-door.mjs). By AI agents, Wed Nov 11 2026. No macro, syntax, notation, axiom, sorry.
-/
import Derived.Test.YthkoaaneikhjjaaDoorRows
import GoSem.ClaimSeven
namespace Go.Proofs.YthkoaaneikhjjaaDoor
namespace Rows

/-- THE TIED CARD OF 'waypointlaw39.DemandOrder'. -/
def demandOrderCard : Claim7 := { stood := { row := demandOrderRow, standIns := [], harness := (true, "b766e12173ca03bc57bd79cf80622bd48f1edd9097479447575b51aba901f5cb"), looks := true }, kinds := [], alts := [], laidByText := true, laidKinds := [.data, .data, .data], laidTests := true, laidLooks := .later }
def DemandOrderCardSaid : Prop := Claim7.holds Tryd.pinned (.plain (OpenSpec.ofChange demandOrderSpec)) demandOrderCard

/-- THE TIED CARD OF 'waypointlaw39.DemandValid'. -/
def demandValidCard : Claim7 := { stood := { row := demandValidRow, standIns := [], harness := (true, "b766e12173ca03bc57bd79cf80622bd48f1edd9097479447575b51aba901f5cb"), looks := true }, kinds := [], alts := [], laidByText := true, laidKinds := [.data, .data, .data], laidTests := true, laidLooks := .later }
def DemandValidCardSaid : Prop := Claim7.holds Tryd.pinned (.plain (OpenSpec.ofChange demandValidSpec)) demandValidCard

/-- THE TIED CARD OF 'waypointlaw39.DemandMerge'. -/
def demandMergeCard : Claim7 := { stood := { row := demandMergeRow, standIns := [], harness := (true, "b766e12173ca03bc57bd79cf80622bd48f1edd9097479447575b51aba901f5cb"), looks := true }, kinds := [], alts := [], laidByText := true, laidKinds := [.data, .data, .data], laidTests := true, laidLooks := .later }
def DemandMergeCardSaid : Prop := Claim7.holds Tryd.pinned (.plain (OpenSpec.ofChange demandMergeSpec)) demandMergeCard

/-- THE TIED CARD OF 'waypointlaw39.DemandText'. -/
def demandTextCard : Claim7 := { stood := { row := demandTextRow, standIns := [], harness := (true, "b766e12173ca03bc57bd79cf80622bd48f1edd9097479447575b51aba901f5cb"), looks := true }, kinds := [], alts := [], laidByText := true, laidKinds := [.data, .data, .data, .sentinel, .sentinel], laidTests := true, laidLooks := .later }
def DemandTextCardSaid : Prop := Claim7.holds Tryd.pinned (.plain (OpenSpec.ofChange demandTextSpec)) demandTextCard

/-- THE TIED CARD OF 'waypointlaw39.DemandParse'. -/
def demandParseCard : Claim7 := { stood := { row := demandParseRow, standIns := [], harness := (true, "b766e12173ca03bc57bd79cf80622bd48f1edd9097479447575b51aba901f5cb"), looks := true }, kinds := [], alts := [], laidByText := true, laidKinds := [.data, .data, .data, .sentinel, .sentinel], laidTests := true, laidLooks := .later }
def DemandParseCardSaid : Prop := Claim7.holds Tryd.pinned (.plain (OpenSpec.ofChange demandParseSpec)) demandParseCard

/-- THE SECOND FORM's CARD OF 'waypointlaw39.DemandOrder'. -/
def demandOrderUptoCard : Claim7 := { stood := { row := demandOrderUptoRow, standIns := [], harness := (true, "b766e12173ca03bc57bd79cf80622bd48f1edd9097479447575b51aba901f5cb"), looks := true }, kinds := [], alts := [], laidByText := true, laidKinds := [.data, .data, .data], laidTests := true, laidLooks := .later }
def DemandOrderUptoCardSaid : Prop := Claim7.holds Tryd.pinned (.plain (OpenSpec.upto demandOrderSpec)) demandOrderUptoCard

/-- THE SECOND FORM's CARD OF 'waypointlaw39.DemandValid'. -/
def demandValidUptoCard : Claim7 := { stood := { row := demandValidUptoRow, standIns := [], harness := (true, "b766e12173ca03bc57bd79cf80622bd48f1edd9097479447575b51aba901f5cb"), looks := true }, kinds := [], alts := [], laidByText := true, laidKinds := [.data, .data, .data], laidTests := true, laidLooks := .later }
def DemandValidUptoCardSaid : Prop := Claim7.holds Tryd.pinned (.plain (OpenSpec.upto demandValidSpec)) demandValidUptoCard

/-- THE SECOND FORM's CARD OF 'waypointlaw39.DemandMerge'. -/
def demandMergeUptoCard : Claim7 := { stood := { row := demandMergeUptoRow, standIns := [], harness := (true, "b766e12173ca03bc57bd79cf80622bd48f1edd9097479447575b51aba901f5cb"), looks := true }, kinds := [], alts := [], laidByText := true, laidKinds := [.data, .data, .data], laidTests := true, laidLooks := .later }
def DemandMergeUptoCardSaid : Prop := Claim7.holds Tryd.pinned (.plain (OpenSpec.upto demandMergeSpec)) demandMergeUptoCard

/-- THE SECOND FORM's CARD OF 'waypointlaw39.DemandText'. -/
def demandTextUptoCard : Claim7 := { stood := { row := demandTextUptoRow, standIns := [], harness := (true, "b766e12173ca03bc57bd79cf80622bd48f1edd9097479447575b51aba901f5cb"), looks := true }, kinds := [], alts := [], laidByText := true, laidKinds := [.data, .data, .data, .sentinel, .sentinel], laidTests := true, laidLooks := .later }
def DemandTextUptoCardSaid : Prop := Claim7.holds Tryd.pinned (.plain (OpenSpec.upto demandTextSpec)) demandTextUptoCard

/-- THE SECOND FORM's CARD OF 'waypointlaw39.DemandParse'. -/
def demandParseUptoCard : Claim7 := { stood := { row := demandParseUptoRow, standIns := [], harness := (true, "b766e12173ca03bc57bd79cf80622bd48f1edd9097479447575b51aba901f5cb"), looks := true }, kinds := [], alts := [], laidByText := true, laidKinds := [.data, .data, .data, .sentinel, .sentinel], laidTests := true, laidLooks := .later }
def DemandParseUptoCardSaid : Prop := Claim7.holds Tryd.pinned (.plain (OpenSpec.upto demandParseSpec)) demandParseUptoCard
end Rows
end Go.Proofs.YthkoaaneikhjjaaDoor
