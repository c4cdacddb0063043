/-
  DERIVED. GIVEN WITH THE SEED: THE CARDS: each row of YtjhgkojbpgakcaaDoorRows.lean that lists a variable, with what it lists TIED to the program's text (the seventh form; the later family's looks); each row that meets fmt, with fmt's text TOLD by the authors' own Lean function (tested against real Go, not proved from fmt's source: count such statements apart). THE CARD IS WHAT COUNTS. Prove the row's statement (the work); the ties are given (YtjhgkojbpgakcaaDoorTie.lean); close each card by the builder's one call (the guide's Derived/Test/ToyasCard.lean, 'card_holds'). Laid BY PROGRAM, IN A SANDBOX (cutbox-door.mjs). By AI agents, Wed Nov 11 2026. No macro, syntax, notation, axiom, sorry.
-/
import Derived.Test.YtjhgkojbpgakcaaDoorRows
import GoSem.ClaimSeven
namespace Go.Proofs.YtjhgkojbpgakcaaDoor
namespace Rows

/-- THE TIED CARD OF 'waypointlaw39.DemandText'. -/
def demandTextCard : Claim7 := { stood := { row := demandTextRow, standIns := [], harness := (true, "e023b25389295fb76df260a4bff86110e617208cc99280cbf961a69de7269d63"), looks := true }, kinds := [], alts := [], laidByText := true, laidKinds := [.data, .data, .data, .sentinel, .sentinel], laidTests := true, laidLooks := .later }
def DemandTextCardSaid : Prop := Claim7.holds Tryd.pinned (.plain (OpenSpec.ofChange demandTextSpec)) demandTextCard

/-- THE TIED CARD OF 'waypointlaw39.DemandParse'. -/
def demandParseCard : Claim7 := { stood := { row := demandParseRow, standIns := [], harness := (true, "e023b25389295fb76df260a4bff86110e617208cc99280cbf961a69de7269d63"), looks := true }, kinds := [], alts := [], laidByText := true, laidKinds := [.data, .data, .data, .sentinel, .sentinel], laidTests := true, laidLooks := .later }
def DemandParseCardSaid : Prop := Claim7.holds Tryd.pinned (.plain (OpenSpec.ofChange demandParseSpec)) demandParseCard

/-- THE SECOND FORM's CARD OF 'waypointlaw39.DemandText'. -/
def demandTextUptoCard : Claim7 := { stood := { row := demandTextUptoRow, standIns := [], harness := (true, "e023b25389295fb76df260a4bff86110e617208cc99280cbf961a69de7269d63"), looks := true }, kinds := [], alts := [], laidByText := true, laidKinds := [.data, .data, .data, .sentinel, .sentinel], laidTests := true, laidLooks := .later }
def DemandTextUptoCardSaid : Prop := Claim7.holds Tryd.pinned (.plain (OpenSpec.upto demandTextSpec)) demandTextUptoCard

/-- THE SECOND FORM's CARD OF 'waypointlaw39.DemandParse'. -/
def demandParseUptoCard : Claim7 := { stood := { row := demandParseUptoRow, standIns := [], harness := (true, "e023b25389295fb76df260a4bff86110e617208cc99280cbf961a69de7269d63"), looks := true }, kinds := [], alts := [], laidByText := true, laidKinds := [.data, .data, .data, .sentinel, .sentinel], laidTests := true, laidLooks := .later }
def DemandParseUptoCardSaid : Prop := Claim7.holds Tryd.pinned (.plain (OpenSpec.upto demandParseSpec)) demandParseUptoCard
end Rows
end Go.Proofs.YtjhgkojbpgakcaaDoor
