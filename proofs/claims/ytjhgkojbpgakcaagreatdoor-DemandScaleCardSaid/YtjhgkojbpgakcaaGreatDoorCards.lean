/-
  DERIVED. GIVEN WITH THE SEED: THE CARDS: each row of YtjhgkojbpgakcaaGreatDoorRows.lean that lists a variable, with what it lists TIED to the program's text (the seventh form; the later family's looks); each row that meets fmt, with fmt's text TOLD by the authors' own Lean function (tested against real Go, not proved from fmt's source: count such statements apart). THE CARD IS WHAT COUNTS. Prove the row's statement (the work); the ties are given (YtjhgkojbpgakcaaGreatDoorTie.lean); close each card by the builder's one call (the guide's Derived/Test/ToyasCard.lean, 'card_holds'). Laid BY PROGRAM, IN A SANDBOX (cutbox-door.mjs). By AI agents, Wed Nov 11 2026. No macro, syntax, notation, axiom, sorry.
-/
import Derived.Test.YtjhgkojbpgakcaaGreatDoorRows
import GoSem.ClaimSeven
namespace Go.Proofs.YtjhgkojbpgakcaaGreatDoor
namespace Rows

/-- THE TIED CARD OF 'waypointlaw39.DemandScale'. -/
def demandScaleCard : Claim7 := { stood := { row := demandScaleRow, standIns := [], harness := (true, "834e77f73bf208bd52d29dad8fcad9579bc1c7b7bab66bc0047eae9da591d981"), looks := false }, kinds := [], alts := [], laidByText := true, laidKinds := [.data, .data, .data], laidTests := true, laidLooks := .later }
def DemandScaleCardSaid : Prop := Claim7.holds Tryz.pinned (.plain (OpenSpec.ofChange demandScaleSpec)) demandScaleCard

/-- THE SECOND FORM's CARD OF 'waypointlaw39.DemandScale'. -/
def demandScaleUptoCard : Claim7 := { stood := { row := demandScaleUptoRow, standIns := [], harness := (true, "834e77f73bf208bd52d29dad8fcad9579bc1c7b7bab66bc0047eae9da591d981"), looks := false }, kinds := [], alts := [], laidByText := true, laidKinds := [.data, .data, .data], laidTests := true, laidLooks := .later }
def DemandScaleUptoCardSaid : Prop := Claim7.holds Tryz.pinned (.plain (OpenSpec.upto demandScaleSpec)) demandScaleUptoCard
end Rows
end Go.Proofs.YtjhgkojbpgakcaaGreatDoor
