/-
  DERIVED. GIVEN WITH THE SEED: THE CARDS: each row of YtlhbcopaakejgaaGreatDoorRows.lean that lists a variable, with what it lists TIED to the program's text (the seventh form; the later family's looks); each row that meets fmt, with fmt's text TOLD by the authors' own Lean function (tested against real Go, not proved from fmt's source: count such statements apart). THE CARD IS WHAT COUNTS. Prove the row's statement (the work); the ties are given (YtlhbcopaakejgaaGreatDoorTie.lean); close each card by the builder's one call (the guide's Derived/Test/ToyasCard.lean, 'card_holds'). Laid BY PROGRAM, IN A SANDBOX (cutbox-door.mjs). By AI agents, Wed Nov 11 2026. No macro, syntax, notation, axiom, sorry.
-/
import Derived.Test.YtlhbcopaakejgaaGreatDoorRows
import GoSem.ClaimSeven
namespace Go.Proofs.YtlhbcopaakejgaaGreatDoor
namespace Rows

/-- THE TIED CARD OF 'waypointlaw12.DagShare'. -/
def dagShareCard : Claim7 := { stood := { row := dagShareRow, standIns := [], harness := (true, "1f1c0ecbab433cc53066dfc102f06663c08cced4d2cf2921e20f0531e743d128"), looks := false }, kinds := [], alts := [], laidByText := true, laidKinds := [.data, .data, .data], laidTests := true, laidLooks := .later }
def DagShareCardSaid : Prop := Claim7.holds Tryz.pinned (.plain (OpenSpec.ofChange dagShareSpec)) dagShareCard

/-- THE SECOND FORM's CARD OF 'waypointlaw12.DagShare'. -/
def dagShareUptoCard : Claim7 := { stood := { row := dagShareUptoRow, standIns := [], harness := (true, "1f1c0ecbab433cc53066dfc102f06663c08cced4d2cf2921e20f0531e743d128"), looks := false }, kinds := [], alts := [], laidByText := true, laidKinds := [.data, .data, .data], laidTests := true, laidLooks := .later }
def DagShareUptoCardSaid : Prop := Claim7.holds Tryz.pinned (.plain (OpenSpec.upto dagShareSpec)) dagShareUptoCard
end Rows
end Go.Proofs.YtlhbcopaakejgaaGreatDoor
