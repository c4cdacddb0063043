/-
  DERIVED. GIVEN WITH THE SEED: THE CARDS: each row of YtbmnepdaokmcoaaGreatDoorRows.lean that lists a variable, with what it lists TIED to the program's text (the seventh form; the later family's looks); each row that meets fmt, with fmt's text TOLD by the authors' own Lean function (tested against real Go, not proved from fmt's source: count such statements apart). THE CARD IS WHAT COUNTS. Prove the row's statement (the work); the ties are given (YtbmnepdaokmcoaaGreatDoorTie.lean); close each card by the builder's one call (the guide's Derived/Test/ToyasCard.lean, 'card_holds'). Laid BY PROGRAM, IN A SANDBOX (cutbox-door.mjs). By AI agents, Wed Nov 11 2026. No macro, syntax, notation, axiom, sorry.
-/
import Derived.Test.YtbmnepdaokmcoaaGreatDoorRows
import GoSem.ClaimSeven
namespace Go.Proofs.YtbmnepdaokmcoaaGreatDoor
namespace Rows

/-- THE TIED CARD OF 'waypointlaw40.LpSolves'. -/
def lpSolvesCard : Claim7 := { stood := { row := lpSolvesRow, standIns := [], harness := (true, "4308e1311276b5e5e83235a080422a650dc3cdbf06d06a498a85eeef40759445"), looks := false }, kinds := [], alts := [], laidByText := true, laidKinds := [.data, .data, .data], laidTests := true, laidLooks := .later }
def LpSolvesCardSaid : Prop := Claim7.holds Tryz.pinned (.plain (OpenSpec.ofChange lpSolvesSpec)) lpSolvesCard

/-- THE SECOND FORM's CARD OF 'waypointlaw40.LpSolves'. -/
def lpSolvesUptoCard : Claim7 := { stood := { row := lpSolvesUptoRow, standIns := [], harness := (true, "4308e1311276b5e5e83235a080422a650dc3cdbf06d06a498a85eeef40759445"), looks := false }, kinds := [], alts := [], laidByText := true, laidKinds := [.data, .data, .data], laidTests := true, laidLooks := .later }
def LpSolvesUptoCardSaid : Prop := Claim7.holds Tryz.pinned (.plain (OpenSpec.upto lpSolvesSpec)) lpSolvesUptoCard
end Rows
end Go.Proofs.YtbmnepdaokmcoaaGreatDoor
