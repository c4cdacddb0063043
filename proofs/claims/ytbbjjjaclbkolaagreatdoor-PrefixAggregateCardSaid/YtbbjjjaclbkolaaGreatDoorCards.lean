/-
  DERIVED. GIVEN WITH THE SEED: THE CARDS: each row of YtbbjjjaclbkolaaGreatDoorRows.lean that lists a variable, with what it lists TIED to the program's text (the seventh form; the later family's looks); each row that meets fmt, with fmt's text TOLD by the authors' own Lean function (tested against real Go, not proved from fmt's source: count such statements apart). THE CARD IS WHAT COUNTS. Prove the row's statement (the work); the ties are given (YtbbjjjaclbkolaaGreatDoorTie.lean); close each card by the builder's one call (the guide's Derived/Test/ToyasCard.lean, 'card_holds'). Laid BY PROGRAM, IN A SANDBOX (cutbox-door.mjs). By AI agents, Wed Nov 11 2026. No macro, syntax, notation, axiom, sorry.
-/
import Derived.Test.YtbbjjjaclbkolaaGreatDoorRows
import GoSem.ClaimSeven
namespace Go.Proofs.YtbbjjjaclbkolaaGreatDoor
namespace Rows

/-- THE TIED CARD OF 'waypointlaw04.PrefixAggregate'. -/
def prefixAggregateCard : Claim7 := { stood := { row := prefixAggregateRow, standIns := [], harness := (true, "0a24537915863d1557e63eb03bdc00121172006c7d0310c9a1419f2e06299f3f"), looks := true }, kinds := [], alts := [], laidByText := true, laidKinds := [.data, .data, .data, .data, .sentinel, .sentinel, .pinned], laidTests := true, laidLooks := .later }
def PrefixAggregateCardSaid : Prop := Claim7.holds Tryz.pinned (.plain (OpenSpec.ofChange prefixAggregateSpec)) prefixAggregateCard

/-- THE SECOND FORM's CARD OF 'waypointlaw04.PrefixAggregate'. -/
def prefixAggregateUptoCard : Claim7 := { stood := { row := prefixAggregateUptoRow, standIns := [], harness := (true, "0a24537915863d1557e63eb03bdc00121172006c7d0310c9a1419f2e06299f3f"), looks := true }, kinds := [], alts := [], laidByText := true, laidKinds := [.data, .data, .data, .data, .sentinel, .sentinel, .pinned], laidTests := true, laidLooks := .later }
def PrefixAggregateUptoCardSaid : Prop := Claim7.holds Tryz.pinned (.plain (OpenSpec.upto prefixAggregateSpec)) prefixAggregateUptoCard
end Rows
end Go.Proofs.YtbbjjjaclbkolaaGreatDoor
