/-
  DERIVED. GIVEN WITH THE SEED: THE CARDS: each row of YtmcfomainmppdaaGreatDoorRows.lean that lists a variable, with what it lists TIED to the program's text (the seventh form; the later family's looks); each row that meets fmt, with fmt's text TOLD by the authors' own Lean function (tested against real Go, not proved from fmt's source: count such statements apart). THE CARD IS WHAT COUNTS. Prove the row's statement (the work); the ties are given (YtmcfomainmppdaaGreatDoorTie.lean); close each card by the builder's one call (the guide's Derived/Test/ToyasCard.lean, 'card_holds'). Laid BY PROGRAM, IN A SANDBOX (cutbox-door.mjs). By AI agents, Wed Nov 11 2026. No macro, syntax, notation, axiom, sorry.
-/
import Derived.Test.YtmcfomainmppdaaGreatDoorRows
import GoSem.ClaimSeven
namespace Go.Proofs.YtmcfomainmppdaaGreatDoor
namespace Rows

/-- THE TIED CARD OF 'waypointtop.WholeExact'. -/
def wholeExactCard : Claim7 := { stood := { row := wholeExactRow, standIns := [], harness := (true, "54e028d6a533b06a245c482a3180257435ab4ea9b429acd242f21629cf688e32"), looks := false }, kinds := [], alts := [], laidByText := true, laidKinds := [.data, .data, .data], laidTests := true, laidLooks := .later }
def WholeExactCardSaid : Prop := Claim7.holds Tryz.pinned (.plain (OpenSpec.ofChange wholeExactSpec)) wholeExactCard

/-- THE TIED CARD OF 'waypointtop.WholeMixture'. -/
def wholeMixtureCard : Claim7 := { stood := { row := wholeMixtureRow, standIns := [], harness := (true, "54e028d6a533b06a245c482a3180257435ab4ea9b429acd242f21629cf688e32"), looks := false }, kinds := [], alts := [], laidByText := true, laidKinds := [.data, .data, .data], laidTests := true, laidLooks := .later }
def WholeMixtureCardSaid : Prop := Claim7.holds Tryz.pinned (.plain (OpenSpec.ofChange wholeMixtureSpec)) wholeMixtureCard

/-- THE TIED CARD OF 'waypointtop.WholeFinal'. -/
def wholeFinalCard : Claim7 := { stood := { row := wholeFinalRow, standIns := [], harness := (true, "54e028d6a533b06a245c482a3180257435ab4ea9b429acd242f21629cf688e32"), looks := false }, kinds := [], alts := [], laidByText := true, laidKinds := [.data, .data, .data], laidTests := true, laidLooks := .later }
def WholeFinalCardSaid : Prop := Claim7.holds Tryz.pinned (.plain (OpenSpec.ofChange wholeFinalSpec)) wholeFinalCard

/-- THE SECOND FORM's CARD OF 'waypointtop.WholeExact'. -/
def wholeExactUptoCard : Claim7 := { stood := { row := wholeExactUptoRow, standIns := [], harness := (true, "54e028d6a533b06a245c482a3180257435ab4ea9b429acd242f21629cf688e32"), looks := false }, kinds := [], alts := [], laidByText := true, laidKinds := [.data, .data, .data], laidTests := true, laidLooks := .later }
def WholeExactUptoCardSaid : Prop := Claim7.holds Tryz.pinned (.plain (OpenSpec.upto wholeExactSpec)) wholeExactUptoCard

/-- THE SECOND FORM's CARD OF 'waypointtop.WholeMixture'. -/
def wholeMixtureUptoCard : Claim7 := { stood := { row := wholeMixtureUptoRow, standIns := [], harness := (true, "54e028d6a533b06a245c482a3180257435ab4ea9b429acd242f21629cf688e32"), looks := false }, kinds := [], alts := [], laidByText := true, laidKinds := [.data, .data, .data], laidTests := true, laidLooks := .later }
def WholeMixtureUptoCardSaid : Prop := Claim7.holds Tryz.pinned (.plain (OpenSpec.upto wholeMixtureSpec)) wholeMixtureUptoCard

/-- THE SECOND FORM's CARD OF 'waypointtop.WholeFinal'. -/
def wholeFinalUptoCard : Claim7 := { stood := { row := wholeFinalUptoRow, standIns := [], harness := (true, "54e028d6a533b06a245c482a3180257435ab4ea9b429acd242f21629cf688e32"), looks := false }, kinds := [], alts := [], laidByText := true, laidKinds := [.data, .data, .data], laidTests := true, laidLooks := .later }
def WholeFinalUptoCardSaid : Prop := Claim7.holds Tryz.pinned (.plain (OpenSpec.upto wholeFinalSpec)) wholeFinalUptoCard
end Rows
end Go.Proofs.YtmcfomainmppdaaGreatDoor
