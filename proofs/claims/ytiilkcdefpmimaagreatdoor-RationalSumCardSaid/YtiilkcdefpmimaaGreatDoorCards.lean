/-
  DERIVED. GIVEN WITH THE SEED: THE CARDS: each row of YtiilkcdefpmimaaGreatDoorRows.lean that lists a variable, with what it lists TIED to the program's text (the seventh form; the later family's looks); each row that meets fmt, with fmt's text TOLD by the authors' own Lean function (tested against real Go, not proved from fmt's source: count such statements apart). THE CARD IS WHAT COUNTS. Prove the row's statement (the work); the ties are given (YtiilkcdefpmimaaGreatDoorTie.lean); close each card by the builder's one call (the guide's Derived/Test/ToyasCard.lean, 'card_holds'). Laid BY PROGRAM, IN A SANDBOX (cutbox-door.mjs). By AI agents, Wed Nov 11 2026. No macro, syntax, notation, axiom, sorry.
-/
import Derived.Test.YtiilkcdefpmimaaGreatDoorRows
import GoSem.ClaimSeven
namespace Go.Proofs.YtiilkcdefpmimaaGreatDoor
namespace Rows

/-- THE TIED CARD OF 'waypointlaw02.RationalParse'. -/
def rationalParseCard : Claim7 := { stood := { row := rationalParseRow, standIns := [], harness := (true, "e394b8c746bf288bddca500b7524884cdcdcfda441852143863f14bd99dbfe15"), looks := false }, kinds := [], alts := [], laidByText := true, laidKinds := [.data, .data, .data], laidTests := true, laidLooks := .later }
def RationalParseCardSaid : Prop := Claim7.holds Tryz.pinned (.plain (OpenSpec.ofChange rationalParseSpec)) rationalParseCard

/-- THE TIED CARD OF 'waypointlaw02.RationalText'. -/
def rationalTextCard : Claim7 := { stood := { row := rationalTextRow, standIns := [], harness := (true, "e394b8c746bf288bddca500b7524884cdcdcfda441852143863f14bd99dbfe15"), looks := false }, kinds := [], alts := [], laidByText := true, laidKinds := [.data, .data, .data], laidTests := true, laidLooks := .later }
def RationalTextCardSaid : Prop := Claim7.holds Tryz.pinned (.plain (OpenSpec.ofChange rationalTextSpec)) rationalTextCard

/-- THE TIED CARD OF 'waypointlaw02.RationalOf'. -/
def rationalOfCard : Claim7 := { stood := { row := rationalOfRow, standIns := [], harness := (true, "e394b8c746bf288bddca500b7524884cdcdcfda441852143863f14bd99dbfe15"), looks := false }, kinds := [], alts := [], laidByText := true, laidKinds := [.data, .data, .data], laidTests := true, laidLooks := .later }
def RationalOfCardSaid : Prop := Claim7.holds Tryz.pinned (.plain (OpenSpec.ofChange rationalOfSpec)) rationalOfCard

/-- THE TIED CARD OF 'waypointlaw02.RationalSums'. -/
def rationalSumsCard : Claim7 := { stood := { row := rationalSumsRow, standIns := [], harness := (true, "e394b8c746bf288bddca500b7524884cdcdcfda441852143863f14bd99dbfe15"), looks := false }, kinds := [], alts := [], laidByText := true, laidKinds := [.data, .data, .data], laidTests := true, laidLooks := .later }
def RationalSumsCardSaid : Prop := Claim7.holds Tryz.pinned (.plain (OpenSpec.ofChange rationalSumsSpec)) rationalSumsCard

/-- THE TIED CARD OF 'waypointlaw02.RationalProducts'. -/
def rationalProductsCard : Claim7 := { stood := { row := rationalProductsRow, standIns := [], harness := (true, "e394b8c746bf288bddca500b7524884cdcdcfda441852143863f14bd99dbfe15"), looks := false }, kinds := [], alts := [], laidByText := true, laidKinds := [.data, .data, .data], laidTests := true, laidLooks := .later }
def RationalProductsCardSaid : Prop := Claim7.holds Tryz.pinned (.plain (OpenSpec.ofChange rationalProductsSpec)) rationalProductsCard

/-- THE TIED CARD OF 'waypointlaw02.RationalFloor'. -/
def rationalFloorCard : Claim7 := { stood := { row := rationalFloorRow, standIns := [], harness := (true, "e394b8c746bf288bddca500b7524884cdcdcfda441852143863f14bd99dbfe15"), looks := false }, kinds := [], alts := [], laidByText := true, laidKinds := [.data, .data, .data], laidTests := true, laidLooks := .later }
def RationalFloorCardSaid : Prop := Claim7.holds Tryz.pinned (.plain (OpenSpec.ofChange rationalFloorSpec)) rationalFloorCard

/-- THE TIED CARD OF 'waypointlaw02.RationalField'. -/
def rationalFieldCard : Claim7 := { stood := { row := rationalFieldRow, standIns := [], harness := (true, "e394b8c746bf288bddca500b7524884cdcdcfda441852143863f14bd99dbfe15"), looks := false }, kinds := [], alts := [], laidByText := true, laidKinds := [.data, .data, .data], laidTests := true, laidLooks := .later }
def RationalFieldCardSaid : Prop := Claim7.holds Tryz.pinned (.plain (OpenSpec.ofChange rationalFieldSpec)) rationalFieldCard

/-- THE TIED CARD OF 'waypointlaw02.RationalSum'. -/
def rationalSumCard : Claim7 := { stood := { row := rationalSumRow, standIns := [], harness := (true, "e394b8c746bf288bddca500b7524884cdcdcfda441852143863f14bd99dbfe15"), looks := false }, kinds := [], alts := [], laidByText := true, laidKinds := [.data, .data, .data], laidTests := true, laidLooks := .later }
def RationalSumCardSaid : Prop := Claim7.holds Tryz.pinned (.plain (OpenSpec.ofChange rationalSumSpec)) rationalSumCard

/-- THE SECOND FORM's CARD OF 'waypointlaw02.RationalParse'. -/
def rationalParseUptoCard : Claim7 := { stood := { row := rationalParseUptoRow, standIns := [], harness := (true, "e394b8c746bf288bddca500b7524884cdcdcfda441852143863f14bd99dbfe15"), looks := false }, kinds := [], alts := [], laidByText := true, laidKinds := [.data, .data, .data], laidTests := true, laidLooks := .later }
def RationalParseUptoCardSaid : Prop := Claim7.holds Tryz.pinned (.plain (OpenSpec.upto rationalParseSpec)) rationalParseUptoCard

/-- THE SECOND FORM's CARD OF 'waypointlaw02.RationalText'. -/
def rationalTextUptoCard : Claim7 := { stood := { row := rationalTextUptoRow, standIns := [], harness := (true, "e394b8c746bf288bddca500b7524884cdcdcfda441852143863f14bd99dbfe15"), looks := false }, kinds := [], alts := [], laidByText := true, laidKinds := [.data, .data, .data], laidTests := true, laidLooks := .later }
def RationalTextUptoCardSaid : Prop := Claim7.holds Tryz.pinned (.plain (OpenSpec.upto rationalTextSpec)) rationalTextUptoCard

/-- THE SECOND FORM's CARD OF 'waypointlaw02.RationalOf'. -/
def rationalOfUptoCard : Claim7 := { stood := { row := rationalOfUptoRow, standIns := [], harness := (true, "e394b8c746bf288bddca500b7524884cdcdcfda441852143863f14bd99dbfe15"), looks := false }, kinds := [], alts := [], laidByText := true, laidKinds := [.data, .data, .data], laidTests := true, laidLooks := .later }
def RationalOfUptoCardSaid : Prop := Claim7.holds Tryz.pinned (.plain (OpenSpec.upto rationalOfSpec)) rationalOfUptoCard

/-- THE SECOND FORM's CARD OF 'waypointlaw02.RationalSums'. -/
def rationalSumsUptoCard : Claim7 := { stood := { row := rationalSumsUptoRow, standIns := [], harness := (true, "e394b8c746bf288bddca500b7524884cdcdcfda441852143863f14bd99dbfe15"), looks := false }, kinds := [], alts := [], laidByText := true, laidKinds := [.data, .data, .data], laidTests := true, laidLooks := .later }
def RationalSumsUptoCardSaid : Prop := Claim7.holds Tryz.pinned (.plain (OpenSpec.upto rationalSumsSpec)) rationalSumsUptoCard

/-- THE SECOND FORM's CARD OF 'waypointlaw02.RationalProducts'. -/
def rationalProductsUptoCard : Claim7 := { stood := { row := rationalProductsUptoRow, standIns := [], harness := (true, "e394b8c746bf288bddca500b7524884cdcdcfda441852143863f14bd99dbfe15"), looks := false }, kinds := [], alts := [], laidByText := true, laidKinds := [.data, .data, .data], laidTests := true, laidLooks := .later }
def RationalProductsUptoCardSaid : Prop := Claim7.holds Tryz.pinned (.plain (OpenSpec.upto rationalProductsSpec)) rationalProductsUptoCard

/-- THE SECOND FORM's CARD OF 'waypointlaw02.RationalFloor'. -/
def rationalFloorUptoCard : Claim7 := { stood := { row := rationalFloorUptoRow, standIns := [], harness := (true, "e394b8c746bf288bddca500b7524884cdcdcfda441852143863f14bd99dbfe15"), looks := false }, kinds := [], alts := [], laidByText := true, laidKinds := [.data, .data, .data], laidTests := true, laidLooks := .later }
def RationalFloorUptoCardSaid : Prop := Claim7.holds Tryz.pinned (.plain (OpenSpec.upto rationalFloorSpec)) rationalFloorUptoCard

/-- THE SECOND FORM's CARD OF 'waypointlaw02.RationalField'. -/
def rationalFieldUptoCard : Claim7 := { stood := { row := rationalFieldUptoRow, standIns := [], harness := (true, "e394b8c746bf288bddca500b7524884cdcdcfda441852143863f14bd99dbfe15"), looks := false }, kinds := [], alts := [], laidByText := true, laidKinds := [.data, .data, .data], laidTests := true, laidLooks := .later }
def RationalFieldUptoCardSaid : Prop := Claim7.holds Tryz.pinned (.plain (OpenSpec.upto rationalFieldSpec)) rationalFieldUptoCard

/-- THE SECOND FORM's CARD OF 'waypointlaw02.RationalSum'. -/
def rationalSumUptoCard : Claim7 := { stood := { row := rationalSumUptoRow, standIns := [], harness := (true, "e394b8c746bf288bddca500b7524884cdcdcfda441852143863f14bd99dbfe15"), looks := false }, kinds := [], alts := [], laidByText := true, laidKinds := [.data, .data, .data], laidTests := true, laidLooks := .later }
def RationalSumUptoCardSaid : Prop := Claim7.holds Tryz.pinned (.plain (OpenSpec.upto rationalSumSpec)) rationalSumUptoCard
end Rows
end Go.Proofs.YtiilkcdefpmimaaGreatDoor
