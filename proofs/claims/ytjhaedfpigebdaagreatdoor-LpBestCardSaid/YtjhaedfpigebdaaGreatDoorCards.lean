/-
  DERIVED. GIVEN WITH THE SEED: THE CARDS: each row of YtjhaedfpigebdaaGreatDoorRows.lean that lists a variable, with what it lists TIED to the program's text (the seventh form; the later family's looks); each row that meets fmt, with fmt's text TOLD by the authors' own Lean function (tested against real Go, not proved from fmt's source: count such statements apart). THE CARD IS WHAT COUNTS. Prove the row's statement (the work); the ties are given (YtjhaedfpigebdaaGreatDoorTie.lean); close each card by the builder's one call (the guide's Derived/Test/ToyasCard.lean, 'card_holds'). Laid BY PROGRAM, IN A SANDBOX (cutbox-door.mjs). By AI agents, Wed Nov 11 2026. No macro, syntax, notation, axiom, sorry.
-/
import Derived.Test.YtjhaedfpigebdaaGreatDoorRows
import GoSem.ClaimSeven
namespace Go.Proofs.YtjhaedfpigebdaaGreatDoor
namespace Rows

/-- THE TIED CARD OF 'waypointlaw40.LpBest'. -/
def lpBestCard : Claim7 := { stood := { row := lpBestRow, standIns := [], harness := (true, "3ea0b42cd6116b0d4d4df326006ac646c8f156b65a5b55403e1acb8a2b077675"), looks := false }, kinds := [], alts := [], laidByText := true, laidKinds := [.data, .data, .data], laidTests := true, laidLooks := .later }
def LpBestCardSaid : Prop := Claim7.holds Tryz.pinned (.plain (OpenSpec.ofChange lpBestSpec)) lpBestCard

/-- THE TIED CARD OF 'waypointlaw40.LpPoints'. -/
def lpPointsCard : Claim7 := { stood := { row := lpPointsRow, standIns := [], harness := (true, "3ea0b42cd6116b0d4d4df326006ac646c8f156b65a5b55403e1acb8a2b077675"), looks := false }, kinds := [], alts := [], laidByText := true, laidKinds := [.data, .data, .data], laidTests := true, laidLooks := .later }
def LpPointsCardSaid : Prop := Claim7.holds Tryz.pinned (.plain (OpenSpec.ofChange lpPointsSpec)) lpPointsCard

/-- THE TIED CARD OF 'waypointlaw40.LpOrder'. -/
def lpOrderCard : Claim7 := { stood := { row := lpOrderRow, standIns := [], harness := (true, "3ea0b42cd6116b0d4d4df326006ac646c8f156b65a5b55403e1acb8a2b077675"), looks := false }, kinds := [], alts := [], laidByText := true, laidKinds := [.data, .data, .data], laidTests := true, laidLooks := .later }
def LpOrderCardSaid : Prop := Claim7.holds Tryz.pinned (.plain (OpenSpec.ofChange lpOrderSpec)) lpOrderCard

/-- THE TIED CARD OF 'waypointlaw40.LpScale'. -/
def lpScaleCard : Claim7 := { stood := { row := lpScaleRow, standIns := [], harness := (true, "3ea0b42cd6116b0d4d4df326006ac646c8f156b65a5b55403e1acb8a2b077675"), looks := false }, kinds := [], alts := [], laidByText := true, laidKinds := [.data, .data, .data], laidTests := true, laidLooks := .later }
def LpScaleCardSaid : Prop := Claim7.holds Tryz.pinned (.plain (OpenSpec.ofChange lpScaleSpec)) lpScaleCard

/-- THE TIED CARD OF 'waypointlaw40.LpImplied'. -/
def lpImpliedCard : Claim7 := { stood := { row := lpImpliedRow, standIns := [], harness := (true, "3ea0b42cd6116b0d4d4df326006ac646c8f156b65a5b55403e1acb8a2b077675"), looks := false }, kinds := [], alts := [], laidByText := true, laidKinds := [.data, .data, .data], laidTests := true, laidLooks := .later }
def LpImpliedCardSaid : Prop := Claim7.holds Tryz.pinned (.plain (OpenSpec.ofChange lpImpliedSpec)) lpImpliedCard

/-- THE TIED CARD OF 'waypointlaw40.LpLarger'. -/
def lpLargerCard : Claim7 := { stood := { row := lpLargerRow, standIns := [], harness := (true, "3ea0b42cd6116b0d4d4df326006ac646c8f156b65a5b55403e1acb8a2b077675"), looks := false }, kinds := [], alts := [], laidByText := true, laidKinds := [.data, .data, .data], laidTests := true, laidLooks := .later }
def LpLargerCardSaid : Prop := Claim7.holds Tryz.pinned (.plain (OpenSpec.ofChange lpLargerSpec)) lpLargerCard

/-- THE TIED CARD OF 'waypointlaw40.LpDual'. -/
def lpDualCard : Claim7 := { stood := { row := lpDualRow, standIns := [], harness := (true, "3ea0b42cd6116b0d4d4df326006ac646c8f156b65a5b55403e1acb8a2b077675"), looks := false }, kinds := [], alts := [], laidByText := true, laidKinds := [.data, .data, .data], laidTests := true, laidLooks := .later }
def LpDualCardSaid : Prop := Claim7.holds Tryz.pinned (.plain (OpenSpec.ofChange lpDualSpec)) lpDualCard

/-- THE TIED CARD OF 'waypointlaw40.LpErrors'. -/
def lpErrorsCard : Claim7 := { stood := { row := lpErrorsRow, standIns := [], harness := (true, "3ea0b42cd6116b0d4d4df326006ac646c8f156b65a5b55403e1acb8a2b077675"), looks := false }, kinds := [], alts := [], laidByText := true, laidKinds := [.data, .data, .data], laidTests := true, laidLooks := .later }
def LpErrorsCardSaid : Prop := Claim7.holds Tryz.pinned (.plain (OpenSpec.ofChange lpErrorsSpec)) lpErrorsCard

/-- THE SECOND FORM's CARD OF 'waypointlaw40.LpBest'. -/
def lpBestUptoCard : Claim7 := { stood := { row := lpBestUptoRow, standIns := [], harness := (true, "3ea0b42cd6116b0d4d4df326006ac646c8f156b65a5b55403e1acb8a2b077675"), looks := false }, kinds := [], alts := [], laidByText := true, laidKinds := [.data, .data, .data], laidTests := true, laidLooks := .later }
def LpBestUptoCardSaid : Prop := Claim7.holds Tryz.pinned (.plain (OpenSpec.upto lpBestSpec)) lpBestUptoCard

/-- THE SECOND FORM's CARD OF 'waypointlaw40.LpPoints'. -/
def lpPointsUptoCard : Claim7 := { stood := { row := lpPointsUptoRow, standIns := [], harness := (true, "3ea0b42cd6116b0d4d4df326006ac646c8f156b65a5b55403e1acb8a2b077675"), looks := false }, kinds := [], alts := [], laidByText := true, laidKinds := [.data, .data, .data], laidTests := true, laidLooks := .later }
def LpPointsUptoCardSaid : Prop := Claim7.holds Tryz.pinned (.plain (OpenSpec.upto lpPointsSpec)) lpPointsUptoCard

/-- THE SECOND FORM's CARD OF 'waypointlaw40.LpOrder'. -/
def lpOrderUptoCard : Claim7 := { stood := { row := lpOrderUptoRow, standIns := [], harness := (true, "3ea0b42cd6116b0d4d4df326006ac646c8f156b65a5b55403e1acb8a2b077675"), looks := false }, kinds := [], alts := [], laidByText := true, laidKinds := [.data, .data, .data], laidTests := true, laidLooks := .later }
def LpOrderUptoCardSaid : Prop := Claim7.holds Tryz.pinned (.plain (OpenSpec.upto lpOrderSpec)) lpOrderUptoCard

/-- THE SECOND FORM's CARD OF 'waypointlaw40.LpScale'. -/
def lpScaleUptoCard : Claim7 := { stood := { row := lpScaleUptoRow, standIns := [], harness := (true, "3ea0b42cd6116b0d4d4df326006ac646c8f156b65a5b55403e1acb8a2b077675"), looks := false }, kinds := [], alts := [], laidByText := true, laidKinds := [.data, .data, .data], laidTests := true, laidLooks := .later }
def LpScaleUptoCardSaid : Prop := Claim7.holds Tryz.pinned (.plain (OpenSpec.upto lpScaleSpec)) lpScaleUptoCard

/-- THE SECOND FORM's CARD OF 'waypointlaw40.LpImplied'. -/
def lpImpliedUptoCard : Claim7 := { stood := { row := lpImpliedUptoRow, standIns := [], harness := (true, "3ea0b42cd6116b0d4d4df326006ac646c8f156b65a5b55403e1acb8a2b077675"), looks := false }, kinds := [], alts := [], laidByText := true, laidKinds := [.data, .data, .data], laidTests := true, laidLooks := .later }
def LpImpliedUptoCardSaid : Prop := Claim7.holds Tryz.pinned (.plain (OpenSpec.upto lpImpliedSpec)) lpImpliedUptoCard

/-- THE SECOND FORM's CARD OF 'waypointlaw40.LpLarger'. -/
def lpLargerUptoCard : Claim7 := { stood := { row := lpLargerUptoRow, standIns := [], harness := (true, "3ea0b42cd6116b0d4d4df326006ac646c8f156b65a5b55403e1acb8a2b077675"), looks := false }, kinds := [], alts := [], laidByText := true, laidKinds := [.data, .data, .data], laidTests := true, laidLooks := .later }
def LpLargerUptoCardSaid : Prop := Claim7.holds Tryz.pinned (.plain (OpenSpec.upto lpLargerSpec)) lpLargerUptoCard

/-- THE SECOND FORM's CARD OF 'waypointlaw40.LpDual'. -/
def lpDualUptoCard : Claim7 := { stood := { row := lpDualUptoRow, standIns := [], harness := (true, "3ea0b42cd6116b0d4d4df326006ac646c8f156b65a5b55403e1acb8a2b077675"), looks := false }, kinds := [], alts := [], laidByText := true, laidKinds := [.data, .data, .data], laidTests := true, laidLooks := .later }
def LpDualUptoCardSaid : Prop := Claim7.holds Tryz.pinned (.plain (OpenSpec.upto lpDualSpec)) lpDualUptoCard

/-- THE SECOND FORM's CARD OF 'waypointlaw40.LpErrors'. -/
def lpErrorsUptoCard : Claim7 := { stood := { row := lpErrorsUptoRow, standIns := [], harness := (true, "3ea0b42cd6116b0d4d4df326006ac646c8f156b65a5b55403e1acb8a2b077675"), looks := false }, kinds := [], alts := [], laidByText := true, laidKinds := [.data, .data, .data], laidTests := true, laidLooks := .later }
def LpErrorsUptoCardSaid : Prop := Claim7.holds Tryz.pinned (.plain (OpenSpec.upto lpErrorsSpec)) lpErrorsUptoCard
end Rows
end Go.Proofs.YtjhaedfpigebdaaGreatDoor
