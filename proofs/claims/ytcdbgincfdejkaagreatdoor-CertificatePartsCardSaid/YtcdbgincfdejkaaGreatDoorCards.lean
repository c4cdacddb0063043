/-
  DERIVED. GIVEN WITH THE SEED: THE CARDS: each row of YtcdbgincfdejkaaGreatDoorRows.lean that lists a variable, with what it lists TIED to the program's text (the seventh form; the later family's looks); each row that meets fmt, with fmt's text TOLD by the authors' own Lean function (tested against real Go, not proved from fmt's source: count such statements apart). THE CARD IS WHAT COUNTS. Prove the row's statement (the work); the ties are given (YtcdbgincfdejkaaGreatDoorTie.lean); close each card by the builder's one call (the guide's Derived/Test/ToyasCard.lean, 'card_holds'). Laid BY PROGRAM, IN A SANDBOX (cutbox-door.mjs). By AI agents, Wed Nov 11 2026. No macro, syntax, notation, axiom, sorry.
-/
import Derived.Test.YtcdbgincfdejkaaGreatDoorRows
import GoSem.ClaimSeven
namespace Go.Proofs.YtcdbgincfdejkaaGreatDoor
namespace Rows

/-- THE TIED CARD OF 'waypointlaw41.CertificateCheck'. -/
def certificateCheckCard : Claim7 := { stood := { row := certificateCheckRow, standIns := [], harness := (true, "2fff0066772885923ebc8e763a99a184b951a7b61a51ac920500c2c5a40199c3"), looks := false }, kinds := [], alts := [], laidByText := true, laidKinds := [.data, .data, .data], laidTests := true, laidLooks := .later }
def CertificateCheckCardSaid : Prop := Claim7.holds Tryz.pinned (.plain (OpenSpec.ofChange certificateCheckSpec)) certificateCheckCard

/-- THE TIED CARD OF 'waypointlaw41.CertificateWeak'. -/
def certificateWeakCard : Claim7 := { stood := { row := certificateWeakRow, standIns := [], harness := (true, "2fff0066772885923ebc8e763a99a184b951a7b61a51ac920500c2c5a40199c3"), looks := false }, kinds := [], alts := [], laidByText := true, laidKinds := [.data, .data, .data], laidTests := true, laidLooks := .later }
def CertificateWeakCardSaid : Prop := Claim7.holds Tryz.pinned (.plain (OpenSpec.ofChange certificateWeakSpec)) certificateWeakCard

/-- THE TIED CARD OF 'waypointlaw41.CertificateParts'. -/
def certificatePartsCard : Claim7 := { stood := { row := certificatePartsRow, standIns := [], harness := (true, "2fff0066772885923ebc8e763a99a184b951a7b61a51ac920500c2c5a40199c3"), looks := false }, kinds := [], alts := [], laidByText := true, laidKinds := [.data, .data, .data], laidTests := true, laidLooks := .later }
def CertificatePartsCardSaid : Prop := Claim7.holds Tryz.pinned (.plain (OpenSpec.ofChange certificatePartsSpec)) certificatePartsCard

/-- THE TIED CARD OF 'waypointlaw40.LpSolves'. -/
def lpSolvesCard : Claim7 := { stood := { row := lpSolvesRow, standIns := [], harness := (true, "2fff0066772885923ebc8e763a99a184b951a7b61a51ac920500c2c5a40199c3"), looks := false }, kinds := [], alts := [], laidByText := true, laidKinds := [.data, .data, .data], laidTests := true, laidLooks := .later }
def LpSolvesCardSaid : Prop := Claim7.holds Tryz.pinned (.plain (OpenSpec.ofChange lpSolvesSpec)) lpSolvesCard

/-- THE TIED CARD OF 'waypointlaw40.LpBest'. -/
def lpBestCard : Claim7 := { stood := { row := lpBestRow, standIns := [], harness := (true, "2fff0066772885923ebc8e763a99a184b951a7b61a51ac920500c2c5a40199c3"), looks := false }, kinds := [], alts := [], laidByText := true, laidKinds := [.data, .data, .data], laidTests := true, laidLooks := .later }
def LpBestCardSaid : Prop := Claim7.holds Tryz.pinned (.plain (OpenSpec.ofChange lpBestSpec)) lpBestCard

/-- THE TIED CARD OF 'waypointlaw40.LpPoints'. -/
def lpPointsCard : Claim7 := { stood := { row := lpPointsRow, standIns := [], harness := (true, "2fff0066772885923ebc8e763a99a184b951a7b61a51ac920500c2c5a40199c3"), looks := false }, kinds := [], alts := [], laidByText := true, laidKinds := [.data, .data, .data], laidTests := true, laidLooks := .later }
def LpPointsCardSaid : Prop := Claim7.holds Tryz.pinned (.plain (OpenSpec.ofChange lpPointsSpec)) lpPointsCard

/-- THE TIED CARD OF 'waypointlaw40.LpOrder'. -/
def lpOrderCard : Claim7 := { stood := { row := lpOrderRow, standIns := [], harness := (true, "2fff0066772885923ebc8e763a99a184b951a7b61a51ac920500c2c5a40199c3"), looks := false }, kinds := [], alts := [], laidByText := true, laidKinds := [.data, .data, .data], laidTests := true, laidLooks := .later }
def LpOrderCardSaid : Prop := Claim7.holds Tryz.pinned (.plain (OpenSpec.ofChange lpOrderSpec)) lpOrderCard

/-- THE TIED CARD OF 'waypointlaw40.LpScale'. -/
def lpScaleCard : Claim7 := { stood := { row := lpScaleRow, standIns := [], harness := (true, "2fff0066772885923ebc8e763a99a184b951a7b61a51ac920500c2c5a40199c3"), looks := false }, kinds := [], alts := [], laidByText := true, laidKinds := [.data, .data, .data], laidTests := true, laidLooks := .later }
def LpScaleCardSaid : Prop := Claim7.holds Tryz.pinned (.plain (OpenSpec.ofChange lpScaleSpec)) lpScaleCard

/-- THE TIED CARD OF 'waypointlaw40.LpImplied'. -/
def lpImpliedCard : Claim7 := { stood := { row := lpImpliedRow, standIns := [], harness := (true, "2fff0066772885923ebc8e763a99a184b951a7b61a51ac920500c2c5a40199c3"), looks := false }, kinds := [], alts := [], laidByText := true, laidKinds := [.data, .data, .data], laidTests := true, laidLooks := .later }
def LpImpliedCardSaid : Prop := Claim7.holds Tryz.pinned (.plain (OpenSpec.ofChange lpImpliedSpec)) lpImpliedCard

/-- THE TIED CARD OF 'waypointlaw40.LpLarger'. -/
def lpLargerCard : Claim7 := { stood := { row := lpLargerRow, standIns := [], harness := (true, "2fff0066772885923ebc8e763a99a184b951a7b61a51ac920500c2c5a40199c3"), looks := false }, kinds := [], alts := [], laidByText := true, laidKinds := [.data, .data, .data], laidTests := true, laidLooks := .later }
def LpLargerCardSaid : Prop := Claim7.holds Tryz.pinned (.plain (OpenSpec.ofChange lpLargerSpec)) lpLargerCard

/-- THE TIED CARD OF 'waypointlaw40.LpDual'. -/
def lpDualCard : Claim7 := { stood := { row := lpDualRow, standIns := [], harness := (true, "2fff0066772885923ebc8e763a99a184b951a7b61a51ac920500c2c5a40199c3"), looks := false }, kinds := [], alts := [], laidByText := true, laidKinds := [.data, .data, .data], laidTests := true, laidLooks := .later }
def LpDualCardSaid : Prop := Claim7.holds Tryz.pinned (.plain (OpenSpec.ofChange lpDualSpec)) lpDualCard

/-- THE TIED CARD OF 'waypointlaw40.LpErrors'. -/
def lpErrorsCard : Claim7 := { stood := { row := lpErrorsRow, standIns := [], harness := (true, "2fff0066772885923ebc8e763a99a184b951a7b61a51ac920500c2c5a40199c3"), looks := false }, kinds := [], alts := [], laidByText := true, laidKinds := [.data, .data, .data], laidTests := true, laidLooks := .later }
def LpErrorsCardSaid : Prop := Claim7.holds Tryz.pinned (.plain (OpenSpec.ofChange lpErrorsSpec)) lpErrorsCard

/-- THE TIED CARD OF 'waypointlaw41.CertificateSolver'. -/
def certificateSolverCard : Claim7 := { stood := { row := certificateSolverRow, standIns := [], harness := (true, "2fff0066772885923ebc8e763a99a184b951a7b61a51ac920500c2c5a40199c3"), looks := false }, kinds := [], alts := [], laidByText := true, laidKinds := [.data, .data, .data], laidTests := true, laidLooks := .later }
def CertificateSolverCardSaid : Prop := Claim7.holds Tryz.pinned (.plain (OpenSpec.ofChange certificateSolverSpec)) certificateSolverCard

/-- THE TIED CARD OF 'waypointlaw41.CertificateKinds'. -/
def certificateKindsCard : Claim7 := { stood := { row := certificateKindsRow, standIns := [], harness := (true, "2fff0066772885923ebc8e763a99a184b951a7b61a51ac920500c2c5a40199c3"), looks := false }, kinds := [], alts := [], laidByText := true, laidKinds := [.data, .data, .data], laidTests := true, laidLooks := .later }
def CertificateKindsCardSaid : Prop := Claim7.holds Tryz.pinned (.plain (OpenSpec.ofChange certificateKindsSpec)) certificateKindsCard

/-- THE TIED CARD OF 'waypointlaw41.CertificateMixed'. -/
def certificateMixedCard : Claim7 := { stood := { row := certificateMixedRow, standIns := [], harness := (true, "2fff0066772885923ebc8e763a99a184b951a7b61a51ac920500c2c5a40199c3"), looks := false }, kinds := [], alts := [], laidByText := true, laidKinds := [.data, .data, .data], laidTests := true, laidLooks := .later }
def CertificateMixedCardSaid : Prop := Claim7.holds Tryz.pinned (.plain (OpenSpec.ofChange certificateMixedSpec)) certificateMixedCard

/-- THE TIED CARD OF 'waypointlaw41.CertificateMalformed'. -/
def certificateMalformedCard : Claim7 := { stood := { row := certificateMalformedRow, standIns := [], harness := (true, "2fff0066772885923ebc8e763a99a184b951a7b61a51ac920500c2c5a40199c3"), looks := false }, kinds := [], alts := [], laidByText := true, laidKinds := [.data, .data, .data], laidTests := true, laidLooks := .later }
def CertificateMalformedCardSaid : Prop := Claim7.holds Tryz.pinned (.plain (OpenSpec.ofChange certificateMalformedSpec)) certificateMalformedCard

/-- THE SECOND FORM's CARD OF 'waypointlaw41.CertificateCheck'. -/
def certificateCheckUptoCard : Claim7 := { stood := { row := certificateCheckUptoRow, standIns := [], harness := (true, "2fff0066772885923ebc8e763a99a184b951a7b61a51ac920500c2c5a40199c3"), looks := false }, kinds := [], alts := [], laidByText := true, laidKinds := [.data, .data, .data], laidTests := true, laidLooks := .later }
def CertificateCheckUptoCardSaid : Prop := Claim7.holds Tryz.pinned (.plain (OpenSpec.upto certificateCheckSpec)) certificateCheckUptoCard

/-- THE SECOND FORM's CARD OF 'waypointlaw41.CertificateWeak'. -/
def certificateWeakUptoCard : Claim7 := { stood := { row := certificateWeakUptoRow, standIns := [], harness := (true, "2fff0066772885923ebc8e763a99a184b951a7b61a51ac920500c2c5a40199c3"), looks := false }, kinds := [], alts := [], laidByText := true, laidKinds := [.data, .data, .data], laidTests := true, laidLooks := .later }
def CertificateWeakUptoCardSaid : Prop := Claim7.holds Tryz.pinned (.plain (OpenSpec.upto certificateWeakSpec)) certificateWeakUptoCard

/-- THE SECOND FORM's CARD OF 'waypointlaw41.CertificateParts'. -/
def certificatePartsUptoCard : Claim7 := { stood := { row := certificatePartsUptoRow, standIns := [], harness := (true, "2fff0066772885923ebc8e763a99a184b951a7b61a51ac920500c2c5a40199c3"), looks := false }, kinds := [], alts := [], laidByText := true, laidKinds := [.data, .data, .data], laidTests := true, laidLooks := .later }
def CertificatePartsUptoCardSaid : Prop := Claim7.holds Tryz.pinned (.plain (OpenSpec.upto certificatePartsSpec)) certificatePartsUptoCard

/-- THE SECOND FORM's CARD OF 'waypointlaw40.LpSolves'. -/
def lpSolvesUptoCard : Claim7 := { stood := { row := lpSolvesUptoRow, standIns := [], harness := (true, "2fff0066772885923ebc8e763a99a184b951a7b61a51ac920500c2c5a40199c3"), looks := false }, kinds := [], alts := [], laidByText := true, laidKinds := [.data, .data, .data], laidTests := true, laidLooks := .later }
def LpSolvesUptoCardSaid : Prop := Claim7.holds Tryz.pinned (.plain (OpenSpec.upto lpSolvesSpec)) lpSolvesUptoCard

/-- THE SECOND FORM's CARD OF 'waypointlaw40.LpBest'. -/
def lpBestUptoCard : Claim7 := { stood := { row := lpBestUptoRow, standIns := [], harness := (true, "2fff0066772885923ebc8e763a99a184b951a7b61a51ac920500c2c5a40199c3"), looks := false }, kinds := [], alts := [], laidByText := true, laidKinds := [.data, .data, .data], laidTests := true, laidLooks := .later }
def LpBestUptoCardSaid : Prop := Claim7.holds Tryz.pinned (.plain (OpenSpec.upto lpBestSpec)) lpBestUptoCard

/-- THE SECOND FORM's CARD OF 'waypointlaw40.LpPoints'. -/
def lpPointsUptoCard : Claim7 := { stood := { row := lpPointsUptoRow, standIns := [], harness := (true, "2fff0066772885923ebc8e763a99a184b951a7b61a51ac920500c2c5a40199c3"), looks := false }, kinds := [], alts := [], laidByText := true, laidKinds := [.data, .data, .data], laidTests := true, laidLooks := .later }
def LpPointsUptoCardSaid : Prop := Claim7.holds Tryz.pinned (.plain (OpenSpec.upto lpPointsSpec)) lpPointsUptoCard

/-- THE SECOND FORM's CARD OF 'waypointlaw40.LpOrder'. -/
def lpOrderUptoCard : Claim7 := { stood := { row := lpOrderUptoRow, standIns := [], harness := (true, "2fff0066772885923ebc8e763a99a184b951a7b61a51ac920500c2c5a40199c3"), looks := false }, kinds := [], alts := [], laidByText := true, laidKinds := [.data, .data, .data], laidTests := true, laidLooks := .later }
def LpOrderUptoCardSaid : Prop := Claim7.holds Tryz.pinned (.plain (OpenSpec.upto lpOrderSpec)) lpOrderUptoCard

/-- THE SECOND FORM's CARD OF 'waypointlaw40.LpScale'. -/
def lpScaleUptoCard : Claim7 := { stood := { row := lpScaleUptoRow, standIns := [], harness := (true, "2fff0066772885923ebc8e763a99a184b951a7b61a51ac920500c2c5a40199c3"), looks := false }, kinds := [], alts := [], laidByText := true, laidKinds := [.data, .data, .data], laidTests := true, laidLooks := .later }
def LpScaleUptoCardSaid : Prop := Claim7.holds Tryz.pinned (.plain (OpenSpec.upto lpScaleSpec)) lpScaleUptoCard

/-- THE SECOND FORM's CARD OF 'waypointlaw40.LpImplied'. -/
def lpImpliedUptoCard : Claim7 := { stood := { row := lpImpliedUptoRow, standIns := [], harness := (true, "2fff0066772885923ebc8e763a99a184b951a7b61a51ac920500c2c5a40199c3"), looks := false }, kinds := [], alts := [], laidByText := true, laidKinds := [.data, .data, .data], laidTests := true, laidLooks := .later }
def LpImpliedUptoCardSaid : Prop := Claim7.holds Tryz.pinned (.plain (OpenSpec.upto lpImpliedSpec)) lpImpliedUptoCard

/-- THE SECOND FORM's CARD OF 'waypointlaw40.LpLarger'. -/
def lpLargerUptoCard : Claim7 := { stood := { row := lpLargerUptoRow, standIns := [], harness := (true, "2fff0066772885923ebc8e763a99a184b951a7b61a51ac920500c2c5a40199c3"), looks := false }, kinds := [], alts := [], laidByText := true, laidKinds := [.data, .data, .data], laidTests := true, laidLooks := .later }
def LpLargerUptoCardSaid : Prop := Claim7.holds Tryz.pinned (.plain (OpenSpec.upto lpLargerSpec)) lpLargerUptoCard

/-- THE SECOND FORM's CARD OF 'waypointlaw40.LpDual'. -/
def lpDualUptoCard : Claim7 := { stood := { row := lpDualUptoRow, standIns := [], harness := (true, "2fff0066772885923ebc8e763a99a184b951a7b61a51ac920500c2c5a40199c3"), looks := false }, kinds := [], alts := [], laidByText := true, laidKinds := [.data, .data, .data], laidTests := true, laidLooks := .later }
def LpDualUptoCardSaid : Prop := Claim7.holds Tryz.pinned (.plain (OpenSpec.upto lpDualSpec)) lpDualUptoCard

/-- THE SECOND FORM's CARD OF 'waypointlaw40.LpErrors'. -/
def lpErrorsUptoCard : Claim7 := { stood := { row := lpErrorsUptoRow, standIns := [], harness := (true, "2fff0066772885923ebc8e763a99a184b951a7b61a51ac920500c2c5a40199c3"), looks := false }, kinds := [], alts := [], laidByText := true, laidKinds := [.data, .data, .data], laidTests := true, laidLooks := .later }
def LpErrorsUptoCardSaid : Prop := Claim7.holds Tryz.pinned (.plain (OpenSpec.upto lpErrorsSpec)) lpErrorsUptoCard

/-- THE SECOND FORM's CARD OF 'waypointlaw41.CertificateSolver'. -/
def certificateSolverUptoCard : Claim7 := { stood := { row := certificateSolverUptoRow, standIns := [], harness := (true, "2fff0066772885923ebc8e763a99a184b951a7b61a51ac920500c2c5a40199c3"), looks := false }, kinds := [], alts := [], laidByText := true, laidKinds := [.data, .data, .data], laidTests := true, laidLooks := .later }
def CertificateSolverUptoCardSaid : Prop := Claim7.holds Tryz.pinned (.plain (OpenSpec.upto certificateSolverSpec)) certificateSolverUptoCard

/-- THE SECOND FORM's CARD OF 'waypointlaw41.CertificateKinds'. -/
def certificateKindsUptoCard : Claim7 := { stood := { row := certificateKindsUptoRow, standIns := [], harness := (true, "2fff0066772885923ebc8e763a99a184b951a7b61a51ac920500c2c5a40199c3"), looks := false }, kinds := [], alts := [], laidByText := true, laidKinds := [.data, .data, .data], laidTests := true, laidLooks := .later }
def CertificateKindsUptoCardSaid : Prop := Claim7.holds Tryz.pinned (.plain (OpenSpec.upto certificateKindsSpec)) certificateKindsUptoCard

/-- THE SECOND FORM's CARD OF 'waypointlaw41.CertificateMixed'. -/
def certificateMixedUptoCard : Claim7 := { stood := { row := certificateMixedUptoRow, standIns := [], harness := (true, "2fff0066772885923ebc8e763a99a184b951a7b61a51ac920500c2c5a40199c3"), looks := false }, kinds := [], alts := [], laidByText := true, laidKinds := [.data, .data, .data], laidTests := true, laidLooks := .later }
def CertificateMixedUptoCardSaid : Prop := Claim7.holds Tryz.pinned (.plain (OpenSpec.upto certificateMixedSpec)) certificateMixedUptoCard

/-- THE SECOND FORM's CARD OF 'waypointlaw41.CertificateMalformed'. -/
def certificateMalformedUptoCard : Claim7 := { stood := { row := certificateMalformedUptoRow, standIns := [], harness := (true, "2fff0066772885923ebc8e763a99a184b951a7b61a51ac920500c2c5a40199c3"), looks := false }, kinds := [], alts := [], laidByText := true, laidKinds := [.data, .data, .data], laidTests := true, laidLooks := .later }
def CertificateMalformedUptoCardSaid : Prop := Claim7.holds Tryz.pinned (.plain (OpenSpec.upto certificateMalformedSpec)) certificateMalformedUptoCard
end Rows
end Go.Proofs.YtcdbgincfdejkaaGreatDoor
