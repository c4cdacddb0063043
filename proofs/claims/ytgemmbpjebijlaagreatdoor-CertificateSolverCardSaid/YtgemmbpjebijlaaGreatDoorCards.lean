/-
  DERIVED. GIVEN WITH THE SEED: THE CARDS: each row of YtgemmbpjebijlaaGreatDoorRows.lean that lists a variable, with what it lists TIED to the program's text (the seventh form; the later family's looks); each row that meets fmt, with fmt's text TOLD by the authors' own Lean function (tested against real Go, not proved from fmt's source: count such statements apart). THE CARD IS WHAT COUNTS. Prove the row's statement (the work); the ties are given (YtgemmbpjebijlaaGreatDoorTie.lean); close each card by the builder's one call (the guide's Derived/Test/ToyasCard.lean, 'card_holds'). Laid BY PROGRAM, IN A SANDBOX (cutbox-door.mjs). By AI agents, Wed Nov 11 2026. No macro, syntax, notation, axiom, sorry.
-/
import Derived.Test.YtgemmbpjebijlaaGreatDoorRows
import GoSem.ClaimSeven
namespace Go.Proofs.YtgemmbpjebijlaaGreatDoor
namespace Rows

/-- THE TIED CARD OF 'waypointlaw41.CertificateSolver'. -/
def certificateSolverCard : Claim7 := { stood := { row := certificateSolverRow, standIns := [], harness := (true, "a5367ef474640157cd9bafe4ee723f6ed6c6f860a1717146d2835ec882b50749"), looks := false }, kinds := [], alts := [], laidByText := true, laidKinds := [.data, .data, .data], laidTests := true, laidLooks := .later }
def CertificateSolverCardSaid : Prop := Claim7.holds Tryz.pinned (.plain (OpenSpec.ofChange certificateSolverSpec)) certificateSolverCard

/-- THE TIED CARD OF 'waypointlaw41.CertificateKinds'. -/
def certificateKindsCard : Claim7 := { stood := { row := certificateKindsRow, standIns := [], harness := (true, "a5367ef474640157cd9bafe4ee723f6ed6c6f860a1717146d2835ec882b50749"), looks := false }, kinds := [], alts := [], laidByText := true, laidKinds := [.data, .data, .data], laidTests := true, laidLooks := .later }
def CertificateKindsCardSaid : Prop := Claim7.holds Tryz.pinned (.plain (OpenSpec.ofChange certificateKindsSpec)) certificateKindsCard

/-- THE TIED CARD OF 'waypointlaw41.CertificateMixed'. -/
def certificateMixedCard : Claim7 := { stood := { row := certificateMixedRow, standIns := [], harness := (true, "a5367ef474640157cd9bafe4ee723f6ed6c6f860a1717146d2835ec882b50749"), looks := false }, kinds := [], alts := [], laidByText := true, laidKinds := [.data, .data, .data], laidTests := true, laidLooks := .later }
def CertificateMixedCardSaid : Prop := Claim7.holds Tryz.pinned (.plain (OpenSpec.ofChange certificateMixedSpec)) certificateMixedCard

/-- THE TIED CARD OF 'waypointlaw41.CertificateMalformed'. -/
def certificateMalformedCard : Claim7 := { stood := { row := certificateMalformedRow, standIns := [], harness := (true, "a5367ef474640157cd9bafe4ee723f6ed6c6f860a1717146d2835ec882b50749"), looks := false }, kinds := [], alts := [], laidByText := true, laidKinds := [.data, .data, .data], laidTests := true, laidLooks := .later }
def CertificateMalformedCardSaid : Prop := Claim7.holds Tryz.pinned (.plain (OpenSpec.ofChange certificateMalformedSpec)) certificateMalformedCard

/-- THE SECOND FORM's CARD OF 'waypointlaw41.CertificateSolver'. -/
def certificateSolverUptoCard : Claim7 := { stood := { row := certificateSolverUptoRow, standIns := [], harness := (true, "a5367ef474640157cd9bafe4ee723f6ed6c6f860a1717146d2835ec882b50749"), looks := false }, kinds := [], alts := [], laidByText := true, laidKinds := [.data, .data, .data], laidTests := true, laidLooks := .later }
def CertificateSolverUptoCardSaid : Prop := Claim7.holds Tryz.pinned (.plain (OpenSpec.upto certificateSolverSpec)) certificateSolverUptoCard

/-- THE SECOND FORM's CARD OF 'waypointlaw41.CertificateKinds'. -/
def certificateKindsUptoCard : Claim7 := { stood := { row := certificateKindsUptoRow, standIns := [], harness := (true, "a5367ef474640157cd9bafe4ee723f6ed6c6f860a1717146d2835ec882b50749"), looks := false }, kinds := [], alts := [], laidByText := true, laidKinds := [.data, .data, .data], laidTests := true, laidLooks := .later }
def CertificateKindsUptoCardSaid : Prop := Claim7.holds Tryz.pinned (.plain (OpenSpec.upto certificateKindsSpec)) certificateKindsUptoCard

/-- THE SECOND FORM's CARD OF 'waypointlaw41.CertificateMixed'. -/
def certificateMixedUptoCard : Claim7 := { stood := { row := certificateMixedUptoRow, standIns := [], harness := (true, "a5367ef474640157cd9bafe4ee723f6ed6c6f860a1717146d2835ec882b50749"), looks := false }, kinds := [], alts := [], laidByText := true, laidKinds := [.data, .data, .data], laidTests := true, laidLooks := .later }
def CertificateMixedUptoCardSaid : Prop := Claim7.holds Tryz.pinned (.plain (OpenSpec.upto certificateMixedSpec)) certificateMixedUptoCard

/-- THE SECOND FORM's CARD OF 'waypointlaw41.CertificateMalformed'. -/
def certificateMalformedUptoCard : Claim7 := { stood := { row := certificateMalformedUptoRow, standIns := [], harness := (true, "a5367ef474640157cd9bafe4ee723f6ed6c6f860a1717146d2835ec882b50749"), looks := false }, kinds := [], alts := [], laidByText := true, laidKinds := [.data, .data, .data], laidTests := true, laidLooks := .later }
def CertificateMalformedUptoCardSaid : Prop := Claim7.holds Tryz.pinned (.plain (OpenSpec.upto certificateMalformedSpec)) certificateMalformedUptoCard
end Rows
end Go.Proofs.YtgemmbpjebijlaaGreatDoor
