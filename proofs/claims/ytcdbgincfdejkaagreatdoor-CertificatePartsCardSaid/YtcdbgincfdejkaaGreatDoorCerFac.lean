/- Closed facts of the program, one by one. -/
import Derived.Test.YtcdbgincfdejkaaGreatDoorRows
import Derived.Test.YtcdbgincfdejkaaGreatDoorTie
import Derived.KernelRfl
import Derived.WalkKit
import Derived.ChangeMaps5
import Derived.ProofKit
import Derived.OpenShut
import Derived.JoinedCond
import Derived.LaidMore
import Derived.Lay
import Derived.SevenTiedAt
import Derived.Stop.Joined
import Derived.Lib.LaidTab
import Derived.Lib.LaidU8
import Derived.Lib.SmallJoins
import Derived.Deep.Slices
import Derived.LaidLaws
namespace Go.Proofs.YtcdbgincfdejkaaGreatDoor
open Go.ChangeShapes Go.WideShapes Go.ChangeAt Go.RowKit Go.Joins Go.Deep
theorem band {a b : Bool} (h : a = true) (h2 : b = true) : (a && b) = true := by rw [h, h2]; rfl
theorem fMaps : mapsRowed Tryz.prog = true := by kernel_rfl
theorem fStops : (Tryz.prog.stops == []) = true := by kernel_rfl
theorem fKnobs : (Tryz.prog.stopKnobs == []) = true := by kernel_rfl
theorem fPlain : (Rows.certificateCheckRow.plainKeys == Tryz.prog.plainKeys) = true := by kernel_rfl
theorem fHeard : Tryz.prog.stopsHeard = true := by kernel_rfl
theorem fEnter : Tryz.prog.mayEnter = true := by kernel_rfl
theorem fLifted : (Rows.certificateCheckRow.lifted == Tryz.prog.liftsFinal) = true := by kernel_rfl
theorem fMake : (Tryz.prog.make == some Rows.certificateCheckRow.make) = true := by kernel_rfl
theorem fMain : Tryz.prog.mainIs = some (true, "2fff0066772885923ebc8e763a99a184b951a7b61a51ac920500c2c5a40199c3".toList) := by kernel_rfl
theorem fLooks : false = Tryz.prog.looks [] := by kernel_rfl
end Go.Proofs.YtcdbgincfdejkaaGreatDoor
