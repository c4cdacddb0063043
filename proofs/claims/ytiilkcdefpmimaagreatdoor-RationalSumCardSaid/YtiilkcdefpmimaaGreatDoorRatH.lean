/- The reference's cut of a text at its first slash. -/
import Derived.Test.YtiilkcdefpmimaaGreatDoorRatG
import Derived.Laws.Strings3
namespace Go.Proofs.YtiilkcdefpmimaaGreatDoor
open Go.RowKit
open Go.Lib (decDigits)
end Go.Proofs.YtiilkcdefpmimaaGreatDoor
