/- The reference's cut of a text at its first slash. -/
import Derived.Test.YtcdbgincfdejkaaGreatDoorRatG
import Derived.Laws.Strings3
namespace Go.Proofs.YtcdbgincfdejkaaGreatDoor
open Go.RowKit
open Go.Lib (decDigits)
end Go.Proofs.YtcdbgincfdejkaaGreatDoor
