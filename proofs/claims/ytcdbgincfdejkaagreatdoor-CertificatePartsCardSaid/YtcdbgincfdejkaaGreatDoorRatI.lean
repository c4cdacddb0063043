/- The reference reads rational numbers. -/
import Derived.Test.YtcdbgincfdejkaaGreatDoorTz
import Derived.Test.YtcdbgincfdejkaaGreatDoorRatH
namespace Go.Proofs.YtcdbgincfdejkaaGreatDoor
open Go.RowKit
open Go.Lib (decDigits)
end Go.Proofs.YtcdbgincfdejkaaGreatDoor
