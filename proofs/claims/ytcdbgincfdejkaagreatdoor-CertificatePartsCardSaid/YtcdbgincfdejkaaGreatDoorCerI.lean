/- The weak law of certificates walked. -/
import Derived.Test.YtcdbgincfdejkaaGreatDoorTz
import Derived.Test.YtcdbgincfdejkaaGreatDoorCerG
namespace Go.Proofs.YtcdbgincfdejkaaGreatDoor
open Go.RowKit
open Go.Lib (decDigits)
end Go.Proofs.YtcdbgincfdejkaaGreatDoor
