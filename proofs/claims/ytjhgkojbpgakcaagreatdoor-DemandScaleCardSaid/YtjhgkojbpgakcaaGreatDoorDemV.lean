/- The reference's Text walked. -/
import Derived.Test.YtjhgkojbpgakcaaGreatDoorDemB
import Derived.Test.YtjhgkojbpgakcaaGreatDoorDemT
import Derived.Test.YtjhgkojbpgakcaaGreatDoorNrG
import Derived.Test.YtjhgkojbpgakcaaGreatDoorBldK
namespace Go.Proofs.YtjhgkojbpgakcaaGreatDoor
open Go.RowKit
open Go.Lib (decDigits)
end Go.Proofs.YtjhgkojbpgakcaaGreatDoor
