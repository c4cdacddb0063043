/- Numbers of paths: the reference; unique paths. -/

import Derived.Test.YtlhbcopaakejgaaGreatDoorDsU
namespace Go.Proofs.YtlhbcopaakejgaaGreatDoor
open Go.RowKit
open Go.Lib (decDigits)
end Go.Proofs.YtlhbcopaakejgaaGreatDoor
