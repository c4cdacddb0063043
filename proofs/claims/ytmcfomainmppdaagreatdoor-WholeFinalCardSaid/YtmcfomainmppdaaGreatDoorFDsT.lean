/- The order of nodes: the program and the reference. -/
import Derived.Test.YtmcfomainmppdaaGreatDoorFDsS
import Derived.Test.YtmcfomainmppdaaGreatDoorFDsQ
namespace Go.Proofs.YtmcfomainmppdaaGreatDoor
open Go.RowKit
open Go.Lib (decDigits)
end Go.Proofs.YtmcfomainmppdaaGreatDoor
