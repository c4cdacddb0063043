/- What the laws of aggregates need. -/
import Derived.Test.YtbbjjjaclbkolaaGreatDoorPfxN
namespace Go.Proofs.YtbbjjjaclbkolaaGreatDoor
open Go.RowKit
end Go.Proofs.YtbbjjjaclbkolaaGreatDoor
