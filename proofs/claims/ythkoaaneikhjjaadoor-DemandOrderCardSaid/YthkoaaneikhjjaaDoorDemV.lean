/- The reference's Text walked. -/
import Derived.Test.YthkoaaneikhjjaaDoorDemB
import Derived.Test.YthkoaaneikhjjaaDoorDemT
import Derived.Test.YthkoaaneikhjjaaDoorBasP
import Derived.Test.YthkoaaneikhjjaaDoorBldK
namespace Go.Proofs.YthkoaaneikhjjaaDoor
open Go.RowKit
open Go.Lib (decDigits)
end Go.Proofs.YthkoaaneikhjjaaDoor
