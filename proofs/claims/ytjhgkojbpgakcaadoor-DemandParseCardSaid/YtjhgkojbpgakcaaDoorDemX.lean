/- The laws of merged lists. -/
import Derived.Test.YtjhgkojbpgakcaaDoorDemW
namespace Go.Proofs.YtjhgkojbpgakcaaDoor
open Go.RowKit
open Go.Lib (decDigits)
end Go.Proofs.YtjhgkojbpgakcaaDoor
