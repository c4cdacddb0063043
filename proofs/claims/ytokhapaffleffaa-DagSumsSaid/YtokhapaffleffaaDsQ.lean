/- The reference: next arcs. -/
import Derived.Test.YtokhapaffleffaaDsP
namespace Go.Proofs.Ytokhapaffleffaa
open Go.RowKit
open Go.Lib (decDigits)
end Go.Proofs.Ytokhapaffleffaa
