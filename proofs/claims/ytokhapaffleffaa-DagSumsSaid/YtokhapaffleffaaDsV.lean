/- Numbers of paths: the reference; unique paths. -/
import Derived.Test.YtokhapaffleffaaDsU
namespace Go.Proofs.Ytokhapaffleffaa
open Go.RowKit
open Go.Lib (decDigits)
end Go.Proofs.Ytokhapaffleffaa
