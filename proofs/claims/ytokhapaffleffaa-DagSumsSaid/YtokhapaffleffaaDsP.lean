/- The reference: distances. -/
import Derived.Test.YtokhapaffleffaaDsN
import Derived.Test.YtokhapaffleffaaDsK1
namespace Go.Proofs.Ytokhapaffleffaa
open Go.RowKit
open Go.Lib (decDigits)
section
variable {ar : Nat → Option ArcD} {l L : List Int} {c : Bool} {j : Nat} {e : ArcD}
end
end Go.Proofs.Ytokhapaffleffaa
