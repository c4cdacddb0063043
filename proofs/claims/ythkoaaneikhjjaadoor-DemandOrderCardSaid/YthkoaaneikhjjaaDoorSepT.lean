/- Texts cut at a byte; numerals read back. No program in sight. -/
import Derived.Test.YthkoaaneikhjjaaDoorMA
import Derived.Lib.SplitLaws
import Derived.Lib.AtoiTie
import Derived.Lib.ItoaLen
namespace Go.Proofs.YthkoaaneikhjjaaDoor
open Go.Lib (decDigits)
theorem dec_len20 {n : Nat} (h : n < 1000000000) : (decDigits n).length ≤ 20 := by
  rw [Lib.decDigits_length]
  exact Lib.nDigits_le20 n (by omega)
end Go.Proofs.YthkoaaneikhjjaaDoor
