/- What the library's functions of texts need, and their contracts. -/
import Derived.Test.YthkoaaneikhjjaaDoorLibT
import Derived.Test.YthkoaaneikhjjaaDoorSepT
import Derived.Test.YthkoaaneikhjjaaDoorRowI
import Derived.Test.YthkoaaneikhjjaaDoorShelf
namespace Go.Proofs.YthkoaaneikhjjaaDoor
open Go.RowKit
open Go.Lib (decDigits)
def Bas (w : World) : Prop := Tab w ∧ (∃ m, w.cell? ⟨0, 0, none⟩ = some (.int .i64 m)) ∧ ∃ tp p, w.var? Tryd.prog "strconv.ErrSyntax" = some #[.iface tp p]
theorem Bas.below {w w' : World} (h : Bas w) (hb : Below w.heap.size w w') : Bas w' := by
  obtain ⟨h1, ⟨m, hm⟩, tp, p, h3⟩ := h
  refine ⟨h1.below hb, ⟨m, ?_⟩, tp, p, var_below h3 hb⟩
  have hlt : 0 < w.heap.size := by
    rcases Nat.lt_or_ge 0 w.heap.size with h | h
    · exact h
    · unfold World.cell? at hm
      rw [Array.getElem?_eq_none h] at hm; cases hm
  rw [← hm]
  exact hb.cell hlt
end Go.Proofs.YthkoaaneikhjjaaDoor
