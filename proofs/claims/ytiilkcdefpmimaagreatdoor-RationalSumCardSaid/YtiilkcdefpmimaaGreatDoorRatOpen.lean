/- The argument of RationalSum opened: a list of numbers. -/
import Derived.Test.YtiilkcdefpmimaaGreatDoorRatRow
import Derived.Test.YtiilkcdefpmimaaGreatDoorRatR0
import Derived.Test.YtiilkcdefpmimaaGreatDoorRowOpen
namespace Go.Proofs.YtiilkcdefpmimaaGreatDoor
open Go.ChangeShapes Go.WideShapes Go.ChangeAt Go.RowKit Go.Joins Go.Deep
section
variable {H : Type} {enc : TypeId × Value → H} {w : World} {base : Nat} {sp : Nat → Bool} {hd : Bool}
set_option maxRecDepth 100000 in
theorem num_el (cs : List Value) (m : Nat) (y : DataW H × List MemPlace) (hcl : cs.length = 3) (h : DataW.trod enc Tryz.prog w base sp hd m 43 cs = some y) :
    ∃ n : NumS, numK.R w cs n ∧ ((∀ d ∈ n.ds, d < B32) ∧ ∀ d ∈ n.es, d < B32) := by
  match cs, hcl with
  | [c0, c1, c2], _ =>
  obtain ⟨y0, y1, y2, m, hx, _, hy0, hy1, hy2⟩ := trod_struct3 Tryz.underlying43 h
  have e0 : Tryz.prog.cellsOf 4 = 1 := by kernel_rfl
  have e1 : Tryz.prog.cellsOf 25 = 1 := by kernel_rfl
  obtain ⟨b, hb, _⟩ := DataW.trod_bool Tryz.underlying4 hy0
  simp [e0] at hb
  subst hb
  obtain ⟨ds, i1, d1⟩ := digs_cell (c := c1) (by simpa [e1] using hy1)
  obtain ⟨es, i2, d2⟩ := digs_cell (c := c2) (by simpa [e1] using hy2)
  obtain ⟨p, c, rfl, _⟩ := i1.slice
  obtain ⟨q, d, rfl, _⟩ := i2.slice
  exact ⟨⟨b, ds, es⟩, ⟨p, c, q, d, rfl, _, _, rfl, i1, i2⟩, d1, d2⟩
set_option maxRecDepth 100000 in
theorem open_nums {v : Value} {d : DataW H} {p : List MemPlace} (hv : ∃ a len cap, v = .slice a len cap) (h : DataW.Trod enc Tryz.prog w base sp hd 74 v d p) :
    ∃ L : List NumS, SlV numK w v L ∧ ∀ n ∈ L, (∀ d ∈ n.ds, d < B32) ∧ ∀ d ∈ n.es, d < B32 :=
  open_slv Tryz.underlying74 (by kernel_rfl) num_el hv h
end
end Go.Proofs.YtiilkcdefpmimaaGreatDoor
