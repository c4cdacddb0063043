/- The argument of RationalParse opened: a pair of numbers of 16 bits. -/
import Derived.Test.YtiilkcdefpmimaaGreatDoorRatRow
import Derived.OpenShut
namespace Go.Proofs.YtiilkcdefpmimaaGreatDoor
open Go.ChangeShapes Go.WideShapes Go.ChangeAt Go.RowKit Go.Joins Go.Deep
section
variable {H : Type} {enc : TypeId × Value → H} {w : World} {base : Nat} {sp : Nat → Bool} {hd : Bool}
theorem okWide_arr {P : Program} {b0 : Nat} {n : Nat} {e t : TypeId} {v : Value} (ht : P.underlying t = some (.array n e)) (h : Value.okWide P w .any b0 t v) : ∃ cs, v = .agg cs ∧ cs.size = P.cellsOf t := by
  simp only [Value.okWide, ht] at h
  obtain ⟨cs, h1, h2, _⟩ := h
  exact ⟨cs, h1, h2⟩
set_option maxRecDepth 100000 in
theorem open_pair {b0 : Nat} {v : Value} {d : DataW H} {p : List MemPlace} (hv : Value.okWide Tryz.prog w .any b0 23 v) (h : DataW.Trod enc Tryz.prog w base sp hd 23 v d p) :
    ∃ x y : Nat, v = .agg #[.int .u16 (x : Int), .int .u16 (y : Int)] ∧ x < 65536 ∧ y < 65536 := by
  obtain ⟨cs, rfl, hsz⟩ := okWide_arr Tryz.underlying23 hv
  rw [show Tryz.prog.cellsOf 23 = 2 by kernel_rfl] at hsz
  obtain ⟨l⟩ := cs
  match l, hsz with
  | [c0, c1], _ =>
  obtain ⟨fuel, hf⟩ := h
  obtain ⟨xs, m, _, _, _, hl, hg⟩ := DataW.trod_array Tryz.underlying23 hf
  have e0 : Tryz.prog.cellsOf 22 = 1 := by kernel_rfl
  have g0 := hg 0 (by decide)
  have g1 := hg 1 (by decide)
  rw [e0] at g0 g1
  have l0 : xs[0]? = some (xs[0]'(by omega)) := List.getElem?_eq_getElem _
  have l1 : xs[1]? = some (xs[1]'(by omega)) := List.getElem?_eq_getElem _
  rw [l0] at g0
  rw [l1] at g1
  obtain ⟨x, e2, _, wx⟩ := DataW.trod_int Tryz.underlying22 g0
  obtain ⟨y, e3, _, wy⟩ := DataW.trod_int Tryz.underlying22 g1
  simp [Value.cells] at e2 e3
  subst e2; subst e3
  have zx := u16_wf wx
  have zy := u16_wf wy
  exact ⟨x.toNat, y.toNat, by rw [Int.toNat_of_nonneg zx.1, Int.toNat_of_nonneg zy.1], by omega, by omega⟩
end
end Go.Proofs.YtiilkcdefpmimaaGreatDoor
