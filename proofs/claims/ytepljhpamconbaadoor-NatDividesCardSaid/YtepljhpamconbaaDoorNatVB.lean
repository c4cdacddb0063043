/- Opening numbers and strings that came in. -/
import Derived.Test.YtepljhpamconbaaDoorNatV
import Derived.ChangeMaps5
namespace Go.Proofs.YtepljhpamconbaaDoor
open Go.ChangeShapes Go.WideShapes Go.ChangeAt Go.RowKit Go.Joins Go.Deep
section
variable {H : Type} {enc : TypeId × Value → H} {w : World} {base : Nat} {sp : Nat → Bool} {hd : Bool}
theorem u64_wf {x : Int} (wx : (Lit.int .u64 x).wf = true) : 0 ≤ x ∧ x < 18446744073709551616 := by
  simp [Lit.wf, IntKind.min, IntKind.max, IntKind.signed, IntKind.bits] at wx; omega
theorem u16_wf {x : Int} (wx : (Lit.int .u16 x).wf = true) : 0 ≤ x ∧ x < 65536 := by
  simp [Lit.wf, IntKind.min, IntKind.max, IntKind.signed, IntKind.bits] at wx; omega
set_option maxRecDepth 100000 in
theorem open_u64 {b0 : Nat} {v : Value} {d : DataW H} {p : List MemPlace} (hv : Value.okWide Tryd.prog w .any b0 50 v) (h : DataW.Trod enc Tryd.prog w base sp hd 50 v d p) : ∃ x : Nat, v = .int .u64 (x : Int) ∧ x < 18446744073709551616 := by
  obtain ⟨x, rfl, _, _, wx⟩ := open_int Tryd.underlying50 hv h
  have hz := u64_wf wx
  exact ⟨x.toNat, by rw [Int.toNat_of_nonneg hz.1], by omega⟩
set_option maxRecDepth 100000 in
theorem open_u16 {b0 : Nat} {v : Value} {d : DataW H} {p : List MemPlace} (hv : Value.okWide Tryd.prog w .any b0 39 v) (h : DataW.Trod enc Tryd.prog w base sp hd 39 v d p) : ∃ x : Nat, v = .int .u16 (x : Int) ∧ x < 65536 := by
  obtain ⟨x, rfl, _, _, wx⟩ := open_int Tryd.underlying39 hv h
  have hz := u16_wf wx
  exact ⟨x.toNat, by rw [Int.toNat_of_nonneg hz.1], by omega⟩
set_option maxRecDepth 100000 in
theorem open_str {b0 : Nat} {v : Value} {d : DataW H} {p : List MemPlace} (hv : Value.okWide Tryd.prog w .any b0 9 v) (h : DataW.Trod enc Tryd.prog w base sp hd 9 v d p) : ∃ s : ByteArray, v = .string s ∧ s.size ≤ maxLen := by
  obtain ⟨s, rfl, _, _, hs⟩ := ChangeMaps.open_string Tryd.underlying9 hv h
  exact ⟨s, rfl, hs⟩
end
end Go.Proofs.YtepljhpamconbaaDoor
