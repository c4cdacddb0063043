/- What the library's functions of texts need, and their contracts. -/
import Derived.Test.YtjhgkojbpgakcaaDoorLibT
import Derived.Test.YtjhgkojbpgakcaaDoorSepT
import Derived.Test.YtjhgkojbpgakcaaDoorRowI
import Derived.Test.YtjhgkojbpgakcaaDoorShelf
namespace Go.Proofs.YtjhgkojbpgakcaaDoor
open Go.RowKit
open Go.Lib (decDigits)
def Bas (w : World) : Prop := Tab w ∧ (∃ m, w.cell? ⟨0, 0, none⟩ = some (.int .i64 m)) ∧ ∃ tp p, w.var? Tryd.prog "strconv.ErrSyntax" = some #[.iface tp p]
theorem Bas.below {w w' : World} (h : Bas w) (hb : Below w.heap.size w w') : Bas w' := by
  obtain ⟨h1, ⟨m, hm⟩, tp, p, h3⟩ := h
  refine ⟨h1.below hb, ⟨m, ?_⟩, tp, p, var_below h3 hb⟩
  have hlt : 0 < w.heap.size := by
    rcases Nat.lt_or_ge 0 w.heap.size with h | h
    · exact h
    · unfold World.cell? at hm
      rw [Array.getElem?_eq_none h] at hm; cases hm
  rw [← hm]
  exact hb.cell hlt
theorem below_drewN (w : World) (n : Nat) : Below w.heap.size w (w.drewN n) := ⟨rfl, rfl, rfl, by simp, fun i hi => by simp only [World.heap_drewN]⟩
theorem cut_b (c : UInt8) (l : List UInt8) (w : World) (hl : l.length ≤ 100000) (hB : Bas w) :
    Calls Tryd.prog 23 #[.string ⟨l.toArray⟩, .string ⟨#[c]⟩] w fun e w' => e = .returned (.tuple #[.string ⟨(cutL c l).toArray⟩, .string ⟨(cutR c l).toArray⟩, .bool (cutK c l)]) ∧ Below w.heap.size w w' := by
  obtain ⟨_, ⟨m, hm⟩, _⟩ := hB
  refine (Tryd.strings_Cut ⟨l.toArray⟩ ⟨#[c]⟩ m w (by simp [ByteArray.size]; omega) hm).mono ?_
  rintro e w' ⟨rfl, n, rfl⟩
  exact ⟨rfl, below_drewN w n⟩
theorem pieces_cells (c : UInt8) (l : List UInt8) : ((Lib.splitB ⟨#[c]⟩ 0 (Lib.countB ⟨l.toArray⟩ ⟨#[c]⟩) ⟨l.toArray⟩).map Value.string) = (pieces c l).map fun x => Value.string ⟨x.toArray⟩ := by
  have h := Lib.splitB_data ⟨#[c]⟩ 0 (Lib.countB ⟨l.toArray⟩ ⟨#[c]⟩) ⟨l.toArray⟩
  have e : Lib.countB ⟨l.toArray⟩ ⟨#[c]⟩ = Lib.count l [c] := rfl
  rw [e] at h ⊢
  unfold pieces
  rw [show Lib.splitK [c] 0 (Lib.count l [c]) l = Lib.splitK (⟨#[c]⟩ : ByteArray).data.toList 0 (Lib.count l [c]) (⟨l.toArray⟩ : ByteArray).data.toList from rfl, ← h, List.map_map]
  exact List.map_congr_left fun x _ => rfl
theorem pieces_count (c : UInt8) (l : List UInt8) : Lib.countB ⟨l.toArray⟩ ⟨#[c]⟩ + 1 = (pieces c l).length := by
  have h := Lib.splitB_all ⟨#[c]⟩ (Nat.le_refl 1) 0 (Lib.countB ⟨l.toArray⟩ ⟨#[c]⟩) ⟨l.toArray⟩ rfl
  rw [← h]
  have := congrArg List.length (pieces_cells c l)
  simpa using this
theorem count_le (c : UInt8) (l : List UInt8) : (pieces c l).length ≤ l.length + 2 := by
  rw [← pieces_count]
  have := Lib.count_le l [c]
  have e : Lib.countB ⟨l.toArray⟩ ⟨#[c]⟩ = Lib.count l [c] := rfl
  omega
theorem txl_eq (x y : List UInt8) : (x == y) = decide (x = y) := by
  rw [Bool.eq_iff_iff]
  simp
def errW (b : Bool) (N : Nat) : Value := if b then .iface 86 (.pointer (some ⟨N, 0, none⟩)) else .nilIface
end Go.Proofs.YtjhgkojbpgakcaaDoor
