/- What the library's functions of texts need, and their contracts. -/
import Derived.Test.YtbbjjjaclbkolaaGreatDoorLibT
import Derived.Test.YtbbjjjaclbkolaaGreatDoorSepT
import Derived.Test.YtbbjjjaclbkolaaGreatDoorRowI
import Derived.Test.YtbbjjjaclbkolaaGreatDoorShelf
namespace Go.Proofs.YtbbjjjaclbkolaaGreatDoor
open Go.RowKit
open Go.Lib (decDigits)
def Bas (w : World) : Prop := Tab w ∧ (∃ m, w.cell? ⟨0, 0, none⟩ = some (.int .i64 m)) ∧ ∃ tp p, w.var? Tryz.prog "strconv.ErrSyntax" = some #[.iface tp p]
theorem Bas.below {w w' : World} (h : Bas w) (hb : Below w.heap.size w w') : Bas w' := by
  obtain ⟨h1, ⟨m, hm⟩, tp, p, h3⟩ := h
  refine ⟨h1.below hb, ⟨m, ?_⟩, tp, p, var_below h3 hb⟩
  have hlt : 0 < w.heap.size := by
    rcases Nat.lt_or_ge 0 w.heap.size with h | h
    · exact h
    · unfold World.cell? at hm
      rw [Array.getElem?_eq_none h] at hm; cases hm
  rw [← hm]
  exact hb.cell hlt
theorem itoa_b (n : Nat) (w : World) (hn : n ≤ 9223372036854775807) (hB : Bas w) :
    Calls Tryz.prog 26 #[.int .i64 (n : Int)] w fun e w' => e = .returned (.string ⟨(decDigits n).toArray⟩) ∧ Below w.heap.size w w' := itoa_any n w hn hB.1
theorem itoa_z (n : Int) (w : World) (h0 : 0 ≤ n) (h1 : n ≤ 9223372036854775807) (hB : Bas w) :
    Calls Tryz.prog 26 #[.int .i64 n] w fun e w' => e = .returned (.string ⟨(decDigits n.toNat).toArray⟩) ∧ Below w.heap.size w w' := by
  obtain ⟨m, rfl⟩ : ∃ m : Nat, n = (m : Int) := ⟨n.toNat, by omega⟩
  exact itoa_b m w (by omega) hB
theorem below_drewN (w : World) (n : Nat) : Below w.heap.size w (w.drewN n) := ⟨rfl, rfl, rfl, by simp, fun i hi => by simp only [World.heap_drewN]⟩
theorem cut_b (c : UInt8) (l : List UInt8) (w : World) (hl : l.length ≤ 100000) (hB : Bas w) :
    Calls Tryz.prog 20 #[.string ⟨l.toArray⟩, .string ⟨#[c]⟩] w fun e w' => e = .returned (.tuple #[.string ⟨(cutL c l).toArray⟩, .string ⟨(cutR c l).toArray⟩, .bool (cutK c l)]) ∧ Below w.heap.size w w' := by
  obtain ⟨_, ⟨m, hm⟩, _⟩ := hB
  refine (Tryz.strings_Cut ⟨l.toArray⟩ ⟨#[c]⟩ m w (by simp [ByteArray.size]; omega) hm).mono ?_
  rintro e w' ⟨rfl, n, rfl⟩
  exact ⟨rfl, below_drewN w n⟩
theorem pieces_cells (c : UInt8) (l : List UInt8) : ((Lib.splitB ⟨#[c]⟩ 0 (Lib.countB ⟨l.toArray⟩ ⟨#[c]⟩) ⟨l.toArray⟩).map Value.string) = (pieces c l).map fun x => Value.string ⟨x.toArray⟩ := by
  have h := Lib.splitB_data ⟨#[c]⟩ 0 (Lib.countB ⟨l.toArray⟩ ⟨#[c]⟩) ⟨l.toArray⟩
  have e : Lib.countB ⟨l.toArray⟩ ⟨#[c]⟩ = Lib.count l [c] := rfl
  rw [e] at h ⊢
  unfold pieces
  rw [show Lib.splitK [c] 0 (Lib.count l [c]) l = Lib.splitK (⟨#[c]⟩ : ByteArray).data.toList 0 (Lib.count l [c]) (⟨l.toArray⟩ : ByteArray).data.toList from rfl, ← h, List.map_map]
  exact List.map_congr_left fun x _ => rfl
theorem pieces_count (c : UInt8) (l : List UInt8) : Lib.countB ⟨l.toArray⟩ ⟨#[c]⟩ + 1 = (pieces c l).length := by
  have h := Lib.splitB_all ⟨#[c]⟩ (Nat.le_refl 1) 0 (Lib.countB ⟨l.toArray⟩ ⟨#[c]⟩) ⟨l.toArray⟩ rfl
  rw [← h]
  have := congrArg List.length (pieces_cells c l)
  simpa using this
theorem flat_ones {α : Type} (f : α → Value) : ∀ xs : List α, (xs.map fun x => [f x]).flatten = xs.map f
  | [] => rfl
  | x :: xs => by rw [List.map_cons, List.flatten_cons, flat_ones f xs]; rfl
theorem OwV.ofCells {α : Type} {K : EK α} {f : α → List Value} (hf : ∀ w x, K.R w (f x) x) {xs : List α} {base R : Nat} {ty : TypeId} {w : World} (h : Has base R (.cells (xs.map f).flatten.toArray ty) w) (hl : xs.length ≤ maxLen) : OwV K ty base w (.slice (some ⟨R, 0, none⟩) xs.length xs.length) xs := by
  have he : Els K w (xs.map f) xs := ⟨by simp, fun k cs x h1 h2 => by
    rw [List.getElem?_map, h2] at h1
    simp at h1
    subst h1
    exact hf w x⟩
  have h1 : (xs.map f).flatten.length = xs.length * K.sz := by rw [flat_len _ he.sizes, List.length_map]
  exact ⟨xs.map f, he, h1, .inr ⟨R, xs.length, _, rfl, h.1, h.2, Nat.le_refl _, hl, by simpa using h1, by rw [← h1]; exact List.take_length⟩⟩
theorem count_le (c : UInt8) (l : List UInt8) : (pieces c l).length ≤ l.length + 2 := by
  rw [← pieces_count]
  have := Lib.count_le l [c]
  have e : Lib.countB ⟨l.toArray⟩ ⟨#[c]⟩ = Lib.count l [c] := rfl
  omega
theorem split_b (c : UInt8) (l : List UInt8) (w : World) (hl : l.length ≤ 100000) (hB : Bas w) :
    Calls Tryz.prog 21 #[.string ⟨l.toArray⟩, .string ⟨#[c]⟩] w fun e w' => ∃ y, e = .returned y ∧ OwV strK 9 w.heap.size w' y (pieces c l) ∧ Below w.heap.size w w' := by
  obtain ⟨_, ⟨m, hm⟩, _⟩ := hB
  refine (Tryz.strings_Split ⟨l.toArray⟩ ⟨#[c]⟩ m w (by simp [ByteArray.size]; omega) hm (Nat.le_refl 1)).mono ?_
  rintro e w' ⟨rfl, rfl⟩
  refine ⟨_, rfl, ?_, (Below.refl _ _).alloc (Nat.le_refl _) _⟩
  rw [pieces_cells, pieces_count, ← flat_ones]
  exact OwV.ofCells (fun _ _ => rfl) ⟨Nat.le_refl _, Array.getElem?_push_size⟩ (by have := count_le c l; unfold maxLen; omega)
theorem txt_eq (x y : List UInt8) : ((⟨x.toArray⟩ : ByteArray) == ⟨y.toArray⟩) = decide (x = y) := by
  show (x.toArray == y.toArray) = _
  rw [Bool.eq_iff_iff]
  simp
theorem txt_ne (x y : List UInt8) : (!((⟨x.toArray⟩ : ByteArray) == ⟨y.toArray⟩)) = !decide (x = y) := by rw [txt_eq]
theorem txl_eq (x y : List UInt8) : (x == y) = decide (x = y) := by
  rw [Bool.eq_iff_iff]
  simp
theorem txl_ne (x y : List UInt8) : (!(x == y)) = !decide (x = y) := by rw [txl_eq]
def atV (l : List UInt8) : Int := (Lib.atoi l).getD 0
def atBad (l : List UInt8) : Bool := (Lib.atoi l).isNone
def errW (b : Bool) (N : Nat) : Value := if b then .iface 90 (.pointer (some ⟨N, 0, none⟩)) else .nilIface
theorem atoi_b (l : List UInt8) (w : World) (hl : l.length ≤ 18) (hB : Bas w) :
    Calls Tryz.prog 22 #[.string ⟨l.toArray⟩] w fun e w' => ∃ y, e = .returned (.tuple #[.int .i64 (atV l), y]) ∧ (∃ N, y = errW (atBad l) N) ∧ Below w.heap.size w w' := by
  obtain ⟨_, _, tp, p, hv⟩ := hB
  cases h : Lib.atoi l with
  | none =>
    refine (Tryz.strconv_Atoi_err_var ⟨l.toArray⟩ (by simpa [ByteArray.size] using hl) h tp p w hv).mono ?_
    rintro e w' ⟨N, rfl, _, _, hb⟩
    exact ⟨errW (atBad l) N, by unfold atV atBad; rw [h]; rfl, ⟨N, rfl⟩, hb⟩
  | some n =>
    refine (Tryz.strconv_Atoi ⟨l.toArray⟩ n (by simpa [ByteArray.size] using hl) h w).mono ?_
    rintro e w' ⟨rfl, t, rfl⟩
    exact ⟨errW (atBad l) 0, by unfold atV atBad; rw [h]; rfl, ⟨0, rfl⟩, Lib.bytesWorld_below w _ t⟩
end Go.Proofs.YtbbjjjaclbkolaaGreatDoor
