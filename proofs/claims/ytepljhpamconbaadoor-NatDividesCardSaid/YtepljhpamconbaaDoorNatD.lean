/- Arrays of digits that a call makes; Add. -/
import Derived.Test.YtepljhpamconbaaDoorNatC
import Derived.OwnWalk
import Derived.Laws.OwnMore
namespace Go.Proofs.YtepljhpamconbaaDoor
open Go.RowKit

def uCell (x : Nat) : Value := .int .u32 (x : Int)
/-- A new block of digits, known whole. -/
def Arr (W : World) (D : Nat) (xs : List Nat) : Prop := W.heap[D]? = some (.cells (xs.map uCell).toArray 69 (0, 0))
theorem Arr.lt {W : World} {D : Nat} {xs : List Nat} (h : Arr W D xs) : D < W.heap.size := (Array.getElem?_eq_some_iff.1 h).1
theorem Arr.cell {W : World} {D : Nat} {xs : List Nat} (h : Arr W D xs) (k : Nat) (hk : k < xs.length) : W.cell? ⟨D, k, none⟩ = some (.int .u32 (xs[k] : Int)) := by
  unfold World.cell?; rw [show W.heap[(⟨D, k, none⟩ : Addr).block]? = _ from h]; simp [hk, uCell]
theorem Arr.free {W : World} {D : Nat} {xs : List Nat} (h : Arr W D xs) : ∀ o, W.frozen? ⟨D, o, none⟩ = false := by
  intro o; unfold World.frozen?; rw [show W.heap[(⟨D, o, none⟩ : Addr).block]? = _ from h]; simp
theorem Arr.dig {W : World} {D : Nat} {xs : List Nat} (h : Arr W D xs) : DigIn W D xs := ⟨h.lt, h.cell⟩
theorem Arr.below {W W' : World} {D : Nat} {xs : List Nat} (h : Arr W D xs) (hb : Below W.heap.size W W') : Arr W' D xs := (hb.block _ h.lt).trans h
theorem Arr.store {W : World} {D : Nat} {xs : List Nat} (h : Arr W D xs) (k v : Nat) : Arr (W.setCell ⟨D, k, none⟩ (.int .u32 (v : Int))) D (xs.set k v) := by
  unfold Arr
  rw [heap_setCell_at h]
  simp [List.map_set, uCell]
theorem infoU : (Tryd.prog.info? 69).map (fun i => (i.zero, i.size, i.bytes)) = some (some (.int .u32 0), 1, 4) := by kernel_rfl
theorem arr_made {W : World} {base g n : Nat} (h : W.ownsRow base 69 1 (.slice (some ⟨g, 0, none⟩) n n) n (madeCells (Value.int .u32 0).cells (n * 1)).toList) : Arr W g (List.replicate n 0) := by
  rcases h.2 with ⟨e, _⟩ | ⟨g', cap, cur, e, _, hg, _, _, hs, ht⟩
  · cases e
  · injection e with e1 _ e3
    injection e1 with e1
    injection e1 with e1
    subst e1 e3
    have h1 : cur.toList = List.replicate n (Value.int .u32 0) := by
      have h2 : (madeCells (Value.int .u32 0).cells (n * 1)).toList = List.replicate n (.int .u32 0) := by
        rw [Nat.mul_one]; exact toList_madeCells_one _ n
      rw [h2, List.take_of_length_le (by rw [Array.length_toList, hs]; omega)] at ht
      exact ht
    unfold Arr
    rw [hg]
    congr 2
    rw [← Array.toArray_toList (xs := cur), h1, List.map_replicate]
    rfl
/-- The pointer of a number's slice. -/
def DigP (W : World) (P : Option Addr) (ds : List Nat) : Prop := ds ≠ [] → ∃ g, P = some ⟨g, 0, none⟩ ∧ DigIn W g ds
theorem NatV.digp {W : World} {v : Value} {n : Nat} (h : NatV W v n) : ∃ P c, v = .agg #[.slice P (digs B32 n).length c] ∧ DigP W P (digs B32 n) := by
  rcases h with ⟨rfl, rfl⟩ | ⟨_, g, c, rfl, t, hc⟩
  · rw [digs_zero]; exact ⟨none, 0, rfl, fun h => absurd rfl h⟩
  · exact ⟨_, c, rfl, fun _ => ⟨g, rfl, t⟩⟩
theorem DigP.at {W : World} {P : Option Addr} {ds : List Nat} (h : DigP W P ds) {k : Nat} (hk : k < ds.length) : ∃ g, P = some ⟨g, 0, none⟩ ∧ DigIn W g ds := h fun e => by subst e; cases hk
theorem DigP.below {W W' : World} {P : Option Addr} {ds : List Nat} (h : DigP W P ds) (hb : Below W.heap.size W W') : DigP W' P ds := fun hn => by
  obtain ⟨g, e, t⟩ := h hn; exact ⟨g, e, t.below hb⟩

theorem take_set {xs : List Nat} {k v : Nat} (hk : k < xs.length) : (xs.set k v).take (k + 1) = xs.take k ++ [v] := by
  rw [List.take_succ_eq_append_getElem (by simpa using hk)]
  simp [List.take_set_of_le]
theorem val_take_set {B : Nat} {xs : List Nat} {k v : Nat} (hk : k < xs.length) : val B ((xs.set k v).take (k + 1)) = val B (xs.take k) + B ^ k * v := by
  rw [take_set hk, val_snoc, List.length_take, Nat.min_eq_left (by omega)]
theorem val_take_succ {B : Nat} {xs : List Nat} {k : Nat} (hk : k < xs.length) : val B (xs.take (k + 1)) = val B (xs.take k) + B ^ k * xs[k] := by
  rw [List.take_succ_eq_append_getElem hk, val_snoc, List.length_take, Nat.min_eq_left (by omega)]
theorem all_set {B : Nat} {xs : List Nat} {k v : Nat} (h : ∀ x ∈ xs, x < B) (hv : v < B) : ∀ x ∈ xs.set k v, x < B := fun x hx => by
  rcases List.mem_or_eq_of_mem_set hx with h1 | h1
  · exact h x h1
  · rw [h1]; exact hv

set_option maxHeartbeats 400000 in
theorem add32_any (x y c : Nat) (w : World) (hx : x ≤ 4294967295) (hy : y ≤ 4294967295) (hc : c ≤ 1) :
    Calls Tryd.prog 53 #[.int .u32 (x : Int), .int .u32 (y : Int), .int .u32 (c : Int)] w fun e w' => e = .returned (.tuple #[.int .u32 (((x + y + c) % 4294967296 : Nat) : Int), .int .u32 (((x + y + c) / 4294967296 : Nat) : Int)]) ∧ w = w' := by
  go_enter Tryd.func53, Tryd.ntmps53
  go_wp2
  go_ret2
  exact ⟨by congr 3 <;> (simp only [List.cons.injEq]; refine ⟨?_, ?_, trivial⟩ <;> (show Value.int .u32 _ = Value.int .u32 _; congr 1 <;> omega)), rfl⟩

end Go.Proofs.YtepljhpamconbaaDoor
