/- Small lemmas of the walks: a world over another one; rows of one's own; blocks as they stand. -/
import Derived.Test.YtepljhpamconbaaDoorStage
import Derived.Test.YtepljhpamconbaaDoorProg
import Derived.WalkKit
import Derived.WalkSpells
import Derived.WalkLawsBesides
import Derived.Deep.Cut
import Derived.Deep.LoopGhost
import Derived.Maps.AppendAt
namespace Go.Proofs.YtepljhpamconbaaDoor
open Go.RowKit

theorem cellsBelow {B : Nat} {W w1 : World} (hb : Below B W w1) : ∀ b o, b < B → w1.cell? ⟨b, o, none⟩ = W.cell? ⟨b, o, none⟩ :=
  fun b o h => hb.cell (p := ⟨b, o, none⟩) h
theorem frozenBelow {B : Nat} {W w1 : World} (hb : Below B W w1) : ∀ b o, b < B → w1.frozen? ⟨b, o, none⟩ = W.frozen? ⟨b, o, none⟩ :=
  fun b o h => hb.frozen (p := ⟨b, o, none⟩) h
theorem ret_bool {a b : Bool} (h : a = b) : Ending.returned (.bool a) = .returned (.bool b) := by rw [h]
theorem ret_int {k : IntKind} {a b : Int} (h : a = b) : Ending.returned (.int k a) = .returned (.int k b) := by rw [h]
theorem flt_if2 {A B : Prop} [Decidable A] [Decidable B] {w : World} (h : ¬ (A ∧ B)) :
    Flt (.bool false) w (if A then (if B then Result.ok (Next.value (.bool true)) w else Result.ok (Next.value (.bool false)) w) else Result.ok (Next.value (.bool false)) w) := by
  by_cases hA : A
  · rw [if_pos hA, if_neg (fun hB => h ⟨hA, hB⟩)]; exact ⟨rfl, rfl⟩
  · rw [if_neg hA]; exact ⟨rfl, rfl⟩
theorem flt_ifn2 {A B : Prop} [Decidable A] [Decidable B] {w : World} (h : ¬ (A ∧ B)) :
    Flt (.bool true) w (if A then (if B then Result.ok (Next.value (.bool false)) w else Result.ok (Next.value (.bool true)) w) else Result.ok (Next.value (.bool true)) w) := by
  by_cases hA : A
  · rw [if_pos hA, if_neg (fun hB => h ⟨hA, hB⟩)]; exact ⟨rfl, rfl⟩
  · rw [if_neg hA]; exact ⟨rfl, rfl⟩
theorem grown_of_below {W W' : World} (h : Below W.heap.size W W') : W.grownBy W' none := ⟨h.os, h.tape, h.output, h.size, fun k hk _ => h.block k hk⟩
theorem row_kept_none {w w' : World} {base : Nat} {e : TypeId} {size n : Nat} {v : Value} {xs : List Value} (h : w.ownsRow base e size v n xs) (hg : w.grownBy w' none) : w'.ownsRow base e size v n xs :=
  h.kept hg (by
    rcases h.2 with ⟨rfl, _⟩ | ⟨g, cap, cur, rfl, _⟩
    · exact .inl rfl
    · exact .inr (by simp [Value.ownBlock]))
theorem row_mono {w : World} {base base' : Nat} {e : TypeId} {size n : Nat} {v : Value} {xs : List Value} (h : w.ownsRow base e size v n xs) (hb : base' ≤ base) : w.ownsRow base' e size v n xs :=
  ⟨h.1, h.2.elim .inl (fun ⟨g, cap, cur, hv, hg, r⟩ => .inr ⟨g, cap, cur, hv, Nat.le_trans hb hg, r⟩)⟩
theorem add_at (g j : Nat) : (⟨g, 0, none⟩ : Addr).add j = ⟨g, j, none⟩ := by unfold Addr.add; split <;> simp_all
theorem heap_new (w : World) (o : Obj) : (w.alloc o).heap[w.heap.size]? = some o := by
  show (w.heap.push o)[w.heap.size]? = _
  simp
theorem heap_setCell_at {w : World} {b o : Nat} {c : Array Value} {t : TypeId} {m : Nat × Nat} (h : w.heap[b]? = some (.cells c t m)) (u : Value) : (w.setCell ⟨b, o, none⟩ u).heap[b]? = some (.cells (c.setIfInBounds o u) t m) := by
  obtain ⟨hlt, hk⟩ := Array.getElem?_eq_some_iff.1 h
  show (w.heap.modify b _)[b]? = _
  rw [Array.getElem?_eq_getElem (by rw [Array.size_modify]; exact hlt), Array.getElem_modify_self, hk]
  rfl
theorem setCell_far {w : World} {b o c : Nat} (u : Value) (h : c ≠ b) : (w.setCell ⟨b, o, none⟩ u).heap[c]? = w.heap[c]? := Below.heap_setCell _ _ _ _ h

/-- A box. -/
theorem cell_box1 {W : World} {B : Nat} {x : Value} {t : TypeId} (h : W.heap[B]? = some (.cells #[x] t)) : W.cell? ⟨B, 0, none⟩ = some x := by simp [World.cell?, h]
theorem free_box1 {W : World} {B : Nat} {x : Value} {t : TypeId} (h : W.heap[B]? = some (.cells #[x] t)) : ∀ o, W.frozen? ⟨B, o, none⟩ = false := by intro o; simp [World.frozen?, h]
theorem box1_head (s : Value) (t : TypeId) (w : World) : ∃ W1, W1 = w.alloc (.cells #[s] t) ∧ W1.heap.size = w.heap.size + 1 ∧ W1.heap[w.heap.size]? = some (.cells #[s] t) ∧ Below w.heap.size w W1 :=
  ⟨_, rfl, World.size_alloc _ _, heap_new _ _, (Below.refl _ _).alloc (Nat.le_refl _) _⟩
/-- Two boxes. -/
theorem box2_head (s s' : Value) (t t' : TypeId) (w : World) : ∃ W1, W1 = (w.alloc (.cells #[s] t)).alloc (.cells #[s'] t') ∧ W1.heap.size = w.heap.size + 2 ∧ W1.heap[w.heap.size]? = some (.cells #[s] t) ∧ W1.heap[w.heap.size + 1]? = some (.cells #[s'] t') ∧ Below w.heap.size w W1 := by
  refine ⟨_, rfl, by simp, (Below.heap_alloc _ _ _ (by simp)).trans (heap_new _ _), ?_, ((Below.refl _ w).alloc (Nat.le_refl _) _).alloc (by simp) _⟩
  have := heap_new (w.alloc (.cells #[s] t)) (.cells #[s'] t')
  rwa [World.size_alloc] at this
/-- A box is written. -/
theorem box_store {W : World} {R : Nat} {x : Value} {t : TypeId} (h : W.heap[R]? = some (.cells #[x] t)) (u : Value) : (W.setCell ⟨R, 0, none⟩ u).heap[R]? = some (.cells #[u] t) := heap_setCell_at h u
theorem res_store {W : World} {R : Nat} {x : Value} {t : TypeId} (h : W.heap[R]? = some (.cells #[x] t)) (u : Value) : (W.setCell ⟨R, 0, none⟩ u).cell? ⟨R, 0, none⟩ = some u := cell_box1 (box_store h u)

end Go.Proofs.YtepljhpamconbaaDoor
