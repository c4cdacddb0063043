/- The methods of a nil trie. -/
import Derived.Test.YtklkldnpgecajaaTreeH
import Derived.Test.YtklkldnpgecajaaIterD
namespace Go.Proofs.Ytklkldnpgecajaa
open Go.RowKit Go.Shelf
attribute [local go_sem] Oper.semAt_some

set_option maxHeartbeats 400000 in
theorem nodesNil (w : World) :
    Calls Try.prog 15 #[.pointer none] w fun e w' => e = .returned (.int .i64 0) ∧ Below w.heap.size w w' := by
  go_enter Try.func15, Try.ntmps15
  go_wp2
  go_ret
  exact ⟨rfl, Below.refl _ _⟩

set_option maxHeartbeats 400000 in
theorem putNil (ra : Nat) (rn rv : Int) (w : World) :
    Calls Try.prog 22 #[.pointer none, .agg #[.int .u32 (ra : Int), .int .i64 rn, .int .i64 rv]] w fun e w' => e = .returned (.int .i64 7) ∧ Below w.heap.size w w' := by
  go_enter Try.func22, Try.ntmps22
  go_wp2
  go_ret
  exact ⟨rfl, (Below.refl _ _).alloc (Nat.le_refl _) _⟩

set_option maxHeartbeats 400000 in
theorem remNil (pa : Nat) (pn : Int) (w : World) :
    Calls Try.prog 26 #[.pointer none, .agg #[.int .u32 (pa : Int), .int .i64 pn]] w fun e w' => e = .returned (.int .i64 7) ∧ Below w.heap.size w w' := by
  go_enter Try.func26, Try.ntmps26
  go_wp2
  go_ret
  exact ⟨rfl, (Below.refl _ _).alloc (Nat.le_refl _) _⟩

set_option maxHeartbeats 400000 in
theorem getNil (pa : Nat) (pn : Int) (w : World) :
    Calls Try.prog 19 #[.pointer none, .agg #[.int .u32 (pa : Int), .int .i64 pn]] w fun e w' => e = .returned (getV none) ∧ Below w.heap.size w w' := by
  go_enter Try.func19, Try.ntmps19
  go_wp2
  go_ret2
  exact ⟨rfl, (Below.refl _ _).alloc (Nat.le_refl _) _⟩

set_option maxHeartbeats 400000 in
theorem lookNil (x : Nat) (w : World) :
    Calls Try.prog 17 #[.pointer none, .int .u32 (x : Int)] w fun e w' => e = .returned (lookV ⟨0, 0, 0, false⟩) ∧ Below w.heap.size w w' := by
  go_enter Try.func17, Try.ntmps17
  go_wp2
  have hB : Below w.heap.size w ((w.alloc zeroRoute).alloc zeroRoute) := ((Below.refl _ _).alloc (Nat.le_refl _) _).alloc (by simp) _
  have hz : ((w.alloc zeroRoute).alloc zeroRoute).heap[w.heap.size]? = some zeroRoute := (Below.heap_alloc _ _ _ (by simp)).trans (heap_alloc_at w _)
  obtain ⟨W1, hW1⟩ : ∃ W1, (w.alloc zeroRoute).alloc zeroRoute = W1 := ⟨_, rfl⟩
  rw [hW1] at hB hz
  simp only [zeroRoute] at hW1
  rw [hW1]
  clear hW1
  obtain ⟨z0, z1, z2⟩ := zero_cells hz
  refine bodyPost_ret (v := lookV ⟨0, 0, 0, false⟩) (by simp [results, Try.results17, go_sem, z0, z1, z2, lookV]) rfl ⟨rfl, hB⟩

end Go.Proofs.Ytklkldnpgecajaa
