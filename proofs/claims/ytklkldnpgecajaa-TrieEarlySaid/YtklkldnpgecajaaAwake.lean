/- route, awake. -/
import Derived.Test.YtklkldnpgecajaaOwn
namespace Go.Proofs.Ytklkldnpgecajaa
open Go.RowKit Go.Shelf

theorem rt_head (a n v : Int) (w : World) : ∃ W1, W1 = w.alloc (.cells #[.int .u32 a, .int .i64 n, .int .i64 v] 37) ∧ W1.heap[w.heap.size]? = some (.cells #[.int .u32 a, .int .i64 n, .int .i64 v] 37) ∧ Below w.heap.size w W1 :=
  ⟨_, rfl, heap_alloc_at w _, (Below.refl _ w).alloc (Nat.le_refl _) _⟩

set_option maxHeartbeats 400000 in
theorem route_1 (w : World) :
    Calls Try.prog 28 #[.int .i64 10, .int .i64 0, .int .i64 8, .int .i64 1] w fun e w' => e = .returned (.agg #[.int .u32 167772160, .int .i64 8, .int .i64 1]) ∧ Below w.heap.size w w' := by
  go_enter Try.func28, Try.ntmps28
  go_wp2
  rw [show bits BinOp.or IntKind.u32 167772160 0 = 167772160 by decide +kernel]
  obtain ⟨W1, hW1, h0, hB⟩ := rt_head 167772160 8 1 w
  rw [← hW1]
  clear hW1
  obtain ⟨z0, z1, z2⟩ := cell_of_box3 h0
  refine bodyPost_ret (v := .agg #[.int .u32 167772160, .int .i64 8, .int .i64 1]) (by simp [results, Try.results28, go_sem, z0, z1, z2]) rfl ⟨rfl, hB⟩

set_option maxHeartbeats 400000 in
theorem route_2 (w : World) :
    Calls Try.prog 28 #[.int .i64 10, .int .i64 1, .int .i64 16, .int .i64 2] w fun e w' => e = .returned (.agg #[.int .u32 167837696, .int .i64 16, .int .i64 2]) ∧ Below w.heap.size w w' := by
  go_enter Try.func28, Try.ntmps28
  go_wp2
  rw [show bits BinOp.or IntKind.u32 167772160 65536 = 167837696 by decide +kernel]
  obtain ⟨W1, hW1, h0, hB⟩ := rt_head 167837696 16 2 w
  rw [← hW1]
  clear hW1
  obtain ⟨z0, z1, z2⟩ := cell_of_box3 h0
  refine bodyPost_ret (v := .agg #[.int .u32 167837696, .int .i64 16, .int .i64 2]) (by simp [results, Try.results28, go_sem, z0, z1, z2]) rfl ⟨rfl, hB⟩

set_option maxHeartbeats 400000 in
theorem route_3 (w : World) :
    Calls Try.prog 28 #[.int .i64 10, .int .i64 2, .int .i64 16, .int .i64 3] w fun e w' => e = .returned (.agg #[.int .u32 167903232, .int .i64 16, .int .i64 3]) ∧ Below w.heap.size w w' := by
  go_enter Try.func28, Try.ntmps28
  go_wp2
  rw [show bits BinOp.or IntKind.u32 167772160 131072 = 167903232 by decide +kernel]
  obtain ⟨W1, hW1, h0, hB⟩ := rt_head 167903232 16 3 w
  rw [← hW1]
  clear hW1
  obtain ⟨z0, z1, z2⟩ := cell_of_box3 h0
  refine bodyPost_ret (v := .agg #[.int .u32 167903232, .int .i64 16, .int .i64 3]) (by simp [results, Try.results28, go_sem, z0, z1, z2]) rfl ⟨rfl, hB⟩

def t1 : T := T.nil.put 167772160 8 1
def t2 : T := t1.put 167837696 16 2
def t3 : T := t2.put 167903232 16 3
theorem t1_eq : t1 = .node 167772160 8 1 true .nil .nil := by kernel_rfl
theorem t2_eq : t2 = .node 167772160 8 1 true (.node 167837696 16 2 true .nil .nil) .nil := by kernel_rfl
theorem t3_eq : t3 = .node 167772160 8 1 true (.node 167772160 14 0 false (.node 167837696 16 2 true .nil .nil) (.node 167903232 16 3 true .nil .nil)) .nil := by kernel_rfl
theorem t1_fine : t1.Fine := by rw [t1_eq]; exact ⟨⟨by unfold W32; decide, by decide +kernel⟩, trivial, trivial⟩
theorem t2_fine : t2.Fine := by rw [t2_eq]; exact ⟨⟨by unfold W32; decide, by decide +kernel⟩, ⟨⟨by unfold W32; decide, by decide +kernel⟩, trivial, trivial⟩, trivial⟩
theorem t3_fine : t3.Fine := by
  rw [t3_eq]
  exact ⟨⟨by unfold W32; decide, by decide +kernel⟩, ⟨⟨by unfold W32; decide, by decide +kernel⟩, ⟨⟨by unfold W32; decide, by decide +kernel⟩, trivial, trivial⟩, ⟨⟨by unfold W32; decide, by decide +kernel⟩, trivial, trivial⟩⟩, trivial⟩
theorem t3_look1 : t3.look 167837701 ⟨0, 0, 0, false⟩ = ⟨167837696, 16, 2, true⟩ := by rw [t3_eq]; kernel_rfl
theorem t3_look2 : t3.look 168361984 ⟨0, 0, 0, false⟩ = ⟨167772160, 8, 1, true⟩ := by rw [t3_eq]; kernel_rfl
theorem t3_len : t3.list.length = 3 := by rw [t3_eq]; kernel_rfl
theorem t3_count : t3.count = 4 := by rw [t3_eq]; kernel_rfl

end Go.Proofs.Ytklkldnpgecajaa
