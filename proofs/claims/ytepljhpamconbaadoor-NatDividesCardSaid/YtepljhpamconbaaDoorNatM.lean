/- DivMod of small numbers. -/
import Derived.Test.YtepljhpamconbaaDoorNatL
namespace Go.Proofs.YtepljhpamconbaaDoor
open Go.RowKit

/-- The boxes of two numbers and of two results. -/
structure Box4 (w : World) (x y r r' : Value) (W : World) : Prop where
  k0 : W.heap[w.heap.size]? = some (.cells #[x] 26)
  k1 : W.heap[w.heap.size + 1]? = some (.cells #[y] 26)
  k2 : W.heap[w.heap.size + 1 + 1]? = some (.cells #[r] 26)
  k3 : W.heap[w.heap.size + 1 + 1 + 1]? = some (.cells #[r'] 26)
  old : Below w.heap.size w W
  sz : w.heap.size + 4 ≤ W.heap.size
theorem box4_head (s s' : Value) (w : World) : ∃ W1, W1 = (((w.alloc (.cells #[s] 26)).alloc (.cells #[s'] 26)).alloc (.cells #[.slice none 0 0] 26)).alloc (.cells #[.slice none 0 0] 26) ∧ Box4 w s s' (.slice none 0 0) (.slice none 0 0) W1 := by
  obtain ⟨W0, h0, hs, h1, h2, h3, h4⟩ := box3_head s s' w
  refine ⟨_, rfl, ?_⟩
  rw [← h0]
  exact ⟨(Below.heap_alloc _ _ _ (by omega)).trans h1, (Below.heap_alloc _ _ _ (by omega)).trans h2, (Below.heap_alloc _ _ _ (by omega)).trans h3, by
    have := heap_new W0 (.cells #[.slice none 0 0] 26)
    rw [hs] at this
    exact this, h4.alloc (by omega) _, by simp; omega⟩
theorem Box4.below {w W W' : World} {x y r r' : Value} (h : Box4 w x y r r' W) (hb : Below W.heap.size W W') : Box4 w x y r r' W' := by
  have := h.sz
  exact ⟨(hb.block _ (by omega)).trans h.k0, (hb.block _ (by omega)).trans h.k1, (hb.block _ (by omega)).trans h.k2, (hb.block _ (by omega)).trans h.k3, h.old.trans (hb.mono (by omega)), Nat.le_trans h.sz hb.size⟩
theorem Box4.set2 {w W : World} {x y r r' : Value} (h : Box4 w x y r r' W) (u : Value) : Box4 w x y u r' (W.setCell ⟨w.heap.size + 1 + 1, 0, none⟩ u) := by
  exact ⟨by rw [setCell_far _ (by omega)]; exact h.k0, by rw [setCell_far _ (by omega)]; exact h.k1, box_store h.k2 u, by rw [setCell_far _ (by omega)]; exact h.k3, h.old.setCell (p := ⟨w.heap.size + 1 + 1, 0, none⟩) (by show _ ≤ w.heap.size + 1 + 1; omega) _, by simpa [World.setCell] using h.sz⟩
theorem Box4.set3 {w W : World} {x y r r' : Value} (h : Box4 w x y r r' W) (u : Value) : Box4 w x y r u (W.setCell ⟨w.heap.size + 1 + 1 + 1, 0, none⟩ u) := by
  exact ⟨by rw [setCell_far _ (by omega)]; exact h.k0, by rw [setCell_far _ (by omega)]; exact h.k1, by rw [setCell_far _ (by omega)]; exact h.k2, box_store h.k3 u, h.old.setCell (p := ⟨w.heap.size + 1 + 1 + 1, 0, none⟩) (by show _ ≤ w.heap.size + 1 + 1 + 1; omega) _, by simpa [World.setCell] using h.sz⟩
theorem Box4.drew {w W : World} {x y r r' : Value} (h : Box4 w x y r r' W) : Box4 w x y r r' W.drew := ⟨h.k0, h.k1, h.k2, h.k3, h.old.drew, h.sz⟩

set_option maxRecDepth 100000 in
set_option maxHeartbeats 2000000 in
theorem divmod_64 (v u : Value) (n m : Nat) (w : World) (hv : NatV w v n) (hu : NatV w u m) (hm : m ≠ 0) (hle : m ≤ n) (hn : n < 18446744073709551616) :
    Calls Tryd.prog 22 #[v, u] w fun e w' => ∃ x y, e = .returned (.tuple #[x, y, .int .i64 0]) ∧ NatV w' x (n / m) ∧ NatV w' y (n % m) ∧ Below w.heap.size w w' := by
  have hln : (digs B32 n).length ≤ 2 := digs_len_le b32_2 2 n (by rw [b32]; exact hn)
  have hlm : (digs B32 m).length ≤ 2 := digs_len_le b32_2 2 m (by rw [b32]; omega)
  have HZ := hid (fun w1 (hb : Below w.heap.size w w1) => isZero_any u m w1 (hu.below hb))
  have HC := hid (fun w1 (hb : Below w.heap.size w w1) => cmp_any v u n m w1 (hv.below hb) (hu.below hb) (by omega) (by omega))
  have HU := hid (fun w1 (hb : Below w.heap.size w w1) => uint64_any v n w1 (hv.below hb))
  have HU' := hid (fun w1 (hb : Below w.heap.size w w1) => uint64_any u m w1 (hu.below hb))
  rw [show (m == 0) = false by simpa using hm] at HZ
  rw [show u64V n = .tuple #[.int .u64 (n : Int), .bool true] by unfold u64V; rw [if_pos hn, decide_eq_true hn]] at HU
  rw [show u64V m = .tuple #[.int .u64 (m : Int), .bool true] by unfold u64V; rw [if_pos (by omega), decide_eq_true (by omega)]] at HU'
  have hcn : ¬ cmpN n m < 0 := by unfold cmpN; rw [if_neg (by omega)]; split <;> omega
  have HO1 := hid (fun w1 => of_any (n / m) w1 (Nat.lt_of_le_of_lt (Nat.div_le_self _ _) hn))
  have HO2 := hid (fun w1 => of_any (n % m) w1 (by have := Nat.mod_lt n (Nat.pos_of_ne_zero hm); omega))
  obtain ⟨P, c, rfl, hp⟩ := hv.digp
  obtain ⟨Q, c', rfl, hq⟩ := hu.digp
  clear hp hq hv hu hln hlm
  go_enter Tryd.func22, Tryd.ntmps22
  go_upto_region 1 with (fail)
  obtain ⟨W0, hW0, hB0⟩ := box4_head (.slice P (digs B32 n).length c) (.slice Q (digs B32 m).length c') w
  rw [← hW0]
  clear hW0
  have a1 := cell_box1 hB0.k1
  go_upto_region 3 with (go_at_call 18; refine (HZ.out _ hB0.old).mono ?_; clear HZ; rintro e W1 ⟨rfl, hw1⟩; have hB1 := hB0.below hw1)
  clear hB0 hw1 a1
  have a0 := cell_box1 hB1.k0
  have a1 := cell_box1 hB1.k1
  go_upto_region 5 with (go_at_call 17; refine (HC.out _ hB1.old).mono ?_; clear HC; rintro e W2 ⟨rfl, hw2⟩; have hB2 := hB1.below hw2)
  clear hB1 hw2 a0 a1
  have a0 := cell_box1 hB2.k0
  go_upto_region 6 with (go_at_call 26; refine (HU.out _ hB2.old).mono ?_; clear HU; rintro e W3 ⟨rfl, hw3⟩; have hB3 := hB2.below hw3)
  clear hB2 hw3 a0
  have a1 := cell_box1 hB3.k1
  go_upto_region 8 with (go_at_call 26; refine (HU'.out _ hB3.old).mono ?_; clear HU'; rintro e W4 ⟨rfl, hw4⟩; have hB4 := hB3.below hw4)
  clear hB3 hw4 a1
  have hmi : ¬ m = 0 := hm
  have hq1 : (n : Int) / (m : Int) < 18446744073709551616 := by
    have e : (n : Int) / (m : Int) = ((n / m : Nat) : Int) := rfl
    have := Nat.div_le_self n m
    rw [e]; omega
  have hq2 : 0 ≤ (n : Int) / (m : Int) := Int.natCast_nonneg (n / m)
  have hr1 : (n : Int) % (m : Int) < 18446744073709551616 := by
    have e : (n : Int) % (m : Int) = ((n % m : Nat) : Int) := rfl
    have := Nat.mod_le n m
    rw [e]; omega
  have hr2 : 0 ≤ (n : Int) % (m : Int) := Int.natCast_nonneg (n % m)
  refine wp_region_staged (fun w' => Box4 w (.slice P (digs B32 n).length c) (.slice Q (digs B32 m).length c') (.slice none 0 0) (.slice none 0 0) w') [0, 0, 0, 2, 0, 0, 0, 2, 2, 2, 0] (by kernel_rfl) (by kernel_rfl) (by kernel_rfl) (hB4.drew) ?_
  apply lexF rfl; (· intro _; go_simp; (try go_bits); exact ⟨rfl, rfl⟩); simp only [Act.put, List.setIfInBounds_toArray, List.set_cons_zero, List.set_cons_succ]
  apply lexF rfl; (· intro _; go_simp; (try go_bits); exact ⟨rfl, rfl⟩); simp only [Act.put, List.setIfInBounds_toArray, List.set_cons_zero, List.set_cons_succ]
  apply lexF rfl; (· intro _; go_simp; (try go_bits); exact ⟨rfl, rfl⟩); simp only [Act.put, List.setIfInBounds_toArray, List.set_cons_zero, List.set_cons_succ]
  apply lexE (α := Option Addr × Nat) (fun x => .agg #[.slice x.1 (digs B32 (n / m)).length x.2]) (fun x w' => Box4 w (.slice P (digs B32 n).length c) (.slice Q (digs B32 m).length c') (.slice none 0 0) (.slice none 0 0) w' ∧ NatV w' (.agg #[.slice x.1 (digs B32 (n / m)).length x.2]) (n / m)) rfl
  · intro w' hB
    go_simp
    refine (HO1.out _).mono ?_
    rintro e w5 ⟨x, rfl, hx, hw5⟩
    obtain ⟨p, c5, rfl, _⟩ := hx.dig
    exact ⟨_, rfl, p, c5, rfl, hB.below hw5, hx⟩
  rintro ⟨p5, c5⟩
  simp only [Act.put, List.setIfInBounds_toArray, List.set_cons_zero, List.set_cons_succ]
  apply lexF rfl; (· intro _; go_simp; (try go_bits); exact ⟨rfl, rfl⟩); simp only [Act.put, List.setIfInBounds_toArray, List.set_cons_zero, List.set_cons_succ]
  apply lexF rfl; (· intro _; go_simp; (try go_bits); exact ⟨rfl, rfl⟩); simp only [Act.put, List.setIfInBounds_toArray, List.set_cons_zero, List.set_cons_succ]
  apply lexF rfl; (· intro _; go_simp; (try go_bits); exact ⟨rfl, rfl⟩); simp only [Act.put, List.setIfInBounds_toArray, List.set_cons_zero, List.set_cons_succ]
  apply lexE (α := Option Addr × Nat) (fun x => .agg #[.slice x.1 (digs B32 (n % m)).length x.2]) (fun x w' => Box4 w (.slice P (digs B32 n).length c) (.slice Q (digs B32 m).length c') (.slice none 0 0) (.slice none 0 0) w' ∧ NatV w' (.agg #[.slice p5 (digs B32 (n / m)).length c5]) (n / m) ∧ NatV w' (.agg #[.slice x.1 (digs B32 (n % m)).length x.2]) (n % m)) rfl
  · rintro w' ⟨hB, hx⟩
    go_simp
    refine (HO2.out _).mono ?_
    rintro e w6 ⟨x, rfl, hy, hw6⟩
    obtain ⟨p, c6, rfl, _⟩ := hy.dig
    exact ⟨_, rfl, p, c6, rfl, hB.below hw6, hx.below hw6, hy⟩
  rintro ⟨p6, c6⟩
  simp only [Act.put, List.setIfInBounds_toArray, List.set_cons_zero, List.set_cons_succ]
  apply lexS (fun w' => Box4 w (.slice P (digs B32 n).length c) (.slice Q (digs B32 m).length c') (.slice p5 (digs B32 (n / m)).length c5) (.slice none 0 0) w' ∧ NatV w' (.agg #[.slice p5 (digs B32 (n / m)).length c5]) (n / m) ∧ NatV w' (.agg #[.slice p6 (digs B32 (n % m)).length c6]) (n % m)) rfl
  · rintro w' ⟨hB, hx, hy⟩
    have c2 := cell_box1 hB.k2
    have f2 := free_box1 hB.k2
    go_simp
    exact ⟨rfl, hB.set2 _, hx.store c2 _, hy.store c2 _⟩
  simp only [Act.put]
  apply lexS (fun w' => Box4 w (.slice P (digs B32 n).length c) (.slice Q (digs B32 m).length c') (.slice p5 (digs B32 (n / m)).length c5) (.slice p6 (digs B32 (n % m)).length c6) w' ∧ NatV w' (.agg #[.slice p5 (digs B32 (n / m)).length c5]) (n / m) ∧ NatV w' (.agg #[.slice p6 (digs B32 (n % m)).length c6]) (n % m)) rfl
  · rintro w' ⟨hB, hx, hy⟩
    have c2 := cell_box1 hB.k3
    have f2 := free_box1 hB.k3
    go_simp
    exact ⟨rfl, hB.set3 _, hx.store c2 _, hy.store c2 _⟩
  simp only [Act.put]
  apply lexF rfl; (· intro _; go_simp; (try go_bits); exact ⟨rfl, rfl⟩); simp only [Act.put, List.setIfInBounds_toArray, List.set_cons_zero, List.set_cons_succ]
  refine lexEnd (fun W5 hw5 => ?_)
  obtain ⟨hB, hx, hy⟩ := hw5
  have c2 := cell_box1 hB.k2
  have c3 := cell_box1 hB.k3
  go_wp2
  exact bodyPost_ret (v := .tuple #[.agg #[.slice p5 (digs B32 (n / m)).length c5], .agg #[.slice p6 (digs B32 (n % m)).length c6], .int .i64 0]) (by simp [results, Tryd.results22, go_sem, c2, c3]) rfl ⟨_, _, rfl, hx, hy, hB.old⟩

set_option maxHeartbeats 1000000 in
theorem divmod_zero (v u : Value) (n : Nat) (w : World) (hv : NatV w v n) (hu : NatV w u 0) :
    Calls Tryd.prog 22 #[v, u] w fun e w' => e = .returned (.tuple #[.agg #[.slice none 0 0], .agg #[.slice none 0 0], .int .i64 10]) ∧ Below w.heap.size w w' := by
  have HZ := hid (fun w1 (hb : Below w.heap.size w w1) => isZero_any u 0 w1 (hu.below hb))
  obtain ⟨P, c, rfl, hp⟩ := hv.digp
  obtain ⟨Q, c', rfl, hq⟩ := hu.digp
  clear hp hq hv hu
  go_enter Tryd.func22, Tryd.ntmps22
  go_upto_region 1 with (fail)
  obtain ⟨W0, hW0, hB0⟩ := box4_head (.slice P (digs B32 n).length c) (.slice Q (digs B32 0).length c') w
  rw [← hW0]
  clear hW0
  have a1 := cell_box1 hB0.k1
  go_upto_region 2 with (go_at_call 18; refine (HZ.out _ hB0.old).mono ?_; clear HZ; rintro e W1 ⟨rfl, hw1⟩; have hB1 := hB0.below hw1)
  clear hB0 hw1 a1
  have c2 := cell_box1 hB1.k2
  have c3 := cell_box1 hB1.k3
  have f2 := free_box1 hB1.k2
  have f3 := free_box1 hB1.k3
  have hB2 := (hB1.set2 (.slice none 0 0)).set3 (.slice none 0 0)
  have d2 := cell_box1 hB2.k2
  have d3 := cell_box1 hB2.k3
  go_wp2
  exact bodyPost_ret (v := .tuple #[.agg #[.slice none 0 0], .agg #[.slice none 0 0], .int .i64 10]) (by simp [results, Tryd.results22, go_sem, d2, d3]) rfl ⟨rfl, hB2.old⟩

set_option maxRecDepth 100000 in
set_option maxHeartbeats 2000000 in
theorem divmod_lt (v u : Value) (n m : Nat) (w : World) (hv : NatV w v n) (hu : NatV w u m) (hlt : n < m) (hln : (digs B32 n).length ≤ 1000000) (hlm : (digs B32 m).length ≤ 1000000) :
    Calls Tryd.prog 22 #[v, u] w fun e w' => ∃ x y, e = .returned (.tuple #[x, y, .int .i64 0]) ∧ NatV w' x (n / m) ∧ NatV w' y (n % m) ∧ Below w.heap.size w w' := by
  have HZ := hid (fun w1 (hb : Below w.heap.size w w1) => isZero_any u m w1 (hu.below hb))
  have HC := hid (fun w1 (hb : Below w.heap.size w w1) => cmp_any v u n m w1 (hv.below hb) (hu.below hb) hln hlm)
  have HV := hid (fun w1 (hb : Below w.heap.size w w1) => hv.below hb)
  rw [show (m == 0) = false by rw [beq_eq_false_iff_ne]; omega] at HZ
  rw [cmpN_lt hlt] at HC
  rw [Nat.div_eq_of_lt hlt, Nat.mod_eq_of_lt hlt]
  obtain ⟨P, c, rfl, hp⟩ := hv.digp
  obtain ⟨Q, c', rfl, hq⟩ := hu.digp
  clear hp hq hv hu hlt
  go_enter Tryd.func22, Tryd.ntmps22
  go_upto_region 1 with (fail)
  obtain ⟨W0, hW0, hB0⟩ := box4_head (.slice P (digs B32 n).length c) (.slice Q (digs B32 m).length c') w
  rw [← hW0]
  clear hW0
  have a1 := cell_box1 hB0.k1
  go_upto_region 3 with (go_at_call 18; refine (HZ.out _ hB0.old).mono ?_; clear HZ; rintro e W1 ⟨rfl, hw1⟩; have hB1 := hB0.below hw1)
  clear hB0 hw1 a1
  have a0 := cell_box1 hB1.k0
  have a1 := cell_box1 hB1.k1
  go_upto_region 4 with (go_at_call 17; refine (HC.out _ hB1.old).mono ?_; clear HC; rintro e W2 ⟨rfl, hw2⟩; have hB2 := hB1.below hw2)
  clear hB1 hw2 a0 a1
  refine wp_region_stagedP (fun w' => w'.heap[w.heap.size]? = some (.cells #[.slice P (digs B32 n).length c] 26)) (fun w' => w'.heap[w.heap.size]? = some (.cells #[.slice P (digs B32 n).length c] 26) ∧ Box4 w (.slice P (digs B32 n).length c) (.slice Q (digs B32 m).length c') (.slice none 0 0) (.slice none 0 0) w') [0, 0, 2, 2, 0] (by kernel_rfl) (by kernel_rfl) (by kernel_rfl) (fun _ h => h.1) (⟨hB2.k0, hB2.drew⟩) ?_
  apply lexF rfl; (· intro _; go_simp; (try go_bits); exact ⟨rfl, rfl⟩); simp only [Act.put, List.setIfInBounds_toArray, List.set_cons_zero, List.set_cons_succ]
  apply lexP rfl
  · intro w' hw'; have a0 := cell_box1 hw'; go_simp; (try go_bits); exact ⟨rfl, rfl⟩
  simp only [Act.put, List.setIfInBounds_toArray, List.set_cons_zero, List.set_cons_succ]
  apply lexS (hP := fun _ h => h.1) (fun w' => w'.heap[w.heap.size]? = some (.cells #[.slice P (digs B32 n).length c] 26) ∧ Box4 w (.slice P (digs B32 n).length c) (.slice Q (digs B32 m).length c') (.slice none 0 0) (.slice none 0 0) w') rfl
  · rintro w' ⟨_, hB⟩
    have c2 := cell_box1 hB.k2
    have f2 := free_box1 hB.k2
    go_simp
    exact ⟨rfl, (hB.set2 _).k0, hB.set2 _⟩
  simp only [Act.put]
  apply lexS (hP := fun _ h => h.1) (fun w' => w'.heap[w.heap.size]? = some (.cells #[.slice P (digs B32 n).length c] 26) ∧ Box4 w (.slice P (digs B32 n).length c) (.slice Q (digs B32 m).length c') (.slice none 0 0) (.slice P (digs B32 n).length c) w') rfl
  · rintro w' ⟨_, hB⟩
    have c2 := cell_box1 hB.k3
    have f2 := free_box1 hB.k3
    go_simp
    exact ⟨rfl, (hB.set3 _).k0, hB.set3 _⟩
  simp only [Act.put]
  apply lexF rfl; (· intro _; go_simp; (try go_bits); exact ⟨rfl, rfl⟩); simp only [Act.put, List.setIfInBounds_toArray, List.set_cons_zero, List.set_cons_succ]
  refine lexEnd (fun W5 hw5 => ?_)
  have hB := hw5.2
  have c2 := cell_box1 hB.k2
  have c3 := cell_box1 hB.k3
  go_wp2
  exact bodyPost_ret (v := .tuple #[.agg #[.slice none 0 0], .agg #[.slice P (digs B32 n).length c], .int .i64 0]) (by simp [results, Tryd.results22, go_sem, c2, c3]) rfl ⟨_, _, rfl, NatV.zero _, HV.out _ hB.old, hB.old⟩

end Go.Proofs.YtepljhpamconbaaDoor
