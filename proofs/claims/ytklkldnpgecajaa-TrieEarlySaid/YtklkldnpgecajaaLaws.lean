/- The walks of the laws TrieOps, TrieSize, TrieLookup, TrieUnder. -/
import Derived.Test.YtklkldnpgecajaaBuildB
import Derived.Test.YtklkldnpgecajaaAwakeB
namespace Go.Proofs.Ytklkldnpgecajaa
open Go.RowKit Go.Shelf

theorem ops_len {W : World} {v : Value} {ops : List Op} (h : OpsV W v ops) : ∃ p c, v = .slice p ops.length c := by
  rcases h with ⟨rfl, p, c, e⟩ | ⟨b, off, c, e, _⟩
  · exact ⟨p, c, e⟩
  · exact ⟨_, c, e⟩

set_option maxHeartbeats 1000000 in
theorem ops_any (v : Value) (ops : List Op) (w : World) (hO : OpsV w v ops) (hw : ∀ o ∈ ops, W32 o.a) :
    Calls Try.prog 3 #[v] w fun e w' => e = .returned (.bool true) ∧ Below w.heap.size w w' := by
  obtain ⟨p, c, rfl⟩ := ops_len hO
  have HB := hid (fun w1 (h : OpsV w1 (.slice p ops.length c) ops) (h1 : ops.length ≤ 80) => build_any _ ops w1 h h1 hw)
  clear hw
  by_cases hl : ops.length ≤ 80
  · go_enter Try.func3, Try.ntmps3
    go_wp2_with (first
      | (go_at_call 10; refine (awake_any _).mono ?_; rintro e w1 ⟨rfl, hb1⟩)
      | (go_at_call 11; refine (HB.out _ (hO.below hb1) hl).mono ?_; clear HB; rintro e w2 ⟨tb, t, u, rfl, hB, htl⟩)
      | (go_at_call 13; refine (b_routes hB htl).mono ?_; rintro e w3 ⟨u3, rfl, h3, hB3, hb3⟩)
      | (go_at_call 12; refine (b_same hB3 h3 hB3.tab htl).mono ?_; rintro e w4 ⟨rfl, hB4, hb4⟩; obtain ⟨q, c2, rfl⟩ := row_len hB4.row)
      | (go_at_call 14; refine (b_len hB4 htl).mono ?_; rintro e w5 ⟨rfl, hB5, hb5⟩)
      | (go_at_call 15; refine (b_nodes hB5 htl).mono ?_; rintro e w6 ⟨rfl, hB6, hb6⟩)
      | (go_at_call 16; refine (b_rnodes hB6 htl).mono ?_; rintro e w7 ⟨rfl, hB7, hb7⟩))
    go_ret
    exact ⟨rfl, hb1.trans (hB7.has.old.1.mono hb1.size)⟩
  · have hl' : (80 : Int) < (ops.length : Int) := by omega
    clear HB
    go_enter Try.func3, Try.ntmps3
    go_upto_region 2 with (go_at_call 10; refine (awake_any _).mono ?_; rintro e w1 ⟨rfl, hb1⟩)
    go_wp2_with (go_at_call 10; refine (awake_any _).mono ?_; rintro e w2 ⟨rfl, hb2⟩)
    go_ret
    exact ⟨rfl, hb1.trans (hb2.mono hb1.size)⟩

set_option maxHeartbeats 1000000 in
theorem size_any (v : Value) (ops : List Op) (w : World) (hO : OpsV w v ops) (hw : ∀ o ∈ ops, W32 o.a) :
    Calls Try.prog 5 #[v] w fun e w' => e = .returned (.bool true) ∧ Below w.heap.size w w' := by
  obtain ⟨p, c, rfl⟩ := ops_len hO
  have HB := hid (fun w1 (h : OpsV w1 (.slice p ops.length c) ops) (h1 : ops.length ≤ 80) => build_any _ ops w1 h h1 hw)
  clear hw
  by_cases hl : ops.length ≤ 80
  · have hcnt := hid (fun (t : T) (ht : t.Ok) => And.intro (size_law ht).1 (fun h : t ≠ .nil => (size_law ht).2 h))
    go_enter Try.func5, Try.ntmps5
    go_upto_region 4 with (first
      | (go_at_call 10; refine (awake_any _).mono ?_; rintro e w1 ⟨rfl, hb1⟩)
      | (go_at_call 11; refine (HB.out _ (hO.below hb1) hl).mono ?_; clear HB; rintro e w2 ⟨tb, t, u, rfl, hB, htl⟩))
    have hle : t.list.length ≤ t.count := (size_law hB.ok).1
    by_cases ht : t = .nil
    · subst ht
      go_wp2_with (first
        | (go_at_call 14; refine (b_len hB (by simp [T.list])).mono ?_; rintro e w5 ⟨rfl, hB5, hb5⟩; clear hB; have hB := hB5; clear hB5; simp only [T.list, List.length_nil])
        | (go_at_call 15; refine (b_nodes hB (by simp [T.list])).mono ?_; rintro e w5 ⟨rfl, hB5, hb5⟩; clear hB; have hB := hB5; clear hB5; simp only [T.count]))
      go_ret
      exact ⟨rfl, hb1.trans (hB.has.old.1.mono hb1.size)⟩
    · have hlt := (size_law hB.ok).2 ht
      have q1 : (t.list.length : Int) ≤ (t.count : Int) := by omega
      have q2 : (t.count : Int) ≤ 2 * (t.list.length : Int) - 1 := by omega
      have q3 : (0 : Int) ≤ 2 * (t.list.length : Int) - 1 := by omega
      go_wp2_with (first
        | (go_at_call 14; refine (b_len hB htl).mono ?_; rintro e w5 ⟨rfl, hB5, hb5⟩; clear hB; have hB := hB5; clear hB5)
        | (go_at_call 15; refine (b_nodes hB htl).mono ?_; rintro e w5 ⟨rfl, hB5, hb5⟩; clear hB; have hB := hB5; clear hB5))
      go_ret
      exact ⟨ret_bool (decide_eq_true (by omega)), hb1.trans (hB.has.old.1.mono hb1.size)⟩
  · have hl' : (80 : Int) < (ops.length : Int) := by omega
    clear HB
    go_enter Try.func5, Try.ntmps5
    go_upto_region 2 with (go_at_call 10; refine (awake_any _).mono ?_; rintro e w1 ⟨rfl, hb1⟩)
    go_wp2_with (go_at_call 10; refine (awake_any _).mono ?_; rintro e w2 ⟨rfl, hb2⟩)
    go_ret
    exact ⟨rfl, (hb1.trans (hb2.mono hb1.size))⟩

set_option maxHeartbeats 1000000 in
theorem tunder_any (v : Value) (ops : List Op) (pa : Nat) (pn : Int) (w : World) (hO : OpsV w v ops) (hw : ∀ o ∈ ops, W32 o.a) (hpa : W32 pa) :
    Calls Try.prog 8 #[v, .agg #[.int .u32 (pa : Int), .int .i64 pn]] w fun e w' => e = .returned (.bool true) ∧ Below w.heap.size w w' := by
  obtain ⟨p, c, rfl⟩ := ops_len hO
  have HB := hid (fun w1 (h : OpsV w1 (.slice p ops.length c) ops) (h1 : ops.length ≤ 80) => build_any _ ops w1 h h1 hw)
  clear hw
  by_cases hl : ops.length ≤ 80
  · go_enter Try.func8, Try.ntmps8
    go_upto_region 1 with (fail)
    obtain ⟨W1, hW1, hsz, kB, hWb⟩ := box_head pa pn w
    have hO1 := hO.below hWb
    rw [← hW1]
    have hB1 : w.heap.size < W1.heap.size := by omega
    clear hW1 hsz hO
    go_upto_region 4 with (first
      | (go_at_call 10; refine (awake_any _).mono ?_; rintro e w1 ⟨rfl, hb1⟩)
      | (go_at_call 11; refine (HB.out _ (hO1.below hb1) hl).mono ?_; clear HB; rintro e w2 ⟨tb, t, u, rfl, hB, htl⟩))
    have hb2 := hb1.trans (hB.has.old.1.mono hb1.size)
    have kB2 := (hb2.block _ hB1).trans kB
    have hs2 : w.heap.size < w2.heap.size := Nat.lt_of_lt_of_le hB1 hb2.size
    have hfin : ∀ w', Both w1.heap.size w1 tb t u w' → Below w.heap.size w w' := fun w' h => hWb.trans ((hb1.trans (h.has.old.1.mono hb1.size)).mono (by omega))
    clear hb2
    refine wp_region_stagedP (fun w' => Blk w' w.heap.size #[.int .u32 (pa : Int), .int .i64 pn] 35) (fun w' => Blk w' w.heap.size #[.int .u32 (pa : Int), .int .i64 pn] 35 ∧ Both w1.heap.size w1 tb t u w') [0, 0, 0, 0, 2, 0, 0, 2, 1, 0, 0] (by kernel_rfl) (by kernel_rfl) (by kernel_rfl) (fun _ h => h.1) (⟨kB2, hB.below (Below.refl _ _).drew⟩) ?_
    apply lexF rfl; (· intro _; go_simp; (try go_bits); exact ⟨rfl, rfl⟩); simp only [Act.put, List.setIfInBounds_toArray, List.set_cons_zero, List.set_cons_succ]
    apply lexF rfl; (· intro _; go_simp; (try go_bits); exact ⟨rfl, rfl⟩); simp only [Act.put, List.setIfInBounds_toArray, List.set_cons_zero, List.set_cons_succ]
    first | (apply lexN (j := 1) (d := 23) (b := true) rfl rfl rfl rfl; simp only [Act.put, List.setIfInBounds_toArray, List.set_cons_zero, List.set_cons_succ]) | (apply lexN' (j := 1) (d := 23) (b := true) rfl rfl rfl; simp only [Act.put, List.setIfInBounds_toArray, List.set_cons_zero, List.set_cons_succ]) | (apply lexFg (j := 1) (d := 23) (b := true) rfl rfl rfl rfl; (· intro _; go_simp; (try go_bits); exact ⟨rfl, rfl⟩); simp only [Act.put, List.setIfInBounds_toArray, List.set_cons_zero, List.set_cons_succ])
    apply lexPg (j := 1) (d := 23) (b := true) rfl rfl rfl rfl
    · intro w' hw'; obtain ⟨d0, d1⟩ := cell_of_pfx hw'; go_simp; (try go_bits); exact ⟨rfl, rfl⟩
    simp only [Act.put, List.setIfInBounds_toArray, List.set_cons_zero, List.set_cons_succ]
    apply lexEg (hP := fun _ _ h => h.1) (α := Value) (fun v => v) (fun v w' => Blk w' w.heap.size #[.int .u32 (pa : Int), .int .i64 pn] 35 ∧ Both w1.heap.size w1 tb t u w' ∧ TabV w' v (undL pa pn t.list)) (j := 1) (d := 23) (b := true) rfl rfl rfl rfl
    · rintro w' ⟨hk, hb⟩
      go_simp
      refine (b_under hb htl pa pn hpa).mono ?_
      rintro e w3 ⟨u3, rfl, h3, hB3, hb3⟩
      exact ⟨u3, rfl, (hb3.block _ hk.lt).trans hk, hB3, h3⟩
    intro u3
    simp only [Act.put, List.setIfInBounds_toArray, List.set_cons_zero, List.set_cons_succ]
    first | (apply lexN (j := 1) (d := 23) (b := true) rfl rfl rfl rfl; simp only [Act.put, List.setIfInBounds_toArray, List.set_cons_zero, List.set_cons_succ]) | (apply lexN' (j := 1) (d := 23) (b := true) rfl rfl rfl; simp only [Act.put, List.setIfInBounds_toArray, List.set_cons_zero, List.set_cons_succ]) | (apply lexFg (j := 1) (d := 23) (b := true) rfl rfl rfl rfl; (· intro _; go_simp; (try go_bits); exact ⟨rfl, rfl⟩); simp only [Act.put, List.setIfInBounds_toArray, List.set_cons_zero, List.set_cons_succ])
    apply lexPg (j := 1) (d := 23) (b := true) rfl rfl rfl rfl
    · intro w' hw'; obtain ⟨d0, d1⟩ := cell_of_pfx hw'; go_simp; (try go_bits); exact ⟨rfl, rfl⟩
    simp only [Act.put, List.setIfInBounds_toArray, List.set_cons_zero, List.set_cons_succ]
    apply lexEg (hP := fun _ _ h => h.1) (α := Value) (fun v => v) (fun v w' => Blk w' w.heap.size #[.int .u32 (pa : Int), .int .i64 pn] 35 ∧ Both w1.heap.size w1 tb t u w' ∧ TabV w' u3 (undL pa pn t.list) ∧ TabV w' v (undL pa pn t.list)) (j := 1) (d := 23) (b := true) rfl rfl rfl rfl
    · rintro w' ⟨hk, hb, h3⟩
      go_simp
      refine (b_runder hb htl pa pn hpa).mono ?_
      rintro e w4 ⟨u4, rfl, h4, hB4, hb4⟩
      exact ⟨u4, rfl, (hb4.block _ hk.lt).trans hk, hB4, h3.below hb4, h4⟩
    intro u4
    simp only [Act.put, List.setIfInBounds_toArray, List.set_cons_zero, List.set_cons_succ]
    apply lexHg (j := 1) (d := 23) (b := true) rfl rfl rfl rfl
    · intro w' hw'; go_simp; (try go_bits); obtain ⟨hk, hb, h3, h4⟩ := hw'; refine (b_same hb h3 h4 (Nat.le_trans (und_le _ _ _) htl)).mono ?_; rintro e w5 ⟨rfl, hB5, hb5⟩; exact ⟨_, rfl, rfl, (hb5.block _ hk.lt).trans hk, hB5, h3.below hb5, h4.below hb5⟩
    simp only [Act.put, List.setIfInBounds_toArray, List.set_cons_zero, List.set_cons_succ]
    apply lexF rfl; (· intro _; go_simp; (try go_bits); exact ⟨rfl, rfl⟩); simp only [Act.put, List.setIfInBounds_toArray, List.set_cons_zero, List.set_cons_succ]
    apply lexF rfl; (· intro _; go_simp; (try go_bits); exact ⟨rfl, rfl⟩); simp only [Act.put, List.setIfInBounds_toArray, List.set_cons_zero, List.set_cons_succ]
    refine lexEnd (fun w5 hw5 => ?_)
    go_wp2
    go_ret
    exact ⟨rfl, hfin _ hw5.2.1⟩
  · have hl' : (80 : Int) < (ops.length : Int) := by omega
    clear HB
    go_enter Try.func8, Try.ntmps8
    go_upto_region 1 with (fail)
    obtain ⟨W1, hW1, hsz, kB, hWb⟩ := box_head pa pn w
    rw [← hW1]
    clear hW1
    go_upto_region 2 with (go_at_call 10; refine (awake_any _).mono ?_; rintro e w1 ⟨rfl, hb1⟩)
    go_wp2_with (go_at_call 10; refine (awake_any _).mono ?_; rintro e w2 ⟨rfl, hb2⟩)
    go_ret
    exact ⟨rfl, hWb.trans ((hb1.trans (hb2.mono hb1.size)).mono (by omega))⟩

set_option maxRecDepth 100000 in
set_option maxHeartbeats 2000000 in
theorem tlook_any (v : Value) (ops : List Op) (x : Nat) (pa : Nat) (pn : Int) (w : World) (hO : OpsV w v ops) (hw : ∀ o ∈ ops, W32 o.a) (hx : W32 x) (hpa : W32 pa) :
    Calls Try.prog 4 #[v, .int .u32 (x : Int), .agg #[.int .u32 (pa : Int), .int .i64 pn]] w fun e w' => e = .returned (.bool true) ∧ Below w.heap.size w w' := by
  obtain ⟨p, c, rfl⟩ := ops_len hO
  have HB := hid (fun w1 (h : OpsV w1 (.slice p ops.length c) ops) (h1 : ops.length ≤ 80) => build_any _ ops w1 h h1 hw)
  clear hw
  by_cases hl : ops.length ≤ 80
  · go_enter Try.func4, Try.ntmps4
    go_upto_region 1 with (fail)
    obtain ⟨W1, hW1, hsz, kB, hWb⟩ := box_head pa pn w
    have hO1 := hO.below hWb
    rw [← hW1]
    have hB1 : w.heap.size < W1.heap.size := by omega
    clear hW1 hsz hO
    go_upto_region 4 with (first
      | (go_at_call 10; refine (awake_any _).mono ?_; rintro e w1 ⟨rfl, hb1⟩)
      | (go_at_call 11; refine (HB.out _ (hO1.below hb1) hl).mono ?_; clear HB; rintro e w2 ⟨tb, t, u, rfl, hB, htl⟩))
    have hb2 := hb1.trans (hB.has.old.1.mono hb1.size)
    have kB2 := (hb2.block _ hB1).trans kB
    have hs2 : w.heap.size < w2.heap.size := Nat.lt_of_lt_of_le hB1 hb2.size
    have hfin := hWb.trans (hb2.mono (Nat.le_of_lt hB1))
    have hs0 := hfin.size
    have hfin2 : ∀ w', Both w1.heap.size w1 tb t u w' → Below w.heap.size w w' := fun w' h => hWb.trans ((hb1.trans (h.has.old.1.mono hb1.size)).mono (by omega))
    clear hb2 hb1 kB hO1 hfin hs0
    obtain ⟨⟨ba, bn, bv, bf⟩, hbest⟩ : ∃ b, bestL x t.list ⟨0, 0, 0, false⟩ = b := ⟨_, rfl⟩
    have HBE := hid hbest
    clear hbest
    have HT := hid (show t.list.length ≤ 80 from htl)
    -- the trie's Lookup; its route in a box
    go_upto_region 5 with (first
      | (go_at_call 17; refine (b_look hB x hx).mono ?_; rw [HBE.out]; rintro e w3 ⟨rfl, hB3, hb3⟩; simp only [lookV]))
    obtain ⟨W3, hW3⟩ : ∃ W3, W3 = w3.alloc (.cells #[.int .u32 (ba : Int), .int .i64 (bn : Int), .int .i64 bv] 37) := ⟨_, rfl⟩
    have hbW3 : Below w3.heap.size w3 W3 := by rw [hW3]; exact (Below.refl _ _).alloc (Nat.le_refl _) _
    have kX : Blk W3 w3.heap.size #[.int .u32 (ba : Int), .int .i64 (bn : Int), .int .i64 bv] 37 := by rw [hW3]; exact heap_alloc_at w3 _
    have kP : Blk W3 w.heap.size #[.int .u32 (pa : Int), .int .i64 pn] 35 := (hbW3.block _ (Nat.lt_of_lt_of_le hs2 hb3.size)).trans ((hb3.block _ hs2).trans kB2)
    have hBW3 := hB3.below hbW3
    obtain ⟨bx, hbx⟩ : ∃ bx, bx = w3.heap.size := ⟨_, rfl⟩
    rw [← hbx] at kX ⊢
    rw [← hW3]
    clear hW3 hbx hbW3 hB3 hb3 kB2 hs2 hB
    go_upto_region 6 with (first
      | (go_at_call 18; refine (b_rlook hBW3 HT.out x hx).mono ?_; rw [HBE.out]; rintro e w4 ⟨rfl, hB4, hb4⟩; simp only [lookV]))
    obtain ⟨W4, hW4⟩ : ∃ W4, W4 = w4.alloc (.cells #[.int .u32 (ba : Int), .int .i64 (bn : Int), .int .i64 bv] 37) := ⟨_, rfl⟩
    have hbW4 : Below w4.heap.size w4 W4 := by rw [hW4]; exact (Below.refl _ _).alloc (Nat.le_refl _) _
    have kY : Blk W4 w4.heap.size #[.int .u32 (ba : Int), .int .i64 (bn : Int), .int .i64 bv] 37 := by rw [hW4]; exact heap_alloc_at w4 _
    have kP4 : Blk W4 w.heap.size #[.int .u32 (pa : Int), .int .i64 pn] 35 := (hbW4.block _ (Nat.lt_of_lt_of_le kP.lt hb4.size)).trans ((hb4.block _ kP.lt).trans kP)
    have kX4 : Blk W4 bx #[.int .u32 (ba : Int), .int .i64 (bn : Int), .int .i64 bv] 37 := (hbW4.block _ (Nat.lt_of_lt_of_le kX.lt hb4.size)).trans ((hb4.block _ kX.lt).trans kX)
    have hBW4 := hB4.below hbW4
    obtain ⟨by', hby⟩ : ∃ by', by' = w4.heap.size := ⟨_, rfl⟩
    rw [← hby] at kY ⊢
    rw [← hW4]
    clear hW4 hby hbW4 hB4 hb4 kP kX hBW3
    obtain ⟨d0, d1⟩ := cell_of_pfx kP4
    obtain ⟨gv, hgv⟩ : ∃ gv, getL pa pn t.list = gv := ⟨_, rfl⟩
    have HG := hid hgv
    clear hgv
    cases gv with
    | none =>
      go_upto_region 8 with (first
        | (go_at_call 19; refine (b_get hBW4 pa pn hpa).mono ?_; rw [HG.out]; rintro e w5 ⟨rfl, hB5, hb5⟩; simp only [getV]; have kP5 : Blk w5 w.heap.size #[.int .u32 (pa : Int), .int .i64 pn] 35 := (hb5.block _ kP4.lt).trans kP4; clear d0 d1; obtain ⟨d0', d1'⟩ := cell_of_pfx kP5)
        | (go_at_call 20; refine (b_rget hB5 HT.out pa pn).mono ?_; rw [HG.out]; rintro e w6 ⟨rfl, hB6, hb6⟩; simp only [getV]))
      have kX6 : w6.heap[bx]? = _ := (hb6.block _ (Nat.lt_of_lt_of_le kX4.lt hb5.size)).trans ((hb5.block _ kX4.lt).trans kX4)
      have kY6 : w6.heap[by']? = _ := (hb6.block _ (Nat.lt_of_lt_of_le kY.lt hb5.size)).trans ((hb5.block _ kY.lt).trans kY)
      obtain ⟨x0, x1, x2⟩ := cell_of_box3 kX6
      obtain ⟨y0, y1, y2⟩ := cell_of_box3 kY6
      clear d0' d1'
      go_wp2
      go_ret
      exact ⟨rfl, hfin2 _ hB6⟩
    | some gv =>
      go_upto_region 8 with (first
        | (go_at_call 19; refine (b_get hBW4 pa pn hpa).mono ?_; rw [HG.out]; rintro e w5 ⟨rfl, hB5, hb5⟩; simp only [getV]; have kP5 : Blk w5 w.heap.size #[.int .u32 (pa : Int), .int .i64 pn] 35 := (hb5.block _ kP4.lt).trans kP4; clear d0 d1; obtain ⟨d0', d1'⟩ := cell_of_pfx kP5)
        | (go_at_call 20; refine (b_rget hB5 HT.out pa pn).mono ?_; rw [HG.out]; rintro e w6 ⟨rfl, hB6, hb6⟩; simp only [getV]))
      have kX6 : w6.heap[bx]? = _ := (hb6.block _ (Nat.lt_of_lt_of_le kX4.lt hb5.size)).trans ((hb5.block _ kX4.lt).trans kX4)
      have kY6 : w6.heap[by']? = _ := (hb6.block _ (Nat.lt_of_lt_of_le kY.lt hb5.size)).trans ((hb5.block _ kY.lt).trans kY)
      obtain ⟨x0, x1, x2⟩ := cell_of_box3 kX6
      obtain ⟨y0, y1, y2⟩ := cell_of_box3 kY6
      clear d0' d1'
      go_wp2
      go_ret
      exact ⟨rfl, hfin2 _ hB6⟩
  · have hl' : (80 : Int) < (ops.length : Int) := by omega
    clear HB
    go_enter Try.func4, Try.ntmps4
    go_upto_region 1 with (fail)
    obtain ⟨W1, hW1, hsz, kB, hWb⟩ := box_head pa pn w
    rw [← hW1]
    clear hW1
    go_upto_region 2 with (go_at_call 10; refine (awake_any _).mono ?_; rintro e w1 ⟨rfl, hb1⟩)
    go_wp2_with (go_at_call 10; refine (awake_any _).mono ?_; rintro e w2 ⟨rfl, hb2⟩)
    go_ret
    exact ⟨rfl, hWb.trans ((hb1.trans (hb2.mono hb1.size)).mono (by omega))⟩

end Go.Proofs.Ytklkldnpgecajaa
