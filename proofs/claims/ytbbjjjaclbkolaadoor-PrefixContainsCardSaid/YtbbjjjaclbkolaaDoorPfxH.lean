/- The laws of prefixes walked. -/
import Derived.Test.YtbbjjjaclbkolaaDoorPfxG
namespace Go.Proofs.YtbbjjjaclbkolaaDoor
open Go.RowKit
open Go.Lib (decDigits)

set_option maxRecDepth 100000 in
theorem prefixContains_walk  (a : Nat) (n : Int) (c : Nat) (m : Int) (x : Nat) (w : World)  (hB0 : Bas w) (ha : W32 a) (hc : W32 c) (hx : W32 x) :
    Calls Tryd.prog 7 #[.agg #[.int .u32 (a : Int), .int .i64 n], .agg #[.int .u32 (c : Int), .int .i64 m], .int .u32 (x : Int)] w fun e w' => e = .returned (.bool true) ∧ Below w.heap.size w w' := by
  have hK : KS w [] w := (KS.start w)
  refine Calls.hide (fun Q0 hQ0 => ?_)
  go_enter Tryd.func7, Tryd.ntmps7
  go_upto_region 0 with (fail)
  refine wp_region_tx w hK ?_
  clear hK
  apply txA (.cells #[.int .u32 (a : Int), .int .i64 n] 24) (wants0 rfl)
  · intro w' hK; go_simp; rfl
  intro R1 q_R1
  clear q_R1
  simp only [mkOf, Act.put, pA, pB, pC]
  apply txA (.cells #[.int .u32 (c : Int), .int .i64 m] 24) (wants0 rfl)
  · intro w' hK; go_simp; rfl
  intro R2 q_R2
  have o_R1_R2 : R1 < R2 := q_R2 _ _ _ m0
  clear q_R2
  simp only [mkOf, Act.put, pA, pB, pC]
  apply txF (wants0 rfl); (· intro w' hK; go_simp; (try go_bits); exact ⟨rfl, rfl⟩); simp only [Act.put, pA, pB, pC]
  refine txEnd (fun W3 hK => ?_)
  go_upto_region 1 with (fail)
  have hK0 := hK
  refine wp_region_float0 (w) _ _ [1, 0, 0, 0, 1, 0, 0, 1, 0, 0, 0, 0, 0, 1, 0, 0, 1, 0, 0, 0, 0, 0, 1, 0, 0, 1, 0, 0, 0] (by kernel_rfl) (by kernel_rfl) (by kernel_rfl) (by kernel_rfl) (KS.drew hK0) (KS.drew hK) ?_
  clear hK hK0
  apply lxH1 (v := .bool true) (wants0 rfl)
  · intro v1 hv1 w' h0 hK; go_simp; (try go_bits); refine (awake_any   w' (hB0.below hK.old) ).mono ?_; rintro e w5 ⟨rfl, hb⟩; obtain rfl := hv1.out; exact ⟨_, rfl, rfl, hb⟩
  simp only [Act.put, pA, pB, pC]
  apply lxF0 (wants0 rfl); (· intro w' h0; go_simp; (try go_bits); exact ⟨rfl, rfl⟩); simp only [Act.put, pA, pB, pC]
  apply lxF0 (wantsg (j := 1) (d := 8) (b := true) rfl rfl rfl rfl); (· intro w' h0; have k_R1 := (h0.get m1); have ⟨c_R1_0, c_R1_1⟩ := k_R1.c2; go_simp; (try go_bits); exact ⟨rfl, rfl⟩); simp only [Act.put, pA, pB, pC]
  apply lxF0 (wantsg (j := 1) (d := 8) (b := true) rfl rfl rfl rfl); (· intro w' h0; go_simp; (try go_bits); exact ⟨rfl, rfl⟩); simp only [Act.put, pA, pB, pC]
  obtain ⟨b1, hb1⟩ : ∃ b : Bool, RowKit.Hid ((cts a n x) = b) := ⟨_, hid rfl⟩
  apply lxH1 (v := .bool b1) (wantsg (j := 1) (d := 8) (b := true) rfl rfl rfl rfl)
  · intro v1 hv1 w' h0 hK; go_simp; (try go_bits); refine (contains_any a n x w' (by first | assumption | omega | exact W32.zero) (by first | assumption | omega | exact W32.zero)).mono ?_; rintro e w5 ⟨rfl, hb⟩; obtain rfl := hv1.out; exact ⟨_, rfl, (by rw [hb1.out]), hb⟩
  simp only [Act.put, pA, pB, pC]
  apply lxF0 (wantsg (j := 1) (d := 8) (b := true) rfl rfl rfl rfl); (· intro w' h0; have k_R1 := (h0.get m1); have ⟨c_R1_0, c_R1_1⟩ := k_R1.c2; go_simp; (try go_bits); exact ⟨rfl, rfl⟩); simp only [Act.put, pA, pB, pC]
  apply lxF0 (wantsg (j := 1) (d := 8) (b := true) rfl rfl rfl rfl); (· intro w' h0; go_simp; (try go_bits); exact ⟨rfl, rfl⟩); simp only [Act.put, pA, pB, pC]
  obtain ⟨b2, hb2⟩ : ∃ b : Bool, RowKit.Hid ((cts a n x) = b) := ⟨_, hid rfl⟩
  apply lxH1 (v := .bool b2) (wantsg (j := 1) (d := 8) (b := true) rfl rfl rfl rfl)
  · intro v1 hv1 w' h0 hK; go_simp; (try go_bits); refine (rcontains_any a n x w' (by first | assumption | omega | exact W32.zero) (by first | assumption | omega | exact W32.zero)).mono ?_; rintro e w5 ⟨rfl, hb⟩; obtain rfl := hv1.out; exact ⟨_, rfl, (by rw [hb2.out]), hb⟩
  simp only [Act.put, pA, pB, pC]
  apply lxF0 (v := .bool true) (wantsg (j := 1) (d := 8) (b := true) rfl rfl rfl rfl); (· intro w' h0; go_simp; (try go_bits); exact ⟨congrArg Value.bool (by rw [← hb1.out, ← hb2.out]; simp), rfl⟩); simp only [Act.put, pA, pB, pC]
  iterate 2 (apply lxF0 (wants0 rfl); (· intro w' h0; go_simp; (try go_bits); exact ⟨rfl, rfl⟩); simp only [Act.put, pA, pB, pC])
  apply lxF0 (wantsg (j := 10) (d := 17) (b := true) rfl rfl rfl rfl); (· intro w' h0; have k_R1 := (h0.get m1); have ⟨c_R1_0, c_R1_1⟩ := k_R1.c2; go_simp; (try go_bits); exact ⟨rfl, rfl⟩); simp only [Act.put, pA, pB, pC]
  apply lxF0 (wantsg (j := 10) (d := 17) (b := true) rfl rfl rfl rfl); (· intro w' h0; have k_R2 := (h0.get m0); have ⟨c_R2_0, c_R2_1⟩ := k_R2.c2; go_simp; (try go_bits); exact ⟨rfl, rfl⟩); simp only [Act.put, pA, pB, pC]
  obtain ⟨b3, hb3⟩ : ∃ b : Bool, RowKit.Hid ((cvr a n c m) = b) := ⟨_, hid rfl⟩
  apply lxH1 (v := .bool b3) (wantsg (j := 10) (d := 17) (b := true) rfl rfl rfl rfl)
  · intro v1 hv1 w' h0 hK; go_simp; (try go_bits); refine (covers_any a n c m w' (by first | assumption | omega | exact W32.zero) (by first | assumption | omega | exact W32.zero)).mono ?_; rintro e w5 ⟨rfl, hb⟩; obtain rfl := hv1.out; exact ⟨_, rfl, (by rw [hb3.out]), hb⟩
  simp only [Act.put, pA, pB, pC]
  apply lxF0 (wantsg (j := 10) (d := 17) (b := true) rfl rfl rfl rfl); (· intro w' h0; have k_R1 := (h0.get m1); have ⟨c_R1_0, c_R1_1⟩ := k_R1.c2; go_simp; (try go_bits); exact ⟨rfl, rfl⟩); simp only [Act.put, pA, pB, pC]
  apply lxF0 (wantsg (j := 10) (d := 17) (b := true) rfl rfl rfl rfl); (· intro w' h0; have k_R2 := (h0.get m0); have ⟨c_R2_0, c_R2_1⟩ := k_R2.c2; go_simp; (try go_bits); exact ⟨rfl, rfl⟩); simp only [Act.put, pA, pB, pC]
  obtain ⟨b4, hb4⟩ : ∃ b : Bool, RowKit.Hid ((cvr a n c m) = b) := ⟨_, hid rfl⟩
  apply lxH1 (v := .bool b4) (wantsg (j := 10) (d := 17) (b := true) rfl rfl rfl rfl)
  · intro v1 hv1 w' h0 hK; go_simp; (try go_bits); refine (rcovers_any a n c m w' (by first | assumption | omega | exact W32.zero) (by first | assumption | omega | exact W32.zero)).mono ?_; rintro e w5 ⟨rfl, hb⟩; obtain rfl := hv1.out; exact ⟨_, rfl, (by rw [hb4.out]), hb⟩
  simp only [Act.put, pA, pB, pC]
  apply lxF0 (v := .bool true) (wantsg (j := 10) (d := 17) (b := true) rfl rfl rfl rfl); (· intro w' h0; go_simp; (try go_bits); exact ⟨congrArg Value.bool (by rw [← hb3.out, ← hb4.out]; simp), rfl⟩); simp only [Act.put, pA, pB, pC]
  iterate 2 (apply lxF0 (wants0 rfl); (· intro w' h0; go_simp; (try go_bits); exact ⟨rfl, rfl⟩); simp only [Act.put, pA, pB, pC])
  apply lxF0 (wantsg (j := 19) (d := 26) (b := true) rfl rfl rfl rfl); (· intro w' h0; have k_R1 := (h0.get m1); have ⟨c_R1_0, c_R1_1⟩ := k_R1.c2; go_simp; (try go_bits); exact ⟨rfl, rfl⟩); simp only [Act.put, pA, pB, pC]
  apply lxF0 (wantsg (j := 19) (d := 26) (b := true) rfl rfl rfl rfl); (· intro w' h0; have k_R2 := (h0.get m0); have ⟨c_R2_0, c_R2_1⟩ := k_R2.c2; go_simp; (try go_bits); exact ⟨rfl, rfl⟩); simp only [Act.put, pA, pB, pC]
  obtain ⟨z1, hz1⟩ : ∃ b : Int, RowKit.Hid ((cmpI a n c m) = b) := ⟨_, hid rfl⟩
  apply lxH1 (v := .int .i64 z1) (wantsg (j := 19) (d := 26) (b := true) rfl rfl rfl rfl)
  · intro v1 hv1 w' h0 hK; go_simp; (try go_bits); refine (compare_any a n c m w' ).mono ?_; rintro e w5 ⟨rfl, hb⟩; obtain rfl := hv1.out; exact ⟨_, rfl, (by rw [hz1.out]), hb⟩
  simp only [Act.put, pA, pB, pC]
  apply lxF0 (wantsg (j := 19) (d := 26) (b := true) rfl rfl rfl rfl); (· intro w' h0; have k_R1 := (h0.get m1); have ⟨c_R1_0, c_R1_1⟩ := k_R1.c2; go_simp; (try go_bits); exact ⟨rfl, rfl⟩); simp only [Act.put, pA, pB, pC]
  apply lxF0 (wantsg (j := 19) (d := 26) (b := true) rfl rfl rfl rfl); (· intro w' h0; have k_R2 := (h0.get m0); have ⟨c_R2_0, c_R2_1⟩ := k_R2.c2; go_simp; (try go_bits); exact ⟨rfl, rfl⟩); simp only [Act.put, pA, pB, pC]
  obtain ⟨z2, hz2⟩ : ∃ b : Int, RowKit.Hid ((cmpI a n c m) = b) := ⟨_, hid rfl⟩
  apply lxH1 (v := .int .i64 z2) (wantsg (j := 19) (d := 26) (b := true) rfl rfl rfl rfl)
  · intro v1 hv1 w' h0 hK; go_simp; (try go_bits); refine (rcompare_any a n c m w' ).mono ?_; rintro e w5 ⟨rfl, hb⟩; obtain rfl := hv1.out; exact ⟨_, rfl, (by rw [hz2.out]), hb⟩
  simp only [Act.put, pA, pB, pC]
  apply lxF0 (v := .bool true) (wantsg (j := 19) (d := 26) (b := true) rfl rfl rfl rfl); (· intro w' h0; go_simp; (try go_bits); exact ⟨congrArg Value.bool (by rw [← hz1.out, ← hz2.out]; simp), rfl⟩); simp only [Act.put, pA, pB, pC]
  iterate 2 (apply lxF0 (wants0 rfl); (· intro w' h0; go_simp; (try go_bits); exact ⟨rfl, rfl⟩); simp only [Act.put, pA, pB, pC])
  refine lxEnd (fun W4 hK => ?_)
  go_wp2
  try go_ret
  show Q0 (.returned (.bool true)) _
  exact (by obtain rfl := hQ0.out; exact ⟨rfl, hK.old⟩)

set_option maxRecDepth 100000 in
theorem prefixParse_walk  (s : List UInt8) (w : World)  (hB0 : Bas w) (hs : s.length ≤ 9223372036854775807) :
    Calls Tryd.prog 4 #[.string ⟨s.toArray⟩] w fun e w' => e = .returned (.bool true) ∧ Below w.heap.size w w' := by
  have hK : KS w [] w := (KS.start w)
  refine Calls.hide (fun Q0 hQ0 => ?_)
  go_enter Tryd.func4, Tryd.ntmps4
  go_upto_region 1 with (fail)
  refine wp_region_tx w hK ?_
  clear hK
  apply txH (v := .bool true) (wants0 rfl)
  · intro v1 hv1 w' hK; go_simp; (try go_bits); refine (awake_any   w' (hB0.below hK.old) ).mono ?_; rintro e w5 ⟨rfl, hb⟩; obtain rfl := hv1.out; exact ⟨_, rfl, rfl, hb⟩
  simp only [Act.put, pA, pB, pC]
  iterate 2 (apply txF (wants0 rfl); (· intro w' hK; go_simp; (try go_bits); exact ⟨rfl, rfl⟩); simp only [Act.put, pA, pB, pC])
  iterate 2 (apply txF (wantsg (j := 2) (d := 9) (b := false) rfl rfl rfl rfl); (· intro w' hK; go_simp; (try go_bits); exact ⟨rfl, rfl⟩); simp only [Act.put, pA, pB, pC])
  obtain ⟨b1, hb1⟩ : ∃ b : Bool, RowKit.Hid (decide (100 < ((s.length : Int))) = b) := ⟨_, hid rfl⟩
  apply txB b1 (wantsg (j := 2) (d := 9) (b := false) rfl rfl rfl rfl); (· intro w' hK; go_simp; (try go_bits); exact ⟨by have q := hb1.out; subst q; first | rfl | simp, rfl⟩); simp only [Act.put, pA, pB, pC]
  apply txF (wants0 rfl); (· intro w' hK; go_simp; (try go_bits); exact ⟨rfl, rfl⟩); simp only [Act.put, pA, pB, pC]
  refine txEnd (fun W1 hK => ?_)
  cases b1
  · --
   have q_b1 : ((s.length : Int)) ≤ 100 := Int.not_lt.1 (of_decide_eq_false hb1.out)
   go_upto_region 3 with (fail)
   refine wp_region_tx w hK ?_
   clear hK
   apply txF (wants0 rfl); (· intro w' hK; go_simp; (try go_bits); exact ⟨rfl, rfl⟩); simp only [Act.put, pA, pB, pC]
   apply txH (v := .tuple #[.agg #[.int .u32 (prA s : Int), .int .i64 (prN s)], .int .i64 (prE s)]) (wants0 rfl)
   · intro v1 hv1 w' hK; go_simp; (try go_bits); refine (parse_any s w' (hB0.below hK.old) (by omega)).mono ?_; rintro e w5 ⟨rfl, hb⟩; obtain rfl := hv1.out; exact ⟨_, rfl, rfl, hb⟩
   simp only [Act.put, pA, pB, pC]
   iterate 3 (apply txF (wants0 rfl); (· intro w' hK; go_simp; (try go_bits); exact ⟨rfl, rfl⟩); simp only [Act.put, pA, pB, pC])
   apply txA (.cells #[.int .u32 0, .int .i64 0] 24) (wants0 rfl)
   · intro w' hK; go_simp; rfl
   intro R2 q_R2
   clear q_R2
   simp only [mkOf, Act.put, pA, pB, pC]
   apply txU 0 (Has w.heap.size R2 (.cells #[.int .u32 (prA s : Int), .int .i64 (prN s)] 24)) (wants0 rfl)
   · intro l1 hl1 w' hK; have k_R2 := (hK.get m0); have ⟨c_R2_0, c_R2_1⟩ := k_R2.c2; have f_R2 := k_R2.fz; go_simp; obtain rfl := hl1.out; exact ⟨rfl, ks_put (R := R2) hK k_R2.1 0 [.int .u32 (prA s : Int), .int .i64 (prN s)] (al1 (fun _ => has_put k_R2 _ _) aN)⟩
   simp only [Act.put, pB]
   apply txF (wants0 rfl); (· intro w' hK; go_simp; (try go_bits); exact ⟨rfl, rfl⟩); simp only [Act.put, pA, pB, pC]
   refine txEnd (fun W3 hK => ?_)
   go_upto_region 4 with (fail)
   refine wp_region_tx w hK ?_
   clear hK
   apply txF (wants0 rfl); (· intro w' hK; go_simp; (try go_bits); exact ⟨rfl, rfl⟩); simp only [Act.put, pA, pB, pC]
   apply txH (v := .tuple #[.agg #[.int .u32 (prA s : Int), .int .i64 (prN s)], .int .i64 (prE s)]) (wants0 rfl)
   · intro v1 hv1 w' hK; go_simp; (try go_bits); refine (rparse_any s w' (by omega)).mono ?_; rintro e w5 ⟨rfl, hb⟩; obtain rfl := hv1.out; exact ⟨_, rfl, rfl, hb⟩
   simp only [Act.put, pA, pB, pC]
   iterate 3 (apply txF (wants0 rfl); (· intro w' hK; go_simp; (try go_bits); exact ⟨rfl, rfl⟩); simp only [Act.put, pA, pB, pC])
   apply txA (.cells #[.int .u32 0, .int .i64 0] 24) (wants0 rfl)
   · intro w' hK; go_simp; rfl
   intro R4 q_R4
   have o_R2_R4 : R2 < R4 := q_R4 _ _ _ m0
   clear q_R4
   simp only [mkOf, Act.put, pA, pB, pC]
   apply txU 0 (Has w.heap.size R4 (.cells #[.int .u32 (prA s : Int), .int .i64 (prN s)] 24)) (wants0 rfl)
   · intro l1 hl1 w' hK; have k_R4 := (hK.get m0); have ⟨c_R4_0, c_R4_1⟩ := k_R4.c2; have f_R4 := k_R4.fz; go_simp; obtain rfl := hl1.out; exact ⟨rfl, ks_put (R := R4) hK k_R4.1 0 [.int .u32 (prA s : Int), .int .i64 (prN s)] (al1 (fun _ => has_put k_R4 _ _) (al1 (spL o_R2_R4 (hK.get m1)) aN))⟩
   simp only [Act.put, pB]
   apply txF (wants0 rfl); (· intro w' hK; go_simp; (try go_bits); exact ⟨rfl, rfl⟩); simp only [Act.put, pA, pB, pC]
   refine txEnd (fun W5 hK => ?_)
   go_upto_region 5 with (fail)
   refine wp_region_tx w hK ?_
   clear hK
   apply txF (wants0 rfl); (· intro w' hK; have k_R2 := (hK.get m1); have ⟨c_R2_0, c_R2_1⟩ := k_R2.c2; go_simp; (try go_bits); exact ⟨rfl, rfl⟩); simp only [Act.put, pA, pB, pC]
   apply txF (wants0 rfl); (· intro w' hK; have k_R4 := (hK.get m0); have ⟨c_R4_0, c_R4_1⟩ := k_R4.c2; go_simp; (try go_bits); exact ⟨rfl, rfl⟩); simp only [Act.put, pA, pB, pC]
   apply txF (v := .bool true) (wants0 rfl); (· intro w' hK; go_simp; (try go_bits); first | exact ⟨rfl, rfl⟩ | exact ⟨congrArg Value.bool (by simp), rfl⟩); simp only [Act.put, pA, pB, pC]
   apply txF (wants0 rfl); (· intro w' hK; go_simp; (try go_bits); exact ⟨rfl, rfl⟩); simp only [Act.put, pA, pB, pC]
   iterate 2 (apply txF (wantsg (j := 3) (d := 28) (b := true) rfl rfl rfl rfl); (· intro w' hK; go_simp; (try go_bits); exact ⟨rfl, rfl⟩); simp only [Act.put, pA, pB, pC])
   apply txF (v := .bool true) (wantsg (j := 3) (d := 28) (b := true) rfl rfl rfl rfl); (· intro w' hK; go_simp; (try go_bits); first | exact ⟨rfl, rfl⟩ | exact ⟨congrArg Value.bool (by simp), rfl⟩); simp only [Act.put, pA, pB, pC]
   iterate 2 (apply txF (wants0 rfl); (· intro w' hK; go_simp; (try go_bits); exact ⟨rfl, rfl⟩); simp only [Act.put, pA, pB, pC])
   refine txEnd (fun W6 hK => ?_)
   go_wp2
   try go_ret
   show Q0 (.returned (.bool true)) _
   exact (by obtain rfl := hQ0.out; exact ⟨rfl, hK.old⟩)
  · --
   have q_b1 : 100 < ((s.length : Int)) := of_decide_eq_true hb1.out
   go_upto_region 2 with (fail)
   refine wp_region_tx w hK ?_
   clear hK
   apply txH (v := .bool true) (wants0 rfl)
   · intro v1 hv1 w' hK; go_simp; (try go_bits); refine (awake_any   w' (hB0.below hK.old) ).mono ?_; rintro e w5 ⟨rfl, hb⟩; obtain rfl := hv1.out; exact ⟨_, rfl, rfl, hb⟩
   simp only [Act.put, pA, pB, pC]
   apply txF (wants0 rfl); (· intro w' hK; go_simp; (try go_bits); exact ⟨rfl, rfl⟩); simp only [Act.put, pA, pB, pC]
   refine txEnd (fun W7 hK => ?_)
   go_wp2
   try go_ret
   show Q0 (.returned (.bool true)) _
   exact (by obtain rfl := hQ0.out; exact ⟨rfl, hK.old⟩)
end Go.Proofs.YtbbjjjaclbkolaaDoor
