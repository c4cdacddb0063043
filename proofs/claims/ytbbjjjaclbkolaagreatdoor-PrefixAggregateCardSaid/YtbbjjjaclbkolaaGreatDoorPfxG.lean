/- The examples of the document. -/
import Derived.Test.YtbbjjjaclbkolaaGreatDoorPfxF
namespace Go.Proofs.YtbbjjjaclbkolaaGreatDoor
open Go.RowKit
open Go.Lib (decDigits)
theorem parse_text {a : Nat} {n : Int} (l : List UInt8) (w : World) (hB : Bas w) (ha : W32 a) (hv : vld a n = true) (hl : textP a n = l) :
    Calls Tryz.prog 9 #[.string ⟨l.toArray⟩] w fun e w' => e = .returned (.tuple #[.agg #[.int .u32 (a : Int), .int .i64 n], .int .i64 0]) ∧ Below w.heap.size w w' := by
  have h := pr_ok (s := l) ⟨ha, hv, hl⟩
  have hlen := text_len a n
  rw [hl] at hlen
  refine (parse_any l w hB (by omega)).mono ?_
  rintro e w' ⟨rfl, hb⟩
  exact ⟨by rw [h.1, h.2.1, h.2.2], hb⟩
theorem w32 {a : Nat} (h : a < 4294967296) : W32 a := h
theorem lit_a : textP 167837696 16 = [49, 48, 46, 49, 46, 48, 46, 48, 47, 49, 54] := by decide +kernel
theorem lit_b : textP 167838208 24 = [49, 48, 46, 49, 46, 50, 46, 48, 47, 50, 52] := by decide +kernel
theorem lit_v : vld 167837696 16 = true ∧ vld 167838208 24 = true ∧ vld 167772160 8 = true := by decide +kernel
theorem lit_s : slL 167772160 8 = 167772160 ∧ slM 167772160 8 = 9 ∧ slH 167772160 8 = 176160768 ∧ slE 167772160 8 = 0 := by decide +kernel
theorem lit_c : cvr 167837696 16 167838208 24 = true ∧ cvr 167838208 24 167837696 16 = false := by decide +kernel
theorem split_lit (w : World) : Calls Tryz.prog 10 #[.agg #[.int .u32 167772160, .int .i64 8]] w fun e w' => e = .returned (.tuple #[.agg #[.int .u32 167772160, .int .i64 9], .agg #[.int .u32 176160768, .int .i64 9], .int .i64 0]) ∧ Below w.heap.size w w' := by
  have h := split_any 167772160 8 w (w32 (by decide))
  rw [lit_s.1, lit_s.2.1, lit_s.2.2.1, lit_s.2.2.2] at h
  exact h
theorem covers_ab (w : World) : Calls Tryz.prog 11 #[.agg #[.int .u32 167837696, .int .i64 16], .agg #[.int .u32 167838208, .int .i64 24]] w fun e w' => e = .returned (.bool true) ∧ Below w.heap.size w w' := by
  have h := covers_any 167837696 16 167838208 24 w (w32 (by decide)) (w32 (by decide))
  rw [lit_c.1] at h
  exact h
theorem covers_ba (w : World) : Calls Tryz.prog 11 #[.agg #[.int .u32 167838208, .int .i64 24], .agg #[.int .u32 167837696, .int .i64 16]] w fun e w' => e = .returned (.bool false) ∧ Below w.heap.size w w' := by
  have h := covers_any 167838208 24 167837696 16 w (w32 (by decide)) (w32 (by decide))
  rw [lit_c.2] at h
  exact h
theorem text_lit (w : World) (hB : Bas w) : Calls Tryz.prog 12 #[.agg #[.int .u32 167837696, .int .i64 16]] w fun e w' => e = .returned (.string ⟨#[49, 48, 46, 49, 46, 48, 46, 48, 47, 49, 54]⟩) ∧ Below w.heap.size w w' := by
  have h := text_any 167837696 16 w hB (w32 (by decide))
  rw [lit_a] at h
  exact h
set_option maxRecDepth 100000 in
theorem awake_any   (w : World)  (hB0 : Bas w)  :
    Calls Tryz.prog 4 #[] w fun e w' => e = .returned (.bool true) ∧ Below w.heap.size w w' := by
  have hK : KS w [] w := (KS.start w)
  refine Calls.hide (fun Q0 hQ0 => ?_)
  go_enter Tryz.func4, Tryz.ntmps4
  go_upto_region 1 with (fail)
  refine wp_region_tx w hK ?_
  clear hK
  apply txH (v := .tuple #[.agg #[.int .u32 167837696, .int .i64 16], .int .i64 0]) (wants0 rfl)
  · intro v1 hv1 w' hK; go_simp; (try go_bits); refine (parse_text (a := 167837696) (n := 16) _ w' (hB0.below hK.old) (w32 (by decide)) lit_v.1 lit_a).mono ?_; rintro e w5 ⟨rfl, hb⟩; obtain rfl := hv1.out; exact ⟨_, rfl, rfl, hb⟩
  simp only [Act.put, pA, pB, pC]
  iterate 3 (apply txF (wants0 rfl); (· intro w' hK; go_simp; (try go_bits); exact ⟨rfl, rfl⟩); simp only [Act.put, pA, pB, pC])
  apply txA (.cells #[.int .u32 0, .int .i64 0] 31) (wants0 rfl)
  · intro w' hK; go_simp; rfl
  intro R1 q_R1
  clear q_R1
  simp only [mkOf, Act.put, pA, pB, pC]
  apply txU 0 (Has w.heap.size R1 (.cells #[.int .u32 167837696, .int .i64 16] 31)) (wants0 rfl)
  · intro l1 hl1 w' hK; have k_R1 := (hK.get m0); have ⟨c_R1_0, c_R1_1⟩ := k_R1.c2; have f_R1 := k_R1.fz; go_simp; obtain rfl := hl1.out; exact ⟨rfl, ks_put (R := R1) hK k_R1.1 0 [.int .u32 167837696, .int .i64 16] (al1 (fun _ => has_put k_R1 _ _) aN)⟩
  simp only [Act.put, pB]
  apply txF (wants0 rfl); (· intro w' hK; go_simp; (try go_bits); exact ⟨rfl, rfl⟩); simp only [Act.put, pA, pB, pC]
  refine txEnd (fun W2 hK => ?_)
  go_upto_region 2 with (fail)
  refine wp_region_tx w hK ?_
  clear hK
  apply txH (v := .tuple #[.agg #[.int .u32 167838208, .int .i64 24], .int .i64 0]) (wants0 rfl)
  · intro v1 hv1 w' hK; go_simp; (try go_bits); refine (parse_text (a := 167838208) (n := 24) _ w' (hB0.below hK.old) (w32 (by decide)) lit_v.2.1 lit_b).mono ?_; rintro e w5 ⟨rfl, hb⟩; obtain rfl := hv1.out; exact ⟨_, rfl, rfl, hb⟩
  simp only [Act.put, pA, pB, pC]
  iterate 3 (apply txF (wants0 rfl); (· intro w' hK; go_simp; (try go_bits); exact ⟨rfl, rfl⟩); simp only [Act.put, pA, pB, pC])
  apply txA (.cells #[.int .u32 0, .int .i64 0] 31) (wants0 rfl)
  · intro w' hK; go_simp; rfl
  intro R3 q_R3
  have o_R1_R3 : R1 < R3 := q_R3 _ _ _ m0
  clear q_R3
  simp only [mkOf, Act.put, pA, pB, pC]
  apply txU 0 (Has w.heap.size R3 (.cells #[.int .u32 167838208, .int .i64 24] 31)) (wants0 rfl)
  · intro l1 hl1 w' hK; have k_R3 := (hK.get m0); have ⟨c_R3_0, c_R3_1⟩ := k_R3.c2; have f_R3 := k_R3.fz; go_simp; obtain rfl := hl1.out; exact ⟨rfl, ks_put (R := R3) hK k_R3.1 0 [.int .u32 167838208, .int .i64 24] (al1 (fun _ => has_put k_R3 _ _) (al1 (spL o_R1_R3 (hK.get m1)) aN))⟩
  simp only [Act.put, pB]
  apply txF (wants0 rfl); (· intro w' hK; go_simp; (try go_bits); exact ⟨rfl, rfl⟩); simp only [Act.put, pA, pB, pC]
  refine txEnd (fun W4 hK => ?_)
  go_upto_region 3 with (fail)
  refine wp_region_tx w hK ?_
  clear hK
  apply txF (wants0 rfl); (· intro w' hK; go_simp; (try go_bits); exact ⟨rfl, rfl⟩); simp only [Act.put, pA, pB, pC]
  apply txH (v := .tuple #[.agg #[.int .u32 167772160, .int .i64 9], .agg #[.int .u32 176160768, .int .i64 9], .int .i64 0]) (wants0 rfl)
  · intro v1 hv1 w' hK; go_simp; (try go_bits); refine (split_lit w').mono ?_; rintro e w5 ⟨rfl, hb⟩; obtain rfl := hv1.out; exact ⟨_, rfl, rfl, hb⟩
  simp only [Act.put, pA, pB, pC]
  iterate 4 (apply txF (wants0 rfl); (· intro w' hK; go_simp; (try go_bits); exact ⟨rfl, rfl⟩); simp only [Act.put, pA, pB, pC])
  apply txA (.cells #[.int .u32 0, .int .i64 0] 31) (wants0 rfl)
  · intro w' hK; go_simp; rfl
  intro R5 q_R5
  have o_R1_R5 : R1 < R5 := q_R5 _ _ _ m1
  have o_R3_R5 : R3 < R5 := q_R5 _ _ _ m0
  clear q_R5
  simp only [mkOf, Act.put, pA, pB, pC]
  apply txA (.cells #[.int .u32 0, .int .i64 0] 31) (wants0 rfl)
  · intro w' hK; go_simp; rfl
  intro R6 q_R6
  have o_R1_R6 : R1 < R6 := q_R6 _ _ _ m2
  have o_R3_R6 : R3 < R6 := q_R6 _ _ _ m1
  have o_R5_R6 : R5 < R6 := q_R6 _ _ _ m0
  clear q_R6
  simp only [mkOf, Act.put, pA, pB, pC]
  apply txU 1 (Has w.heap.size R5 (.cells #[.int .u32 167772160, .int .i64 9] 31)) (wants0 rfl)
  · intro l1 hl1 w' hK; have k_R5 := (hK.get m1); have ⟨c_R5_0, c_R5_1⟩ := k_R5.c2; have f_R5 := k_R5.fz; go_simp; obtain rfl := hl1.out; exact ⟨rfl, ks_put (R := R5) hK k_R5.1 0 [.int .u32 167772160, .int .i64 9] (al1 (spG o_R5_R6 (hK.get m0)) (al1 (fun _ => has_put k_R5 _ _) (al1 (spL o_R3_R5 (hK.get m2)) (al1 (spL o_R1_R5 (hK.get m3)) aN))))⟩
  simp only [Act.put, pB, pC]
  apply txU 0 (Has w.heap.size R6 (.cells #[.int .u32 176160768, .int .i64 9] 31)) (wants0 rfl)
  · intro l1 hl1 w' hK; have k_R6 := (hK.get m0); have ⟨c_R6_0, c_R6_1⟩ := k_R6.c2; have f_R6 := k_R6.fz; go_simp; obtain rfl := hl1.out; exact ⟨rfl, ks_put (R := R6) hK k_R6.1 0 [.int .u32 176160768, .int .i64 9] (al1 (fun _ => has_put k_R6 _ _) (al1 (spL o_R5_R6 (hK.get m1)) (al1 (spL o_R3_R6 (hK.get m2)) (al1 (spL o_R1_R6 (hK.get m3)) aN))))⟩
  simp only [Act.put, pB]
  apply txF (wants0 rfl); (· intro w' hK; go_simp; (try go_bits); exact ⟨rfl, rfl⟩); simp only [Act.put, pA, pB, pC]
  refine txEnd (fun W7 hK => ?_)
  go_upto_region 4 with (fail)
  refine wp_region_tx w hK ?_
  clear hK
  iterate 3 (apply txF (wants0 rfl); (· intro w' hK; go_simp; (try go_bits); exact ⟨rfl, rfl⟩); simp only [Act.put, pA, pB, pC])
  iterate 2 (apply txF (wantsg (j := 2) (d := 24) (b := true) rfl rfl rfl rfl); (· intro w' hK; go_simp; (try go_bits); exact ⟨rfl, rfl⟩); simp only [Act.put, pA, pB, pC])
  iterate 2 (apply txF (wants0 rfl); (· intro w' hK; go_simp; (try go_bits); exact ⟨rfl, rfl⟩); simp only [Act.put, pA, pB, pC])
  iterate 2 (apply txF (wantsg (j := 6) (d := 28) (b := true) rfl rfl rfl rfl); (· intro w' hK; go_simp; (try go_bits); exact ⟨rfl, rfl⟩); simp only [Act.put, pA, pB, pC])
  iterate 2 (apply txF (wants0 rfl); (· intro w' hK; go_simp; (try go_bits); exact ⟨rfl, rfl⟩); simp only [Act.put, pA, pB, pC])
  apply txF (wantsg (j := 10) (d := 32) (b := true) rfl rfl rfl rfl); (· intro w' hK; have k_R1 := (hK.get m3); have ⟨c_R1_0, c_R1_1⟩ := k_R1.c2; go_simp; (try go_bits); exact ⟨rfl, rfl⟩); simp only [Act.put, pA, pB, pC]
  apply txF (wantsg (j := 10) (d := 32) (b := true) rfl rfl rfl rfl); (· intro w' hK; have k_R3 := (hK.get m2); have ⟨c_R3_0, c_R3_1⟩ := k_R3.c2; go_simp; (try go_bits); exact ⟨rfl, rfl⟩); simp only [Act.put, pA, pB, pC]
  apply txH (v := .bool true) (wantsg (j := 10) (d := 32) (b := true) rfl rfl rfl rfl)
  · intro v1 hv1 w' hK; go_simp; (try go_bits); refine (covers_ab w').mono ?_; rintro e w5 ⟨rfl, hb⟩; obtain rfl := hv1.out; exact ⟨_, rfl, rfl, hb⟩
  simp only [Act.put, pA, pB, pC]
  iterate 2 (apply txF (wants0 rfl); (· intro w' hK; go_simp; (try go_bits); exact ⟨rfl, rfl⟩); simp only [Act.put, pA, pB, pC])
  apply txF (wantsg (j := 15) (d := 37) (b := true) rfl rfl rfl rfl); (· intro w' hK; have k_R3 := (hK.get m2); have ⟨c_R3_0, c_R3_1⟩ := k_R3.c2; go_simp; (try go_bits); exact ⟨rfl, rfl⟩); simp only [Act.put, pA, pB, pC]
  apply txF (wantsg (j := 15) (d := 37) (b := true) rfl rfl rfl rfl); (· intro w' hK; have k_R1 := (hK.get m3); have ⟨c_R1_0, c_R1_1⟩ := k_R1.c2; go_simp; (try go_bits); exact ⟨rfl, rfl⟩); simp only [Act.put, pA, pB, pC]
  apply txH (v := .bool false) (wantsg (j := 15) (d := 37) (b := true) rfl rfl rfl rfl)
  · intro v1 hv1 w' hK; go_simp; (try go_bits); refine (covers_ba w').mono ?_; rintro e w5 ⟨rfl, hb⟩; obtain rfl := hv1.out; exact ⟨_, rfl, rfl, hb⟩
  simp only [Act.put, pA, pB, pC]
  apply txF (wantsg (j := 15) (d := 37) (b := true) rfl rfl rfl rfl); (· intro w' hK; go_simp; (try go_bits); exact ⟨rfl, rfl⟩); simp only [Act.put, pA, pB, pC]
  iterate 2 (apply txF (wants0 rfl); (· intro w' hK; go_simp; (try go_bits); exact ⟨rfl, rfl⟩); simp only [Act.put, pA, pB, pC])
  apply txF (wantsg (j := 21) (d := 43) (b := true) rfl rfl rfl rfl); (· intro w' hK; have k_R5 := (hK.get m1); have ⟨c_R5_0, c_R5_1⟩ := k_R5.c2; go_simp; (try go_bits); exact ⟨rfl, rfl⟩); simp only [Act.put, pA, pB, pC]
  apply txF (wantsg (j := 21) (d := 43) (b := true) rfl rfl rfl rfl); (· intro w' hK; go_simp; (try go_bits); exact ⟨rfl, rfl⟩); simp only [Act.put, pA, pB, pC]
  apply txF (v := .bool true) (wantsg (j := 21) (d := 43) (b := true) rfl rfl rfl rfl); (· intro w' hK; go_simp; (try go_bits); exact ⟨rfl, rfl⟩); simp only [Act.put, pA, pB, pC]
  iterate 2 (apply txF (wants0 rfl); (· intro w' hK; go_simp; (try go_bits); exact ⟨rfl, rfl⟩); simp only [Act.put, pA, pB, pC])
  apply txF (wantsg (j := 26) (d := 48) (b := true) rfl rfl rfl rfl); (· intro w' hK; have k_R6 := (hK.get m0); have ⟨c_R6_0, c_R6_1⟩ := k_R6.c2; go_simp; (try go_bits); exact ⟨rfl, rfl⟩); simp only [Act.put, pA, pB, pC]
  apply txF (wantsg (j := 26) (d := 48) (b := true) rfl rfl rfl rfl); (· intro w' hK; go_simp; (try go_bits); exact ⟨rfl, rfl⟩); simp only [Act.put, pA, pB, pC]
  apply txF (v := .bool true) (wantsg (j := 26) (d := 48) (b := true) rfl rfl rfl rfl); (· intro w' hK; go_simp; (try go_bits); exact ⟨rfl, rfl⟩); simp only [Act.put, pA, pB, pC]
  iterate 2 (apply txF (wants0 rfl); (· intro w' hK; go_simp; (try go_bits); exact ⟨rfl, rfl⟩); simp only [Act.put, pA, pB, pC])
  apply txF (wantsg (j := 31) (d := 53) (b := true) rfl rfl rfl rfl); (· intro w' hK; have k_R1 := (hK.get m3); have ⟨c_R1_0, c_R1_1⟩ := k_R1.c2; go_simp; (try go_bits); exact ⟨rfl, rfl⟩); simp only [Act.put, pA, pB, pC]
  apply txH (v := .string ⟨#[49, 48, 46, 49, 46, 48, 46, 48, 47, 49, 54]⟩) (wantsg (j := 31) (d := 53) (b := true) rfl rfl rfl rfl)
  · intro v1 hv1 w' hK; go_simp; (try go_bits); refine (text_lit w' (hB0.below hK.old)).mono ?_; rintro e w5 ⟨rfl, hb⟩; obtain rfl := hv1.out; exact ⟨_, rfl, rfl, hb⟩
  simp only [Act.put, pA, pB, pC]
  apply txF (v := .bool true) (wantsg (j := 31) (d := 53) (b := true) rfl rfl rfl rfl); (· intro w' hK; go_simp; (try go_bits); exact ⟨rfl, rfl⟩); simp only [Act.put, pA, pB, pC]
  apply txF (wants0 rfl); (· intro w' hK; go_simp; (try go_bits); exact ⟨rfl, rfl⟩); simp only [Act.put, pA, pB, pC]
  apply txF (wants0 rfl); (· intro w' hK; go_simp; (try go_bits); exact ⟨rfl, rfl⟩); simp only [Act.put, pA, pB]
  refine txEnd (fun W8 hK => ?_)
  go_wp2
  try go_ret
  show Q0 (.returned (.bool true)) _
  exact (by obtain rfl := hQ0.out; exact ⟨rfl, hK.old⟩)
end Go.Proofs.YtbbjjjaclbkolaaGreatDoor
