/- The laws RationalText and RationalOf walked. -/
import Derived.Test.YtiilkcdefpmimaaGreatDoorRatL0
namespace Go.Proofs.YtiilkcdefpmimaaGreatDoor
open Go.RowKit
open Go.Lib (decDigits)
def toU (d : Int) : Nat := (d % 18446744073709551616).toNat
theorem toU_lt (d : Int) : toU d < 18446744073709551616 := by unfold toU; omega
theorem wrapU (d : Int) : IntKind.u64.wrap d = (toU d : Int) := by
  unfold toU
  simp only [IntKind.wrap, IntKind.bits, IntKind.signed, Bool.false_and, Bool.false_eq_true, if_false]
  omega
theorem sg_d0 {n d z : Int} (hz : sgQ (((n : Int) : Rat) / ((d : Int) : Rat)) = z) (h : (d == 0) = true) : (z == 0) = true := by
  have e : d = 0 := by simpa using h
  subst e
  rw [← hz, show ((((0 : Int)) : Rat)) = 0 from rfl, sgQ_zero.2 (div_zero' _)]
  rfl
set_option maxRecDepth 100000 in
theorem rationalOf_walk  (n : Int) (d : Int) (w : World)  (hB0 : Bas w) (n0 : -9223372036854775808 ≤ n) (n1 : n ≤ 9223372036854775807) (d0 : -9223372036854775808 ≤ d) (d1 : d ≤ 9223372036854775807) :
    Calls Tryz.prog 5 #[.int .i64 n, .int .i64 d] w fun e w' => e = .returned (.bool true) ∧ Below w.heap.size w w' := by
  have hK : KS w [] w := (KS.start w)
  have e1 : (digs B32 (toU d)).length ≤ 2 := digs_len_le b32_2 2 _ (toU_lt d)
  have e2 : (digs B32 0).length ≤ 0 := by rw [digs_zero]; exact Nat.le_refl _
  have e3 := toU_lt d
  refine Calls.hide (fun Q0 hQ0 => ?_)
  go_enter Tryz.func5, Tryz.ntmps5
  go_upto_region 1 with (fail)
  refine wp_region_tx w hK ?_
  clear hK
  apply txH (v := .bool true) (wants0 rfl)
  · intro v1 hv1 w' hK; go_simp; (try go_bits); refine (awake_q   w' (hB0.below hK.old) ).mono ?_; rintro e w5 ⟨rfl, hb⟩; obtain rfl := hv1.out; exact ⟨_, rfl, rfl, hb⟩
  simp only [Act.put, pA, pB, pC]
  apply txF (wants0 rfl); (· intro w' hK; go_simp; (try go_bits); exact ⟨rfl, rfl⟩); simp only [Act.put, pA, pB, pC]
  refine txEnd (fun W1 hK => ?_)
  go_upto_region 3 with (fail)
  refine wp_region_tx w hK ?_
  clear hK
  iterate 2 (apply txF (wants0 rfl); (· intro w' hK; go_simp; (try go_bits); exact ⟨rfl, rfl⟩); simp only [Act.put, pA, pB, pC])
  obtain ⟨z1, hz1⟩ : ∃ b : Int, RowKit.Hid ((if d = 0 then 10 else 0) = b) := ⟨_, hid rfl⟩
  apply txE (α := Duo Sl Sl) (fun sv => .tuple #[.agg #[.bool (isN (((n : Int) : Rat) / ((d : Int) : Rat))), .slice sv.a.p sv.a.l sv.a.c, .slice sv.b.p sv.b.l sv.b.c], .int .i64 z1]) (fun sv => [fun w => RatV w (.agg #[.bool (isN (((n : Int) : Rat) / ((d : Int) : Rat))), .slice sv.a.p sv.a.l sv.a.c, .slice sv.b.p sv.b.l sv.b.c]) (((n : Int) : Rat) / ((d : Int) : Rat)), fun w => NatV w (.agg #[.slice sv.a.p sv.a.l sv.a.c]) ((((n : Int) : Rat) / ((d : Int) : Rat)).num.natAbs), fun w => NatV w (.agg #[.slice sv.b.p sv.b.l sv.b.c]) (den0 (((n : Int) : Rat) / ((d : Int) : Rat)))]) (wants0 rfl)
  · intro f1 l1 hl1 w' hK; go_simp; (try go_bits); refine (qof_any  n d w'  n0 n1 d0 d1).mono ?_; rintro e w5 ⟨y0, rfl, u0, hb⟩; obtain ⟨rfl, rfl⟩ := hl1.out; have u0_0 := u0; obtain ⟨p_u0, l_u0, c_u0, q_u0, m_u0, d_u0, rfl, u0_1, u0_2⟩ := u0; exact ⟨_, rfl, (⟨⟨p_u0, l_u0, c_u0⟩, ⟨q_u0, m_u0, d_u0⟩⟩ : Duo Sl Sl), (by rw [hz1.out]), hb, .cons (fun w2 h2 => u0_0.below h2) (.cons (fun w2 h2 => u0_1.below h2) (.cons (fun w2 h2 => u0_2.below h2) (Lasts.nil _)))⟩
  intro sv2
  simp only [Act.put, pA, pB, pC, pD, pE]
  iterate 3 (apply txF (wants0 rfl); (· intro w' hK; go_simp; (try go_bits); exact ⟨rfl, rfl⟩); simp only [Act.put, pA, pB, pC])
  apply txA (.cells #[.bool false, .slice none 0 0, .slice none 0 0] 29) (wants0 rfl)
  · intro w' hK; go_simp; rfl
  intro R3 q_R3
  clear q_R3
  simp only [mkOf, Act.put, pA, pB, pC]
  apply txU 0 (Has w.heap.size R3 (.cells #[.bool (isN (((n : Int) : Rat) / ((d : Int) : Rat))), .slice sv2.a.p sv2.a.l sv2.a.c, .slice sv2.b.p sv2.b.l sv2.b.c] 29)) (wants0 rfl)
  · intro l1 hl1 w' hK; have k_R3 := (hK.get m0); have ⟨c_R3_0, c_R3_1, c_R3_2⟩ := k_R3.c3; have f_R3 := k_R3.fz; have ni := noInt_of k_R3 nofun; go_simp; obtain rfl := hl1.out; exact ⟨rfl, ks_put (R := R3) hK k_R3.1 0 [.bool (isN (((n : Int) : Rat) / ((d : Int) : Rat))), .slice sv2.a.p sv2.a.l sv2.a.c, .slice sv2.b.p sv2.b.l sv2.b.c] (al1 (fun _ => has_put k_R3 _ _) (al1 (spQ ni (hK.get m1)) (al1 (spN ni (hK.get m2)) (al1 (spN ni (hK.get m3)) aN))))⟩
  simp only [Act.put, pB]
  apply txF (wants0 rfl); (· intro w' hK; go_simp; (try go_bits); exact ⟨rfl, rfl⟩); simp only [Act.put, pA, pB, pC]
  refine txEnd (fun W4 hK => ?_)
  go_upto_region 4 with (fail)
  refine wp_region_tx w hK ?_
  clear hK
  apply txF (wants0 rfl); (· intro w' hK; go_simp; (try go_bits); exact ⟨rfl, rfl⟩); simp only [Act.put, pA, pB, pC]
  obtain ⟨b1, hb1⟩ : ∃ b : Bool, RowKit.Hid (decide (n < 0) = b) := ⟨_, hid rfl⟩
  apply txB b1 (wants0 rfl); (· intro w' hK; go_simp; (try go_bits); exact ⟨by have q := hb1.out; subst q; first | rfl | simp, rfl⟩); simp only [Act.put, pA, pB, pC]
  apply txF (wants0 rfl); (· intro w' hK; go_simp; (try go_bits); exact ⟨rfl, rfl⟩); simp only [Act.put, pA, pB, pC]
  apply txF (v := .int .u64 (toU d : Int)) (wants0 rfl); (· intro w' hK; go_simp; (try go_bits); exact ⟨congrArg _ (wrapU d), rfl⟩); simp only [Act.put, pA, pB, pC]
  apply txE (α := Sl) (fun sv => .agg #[.slice sv.p sv.l sv.c]) (fun sv => [fun w => NatV w (.agg #[.slice sv.p sv.l sv.c]) ((toU d))]) (wants0 rfl)
  · intro f1 l1 hl1 w' hK; go_simp; (try go_bits); refine (of_any  (toU d) w'  (by omega)).mono ?_; rintro e w5 ⟨y0, rfl, u0, hb⟩; obtain ⟨rfl, rfl⟩ := hl1.out; obtain ⟨p_u0, c_u0, rfl, _⟩ := u0.digp; exact ⟨_, rfl, (⟨p_u0, _, c_u0⟩ : Sl), rfl, hb, .cons (fun w2 h2 => u0.below h2) (Lasts.nil _)⟩
  intro sv5
  simp only [Act.put, pA, pB, pC, pD, pE]
  apply txE (α := Sl) (fun sv => .agg #[.slice sv.p sv.l sv.c]) (fun sv => [fun w => NatV w (.agg #[.slice sv.p sv.l sv.c]) 0]) (wants0 rfl)
  · intro f1 l1 hl1 w' hK; go_simp; (try go_bits); refine (of_any  0 w'  (by omega)).mono ?_; rintro e w5 ⟨y0, rfl, u0, hb⟩; obtain ⟨rfl, rfl⟩ := hl1.out; obtain ⟨p_u0, c_u0, rfl, _⟩ := u0.digp; exact ⟨_, rfl, (⟨p_u0, _, c_u0⟩ : Sl), rfl, hb, .cons (fun w2 h2 => u0.below h2) (Lasts.nil _)⟩
  intro sv6
  simp only [Act.put, pA, pB, pC, pD, pE]
  obtain ⟨z2, hz2⟩ : ∃ b : Int, RowKit.Hid ((errD 0) = b) := ⟨_, hid rfl⟩
  apply txE (α := Duo Sl Sl) (fun sv => .tuple #[.agg #[.bool (isN (ofS b1 ((toU d)) 0)), .slice sv.a.p sv.a.l sv.a.c, .slice sv.b.p sv.b.l sv.b.c], .int .i64 z2]) (fun sv => [fun w => RatV w (.agg #[.bool (isN (ofS b1 ((toU d)) 0)), .slice sv.a.p sv.a.l sv.a.c, .slice sv.b.p sv.b.l sv.b.c]) (ofS b1 ((toU d)) 0), fun w => NatV w (.agg #[.slice sv.a.p sv.a.l sv.a.c]) ((ofS b1 ((toU d)) 0).num.natAbs), fun w => NatV w (.agg #[.slice sv.b.p sv.b.l sv.b.c]) (den0 (ofS b1 ((toU d)) 0))]) (wants0 rfl)
  · intro f1 l1 hl1 w' hK; go_simp; (try go_bits); refine (qmake_any (.agg #[.slice sv5.p sv5.l sv5.c]) (.agg #[.slice sv6.p sv6.l sv6.c]) b1 ((toU d)) 0 w' (hK.get m1) (hK.get m0) (by omega) (by omega)).mono ?_; rintro e w5 ⟨y0, rfl, u0, hb⟩; obtain ⟨rfl, rfl⟩ := hl1.out; have u0_0 := u0; obtain ⟨p_u0, l_u0, c_u0, q_u0, m_u0, d_u0, rfl, u0_1, u0_2⟩ := u0; exact ⟨_, rfl, (⟨⟨p_u0, l_u0, c_u0⟩, ⟨q_u0, m_u0, d_u0⟩⟩ : Duo Sl Sl), (by rw [hz2.out]), hb, .cons (fun w2 h2 => u0_0.below h2) (.cons (fun w2 h2 => u0_1.below h2) (.cons (fun w2 h2 => u0_2.below h2) (Lasts.nil _)))⟩
  intro sv7
  simp only [Act.put, pA, pB, pC, pD, pE]
  iterate 3 (apply txF (wants0 rfl); (· intro w' hK; go_simp; (try go_bits); exact ⟨rfl, rfl⟩); simp only [Act.put, pA, pB, pC])
  apply txA (.cells #[.bool false, .slice none 0 0, .slice none 0 0] 29) (wants0 rfl)
  · intro w' hK; go_simp; rfl
  intro R8 q_R8
  have o_R3_R8 : R3 < R8 := q_R8 _ _ _ m5
  clear q_R8
  simp only [mkOf, Act.put, pA, pB, pC]
  apply txU 0 (Has w.heap.size R8 (.cells #[.bool (isN (ofS b1 ((toU d)) 0)), .slice sv7.a.p sv7.a.l sv7.a.c, .slice sv7.b.p sv7.b.l sv7.b.c] 29)) (wants0 rfl)
  · intro l1 hl1 w' hK; have k_R8 := (hK.get m0); have ⟨c_R8_0, c_R8_1, c_R8_2⟩ := k_R8.c3; have f_R8 := k_R8.fz; have ni := noInt_of k_R8 nofun; go_simp; obtain rfl := hl1.out; exact ⟨rfl, ks_put (R := R8) hK k_R8.1 0 [.bool (isN (ofS b1 ((toU d)) 0)), .slice sv7.a.p sv7.a.l sv7.a.c, .slice sv7.b.p sv7.b.l sv7.b.c] (al1 (fun _ => has_put k_R8 _ _) (al1 (spQ ni (hK.get m1)) (al1 (spN ni (hK.get m2)) (al1 (spN ni (hK.get m3)) (al1 (spN ni (hK.get m4)) (al1 (spN ni (hK.get m5)) (al1 (spL o_R3_R8 (hK.get m6)) (al1 (spQ ni (hK.get m7)) (al1 (spN ni (hK.get m8)) (al1 (spN ni (hK.get m9)) aN))))))))))⟩
  simp only [Act.put, pB]
  apply txF (wants0 rfl); (· intro w' hK; go_simp; (try go_bits); exact ⟨rfl, rfl⟩); simp only [Act.put, pA, pB, pC]
  refine txEnd (fun W9 hK => ?_)
  go_upto_region 5 with (fail)
  refine wp_region_tx w hK ?_
  clear hK
  apply txF (wants0 rfl); (· intro w' hK; go_simp; (try go_bits); exact ⟨rfl, rfl⟩); simp only [Act.put, pA, pB, pC]
  apply txF (v := .bool false) (wants0 rfl); (· intro w' hK; go_simp; (try go_bits); exact ⟨congrArg Value.bool (by rw [← hz2.out]; rfl), rfl⟩); simp only [Act.put, pA, pB, pC]
  apply txF (wants0 rfl); (· intro w' hK; go_simp; (try go_bits); exact ⟨rfl, rfl⟩); simp only [Act.put, pA, pB, pC]
  apply txF (wantsg (j := 2) (d := 29) (b := false) rfl rfl rfl rfl); (· intro w' hK; go_simp; (try go_bits); exact ⟨rfl, rfl⟩); simp only [Act.put, pA, pB, pC]
  apply txE (α := Duo Sl Sl) (fun sv => .agg #[.bool (isN (((n : Int) : Rat))), .slice sv.a.p sv.a.l sv.a.c, .slice sv.b.p sv.b.l sv.b.c]) (fun sv => [fun w => RatV w (.agg #[.bool (isN (((n : Int) : Rat))), .slice sv.a.p sv.a.l sv.a.c, .slice sv.b.p sv.b.l sv.b.c]) (((n : Int) : Rat)), fun w => NatV w (.agg #[.slice sv.a.p sv.a.l sv.a.c]) ((((n : Int) : Rat)).num.natAbs), fun w => NatV w (.agg #[.slice sv.b.p sv.b.l sv.b.c]) (den0 (((n : Int) : Rat)))]) (wantsg (j := 2) (d := 29) (b := false) rfl rfl rfl rfl)
  · intro f1 l1 hl1 w' hK; go_simp; (try go_bits); refine (qint_any  n w'  n0 n1).mono ?_; rintro e w5 ⟨y0, rfl, u0, hb⟩; obtain ⟨rfl, rfl⟩ := hl1.out; have u0_0 := u0; obtain ⟨p_u0, l_u0, c_u0, q_u0, m_u0, d_u0, rfl, u0_1, u0_2⟩ := u0; exact ⟨_, rfl, (⟨⟨p_u0, l_u0, c_u0⟩, ⟨q_u0, m_u0, d_u0⟩⟩ : Duo Sl Sl), rfl, hb, .cons (fun w2 h2 => u0_0.below h2) (.cons (fun w2 h2 => u0_1.below h2) (.cons (fun w2 h2 => u0_2.below h2) (Lasts.nil _)))⟩
  intro sv10
  simp only [Act.put, pA, pB, pC, pD, pE]
  apply txF (wantsg (j := 2) (d := 29) (b := false) rfl rfl rfl rfl); (· intro w' hK; go_simp; (try go_bits); exact ⟨rfl, rfl⟩); simp only [Act.put, pA, pB, pC]
  apply txE (α := Duo Sl Sl) (fun sv => .agg #[.bool (isN (((n : Int) : Rat))), .slice sv.a.p (digs B6 (numQ (((n : Int) : Rat)))).length sv.a.c, .slice sv.b.p (digs B6 (den0 (((n : Int) : Rat)))).length sv.b.c]) (fun sv => [fun w => RefR w (.agg #[.bool (isN (((n : Int) : Rat))), .slice sv.a.p (digs B6 (numQ (((n : Int) : Rat)))).length sv.a.c, .slice sv.b.p (digs B6 (den0 (((n : Int) : Rat)))).length sv.b.c]) (((n : Int) : Rat)), fun w => RefV w (.slice sv.a.p (digs B6 (numQ (((n : Int) : Rat)))).length sv.a.c) (numQ (((n : Int) : Rat))), fun w => RefV w (.slice sv.b.p (digs B6 (den0 (((n : Int) : Rat)))).length sv.b.c) (den0 (((n : Int) : Rat)))]) (wantsg (j := 2) (d := 29) (b := false) rfl rfl rfl rfl)
  · intro f1 l1 hl1 w' hK; go_simp; (try go_bits); refine (rint_q  n w'  n0 n1).mono ?_; rintro e w5 ⟨y0, rfl, u0, hb⟩; obtain ⟨rfl, rfl⟩ := hl1.out; have u0_0 := u0; obtain ⟨p_u0, c_u0, q_u0, d_u0, rfl, u0_1, u0_2⟩ := u0.slr; exact ⟨_, rfl, (⟨⟨p_u0, 0, c_u0⟩, ⟨q_u0, 0, d_u0⟩⟩ : Duo Sl Sl), rfl, hb, .cons (fun w2 h2 => u0_0.below h2) (.cons (fun w2 h2 => u0_1.below h2) (.cons (fun w2 h2 => u0_2.below h2) (Lasts.nil _)))⟩
  intro sv11
  simp only [Act.put, pA, pB, pC, pD, pE]
  apply txH (v := .bool true) (wantsg (j := 2) (d := 29) (b := false) rfl rfl rfl rfl)
  · intro v1 hv1 w' hK; go_simp; (try go_bits); refine (is_q (.agg #[.bool (isN (((n : Int) : Rat))), .slice sv10.a.p sv10.a.l sv10.a.c, .slice sv10.b.p sv10.b.l sv10.b.c]) (.agg #[.bool (isN (((n : Int) : Rat))), .slice sv11.a.p (digs B6 (numQ (((n : Int) : Rat)))).length sv11.a.c, .slice sv11.b.p (digs B6 (den0 (((n : Int) : Rat)))).length sv11.b.c]) (((n : Int) : Rat)) (((n : Int) : Rat)) w' (hK.get m3) (hK.get m0) (hB0.below hK.old) (LmQ.up (b := 50) (LmQ.int n0 n1) (by decide)) (LmQ.up (b := 50) (LmQ.int n0 n1) (by decide)) rfl).mono ?_; rintro e w5 ⟨rfl, hb⟩; obtain rfl := hv1.out; exact ⟨_, rfl, rfl, hb⟩
  simp only [Act.put, pA, pB, pC]
  apply txF (wantsg (j := 2) (d := 29) (b := false) rfl rfl rfl rfl); (· intro w' hK; go_simp; (try go_bits); exact ⟨rfl, rfl⟩); simp only [Act.put, pA, pB, pC]
  apply txF (wants0 rfl); (· intro w' hK; go_simp; (try go_bits); exact ⟨rfl, rfl⟩); simp only [Act.put, pA, pB, pC]
  refine txEnd (fun W12 hK => ?_)
  go_upto_region 7 with (fail)
  refine wp_region_tx w hK ?_
  clear hK
  apply txF (wants0 rfl); (· intro w' hK; go_simp; (try go_bits); exact ⟨rfl, rfl⟩); simp only [Act.put, pA, pB, pC]
  obtain ⟨b2, hb2⟩ : ∃ b : Bool, RowKit.Hid ((d == 0) = b) := ⟨_, hid rfl⟩
  apply txB b2 (wants0 rfl); (· intro w' hK; go_simp; (try go_bits); exact ⟨by have q := hb2.out; subst q; first | rfl | simp, rfl⟩); simp only [Act.put, pA, pB, pC]
  refine txEnd (fun W13 hK => ?_)
  cases b2
  · --
   go_upto_region 9 with (fail)
   have hK0 := hK
   refine wp_region_float0 (w) _ _ [0, 0, 0, 0, 0, 0, 2, 1, 0, 0] (by kernel_rfl) (by kernel_rfl) (by kernel_rfl) (by kernel_rfl) (KS.drew hK0) (KS.drew hK) ?_
   clear hK hK0
   apply lxF0 (wants0 rfl); (· intro w' h0; go_simp; (try go_bits); exact ⟨rfl, rfl⟩); simp only [Act.put, pA, pB, pC]
   apply lxF0 (v := .bool true) (wants0 rfl); (· intro w' h0; go_simp; (try go_bits); exact ⟨congrArg Value.bool (by rw [← hz1.out, if_neg (by simpa using hb2.out)]; rfl), rfl⟩); simp only [Act.put, pA, pB, pC]
   apply lxF0 (wants0 rfl); (· intro w' h0; go_simp; (try go_bits); exact ⟨rfl, rfl⟩); simp only [Act.put, pA, pB, pC]
   apply lxF0 (wantsg (j := 2) (d := 48) (b := true) rfl rfl rfl rfl); (· intro w' h0; have k_R3 := (h0.get m12); have ⟨c_R3_0, c_R3_1, c_R3_2⟩ := k_R3.c3; go_simp; (try go_bits); exact ⟨rfl, rfl⟩); simp only [Act.put, pA, pB, pC]
   iterate 2 (apply lxF0 (wantsg (j := 2) (d := 48) (b := true) rfl rfl rfl rfl); (· intro w' h0; go_simp; (try go_bits); exact ⟨rfl, rfl⟩); simp only [Act.put, pA, pB, pC])
   apply lxE1 (α := Duo Sl Sl) (fun sv => .agg #[.bool (isN (((n : Int) : Rat) / ((d : Int) : Rat))), .slice sv.a.p (digs B6 (numQ (((n : Int) : Rat) / ((d : Int) : Rat)))).length sv.a.c, .slice sv.b.p (digs B6 (den0 (((n : Int) : Rat) / ((d : Int) : Rat)))).length sv.b.c]) (fun sv => [fun w => RefR w (.agg #[.bool (isN (((n : Int) : Rat) / ((d : Int) : Rat))), .slice sv.a.p (digs B6 (numQ (((n : Int) : Rat) / ((d : Int) : Rat)))).length sv.a.c, .slice sv.b.p (digs B6 (den0 (((n : Int) : Rat) / ((d : Int) : Rat)))).length sv.b.c]) (((n : Int) : Rat) / ((d : Int) : Rat)), fun w => RefV w (.slice sv.a.p (digs B6 (numQ (((n : Int) : Rat) / ((d : Int) : Rat)))).length sv.a.c) (numQ (((n : Int) : Rat) / ((d : Int) : Rat))), fun w => RefV w (.slice sv.b.p (digs B6 (den0 (((n : Int) : Rat) / ((d : Int) : Rat)))).length sv.b.c) (den0 (((n : Int) : Rat) / ((d : Int) : Rat)))]) (wantsg (j := 2) (d := 48) (b := true) rfl rfl rfl rfl)
   · intro f1 l1 hl1 w' h0 hK; go_simp; (try go_bits); refine (rof_q  n d w'  n0 n1 d0 d1).mono ?_; rintro e w5 ⟨y0, rfl, u0, hb⟩; obtain ⟨rfl, rfl⟩ := hl1.out; have u0_0 := u0; obtain ⟨p_u0, c_u0, q_u0, d_u0, rfl, u0_1, u0_2⟩ := u0.slr; exact ⟨_, rfl, (⟨⟨p_u0, 0, c_u0⟩, ⟨q_u0, 0, d_u0⟩⟩ : Duo Sl Sl), rfl, hb, .cons (fun w2 h2 => u0_0.below h2) (.cons (fun w2 h2 => u0_1.below h2) (.cons (fun w2 h2 => u0_2.below h2) (Lasts.nil _)))⟩
   intro sv14
   simp only [Act.put, pA, pB, pC, pD, pE]
   apply lxH1 (v := .bool true) (wantsg (j := 2) (d := 48) (b := true) rfl rfl rfl rfl)
   · intro v1 hv1 w' h0 hK; go_simp; (try go_bits); refine (is_q (.agg #[.bool (isN (((n : Int) : Rat) / ((d : Int) : Rat))), .slice sv2.a.p sv2.a.l sv2.a.c, .slice sv2.b.p sv2.b.l sv2.b.c]) (.agg #[.bool (isN (((n : Int) : Rat) / ((d : Int) : Rat))), .slice sv14.a.p (digs B6 (numQ (((n : Int) : Rat) / ((d : Int) : Rat)))).length sv14.a.c, .slice sv14.b.p (digs B6 (den0 (((n : Int) : Rat) / ((d : Int) : Rat)))).length sv14.b.c]) (((n : Int) : Rat) / ((d : Int) : Rat)) (((n : Int) : Rat) / ((d : Int) : Rat)) w' (hK.get m16) (hK.get m0) (hB0.below hK.old) (LmQ.up (b := 50) (LmQ.quo (LmQ.int n0 n1) (LmQ.int d0 d1)) (by decide)) (LmQ.up (b := 50) (LmQ.quo (LmQ.int n0 n1) (LmQ.int d0 d1)) (by decide)) rfl).mono ?_; rintro e w5 ⟨rfl, hb⟩; obtain rfl := hv1.out; exact ⟨_, rfl, rfl, hb⟩
   simp only [Act.put, pA, pB, pC]
   iterate 2 (apply lxF0 (wants0 rfl); (· intro w' h0; go_simp; (try go_bits); exact ⟨rfl, rfl⟩); simp only [Act.put, pA, pB, pC])
   refine lxEnd (fun W15 hK => ?_)
   go_wp2
   try go_ret
   show Q0 (.returned (.bool true)) _
   exact (by obtain rfl := hQ0.out; exact ⟨rfl, hK.old⟩)
  · --
   go_upto_region 8 with (fail)
   refine wp_region_tx w hK ?_
   clear hK
   apply txF (wants0 rfl); (· intro w' hK; go_simp; (try go_bits); exact ⟨rfl, rfl⟩); simp only [Act.put, pA, pB, pC]
   apply txF (v := .bool true) (wants0 rfl); (· intro w' hK; go_simp; (try go_bits); exact ⟨congrArg Value.bool (by rw [← hz1.out, if_pos (by simpa using hb2.out)]; rfl), rfl⟩); simp only [Act.put, pA, pB, pC]
   apply txF (wants0 rfl); (· intro w' hK; go_simp; (try go_bits); exact ⟨rfl, rfl⟩); simp only [Act.put, pA, pB, pC]
   apply txF (wantsg (j := 2) (d := 41) (b := true) rfl rfl rfl rfl); (· intro w' hK; have k_R3 := (hK.get m12); have ⟨c_R3_0, c_R3_1, c_R3_2⟩ := k_R3.c3; go_simp; (try go_bits); exact ⟨rfl, rfl⟩); simp only [Act.put, pA, pB, pC]
   obtain ⟨z3, hz3⟩ : ∃ b : Int, RowKit.Hid ((sgQ (((n : Int) : Rat) / ((d : Int) : Rat))) = b) := ⟨_, hid rfl⟩
   apply txH (v := .int .i64 z3) (wantsg (j := 2) (d := 41) (b := true) rfl rfl rfl rfl)
   · intro v1 hv1 w' hK; go_simp; (try go_bits); refine (sign_any (.agg #[.bool (isN (((n : Int) : Rat) / ((d : Int) : Rat))), .slice sv2.a.p sv2.a.l sv2.a.c, .slice sv2.b.p sv2.b.l sv2.b.c]) (((n : Int) : Rat) / ((d : Int) : Rat)) w' (hK.get m13) ).mono ?_; rintro e w5 ⟨rfl, hb⟩; obtain rfl := hv1.out; exact ⟨_, rfl, (by rw [hz3.out]), hb⟩
   simp only [Act.put, pA, pB, pC]
   apply txF (v := .bool true) (wantsg (j := 2) (d := 41) (b := true) rfl rfl rfl rfl); (· intro w' hK; go_simp; (try go_bits); exact ⟨congrArg Value.bool (sg_d0 hz3.out hb2.out), rfl⟩); simp only [Act.put, pA, pB, pC]
   iterate 2 (apply txF (wants0 rfl); (· intro w' hK; go_simp; (try go_bits); exact ⟨rfl, rfl⟩); simp only [Act.put, pA, pB, pC])
   refine txEnd (fun W16 hK => ?_)
   go_wp2
   try go_ret
   show Q0 (.returned (.bool true)) _
   exact (by obtain rfl := hQ0.out; exact ⟨rfl, hK.old⟩)
end Go.Proofs.YtiilkcdefpmimaaGreatDoor
