/- The laws of rational numbers walked: Sums, Products, Floor. -/
import Derived.Test.YtiilkcdefpmimaaGreatDoorRatL0
namespace Go.Proofs.YtiilkcdefpmimaaGreatDoor
open Go.RowKit
open Go.Lib (decDigits)
set_option maxRecDepth 100000 in
theorem rationalFloor_walk (v0 : Value) (n : NumS) (w : World) (h0 : NumV w v0 n) (hB0 : Bas w) (d_n : (∀ d ∈ n.ds, d < B32) ∧ ∀ d ∈ n.es, d < B32) :
    Calls Tryz.prog 8 #[v0] w fun e w' => e = .returned (.bool true) ∧ Below w.heap.size w w' := by
  have h0_0 := h0; obtain ⟨p_h0, c_h0, q_h0, d_h0, rfl, h0_1, h0_2⟩ := h0.sl
  have hK : KS w [] w := (KS.start w)
  refine Calls.hide (fun Q0 hQ0 => ?_)
  go_enter Tryz.func8, Tryz.ntmps8
  go_upto_region 0 with (fail)
  refine wp_region_tx w hK ?_
  clear hK
  apply txA (.cells #[.bool n.neg, .slice p_h0 n.ds.length c_h0, .slice q_h0 n.es.length d_h0] 43) (wants0 rfl)
  · intro w' hK; go_simp; rfl
  intro R1 q_R1
  clear q_R1
  simp only [mkOf, Act.put, pA, pB, pC]
  apply txF (wants0 rfl); (· intro w' hK; go_simp; (try go_bits); exact ⟨rfl, rfl⟩); simp only [Act.put, pA, pB, pC]
  refine txEnd (fun W2 hK => ?_)
  go_upto_region 1 with (fail)
  refine wp_region_tx w hK ?_
  clear hK
  apply txH (v := .bool true) (wants0 rfl)
  · intro v1 hv1 w' hK; go_simp; (try go_bits); refine (awake_q   w' (hB0.below hK.old) ).mono ?_; rintro e w5 ⟨rfl, hb⟩; obtain rfl := hv1.out; exact ⟨_, rfl, rfl, hb⟩
  simp only [Act.put, pA, pB, pC]
  apply txF (wants0 rfl); (· intro w' hK; go_simp; (try go_bits); exact ⟨rfl, rfl⟩); simp only [Act.put, pA, pB, pC]
  refine txEnd (fun W3 hK => ?_)
  go_upto_region 3 with (fail)
  refine wp_region_tx w hK ?_
  clear hK
  apply txF (wants0 rfl); (· intro w' hK; have k_R1 := (hK.get m0); have ⟨c_R1_0, c_R1_1, c_R1_2⟩ := k_R1.c3; go_simp; (try go_bits); exact ⟨rfl, rfl⟩); simp only [Act.put, pA, pB, pC]
  apply txA (.cells #[.bool n.neg, .slice p_h0 n.ds.length c_h0, .slice q_h0 n.es.length d_h0] 43) (wants0 rfl)
  · intro w' hK; go_simp; rfl
  intro R4 q_R4
  have o_R1_R4 : R1 < R4 := q_R4 _ _ _ m0
  clear q_R4
  simp only [mkOf, Act.put, pA, pB, pC]
  obtain ⟨b1, hb1⟩ : ∃ b : Bool, RowKit.Hid (decide (∀ x ∈ ([⟨.bool n.neg, p_h0, n.ds.length, c_h0, q_h0, n.es.length, d_h0⟩] : List NC), x.l ≤ 8 ∧ x.m ≤ 8) = b) := ⟨_, hid rfl⟩
  apply txH (v := .bool b1) (wants0 rfl)
  · intro v1 hv1; intro w' hK; go_simp; (try go_bits); refine (brief_any R4 ([⟨.bool n.neg, p_h0, n.ds.length, c_h0, q_h0, n.es.length, d_h0⟩] : List NC) w' (hK.get m0) (by simp)).mono ?_; rintro e w5 ⟨rfl, hb⟩; obtain rfl := hv1.out; exact ⟨_, rfl, (by rw [hb1.out]), hb⟩
  simp only [Act.put, pA, pB, pC]
  apply txF (wants0 rfl); (· intro w' hK; go_simp; (try go_bits); exact ⟨rfl, rfl⟩); simp only [Act.put, pA, pB, pC]
  refine txEnd (fun W5 hK => ?_)
  cases b1
  · --
   go_wp2
   try go_ret
   show Q0 (.returned (.bool true)) _
   exact (by obtain rfl := hQ0.out; exact ⟨rfl, hK.old⟩)
  · --
   have hq := brief_1 hb1.out rfl
   have ok_n : NumOk n := nok d_n hq
   go_upto_region 5 with (fail)
   refine wp_region_tx w hK ?_
   clear hK
   apply txF (wants0 rfl); (· intro w' hK; have k_R1 := (hK.get m1); have ⟨c_R1_0, c_R1_1, c_R1_2⟩ := k_R1.c3; go_simp; (try go_bits); exact ⟨rfl, rfl⟩); simp only [Act.put, pA, pB, pC]
   apply txE (α := Duo (Duo Sl Sl) (Duo Sl Sl)) (fun sv => .tuple #[.agg #[.bool (isN (numX n)), .slice sv.a.a.p sv.a.a.l sv.a.a.c, .slice sv.a.b.p sv.a.b.l sv.a.b.c], .agg #[.bool (isN (numX n)), .slice sv.b.a.p (digs B6 (numQ (numX n))).length sv.b.a.c, .slice sv.b.b.p (digs B6 (den0 (numX n))).length sv.b.b.c], .bool true]) (fun sv => [fun w => RatV w (.agg #[.bool (isN (numX n)), .slice sv.a.a.p sv.a.a.l sv.a.a.c, .slice sv.a.b.p sv.a.b.l sv.a.b.c]) (numX n), fun w => NatV w (.agg #[.slice sv.a.a.p sv.a.a.l sv.a.a.c]) ((numX n).num.natAbs), fun w => NatV w (.agg #[.slice sv.a.b.p sv.a.b.l sv.a.b.c]) (den0 (numX n)), fun w => RefR w (.agg #[.bool (isN (numX n)), .slice sv.b.a.p (digs B6 (numQ (numX n))).length sv.b.a.c, .slice sv.b.b.p (digs B6 (den0 (numX n))).length sv.b.b.c]) (numX n), fun w => RefV w (.slice sv.b.a.p (digs B6 (numQ (numX n))).length sv.b.a.c) (numQ (numX n)), fun w => RefV w (.slice sv.b.b.p (digs B6 (den0 (numX n))).length sv.b.b.c) (den0 (numX n))]) (wants0 rfl)
   · intro f1 l1 hl1 w' hK; go_simp; (try go_bits); refine (of_q (.agg #[.bool n.neg, .slice p_h0 n.ds.length c_h0, .slice q_h0 n.es.length d_h0]) n w' (h0_0.below hK.old) (hB0.below hK.old) ok_n).mono ?_; rintro e w5 ⟨y0, y1, rfl, u0, u1, hb⟩; obtain ⟨rfl, rfl⟩ := hl1.out; have u0_0 := u0; obtain ⟨p_u0, l_u0, c_u0, q_u0, m_u0, d_u0, rfl, u0_1, u0_2⟩ := u0; have u1_0 := u1; obtain ⟨p_u1, c_u1, q_u1, d_u1, rfl, u1_1, u1_2⟩ := u1.slr; exact ⟨_, rfl, (⟨(⟨⟨p_u0, l_u0, c_u0⟩, ⟨q_u0, m_u0, d_u0⟩⟩ : Duo Sl Sl), (⟨⟨p_u1, 0, c_u1⟩, ⟨q_u1, 0, d_u1⟩⟩ : Duo Sl Sl)⟩ : Duo (Duo Sl Sl) (Duo Sl Sl)), rfl, hb, .cons (fun w2 h2 => u0_0.below h2) (.cons (fun w2 h2 => u0_1.below h2) (.cons (fun w2 h2 => u0_2.below h2) (.cons (fun w2 h2 => u1_0.below h2) (.cons (fun w2 h2 => u1_1.below h2) (.cons (fun w2 h2 => u1_2.below h2) (Lasts.nil _))))))⟩
   intro sv6
   simp only [Act.put, pA, pB, pC, pD, pE]
   iterate 4 (apply txF (wants0 rfl); (· intro w' hK; go_simp; (try go_bits); exact ⟨rfl, rfl⟩); simp only [Act.put, pA, pB, pC])
   apply txA (.cells #[.bool false, .slice none 0 0, .slice none 0 0] 29) (wants0 rfl)
   · intro w' hK; go_simp; rfl
   intro R7 q_R7
   have o_R1_R7 : R1 < R7 := q_R7 _ _ _ m7
   have o_R4_R7 : R4 < R7 := q_R7 _ _ _ m6
   clear q_R7
   simp only [mkOf, Act.put, pA, pB, pC]
   apply txA (.cells #[.bool false, .slice none 0 0, .slice none 0 0] 36) (wants0 rfl)
   · intro w' hK; go_simp; rfl
   intro R8 q_R8
   have o_R1_R8 : R1 < R8 := q_R8 _ _ _ m8
   have o_R4_R8 : R4 < R8 := q_R8 _ _ _ m7
   have o_R7_R8 : R7 < R8 := q_R8 _ _ _ m0
   clear q_R8
   simp only [mkOf, Act.put, pA, pB, pC]
   apply txU 1 (Has w.heap.size R7 (.cells #[.bool (isN (numX n)), .slice sv6.a.a.p sv6.a.a.l sv6.a.a.c, .slice sv6.a.b.p sv6.a.b.l sv6.a.b.c] 29)) (wants0 rfl)
   · intro l1 hl1 w' hK; have k_R7 := (hK.get m1); have ⟨c_R7_0, c_R7_1, c_R7_2⟩ := k_R7.c3; have f_R7 := k_R7.fz; have ni := noInt_of k_R7 nofun; go_simp; obtain rfl := hl1.out; exact ⟨rfl, ks_put (R := R7) hK k_R7.1 0 [.bool (isN (numX n)), .slice sv6.a.a.p sv6.a.a.l sv6.a.a.c, .slice sv6.a.b.p sv6.a.b.l sv6.a.b.c] (al1 (spG o_R7_R8 (hK.get m0)) (al1 (fun _ => has_put k_R7 _ _) (al1 (spQ ni (hK.get m2)) (al1 (spN ni (hK.get m3)) (al1 (spN ni (hK.get m4)) (al1 (spS ni (hK.get m5)) (al1 (spR ni (hK.get m6)) (al1 (spR ni (hK.get m7)) (al1 (spL o_R4_R7 (hK.get m8)) (al1 (spL o_R1_R7 (hK.get m9)) aN))))))))))⟩
   simp only [Act.put, pB, pC]
   apply txU 0 (Has w.heap.size R8 (.cells #[.bool (isN (numX n)), .slice sv6.b.a.p (digs B6 (numQ (numX n))).length sv6.b.a.c, .slice sv6.b.b.p (digs B6 (den0 (numX n))).length sv6.b.b.c] 36)) (wants0 rfl)
   · intro l1 hl1 w' hK; have k_R8 := (hK.get m0); have ⟨c_R8_0, c_R8_1, c_R8_2⟩ := k_R8.c3; have f_R8 := k_R8.fz; have ni := noInt_of k_R8 nofun; go_simp; obtain rfl := hl1.out; exact ⟨rfl, ks_put (R := R8) hK k_R8.1 0 [.bool (isN (numX n)), .slice sv6.b.a.p (digs B6 (numQ (numX n))).length sv6.b.a.c, .slice sv6.b.b.p (digs B6 (den0 (numX n))).length sv6.b.b.c] (al1 (fun _ => has_put k_R8 _ _) (al1 (spL o_R7_R8 (hK.get m1)) (al1 (spQ ni (hK.get m2)) (al1 (spN ni (hK.get m3)) (al1 (spN ni (hK.get m4)) (al1 (spS ni (hK.get m5)) (al1 (spR ni (hK.get m6)) (al1 (spR ni (hK.get m7)) (al1 (spL o_R4_R8 (hK.get m8)) (al1 (spL o_R1_R8 (hK.get m9)) aN))))))))))⟩
   simp only [Act.put, pB]
   apply txF (wants0 rfl); (· intro w' hK; go_simp; (try go_bits); exact ⟨rfl, rfl⟩); simp only [Act.put, pA, pB, pC]
   refine txEnd (fun W9 hK => ?_)
   go_upto_region 6 with (fail)
   refine wp_region_tx w hK ?_
   clear hK
   apply txF (wants0 rfl); (· intro w' hK; have k_R7 := (hK.get m1); have ⟨c_R7_0, c_R7_1, c_R7_2⟩ := k_R7.c3; go_simp; (try go_bits); exact ⟨rfl, rfl⟩); simp only [Act.put, pA, pB, pC]
   apply txE (α := Duo Sl Sl) (fun sv => .agg #[.bool (isN (floorQ (numX n))), .slice sv.a.p sv.a.l sv.a.c, .slice sv.b.p sv.b.l sv.b.c]) (fun sv => [fun w => RatV w (.agg #[.bool (isN (floorQ (numX n))), .slice sv.a.p sv.a.l sv.a.c, .slice sv.b.p sv.b.l sv.b.c]) (floorQ (numX n)), fun w => NatV w (.agg #[.slice sv.a.p sv.a.l sv.a.c]) ((floorQ (numX n)).num.natAbs), fun w => NatV w (.agg #[.slice sv.b.p sv.b.l sv.b.c]) (den0 (floorQ (numX n)))]) (wants0 rfl)
   · intro f1 l1 hl1 w' hK; go_simp; (try go_bits); refine (qfloor_any (.agg #[.bool (isN (numX n)), .slice sv6.a.a.p sv6.a.a.l sv6.a.a.c, .slice sv6.a.b.p sv6.a.b.l sv6.a.b.c]) (numX n) w' (hK.get m2) (LmQ.up (b := 1000) ok_n.lm (by decide)) (by decide)).mono ?_; rintro e w5 ⟨y0, rfl, u0, hb⟩; obtain ⟨rfl, rfl⟩ := hl1.out; have u0_0 := u0; obtain ⟨p_u0, l_u0, c_u0, q_u0, m_u0, d_u0, rfl, u0_1, u0_2⟩ := u0; exact ⟨_, rfl, (⟨⟨p_u0, l_u0, c_u0⟩, ⟨q_u0, m_u0, d_u0⟩⟩ : Duo Sl Sl), rfl, hb, .cons (fun w2 h2 => u0_0.below h2) (.cons (fun w2 h2 => u0_1.below h2) (.cons (fun w2 h2 => u0_2.below h2) (Lasts.nil _)))⟩
   intro sv10
   simp only [Act.put, pA, pB, pC, pD, pE]
   apply txA (.cells #[.bool false, .slice none 0 0, .slice none 0 0] 29) (wants0 rfl)
   · intro w' hK; go_simp; rfl
   intro R11 q_R11
   have o_R1_R11 : R1 < R11 := q_R11 _ _ _ m12
   have o_R4_R11 : R4 < R11 := q_R11 _ _ _ m11
   have o_R7_R11 : R7 < R11 := q_R11 _ _ _ m4
   have o_R8_R11 : R8 < R11 := q_R11 _ _ _ m3
   clear q_R11
   simp only [mkOf, Act.put, pA, pB, pC]
   apply txU 0 (Has w.heap.size R11 (.cells #[.bool (isN (floorQ (numX n))), .slice sv10.a.p sv10.a.l sv10.a.c, .slice sv10.b.p sv10.b.l sv10.b.c] 29)) (wants0 rfl)
   · intro l1 hl1 w' hK; have k_R11 := (hK.get m0); have ⟨c_R11_0, c_R11_1, c_R11_2⟩ := k_R11.c3; have f_R11 := k_R11.fz; have ni := noInt_of k_R11 nofun; go_simp; obtain rfl := hl1.out; exact ⟨rfl, ks_put (R := R11) hK k_R11.1 0 [.bool (isN (floorQ (numX n))), .slice sv10.a.p sv10.a.l sv10.a.c, .slice sv10.b.p sv10.b.l sv10.b.c] (al1 (fun _ => has_put k_R11 _ _) (al1 (spQ ni (hK.get m1)) (al1 (spN ni (hK.get m2)) (al1 (spN ni (hK.get m3)) (al1 (spL o_R8_R11 (hK.get m4)) (al1 (spL o_R7_R11 (hK.get m5)) (al1 (spQ ni (hK.get m6)) (al1 (spN ni (hK.get m7)) (al1 (spN ni (hK.get m8)) (al1 (spS ni (hK.get m9)) (al1 (spR ni (hK.get m10)) (al1 (spR ni (hK.get m11)) (al1 (spL o_R4_R11 (hK.get m12)) (al1 (spL o_R1_R11 (hK.get m13)) aN))))))))))))))⟩
   simp only [Act.put, pB]
   refine txEnd (fun W12 hK => ?_)
   go_upto_region 7 with (fail)
   have hK0 := hK
   refine wp_region_float0 (w) _ _ [0, 0, 0, 0, 2, 1, 0, 0, 0, 2, 0, 2, 1, 0, 0, 0, 0, 1, 0, 0, 0, 0, 0, 2, 2, 1, 0, 0, 0, 0, 2, 1, 0, 0, 0, 0, 2, 0, 2, 2, 2, 1, 0, 0, 0] (by kernel_rfl) (by kernel_rfl) (by kernel_rfl) (by kernel_rfl) (KS.drew hK0) (KS.drew hK) ?_
   clear hK hK0
   iterate 2 (apply lxF0 (wants0 rfl); (· intro w' h0; go_simp; (try go_bits); exact ⟨rfl, rfl⟩); simp only [Act.put, pA, pB, pC])
   apply lxF0 (wantsg (j := 1) (d := 22) (b := true) rfl rfl rfl rfl); (· intro w' h0; have k_R11 := (h0.get m0); have ⟨c_R11_0, c_R11_1, c_R11_2⟩ := k_R11.c3; go_simp; (try go_bits); exact ⟨rfl, rfl⟩); simp only [Act.put, pA, pB, pC]
   apply lxF0 (wantsg (j := 1) (d := 22) (b := true) rfl rfl rfl rfl); (· intro w' h0; have k_R8 := (h0.get m4); have ⟨c_R8_0, c_R8_1, c_R8_2⟩ := k_R8.c3; go_simp; (try go_bits); exact ⟨rfl, rfl⟩); simp only [Act.put, pA, pB, pC]
   apply lxE1 (α := Duo Sl Sl) (fun sv => .agg #[.bool (isN (floorQ (numX n))), .slice sv.a.p (digs B6 (numQ (floorQ (numX n)))).length sv.a.c, .slice sv.b.p (digs B6 (den0 (floorQ (numX n)))).length sv.b.c]) (fun sv => [fun w => RefR w (.agg #[.bool (isN (floorQ (numX n))), .slice sv.a.p (digs B6 (numQ (floorQ (numX n)))).length sv.a.c, .slice sv.b.p (digs B6 (den0 (floorQ (numX n)))).length sv.b.c]) (floorQ (numX n)), fun w => RefV w (.slice sv.a.p (digs B6 (numQ (floorQ (numX n)))).length sv.a.c) (numQ (floorQ (numX n))), fun w => RefV w (.slice sv.b.p (digs B6 (den0 (floorQ (numX n)))).length sv.b.c) (den0 (floorQ (numX n)))]) (wantsg (j := 1) (d := 22) (b := true) rfl rfl rfl rfl)
   · intro f1 l1 hl1 w' h0 hK; go_simp; (try go_bits); refine (rfloor_q (.agg #[.bool (isN (numX n)), .slice sv6.b.a.p (digs B6 (numQ (numX n))).length sv6.b.a.c, .slice sv6.b.b.p (digs B6 (den0 (numX n))).length sv6.b.b.c]) (numX n) w' (hK.get m9) (LmQ.up (b := 1000) ok_n.lm (by decide)) (by decide)).mono ?_; rintro e w5 ⟨y0, rfl, u0, hb⟩; obtain ⟨rfl, rfl⟩ := hl1.out; have u0_0 := u0; obtain ⟨p_u0, c_u0, q_u0, d_u0, rfl, u0_1, u0_2⟩ := u0.slr; exact ⟨_, rfl, (⟨⟨p_u0, 0, c_u0⟩, ⟨q_u0, 0, d_u0⟩⟩ : Duo Sl Sl), rfl, hb, .cons (fun w2 h2 => u0_0.below h2) (.cons (fun w2 h2 => u0_1.below h2) (.cons (fun w2 h2 => u0_2.below h2) (Lasts.nil _)))⟩
   intro sv13
   simp only [Act.put, pA, pB, pC, pD, pE]
   apply lxH1 (v := .bool true) (wantsg (j := 1) (d := 22) (b := true) rfl rfl rfl rfl)
   · intro v1 hv1 w' h0 hK; go_simp; (try go_bits); refine (is_q (.agg #[.bool (isN (floorQ (numX n))), .slice sv10.a.p sv10.a.l sv10.a.c, .slice sv10.b.p sv10.b.l sv10.b.c]) (.agg #[.bool (isN (floorQ (numX n))), .slice sv13.a.p (digs B6 (numQ (floorQ (numX n)))).length sv13.a.c, .slice sv13.b.p (digs B6 (den0 (floorQ (numX n)))).length sv13.b.c]) (floorQ (numX n)) (floorQ (numX n)) w' (hK.get m4) (hK.get m0) (hB0.below hK.old) (LmQ.up (b := 50) (LmQ.floor ok_n.lm) (by decide)) (LmQ.up (b := 50) (LmQ.floor ok_n.lm) (by decide)) rfl).mono ?_; rintro e w5 ⟨rfl, hb⟩; obtain rfl := hv1.out; exact ⟨_, rfl, rfl, hb⟩
   simp only [Act.put, pA, pB, pC]
   iterate 2 (apply lxF0 (wants0 rfl); (· intro w' h0; go_simp; (try go_bits); exact ⟨rfl, rfl⟩); simp only [Act.put, pA, pB, pC])
   apply lxF0 (wantsg (j := 7) (d := 28) (b := true) rfl rfl rfl rfl); (· intro w' h0; have k_R7 := (h0.get m5); have ⟨c_R7_0, c_R7_1, c_R7_2⟩ := k_R7.c3; go_simp; (try go_bits); exact ⟨rfl, rfl⟩); simp only [Act.put, pA, pB, pC]
   apply lxE1 (α := Duo Sl Sl) (fun sv => .agg #[.bool (isN (-floorQ (-(numX n)))), .slice sv.a.p sv.a.l sv.a.c, .slice sv.b.p sv.b.l sv.b.c]) (fun sv => [fun w => RatV w (.agg #[.bool (isN (-floorQ (-(numX n)))), .slice sv.a.p sv.a.l sv.a.c, .slice sv.b.p sv.b.l sv.b.c]) (-floorQ (-(numX n))), fun w => NatV w (.agg #[.slice sv.a.p sv.a.l sv.a.c]) ((-floorQ (-(numX n))).num.natAbs), fun w => NatV w (.agg #[.slice sv.b.p sv.b.l sv.b.c]) (den0 (-floorQ (-(numX n))))]) (wantsg (j := 7) (d := 28) (b := true) rfl rfl rfl rfl)
   · intro f1 l1 hl1 w' h0 hK; go_simp; (try go_bits); refine (qceil_any (.agg #[.bool (isN (numX n)), .slice sv6.a.a.p sv6.a.a.l sv6.a.a.c, .slice sv6.a.b.p sv6.a.b.l sv6.a.b.c]) (numX n) w' (hK.get m9) (LmQ.up (b := 1000) ok_n.lm (by decide)) (by decide)).mono ?_; rintro e w5 ⟨y0, rfl, u0, hb⟩; obtain ⟨rfl, rfl⟩ := hl1.out; have u0_0 := u0; obtain ⟨p_u0, l_u0, c_u0, q_u0, m_u0, d_u0, rfl, u0_1, u0_2⟩ := u0; exact ⟨_, rfl, (⟨⟨p_u0, l_u0, c_u0⟩, ⟨q_u0, m_u0, d_u0⟩⟩ : Duo Sl Sl), rfl, hb, .cons (fun w2 h2 => u0_0.below h2) (.cons (fun w2 h2 => u0_1.below h2) (.cons (fun w2 h2 => u0_2.below h2) (Lasts.nil _)))⟩
   intro sv14
   simp only [Act.put, pA, pB, pC, pD, pE]
   apply lxF0 (wantsg (j := 7) (d := 28) (b := true) rfl rfl rfl rfl); (· intro w' h0; have k_R8 := (h0.get m4); have ⟨c_R8_0, c_R8_1, c_R8_2⟩ := k_R8.c3; go_simp; (try go_bits); exact ⟨rfl, rfl⟩); simp only [Act.put, pA, pB, pC]
   apply lxE1 (α := Duo Sl Sl) (fun sv => .agg #[.bool (isN (-floorQ (-(numX n)))), .slice sv.a.p (digs B6 (numQ (-floorQ (-(numX n))))).length sv.a.c, .slice sv.b.p (digs B6 (den0 (-floorQ (-(numX n))))).length sv.b.c]) (fun sv => [fun w => RefR w (.agg #[.bool (isN (-floorQ (-(numX n)))), .slice sv.a.p (digs B6 (numQ (-floorQ (-(numX n))))).length sv.a.c, .slice sv.b.p (digs B6 (den0 (-floorQ (-(numX n))))).length sv.b.c]) (-floorQ (-(numX n))), fun w => RefV w (.slice sv.a.p (digs B6 (numQ (-floorQ (-(numX n))))).length sv.a.c) (numQ (-floorQ (-(numX n)))), fun w => RefV w (.slice sv.b.p (digs B6 (den0 (-floorQ (-(numX n))))).length sv.b.c) (den0 (-floorQ (-(numX n))))]) (wantsg (j := 7) (d := 28) (b := true) rfl rfl rfl rfl)
   · intro f1 l1 hl1 w' h0 hK; go_simp; (try go_bits); refine (rceil_q (.agg #[.bool (isN (numX n)), .slice sv6.b.a.p (digs B6 (numQ (numX n))).length sv6.b.a.c, .slice sv6.b.b.p (digs B6 (den0 (numX n))).length sv6.b.b.c]) (numX n) w' (hK.get m15) (LmQ.up (b := 1000) ok_n.lm (by decide)) (by decide)).mono ?_; rintro e w5 ⟨y0, rfl, u0, hb⟩; obtain ⟨rfl, rfl⟩ := hl1.out; have u0_0 := u0; obtain ⟨p_u0, c_u0, q_u0, d_u0, rfl, u0_1, u0_2⟩ := u0.slr; exact ⟨_, rfl, (⟨⟨p_u0, 0, c_u0⟩, ⟨q_u0, 0, d_u0⟩⟩ : Duo Sl Sl), rfl, hb, .cons (fun w2 h2 => u0_0.below h2) (.cons (fun w2 h2 => u0_1.below h2) (.cons (fun w2 h2 => u0_2.below h2) (Lasts.nil _)))⟩
   intro sv15
   simp only [Act.put, pA, pB, pC, pD, pE]
   apply lxH1 (v := .bool true) (wantsg (j := 7) (d := 28) (b := true) rfl rfl rfl rfl)
   · intro v1 hv1 w' h0 hK; go_simp; (try go_bits); refine (is_q (.agg #[.bool (isN (-floorQ (-(numX n)))), .slice sv14.a.p sv14.a.l sv14.a.c, .slice sv14.b.p sv14.b.l sv14.b.c]) (.agg #[.bool (isN (-floorQ (-(numX n)))), .slice sv15.a.p (digs B6 (numQ (-floorQ (-(numX n))))).length sv15.a.c, .slice sv15.b.p (digs B6 (den0 (-floorQ (-(numX n))))).length sv15.b.c]) (-floorQ (-(numX n))) (-floorQ (-(numX n))) w' (hK.get m3) (hK.get m0) (hB0.below hK.old) (LmQ.up (b := 50) (LmQ.neg (LmQ.floor (LmQ.neg ok_n.lm))) (by decide)) (LmQ.up (b := 50) (LmQ.neg (LmQ.floor (LmQ.neg ok_n.lm))) (by decide)) rfl).mono ?_; rintro e w5 ⟨rfl, hb⟩; obtain rfl := hv1.out; exact ⟨_, rfl, rfl, hb⟩
   simp only [Act.put, pA, pB, pC]
   iterate 2 (apply lxF0 (wants0 rfl); (· intro w' h0; go_simp; (try go_bits); exact ⟨rfl, rfl⟩); simp only [Act.put, pA, pB, pC])
   apply lxF0 (wantsg (j := 14) (d := 35) (b := true) rfl rfl rfl rfl); (· intro w' h0; have k_R11 := (h0.get m0); have ⟨c_R11_0, c_R11_1, c_R11_2⟩ := k_R11.c3; go_simp; (try go_bits); exact ⟨rfl, rfl⟩); simp only [Act.put, pA, pB, pC]
   apply lxF0 (wantsg (j := 14) (d := 35) (b := true) rfl rfl rfl rfl); (· intro w' h0; have k_R7 := (h0.get m5); have ⟨c_R7_0, c_R7_1, c_R7_2⟩ := k_R7.c3; go_simp; (try go_bits); exact ⟨rfl, rfl⟩); simp only [Act.put, pA, pB, pC]
   obtain ⟨z1, hz1⟩ : ∃ b : Int, RowKit.Hid ((sgQ ((floorQ (numX n)) - (numX n))) = b) := ⟨_, hid rfl⟩
   apply lxH1 (v := .int .i64 z1) (wantsg (j := 14) (d := 35) (b := true) rfl rfl rfl rfl)
   · intro v1 hv1 w' h0 hK; go_simp; (try go_bits); refine (qcmp_any (.agg #[.bool (isN (floorQ (numX n))), .slice sv10.a.p sv10.a.l sv10.a.c, .slice sv10.b.p sv10.b.l sv10.b.c]) (.agg #[.bool (isN (numX n)), .slice sv6.a.a.p sv6.a.a.l sv6.a.a.c, .slice sv6.a.b.p sv6.a.b.l sv6.a.b.c]) (floorQ (numX n)) (numX n) w' (hK.get m10) (hK.get m15) (LmQ.up (b := 1000) (LmQ.floor ok_n.lm) (by decide)) (LmQ.up (b := 1000) ok_n.lm (by decide)) (by decide)).mono ?_; rintro e w5 ⟨rfl, hb⟩; obtain rfl := hv1.out; exact ⟨_, rfl, (by rw [hz1.out]), hb⟩
   simp only [Act.put, pA, pB, pC]
   apply lxF0 (v := .bool true) (wantsg (j := 14) (d := 35) (b := true) rfl rfl rfl rfl); (· intro w' h0; go_simp; (try go_bits); exact ⟨congrArg Value.bool (by rw [← hz1.out]; exact decide_eq_true (floor_le _)), rfl⟩); simp only [Act.put, pA, pB, pC]
   iterate 2 (apply lxF0 (wants0 rfl); (· intro w' h0; go_simp; (try go_bits); exact ⟨rfl, rfl⟩); simp only [Act.put, pA, pB, pC])
   apply lxF0 (wantsg (j := 20) (d := 41) (b := true) rfl rfl rfl rfl); (· intro w' h0; have k_R7 := (h0.get m5); have ⟨c_R7_0, c_R7_1, c_R7_2⟩ := k_R7.c3; go_simp; (try go_bits); exact ⟨rfl, rfl⟩); simp only [Act.put, pA, pB, pC]
   apply lxF0 (wantsg (j := 20) (d := 41) (b := true) rfl rfl rfl rfl); (· intro w' h0; have k_R11 := (h0.get m0); have ⟨c_R11_0, c_R11_1, c_R11_2⟩ := k_R11.c3; go_simp; (try go_bits); exact ⟨rfl, rfl⟩); simp only [Act.put, pA, pB, pC]
   apply lxE1 (α := Duo Sl Sl) (fun sv => .agg #[.bool (isN (((1 : Int) : Rat))), .slice sv.a.p sv.a.l sv.a.c, .slice sv.b.p sv.b.l sv.b.c]) (fun sv => [fun w => RatV w (.agg #[.bool (isN (((1 : Int) : Rat))), .slice sv.a.p sv.a.l sv.a.c, .slice sv.b.p sv.b.l sv.b.c]) (((1 : Int) : Rat)), fun w => NatV w (.agg #[.slice sv.a.p sv.a.l sv.a.c]) ((((1 : Int) : Rat)).num.natAbs), fun w => NatV w (.agg #[.slice sv.b.p sv.b.l sv.b.c]) (den0 (((1 : Int) : Rat)))]) (wantsg (j := 20) (d := 41) (b := true) rfl rfl rfl rfl)
   · intro f1 l1 hl1 w' h0 hK; go_simp; (try go_bits); refine (qint_any  1 w'  (by decide) (by decide)).mono ?_; rintro e w5 ⟨y0, rfl, u0, hb⟩; obtain ⟨rfl, rfl⟩ := hl1.out; have u0_0 := u0; obtain ⟨p_u0, l_u0, c_u0, q_u0, m_u0, d_u0, rfl, u0_1, u0_2⟩ := u0; exact ⟨_, rfl, (⟨⟨p_u0, l_u0, c_u0⟩, ⟨q_u0, m_u0, d_u0⟩⟩ : Duo Sl Sl), rfl, hb, .cons (fun w2 h2 => u0_0.below h2) (.cons (fun w2 h2 => u0_1.below h2) (.cons (fun w2 h2 => u0_2.below h2) (Lasts.nil _)))⟩
   intro sv16
   simp only [Act.put, pA, pB, pC, pD, pE]
   apply lxE1 (α := Duo Sl Sl) (fun sv => .agg #[.bool (isN ((floorQ (numX n)) + (((1 : Int) : Rat)))), .slice sv.a.p sv.a.l sv.a.c, .slice sv.b.p sv.b.l sv.b.c]) (fun sv => [fun w => RatV w (.agg #[.bool (isN ((floorQ (numX n)) + (((1 : Int) : Rat)))), .slice sv.a.p sv.a.l sv.a.c, .slice sv.b.p sv.b.l sv.b.c]) ((floorQ (numX n)) + (((1 : Int) : Rat))), fun w => NatV w (.agg #[.slice sv.a.p sv.a.l sv.a.c]) (((floorQ (numX n)) + (((1 : Int) : Rat))).num.natAbs), fun w => NatV w (.agg #[.slice sv.b.p sv.b.l sv.b.c]) (den0 ((floorQ (numX n)) + (((1 : Int) : Rat))))]) (wantsg (j := 20) (d := 41) (b := true) rfl rfl rfl rfl)
   · intro f1 l1 hl1 w' h0 hK; go_simp; (try go_bits); refine (qadd_any (.agg #[.bool (isN (floorQ (numX n))), .slice sv10.a.p sv10.a.l sv10.a.c, .slice sv10.b.p sv10.b.l sv10.b.c]) (.agg #[.bool (isN (((1 : Int) : Rat))), .slice sv16.a.p sv16.a.l sv16.a.c, .slice sv16.b.p sv16.b.l sv16.b.c]) (floorQ (numX n)) (((1 : Int) : Rat)) w' (hK.get m13) (hK.get m0) (LmQ.up (b := 1000) (LmQ.floor ok_n.lm) (by decide)) (LmQ.up (b := 1000) (LmQ.int (n := 1) (by decide) (by decide)) (by decide)) (by decide)).mono ?_; rintro e w5 ⟨y0, rfl, u0, hb⟩; obtain ⟨rfl, rfl⟩ := hl1.out; have u0_0 := u0; obtain ⟨p_u0, l_u0, c_u0, q_u0, m_u0, d_u0, rfl, u0_1, u0_2⟩ := u0; exact ⟨_, rfl, (⟨⟨p_u0, l_u0, c_u0⟩, ⟨q_u0, m_u0, d_u0⟩⟩ : Duo Sl Sl), rfl, hb, .cons (fun w2 h2 => u0_0.below h2) (.cons (fun w2 h2 => u0_1.below h2) (.cons (fun w2 h2 => u0_2.below h2) (Lasts.nil _)))⟩
   intro sv17
   simp only [Act.put, pA, pB, pC, pD, pE]
   obtain ⟨z2, hz2⟩ : ∃ b : Int, RowKit.Hid ((sgQ ((numX n) - ((floorQ (numX n)) + (((1 : Int) : Rat))))) = b) := ⟨_, hid rfl⟩
   apply lxH1 (v := .int .i64 z2) (wantsg (j := 20) (d := 41) (b := true) rfl rfl rfl rfl)
   · intro v1 hv1 w' h0 hK; go_simp; (try go_bits); refine (qcmp_any (.agg #[.bool (isN (numX n)), .slice sv6.a.a.p sv6.a.a.l sv6.a.a.c, .slice sv6.a.b.p sv6.a.b.l sv6.a.b.c]) (.agg #[.bool (isN ((floorQ (numX n)) + (((1 : Int) : Rat)))), .slice sv17.a.p sv17.a.l sv17.a.c, .slice sv17.b.p sv17.b.l sv17.b.c]) (numX n) ((floorQ (numX n)) + (((1 : Int) : Rat))) w' (hK.get m21) (hK.get m0) (LmQ.up (b := 1000) ok_n.lm (by decide)) (LmQ.up (b := 1000) (LmQ.add (LmQ.floor ok_n.lm) (LmQ.int (n := 1) (by decide) (by decide))) (by decide)) (by decide)).mono ?_; rintro e w5 ⟨rfl, hb⟩; obtain rfl := hv1.out; exact ⟨_, rfl, (by rw [hz2.out]), hb⟩
   simp only [Act.put, pA, pB, pC]
   apply lxF0 (v := .bool true) (wantsg (j := 20) (d := 41) (b := true) rfl rfl rfl rfl); (· intro w' h0; go_simp; (try go_bits); exact ⟨congrArg Value.bool (by rw [← hz2.out]; exact decide_eq_true (floor_lt _)), rfl⟩); simp only [Act.put, pA, pB, pC]
   iterate 2 (apply lxF0 (wants0 rfl); (· intro w' h0; go_simp; (try go_bits); exact ⟨rfl, rfl⟩); simp only [Act.put, pA, pB, pC])
   apply lxF0 (wantsg (j := 28) (d := 49) (b := true) rfl rfl rfl rfl); (· intro w' h0; have k_R11 := (h0.get m0); have ⟨c_R11_0, c_R11_1, c_R11_2⟩ := k_R11.c3; go_simp; (try go_bits); exact ⟨rfl, rfl⟩); simp only [Act.put, pA, pB, pC]
   apply lxE1 (α := Sl) (fun sv => .agg #[.slice sv.p sv.l sv.c]) (fun sv => [fun w => NatV w (.agg #[.slice sv.p sv.l sv.c]) ((floorQ (numX n)).den)]) (wantsg (j := 28) (d := 49) (b := true) rfl rfl rfl rfl)
   · intro f1 l1 hl1 w' h0 hK; go_simp; (try go_bits); refine (den_any (.agg #[.bool (isN (floorQ (numX n))), .slice sv10.a.p sv10.a.l sv10.a.c, .slice sv10.b.p sv10.b.l sv10.b.c]) (floorQ (numX n)) w' (hK.get m16) ).mono ?_; rintro e w5 ⟨y0, rfl, u0, hb⟩; obtain ⟨rfl, rfl⟩ := hl1.out; obtain ⟨p_u0, c_u0, rfl, _⟩ := u0.digp; exact ⟨_, rfl, (⟨p_u0, _, c_u0⟩ : Sl), rfl, hb, .cons (fun w2 h2 => u0.below h2) (Lasts.nil _)⟩
   intro sv18
   simp only [Act.put, pA, pB, pC, pD, pE]
   apply lxH1 (v := .string ⟨(decDigits ((floorQ (numX n)).den)).toArray⟩) (wantsg (j := 28) (d := 49) (b := true) rfl rfl rfl rfl)
   · intro v1 hv1 w' h0 hK; go_simp; (try go_bits); refine (ntext_q (.agg #[.slice sv18.p sv18.l sv18.c]) ((floorQ (numX n)).den) w' (hK.get m0) (hB0.below hK.old) (by rw [floor_den]; exact dl1)).mono ?_; rintro e w5 ⟨rfl, hb⟩; obtain rfl := hv1.out; exact ⟨_, rfl, rfl, hb⟩
   simp only [Act.put, pA, pB, pC]
   apply lxF0 (v := .bool true) (wantsg (j := 28) (d := 49) (b := true) rfl rfl rfl rfl); (· intro w' h0; go_simp; (try go_bits); exact ⟨congrArg Value.bool (by rw [floor_den]; rw [dec1 (by decide)]; rfl), rfl⟩); simp only [Act.put, pA, pB, pC]
   iterate 2 (apply lxF0 (wants0 rfl); (· intro w' h0; go_simp; (try go_bits); exact ⟨rfl, rfl⟩); simp only [Act.put, pA, pB, pC])
   apply lxF0 (wantsg (j := 34) (d := 55) (b := true) rfl rfl rfl rfl); (· intro w' h0; have k_R7 := (h0.get m5); have ⟨c_R7_0, c_R7_1, c_R7_2⟩ := k_R7.c3; go_simp; (try go_bits); exact ⟨rfl, rfl⟩); simp only [Act.put, pA, pB, pC]
   apply lxE1 (α := Duo Sl Sl) (fun sv => .agg #[.bool (isN (-floorQ (-(numX n)))), .slice sv.a.p sv.a.l sv.a.c, .slice sv.b.p sv.b.l sv.b.c]) (fun sv => [fun w => RatV w (.agg #[.bool (isN (-floorQ (-(numX n)))), .slice sv.a.p sv.a.l sv.a.c, .slice sv.b.p sv.b.l sv.b.c]) (-floorQ (-(numX n))), fun w => NatV w (.agg #[.slice sv.a.p sv.a.l sv.a.c]) ((-floorQ (-(numX n))).num.natAbs), fun w => NatV w (.agg #[.slice sv.b.p sv.b.l sv.b.c]) (den0 (-floorQ (-(numX n))))]) (wantsg (j := 34) (d := 55) (b := true) rfl rfl rfl rfl)
   · intro f1 l1 hl1 w' h0 hK; go_simp; (try go_bits); refine (qceil_any (.agg #[.bool (isN (numX n)), .slice sv6.a.a.p sv6.a.a.l sv6.a.a.c, .slice sv6.a.b.p sv6.a.b.l sv6.a.b.c]) (numX n) w' (hK.get m22) (LmQ.up (b := 1000) ok_n.lm (by decide)) (by decide)).mono ?_; rintro e w5 ⟨y0, rfl, u0, hb⟩; obtain ⟨rfl, rfl⟩ := hl1.out; have u0_0 := u0; obtain ⟨p_u0, l_u0, c_u0, q_u0, m_u0, d_u0, rfl, u0_1, u0_2⟩ := u0; exact ⟨_, rfl, (⟨⟨p_u0, l_u0, c_u0⟩, ⟨q_u0, m_u0, d_u0⟩⟩ : Duo Sl Sl), rfl, hb, .cons (fun w2 h2 => u0_0.below h2) (.cons (fun w2 h2 => u0_1.below h2) (.cons (fun w2 h2 => u0_2.below h2) (Lasts.nil _)))⟩
   intro sv19
   simp only [Act.put, pA, pB, pC, pD, pE]
   apply lxF0 (wantsg (j := 34) (d := 55) (b := true) rfl rfl rfl rfl); (· intro w' h0; have k_R7 := (h0.get m5); have ⟨c_R7_0, c_R7_1, c_R7_2⟩ := k_R7.c3; go_simp; (try go_bits); exact ⟨rfl, rfl⟩); simp only [Act.put, pA, pB, pC]
   apply lxE1 (α := Duo Sl Sl) (fun sv => .agg #[.bool (isN (-(numX n))), .slice sv.a.p sv.a.l sv.a.c, .slice sv.b.p sv.b.l sv.b.c]) (fun sv => [fun w => RatV w (.agg #[.bool (isN (-(numX n))), .slice sv.a.p sv.a.l sv.a.c, .slice sv.b.p sv.b.l sv.b.c]) (-(numX n)), fun w => NatV w (.agg #[.slice sv.a.p sv.a.l sv.a.c]) ((-(numX n)).num.natAbs), fun w => NatV w (.agg #[.slice sv.b.p sv.b.l sv.b.c]) (den0 (-(numX n)))]) (wantsg (j := 34) (d := 55) (b := true) rfl rfl rfl rfl)
   · intro f1 l1 hl1 w' h0 hK; go_simp; (try go_bits); refine (qneg_any (.agg #[.bool (isN (numX n)), .slice sv6.a.a.p sv6.a.a.l sv6.a.a.c, .slice sv6.a.b.p sv6.a.b.l sv6.a.b.c]) (numX n) w' (hK.get m25) ).mono ?_; rintro e w5 ⟨y0, rfl, u0, hb⟩; obtain ⟨rfl, rfl⟩ := hl1.out; have u0_0 := u0; obtain ⟨p_u0, l_u0, c_u0, q_u0, m_u0, d_u0, rfl, u0_1, u0_2⟩ := u0; exact ⟨_, rfl, (⟨⟨p_u0, l_u0, c_u0⟩, ⟨q_u0, m_u0, d_u0⟩⟩ : Duo Sl Sl), rfl, hb, .cons (fun w2 h2 => u0_0.below h2) (.cons (fun w2 h2 => u0_1.below h2) (.cons (fun w2 h2 => u0_2.below h2) (Lasts.nil _)))⟩
   intro sv20
   simp only [Act.put, pA, pB, pC, pD, pE]
   apply lxE1 (α := Duo Sl Sl) (fun sv => .agg #[.bool (isN (floorQ (-(numX n)))), .slice sv.a.p sv.a.l sv.a.c, .slice sv.b.p sv.b.l sv.b.c]) (fun sv => [fun w => RatV w (.agg #[.bool (isN (floorQ (-(numX n)))), .slice sv.a.p sv.a.l sv.a.c, .slice sv.b.p sv.b.l sv.b.c]) (floorQ (-(numX n))), fun w => NatV w (.agg #[.slice sv.a.p sv.a.l sv.a.c]) ((floorQ (-(numX n))).num.natAbs), fun w => NatV w (.agg #[.slice sv.b.p sv.b.l sv.b.c]) (den0 (floorQ (-(numX n))))]) (wantsg (j := 34) (d := 55) (b := true) rfl rfl rfl rfl)
   · intro f1 l1 hl1 w' h0 hK; go_simp; (try go_bits); refine (qfloor_any (.agg #[.bool (isN (-(numX n))), .slice sv20.a.p sv20.a.l sv20.a.c, .slice sv20.b.p sv20.b.l sv20.b.c]) (-(numX n)) w' (hK.get m0) (LmQ.up (b := 1000) (LmQ.neg ok_n.lm) (by decide)) (by decide)).mono ?_; rintro e w5 ⟨y0, rfl, u0, hb⟩; obtain ⟨rfl, rfl⟩ := hl1.out; have u0_0 := u0; obtain ⟨p_u0, l_u0, c_u0, q_u0, m_u0, d_u0, rfl, u0_1, u0_2⟩ := u0; exact ⟨_, rfl, (⟨⟨p_u0, l_u0, c_u0⟩, ⟨q_u0, m_u0, d_u0⟩⟩ : Duo Sl Sl), rfl, hb, .cons (fun w2 h2 => u0_0.below h2) (.cons (fun w2 h2 => u0_1.below h2) (.cons (fun w2 h2 => u0_2.below h2) (Lasts.nil _)))⟩
   intro sv21
   simp only [Act.put, pA, pB, pC, pD, pE]
   apply lxE1 (α := Duo Sl Sl) (fun sv => .agg #[.bool (isN (-(floorQ (-(numX n))))), .slice sv.a.p sv.a.l sv.a.c, .slice sv.b.p sv.b.l sv.b.c]) (fun sv => [fun w => RatV w (.agg #[.bool (isN (-(floorQ (-(numX n))))), .slice sv.a.p sv.a.l sv.a.c, .slice sv.b.p sv.b.l sv.b.c]) (-(floorQ (-(numX n)))), fun w => NatV w (.agg #[.slice sv.a.p sv.a.l sv.a.c]) ((-(floorQ (-(numX n)))).num.natAbs), fun w => NatV w (.agg #[.slice sv.b.p sv.b.l sv.b.c]) (den0 (-(floorQ (-(numX n)))))]) (wantsg (j := 34) (d := 55) (b := true) rfl rfl rfl rfl)
   · intro f1 l1 hl1 w' h0 hK; go_simp; (try go_bits); refine (qneg_any (.agg #[.bool (isN (floorQ (-(numX n)))), .slice sv21.a.p sv21.a.l sv21.a.c, .slice sv21.b.p sv21.b.l sv21.b.c]) (floorQ (-(numX n))) w' (hK.get m0) ).mono ?_; rintro e w5 ⟨y0, rfl, u0, hb⟩; obtain ⟨rfl, rfl⟩ := hl1.out; have u0_0 := u0; obtain ⟨p_u0, l_u0, c_u0, q_u0, m_u0, d_u0, rfl, u0_1, u0_2⟩ := u0; exact ⟨_, rfl, (⟨⟨p_u0, l_u0, c_u0⟩, ⟨q_u0, m_u0, d_u0⟩⟩ : Duo Sl Sl), rfl, hb, .cons (fun w2 h2 => u0_0.below h2) (.cons (fun w2 h2 => u0_1.below h2) (.cons (fun w2 h2 => u0_2.below h2) (Lasts.nil _)))⟩
   intro sv22
   simp only [Act.put, pA, pB, pC, pD, pE]
   obtain ⟨z3, hz3⟩ : ∃ b : Int, RowKit.Hid ((sgQ ((-floorQ (-(numX n))) - (-(floorQ (-(numX n)))))) = b) := ⟨_, hid rfl⟩
   apply lxH1 (v := .int .i64 z3) (wantsg (j := 34) (d := 55) (b := true) rfl rfl rfl rfl)
   · intro v1 hv1 w' h0 hK; go_simp; (try go_bits); refine (qcmp_any (.agg #[.bool (isN (-floorQ (-(numX n)))), .slice sv19.a.p sv19.a.l sv19.a.c, .slice sv19.b.p sv19.b.l sv19.b.c]) (.agg #[.bool (isN (-(floorQ (-(numX n))))), .slice sv22.a.p sv22.a.l sv22.a.c, .slice sv22.b.p sv22.b.l sv22.b.c]) (-floorQ (-(numX n))) (-(floorQ (-(numX n)))) w' (hK.get m9) (hK.get m0) (LmQ.up (b := 1000) (LmQ.neg (LmQ.floor (LmQ.neg ok_n.lm))) (by decide)) (LmQ.up (b := 1000) (LmQ.neg (LmQ.floor (LmQ.neg ok_n.lm))) (by decide)) (by decide)).mono ?_; rintro e w5 ⟨rfl, hb⟩; obtain rfl := hv1.out; exact ⟨_, rfl, (by rw [hz3.out]), hb⟩
   simp only [Act.put, pA, pB, pC]
   apply lxF0 (v := .bool true) (wantsg (j := 34) (d := 55) (b := true) rfl rfl rfl rfl); (· intro w' h0; go_simp; (try go_bits); exact ⟨congrArg Value.bool (by rw [← hz3.out, Rat.sub_self]; rfl), rfl⟩); simp only [Act.put, pA, pB, pC]
   iterate 2 (apply lxF0 (wants0 rfl); (· intro w' h0; go_simp; (try go_bits); exact ⟨rfl, rfl⟩); simp only [Act.put, pA, pB, pC])
   refine lxEnd (fun W23 hK => ?_)
   go_wp2
   try go_ret
   show Q0 (.returned (.bool true)) _
   exact (by obtain rfl := hQ0.out; exact ⟨rfl, hK.old⟩)
end Go.Proofs.YtiilkcdefpmimaaGreatDoor
