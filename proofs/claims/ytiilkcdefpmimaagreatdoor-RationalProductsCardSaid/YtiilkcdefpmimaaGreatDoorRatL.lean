/- The laws of rational numbers walked: Sums, Products, Floor. -/
import Derived.Test.YtiilkcdefpmimaaGreatDoorRatL0
namespace Go.Proofs.YtiilkcdefpmimaaGreatDoor
open Go.RowKit
open Go.Lib (decDigits)
set_option maxRecDepth 100000 in
theorem rationalProducts_walk (v0 : Value) (v1 : Value) (m : NumS) (n : NumS) (w : World) (h0 : NumV w v0 m) (h1 : NumV w v1 n) (hB0 : Bas w) (d_m : (∀ d ∈ m.ds, d < B32) ∧ ∀ d ∈ m.es, d < B32) (d_n : (∀ d ∈ n.ds, d < B32) ∧ ∀ d ∈ n.es, d < B32) :
    Calls Tryz.prog 7 #[v0, v1] w fun e w' => e = .returned (.bool true) ∧ Below w.heap.size w w' := by
  have h0_0 := h0; obtain ⟨p_h0, c_h0, q_h0, d_h0, rfl, h0_1, h0_2⟩ := h0.sl
  have h1_0 := h1; obtain ⟨p_h1, c_h1, q_h1, d_h1, rfl, h1_1, h1_2⟩ := h1.sl
  have hK : KS w [] w := (KS.start w)
  refine Calls.hide (fun Q0 hQ0 => ?_)
  go_enter Tryz.func7, Tryz.ntmps7
  go_upto_region 0 with (fail)
  refine wp_region_tx w hK ?_
  clear hK
  apply txA (.cells #[.bool m.neg, .slice p_h0 m.ds.length c_h0, .slice q_h0 m.es.length d_h0] 43) (wants0 rfl)
  · intro w' hK; go_simp; rfl
  intro R1 q_R1
  clear q_R1
  simp only [mkOf, Act.put, pA, pB, pC]
  apply txA (.cells #[.bool n.neg, .slice p_h1 n.ds.length c_h1, .slice q_h1 n.es.length d_h1] 43) (wants0 rfl)
  · intro w' hK; go_simp; rfl
  intro R2 q_R2
  have o_R1_R2 : R1 < R2 := q_R2 _ _ _ m0
  clear q_R2
  simp only [mkOf, Act.put, pA, pB, pC]
  apply txF (wants0 rfl); (· intro w' hK; go_simp; (try go_bits); exact ⟨rfl, rfl⟩); simp only [Act.put, pA, pB, pC]
  refine txEnd (fun W3 hK => ?_)
  go_upto_region 1 with (fail)
  refine wp_region_tx w hK ?_
  clear hK
  apply txH (v := .bool true) (wants0 rfl)
  · intro v1 hv1 w' hK; go_simp; (try go_bits); refine (awake_q   w' (hB0.below hK.old) ).mono ?_; rintro e w5 ⟨rfl, hb⟩; obtain rfl := hv1.out; exact ⟨_, rfl, rfl, hb⟩
  simp only [Act.put, pA, pB, pC]
  apply txF (wants0 rfl); (· intro w' hK; go_simp; (try go_bits); exact ⟨rfl, rfl⟩); simp only [Act.put, pA, pB, pC]
  refine txEnd (fun W4 hK => ?_)
  go_upto_region 3 with (fail)
  refine wp_region_tx w hK ?_
  clear hK
  apply txF (wants0 rfl); (· intro w' hK; have k_R1 := (hK.get m1); have ⟨c_R1_0, c_R1_1, c_R1_2⟩ := k_R1.c3; go_simp; (try go_bits); exact ⟨rfl, rfl⟩); simp only [Act.put, pA, pB, pC]
  apply txF (wants0 rfl); (· intro w' hK; have k_R2 := (hK.get m0); have ⟨c_R2_0, c_R2_1, c_R2_2⟩ := k_R2.c3; go_simp; (try go_bits); exact ⟨rfl, rfl⟩); simp only [Act.put, pA, pB, pC]
  apply txA (.cells #[.bool m.neg, .slice p_h0 m.ds.length c_h0, .slice q_h0 m.es.length d_h0, .bool n.neg, .slice p_h1 n.ds.length c_h1, .slice q_h1 n.es.length d_h1] 43) (wants0 rfl)
  · intro w' hK; go_simp; rfl
  intro R5 q_R5
  have o_R1_R5 : R1 < R5 := q_R5 _ _ _ m1
  have o_R2_R5 : R2 < R5 := q_R5 _ _ _ m0
  clear q_R5
  simp only [mkOf, Act.put, pA, pB, pC]
  obtain ⟨b1, hb1⟩ : ∃ b : Bool, RowKit.Hid (decide (∀ x ∈ ([⟨.bool m.neg, p_h0, m.ds.length, c_h0, q_h0, m.es.length, d_h0⟩, ⟨.bool n.neg, p_h1, n.ds.length, c_h1, q_h1, n.es.length, d_h1⟩] : List NC), x.l ≤ 8 ∧ x.m ≤ 8) = b) := ⟨_, hid rfl⟩
  apply txH (v := .bool b1) (wants0 rfl)
  · intro v1 hv1; intro w' hK; go_simp; (try go_bits); refine (brief_any R5 ([⟨.bool m.neg, p_h0, m.ds.length, c_h0, q_h0, m.es.length, d_h0⟩, ⟨.bool n.neg, p_h1, n.ds.length, c_h1, q_h1, n.es.length, d_h1⟩] : List NC) w' (hK.get m0) (by simp)).mono ?_; rintro e w5 ⟨rfl, hb⟩; obtain rfl := hv1.out; exact ⟨_, rfl, (by rw [hb1.out]), hb⟩
  simp only [Act.put, pA, pB, pC]
  apply txF (wants0 rfl); (· intro w' hK; go_simp; (try go_bits); exact ⟨rfl, rfl⟩); simp only [Act.put, pA, pB, pC]
  refine txEnd (fun W6 hK => ?_)
  cases b1
  · --
   go_wp2
   try go_ret
   show Q0 (.returned (.bool true)) _
   exact (by obtain rfl := hQ0.out; exact ⟨rfl, hK.old⟩)
  · --
   have hq := brief_2 hb1.out rfl
   have ok_m : NumOk m := nok d_m hq.1
   have ok_n : NumOk n := nok d_n hq.2
   go_upto_region 5 with (fail)
   refine wp_region_tx w hK ?_
   clear hK
   apply txF (wants0 rfl); (· intro w' hK; have k_R1 := (hK.get m2); have ⟨c_R1_0, c_R1_1, c_R1_2⟩ := k_R1.c3; go_simp; (try go_bits); exact ⟨rfl, rfl⟩); simp only [Act.put, pA, pB, pC]
   apply txE (α := Duo (Duo Sl Sl) (Duo Sl Sl)) (fun sv => .tuple #[.agg #[.bool (isN (numX m)), .slice sv.a.a.p sv.a.a.l sv.a.a.c, .slice sv.a.b.p sv.a.b.l sv.a.b.c], .agg #[.bool (isN (numX m)), .slice sv.b.a.p (digs B6 (numQ (numX m))).length sv.b.a.c, .slice sv.b.b.p (digs B6 (den0 (numX m))).length sv.b.b.c], .bool true]) (fun sv => [fun w => RatV w (.agg #[.bool (isN (numX m)), .slice sv.a.a.p sv.a.a.l sv.a.a.c, .slice sv.a.b.p sv.a.b.l sv.a.b.c]) (numX m), fun w => NatV w (.agg #[.slice sv.a.a.p sv.a.a.l sv.a.a.c]) ((numX m).num.natAbs), fun w => NatV w (.agg #[.slice sv.a.b.p sv.a.b.l sv.a.b.c]) (den0 (numX m)), fun w => RefR w (.agg #[.bool (isN (numX m)), .slice sv.b.a.p (digs B6 (numQ (numX m))).length sv.b.a.c, .slice sv.b.b.p (digs B6 (den0 (numX m))).length sv.b.b.c]) (numX m), fun w => RefV w (.slice sv.b.a.p (digs B6 (numQ (numX m))).length sv.b.a.c) (numQ (numX m)), fun w => RefV w (.slice sv.b.b.p (digs B6 (den0 (numX m))).length sv.b.b.c) (den0 (numX m))]) (wants0 rfl)
   · intro f1 l1 hl1 w' hK; go_simp; (try go_bits); refine (of_q (.agg #[.bool m.neg, .slice p_h0 m.ds.length c_h0, .slice q_h0 m.es.length d_h0]) m w' (h0_0.below hK.old) (hB0.below hK.old) ok_m).mono ?_; rintro e w5 ⟨y0, y1, rfl, u0, u1, hb⟩; obtain ⟨rfl, rfl⟩ := hl1.out; have u0_0 := u0; obtain ⟨p_u0, l_u0, c_u0, q_u0, m_u0, d_u0, rfl, u0_1, u0_2⟩ := u0; have u1_0 := u1; obtain ⟨p_u1, c_u1, q_u1, d_u1, rfl, u1_1, u1_2⟩ := u1.slr; exact ⟨_, rfl, (⟨(⟨⟨p_u0, l_u0, c_u0⟩, ⟨q_u0, m_u0, d_u0⟩⟩ : Duo Sl Sl), (⟨⟨p_u1, 0, c_u1⟩, ⟨q_u1, 0, d_u1⟩⟩ : Duo Sl Sl)⟩ : Duo (Duo Sl Sl) (Duo Sl Sl)), rfl, hb, .cons (fun w2 h2 => u0_0.below h2) (.cons (fun w2 h2 => u0_1.below h2) (.cons (fun w2 h2 => u0_2.below h2) (.cons (fun w2 h2 => u1_0.below h2) (.cons (fun w2 h2 => u1_1.below h2) (.cons (fun w2 h2 => u1_2.below h2) (Lasts.nil _))))))⟩
   intro sv7
   simp only [Act.put, pA, pB, pC, pD, pE]
   iterate 4 (apply txF (wants0 rfl); (· intro w' hK; go_simp; (try go_bits); exact ⟨rfl, rfl⟩); simp only [Act.put, pA, pB, pC])
   apply txA (.cells #[.bool false, .slice none 0 0, .slice none 0 0] 29) (wants0 rfl)
   · intro w' hK; go_simp; rfl
   intro R8 q_R8
   have o_R1_R8 : R1 < R8 := q_R8 _ _ _ m8
   have o_R2_R8 : R2 < R8 := q_R8 _ _ _ m7
   have o_R5_R8 : R5 < R8 := q_R8 _ _ _ m6
   clear q_R8
   simp only [mkOf, Act.put, pA, pB, pC]
   apply txA (.cells #[.bool false, .slice none 0 0, .slice none 0 0] 36) (wants0 rfl)
   · intro w' hK; go_simp; rfl
   intro R9 q_R9
   have o_R1_R9 : R1 < R9 := q_R9 _ _ _ m9
   have o_R2_R9 : R2 < R9 := q_R9 _ _ _ m8
   have o_R5_R9 : R5 < R9 := q_R9 _ _ _ m7
   have o_R8_R9 : R8 < R9 := q_R9 _ _ _ m0
   clear q_R9
   simp only [mkOf, Act.put, pA, pB, pC]
   apply txU 1 (Has w.heap.size R8 (.cells #[.bool (isN (numX m)), .slice sv7.a.a.p sv7.a.a.l sv7.a.a.c, .slice sv7.a.b.p sv7.a.b.l sv7.a.b.c] 29)) (wants0 rfl)
   · intro l1 hl1 w' hK; have k_R8 := (hK.get m1); have ⟨c_R8_0, c_R8_1, c_R8_2⟩ := k_R8.c3; have f_R8 := k_R8.fz; have ni := noInt_of k_R8 nofun; go_simp; obtain rfl := hl1.out; exact ⟨rfl, ks_put (R := R8) hK k_R8.1 0 [.bool (isN (numX m)), .slice sv7.a.a.p sv7.a.a.l sv7.a.a.c, .slice sv7.a.b.p sv7.a.b.l sv7.a.b.c] (al1 (spG o_R8_R9 (hK.get m0)) (al1 (fun _ => has_put k_R8 _ _) (al1 (spQ ni (hK.get m2)) (al1 (spN ni (hK.get m3)) (al1 (spN ni (hK.get m4)) (al1 (spS ni (hK.get m5)) (al1 (spR ni (hK.get m6)) (al1 (spR ni (hK.get m7)) (al1 (spL o_R5_R8 (hK.get m8)) (al1 (spL o_R2_R8 (hK.get m9)) (al1 (spL o_R1_R8 (hK.get m10)) aN)))))))))))⟩
   simp only [Act.put, pB, pC]
   apply txU 0 (Has w.heap.size R9 (.cells #[.bool (isN (numX m)), .slice sv7.b.a.p (digs B6 (numQ (numX m))).length sv7.b.a.c, .slice sv7.b.b.p (digs B6 (den0 (numX m))).length sv7.b.b.c] 36)) (wants0 rfl)
   · intro l1 hl1 w' hK; have k_R9 := (hK.get m0); have ⟨c_R9_0, c_R9_1, c_R9_2⟩ := k_R9.c3; have f_R9 := k_R9.fz; have ni := noInt_of k_R9 nofun; go_simp; obtain rfl := hl1.out; exact ⟨rfl, ks_put (R := R9) hK k_R9.1 0 [.bool (isN (numX m)), .slice sv7.b.a.p (digs B6 (numQ (numX m))).length sv7.b.a.c, .slice sv7.b.b.p (digs B6 (den0 (numX m))).length sv7.b.b.c] (al1 (fun _ => has_put k_R9 _ _) (al1 (spL o_R8_R9 (hK.get m1)) (al1 (spQ ni (hK.get m2)) (al1 (spN ni (hK.get m3)) (al1 (spN ni (hK.get m4)) (al1 (spS ni (hK.get m5)) (al1 (spR ni (hK.get m6)) (al1 (spR ni (hK.get m7)) (al1 (spL o_R5_R9 (hK.get m8)) (al1 (spL o_R2_R9 (hK.get m9)) (al1 (spL o_R1_R9 (hK.get m10)) aN)))))))))))⟩
   simp only [Act.put, pB]
   apply txF (wants0 rfl); (· intro w' hK; go_simp; (try go_bits); exact ⟨rfl, rfl⟩); simp only [Act.put, pA, pB, pC]
   refine txEnd (fun W10 hK => ?_)
   go_upto_region 6 with (fail)
   refine wp_region_tx w hK ?_
   clear hK
   apply txF (wants0 rfl); (· intro w' hK; have k_R2 := (hK.get m9); have ⟨c_R2_0, c_R2_1, c_R2_2⟩ := k_R2.c3; go_simp; (try go_bits); exact ⟨rfl, rfl⟩); simp only [Act.put, pA, pB, pC]
   apply txE (α := Duo (Duo Sl Sl) (Duo Sl Sl)) (fun sv => .tuple #[.agg #[.bool (isN (numX n)), .slice sv.a.a.p sv.a.a.l sv.a.a.c, .slice sv.a.b.p sv.a.b.l sv.a.b.c], .agg #[.bool (isN (numX n)), .slice sv.b.a.p (digs B6 (numQ (numX n))).length sv.b.a.c, .slice sv.b.b.p (digs B6 (den0 (numX n))).length sv.b.b.c], .bool true]) (fun sv => [fun w => RatV w (.agg #[.bool (isN (numX n)), .slice sv.a.a.p sv.a.a.l sv.a.a.c, .slice sv.a.b.p sv.a.b.l sv.a.b.c]) (numX n), fun w => NatV w (.agg #[.slice sv.a.a.p sv.a.a.l sv.a.a.c]) ((numX n).num.natAbs), fun w => NatV w (.agg #[.slice sv.a.b.p sv.a.b.l sv.a.b.c]) (den0 (numX n)), fun w => RefR w (.agg #[.bool (isN (numX n)), .slice sv.b.a.p (digs B6 (numQ (numX n))).length sv.b.a.c, .slice sv.b.b.p (digs B6 (den0 (numX n))).length sv.b.b.c]) (numX n), fun w => RefV w (.slice sv.b.a.p (digs B6 (numQ (numX n))).length sv.b.a.c) (numQ (numX n)), fun w => RefV w (.slice sv.b.b.p (digs B6 (den0 (numX n))).length sv.b.b.c) (den0 (numX n))]) (wants0 rfl)
   · intro f1 l1 hl1 w' hK; go_simp; (try go_bits); refine (of_q (.agg #[.bool n.neg, .slice p_h1 n.ds.length c_h1, .slice q_h1 n.es.length d_h1]) n w' (h1_0.below hK.old) (hB0.below hK.old) ok_n).mono ?_; rintro e w5 ⟨y0, y1, rfl, u0, u1, hb⟩; obtain ⟨rfl, rfl⟩ := hl1.out; have u0_0 := u0; obtain ⟨p_u0, l_u0, c_u0, q_u0, m_u0, d_u0, rfl, u0_1, u0_2⟩ := u0; have u1_0 := u1; obtain ⟨p_u1, c_u1, q_u1, d_u1, rfl, u1_1, u1_2⟩ := u1.slr; exact ⟨_, rfl, (⟨(⟨⟨p_u0, l_u0, c_u0⟩, ⟨q_u0, m_u0, d_u0⟩⟩ : Duo Sl Sl), (⟨⟨p_u1, 0, c_u1⟩, ⟨q_u1, 0, d_u1⟩⟩ : Duo Sl Sl)⟩ : Duo (Duo Sl Sl) (Duo Sl Sl)), rfl, hb, .cons (fun w2 h2 => u0_0.below h2) (.cons (fun w2 h2 => u0_1.below h2) (.cons (fun w2 h2 => u0_2.below h2) (.cons (fun w2 h2 => u1_0.below h2) (.cons (fun w2 h2 => u1_1.below h2) (.cons (fun w2 h2 => u1_2.below h2) (Lasts.nil _))))))⟩
   intro sv11
   simp only [Act.put, pA, pB, pC, pD, pE]
   iterate 4 (apply txF (wants0 rfl); (· intro w' hK; go_simp; (try go_bits); exact ⟨rfl, rfl⟩); simp only [Act.put, pA, pB, pC])
   apply txA (.cells #[.bool false, .slice none 0 0, .slice none 0 0] 29) (wants0 rfl)
   · intro w' hK; go_simp; rfl
   intro R12 q_R12
   have o_R1_R12 : R1 < R12 := q_R12 _ _ _ m16
   have o_R2_R12 : R2 < R12 := q_R12 _ _ _ m15
   have o_R5_R12 : R5 < R12 := q_R12 _ _ _ m14
   have o_R8_R12 : R8 < R12 := q_R12 _ _ _ m7
   have o_R9_R12 : R9 < R12 := q_R12 _ _ _ m6
   clear q_R12
   simp only [mkOf, Act.put, pA, pB, pC]
   apply txA (.cells #[.bool false, .slice none 0 0, .slice none 0 0] 36) (wants0 rfl)
   · intro w' hK; go_simp; rfl
   intro R13 q_R13
   have o_R1_R13 : R1 < R13 := q_R13 _ _ _ m17
   have o_R2_R13 : R2 < R13 := q_R13 _ _ _ m16
   have o_R5_R13 : R5 < R13 := q_R13 _ _ _ m15
   have o_R8_R13 : R8 < R13 := q_R13 _ _ _ m8
   have o_R9_R13 : R9 < R13 := q_R13 _ _ _ m7
   have o_R12_R13 : R12 < R13 := q_R13 _ _ _ m0
   clear q_R13
   simp only [mkOf, Act.put, pA, pB, pC]
   apply txU 1 (Has w.heap.size R12 (.cells #[.bool (isN (numX n)), .slice sv11.a.a.p sv11.a.a.l sv11.a.a.c, .slice sv11.a.b.p sv11.a.b.l sv11.a.b.c] 29)) (wants0 rfl)
   · intro l1 hl1 w' hK; have k_R12 := (hK.get m1); have ⟨c_R12_0, c_R12_1, c_R12_2⟩ := k_R12.c3; have f_R12 := k_R12.fz; have ni := noInt_of k_R12 nofun; go_simp; obtain rfl := hl1.out; exact ⟨rfl, ks_put (R := R12) hK k_R12.1 0 [.bool (isN (numX n)), .slice sv11.a.a.p sv11.a.a.l sv11.a.a.c, .slice sv11.a.b.p sv11.a.b.l sv11.a.b.c] (al1 (spG o_R12_R13 (hK.get m0)) (al1 (fun _ => has_put k_R12 _ _) (al1 (spQ ni (hK.get m2)) (al1 (spN ni (hK.get m3)) (al1 (spN ni (hK.get m4)) (al1 (spS ni (hK.get m5)) (al1 (spR ni (hK.get m6)) (al1 (spR ni (hK.get m7)) (al1 (spL o_R9_R12 (hK.get m8)) (al1 (spL o_R8_R12 (hK.get m9)) (al1 (spQ ni (hK.get m10)) (al1 (spN ni (hK.get m11)) (al1 (spN ni (hK.get m12)) (al1 (spS ni (hK.get m13)) (al1 (spR ni (hK.get m14)) (al1 (spR ni (hK.get m15)) (al1 (spL o_R5_R12 (hK.get m16)) (al1 (spL o_R2_R12 (hK.get m17)) (al1 (spL o_R1_R12 (hK.get m18)) aN)))))))))))))))))))⟩
   simp only [Act.put, pB, pC]
   apply txU 0 (Has w.heap.size R13 (.cells #[.bool (isN (numX n)), .slice sv11.b.a.p (digs B6 (numQ (numX n))).length sv11.b.a.c, .slice sv11.b.b.p (digs B6 (den0 (numX n))).length sv11.b.b.c] 36)) (wants0 rfl)
   · intro l1 hl1 w' hK; have k_R13 := (hK.get m0); have ⟨c_R13_0, c_R13_1, c_R13_2⟩ := k_R13.c3; have f_R13 := k_R13.fz; have ni := noInt_of k_R13 nofun; go_simp; obtain rfl := hl1.out; exact ⟨rfl, ks_put (R := R13) hK k_R13.1 0 [.bool (isN (numX n)), .slice sv11.b.a.p (digs B6 (numQ (numX n))).length sv11.b.a.c, .slice sv11.b.b.p (digs B6 (den0 (numX n))).length sv11.b.b.c] (al1 (fun _ => has_put k_R13 _ _) (al1 (spL o_R12_R13 (hK.get m1)) (al1 (spQ ni (hK.get m2)) (al1 (spN ni (hK.get m3)) (al1 (spN ni (hK.get m4)) (al1 (spS ni (hK.get m5)) (al1 (spR ni (hK.get m6)) (al1 (spR ni (hK.get m7)) (al1 (spL o_R9_R13 (hK.get m8)) (al1 (spL o_R8_R13 (hK.get m9)) (al1 (spQ ni (hK.get m10)) (al1 (spN ni (hK.get m11)) (al1 (spN ni (hK.get m12)) (al1 (spS ni (hK.get m13)) (al1 (spR ni (hK.get m14)) (al1 (spR ni (hK.get m15)) (al1 (spL o_R5_R13 (hK.get m16)) (al1 (spL o_R2_R13 (hK.get m17)) (al1 (spL o_R1_R13 (hK.get m18)) aN)))))))))))))))))))⟩
   simp only [Act.put, pB]
   apply txF (wants0 rfl); (· intro w' hK; go_simp; (try go_bits); exact ⟨rfl, rfl⟩); simp only [Act.put, pA, pB, pC]
   refine txEnd (fun W14 hK => ?_)
   go_upto_region 7 with (fail)
   refine wp_region_tx w hK ?_
   clear hK
   apply txF (wants0 rfl); (· intro w' hK; have k_R8 := (hK.get m9); have ⟨c_R8_0, c_R8_1, c_R8_2⟩ := k_R8.c3; go_simp; (try go_bits); exact ⟨rfl, rfl⟩); simp only [Act.put, pA, pB, pC]
   apply txF (wants0 rfl); (· intro w' hK; have k_R12 := (hK.get m1); have ⟨c_R12_0, c_R12_1, c_R12_2⟩ := k_R12.c3; go_simp; (try go_bits); exact ⟨rfl, rfl⟩); simp only [Act.put, pA, pB, pC]
   obtain ⟨z1, hz1⟩ : ∃ b : Int, RowKit.Hid ((if (numX n) = 0 then 10 else 0) = b) := ⟨_, hid rfl⟩
   apply txE (α := Duo Sl Sl) (fun sv => .tuple #[.agg #[.bool (isN ((numX m) / (numX n))), .slice sv.a.p sv.a.l sv.a.c, .slice sv.b.p sv.b.l sv.b.c], .int .i64 z1]) (fun sv => [fun w => RatV w (.agg #[.bool (isN ((numX m) / (numX n))), .slice sv.a.p sv.a.l sv.a.c, .slice sv.b.p sv.b.l sv.b.c]) ((numX m) / (numX n)), fun w => NatV w (.agg #[.slice sv.a.p sv.a.l sv.a.c]) (((numX m) / (numX n)).num.natAbs), fun w => NatV w (.agg #[.slice sv.b.p sv.b.l sv.b.c]) (den0 ((numX m) / (numX n)))]) (wants0 rfl)
   · intro f1 l1 hl1 w' hK; go_simp; (try go_bits); refine (qdiv_any (.agg #[.bool (isN (numX m)), .slice sv7.a.a.p sv7.a.a.l sv7.a.a.c, .slice sv7.a.b.p sv7.a.b.l sv7.a.b.c]) (.agg #[.bool (isN (numX n)), .slice sv11.a.a.p sv11.a.a.l sv11.a.a.c, .slice sv11.a.b.p sv11.a.b.l sv11.a.b.c]) (numX m) (numX n) w' (hK.get m10) (hK.get m2) (LmQ.up (b := 1000) ok_m.lm (by decide)) (LmQ.up (b := 1000) ok_n.lm (by decide)) (by decide)).mono ?_; rintro e w5 ⟨y0, rfl, u0, hb⟩; obtain ⟨rfl, rfl⟩ := hl1.out; have u0_0 := u0; obtain ⟨p_u0, l_u0, c_u0, q_u0, m_u0, d_u0, rfl, u0_1, u0_2⟩ := u0; exact ⟨_, rfl, (⟨⟨p_u0, l_u0, c_u0⟩, ⟨q_u0, m_u0, d_u0⟩⟩ : Duo Sl Sl), (by rw [hz1.out]), hb, .cons (fun w2 h2 => u0_0.below h2) (.cons (fun w2 h2 => u0_1.below h2) (.cons (fun w2 h2 => u0_2.below h2) (Lasts.nil _)))⟩
   intro sv15
   simp only [Act.put, pA, pB, pC, pD, pE]
   iterate 3 (apply txF (wants0 rfl); (· intro w' hK; go_simp; (try go_bits); exact ⟨rfl, rfl⟩); simp only [Act.put, pA, pB, pC])
   apply txA (.cells #[.bool false, .slice none 0 0, .slice none 0 0] 29) (wants0 rfl)
   · intro w' hK; go_simp; rfl
   intro R16 q_R16
   have o_R1_R16 : R1 < R16 := q_R16 _ _ _ m21
   have o_R2_R16 : R2 < R16 := q_R16 _ _ _ m20
   have o_R5_R16 : R5 < R16 := q_R16 _ _ _ m19
   have o_R8_R16 : R8 < R16 := q_R16 _ _ _ m12
   have o_R9_R16 : R9 < R16 := q_R16 _ _ _ m11
   have o_R12_R16 : R12 < R16 := q_R16 _ _ _ m4
   have o_R13_R16 : R13 < R16 := q_R16 _ _ _ m3
   clear q_R16
   simp only [mkOf, Act.put, pA, pB, pC]
   apply txU 0 (Has w.heap.size R16 (.cells #[.bool (isN ((numX m) / (numX n))), .slice sv15.a.p sv15.a.l sv15.a.c, .slice sv15.b.p sv15.b.l sv15.b.c] 29)) (wants0 rfl)
   · intro l1 hl1 w' hK; have k_R16 := (hK.get m0); have ⟨c_R16_0, c_R16_1, c_R16_2⟩ := k_R16.c3; have f_R16 := k_R16.fz; have ni := noInt_of k_R16 nofun; go_simp; obtain rfl := hl1.out; exact ⟨rfl, ks_put (R := R16) hK k_R16.1 0 [.bool (isN ((numX m) / (numX n))), .slice sv15.a.p sv15.a.l sv15.a.c, .slice sv15.b.p sv15.b.l sv15.b.c] (al1 (fun _ => has_put k_R16 _ _) (al1 (spQ ni (hK.get m1)) (al1 (spN ni (hK.get m2)) (al1 (spN ni (hK.get m3)) (al1 (spL o_R13_R16 (hK.get m4)) (al1 (spL o_R12_R16 (hK.get m5)) (al1 (spQ ni (hK.get m6)) (al1 (spN ni (hK.get m7)) (al1 (spN ni (hK.get m8)) (al1 (spS ni (hK.get m9)) (al1 (spR ni (hK.get m10)) (al1 (spR ni (hK.get m11)) (al1 (spL o_R9_R16 (hK.get m12)) (al1 (spL o_R8_R16 (hK.get m13)) (al1 (spQ ni (hK.get m14)) (al1 (spN ni (hK.get m15)) (al1 (spN ni (hK.get m16)) (al1 (spS ni (hK.get m17)) (al1 (spR ni (hK.get m18)) (al1 (spR ni (hK.get m19)) (al1 (spL o_R5_R16 (hK.get m20)) (al1 (spL o_R2_R16 (hK.get m21)) (al1 (spL o_R1_R16 (hK.get m22)) aN)))))))))))))))))))))))⟩
   simp only [Act.put, pB]
   apply txF (wants0 rfl); (· intro w' hK; go_simp; (try go_bits); exact ⟨rfl, rfl⟩); simp only [Act.put, pA, pB, pC]
   refine txEnd (fun W17 hK => ?_)
   go_upto_region 8 with (fail)
   refine wp_region_tx w hK ?_
   clear hK
   apply txF (wants0 rfl); (· intro w' hK; have k_R9 := (hK.get m12); have ⟨c_R9_0, c_R9_1, c_R9_2⟩ := k_R9.c3; go_simp; (try go_bits); exact ⟨rfl, rfl⟩); simp only [Act.put, pA, pB, pC]
   apply txF (wants0 rfl); (· intro w' hK; have k_R13 := (hK.get m4); have ⟨c_R13_0, c_R13_1, c_R13_2⟩ := k_R13.c3; go_simp; (try go_bits); exact ⟨rfl, rfl⟩); simp only [Act.put, pA, pB, pC]
   obtain ⟨z2, hz2⟩ : ∃ b : Int, RowKit.Hid ((if (numX n) = 0 then 10 else 0) = b) := ⟨_, hid rfl⟩
   apply txE (α := Duo Sl Sl) (fun sv => .tuple #[.agg #[.bool (isN ((numX m) / (numX n))), .slice sv.a.p (digs B6 (numQ ((numX m) / (numX n)))).length sv.a.c, .slice sv.b.p (digs B6 (den0 ((numX m) / (numX n)))).length sv.b.c], .int .i64 z2]) (fun sv => [fun w => RefR w (.agg #[.bool (isN ((numX m) / (numX n))), .slice sv.a.p (digs B6 (numQ ((numX m) / (numX n)))).length sv.a.c, .slice sv.b.p (digs B6 (den0 ((numX m) / (numX n)))).length sv.b.c]) ((numX m) / (numX n)), fun w => RefV w (.slice sv.a.p (digs B6 (numQ ((numX m) / (numX n)))).length sv.a.c) (numQ ((numX m) / (numX n))), fun w => RefV w (.slice sv.b.p (digs B6 (den0 ((numX m) / (numX n)))).length sv.b.c) (den0 ((numX m) / (numX n)))]) (wants0 rfl)
   · intro f1 l1 hl1 w' hK; go_simp; (try go_bits); refine (rdiv_q (.agg #[.bool (isN (numX m)), .slice sv7.b.a.p (digs B6 (numQ (numX m))).length sv7.b.a.c, .slice sv7.b.b.p (digs B6 (den0 (numX m))).length sv7.b.b.c]) (.agg #[.bool (isN (numX n)), .slice sv11.b.a.p (digs B6 (numQ (numX n))).length sv11.b.a.c, .slice sv11.b.b.p (digs B6 (den0 (numX n))).length sv11.b.b.c]) (numX m) (numX n) w' (hK.get m17) (hK.get m9) (LmQ.up (b := 1000) ok_m.lm (by decide)) (LmQ.up (b := 1000) ok_n.lm (by decide)) (by decide)).mono ?_; rintro e w5 ⟨y0, rfl, u0, hb⟩; obtain ⟨rfl, rfl⟩ := hl1.out; have u0_0 := u0; obtain ⟨p_u0, c_u0, q_u0, d_u0, rfl, u0_1, u0_2⟩ := u0.slr; exact ⟨_, rfl, (⟨⟨p_u0, 0, c_u0⟩, ⟨q_u0, 0, d_u0⟩⟩ : Duo Sl Sl), (by rw [hz2.out]), hb, .cons (fun w2 h2 => u0_0.below h2) (.cons (fun w2 h2 => u0_1.below h2) (.cons (fun w2 h2 => u0_2.below h2) (Lasts.nil _)))⟩
   intro sv18
   simp only [Act.put, pA, pB, pC, pD, pE]
   iterate 3 (apply txF (wants0 rfl); (· intro w' hK; go_simp; (try go_bits); exact ⟨rfl, rfl⟩); simp only [Act.put, pA, pB, pC])
   apply txA (.cells #[.bool false, .slice none 0 0, .slice none 0 0] 36) (wants0 rfl)
   · intro w' hK; go_simp; rfl
   intro R19 q_R19
   have o_R1_R19 : R1 < R19 := q_R19 _ _ _ m25
   have o_R2_R19 : R2 < R19 := q_R19 _ _ _ m24
   have o_R5_R19 : R5 < R19 := q_R19 _ _ _ m23
   have o_R8_R19 : R8 < R19 := q_R19 _ _ _ m16
   have o_R9_R19 : R9 < R19 := q_R19 _ _ _ m15
   have o_R12_R19 : R12 < R19 := q_R19 _ _ _ m8
   have o_R13_R19 : R13 < R19 := q_R19 _ _ _ m7
   have o_R16_R19 : R16 < R19 := q_R19 _ _ _ m3
   clear q_R19
   simp only [mkOf, Act.put, pA, pB, pC]
   apply txU 0 (Has w.heap.size R19 (.cells #[.bool (isN ((numX m) / (numX n))), .slice sv18.a.p (digs B6 (numQ ((numX m) / (numX n)))).length sv18.a.c, .slice sv18.b.p (digs B6 (den0 ((numX m) / (numX n)))).length sv18.b.c] 36)) (wants0 rfl)
   · intro l1 hl1 w' hK; have k_R19 := (hK.get m0); have ⟨c_R19_0, c_R19_1, c_R19_2⟩ := k_R19.c3; have f_R19 := k_R19.fz; have ni := noInt_of k_R19 nofun; go_simp; obtain rfl := hl1.out; exact ⟨rfl, ks_put (R := R19) hK k_R19.1 0 [.bool (isN ((numX m) / (numX n))), .slice sv18.a.p (digs B6 (numQ ((numX m) / (numX n)))).length sv18.a.c, .slice sv18.b.p (digs B6 (den0 ((numX m) / (numX n)))).length sv18.b.c] (al1 (fun _ => has_put k_R19 _ _) (al1 (spS ni (hK.get m1)) (al1 (spR ni (hK.get m2)) (al1 (spR ni (hK.get m3)) (al1 (spL o_R16_R19 (hK.get m4)) (al1 (spQ ni (hK.get m5)) (al1 (spN ni (hK.get m6)) (al1 (spN ni (hK.get m7)) (al1 (spL o_R13_R19 (hK.get m8)) (al1 (spL o_R12_R19 (hK.get m9)) (al1 (spQ ni (hK.get m10)) (al1 (spN ni (hK.get m11)) (al1 (spN ni (hK.get m12)) (al1 (spS ni (hK.get m13)) (al1 (spR ni (hK.get m14)) (al1 (spR ni (hK.get m15)) (al1 (spL o_R9_R19 (hK.get m16)) (al1 (spL o_R8_R19 (hK.get m17)) (al1 (spQ ni (hK.get m18)) (al1 (spN ni (hK.get m19)) (al1 (spN ni (hK.get m20)) (al1 (spS ni (hK.get m21)) (al1 (spR ni (hK.get m22)) (al1 (spR ni (hK.get m23)) (al1 (spL o_R5_R19 (hK.get m24)) (al1 (spL o_R2_R19 (hK.get m25)) (al1 (spL o_R1_R19 (hK.get m26)) aN)))))))))))))))))))))))))))⟩
   simp only [Act.put, pB]
   apply txF (wants0 rfl); (· intro w' hK; go_simp; (try go_bits); exact ⟨rfl, rfl⟩); simp only [Act.put, pA, pB, pC]
   refine txEnd (fun W20 hK => ?_)
   go_upto_region 9 with (fail)
   have hK0 := hK
   refine wp_region_float0 (w) _ _ [0, 0, 0, 0, 0, 0, 0, 2, 0, 0, 2, 1, 0, 0, 0, 0, 0, 0, 0, 0, 0, 1, 0, 0] (by kernel_rfl) (by kernel_rfl) (by kernel_rfl) (by kernel_rfl) (KS.drew hK0) (KS.drew hK) ?_
   clear hK hK0
   iterate 2 (apply lxF0 (wants0 rfl); (· intro w' h0; go_simp; (try go_bits); exact ⟨rfl, rfl⟩); simp only [Act.put, pA, pB, pC])
   apply lxF0 (wantsg (j := 1) (d := 47) (b := true) rfl rfl rfl rfl); (· intro w' h0; go_simp; (try go_bits); exact ⟨rfl, rfl⟩); simp only [Act.put, pA, pB, pC]
   iterate 2 (apply lxF0 (wants0 rfl); (· intro w' h0; go_simp; (try go_bits); exact ⟨rfl, rfl⟩); simp only [Act.put, pA, pB, pC])
   apply lxF0 (wantsg (j := 4) (d := 50) (b := true) rfl rfl rfl rfl); (· intro w' h0; have k_R8 := (h0.get m17); have ⟨c_R8_0, c_R8_1, c_R8_2⟩ := k_R8.c3; go_simp; (try go_bits); exact ⟨rfl, rfl⟩); simp only [Act.put, pA, pB, pC]
   apply lxF0 (wantsg (j := 4) (d := 50) (b := true) rfl rfl rfl rfl); (· intro w' h0; have k_R12 := (h0.get m9); have ⟨c_R12_0, c_R12_1, c_R12_2⟩ := k_R12.c3; go_simp; (try go_bits); exact ⟨rfl, rfl⟩); simp only [Act.put, pA, pB, pC]
   apply lxE1 (α := Duo Sl Sl) (fun sv => .agg #[.bool (isN ((numX m) * (numX n))), .slice sv.a.p sv.a.l sv.a.c, .slice sv.b.p sv.b.l sv.b.c]) (fun sv => [fun w => RatV w (.agg #[.bool (isN ((numX m) * (numX n))), .slice sv.a.p sv.a.l sv.a.c, .slice sv.b.p sv.b.l sv.b.c]) ((numX m) * (numX n)), fun w => NatV w (.agg #[.slice sv.a.p sv.a.l sv.a.c]) (((numX m) * (numX n)).num.natAbs), fun w => NatV w (.agg #[.slice sv.b.p sv.b.l sv.b.c]) (den0 ((numX m) * (numX n)))]) (wantsg (j := 4) (d := 50) (b := true) rfl rfl rfl rfl)
   · intro f1 l1 hl1 w' h0 hK; go_simp; (try go_bits); refine (qmul_any (.agg #[.bool (isN (numX m)), .slice sv7.a.a.p sv7.a.a.l sv7.a.a.c, .slice sv7.a.b.p sv7.a.b.l sv7.a.b.c]) (.agg #[.bool (isN (numX n)), .slice sv11.a.a.p sv11.a.a.l sv11.a.a.c, .slice sv11.a.b.p sv11.a.b.l sv11.a.b.c]) (numX m) (numX n) w' (hK.get m18) (hK.get m10) (LmQ.up (b := 1000) ok_m.lm (by decide)) (LmQ.up (b := 1000) ok_n.lm (by decide)) (by decide)).mono ?_; rintro e w5 ⟨y0, rfl, u0, hb⟩; obtain ⟨rfl, rfl⟩ := hl1.out; have u0_0 := u0; obtain ⟨p_u0, l_u0, c_u0, q_u0, m_u0, d_u0, rfl, u0_1, u0_2⟩ := u0; exact ⟨_, rfl, (⟨⟨p_u0, l_u0, c_u0⟩, ⟨q_u0, m_u0, d_u0⟩⟩ : Duo Sl Sl), rfl, hb, .cons (fun w2 h2 => u0_0.below h2) (.cons (fun w2 h2 => u0_1.below h2) (.cons (fun w2 h2 => u0_2.below h2) (Lasts.nil _)))⟩
   intro sv21
   simp only [Act.put, pA, pB, pC, pD, pE]
   apply lxF0 (wantsg (j := 4) (d := 50) (b := true) rfl rfl rfl rfl); (· intro w' h0; have k_R9 := (h0.get m16); have ⟨c_R9_0, c_R9_1, c_R9_2⟩ := k_R9.c3; go_simp; (try go_bits); exact ⟨rfl, rfl⟩); simp only [Act.put, pA, pB, pC]
   apply lxF0 (wantsg (j := 4) (d := 50) (b := true) rfl rfl rfl rfl); (· intro w' h0; have k_R13 := (h0.get m8); have ⟨c_R13_0, c_R13_1, c_R13_2⟩ := k_R13.c3; go_simp; (try go_bits); exact ⟨rfl, rfl⟩); simp only [Act.put, pA, pB, pC]
   apply lxE1 (α := Duo Sl Sl) (fun sv => .agg #[.bool (isN ((numX m) * (numX n))), .slice sv.a.p (digs B6 (numQ ((numX m) * (numX n)))).length sv.a.c, .slice sv.b.p (digs B6 (den0 ((numX m) * (numX n)))).length sv.b.c]) (fun sv => [fun w => RefR w (.agg #[.bool (isN ((numX m) * (numX n))), .slice sv.a.p (digs B6 (numQ ((numX m) * (numX n)))).length sv.a.c, .slice sv.b.p (digs B6 (den0 ((numX m) * (numX n)))).length sv.b.c]) ((numX m) * (numX n)), fun w => RefV w (.slice sv.a.p (digs B6 (numQ ((numX m) * (numX n)))).length sv.a.c) (numQ ((numX m) * (numX n))), fun w => RefV w (.slice sv.b.p (digs B6 (den0 ((numX m) * (numX n)))).length sv.b.c) (den0 ((numX m) * (numX n)))]) (wantsg (j := 4) (d := 50) (b := true) rfl rfl rfl rfl)
   · intro f1 l1 hl1 w' h0 hK; go_simp; (try go_bits); refine (rmul_q (.agg #[.bool (isN (numX m)), .slice sv7.b.a.p (digs B6 (numQ (numX m))).length sv7.b.a.c, .slice sv7.b.b.p (digs B6 (den0 (numX m))).length sv7.b.b.c]) (.agg #[.bool (isN (numX n)), .slice sv11.b.a.p (digs B6 (numQ (numX n))).length sv11.b.a.c, .slice sv11.b.b.p (digs B6 (den0 (numX n))).length sv11.b.b.c]) (numX m) (numX n) w' (hK.get m24) (hK.get m16) (LmQ.up (b := 1000) ok_m.lm (by decide)) (LmQ.up (b := 1000) ok_n.lm (by decide)) (by decide)).mono ?_; rintro e w5 ⟨y0, rfl, u0, hb⟩; obtain ⟨rfl, rfl⟩ := hl1.out; have u0_0 := u0; obtain ⟨p_u0, c_u0, q_u0, d_u0, rfl, u0_1, u0_2⟩ := u0.slr; exact ⟨_, rfl, (⟨⟨p_u0, 0, c_u0⟩, ⟨q_u0, 0, d_u0⟩⟩ : Duo Sl Sl), rfl, hb, .cons (fun w2 h2 => u0_0.below h2) (.cons (fun w2 h2 => u0_1.below h2) (.cons (fun w2 h2 => u0_2.below h2) (Lasts.nil _)))⟩
   intro sv22
   simp only [Act.put, pA, pB, pC, pD, pE]
   apply lxH1 (v := .bool true) (wantsg (j := 4) (d := 50) (b := true) rfl rfl rfl rfl)
   · intro v1 hv1 w' h0 hK; go_simp; (try go_bits); refine (is_q (.agg #[.bool (isN ((numX m) * (numX n))), .slice sv21.a.p sv21.a.l sv21.a.c, .slice sv21.b.p sv21.b.l sv21.b.c]) (.agg #[.bool (isN ((numX m) * (numX n))), .slice sv22.a.p (digs B6 (numQ ((numX m) * (numX n)))).length sv22.a.c, .slice sv22.b.p (digs B6 (den0 ((numX m) * (numX n)))).length sv22.b.c]) ((numX m) * (numX n)) ((numX m) * (numX n)) w' (hK.get m3) (hK.get m0) (hB0.below hK.old) (LmQ.up (b := 50) (LmQ.mul ok_m.lm ok_n.lm) (by decide)) (LmQ.up (b := 50) (LmQ.mul ok_m.lm ok_n.lm) (by decide)) rfl).mono ?_; rintro e w5 ⟨rfl, hb⟩; obtain rfl := hv1.out; exact ⟨_, rfl, rfl, hb⟩
   simp only [Act.put, pA, pB, pC]
   iterate 2 (apply lxF0 (wants0 rfl); (· intro w' h0; go_simp; (try go_bits); exact ⟨rfl, rfl⟩); simp only [Act.put, pA, pB, pC])
   iterate 2 (apply lxF0 (wantsg (j := 13) (d := 59) (b := true) rfl rfl rfl rfl); (· intro w' h0; go_simp; (try go_bits); exact ⟨rfl, rfl⟩); simp only [Act.put, pA, pB, pC])
   apply lxF0 (v := .bool true) (wantsg (j := 13) (d := 59) (b := true) rfl rfl rfl rfl); (· intro w' h0; go_simp; (try go_bits); exact ⟨congrArg Value.bool (by rw [← hz1.out, ← hz2.out]; simp), rfl⟩); simp only [Act.put, pA, pB, pC]
   iterate 2 (apply lxF0 (wants0 rfl); (· intro w' h0; go_simp; (try go_bits); exact ⟨rfl, rfl⟩); simp only [Act.put, pA, pB, pC])
   apply lxF0 (wantsg (j := 18) (d := 64) (b := true) rfl rfl rfl rfl); (· intro w' h0; have k_R16 := (h0.get m4); have ⟨c_R16_0, c_R16_1, c_R16_2⟩ := k_R16.c3; go_simp; (try go_bits); exact ⟨rfl, rfl⟩); simp only [Act.put, pA, pB, pC]
   apply lxF0 (wantsg (j := 18) (d := 64) (b := true) rfl rfl rfl rfl); (· intro w' h0; have k_R19 := (h0.get m0); have ⟨c_R19_0, c_R19_1, c_R19_2⟩ := k_R19.c3; go_simp; (try go_bits); exact ⟨rfl, rfl⟩); simp only [Act.put, pA, pB, pC]
   apply lxH1 (v := .bool true) (wantsg (j := 18) (d := 64) (b := true) rfl rfl rfl rfl)
   · intro v1 hv1 w' h0 hK; go_simp; (try go_bits); refine (is_q (.agg #[.bool (isN ((numX m) / (numX n))), .slice sv15.a.p sv15.a.l sv15.a.c, .slice sv15.b.p sv15.b.l sv15.b.c]) (.agg #[.bool (isN ((numX m) / (numX n))), .slice sv18.a.p (digs B6 (numQ ((numX m) / (numX n)))).length sv18.a.c, .slice sv18.b.p (digs B6 (den0 ((numX m) / (numX n)))).length sv18.b.c]) ((numX m) / (numX n)) ((numX m) / (numX n)) w' (hK.get m11) (hK.get m7) (hB0.below hK.old) (LmQ.up (b := 50) (LmQ.quo ok_m.lm ok_n.lm) (by decide)) (LmQ.up (b := 50) (LmQ.quo ok_m.lm ok_n.lm) (by decide)) rfl).mono ?_; rintro e w5 ⟨rfl, hb⟩; obtain rfl := hv1.out; exact ⟨_, rfl, rfl, hb⟩
   simp only [Act.put, pA, pB, pC]
   iterate 2 (apply lxF0 (wants0 rfl); (· intro w' h0; go_simp; (try go_bits); exact ⟨rfl, rfl⟩); simp only [Act.put, pA, pB, pC])
   refine lxEnd (fun W23 hK => ?_)
   go_wp2
   try go_ret
   show Q0 (.returned (.bool true)) _
   exact (by obtain rfl := hQ0.out; exact ⟨rfl, hK.old⟩)
end Go.Proofs.YtiilkcdefpmimaaGreatDoor
