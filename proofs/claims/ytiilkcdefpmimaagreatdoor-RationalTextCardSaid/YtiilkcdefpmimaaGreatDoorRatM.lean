/- The laws RationalText and RationalOf walked. -/
import Derived.Test.YtiilkcdefpmimaaGreatDoorRatL0
namespace Go.Proofs.YtiilkcdefpmimaaGreatDoor
open Go.RowKit
open Go.Lib (decDigits)
theorem qmake_back (v1 v2 : Value) (x : Rat) (w : World) (h1 : NatV w v1 x.num.natAbs) (h2 : NatV w v2 x.den) (hx : LmQ 50 x) :
    Calls Tryz.prog 19 #[.bool (isN x), v1, v2] w fun e w' => ∃ y0, e = .returned (.tuple #[y0, .int .i64 0]) ∧ RatV w' y0 x ∧ Below w.heap.size w w' := by
  have c := qmake_any v1 v2 (isN x) x.num.natAbs x.den w h1 h2 (by have := hx.n.len; omega) (by have := hx.d.len; omega)
  rwa [ofS_self, show errD x.den = 0 from if_neg x.den_nz] at c
theorem text_zero : textQ 0 = [48] := text_of (b := false) (n := 0) (d := 1) (by decide +kernel) (by rw [dec1 (by decide)]; rfl)
set_option maxRecDepth 100000 in
set_option maxHeartbeats 1000000 in
theorem rationalText_walk (v0 : Value) (n : NumS) (w : World) (h0 : NumV w v0 n) (hB0 : Bas w) (d_n : (∀ d ∈ n.ds, d < B32) ∧ ∀ d ∈ n.es, d < B32) :
    Calls Tryz.prog 4 #[v0] w fun e w' => e = .returned (.bool true) ∧ Below w.heap.size w w' := by
  have h0_0 := h0; obtain ⟨p_h0, c_h0, q_h0, d_h0, rfl, h0_1, h0_2⟩ := h0.sl
  have hK : KS w [] w := (KS.start w)
  refine Calls.hide (fun Q0 hQ0 => ?_)
  go_enter Tryz.func4, Tryz.ntmps4
  go_upto_region 0 with (fail)
  refine wp_region_tx w hK ?_
  clear hK
  apply txA (.cells #[.bool n.neg, .slice p_h0 n.ds.length c_h0, .slice q_h0 n.es.length d_h0] 43) (wants0 rfl)
  · intro w' hK; go_simp; rfl
  intro R1 q_R1
  clear q_R1
  simp only [mkOf, Act.put, pA, pB, pC]
  apply txF (wants0 rfl); (· intro w' hK; go_simp; (try go_bits); exact ⟨rfl, rfl⟩); simp only [Act.put, pA, pB, pC]
  refine txEnd (fun W2 hK => ?_)
  go_upto_region 1 with (fail)
  refine wp_region_tx w hK ?_
  clear hK
  apply txH (v := .bool true) (wants0 rfl)
  · intro v1 hv1 w' hK; go_simp; (try go_bits); refine (awake_q   w' (hB0.below hK.old) ).mono ?_; rintro e w5 ⟨rfl, hb⟩; obtain rfl := hv1.out; exact ⟨_, rfl, rfl, hb⟩
  simp only [Act.put, pA, pB, pC]
  apply txF (wants0 rfl); (· intro w' hK; go_simp; (try go_bits); exact ⟨rfl, rfl⟩); simp only [Act.put, pA, pB, pC]
  refine txEnd (fun W3 hK => ?_)
  go_upto_region 3 with (fail)
  refine wp_region_tx w hK ?_
  clear hK
  apply txF (wants0 rfl); (· intro w' hK; have k_R1 := (hK.get m0); have ⟨c_R1_0, c_R1_1, c_R1_2⟩ := k_R1.c3; go_simp; (try go_bits); exact ⟨rfl, rfl⟩); simp only [Act.put, pA, pB, pC]
  apply txA (.cells #[.bool n.neg, .slice p_h0 n.ds.length c_h0, .slice q_h0 n.es.length d_h0] 43) (wants0 rfl)
  · intro w' hK; go_simp; rfl
  intro R4 q_R4
  have o_R1_R4 : R1 < R4 := q_R4 _ _ _ m0
  clear q_R4
  simp only [mkOf, Act.put, pA, pB, pC]
  obtain ⟨b1, hb1⟩ : ∃ b : Bool, RowKit.Hid (decide (∀ x ∈ ([⟨.bool n.neg, p_h0, n.ds.length, c_h0, q_h0, n.es.length, d_h0⟩] : List NC), x.l ≤ 8 ∧ x.m ≤ 8) = b) := ⟨_, hid rfl⟩
  apply txH (v := .bool b1) (wants0 rfl)
  · intro v1 hv1; intro w' hK; go_simp; (try go_bits); refine (brief_any R4 ([⟨.bool n.neg, p_h0, n.ds.length, c_h0, q_h0, n.es.length, d_h0⟩] : List NC) w' (hK.get m0) (by simp)).mono ?_; rintro e w5 ⟨rfl, hb⟩; obtain rfl := hv1.out; exact ⟨_, rfl, (by rw [hb1.out]), hb⟩
  simp only [Act.put, pA, pB, pC]
  apply txF (wants0 rfl); (· intro w' hK; go_simp; (try go_bits); exact ⟨rfl, rfl⟩); simp only [Act.put, pA, pB, pC]
  refine txEnd (fun W5 hK => ?_)
  cases b1
  · --
   go_wp2
   try go_ret
   show Q0 (.returned (.bool true)) _
   exact (by obtain rfl := hQ0.out; exact ⟨rfl, hK.old⟩)
  · --
   have hq := brief_1 hb1.out rfl
   have ok_n : NumOk n := nok d_n hq
   go_upto_region 5 with (fail)
   refine wp_region_tx w hK ?_
   clear hK
   apply txF (wants0 rfl); (· intro w' hK; have k_R1 := (hK.get m1); have ⟨c_R1_0, c_R1_1, c_R1_2⟩ := k_R1.c3; go_simp; (try go_bits); exact ⟨rfl, rfl⟩); simp only [Act.put, pA, pB, pC]
   apply txE (α := Duo (Duo Sl Sl) (Duo Sl Sl)) (fun sv => .tuple #[.agg #[.bool (isN (numX n)), .slice sv.a.a.p sv.a.a.l sv.a.a.c, .slice sv.a.b.p sv.a.b.l sv.a.b.c], .agg #[.bool (isN (numX n)), .slice sv.b.a.p (digs B6 (numQ (numX n))).length sv.b.a.c, .slice sv.b.b.p (digs B6 (den0 (numX n))).length sv.b.b.c], .bool true]) (fun sv => [fun w => RatV w (.agg #[.bool (isN (numX n)), .slice sv.a.a.p sv.a.a.l sv.a.a.c, .slice sv.a.b.p sv.a.b.l sv.a.b.c]) (numX n), fun w => NatV w (.agg #[.slice sv.a.a.p sv.a.a.l sv.a.a.c]) ((numX n).num.natAbs), fun w => NatV w (.agg #[.slice sv.a.b.p sv.a.b.l sv.a.b.c]) (den0 (numX n)), fun w => RefR w (.agg #[.bool (isN (numX n)), .slice sv.b.a.p (digs B6 (numQ (numX n))).length sv.b.a.c, .slice sv.b.b.p (digs B6 (den0 (numX n))).length sv.b.b.c]) (numX n), fun w => RefV w (.slice sv.b.a.p (digs B6 (numQ (numX n))).length sv.b.a.c) (numQ (numX n)), fun w => RefV w (.slice sv.b.b.p (digs B6 (den0 (numX n))).length sv.b.b.c) (den0 (numX n))]) (wants0 rfl)
   · intro f1 l1 hl1 w' hK; go_simp; (try go_bits); refine (of_q (.agg #[.bool n.neg, .slice p_h0 n.ds.length c_h0, .slice q_h0 n.es.length d_h0]) n w' (h0_0.below hK.old) (hB0.below hK.old) ok_n).mono ?_; rintro e w5 ⟨y0, y1, rfl, u0, u1, hb⟩; obtain ⟨rfl, rfl⟩ := hl1.out; have u0_0 := u0; obtain ⟨p_u0, l_u0, c_u0, q_u0, m_u0, d_u0, rfl, u0_1, u0_2⟩ := u0; have u1_0 := u1; obtain ⟨p_u1, c_u1, q_u1, d_u1, rfl, u1_1, u1_2⟩ := u1.slr; exact ⟨_, rfl, (⟨(⟨⟨p_u0, l_u0, c_u0⟩, ⟨q_u0, m_u0, d_u0⟩⟩ : Duo Sl Sl), (⟨⟨p_u1, 0, c_u1⟩, ⟨q_u1, 0, d_u1⟩⟩ : Duo Sl Sl)⟩ : Duo (Duo Sl Sl) (Duo Sl Sl)), rfl, hb, .cons (fun w2 h2 => u0_0.below h2) (.cons (fun w2 h2 => u0_1.below h2) (.cons (fun w2 h2 => u0_2.below h2) (.cons (fun w2 h2 => u1_0.below h2) (.cons (fun w2 h2 => u1_1.below h2) (.cons (fun w2 h2 => u1_2.below h2) (Lasts.nil _))))))⟩
   intro sv6
   simp only [Act.put, pA, pB, pC, pD, pE]
   iterate 4 (apply txF (wants0 rfl); (· intro w' hK; go_simp; (try go_bits); exact ⟨rfl, rfl⟩); simp only [Act.put, pA, pB, pC])
   apply txA (.cells #[.bool false, .slice none 0 0, .slice none 0 0] 29) (wants0 rfl)
   · intro w' hK; go_simp; rfl
   intro R7 q_R7
   have o_R1_R7 : R1 < R7 := q_R7 _ _ _ m7
   have o_R4_R7 : R4 < R7 := q_R7 _ _ _ m6
   clear q_R7
   simp only [mkOf, Act.put, pA, pB, pC]
   apply txA (.cells #[.bool false, .slice none 0 0, .slice none 0 0] 36) (wants0 rfl)
   · intro w' hK; go_simp; rfl
   intro R8 q_R8
   have o_R1_R8 : R1 < R8 := q_R8 _ _ _ m8
   have o_R4_R8 : R4 < R8 := q_R8 _ _ _ m7
   have o_R7_R8 : R7 < R8 := q_R8 _ _ _ m0
   clear q_R8
   simp only [mkOf, Act.put, pA, pB, pC]
   apply txU 1 (Has w.heap.size R7 (.cells #[.bool (isN (numX n)), .slice sv6.a.a.p sv6.a.a.l sv6.a.a.c, .slice sv6.a.b.p sv6.a.b.l sv6.a.b.c] 29)) (wants0 rfl)
   · intro l1 hl1 w' hK; have k_R7 := (hK.get m1); have ⟨c_R7_0, c_R7_1, c_R7_2⟩ := k_R7.c3; have f_R7 := k_R7.fz; have ni := noInt_of k_R7 nofun; go_simp; obtain rfl := hl1.out; exact ⟨rfl, ks_put (R := R7) hK k_R7.1 0 [.bool (isN (numX n)), .slice sv6.a.a.p sv6.a.a.l sv6.a.a.c, .slice sv6.a.b.p sv6.a.b.l sv6.a.b.c] (al1 (spG o_R7_R8 (hK.get m0)) (al1 (fun _ => has_put k_R7 _ _) (al1 (spQ ni (hK.get m2)) (al1 (spN ni (hK.get m3)) (al1 (spN ni (hK.get m4)) (al1 (spS ni (hK.get m5)) (al1 (spR ni (hK.get m6)) (al1 (spR ni (hK.get m7)) (al1 (spL o_R4_R7 (hK.get m8)) (al1 (spL o_R1_R7 (hK.get m9)) aN))))))))))⟩
   simp only [Act.put, pB, pC]
   apply txU 0 (Has w.heap.size R8 (.cells #[.bool (isN (numX n)), .slice sv6.b.a.p (digs B6 (numQ (numX n))).length sv6.b.a.c, .slice sv6.b.b.p (digs B6 (den0 (numX n))).length sv6.b.b.c] 36)) (wants0 rfl)
   · intro l1 hl1 w' hK; have k_R8 := (hK.get m0); have ⟨c_R8_0, c_R8_1, c_R8_2⟩ := k_R8.c3; have f_R8 := k_R8.fz; have ni := noInt_of k_R8 nofun; go_simp; obtain rfl := hl1.out; exact ⟨rfl, ks_put (R := R8) hK k_R8.1 0 [.bool (isN (numX n)), .slice sv6.b.a.p (digs B6 (numQ (numX n))).length sv6.b.a.c, .slice sv6.b.b.p (digs B6 (den0 (numX n))).length sv6.b.b.c] (al1 (fun _ => has_put k_R8 _ _) (al1 (spL o_R7_R8 (hK.get m1)) (al1 (spQ ni (hK.get m2)) (al1 (spN ni (hK.get m3)) (al1 (spN ni (hK.get m4)) (al1 (spS ni (hK.get m5)) (al1 (spR ni (hK.get m6)) (al1 (spR ni (hK.get m7)) (al1 (spL o_R4_R8 (hK.get m8)) (al1 (spL o_R1_R8 (hK.get m9)) aN))))))))))⟩
   simp only [Act.put, pB]
   apply txF (wants0 rfl); (· intro w' hK; go_simp; (try go_bits); exact ⟨rfl, rfl⟩); simp only [Act.put, pA, pB, pC]
   refine txEnd (fun W9 hK => ?_)
   have e1 := ok_n.lm.n.len
   have e2 := ok_n.lm.d.len
   have e3 : (digs B6 (numQ (numX n))).length ≤ 16 := ok_n.lm.n.len6
   have e4 : (digs B6 (den0 (numX n))).length ≤ 16 := ok_n.lm.d0.len6
   have e5 : (decDigits (numQ (numX n))).length ≤ 145 := dec_len ok_n.lm.n
   have e6 : (decDigits (den0 (numX n))).length ≤ 145 := dec_len ok_n.lm.d0
   have e7 : (digs B6 1).length ≤ 1 := by rw [digs6_1]; exact Nat.le_refl _
   have e8 : (decDigits 1).length ≤ 1 := by rw [dec1 (by decide)]; exact Nat.le_refl _
   go_upto_region 6 with (fail)
   refine wp_region_tx w hK ?_
   clear hK
   apply txF (wants0 rfl); (· intro w' hK; go_simp; (try go_bits); exact ⟨rfl, rfl⟩); simp only [Act.put, pA, pB, pC]
   apply txF (wants0 rfl); (· intro w' hK; have k_R8 := (hK.get m0); have c_R8_2 := k_R8.at 2 rfl; go_simp; (try go_bits); exact ⟨rfl, rfl⟩); simp only [Act.put, pA, pB, pC]
   apply txF (wants0 rfl); (· intro w' hK; go_simp; (try go_bits); exact ⟨rfl, rfl⟩); simp only [Act.put, pA, pB, pC]
   refine txEnd (fun W10 hK => ?_)
   go_upto_region 7 with (fail)
   refine wp_region_tx w hK ?_
   clear hK
   iterate 2 (apply txF (wants0 rfl); (· intro w' hK; go_simp; (try go_bits); exact ⟨rfl, rfl⟩); simp only [Act.put, pA, pB, pC])
   obtain ⟨b2, hb2⟩ : ∃ b : Bool, RowKit.Hid (((((digs B6 (den0 (numX n))).length : Int)) == 0) = b) := ⟨_, hid rfl⟩
   apply txB b2 (wants0 rfl); (· intro w' hK; go_simp; (try go_bits); exact ⟨by have q := hb2.out; subst q; first | rfl | simp, rfl⟩); simp only [Act.put, pA, pB, pC]
   refine txEnd (fun W11 hK => ?_)
   cases b2
   · --
    go_upto_region 9 with (fail)
    have z_R1 : R1 < W11.heap.size := (hK.get m9).ltS
    have z_R4 : R4 < W11.heap.size := (hK.get m8).ltS
    have z_R7 : R7 < W11.heap.size := (hK.get m1).ltS
    have z_R8 : R8 < W11.heap.size := (hK.get m0).ltS
    have v_W11 := hK.old.size
    have hB0_W11 := hB0.below hK.old
    have h0_0_W11 := h0_0.below hK.old
    have h0_1_W11 := h0_1.below hK.old
    have h0_2_W11 := h0_2.below hK.old
    have hKo := hK
    replace hK := hK.re
    have hK0 := hK
    refine wp_region_float0 (W11) _ _ [0, 0, 0, 2, 0, 2, 2, 0, 0, 0, 3, 4, 0] (by kernel_rfl) (by kernel_rfl) (by kernel_rfl) (by kernel_rfl) (KS.drew hK0) (KS.drew hK) ?_
    clear hK hK0
    apply lxF0 (wants0 rfl); (· intro w' h0; go_simp; (try go_bits); exact ⟨rfl, rfl⟩); simp only [Act.put, pA, pB, pC]
    apply lxF0 (wants0 rfl); (· intro w' h0; have k_R8 := (h0.get m0); have c_R8_0 := k_R8.at 0 rfl; go_simp; (try go_bits); exact ⟨rfl, rfl⟩); simp only [Act.put, pA, pB, pC]
    apply lxF0 (wants0 rfl); (· intro w' h0; have k_R7 := (h0.get m1); have ⟨c_R7_0, c_R7_1, c_R7_2⟩ := k_R7.c3; go_simp; (try go_bits); exact ⟨rfl, rfl⟩); simp only [Act.put, pA, pB, pC]
    apply lxE1 (α := Sl) (fun sv => .agg #[.slice sv.p sv.l sv.c]) (fun sv => [fun w => NatV w (.agg #[.slice sv.p sv.l sv.c]) ((numX n).num.natAbs)]) (wants0 rfl)
    · intro f1 l1 hl1 w' h0 hK; go_simp; (try go_bits); refine (num_any (.agg #[.bool (isN (numX n)), .slice sv6.a.a.p sv6.a.a.l sv6.a.a.c, .slice sv6.a.b.p sv6.a.b.l sv6.a.b.c]) (numX n) w' (hK.get m2) ).mono ?_; rintro e w5 ⟨y0, rfl, u0, hb⟩; obtain ⟨rfl, rfl⟩ := hl1.out; obtain ⟨p_u0, c_u0, rfl, _⟩ := u0.digp; exact ⟨_, rfl, (⟨p_u0, _, c_u0⟩ : Sl), rfl, hb, .cons (fun w2 h2 => u0.below h2) (Lasts.nil _)⟩
    intro sv12
    simp only [Act.put, pA, pB, pC, pD, pE]
    apply lxF0 (wants0 rfl); (· intro w' h0; have k_R7 := (h0.get m1); have ⟨c_R7_0, c_R7_1, c_R7_2⟩ := k_R7.c3; go_simp; (try go_bits); exact ⟨rfl, rfl⟩); simp only [Act.put, pA, pB, pC]
    apply lxE1 (α := Sl) (fun sv => .agg #[.slice sv.p sv.l sv.c]) (fun sv => [fun w => NatV w (.agg #[.slice sv.p sv.l sv.c]) ((numX n).den)]) (wants0 rfl)
    · intro f1 l1 hl1 w' h0 hK; go_simp; (try go_bits); refine (den_any (.agg #[.bool (isN (numX n)), .slice sv6.a.a.p sv6.a.a.l sv6.a.a.c, .slice sv6.a.b.p sv6.a.b.l sv6.a.b.c]) (numX n) w' (hK.get m3) ).mono ?_; rintro e w5 ⟨y0, rfl, u0, hb⟩; obtain ⟨rfl, rfl⟩ := hl1.out; obtain ⟨p_u0, c_u0, rfl, _⟩ := u0.digp; exact ⟨_, rfl, (⟨p_u0, _, c_u0⟩ : Sl), rfl, hb, .cons (fun w2 h2 => u0.below h2) (Lasts.nil _)⟩
    intro sv13
    simp only [Act.put, pA, pB, pC, pD, pE]
    apply lxE1 (α := Duo Sl Sl) (fun sv => .tuple #[.agg #[.bool (isN (numX n)), .slice sv.a.p sv.a.l sv.a.c, .slice sv.b.p sv.b.l sv.b.c], .int .i64 0]) (fun sv => [fun w => RatV w (.agg #[.bool (isN (numX n)), .slice sv.a.p sv.a.l sv.a.c, .slice sv.b.p sv.b.l sv.b.c]) (numX n), fun w => NatV w (.agg #[.slice sv.a.p sv.a.l sv.a.c]) ((numX n).num.natAbs), fun w => NatV w (.agg #[.slice sv.b.p sv.b.l sv.b.c]) (den0 (numX n))]) (wants0 rfl)
    · intro f1 l1 hl1 w' h0 hK; go_simp; (try go_bits); refine (qmake_back (.agg #[.slice sv12.p sv12.l sv12.c]) (.agg #[.slice sv13.p sv13.l sv13.c]) (numX n) w' (hK.get m1) (hK.get m0) (ok_n.lm.up (by decide))).mono ?_; rintro e w5 ⟨y0, rfl, u0, hb⟩; obtain ⟨rfl, rfl⟩ := hl1.out; have u0_0 := u0; obtain ⟨p_u0, l_u0, c_u0, q_u0, m_u0, d_u0, rfl, u0_1, u0_2⟩ := u0; exact ⟨_, rfl, (⟨⟨p_u0, l_u0, c_u0⟩, ⟨q_u0, m_u0, d_u0⟩⟩ : Duo Sl Sl), rfl, hb, .cons (fun w2 h2 => u0_0.below h2) (.cons (fun w2 h2 => u0_1.below h2) (.cons (fun w2 h2 => u0_2.below h2) (Lasts.nil _)))⟩
    intro sv14
    simp only [Act.put, pA, pB, pC, pD, pE]
    iterate 3 (apply lxF0 (wants0 rfl); (· intro w' h0; go_simp; (try go_bits); exact ⟨rfl, rfl⟩); simp only [Act.put, pA, pB, pC])
    apply lxA0 (.cells #[.bool false, .slice none 0 0, .slice none 0 0] 29) (wants0 rfl)
    · intro w' h0; go_simp; rfl
    intro R15
    simp only [mkOf, Act.put, pA, pB, pC]
    apply lxU1 0 (Has W11.heap.size R15 (.cells #[.bool (isN (numX n)), .slice sv14.a.p sv14.a.l sv14.a.c, .slice sv14.b.p sv14.b.l sv14.b.c] 29)) (wants0 rfl)
    · intro g0 l1 hl1 w' h0 hK; have k_R15 := (hK.get m0); have ⟨c_R15_0, c_R15_1, c_R15_2⟩ := k_R15.c3; have f_R15 := k_R15.fz; have ni := noInt_of k_R15 nofun; go_simp; obtain ⟨rfl, rfl⟩ := hl1.out; exact ⟨rfl, ks_put (R := R15) h0 k_R15.1 0 [.bool (isN (numX n)), .slice sv14.a.p sv14.a.l sv14.a.c, .slice sv14.b.p sv14.b.l sv14.b.c] (al1 (spL (Nat.lt_of_lt_of_le z_R8 k_R15.1) (h0.get m0)) (al1 (spL (Nat.lt_of_lt_of_le z_R7 k_R15.1) (h0.get m1)) (al1 (spQ ni (h0.get m2)) (al1 (spN ni (h0.get m3)) (al1 (spN ni (h0.get m4)) (al1 (spS ni (h0.get m5)) (al1 (spR ni (h0.get m6)) (al1 (spR ni (h0.get m7)) (al1 (spL (Nat.lt_of_lt_of_le z_R4 k_R15.1) (h0.get m8)) (al1 (spL (Nat.lt_of_lt_of_le z_R1 k_R15.1) (h0.get m9)) aN)))))))))), ks_put (R := R15) hK k_R15.1 0 [.bool (isN (numX n)), .slice sv14.a.p sv14.a.l sv14.a.c, .slice sv14.b.p sv14.b.l sv14.b.c] (al1 (fun _ => has_put k_R15 _ _) (al1 (spQ ni (hK.get m1)) (al1 (spN ni (hK.get m2)) (al1 (spN ni (hK.get m3)) (al1 (spN ni (hK.get m4)) (al1 (spN ni (hK.get m5)) (al1 (spL (Nat.lt_of_lt_of_le z_R8 k_R15.1) (hK.get m6)) (al1 (spL (Nat.lt_of_lt_of_le z_R7 k_R15.1) (hK.get m7)) (al1 (spQ ni (hK.get m8)) (al1 (spN ni (hK.get m9)) (al1 (spN ni (hK.get m10)) (al1 (spS ni (hK.get m11)) (al1 (spR ni (hK.get m12)) (al1 (spR ni (hK.get m13)) (al1 (spL (Nat.lt_of_lt_of_le z_R4 k_R15.1) (hK.get m14)) (al1 (spL (Nat.lt_of_lt_of_le z_R1 k_R15.1) (hK.get m15)) aN))))))))))))))))⟩
    simp only [Act.put, pB]
    apply lxF0 (wants0 rfl); (· intro w' h0; go_simp; (try go_bits); exact ⟨rfl, rfl⟩); simp only [Act.put, pA, pB, pC]
    refine lxEnd (fun W16 hK => ?_)
    have o_R1_R15 : R1 < R15 := Nat.lt_of_lt_of_le z_R1 (hK.get m0).1
    have o_R4_R15 : R4 < R15 := Nat.lt_of_lt_of_le z_R4 (hK.get m0).1
    have o_R7_R15 : R7 < R15 := Nat.lt_of_lt_of_le z_R7 (hK.get m0).1
    have o_R8_R15 : R8 < R15 := Nat.lt_of_lt_of_le z_R8 (hK.get m0).1
    replace hK := hKo.over hK
    clear hKo
    go_upto_region 10 with (fail)
    refine wp_region_tx w hK ?_
    clear hK
    apply txA (.cells #[.bool false, .slice none 0 0, .slice none 0 0] 29) (wants0 rfl)
    · intro w' hK; go_simp; rfl
    intro R17 q_R17
    have o_R1_R17 : R1 < R17 := q_R17 _ _ _ m15
    have o_R4_R17 : R4 < R17 := q_R17 _ _ _ m14
    have o_R7_R17 : R7 < R17 := q_R17 _ _ _ m7
    have o_R8_R17 : R8 < R17 := q_R17 _ _ _ m6
    have o_R15_R17 : R15 < R17 := q_R17 _ _ _ m0
    clear q_R17
    simp only [mkOf, Act.put, pA, pB, pC]
    refine txEnd (fun W18 hK => ?_)
    replace hK := hK.add (F := fun w => RatV w (.agg #[.bool false, .slice none 0 0, .slice none 0 0]) ((0 : Rat))) fun w' _ => RatV.zero w'
    go_upto_region 11 with (fail)
    have hK0 := hK
    refine wp_region_float0 (w) _ _ [0, 0, 0, 0, 1, 0, 0, 0, 2, 1, 0, 0, 1, 0, 0, 0, 0, 2, 1, 0, 1, 0, 0, 0, 0, 0, 0, 0, 0, 0, 1, 0, 0, 0, 1, 0, 0, 0, 0, 2, 1, 0, 0, 0] (by kernel_rfl) (by kernel_rfl) (by kernel_rfl) (by kernel_rfl) (KS.drew hK0) (KS.drew hK) ?_
    clear hK hK0
    iterate 2 (apply lxF0 (wants0 rfl); (· intro w' h0; go_simp; (try go_bits); exact ⟨rfl, rfl⟩); simp only [Act.put, pA, pB, pC])
    apply lxF0 (wantsg (j := 1) (d := 39) (b := true) rfl rfl rfl rfl); (· intro w' h0; have k_R7 := (h0.get m9); have ⟨c_R7_0, c_R7_1, c_R7_2⟩ := k_R7.c3; go_simp; (try go_bits); exact ⟨rfl, rfl⟩); simp only [Act.put, pA, pB, pC]
    apply lxF0 (wantsg (j := 1) (d := 39) (b := true) rfl rfl rfl rfl); (· intro w' h0; have k_R8 := (h0.get m8); have ⟨c_R8_0, c_R8_1, c_R8_2⟩ := k_R8.c3; go_simp; (try go_bits); exact ⟨rfl, rfl⟩); simp only [Act.put, pA, pB, pC]
    apply lxH1 (v := .bool true) (wantsg (j := 1) (d := 39) (b := true) rfl rfl rfl rfl)
    · intro v1 hv1 w' h0 hK; go_simp; (try go_bits); refine (is_q (.agg #[.bool (isN (numX n)), .slice sv6.a.a.p sv6.a.a.l sv6.a.a.c, .slice sv6.a.b.p sv6.a.b.l sv6.a.b.c]) (.agg #[.bool (isN (numX n)), .slice sv6.b.a.p (digs B6 (numQ (numX n))).length sv6.b.a.c, .slice sv6.b.b.p (digs B6 (den0 (numX n))).length sv6.b.b.c]) (numX n) (numX n) w' (hK.get m10) (hK.get m13) (hB0.below hK.old) (LmQ.up (b := 50) ok_n.lm (by decide)) (LmQ.up (b := 50) ok_n.lm (by decide)) rfl).mono ?_; rintro e w5 ⟨rfl, hb⟩; obtain rfl := hv1.out; exact ⟨_, rfl, rfl, hb⟩
    simp only [Act.put, pA, pB, pC]
    iterate 2 (apply lxF0 (wants0 rfl); (· intro w' h0; go_simp; (try go_bits); exact ⟨rfl, rfl⟩); simp only [Act.put, pA, pB, pC])
    apply lxF0 (wantsg (j := 6) (d := 44) (b := true) rfl rfl rfl rfl); (· intro w' h0; have k_R7 := (h0.get m9); have ⟨c_R7_0, c_R7_1, c_R7_2⟩ := k_R7.c3; go_simp; (try go_bits); exact ⟨rfl, rfl⟩); simp only [Act.put, pA, pB, pC]
    apply lxE1 (α := Sl) (fun sv => .agg #[.slice sv.p sv.l sv.c]) (fun sv => [fun w => NatV w (.agg #[.slice sv.p sv.l sv.c]) ((numX n).num.natAbs)]) (wantsg (j := 6) (d := 44) (b := true) rfl rfl rfl rfl)
    · intro f1 l1 hl1 w' h0 hK; go_simp; (try go_bits); refine (num_any (.agg #[.bool (isN (numX n)), .slice sv6.a.a.p sv6.a.a.l sv6.a.a.c, .slice sv6.a.b.p sv6.a.b.l sv6.a.b.c]) (numX n) w' (hK.get m10) ).mono ?_; rintro e w5 ⟨y0, rfl, u0, hb⟩; obtain ⟨rfl, rfl⟩ := hl1.out; obtain ⟨p_u0, c_u0, rfl, _⟩ := u0.digp; exact ⟨_, rfl, (⟨p_u0, _, c_u0⟩ : Sl), rfl, hb, .cons (fun w2 h2 => u0.below h2) (Lasts.nil _)⟩
    intro sv19
    simp only [Act.put, pA, pB, pC, pD, pE]
    apply lxH1 (v := .string ⟨(decDigits ((numX n).num.natAbs)).toArray⟩) (wantsg (j := 6) (d := 44) (b := true) rfl rfl rfl rfl)
    · intro v1 hv1 w' h0 hK; go_simp; (try go_bits); refine (ntext_q (.agg #[.slice sv19.p sv19.l sv19.c]) ((numX n).num.natAbs) w' (hK.get m0) (hB0.below hK.old) (by omega)).mono ?_; rintro e w5 ⟨rfl, hb⟩; obtain rfl := hv1.out; exact ⟨_, rfl, rfl, hb⟩
    simp only [Act.put, pA, pB, pC]
    apply lxF0 (wantsg (j := 6) (d := 44) (b := true) rfl rfl rfl rfl); (· intro w' h0; go_simp; (try go_bits); exact ⟨rfl, rfl⟩); simp only [Act.put, pA, pB, pC]
    apply lxF0 (wantsg (j := 6) (d := 44) (b := true) rfl rfl rfl rfl); (· intro w' h0; have k_R8 := (h0.get m8); have c_R8_1 := k_R8.at 1 rfl; go_simp; (try go_bits); exact ⟨rfl, rfl⟩); simp only [Act.put, pA, pB, pC]
    apply lxH1 (v := .string ⟨(decDigits (numQ (numX n))).toArray⟩) (wantsg (j := 6) (d := 44) (b := true) rfl rfl rfl rfl)
    · intro v1 hv1 w' h0 hK; go_simp; (try go_bits); refine (rtext_any (.slice sv6.b.a.p (digs B6 (numQ (numX n))).length sv6.b.a.c) (numQ (numX n)) w' (hK.get m15) (by omega) (by omega)).mono ?_; rintro e w5 ⟨rfl, hb⟩; obtain rfl := hv1.out; exact ⟨_, rfl, rfl, hb⟩
    simp only [Act.put, pA, pB, pC]
    apply lxF0 (v := .bool true) (wantsg (j := 6) (d := 44) (b := true) rfl rfl rfl rfl); (· intro w' h0; go_simp; (try go_bits); exact ⟨congrArg Value.bool (by simp [numQ]), rfl⟩); simp only [Act.put, pA, pB, pC]
    iterate 2 (apply lxF0 (wants0 rfl); (· intro w' h0; go_simp; (try go_bits); exact ⟨rfl, rfl⟩); simp only [Act.put, pA, pB, pC])
    apply lxF0 (wantsg (j := 15) (d := 53) (b := true) rfl rfl rfl rfl); (· intro w' h0; have k_R7 := (h0.get m9); have ⟨c_R7_0, c_R7_1, c_R7_2⟩ := k_R7.c3; go_simp; (try go_bits); exact ⟨rfl, rfl⟩); simp only [Act.put, pA, pB, pC]
    apply lxE1 (α := Sl) (fun sv => .agg #[.slice sv.p sv.l sv.c]) (fun sv => [fun w => NatV w (.agg #[.slice sv.p sv.l sv.c]) ((numX n).den)]) (wantsg (j := 15) (d := 53) (b := true) rfl rfl rfl rfl)
    · intro f1 l1 hl1 w' h0 hK; go_simp; (try go_bits); refine (den_any (.agg #[.bool (isN (numX n)), .slice sv6.a.a.p sv6.a.a.l sv6.a.a.c, .slice sv6.a.b.p sv6.a.b.l sv6.a.b.c]) (numX n) w' (hK.get m11) ).mono ?_; rintro e w5 ⟨y0, rfl, u0, hb⟩; obtain ⟨rfl, rfl⟩ := hl1.out; obtain ⟨p_u0, c_u0, rfl, _⟩ := u0.digp; exact ⟨_, rfl, (⟨p_u0, _, c_u0⟩ : Sl), rfl, hb, .cons (fun w2 h2 => u0.below h2) (Lasts.nil _)⟩
    intro sv20
    simp only [Act.put, pA, pB, pC, pD, pE]
    apply lxH1 (v := .string ⟨(decDigits ((numX n).den)).toArray⟩) (wantsg (j := 15) (d := 53) (b := true) rfl rfl rfl rfl)
    · intro v1 hv1 w' h0 hK; go_simp; (try go_bits); refine (ntext_q (.agg #[.slice sv20.p sv20.l sv20.c]) ((numX n).den) w' (hK.get m0) (hB0.below hK.old) (by omega)).mono ?_; rintro e w5 ⟨rfl, hb⟩; obtain rfl := hv1.out; exact ⟨_, rfl, rfl, hb⟩
    simp only [Act.put, pA, pB, pC]
    apply lxF0 (wantsg (j := 15) (d := 53) (b := true) rfl rfl rfl rfl); (· intro w' h0; go_simp; (try go_bits); exact ⟨rfl, rfl⟩); simp only [Act.put, pA, pB, pC]
    apply lxH1 (v := .string ⟨(decDigits (den0 (numX n))).toArray⟩) (wantsg (j := 15) (d := 53) (b := true) rfl rfl rfl rfl)
    · intro v1 hv1 w' h0 hK; go_simp; (try go_bits); refine (rtext_any (.slice sv6.b.b.p (digs B6 (den0 (numX n))).length sv6.b.b.c) (den0 (numX n)) w' (hK.get m17) (by omega) (by omega)).mono ?_; rintro e w5 ⟨rfl, hb⟩; obtain rfl := hv1.out; exact ⟨_, rfl, rfl, hb⟩
    simp only [Act.put, pA, pB, pC]
    apply lxF0 (v := .bool true) (wantsg (j := 15) (d := 53) (b := true) rfl rfl rfl rfl); (· intro w' h0; go_simp; (try go_bits); exact ⟨congrArg Value.bool (by first | (rw [den_f hb2.out]; simp) | (rw [← den_t hb2.out]; simp)), rfl⟩); simp only [Act.put, pA, pB, pC]
    iterate 2 (apply lxF0 (wants0 rfl); (· intro w' h0; go_simp; (try go_bits); exact ⟨rfl, rfl⟩); simp only [Act.put, pA, pB, pC])
    iterate 2 (apply lxF0 (wantsg (j := 23) (d := 61) (b := true) rfl rfl rfl rfl); (· intro w' h0; go_simp; (try go_bits); exact ⟨rfl, rfl⟩); simp only [Act.put, pA, pB, pC])
    iterate 2 (apply lxF0 (wants0 rfl); (· intro w' h0; go_simp; (try go_bits); exact ⟨rfl, rfl⟩); simp only [Act.put, pA, pB, pC])
    apply lxF0 (wantsg (j := 27) (d := 65) (b := true) rfl rfl rfl rfl); (· intro w' h0; have k_R15 := (h0.get m2); have ⟨c_R15_0, c_R15_1, c_R15_2⟩ := k_R15.c3; go_simp; (try go_bits); exact ⟨rfl, rfl⟩); simp only [Act.put, pA, pB, pC]
    apply lxF0 (wantsg (j := 27) (d := 65) (b := true) rfl rfl rfl rfl); (· intro w' h0; have k_R8 := (h0.get m8); have ⟨c_R8_0, c_R8_1, c_R8_2⟩ := k_R8.c3; go_simp; (try go_bits); exact ⟨rfl, rfl⟩); simp only [Act.put, pA, pB, pC]
    apply lxH1 (v := .bool true) (wantsg (j := 27) (d := 65) (b := true) rfl rfl rfl rfl)
    · intro v1 hv1 w' h0 hK; go_simp; (try go_bits); refine (is_q (.agg #[.bool (isN (numX n)), .slice sv14.a.p sv14.a.l sv14.a.c, .slice sv14.b.p sv14.b.l sv14.b.c]) (.agg #[.bool (isN (numX n)), .slice sv6.b.a.p (digs B6 (numQ (numX n))).length sv6.b.a.c, .slice sv6.b.b.p (digs B6 (den0 (numX n))).length sv6.b.b.c]) (numX n) (numX n) w' (hK.get m5) (hK.get m15) (hB0.below hK.old) (LmQ.up (b := 50) ok_n.lm (by decide)) (LmQ.up (b := 50) ok_n.lm (by decide)) rfl).mono ?_; rintro e w5 ⟨rfl, hb⟩; obtain rfl := hv1.out; exact ⟨_, rfl, rfl, hb⟩
    simp only [Act.put, pA, pB, pC]
    iterate 2 (apply lxF0 (wants0 rfl); (· intro w' h0; go_simp; (try go_bits); exact ⟨rfl, rfl⟩); simp only [Act.put, pA, pB, pC])
    apply lxF0 (wantsg (j := 32) (d := 70) (b := true) rfl rfl rfl rfl); (· intro w' h0; have k_R17 := (h0.get m1); have ⟨c_R17_0, c_R17_1, c_R17_2⟩ := k_R17.c3; go_simp; (try go_bits); exact ⟨rfl, rfl⟩); simp only [Act.put, pA, pB, pC]
    apply lxH1 (v := .string ⟨(textQ ((0 : Rat))).toArray⟩) (wantsg (j := 32) (d := 70) (b := true) rfl rfl rfl rfl)
    · intro v1 hv1 w' h0 hK; go_simp; (try go_bits); refine (qtext_q (.agg #[.bool false, .slice none 0 0, .slice none 0 0]) ((0 : Rat)) w' (hK.get m2) (hB0.below hK.old) (LmQ.up (b := 1000) LmQ.zero (by decide)) (by decide)).mono ?_; rintro e w5 ⟨rfl, hb⟩; obtain rfl := hv1.out; exact ⟨_, rfl, rfl, hb⟩
    simp only [Act.put, pA, pB, pC]
    apply lxF0 (v := .bool true) (wantsg (j := 32) (d := 70) (b := true) rfl rfl rfl rfl); (· intro w' h0; go_simp; (try go_bits); exact ⟨congrArg Value.bool (by rw [text_zero]; simp), rfl⟩); simp only [Act.put, pA, pB, pC]
    iterate 2 (apply lxF0 (wants0 rfl); (· intro w' h0; go_simp; (try go_bits); exact ⟨rfl, rfl⟩); simp only [Act.put, pA, pB, pC])
    apply lxF0 (wantsg (j := 37) (d := 75) (b := true) rfl rfl rfl rfl); (· intro w' h0; have k_R17 := (h0.get m1); have ⟨c_R17_0, c_R17_1, c_R17_2⟩ := k_R17.c3; go_simp; (try go_bits); exact ⟨rfl, rfl⟩); simp only [Act.put, pA, pB, pC]
    apply lxE1 (α := Sl) (fun sv => .agg #[.slice sv.p sv.l sv.c]) (fun sv => [fun w => NatV w (.agg #[.slice sv.p sv.l sv.c]) (((0 : Rat)).den)]) (wantsg (j := 37) (d := 75) (b := true) rfl rfl rfl rfl)
    · intro f1 l1 hl1 w' h0 hK; go_simp; (try go_bits); refine (den_any (.agg #[.bool false, .slice none 0 0, .slice none 0 0]) ((0 : Rat)) w' (hK.get m2) ).mono ?_; rintro e w5 ⟨y0, rfl, u0, hb⟩; obtain ⟨rfl, rfl⟩ := hl1.out; obtain ⟨p_u0, c_u0, rfl, _⟩ := u0.digp; exact ⟨_, rfl, (⟨p_u0, _, c_u0⟩ : Sl), rfl, hb, .cons (fun w2 h2 => u0.below h2) (Lasts.nil _)⟩
    intro sv21
    simp only [Act.put, pA, pB, pC, pD, pE]
    apply lxH1 (v := .string ⟨(decDigits (((0 : Rat)).den)).toArray⟩) (wantsg (j := 37) (d := 75) (b := true) rfl rfl rfl rfl)
    · intro v1 hv1 w' h0 hK; go_simp; (try go_bits); refine (ntext_q (.agg #[.slice sv21.p sv21.l sv21.c]) (((0 : Rat)).den) w' (hK.get m0) (hB0.below hK.old) dl1).mono ?_; rintro e w5 ⟨rfl, hb⟩; obtain rfl := hv1.out; exact ⟨_, rfl, rfl, hb⟩
    simp only [Act.put, pA, pB, pC]
    apply lxF0 (v := .bool true) (wantsg (j := 37) (d := 75) (b := true) rfl rfl rfl rfl); (· intro w' h0; go_simp; (try go_bits); exact ⟨congrArg Value.bool (by first | (rw [dec1 (by decide)]; rfl) | (rw [show (0 : Rat).den = 1 from rfl, dec1 (by decide)]; rfl)), rfl⟩); simp only [Act.put, pA, pB, pC]
    iterate 2 (apply lxF0 (wants0 rfl); (· intro w' h0; go_simp; (try go_bits); exact ⟨rfl, rfl⟩); simp only [Act.put, pA, pB, pC])
    refine lxEnd (fun W22 hK => ?_)
    go_wp2
    try go_ret
    show Q0 (.returned (.bool true)) _
    exact (by obtain rfl := hQ0.out; exact ⟨rfl, hK.old⟩)
   · --
    go_upto_region 8 with (fail)
    refine wp_region_tx w hK ?_
    clear hK
    apply txE (α := Sl) (fun sv => .slice sv.p (digs B6 1).length sv.c) (fun sv => [fun w => RefV w (.slice sv.p (digs B6 1).length sv.c) 1]) (wants0 rfl)
    · intro f1 l1 hl1 w' hK; go_simp; (try go_bits); refine (rof_any  1 w'  (by omega)).mono ?_; rintro e w5 ⟨y0, rfl, u0, hb⟩; obtain ⟨rfl, rfl⟩ := hl1.out; obtain ⟨p_u0, c_u0, rfl⟩ := u0.slr; exact ⟨_, rfl, (⟨p_u0, 0, c_u0⟩ : Sl), rfl, hb, .cons (fun w2 h2 => u0.below h2) (Lasts.nil _)⟩
    intro sv23
    simp only [Act.put, pA, pB, pC, pD, pE]
    apply txF (wants0 rfl); (· intro w' hK; go_simp; (try go_bits); exact ⟨rfl, rfl⟩); simp only [Act.put, pA, pB, pC]
    refine txEnd (fun W24 hK => ?_)
    go_upto_region 9 with (fail)
    have z_R1 : R1 < W24.heap.size := (hK.get m10).ltS
    have z_R4 : R4 < W24.heap.size := (hK.get m9).ltS
    have z_R7 : R7 < W24.heap.size := (hK.get m2).ltS
    have z_R8 : R8 < W24.heap.size := (hK.get m1).ltS
    have v_W24 := hK.old.size
    have hB0_W24 := hB0.below hK.old
    have h0_0_W24 := h0_0.below hK.old
    have h0_1_W24 := h0_1.below hK.old
    have h0_2_W24 := h0_2.below hK.old
    have hKo := hK
    replace hK := hK.re
    have hK0 := hK
    refine wp_region_float0 (W24) _ _ [0, 0, 0, 2, 0, 2, 2, 0, 0, 0, 3, 4, 0] (by kernel_rfl) (by kernel_rfl) (by kernel_rfl) (by kernel_rfl) (KS.drew hK0) (KS.drew hK) ?_
    clear hK hK0
    apply lxF0 (wants0 rfl); (· intro w' h0; go_simp; (try go_bits); exact ⟨rfl, rfl⟩); simp only [Act.put, pA, pB, pC]
    apply lxF0 (wants0 rfl); (· intro w' h0; have k_R8 := (h0.get m1); have c_R8_0 := k_R8.at 0 rfl; go_simp; (try go_bits); exact ⟨rfl, rfl⟩); simp only [Act.put, pA, pB, pC]
    apply lxF0 (wants0 rfl); (· intro w' h0; have k_R7 := (h0.get m2); have ⟨c_R7_0, c_R7_1, c_R7_2⟩ := k_R7.c3; go_simp; (try go_bits); exact ⟨rfl, rfl⟩); simp only [Act.put, pA, pB, pC]
    apply lxE1 (α := Sl) (fun sv => .agg #[.slice sv.p sv.l sv.c]) (fun sv => [fun w => NatV w (.agg #[.slice sv.p sv.l sv.c]) ((numX n).num.natAbs)]) (wants0 rfl)
    · intro f1 l1 hl1 w' h0 hK; go_simp; (try go_bits); refine (num_any (.agg #[.bool (isN (numX n)), .slice sv6.a.a.p sv6.a.a.l sv6.a.a.c, .slice sv6.a.b.p sv6.a.b.l sv6.a.b.c]) (numX n) w' (hK.get m3) ).mono ?_; rintro e w5 ⟨y0, rfl, u0, hb⟩; obtain ⟨rfl, rfl⟩ := hl1.out; obtain ⟨p_u0, c_u0, rfl, _⟩ := u0.digp; exact ⟨_, rfl, (⟨p_u0, _, c_u0⟩ : Sl), rfl, hb, .cons (fun w2 h2 => u0.below h2) (Lasts.nil _)⟩
    intro sv25
    simp only [Act.put, pA, pB, pC, pD, pE]
    apply lxF0 (wants0 rfl); (· intro w' h0; have k_R7 := (h0.get m2); have ⟨c_R7_0, c_R7_1, c_R7_2⟩ := k_R7.c3; go_simp; (try go_bits); exact ⟨rfl, rfl⟩); simp only [Act.put, pA, pB, pC]
    apply lxE1 (α := Sl) (fun sv => .agg #[.slice sv.p sv.l sv.c]) (fun sv => [fun w => NatV w (.agg #[.slice sv.p sv.l sv.c]) ((numX n).den)]) (wants0 rfl)
    · intro f1 l1 hl1 w' h0 hK; go_simp; (try go_bits); refine (den_any (.agg #[.bool (isN (numX n)), .slice sv6.a.a.p sv6.a.a.l sv6.a.a.c, .slice sv6.a.b.p sv6.a.b.l sv6.a.b.c]) (numX n) w' (hK.get m4) ).mono ?_; rintro e w5 ⟨y0, rfl, u0, hb⟩; obtain ⟨rfl, rfl⟩ := hl1.out; obtain ⟨p_u0, c_u0, rfl, _⟩ := u0.digp; exact ⟨_, rfl, (⟨p_u0, _, c_u0⟩ : Sl), rfl, hb, .cons (fun w2 h2 => u0.below h2) (Lasts.nil _)⟩
    intro sv26
    simp only [Act.put, pA, pB, pC, pD, pE]
    apply lxE1 (α := Duo Sl Sl) (fun sv => .tuple #[.agg #[.bool (isN (numX n)), .slice sv.a.p sv.a.l sv.a.c, .slice sv.b.p sv.b.l sv.b.c], .int .i64 0]) (fun sv => [fun w => RatV w (.agg #[.bool (isN (numX n)), .slice sv.a.p sv.a.l sv.a.c, .slice sv.b.p sv.b.l sv.b.c]) (numX n), fun w => NatV w (.agg #[.slice sv.a.p sv.a.l sv.a.c]) ((numX n).num.natAbs), fun w => NatV w (.agg #[.slice sv.b.p sv.b.l sv.b.c]) (den0 (numX n))]) (wants0 rfl)
    · intro f1 l1 hl1 w' h0 hK; go_simp; (try go_bits); refine (qmake_back (.agg #[.slice sv25.p sv25.l sv25.c]) (.agg #[.slice sv26.p sv26.l sv26.c]) (numX n) w' (hK.get m1) (hK.get m0) (ok_n.lm.up (by decide))).mono ?_; rintro e w5 ⟨y0, rfl, u0, hb⟩; obtain ⟨rfl, rfl⟩ := hl1.out; have u0_0 := u0; obtain ⟨p_u0, l_u0, c_u0, q_u0, m_u0, d_u0, rfl, u0_1, u0_2⟩ := u0; exact ⟨_, rfl, (⟨⟨p_u0, l_u0, c_u0⟩, ⟨q_u0, m_u0, d_u0⟩⟩ : Duo Sl Sl), rfl, hb, .cons (fun w2 h2 => u0_0.below h2) (.cons (fun w2 h2 => u0_1.below h2) (.cons (fun w2 h2 => u0_2.below h2) (Lasts.nil _)))⟩
    intro sv27
    simp only [Act.put, pA, pB, pC, pD, pE]
    iterate 3 (apply lxF0 (wants0 rfl); (· intro w' h0; go_simp; (try go_bits); exact ⟨rfl, rfl⟩); simp only [Act.put, pA, pB, pC])
    apply lxA0 (.cells #[.bool false, .slice none 0 0, .slice none 0 0] 29) (wants0 rfl)
    · intro w' h0; go_simp; rfl
    intro R28
    simp only [mkOf, Act.put, pA, pB, pC]
    apply lxU1 0 (Has W24.heap.size R28 (.cells #[.bool (isN (numX n)), .slice sv27.a.p sv27.a.l sv27.a.c, .slice sv27.b.p sv27.b.l sv27.b.c] 29)) (wants0 rfl)
    · intro g0 l1 hl1 w' h0 hK; have k_R28 := (hK.get m0); have ⟨c_R28_0, c_R28_1, c_R28_2⟩ := k_R28.c3; have f_R28 := k_R28.fz; have ni := noInt_of k_R28 nofun; go_simp; obtain ⟨rfl, rfl⟩ := hl1.out; exact ⟨rfl, ks_put (R := R28) h0 k_R28.1 0 [.bool (isN (numX n)), .slice sv27.a.p sv27.a.l sv27.a.c, .slice sv27.b.p sv27.b.l sv27.b.c] (al1 (spR ni (h0.get m0)) (al1 (spL (Nat.lt_of_lt_of_le z_R8 k_R28.1) (h0.get m1)) (al1 (spL (Nat.lt_of_lt_of_le z_R7 k_R28.1) (h0.get m2)) (al1 (spQ ni (h0.get m3)) (al1 (spN ni (h0.get m4)) (al1 (spN ni (h0.get m5)) (al1 (spS ni (h0.get m6)) (al1 (spR ni (h0.get m7)) (al1 (spR ni (h0.get m8)) (al1 (spL (Nat.lt_of_lt_of_le z_R4 k_R28.1) (h0.get m9)) (al1 (spL (Nat.lt_of_lt_of_le z_R1 k_R28.1) (h0.get m10)) aN))))))))))), ks_put (R := R28) hK k_R28.1 0 [.bool (isN (numX n)), .slice sv27.a.p sv27.a.l sv27.a.c, .slice sv27.b.p sv27.b.l sv27.b.c] (al1 (fun _ => has_put k_R28 _ _) (al1 (spQ ni (hK.get m1)) (al1 (spN ni (hK.get m2)) (al1 (spN ni (hK.get m3)) (al1 (spN ni (hK.get m4)) (al1 (spN ni (hK.get m5)) (al1 (spR ni (hK.get m6)) (al1 (spL (Nat.lt_of_lt_of_le z_R8 k_R28.1) (hK.get m7)) (al1 (spL (Nat.lt_of_lt_of_le z_R7 k_R28.1) (hK.get m8)) (al1 (spQ ni (hK.get m9)) (al1 (spN ni (hK.get m10)) (al1 (spN ni (hK.get m11)) (al1 (spS ni (hK.get m12)) (al1 (spR ni (hK.get m13)) (al1 (spR ni (hK.get m14)) (al1 (spL (Nat.lt_of_lt_of_le z_R4 k_R28.1) (hK.get m15)) (al1 (spL (Nat.lt_of_lt_of_le z_R1 k_R28.1) (hK.get m16)) aN)))))))))))))))))⟩
    simp only [Act.put, pB]
    apply lxF0 (wants0 rfl); (· intro w' h0; go_simp; (try go_bits); exact ⟨rfl, rfl⟩); simp only [Act.put, pA, pB, pC]
    refine lxEnd (fun W29 hK => ?_)
    have o_R1_R28 : R1 < R28 := Nat.lt_of_lt_of_le z_R1 (hK.get m0).1
    have o_R4_R28 : R4 < R28 := Nat.lt_of_lt_of_le z_R4 (hK.get m0).1
    have o_R7_R28 : R7 < R28 := Nat.lt_of_lt_of_le z_R7 (hK.get m0).1
    have o_R8_R28 : R8 < R28 := Nat.lt_of_lt_of_le z_R8 (hK.get m0).1
    replace hK := hKo.over hK
    clear hKo
    go_upto_region 10 with (fail)
    refine wp_region_tx w hK ?_
    clear hK
    apply txA (.cells #[.bool false, .slice none 0 0, .slice none 0 0] 29) (wants0 rfl)
    · intro w' hK; go_simp; rfl
    intro R30 q_R30
    have o_R1_R30 : R1 < R30 := q_R30 _ _ _ m16
    have o_R4_R30 : R4 < R30 := q_R30 _ _ _ m15
    have o_R7_R30 : R7 < R30 := q_R30 _ _ _ m8
    have o_R8_R30 : R8 < R30 := q_R30 _ _ _ m7
    have o_R28_R30 : R28 < R30 := q_R30 _ _ _ m0
    clear q_R30
    simp only [mkOf, Act.put, pA, pB, pC]
    refine txEnd (fun W31 hK => ?_)
    replace hK := hK.add (F := fun w => RatV w (.agg #[.bool false, .slice none 0 0, .slice none 0 0]) ((0 : Rat))) fun w' _ => RatV.zero w'
    go_upto_region 11 with (fail)
    have hK0 := hK
    refine wp_region_float0 (w) _ _ [0, 0, 0, 0, 1, 0, 0, 0, 2, 1, 0, 0, 1, 0, 0, 0, 0, 2, 1, 0, 1, 0, 0, 0, 0, 0, 0, 0, 0, 0, 1, 0, 0, 0, 1, 0, 0, 0, 0, 2, 1, 0, 0, 0] (by kernel_rfl) (by kernel_rfl) (by kernel_rfl) (by kernel_rfl) (KS.drew hK0) (KS.drew hK) ?_
    clear hK hK0
    iterate 2 (apply lxF0 (wants0 rfl); (· intro w' h0; go_simp; (try go_bits); exact ⟨rfl, rfl⟩); simp only [Act.put, pA, pB, pC])
    apply lxF0 (wantsg (j := 1) (d := 39) (b := true) rfl rfl rfl rfl); (· intro w' h0; have k_R7 := (h0.get m10); have ⟨c_R7_0, c_R7_1, c_R7_2⟩ := k_R7.c3; go_simp; (try go_bits); exact ⟨rfl, rfl⟩); simp only [Act.put, pA, pB, pC]
    apply lxF0 (wantsg (j := 1) (d := 39) (b := true) rfl rfl rfl rfl); (· intro w' h0; have k_R8 := (h0.get m9); have ⟨c_R8_0, c_R8_1, c_R8_2⟩ := k_R8.c3; go_simp; (try go_bits); exact ⟨rfl, rfl⟩); simp only [Act.put, pA, pB, pC]
    apply lxH1 (v := .bool true) (wantsg (j := 1) (d := 39) (b := true) rfl rfl rfl rfl)
    · intro v1 hv1 w' h0 hK; go_simp; (try go_bits); refine (is_q (.agg #[.bool (isN (numX n)), .slice sv6.a.a.p sv6.a.a.l sv6.a.a.c, .slice sv6.a.b.p sv6.a.b.l sv6.a.b.c]) (.agg #[.bool (isN (numX n)), .slice sv6.b.a.p (digs B6 (numQ (numX n))).length sv6.b.a.c, .slice sv6.b.b.p (digs B6 (den0 (numX n))).length sv6.b.b.c]) (numX n) (numX n) w' (hK.get m11) (hK.get m14) (hB0.below hK.old) (LmQ.up (b := 50) ok_n.lm (by decide)) (LmQ.up (b := 50) ok_n.lm (by decide)) rfl).mono ?_; rintro e w5 ⟨rfl, hb⟩; obtain rfl := hv1.out; exact ⟨_, rfl, rfl, hb⟩
    simp only [Act.put, pA, pB, pC]
    iterate 2 (apply lxF0 (wants0 rfl); (· intro w' h0; go_simp; (try go_bits); exact ⟨rfl, rfl⟩); simp only [Act.put, pA, pB, pC])
    apply lxF0 (wantsg (j := 6) (d := 44) (b := true) rfl rfl rfl rfl); (· intro w' h0; have k_R7 := (h0.get m10); have ⟨c_R7_0, c_R7_1, c_R7_2⟩ := k_R7.c3; go_simp; (try go_bits); exact ⟨rfl, rfl⟩); simp only [Act.put, pA, pB, pC]
    apply lxE1 (α := Sl) (fun sv => .agg #[.slice sv.p sv.l sv.c]) (fun sv => [fun w => NatV w (.agg #[.slice sv.p sv.l sv.c]) ((numX n).num.natAbs)]) (wantsg (j := 6) (d := 44) (b := true) rfl rfl rfl rfl)
    · intro f1 l1 hl1 w' h0 hK; go_simp; (try go_bits); refine (num_any (.agg #[.bool (isN (numX n)), .slice sv6.a.a.p sv6.a.a.l sv6.a.a.c, .slice sv6.a.b.p sv6.a.b.l sv6.a.b.c]) (numX n) w' (hK.get m11) ).mono ?_; rintro e w5 ⟨y0, rfl, u0, hb⟩; obtain ⟨rfl, rfl⟩ := hl1.out; obtain ⟨p_u0, c_u0, rfl, _⟩ := u0.digp; exact ⟨_, rfl, (⟨p_u0, _, c_u0⟩ : Sl), rfl, hb, .cons (fun w2 h2 => u0.below h2) (Lasts.nil _)⟩
    intro sv32
    simp only [Act.put, pA, pB, pC, pD, pE]
    apply lxH1 (v := .string ⟨(decDigits ((numX n).num.natAbs)).toArray⟩) (wantsg (j := 6) (d := 44) (b := true) rfl rfl rfl rfl)
    · intro v1 hv1 w' h0 hK; go_simp; (try go_bits); refine (ntext_q (.agg #[.slice sv32.p sv32.l sv32.c]) ((numX n).num.natAbs) w' (hK.get m0) (hB0.below hK.old) (by omega)).mono ?_; rintro e w5 ⟨rfl, hb⟩; obtain rfl := hv1.out; exact ⟨_, rfl, rfl, hb⟩
    simp only [Act.put, pA, pB, pC]
    apply lxF0 (wantsg (j := 6) (d := 44) (b := true) rfl rfl rfl rfl); (· intro w' h0; go_simp; (try go_bits); exact ⟨rfl, rfl⟩); simp only [Act.put, pA, pB, pC]
    apply lxF0 (wantsg (j := 6) (d := 44) (b := true) rfl rfl rfl rfl); (· intro w' h0; have k_R8 := (h0.get m9); have c_R8_1 := k_R8.at 1 rfl; go_simp; (try go_bits); exact ⟨rfl, rfl⟩); simp only [Act.put, pA, pB, pC]
    apply lxH1 (v := .string ⟨(decDigits (numQ (numX n))).toArray⟩) (wantsg (j := 6) (d := 44) (b := true) rfl rfl rfl rfl)
    · intro v1 hv1 w' h0 hK; go_simp; (try go_bits); refine (rtext_any (.slice sv6.b.a.p (digs B6 (numQ (numX n))).length sv6.b.a.c) (numQ (numX n)) w' (hK.get m16) (by omega) (by omega)).mono ?_; rintro e w5 ⟨rfl, hb⟩; obtain rfl := hv1.out; exact ⟨_, rfl, rfl, hb⟩
    simp only [Act.put, pA, pB, pC]
    apply lxF0 (v := .bool true) (wantsg (j := 6) (d := 44) (b := true) rfl rfl rfl rfl); (· intro w' h0; go_simp; (try go_bits); exact ⟨congrArg Value.bool (by simp [numQ]), rfl⟩); simp only [Act.put, pA, pB, pC]
    iterate 2 (apply lxF0 (wants0 rfl); (· intro w' h0; go_simp; (try go_bits); exact ⟨rfl, rfl⟩); simp only [Act.put, pA, pB, pC])
    apply lxF0 (wantsg (j := 15) (d := 53) (b := true) rfl rfl rfl rfl); (· intro w' h0; have k_R7 := (h0.get m10); have ⟨c_R7_0, c_R7_1, c_R7_2⟩ := k_R7.c3; go_simp; (try go_bits); exact ⟨rfl, rfl⟩); simp only [Act.put, pA, pB, pC]
    apply lxE1 (α := Sl) (fun sv => .agg #[.slice sv.p sv.l sv.c]) (fun sv => [fun w => NatV w (.agg #[.slice sv.p sv.l sv.c]) ((numX n).den)]) (wantsg (j := 15) (d := 53) (b := true) rfl rfl rfl rfl)
    · intro f1 l1 hl1 w' h0 hK; go_simp; (try go_bits); refine (den_any (.agg #[.bool (isN (numX n)), .slice sv6.a.a.p sv6.a.a.l sv6.a.a.c, .slice sv6.a.b.p sv6.a.b.l sv6.a.b.c]) (numX n) w' (hK.get m12) ).mono ?_; rintro e w5 ⟨y0, rfl, u0, hb⟩; obtain ⟨rfl, rfl⟩ := hl1.out; obtain ⟨p_u0, c_u0, rfl, _⟩ := u0.digp; exact ⟨_, rfl, (⟨p_u0, _, c_u0⟩ : Sl), rfl, hb, .cons (fun w2 h2 => u0.below h2) (Lasts.nil _)⟩
    intro sv33
    simp only [Act.put, pA, pB, pC, pD, pE]
    apply lxH1 (v := .string ⟨(decDigits ((numX n).den)).toArray⟩) (wantsg (j := 15) (d := 53) (b := true) rfl rfl rfl rfl)
    · intro v1 hv1 w' h0 hK; go_simp; (try go_bits); refine (ntext_q (.agg #[.slice sv33.p sv33.l sv33.c]) ((numX n).den) w' (hK.get m0) (hB0.below hK.old) (by omega)).mono ?_; rintro e w5 ⟨rfl, hb⟩; obtain rfl := hv1.out; exact ⟨_, rfl, rfl, hb⟩
    simp only [Act.put, pA, pB, pC]
    apply lxF0 (wantsg (j := 15) (d := 53) (b := true) rfl rfl rfl rfl); (· intro w' h0; go_simp; (try go_bits); exact ⟨rfl, rfl⟩); simp only [Act.put, pA, pB, pC]
    apply lxH1 (v := .string ⟨(decDigits 1).toArray⟩) (wantsg (j := 15) (d := 53) (b := true) rfl rfl rfl rfl)
    · intro v1 hv1 w' h0 hK; go_simp; (try go_bits); refine (rtext_any (.slice sv23.p (digs B6 1).length sv23.c) 1 w' (hK.get m10) (by omega) (by omega)).mono ?_; rintro e w5 ⟨rfl, hb⟩; obtain rfl := hv1.out; exact ⟨_, rfl, rfl, hb⟩
    simp only [Act.put, pA, pB, pC]
    apply lxF0 (v := .bool true) (wantsg (j := 15) (d := 53) (b := true) rfl rfl rfl rfl); (· intro w' h0; go_simp; (try go_bits); exact ⟨congrArg Value.bool (by first | (rw [den_f hb2.out]; simp) | (rw [← den_t hb2.out]; simp)), rfl⟩); simp only [Act.put, pA, pB, pC]
    iterate 2 (apply lxF0 (wants0 rfl); (· intro w' h0; go_simp; (try go_bits); exact ⟨rfl, rfl⟩); simp only [Act.put, pA, pB, pC])
    iterate 2 (apply lxF0 (wantsg (j := 23) (d := 61) (b := true) rfl rfl rfl rfl); (· intro w' h0; go_simp; (try go_bits); exact ⟨rfl, rfl⟩); simp only [Act.put, pA, pB, pC])
    iterate 2 (apply lxF0 (wants0 rfl); (· intro w' h0; go_simp; (try go_bits); exact ⟨rfl, rfl⟩); simp only [Act.put, pA, pB, pC])
    apply lxF0 (wantsg (j := 27) (d := 65) (b := true) rfl rfl rfl rfl); (· intro w' h0; have k_R28 := (h0.get m2); have ⟨c_R28_0, c_R28_1, c_R28_2⟩ := k_R28.c3; go_simp; (try go_bits); exact ⟨rfl, rfl⟩); simp only [Act.put, pA, pB, pC]
    apply lxF0 (wantsg (j := 27) (d := 65) (b := true) rfl rfl rfl rfl); (· intro w' h0; have k_R8 := (h0.get m9); have ⟨c_R8_0, c_R8_1, c_R8_2⟩ := k_R8.c3; go_simp; (try go_bits); exact ⟨rfl, rfl⟩); simp only [Act.put, pA, pB, pC]
    apply lxH1 (v := .bool true) (wantsg (j := 27) (d := 65) (b := true) rfl rfl rfl rfl)
    · intro v1 hv1 w' h0 hK; go_simp; (try go_bits); refine (is_q (.agg #[.bool (isN (numX n)), .slice sv27.a.p sv27.a.l sv27.a.c, .slice sv27.b.p sv27.b.l sv27.b.c]) (.agg #[.bool (isN (numX n)), .slice sv6.b.a.p (digs B6 (numQ (numX n))).length sv6.b.a.c, .slice sv6.b.b.p (digs B6 (den0 (numX n))).length sv6.b.b.c]) (numX n) (numX n) w' (hK.get m5) (hK.get m16) (hB0.below hK.old) (LmQ.up (b := 50) ok_n.lm (by decide)) (LmQ.up (b := 50) ok_n.lm (by decide)) rfl).mono ?_; rintro e w5 ⟨rfl, hb⟩; obtain rfl := hv1.out; exact ⟨_, rfl, rfl, hb⟩
    simp only [Act.put, pA, pB, pC]
    iterate 2 (apply lxF0 (wants0 rfl); (· intro w' h0; go_simp; (try go_bits); exact ⟨rfl, rfl⟩); simp only [Act.put, pA, pB, pC])
    apply lxF0 (wantsg (j := 32) (d := 70) (b := true) rfl rfl rfl rfl); (· intro w' h0; have k_R30 := (h0.get m1); have ⟨c_R30_0, c_R30_1, c_R30_2⟩ := k_R30.c3; go_simp; (try go_bits); exact ⟨rfl, rfl⟩); simp only [Act.put, pA, pB, pC]
    apply lxH1 (v := .string ⟨(textQ ((0 : Rat))).toArray⟩) (wantsg (j := 32) (d := 70) (b := true) rfl rfl rfl rfl)
    · intro v1 hv1 w' h0 hK; go_simp; (try go_bits); refine (qtext_q (.agg #[.bool false, .slice none 0 0, .slice none 0 0]) ((0 : Rat)) w' (hK.get m2) (hB0.below hK.old) (LmQ.up (b := 1000) LmQ.zero (by decide)) (by decide)).mono ?_; rintro e w5 ⟨rfl, hb⟩; obtain rfl := hv1.out; exact ⟨_, rfl, rfl, hb⟩
    simp only [Act.put, pA, pB, pC]
    apply lxF0 (v := .bool true) (wantsg (j := 32) (d := 70) (b := true) rfl rfl rfl rfl); (· intro w' h0; go_simp; (try go_bits); exact ⟨congrArg Value.bool (by rw [text_zero]; simp), rfl⟩); simp only [Act.put, pA, pB, pC]
    iterate 2 (apply lxF0 (wants0 rfl); (· intro w' h0; go_simp; (try go_bits); exact ⟨rfl, rfl⟩); simp only [Act.put, pA, pB, pC])
    apply lxF0 (wantsg (j := 37) (d := 75) (b := true) rfl rfl rfl rfl); (· intro w' h0; have k_R30 := (h0.get m1); have ⟨c_R30_0, c_R30_1, c_R30_2⟩ := k_R30.c3; go_simp; (try go_bits); exact ⟨rfl, rfl⟩); simp only [Act.put, pA, pB, pC]
    apply lxE1 (α := Sl) (fun sv => .agg #[.slice sv.p sv.l sv.c]) (fun sv => [fun w => NatV w (.agg #[.slice sv.p sv.l sv.c]) (((0 : Rat)).den)]) (wantsg (j := 37) (d := 75) (b := true) rfl rfl rfl rfl)
    · intro f1 l1 hl1 w' h0 hK; go_simp; (try go_bits); refine (den_any (.agg #[.bool false, .slice none 0 0, .slice none 0 0]) ((0 : Rat)) w' (hK.get m2) ).mono ?_; rintro e w5 ⟨y0, rfl, u0, hb⟩; obtain ⟨rfl, rfl⟩ := hl1.out; obtain ⟨p_u0, c_u0, rfl, _⟩ := u0.digp; exact ⟨_, rfl, (⟨p_u0, _, c_u0⟩ : Sl), rfl, hb, .cons (fun w2 h2 => u0.below h2) (Lasts.nil _)⟩
    intro sv34
    simp only [Act.put, pA, pB, pC, pD, pE]
    apply lxH1 (v := .string ⟨(decDigits (((0 : Rat)).den)).toArray⟩) (wantsg (j := 37) (d := 75) (b := true) rfl rfl rfl rfl)
    · intro v1 hv1 w' h0 hK; go_simp; (try go_bits); refine (ntext_q (.agg #[.slice sv34.p sv34.l sv34.c]) (((0 : Rat)).den) w' (hK.get m0) (hB0.below hK.old) dl1).mono ?_; rintro e w5 ⟨rfl, hb⟩; obtain rfl := hv1.out; exact ⟨_, rfl, rfl, hb⟩
    simp only [Act.put, pA, pB, pC]
    apply lxF0 (v := .bool true) (wantsg (j := 37) (d := 75) (b := true) rfl rfl rfl rfl); (· intro w' h0; go_simp; (try go_bits); exact ⟨congrArg Value.bool (by first | (rw [dec1 (by decide)]; rfl) | (rw [show (0 : Rat).den = 1 from rfl, dec1 (by decide)]; rfl)), rfl⟩); simp only [Act.put, pA, pB, pC]
    iterate 2 (apply lxF0 (wants0 rfl); (· intro w' h0; go_simp; (try go_bits); exact ⟨rfl, rfl⟩); simp only [Act.put, pA, pB, pC])
    refine lxEnd (fun W35 hK => ?_)
    go_wp2
    try go_ret
    show Q0 (.returned (.bool true)) _
    exact (by obtain rfl := hQ0.out; exact ⟨rfl, hK.old⟩)
end Go.Proofs.YtiilkcdefpmimaaGreatDoor
