/- The laws of rational numbers walked: Sums, Products, Floor, Text, Of. -/
import Derived.Test.YtiilkcdefpmimaaGreatDoorRatK
namespace Go.Proofs.YtiilkcdefpmimaaGreatDoor
open Go.RowKit
open Go.Lib (decDigits)
theorem nok {n : NumS} (h : (∀ d ∈ n.ds, d < B32) ∧ ∀ d ∈ n.es, d < B32) (h2 : n.ds.length ≤ 8 ∧ n.es.length ≤ 8) : NumOk n := ⟨h.1, h.2, h2.1, h2.2⟩
theorem LmQ.zero : LmQ 1 (0 : Rat) := ⟨by show _ < _; decide, by show _ < _; decide⟩
theorem LmQ.one : LmQ 1 (1 : Rat) := ⟨by show _ < _; decide, by show _ < _; decide⟩
theorem LmQ.int {n : Int} (n0 : -9223372036854775808 ≤ n) (n1 : n ≤ 9223372036854775807) : LmQ 2 ((n : Int) : Rat) := by
  rw [← int_of n]
  refine .ofS _ ?_ (Lm.one.up (by decide)) (by decide)
  show _ < _
  have : B32 ^ 2 = 18446744073709551616 := by decide
  omega
theorem LmQ.quo {a b : Nat} {x y : Rat} (hx : LmQ a x) (hy : LmQ b y) : LmQ (a + b) (x / y) := by
  by_cases h : y = 0
  · subst h
    rw [div_zero']
    have hb : 1 ≤ b := by
      rcases Nat.eq_zero_or_pos b with e | e
      · subst e
        have h2 : (0 : Rat).den < B32 ^ 0 := hy.d
        revert h2
        decide
      · exact e
    exact LmQ.zero.up (by omega)
  · exact hx.div hy h
theorem floor_le (x : Rat) : sgQ (floorQ x - x) ≤ 0 := by
  have h : floorQ x ≤ x := Rat.floor_le x
  rcases sgQ_range (floorQ x - x) with e | e | e
  · omega
  · omega
  · have := sgQ_pos.1 e
    exfalso
    have h2 := Rat.lt_sub_right_iff_add_lt.1 this
    rw [Rat.zero_add] at h2
    exact absurd h (Rat.not_le.2 h2)
theorem floor_lt (x : Rat) : sgQ (x - (floorQ x + ((1 : Int) : Rat))) < 0 := by
  have h : x < floorQ x + ((1 : Int) : Rat) := by
    have := Rat.lt_floor_add_one x
    rwa [Rat.intCast_add] at this
  have h2 : x - (floorQ x + ((1 : Int) : Rat)) < 0 := by
    rw [Rat.sub_lt_iff, Rat.zero_add]
    exact h
  rw [sgQ_neg.2 h2]
  decide
theorem dl1 : (digs B32 1).length ≤ 100000 := Nat.le_trans (digs_len_le b32_2 1 1 (by decide)) (by decide)
theorem floor_den (x : Rat) : (floorQ x).den = 1 := rfl
theorem brief_1 {a : NC} {b : Bool} (h : decide (∀ x ∈ ([a] : List NC), x.l ≤ 8 ∧ x.m ≤ 8) = b) : b = true → (a.l ≤ 8 ∧ a.m ≤ 8) := fun e => by
  rw [e] at h
  exact of_decide_eq_true h a (by simp)
theorem brief_2 {a c : NC} {b : Bool} (h : decide (∀ x ∈ ([a, c] : List NC), x.l ≤ 8 ∧ x.m ≤ 8) = b) : b = true → (a.l ≤ 8 ∧ a.m ≤ 8) ∧ (c.l ≤ 8 ∧ c.m ≤ 8) := fun e => by
  rw [e] at h
  exact ⟨of_decide_eq_true h a (by simp), of_decide_eq_true h c (by simp)⟩
set_option maxRecDepth 100000 in
theorem rationalSums_walk (v0 : Value) (v1 : Value) (m : NumS) (n : NumS) (w : World) (h0 : NumV w v0 m) (h1 : NumV w v1 n) (hB0 : Bas w) (d_m : (∀ d ∈ m.ds, d < B32) ∧ ∀ d ∈ m.es, d < B32) (d_n : (∀ d ∈ n.ds, d < B32) ∧ ∀ d ∈ n.es, d < B32) :
    Calls Tryz.prog 6 #[v0, v1] w fun e w' => e = .returned (.bool true) ∧ Below w.heap.size w w' := by
  have h0_0 := h0; obtain ⟨p_h0, c_h0, q_h0, d_h0, rfl, h0_1, h0_2⟩ := h0.sl
  have h1_0 := h1; obtain ⟨p_h1, c_h1, q_h1, d_h1, rfl, h1_1, h1_2⟩ := h1.sl
  have hK : KS w [] w := (KS.start w)
  refine Calls.hide (fun Q0 hQ0 => ?_)
  go_enter Tryz.func6, Tryz.ntmps6
  go_upto_region 0 with (fail)
  refine wp_region_tx w hK ?_
  clear hK
  apply txA (.cells #[.bool m.neg, .slice p_h0 m.ds.length c_h0, .slice q_h0 m.es.length d_h0] 43) (wants0 rfl)
  · intro w' hK; go_simp; rfl
  intro R1 q_R1
  clear q_R1
  simp only [mkOf, Act.put, pA, pB, pC]
  apply txA (.cells #[.bool n.neg, .slice p_h1 n.ds.length c_h1, .slice q_h1 n.es.length d_h1] 43) (wants0 rfl)
  · intro w' hK; go_simp; rfl
  intro R2 q_R2
  have o_R1_R2 : R1 < R2 := q_R2 _ _ _ m0
  clear q_R2
  simp only [mkOf, Act.put, pA, pB, pC]
  apply txF (wants0 rfl); (· intro w' hK; go_simp; (try go_bits); exact ⟨rfl, rfl⟩); simp only [Act.put, pA, pB, pC]
  refine txEnd (fun W3 hK => ?_)
  go_upto_region 1 with (fail)
  refine wp_region_tx w hK ?_
  clear hK
  apply txH (v := .bool true) (wants0 rfl)
  · intro v1 hv1; intro w' hK; go_simp; (try go_bits); refine (awake_q   w' (hB0.below hK.old) ).mono ?_; rintro e w5 ⟨rfl, hb⟩; obtain rfl := hv1.out; exact ⟨_, rfl, rfl, hb⟩
  simp only [Act.put, pA, pB, pC]
  apply txF (wants0 rfl); (· intro w' hK; go_simp; (try go_bits); exact ⟨rfl, rfl⟩); simp only [Act.put, pA, pB, pC]
  refine txEnd (fun W4 hK => ?_)
  go_upto_region 3 with (fail)
  refine wp_region_tx w hK ?_
  clear hK
  apply txF (wants0 rfl); (· intro w' hK; have k_R1 := (hK.get m1); have c_R1_0 := k_R1.at 0 rfl; have c_R1_1 := k_R1.at 1 rfl; have c_R1_2 := k_R1.at 2 rfl; go_simp; (try go_bits); exact ⟨rfl, rfl⟩); simp only [Act.put, pA, pB, pC]
  apply txF (wants0 rfl); (· intro w' hK; have k_R2 := (hK.get m0); have c_R2_0 := k_R2.at 0 rfl; have c_R2_1 := k_R2.at 1 rfl; have c_R2_2 := k_R2.at 2 rfl; go_simp; (try go_bits); exact ⟨rfl, rfl⟩); simp only [Act.put, pA, pB, pC]
  apply txA (.cells #[.bool m.neg, .slice p_h0 m.ds.length c_h0, .slice q_h0 m.es.length d_h0, .bool n.neg, .slice p_h1 n.ds.length c_h1, .slice q_h1 n.es.length d_h1] 43) (wants0 rfl)
  · intro w' hK; go_simp; rfl
  intro R5 q_R5
  have o_R1_R5 : R1 < R5 := q_R5 _ _ _ m1
  have o_R2_R5 : R2 < R5 := q_R5 _ _ _ m0
  clear q_R5
  simp only [mkOf, Act.put, pA, pB, pC]
  obtain ⟨b1, hb1⟩ : ∃ b : Bool, RowKit.Hid (decide (∀ x ∈ ([⟨.bool m.neg, p_h0, m.ds.length, c_h0, q_h0, m.es.length, d_h0⟩, ⟨.bool n.neg, p_h1, n.ds.length, c_h1, q_h1, n.es.length, d_h1⟩] : List NC), x.l ≤ 8 ∧ x.m ≤ 8) = b) := ⟨_, hid rfl⟩
  apply txH (v := .bool b1) (wants0 rfl)
  · intro v1 hv1; intro w' hK; go_simp; (try go_bits); refine (brief_any R5 ([⟨.bool m.neg, p_h0, m.ds.length, c_h0, q_h0, m.es.length, d_h0⟩, ⟨.bool n.neg, p_h1, n.ds.length, c_h1, q_h1, n.es.length, d_h1⟩] : List NC) w' (hK.get m0) (by simp)).mono ?_; rintro e w5 ⟨rfl, hb⟩; obtain rfl := hv1.out; exact ⟨_, rfl, (by rw [hb1.out]), hb⟩
  simp only [Act.put, pA, pB, pC]
  apply txF (wants0 rfl); (· intro w' hK; go_simp; (try go_bits); exact ⟨rfl, rfl⟩); simp only [Act.put, pA, pB, pC]
  refine txEnd (fun W6 hK => ?_)
  cases b1
  · --
    go_wp2
    try go_ret
    show Q0 (.returned (.bool true)) _
    exact (by obtain rfl := hQ0.out; exact ⟨rfl, hK.old⟩)
  · --
    have hq := brief_2 hb1.out rfl
    have ok_m : NumOk m := nok d_m hq.1
    have ok_n : NumOk n := nok d_n hq.2
    go_upto_region 5 with (fail)
    refine wp_region_tx w hK ?_
    clear hK
    apply txF (wants0 rfl); (· intro w' hK; have k_R1 := (hK.get m2); have c_R1_0 := k_R1.at 0 rfl; have c_R1_1 := k_R1.at 1 rfl; have c_R1_2 := k_R1.at 2 rfl; go_simp; (try go_bits); exact ⟨rfl, rfl⟩); simp only [Act.put, pA, pB, pC]
    apply txE (α := Duo (Duo Sl Sl) (Duo Sl Sl)) (fun sv => .tuple #[.agg #[.bool (isN (numX m)), .slice sv.a.a.p sv.a.a.l sv.a.a.c, .slice sv.a.b.p sv.a.b.l sv.a.b.c], .agg #[.bool (isN (numX m)), .slice sv.b.a.p (digs B6 (numQ (numX m))).length sv.b.a.c, .slice sv.b.b.p (digs B6 (den0 (numX m))).length sv.b.b.c], .bool true]) (fun sv => [fun w => RatV w (.agg #[.bool (isN (numX m)), .slice sv.a.a.p sv.a.a.l sv.a.a.c, .slice sv.a.b.p sv.a.b.l sv.a.b.c]) (numX m), fun w => NatV w (.agg #[.slice sv.a.a.p sv.a.a.l sv.a.a.c]) ((numX m).num.natAbs), fun w => NatV w (.agg #[.slice sv.a.b.p sv.a.b.l sv.a.b.c]) (den0 (numX m)), fun w => RefR w (.agg #[.bool (isN (numX m)), .slice sv.b.a.p (digs B6 (numQ (numX m))).length sv.b.a.c, .slice sv.b.b.p (digs B6 (den0 (numX m))).length sv.b.b.c]) (numX m), fun w => RefV w (.slice sv.b.a.p (digs B6 (numQ (numX m))).length sv.b.a.c) (numQ (numX m)), fun w => RefV w (.slice sv.b.b.p (digs B6 (den0 (numX m))).length sv.b.b.c) (den0 (numX m))]) (wants0 rfl)
    · intro f1 l1 hl1; intro w' hK; go_simp; (try go_bits); refine (of_q (.agg #[.bool m.neg, .slice p_h0 m.ds.length c_h0, .slice q_h0 m.es.length d_h0]) m w' (h0_0.below hK.old) (hB0.below hK.old) ok_m).mono ?_; rintro e w5 ⟨y0, y1, rfl, u0, u1, hb⟩; obtain ⟨rfl, rfl⟩ := hl1.out; have u0_0 := u0; obtain ⟨p_u0, l_u0, c_u0, q_u0, m_u0, d_u0, rfl, u0_1, u0_2⟩ := u0; have u1_0 := u1; obtain ⟨p_u1, c_u1, q_u1, d_u1, rfl, u1_1, u1_2⟩ := u1.slr; exact ⟨_, rfl, (⟨(⟨⟨p_u0, l_u0, c_u0⟩, ⟨q_u0, m_u0, d_u0⟩⟩ : Duo Sl Sl), (⟨⟨p_u1, 0, c_u1⟩, ⟨q_u1, 0, d_u1⟩⟩ : Duo Sl Sl)⟩ : Duo (Duo Sl Sl) (Duo Sl Sl)), rfl, hb, .cons (fun w2 h2 => u0_0.below h2) (.cons (fun w2 h2 => u0_1.below h2) (.cons (fun w2 h2 => u0_2.below h2) (.cons (fun w2 h2 => u1_0.below h2) (.cons (fun w2 h2 => u1_1.below h2) (.cons (fun w2 h2 => u1_2.below h2) (Lasts.nil _))))))⟩
    intro sv7
    simp only [Act.put, pA, pB, pC, pD, pE]
    apply txF (wants0 rfl); (· intro w' hK; go_simp; (try go_bits); exact ⟨rfl, rfl⟩); simp only [Act.put, pA, pB, pC]
    apply txF (wants0 rfl); (· intro w' hK; go_simp; (try go_bits); exact ⟨rfl, rfl⟩); simp only [Act.put, pA, pB, pC]
    apply txF (wants0 rfl); (· intro w' hK; go_simp; (try go_bits); exact ⟨rfl, rfl⟩); simp only [Act.put, pA, pB, pC]
    apply txF (wants0 rfl); (· intro w' hK; go_simp; (try go_bits); exact ⟨rfl, rfl⟩); simp only [Act.put, pA, pB, pC]
    apply txA (.cells #[.bool false, .slice none 0 0, .slice none 0 0] 29) (wants0 rfl)
    · intro w' hK; go_simp; rfl
    intro R8 q_R8
    have o_R1_R8 : R1 < R8 := q_R8 _ _ _ m8
    have o_R2_R8 : R2 < R8 := q_R8 _ _ _ m7
    have o_R5_R8 : R5 < R8 := q_R8 _ _ _ m6
    clear q_R8
    simp only [mkOf, Act.put, pA, pB, pC]
    apply txA (.cells #[.bool false, .slice none 0 0, .slice none 0 0] 36) (wants0 rfl)
    · intro w' hK; go_simp; rfl
    intro R9 q_R9
    have o_R1_R9 : R1 < R9 := q_R9 _ _ _ m9
    have o_R2_R9 : R2 < R9 := q_R9 _ _ _ m8
    have o_R5_R9 : R5 < R9 := q_R9 _ _ _ m7
    have o_R8_R9 : R8 < R9 := q_R9 _ _ _ m0
    clear q_R9
    simp only [mkOf, Act.put, pA, pB, pC]
    apply txU 1 (Has w.heap.size R8 (.cells #[.bool (isN (numX m)), .slice sv7.a.a.p sv7.a.a.l sv7.a.a.c, .slice sv7.a.b.p sv7.a.b.l sv7.a.b.c] 29)) (wants0 rfl)
    · intro l1 hl1; intro w' hK; have k_R8 := (hK.get m1); have c_R8_0 := k_R8.at 0 rfl; have c_R8_1 := k_R8.at 1 rfl; have c_R8_2 := k_R8.at 2 rfl; have f_R8 := k_R8.fz; have ni := noInt_of k_R8 (by intro _ _ h; cases h); go_simp; obtain rfl := hl1.out; exact ⟨rfl, ks_put (R := R8) hK k_R8.1 0 [.bool (isN (numX m)), .slice sv7.a.a.p sv7.a.a.l sv7.a.a.c, .slice sv7.a.b.p sv7.a.b.l sv7.a.b.c] (all1 (spG o_R8_R9 (hK.get m0)) (all1 (fun w2 hb => has_put k_R8 0 [.bool (isN (numX m)), .slice sv7.a.a.p sv7.a.a.l sv7.a.a.c, .slice sv7.a.b.p sv7.a.b.l sv7.a.b.c] hb) (all1 (spQ ni (hK.get m2)) (all1 (spN ni (hK.get m3)) (all1 (spN ni (hK.get m4)) (all1 (spS ni (hK.get m5)) (all1 (spR ni (hK.get m6)) (all1 (spR ni (hK.get m7)) (all1 (spL o_R5_R8 (hK.get m8)) (all1 (spL o_R2_R8 (hK.get m9)) (all1 (spL o_R1_R8 (hK.get m10)) aN)))))))))))⟩
    simp only [Act.put, pB, pC]
    apply txU 0 (Has w.heap.size R9 (.cells #[.bool (isN (numX m)), .slice sv7.b.a.p (digs B6 (numQ (numX m))).length sv7.b.a.c, .slice sv7.b.b.p (digs B6 (den0 (numX m))).length sv7.b.b.c] 36)) (wants0 rfl)
    · intro l1 hl1; intro w' hK; have k_R9 := (hK.get m0); have c_R9_0 := k_R9.at 0 rfl; have c_R9_1 := k_R9.at 1 rfl; have c_R9_2 := k_R9.at 2 rfl; have f_R9 := k_R9.fz; have ni := noInt_of k_R9 (by intro _ _ h; cases h); go_simp; obtain rfl := hl1.out; exact ⟨rfl, ks_put (R := R9) hK k_R9.1 0 [.bool (isN (numX m)), .slice sv7.b.a.p (digs B6 (numQ (numX m))).length sv7.b.a.c, .slice sv7.b.b.p (digs B6 (den0 (numX m))).length sv7.b.b.c] (all1 (fun w2 hb => has_put k_R9 0 [.bool (isN (numX m)), .slice sv7.b.a.p (digs B6 (numQ (numX m))).length sv7.b.a.c, .slice sv7.b.b.p (digs B6 (den0 (numX m))).length sv7.b.b.c] hb) (all1 (spL o_R8_R9 (hK.get m1)) (all1 (spQ ni (hK.get m2)) (all1 (spN ni (hK.get m3)) (all1 (spN ni (hK.get m4)) (all1 (spS ni (hK.get m5)) (all1 (spR ni (hK.get m6)) (all1 (spR ni (hK.get m7)) (all1 (spL o_R5_R9 (hK.get m8)) (all1 (spL o_R2_R9 (hK.get m9)) (all1 (spL o_R1_R9 (hK.get m10)) aN)))))))))))⟩
    simp only [Act.put, pB, pC]
    apply txF (wants0 rfl); (· intro w' hK; go_simp; (try go_bits); exact ⟨rfl, rfl⟩); simp only [Act.put, pA, pB, pC]
    refine txEnd (fun W10 hK => ?_)
    go_upto_region 6 with (fail)
    refine wp_region_tx w hK ?_
    clear hK
    apply txF (wants0 rfl); (· intro w' hK; have k_R2 := (hK.get m9); have c_R2_0 := k_R2.at 0 rfl; have c_R2_1 := k_R2.at 1 rfl; have c_R2_2 := k_R2.at 2 rfl; go_simp; (try go_bits); exact ⟨rfl, rfl⟩); simp only [Act.put, pA, pB, pC]
    apply txE (α := Duo (Duo Sl Sl) (Duo Sl Sl)) (fun sv => .tuple #[.agg #[.bool (isN (numX n)), .slice sv.a.a.p sv.a.a.l sv.a.a.c, .slice sv.a.b.p sv.a.b.l sv.a.b.c], .agg #[.bool (isN (numX n)), .slice sv.b.a.p (digs B6 (numQ (numX n))).length sv.b.a.c, .slice sv.b.b.p (digs B6 (den0 (numX n))).length sv.b.b.c], .bool true]) (fun sv => [fun w => RatV w (.agg #[.bool (isN (numX n)), .slice sv.a.a.p sv.a.a.l sv.a.a.c, .slice sv.a.b.p sv.a.b.l sv.a.b.c]) (numX n), fun w => NatV w (.agg #[.slice sv.a.a.p sv.a.a.l sv.a.a.c]) ((numX n).num.natAbs), fun w => NatV w (.agg #[.slice sv.a.b.p sv.a.b.l sv.a.b.c]) (den0 (numX n)), fun w => RefR w (.agg #[.bool (isN (numX n)), .slice sv.b.a.p (digs B6 (numQ (numX n))).length sv.b.a.c, .slice sv.b.b.p (digs B6 (den0 (numX n))).length sv.b.b.c]) (numX n), fun w => RefV w (.slice sv.b.a.p (digs B6 (numQ (numX n))).length sv.b.a.c) (numQ (numX n)), fun w => RefV w (.slice sv.b.b.p (digs B6 (den0 (numX n))).length sv.b.b.c) (den0 (numX n))]) (wants0 rfl)
    · intro f1 l1 hl1; intro w' hK; go_simp; (try go_bits); refine (of_q (.agg #[.bool n.neg, .slice p_h1 n.ds.length c_h1, .slice q_h1 n.es.length d_h1]) n w' (h1_0.below hK.old) (hB0.below hK.old) ok_n).mono ?_; rintro e w5 ⟨y0, y1, rfl, u0, u1, hb⟩; obtain ⟨rfl, rfl⟩ := hl1.out; have u0_0 := u0; obtain ⟨p_u0, l_u0, c_u0, q_u0, m_u0, d_u0, rfl, u0_1, u0_2⟩ := u0; have u1_0 := u1; obtain ⟨p_u1, c_u1, q_u1, d_u1, rfl, u1_1, u1_2⟩ := u1.slr; exact ⟨_, rfl, (⟨(⟨⟨p_u0, l_u0, c_u0⟩, ⟨q_u0, m_u0, d_u0⟩⟩ : Duo Sl Sl), (⟨⟨p_u1, 0, c_u1⟩, ⟨q_u1, 0, d_u1⟩⟩ : Duo Sl Sl)⟩ : Duo (Duo Sl Sl) (Duo Sl Sl)), rfl, hb, .cons (fun w2 h2 => u0_0.below h2) (.cons (fun w2 h2 => u0_1.below h2) (.cons (fun w2 h2 => u0_2.below h2) (.cons (fun w2 h2 => u1_0.below h2) (.cons (fun w2 h2 => u1_1.below h2) (.cons (fun w2 h2 => u1_2.below h2) (Lasts.nil _))))))⟩
    intro sv11
    simp only [Act.put, pA, pB, pC, pD, pE]
    apply txF (wants0 rfl); (· intro w' hK; go_simp; (try go_bits); exact ⟨rfl, rfl⟩); simp only [Act.put, pA, pB, pC]
    apply txF (wants0 rfl); (· intro w' hK; go_simp; (try go_bits); exact ⟨rfl, rfl⟩); simp only [Act.put, pA, pB, pC]
    apply txF (wants0 rfl); (· intro w' hK; go_simp; (try go_bits); exact ⟨rfl, rfl⟩); simp only [Act.put, pA, pB, pC]
    apply txF (wants0 rfl); (· intro w' hK; go_simp; (try go_bits); exact ⟨rfl, rfl⟩); simp only [Act.put, pA, pB, pC]
    apply txA (.cells #[.bool false, .slice none 0 0, .slice none 0 0] 29) (wants0 rfl)
    · intro w' hK; go_simp; rfl
    intro R12 q_R12
    have o_R1_R12 : R1 < R12 := q_R12 _ _ _ m16
    have o_R2_R12 : R2 < R12 := q_R12 _ _ _ m15
    have o_R5_R12 : R5 < R12 := q_R12 _ _ _ m14
    have o_R8_R12 : R8 < R12 := q_R12 _ _ _ m7
    have o_R9_R12 : R9 < R12 := q_R12 _ _ _ m6
    clear q_R12
    simp only [mkOf, Act.put, pA, pB, pC]
    apply txA (.cells #[.bool false, .slice none 0 0, .slice none 0 0] 36) (wants0 rfl)
    · intro w' hK; go_simp; rfl
    intro R13 q_R13
    have o_R1_R13 : R1 < R13 := q_R13 _ _ _ m17
    have o_R2_R13 : R2 < R13 := q_R13 _ _ _ m16
    have o_R5_R13 : R5 < R13 := q_R13 _ _ _ m15
    have o_R8_R13 : R8 < R13 := q_R13 _ _ _ m8
    have o_R9_R13 : R9 < R13 := q_R13 _ _ _ m7
    have o_R12_R13 : R12 < R13 := q_R13 _ _ _ m0
    clear q_R13
    simp only [mkOf, Act.put, pA, pB, pC]
    apply txU 1 (Has w.heap.size R12 (.cells #[.bool (isN (numX n)), .slice sv11.a.a.p sv11.a.a.l sv11.a.a.c, .slice sv11.a.b.p sv11.a.b.l sv11.a.b.c] 29)) (wants0 rfl)
    · intro l1 hl1; intro w' hK; have k_R12 := (hK.get m1); have c_R12_0 := k_R12.at 0 rfl; have c_R12_1 := k_R12.at 1 rfl; have c_R12_2 := k_R12.at 2 rfl; have f_R12 := k_R12.fz; have ni := noInt_of k_R12 (by intro _ _ h; cases h); go_simp; obtain rfl := hl1.out; exact ⟨rfl, ks_put (R := R12) hK k_R12.1 0 [.bool (isN (numX n)), .slice sv11.a.a.p sv11.a.a.l sv11.a.a.c, .slice sv11.a.b.p sv11.a.b.l sv11.a.b.c] (all1 (spG o_R12_R13 (hK.get m0)) (all1 (fun w2 hb => has_put k_R12 0 [.bool (isN (numX n)), .slice sv11.a.a.p sv11.a.a.l sv11.a.a.c, .slice sv11.a.b.p sv11.a.b.l sv11.a.b.c] hb) (all1 (spQ ni (hK.get m2)) (all1 (spN ni (hK.get m3)) (all1 (spN ni (hK.get m4)) (all1 (spS ni (hK.get m5)) (all1 (spR ni (hK.get m6)) (all1 (spR ni (hK.get m7)) (all1 (spL o_R9_R12 (hK.get m8)) (all1 (spL o_R8_R12 (hK.get m9)) (all1 (spQ ni (hK.get m10)) (all1 (spN ni (hK.get m11)) (all1 (spN ni (hK.get m12)) (all1 (spS ni (hK.get m13)) (all1 (spR ni (hK.get m14)) (all1 (spR ni (hK.get m15)) (all1 (spL o_R5_R12 (hK.get m16)) (all1 (spL o_R2_R12 (hK.get m17)) (all1 (spL o_R1_R12 (hK.get m18)) aN)))))))))))))))))))⟩
    simp only [Act.put, pB, pC]
    apply txU 0 (Has w.heap.size R13 (.cells #[.bool (isN (numX n)), .slice sv11.b.a.p (digs B6 (numQ (numX n))).length sv11.b.a.c, .slice sv11.b.b.p (digs B6 (den0 (numX n))).length sv11.b.b.c] 36)) (wants0 rfl)
    · intro l1 hl1; intro w' hK; have k_R13 := (hK.get m0); have c_R13_0 := k_R13.at 0 rfl; have c_R13_1 := k_R13.at 1 rfl; have c_R13_2 := k_R13.at 2 rfl; have f_R13 := k_R13.fz; have ni := noInt_of k_R13 (by intro _ _ h; cases h); go_simp; obtain rfl := hl1.out; exact ⟨rfl, ks_put (R := R13) hK k_R13.1 0 [.bool (isN (numX n)), .slice sv11.b.a.p (digs B6 (numQ (numX n))).length sv11.b.a.c, .slice sv11.b.b.p (digs B6 (den0 (numX n))).length sv11.b.b.c] (all1 (fun w2 hb => has_put k_R13 0 [.bool (isN (numX n)), .slice sv11.b.a.p (digs B6 (numQ (numX n))).length sv11.b.a.c, .slice sv11.b.b.p (digs B6 (den0 (numX n))).length sv11.b.b.c] hb) (all1 (spL o_R12_R13 (hK.get m1)) (all1 (spQ ni (hK.get m2)) (all1 (spN ni (hK.get m3)) (all1 (spN ni (hK.get m4)) (all1 (spS ni (hK.get m5)) (all1 (spR ni (hK.get m6)) (all1 (spR ni (hK.get m7)) (all1 (spL o_R9_R13 (hK.get m8)) (all1 (spL o_R8_R13 (hK.get m9)) (all1 (spQ ni (hK.get m10)) (all1 (spN ni (hK.get m11)) (all1 (spN ni (hK.get m12)) (all1 (spS ni (hK.get m13)) (all1 (spR ni (hK.get m14)) (all1 (spR ni (hK.get m15)) (all1 (spL o_R5_R13 (hK.get m16)) (all1 (spL o_R2_R13 (hK.get m17)) (all1 (spL o_R1_R13 (hK.get m18)) aN)))))))))))))))))))⟩
    simp only [Act.put, pB, pC]
    apply txF (wants0 rfl); (· intro w' hK; go_simp; (try go_bits); exact ⟨rfl, rfl⟩); simp only [Act.put, pA, pB, pC]
    refine txEnd (fun W14 hK => ?_)
    go_upto_region 7 with (fail)
    have hK0 := hK
    refine wp_region_float0 (w) _ _ [0, 0, 0, 0, 0, 0, 0, 2, 0, 0, 2, 1, 0, 0, 0, 0, 2, 0, 0, 2, 1, 0, 0, 0, 2, 0, 2, 1, 0, 0, 0, 0, 1, 0, 0, 1, 0, 0, 0, 0, 1, 0, 1, 0, 0, 0] (by kernel_rfl) (by kernel_rfl) (by kernel_rfl) (by kernel_rfl) (KS.drew hK0) (KS.drew hK) ?_
    clear hK hK0
    apply lxF0 (wants0 rfl); (· intro w' h0; go_simp; (try go_bits); exact ⟨rfl, rfl⟩); simp only [Act.put, pA, pB, pC]
    apply lxF0 (wants0 rfl); (· intro w' h0; go_simp; (try go_bits); exact ⟨rfl, rfl⟩); simp only [Act.put, pA, pB, pC]
    apply lxF0 (wantsg (j := 1) (d := 31) (b := true) rfl rfl rfl rfl); (· intro w' h0; go_simp; (try go_bits); exact ⟨rfl, rfl⟩); simp only [Act.put, pA, pB, pC]
    apply lxF0 (wants0 rfl); (· intro w' h0; go_simp; (try go_bits); exact ⟨rfl, rfl⟩); simp only [Act.put, pA, pB, pC]
    apply lxF0 (wants0 rfl); (· intro w' h0; go_simp; (try go_bits); exact ⟨rfl, rfl⟩); simp only [Act.put, pA, pB, pC]
    apply lxF0 (wantsg (j := 4) (d := 34) (b := true) rfl rfl rfl rfl); (· intro w' h0; have k_R8 := (h0.get m9); have c_R8_0 := k_R8.at 0 rfl; have c_R8_1 := k_R8.at 1 rfl; have c_R8_2 := k_R8.at 2 rfl; go_simp; (try go_bits); exact ⟨rfl, rfl⟩); simp only [Act.put, pA, pB, pC]
    apply lxF0 (wantsg (j := 4) (d := 34) (b := true) rfl rfl rfl rfl); (· intro w' h0; have k_R12 := (h0.get m1); have c_R12_0 := k_R12.at 0 rfl; have c_R12_1 := k_R12.at 1 rfl; have c_R12_2 := k_R12.at 2 rfl; go_simp; (try go_bits); exact ⟨rfl, rfl⟩); simp only [Act.put, pA, pB, pC]
    apply lxE1 (α := Duo Sl Sl) (fun sv => .agg #[.bool (isN ((numX m) + (numX n))), .slice sv.a.p sv.a.l sv.a.c, .slice sv.b.p sv.b.l sv.b.c]) (fun sv => [fun w => RatV w (.agg #[.bool (isN ((numX m) + (numX n))), .slice sv.a.p sv.a.l sv.a.c, .slice sv.b.p sv.b.l sv.b.c]) ((numX m) + (numX n)), fun w => NatV w (.agg #[.slice sv.a.p sv.a.l sv.a.c]) (((numX m) + (numX n)).num.natAbs), fun w => NatV w (.agg #[.slice sv.b.p sv.b.l sv.b.c]) (den0 ((numX m) + (numX n)))]) (wantsg (j := 4) (d := 34) (b := true) rfl rfl rfl rfl)
    · intro f1 l1 hl1; intro w' h0 hK; go_simp; (try go_bits); refine (qadd_any (.agg #[.bool (isN (numX m)), .slice sv7.a.a.p sv7.a.a.l sv7.a.a.c, .slice sv7.a.b.p sv7.a.b.l sv7.a.b.c]) (.agg #[.bool (isN (numX n)), .slice sv11.a.a.p sv11.a.a.l sv11.a.a.c, .slice sv11.a.b.p sv11.a.b.l sv11.a.b.c]) (numX m) (numX n) w' (hK.get m10) (hK.get m2) (LmQ.up (b := 1000) ok_m.lm (by decide)) (LmQ.up (b := 1000) ok_n.lm (by decide)) (by decide)).mono ?_; rintro e w5 ⟨y0, rfl, u0, hb⟩; obtain ⟨rfl, rfl⟩ := hl1.out; have u0_0 := u0; obtain ⟨p_u0, l_u0, c_u0, q_u0, m_u0, d_u0, rfl, u0_1, u0_2⟩ := u0; exact ⟨_, rfl, (⟨⟨p_u0, l_u0, c_u0⟩, ⟨q_u0, m_u0, d_u0⟩⟩ : Duo Sl Sl), rfl, hb, .cons (fun w2 h2 => u0_0.below h2) (.cons (fun w2 h2 => u0_1.below h2) (.cons (fun w2 h2 => u0_2.below h2) (Lasts.nil _)))⟩
    intro sv15
    simp only [Act.put, pA, pB, pC, pD, pE]
    apply lxF0 (wantsg (j := 4) (d := 34) (b := true) rfl rfl rfl rfl); (· intro w' h0; have k_R9 := (h0.get m8); have c_R9_0 := k_R9.at 0 rfl; have c_R9_1 := k_R9.at 1 rfl; have c_R9_2 := k_R9.at 2 rfl; go_simp; (try go_bits); exact ⟨rfl, rfl⟩); simp only [Act.put, pA, pB, pC]
    apply lxF0 (wantsg (j := 4) (d := 34) (b := true) rfl rfl rfl rfl); (· intro w' h0; have k_R13 := (h0.get m0); have c_R13_0 := k_R13.at 0 rfl; have c_R13_1 := k_R13.at 1 rfl; have c_R13_2 := k_R13.at 2 rfl; go_simp; (try go_bits); exact ⟨rfl, rfl⟩); simp only [Act.put, pA, pB, pC]
    apply lxE1 (α := Duo Sl Sl) (fun sv => .agg #[.bool (isN ((numX m) + (numX n))), .slice sv.a.p (digs B6 (numQ ((numX m) + (numX n)))).length sv.a.c, .slice sv.b.p (digs B6 (den0 ((numX m) + (numX n)))).length sv.b.c]) (fun sv => [fun w => RefR w (.agg #[.bool (isN ((numX m) + (numX n))), .slice sv.a.p (digs B6 (numQ ((numX m) + (numX n)))).length sv.a.c, .slice sv.b.p (digs B6 (den0 ((numX m) + (numX n)))).length sv.b.c]) ((numX m) + (numX n)), fun w => RefV w (.slice sv.a.p (digs B6 (numQ ((numX m) + (numX n)))).length sv.a.c) (numQ ((numX m) + (numX n))), fun w => RefV w (.slice sv.b.p (digs B6 (den0 ((numX m) + (numX n)))).length sv.b.c) (den0 ((numX m) + (numX n)))]) (wantsg (j := 4) (d := 34) (b := true) rfl rfl rfl rfl)
    · intro f1 l1 hl1; intro w' h0 hK; go_simp; (try go_bits); refine (radd_q (.agg #[.bool (isN (numX m)), .slice sv7.b.a.p (digs B6 (numQ (numX m))).length sv7.b.a.c, .slice sv7.b.b.p (digs B6 (den0 (numX m))).length sv7.b.b.c]) (.agg #[.bool (isN (numX n)), .slice sv11.b.a.p (digs B6 (numQ (numX n))).length sv11.b.a.c, .slice sv11.b.b.p (digs B6 (den0 (numX n))).length sv11.b.b.c]) (numX m) (numX n) w' (hK.get m16) (hK.get m8) (LmQ.up (b := 1000) ok_m.lm (by decide)) (LmQ.up (b := 1000) ok_n.lm (by decide)) (by decide)).mono ?_; rintro e w5 ⟨y0, rfl, u0, hb⟩; obtain ⟨rfl, rfl⟩ := hl1.out; have u0_0 := u0; obtain ⟨p_u0, c_u0, q_u0, d_u0, rfl, u0_1, u0_2⟩ := u0.slr; exact ⟨_, rfl, (⟨⟨p_u0, 0, c_u0⟩, ⟨q_u0, 0, d_u0⟩⟩ : Duo Sl Sl), rfl, hb, .cons (fun w2 h2 => u0_0.below h2) (.cons (fun w2 h2 => u0_1.below h2) (.cons (fun w2 h2 => u0_2.below h2) (Lasts.nil _)))⟩
    intro sv16
    simp only [Act.put, pA, pB, pC, pD, pE]
    apply lxH1 (v := .bool true) (wantsg (j := 4) (d := 34) (b := true) rfl rfl rfl rfl)
    · intro v1 hv1; intro w' h0 hK; go_simp; (try go_bits); refine (is_q (.agg #[.bool (isN ((numX m) + (numX n))), .slice sv15.a.p sv15.a.l sv15.a.c, .slice sv15.b.p sv15.b.l sv15.b.c]) (.agg #[.bool (isN ((numX m) + (numX n))), .slice sv16.a.p (digs B6 (numQ ((numX m) + (numX n)))).length sv16.a.c, .slice sv16.b.p (digs B6 (den0 ((numX m) + (numX n)))).length sv16.b.c]) ((numX m) + (numX n)) ((numX m) + (numX n)) w' (hK.get m3) (hK.get m0) (hB0.below hK.old) (LmQ.up (b := 50) (LmQ.add ok_m.lm ok_n.lm) (by decide)) (LmQ.up (b := 50) (LmQ.add ok_m.lm ok_n.lm) (by decide)) rfl).mono ?_; rintro e w5 ⟨rfl, hb⟩; obtain rfl := hv1.out; exact ⟨_, rfl, rfl, hb⟩
    simp only [Act.put, pA, pB, pC]
    apply lxF0 (wants0 rfl); (· intro w' h0; go_simp; (try go_bits); exact ⟨rfl, rfl⟩); simp only [Act.put, pA, pB, pC]
    apply lxF0 (wants0 rfl); (· intro w' h0; go_simp; (try go_bits); exact ⟨rfl, rfl⟩); simp only [Act.put, pA, pB, pC]
    apply lxF0 (wantsg (j := 13) (d := 43) (b := true) rfl rfl rfl rfl); (· intro w' h0; have k_R8 := (h0.get m9); have c_R8_0 := k_R8.at 0 rfl; have c_R8_1 := k_R8.at 1 rfl; have c_R8_2 := k_R8.at 2 rfl; go_simp; (try go_bits); exact ⟨rfl, rfl⟩); simp only [Act.put, pA, pB, pC]
    apply lxF0 (wantsg (j := 13) (d := 43) (b := true) rfl rfl rfl rfl); (· intro w' h0; have k_R12 := (h0.get m1); have c_R12_0 := k_R12.at 0 rfl; have c_R12_1 := k_R12.at 1 rfl; have c_R12_2 := k_R12.at 2 rfl; go_simp; (try go_bits); exact ⟨rfl, rfl⟩); simp only [Act.put, pA, pB, pC]
    apply lxE1 (α := Duo Sl Sl) (fun sv => .agg #[.bool (isN ((numX m) - (numX n))), .slice sv.a.p sv.a.l sv.a.c, .slice sv.b.p sv.b.l sv.b.c]) (fun sv => [fun w => RatV w (.agg #[.bool (isN ((numX m) - (numX n))), .slice sv.a.p sv.a.l sv.a.c, .slice sv.b.p sv.b.l sv.b.c]) ((numX m) - (numX n)), fun w => NatV w (.agg #[.slice sv.a.p sv.a.l sv.a.c]) (((numX m) - (numX n)).num.natAbs), fun w => NatV w (.agg #[.slice sv.b.p sv.b.l sv.b.c]) (den0 ((numX m) - (numX n)))]) (wantsg (j := 13) (d := 43) (b := true) rfl rfl rfl rfl)
    · intro f1 l1 hl1; intro w' h0 hK; go_simp; (try go_bits); refine (qsub_any (.agg #[.bool (isN (numX m)), .slice sv7.a.a.p sv7.a.a.l sv7.a.a.c, .slice sv7.a.b.p sv7.a.b.l sv7.a.b.c]) (.agg #[.bool (isN (numX n)), .slice sv11.a.a.p sv11.a.a.l sv11.a.a.c, .slice sv11.a.b.p sv11.a.b.l sv11.a.b.c]) (numX m) (numX n) w' (hK.get m16) (hK.get m8) (LmQ.up (b := 1000) ok_m.lm (by decide)) (LmQ.up (b := 1000) ok_n.lm (by decide)) (by decide)).mono ?_; rintro e w5 ⟨y0, rfl, u0, hb⟩; obtain ⟨rfl, rfl⟩ := hl1.out; have u0_0 := u0; obtain ⟨p_u0, l_u0, c_u0, q_u0, m_u0, d_u0, rfl, u0_1, u0_2⟩ := u0; exact ⟨_, rfl, (⟨⟨p_u0, l_u0, c_u0⟩, ⟨q_u0, m_u0, d_u0⟩⟩ : Duo Sl Sl), rfl, hb, .cons (fun w2 h2 => u0_0.below h2) (.cons (fun w2 h2 => u0_1.below h2) (.cons (fun w2 h2 => u0_2.below h2) (Lasts.nil _)))⟩
    intro sv17
    simp only [Act.put, pA, pB, pC, pD, pE]
    apply lxF0 (wantsg (j := 13) (d := 43) (b := true) rfl rfl rfl rfl); (· intro w' h0; have k_R9 := (h0.get m8); have c_R9_0 := k_R9.at 0 rfl; have c_R9_1 := k_R9.at 1 rfl; have c_R9_2 := k_R9.at 2 rfl; go_simp; (try go_bits); exact ⟨rfl, rfl⟩); simp only [Act.put, pA, pB, pC]
    apply lxF0 (wantsg (j := 13) (d := 43) (b := true) rfl rfl rfl rfl); (· intro w' h0; have k_R13 := (h0.get m0); have c_R13_0 := k_R13.at 0 rfl; have c_R13_1 := k_R13.at 1 rfl; have c_R13_2 := k_R13.at 2 rfl; go_simp; (try go_bits); exact ⟨rfl, rfl⟩); simp only [Act.put, pA, pB, pC]
    apply lxE1 (α := Duo Sl Sl) (fun sv => .agg #[.bool (isN ((numX m) - (numX n))), .slice sv.a.p (digs B6 (numQ ((numX m) - (numX n)))).length sv.a.c, .slice sv.b.p (digs B6 (den0 ((numX m) - (numX n)))).length sv.b.c]) (fun sv => [fun w => RefR w (.agg #[.bool (isN ((numX m) - (numX n))), .slice sv.a.p (digs B6 (numQ ((numX m) - (numX n)))).length sv.a.c, .slice sv.b.p (digs B6 (den0 ((numX m) - (numX n)))).length sv.b.c]) ((numX m) - (numX n)), fun w => RefV w (.slice sv.a.p (digs B6 (numQ ((numX m) - (numX n)))).length sv.a.c) (numQ ((numX m) - (numX n))), fun w => RefV w (.slice sv.b.p (digs B6 (den0 ((numX m) - (numX n)))).length sv.b.c) (den0 ((numX m) - (numX n)))]) (wantsg (j := 13) (d := 43) (b := true) rfl rfl rfl rfl)
    · intro f1 l1 hl1; intro w' h0 hK; go_simp; (try go_bits); refine (rsub_q (.agg #[.bool (isN (numX m)), .slice sv7.b.a.p (digs B6 (numQ (numX m))).length sv7.b.a.c, .slice sv7.b.b.p (digs B6 (den0 (numX m))).length sv7.b.b.c]) (.agg #[.bool (isN (numX n)), .slice sv11.b.a.p (digs B6 (numQ (numX n))).length sv11.b.a.c, .slice sv11.b.b.p (digs B6 (den0 (numX n))).length sv11.b.b.c]) (numX m) (numX n) w' (hK.get m22) (hK.get m14) (LmQ.up (b := 1000) ok_m.lm (by decide)) (LmQ.up (b := 1000) ok_n.lm (by decide)) (by decide)).mono ?_; rintro e w5 ⟨y0, rfl, u0, hb⟩; obtain ⟨rfl, rfl⟩ := hl1.out; have u0_0 := u0; obtain ⟨p_u0, c_u0, q_u0, d_u0, rfl, u0_1, u0_2⟩ := u0.slr; exact ⟨_, rfl, (⟨⟨p_u0, 0, c_u0⟩, ⟨q_u0, 0, d_u0⟩⟩ : Duo Sl Sl), rfl, hb, .cons (fun w2 h2 => u0_0.below h2) (.cons (fun w2 h2 => u0_1.below h2) (.cons (fun w2 h2 => u0_2.below h2) (Lasts.nil _)))⟩
    intro sv18
    simp only [Act.put, pA, pB, pC, pD, pE]
    apply lxH1 (v := .bool true) (wantsg (j := 13) (d := 43) (b := true) rfl rfl rfl rfl)
    · intro v1 hv1; intro w' h0 hK; go_simp; (try go_bits); refine (is_q (.agg #[.bool (isN ((numX m) - (numX n))), .slice sv17.a.p sv17.a.l sv17.a.c, .slice sv17.b.p sv17.b.l sv17.b.c]) (.agg #[.bool (isN ((numX m) - (numX n))), .slice sv18.a.p (digs B6 (numQ ((numX m) - (numX n)))).length sv18.a.c, .slice sv18.b.p (digs B6 (den0 ((numX m) - (numX n)))).length sv18.b.c]) ((numX m) - (numX n)) ((numX m) - (numX n)) w' (hK.get m3) (hK.get m0) (hB0.below hK.old) (LmQ.up (b := 50) (LmQ.sub ok_m.lm ok_n.lm) (by decide)) (LmQ.up (b := 50) (LmQ.sub ok_m.lm ok_n.lm) (by decide)) rfl).mono ?_; rintro e w5 ⟨rfl, hb⟩; obtain rfl := hv1.out; exact ⟨_, rfl, rfl, hb⟩
    simp only [Act.put, pA, pB, pC]
    apply lxF0 (wants0 rfl); (· intro w' h0; go_simp; (try go_bits); exact ⟨rfl, rfl⟩); simp only [Act.put, pA, pB, pC]
    apply lxF0 (wants0 rfl); (· intro w' h0; go_simp; (try go_bits); exact ⟨rfl, rfl⟩); simp only [Act.put, pA, pB, pC]
    apply lxF0 (wantsg (j := 22) (d := 52) (b := true) rfl rfl rfl rfl); (· intro w' h0; have k_R8 := (h0.get m9); have c_R8_0 := k_R8.at 0 rfl; have c_R8_1 := k_R8.at 1 rfl; have c_R8_2 := k_R8.at 2 rfl; go_simp; (try go_bits); exact ⟨rfl, rfl⟩); simp only [Act.put, pA, pB, pC]
    apply lxE1 (α := Duo Sl Sl) (fun sv => .agg #[.bool (isN (-(numX m))), .slice sv.a.p sv.a.l sv.a.c, .slice sv.b.p sv.b.l sv.b.c]) (fun sv => [fun w => RatV w (.agg #[.bool (isN (-(numX m))), .slice sv.a.p sv.a.l sv.a.c, .slice sv.b.p sv.b.l sv.b.c]) (-(numX m)), fun w => NatV w (.agg #[.slice sv.a.p sv.a.l sv.a.c]) ((-(numX m)).num.natAbs), fun w => NatV w (.agg #[.slice sv.b.p sv.b.l sv.b.c]) (den0 (-(numX m)))]) (wantsg (j := 22) (d := 52) (b := true) rfl rfl rfl rfl)
    · intro f1 l1 hl1; intro w' h0 hK; go_simp; (try go_bits); refine (qneg_any (.agg #[.bool (isN (numX m)), .slice sv7.a.a.p sv7.a.a.l sv7.a.a.c, .slice sv7.a.b.p sv7.a.b.l sv7.a.b.c]) (numX m) w' (hK.get m22) ).mono ?_; rintro e w5 ⟨y0, rfl, u0, hb⟩; obtain ⟨rfl, rfl⟩ := hl1.out; have u0_0 := u0; obtain ⟨p_u0, l_u0, c_u0, q_u0, m_u0, d_u0, rfl, u0_1, u0_2⟩ := u0; exact ⟨_, rfl, (⟨⟨p_u0, l_u0, c_u0⟩, ⟨q_u0, m_u0, d_u0⟩⟩ : Duo Sl Sl), rfl, hb, .cons (fun w2 h2 => u0_0.below h2) (.cons (fun w2 h2 => u0_1.below h2) (.cons (fun w2 h2 => u0_2.below h2) (Lasts.nil _)))⟩
    intro sv19
    simp only [Act.put, pA, pB, pC, pD, pE]
    apply lxF0 (wantsg (j := 22) (d := 52) (b := true) rfl rfl rfl rfl); (· intro w' h0; have k_R9 := (h0.get m8); have c_R9_0 := k_R9.at 0 rfl; have c_R9_1 := k_R9.at 1 rfl; have c_R9_2 := k_R9.at 2 rfl; go_simp; (try go_bits); exact ⟨rfl, rfl⟩); simp only [Act.put, pA, pB, pC]
    apply lxE1 (α := Duo Sl Sl) (fun sv => .agg #[.bool (isN (-(numX m))), .slice sv.a.p (digs B6 (numQ (-(numX m)))).length sv.a.c, .slice sv.b.p (digs B6 (den0 (-(numX m)))).length sv.b.c]) (fun sv => [fun w => RefR w (.agg #[.bool (isN (-(numX m))), .slice sv.a.p (digs B6 (numQ (-(numX m)))).length sv.a.c, .slice sv.b.p (digs B6 (den0 (-(numX m)))).length sv.b.c]) (-(numX m)), fun w => RefV w (.slice sv.a.p (digs B6 (numQ (-(numX m)))).length sv.a.c) (numQ (-(numX m))), fun w => RefV w (.slice sv.b.p (digs B6 (den0 (-(numX m)))).length sv.b.c) (den0 (-(numX m)))]) (wantsg (j := 22) (d := 52) (b := true) rfl rfl rfl rfl)
    · intro f1 l1 hl1; intro w' h0 hK; go_simp; (try go_bits); refine (rneg_q (.agg #[.bool (isN (numX m)), .slice sv7.b.a.p (digs B6 (numQ (numX m))).length sv7.b.a.c, .slice sv7.b.b.p (digs B6 (den0 (numX m))).length sv7.b.b.c]) (numX m) w' (hK.get (ms (ms (ms (ms m24))))) (LmQ.up (b := 1000) ok_m.lm (by decide)) (by decide)).mono ?_; rintro e w5 ⟨y0, rfl, u0, hb⟩; obtain ⟨rfl, rfl⟩ := hl1.out; have u0_0 := u0; obtain ⟨p_u0, c_u0, q_u0, d_u0, rfl, u0_1, u0_2⟩ := u0.slr; exact ⟨_, rfl, (⟨⟨p_u0, 0, c_u0⟩, ⟨q_u0, 0, d_u0⟩⟩ : Duo Sl Sl), rfl, hb, .cons (fun w2 h2 => u0_0.below h2) (.cons (fun w2 h2 => u0_1.below h2) (.cons (fun w2 h2 => u0_2.below h2) (Lasts.nil _)))⟩
    intro sv20
    simp only [Act.put, pA, pB, pC, pD, pE]
    apply lxH1 (v := .bool true) (wantsg (j := 22) (d := 52) (b := true) rfl rfl rfl rfl)
    · intro v1 hv1; intro w' h0 hK; go_simp; (try go_bits); refine (is_q (.agg #[.bool (isN (-(numX m))), .slice sv19.a.p sv19.a.l sv19.a.c, .slice sv19.b.p sv19.b.l sv19.b.c]) (.agg #[.bool (isN (-(numX m))), .slice sv20.a.p (digs B6 (numQ (-(numX m)))).length sv20.a.c, .slice sv20.b.p (digs B6 (den0 (-(numX m)))).length sv20.b.c]) (-(numX m)) (-(numX m)) w' (hK.get m3) (hK.get m0) (hB0.below hK.old) (LmQ.up (b := 50) (LmQ.neg ok_m.lm) (by decide)) (LmQ.up (b := 50) (LmQ.neg ok_m.lm) (by decide)) rfl).mono ?_; rintro e w5 ⟨rfl, hb⟩; obtain rfl := hv1.out; exact ⟨_, rfl, rfl, hb⟩
    simp only [Act.put, pA, pB, pC]
    apply lxF0 (wants0 rfl); (· intro w' h0; go_simp; (try go_bits); exact ⟨rfl, rfl⟩); simp only [Act.put, pA, pB, pC]
    apply lxF0 (wants0 rfl); (· intro w' h0; go_simp; (try go_bits); exact ⟨rfl, rfl⟩); simp only [Act.put, pA, pB, pC]
    apply lxF0 (wantsg (j := 29) (d := 59) (b := true) rfl rfl rfl rfl); (· intro w' h0; have k_R8 := (h0.get m9); have c_R8_0 := k_R8.at 0 rfl; have c_R8_1 := k_R8.at 1 rfl; have c_R8_2 := k_R8.at 2 rfl; go_simp; (try go_bits); exact ⟨rfl, rfl⟩); simp only [Act.put, pA, pB, pC]
    apply lxF0 (wantsg (j := 29) (d := 59) (b := true) rfl rfl rfl rfl); (· intro w' h0; have k_R12 := (h0.get m1); have c_R12_0 := k_R12.at 0 rfl; have c_R12_1 := k_R12.at 1 rfl; have c_R12_2 := k_R12.at 2 rfl; go_simp; (try go_bits); exact ⟨rfl, rfl⟩); simp only [Act.put, pA, pB, pC]
    obtain ⟨z1, hz1⟩ : ∃ b : Int, RowKit.Hid ((sgQ ((numX m) - (numX n))) = b) := ⟨_, hid rfl⟩
    apply lxH1 (v := .int .i64 z1) (wantsg (j := 29) (d := 59) (b := true) rfl rfl rfl rfl)
    · intro v1 hv1; intro w' h0 hK; go_simp; (try go_bits); refine (qcmp_any (.agg #[.bool (isN (numX m)), .slice sv7.a.a.p sv7.a.a.l sv7.a.a.c, .slice sv7.a.b.p sv7.a.b.l sv7.a.b.c]) (.agg #[.bool (isN (numX n)), .slice sv11.a.a.p sv11.a.a.l sv11.a.a.c, .slice sv11.a.b.p sv11.a.b.l sv11.a.b.c]) (numX m) (numX n) w' (hK.get (ms (ms (ms (ms m24))))) (hK.get m20) (LmQ.up (b := 1000) ok_m.lm (by decide)) (LmQ.up (b := 1000) ok_n.lm (by decide)) (by decide)).mono ?_; rintro e w5 ⟨rfl, hb⟩; obtain rfl := hv1.out; exact ⟨_, rfl, (by rw [hz1.out]), hb⟩
    simp only [Act.put, pA, pB, pC]
    apply lxF0 (wantsg (j := 29) (d := 59) (b := true) rfl rfl rfl rfl); (· intro w' h0; have k_R9 := (h0.get m8); have c_R9_0 := k_R9.at 0 rfl; have c_R9_1 := k_R9.at 1 rfl; have c_R9_2 := k_R9.at 2 rfl; go_simp; (try go_bits); exact ⟨rfl, rfl⟩); simp only [Act.put, pA, pB, pC]
    apply lxF0 (wantsg (j := 29) (d := 59) (b := true) rfl rfl rfl rfl); (· intro w' h0; have k_R13 := (h0.get m0); have c_R13_0 := k_R13.at 0 rfl; have c_R13_1 := k_R13.at 1 rfl; have c_R13_2 := k_R13.at 2 rfl; go_simp; (try go_bits); exact ⟨rfl, rfl⟩); simp only [Act.put, pA, pB, pC]
    obtain ⟨z2, hz2⟩ : ∃ b : Int, RowKit.Hid ((sgQ ((numX m) - (numX n))) = b) := ⟨_, hid rfl⟩
    apply lxH1 (v := .int .i64 z2) (wantsg (j := 29) (d := 59) (b := true) rfl rfl rfl rfl)
    · intro v1 hv1; intro w' h0 hK; go_simp; (try go_bits); refine (rcmp_q (.agg #[.bool (isN (numX m)), .slice sv7.b.a.p (digs B6 (numQ (numX m))).length sv7.b.a.c, .slice sv7.b.b.p (digs B6 (den0 (numX m))).length sv7.b.b.c]) (.agg #[.bool (isN (numX n)), .slice sv11.b.a.p (digs B6 (numQ (numX n))).length sv11.b.a.c, .slice sv11.b.b.p (digs B6 (den0 (numX n))).length sv11.b.b.c]) (numX m) (numX n) w' (hK.get (ms (ms (ms (ms (ms (ms (ms m24)))))))) (hK.get m23) (LmQ.up (b := 1000) ok_m.lm (by decide)) (LmQ.up (b := 1000) ok_n.lm (by decide)) (by decide)).mono ?_; rintro e w5 ⟨rfl, hb⟩; obtain rfl := hv1.out; exact ⟨_, rfl, (by rw [hz2.out]), hb⟩
    simp only [Act.put, pA, pB, pC]
    apply lxF0 (v := .bool true) (wantsg (j := 29) (d := 59) (b := true) rfl rfl rfl rfl); (· intro w' h0; go_simp; (try go_bits); exact ⟨congrArg Value.bool (by rw [← hz1.out, ← hz2.out]; simp), rfl⟩); simp only [Act.put, pA, pB, pC]
    apply lxF0 (wants0 rfl); (· intro w' h0; go_simp; (try go_bits); exact ⟨rfl, rfl⟩); simp only [Act.put, pA, pB, pC]
    apply lxF0 (wants0 rfl); (· intro w' h0; go_simp; (try go_bits); exact ⟨rfl, rfl⟩); simp only [Act.put, pA, pB, pC]
    apply lxF0 (wantsg (j := 38) (d := 68) (b := true) rfl rfl rfl rfl); (· intro w' h0; have k_R8 := (h0.get m9); have c_R8_0 := k_R8.at 0 rfl; have c_R8_1 := k_R8.at 1 rfl; have c_R8_2 := k_R8.at 2 rfl; go_simp; (try go_bits); exact ⟨rfl, rfl⟩); simp only [Act.put, pA, pB, pC]
    obtain ⟨z3, hz3⟩ : ∃ b : Int, RowKit.Hid ((sgQ (numX m)) = b) := ⟨_, hid rfl⟩
    apply lxH1 (v := .int .i64 z3) (wantsg (j := 38) (d := 68) (b := true) rfl rfl rfl rfl)
    · intro v1 hv1; intro w' h0 hK; go_simp; (try go_bits); refine (sign_any (.agg #[.bool (isN (numX m)), .slice sv7.a.a.p sv7.a.a.l sv7.a.a.c, .slice sv7.a.b.p sv7.a.b.l sv7.a.b.c]) (numX m) w' (hK.get (ms (ms (ms (ms m24))))) ).mono ?_; rintro e w5 ⟨rfl, hb⟩; obtain rfl := hv1.out; exact ⟨_, rfl, (by rw [hz3.out]), hb⟩
    simp only [Act.put, pA, pB, pC]
    apply lxF0 (wantsg (j := 38) (d := 68) (b := true) rfl rfl rfl rfl); (· intro w' h0; have k_R9 := (h0.get m8); have c_R9_0 := k_R9.at 0 rfl; have c_R9_1 := k_R9.at 1 rfl; have c_R9_2 := k_R9.at 2 rfl; go_simp; (try go_bits); exact ⟨rfl, rfl⟩); simp only [Act.put, pA, pB, pC]
    obtain ⟨z4, hz4⟩ : ∃ b : Int, RowKit.Hid ((sgQ (numX m)) = b) := ⟨_, hid rfl⟩
    apply lxH1 (v := .int .i64 z4) (wantsg (j := 38) (d := 68) (b := true) rfl rfl rfl rfl)
    · intro v1 hv1; intro w' h0 hK; go_simp; (try go_bits); refine (rsign_q (.agg #[.bool (isN (numX m)), .slice sv7.b.a.p (digs B6 (numQ (numX m))).length sv7.b.a.c, .slice sv7.b.b.p (digs B6 (den0 (numX m))).length sv7.b.b.c]) (numX m) w' (hK.get (ms (ms (ms (ms (ms (ms (ms m24)))))))) ).mono ?_; rintro e w5 ⟨rfl, hb⟩; obtain rfl := hv1.out; exact ⟨_, rfl, (by rw [hz4.out]), hb⟩
    simp only [Act.put, pA, pB, pC]
    apply lxF0 (v := .bool true) (wantsg (j := 38) (d := 68) (b := true) rfl rfl rfl rfl); (· intro w' h0; go_simp; (try go_bits); exact ⟨congrArg Value.bool (by rw [← hz3.out, ← hz4.out]; simp), rfl⟩); simp only [Act.put, pA, pB, pC]
    apply lxF0 (wants0 rfl); (· intro w' h0; go_simp; (try go_bits); exact ⟨rfl, rfl⟩); simp only [Act.put, pA, pB, pC]
    apply lxF0 (wants0 rfl); (· intro w' h0; go_simp; (try go_bits); exact ⟨rfl, rfl⟩); simp only [Act.put, pA, pB, pC]
    refine lxEnd (fun W21 hK => ?_)
    go_wp2
    try go_ret
    show Q0 (.returned (.bool true)) _
    exact (by obtain rfl := hQ0.out; exact ⟨rfl, hK.old⟩)
set_option maxRecDepth 100000 in
theorem rationalProducts_walk (v0 : Value) (v1 : Value) (m : NumS) (n : NumS) (w : World) (h0 : NumV w v0 m) (h1 : NumV w v1 n) (hB0 : Bas w) (d_m : (∀ d ∈ m.ds, d < B32) ∧ ∀ d ∈ m.es, d < B32) (d_n : (∀ d ∈ n.ds, d < B32) ∧ ∀ d ∈ n.es, d < B32) :
    Calls Tryz.prog 7 #[v0, v1] w fun e w' => e = .returned (.bool true) ∧ Below w.heap.size w w' := by
  have h0_0 := h0; obtain ⟨p_h0, c_h0, q_h0, d_h0, rfl, h0_1, h0_2⟩ := h0.sl
  have h1_0 := h1; obtain ⟨p_h1, c_h1, q_h1, d_h1, rfl, h1_1, h1_2⟩ := h1.sl
  have hK : KS w [] w := (KS.start w)
  refine Calls.hide (fun Q0 hQ0 => ?_)
  go_enter Tryz.func7, Tryz.ntmps7
  go_upto_region 0 with (fail)
  refine wp_region_tx w hK ?_
  clear hK
  apply txA (.cells #[.bool m.neg, .slice p_h0 m.ds.length c_h0, .slice q_h0 m.es.length d_h0] 43) (wants0 rfl)
  · intro w' hK; go_simp; rfl
  intro R1 q_R1
  clear q_R1
  simp only [mkOf, Act.put, pA, pB, pC]
  apply txA (.cells #[.bool n.neg, .slice p_h1 n.ds.length c_h1, .slice q_h1 n.es.length d_h1] 43) (wants0 rfl)
  · intro w' hK; go_simp; rfl
  intro R2 q_R2
  have o_R1_R2 : R1 < R2 := q_R2 _ _ _ m0
  clear q_R2
  simp only [mkOf, Act.put, pA, pB, pC]
  apply txF (wants0 rfl); (· intro w' hK; go_simp; (try go_bits); exact ⟨rfl, rfl⟩); simp only [Act.put, pA, pB, pC]
  refine txEnd (fun W3 hK => ?_)
  go_upto_region 1 with (fail)
  refine wp_region_tx w hK ?_
  clear hK
  apply txH (v := .bool true) (wants0 rfl)
  · intro v1 hv1; intro w' hK; go_simp; (try go_bits); refine (awake_q   w' (hB0.below hK.old) ).mono ?_; rintro e w5 ⟨rfl, hb⟩; obtain rfl := hv1.out; exact ⟨_, rfl, rfl, hb⟩
  simp only [Act.put, pA, pB, pC]
  apply txF (wants0 rfl); (· intro w' hK; go_simp; (try go_bits); exact ⟨rfl, rfl⟩); simp only [Act.put, pA, pB, pC]
  refine txEnd (fun W4 hK => ?_)
  go_upto_region 3 with (fail)
  refine wp_region_tx w hK ?_
  clear hK
  apply txF (wants0 rfl); (· intro w' hK; have k_R1 := (hK.get m1); have c_R1_0 := k_R1.at 0 rfl; have c_R1_1 := k_R1.at 1 rfl; have c_R1_2 := k_R1.at 2 rfl; go_simp; (try go_bits); exact ⟨rfl, rfl⟩); simp only [Act.put, pA, pB, pC]
  apply txF (wants0 rfl); (· intro w' hK; have k_R2 := (hK.get m0); have c_R2_0 := k_R2.at 0 rfl; have c_R2_1 := k_R2.at 1 rfl; have c_R2_2 := k_R2.at 2 rfl; go_simp; (try go_bits); exact ⟨rfl, rfl⟩); simp only [Act.put, pA, pB, pC]
  apply txA (.cells #[.bool m.neg, .slice p_h0 m.ds.length c_h0, .slice q_h0 m.es.length d_h0, .bool n.neg, .slice p_h1 n.ds.length c_h1, .slice q_h1 n.es.length d_h1] 43) (wants0 rfl)
  · intro w' hK; go_simp; rfl
  intro R5 q_R5
  have o_R1_R5 : R1 < R5 := q_R5 _ _ _ m1
  have o_R2_R5 : R2 < R5 := q_R5 _ _ _ m0
  clear q_R5
  simp only [mkOf, Act.put, pA, pB, pC]
  obtain ⟨b1, hb1⟩ : ∃ b : Bool, RowKit.Hid (decide (∀ x ∈ ([⟨.bool m.neg, p_h0, m.ds.length, c_h0, q_h0, m.es.length, d_h0⟩, ⟨.bool n.neg, p_h1, n.ds.length, c_h1, q_h1, n.es.length, d_h1⟩] : List NC), x.l ≤ 8 ∧ x.m ≤ 8) = b) := ⟨_, hid rfl⟩
  apply txH (v := .bool b1) (wants0 rfl)
  · intro v1 hv1; intro w' hK; go_simp; (try go_bits); refine (brief_any R5 ([⟨.bool m.neg, p_h0, m.ds.length, c_h0, q_h0, m.es.length, d_h0⟩, ⟨.bool n.neg, p_h1, n.ds.length, c_h1, q_h1, n.es.length, d_h1⟩] : List NC) w' (hK.get m0) (by simp)).mono ?_; rintro e w5 ⟨rfl, hb⟩; obtain rfl := hv1.out; exact ⟨_, rfl, (by rw [hb1.out]), hb⟩
  simp only [Act.put, pA, pB, pC]
  apply txF (wants0 rfl); (· intro w' hK; go_simp; (try go_bits); exact ⟨rfl, rfl⟩); simp only [Act.put, pA, pB, pC]
  refine txEnd (fun W6 hK => ?_)
  cases b1
  · --
    go_wp2
    try go_ret
    show Q0 (.returned (.bool true)) _
    exact (by obtain rfl := hQ0.out; exact ⟨rfl, hK.old⟩)
  · --
    have hq := brief_2 hb1.out rfl
    have ok_m : NumOk m := nok d_m hq.1
    have ok_n : NumOk n := nok d_n hq.2
    go_upto_region 5 with (fail)
    refine wp_region_tx w hK ?_
    clear hK
    apply txF (wants0 rfl); (· intro w' hK; have k_R1 := (hK.get m2); have c_R1_0 := k_R1.at 0 rfl; have c_R1_1 := k_R1.at 1 rfl; have c_R1_2 := k_R1.at 2 rfl; go_simp; (try go_bits); exact ⟨rfl, rfl⟩); simp only [Act.put, pA, pB, pC]
    apply txE (α := Duo (Duo Sl Sl) (Duo Sl Sl)) (fun sv => .tuple #[.agg #[.bool (isN (numX m)), .slice sv.a.a.p sv.a.a.l sv.a.a.c, .slice sv.a.b.p sv.a.b.l sv.a.b.c], .agg #[.bool (isN (numX m)), .slice sv.b.a.p (digs B6 (numQ (numX m))).length sv.b.a.c, .slice sv.b.b.p (digs B6 (den0 (numX m))).length sv.b.b.c], .bool true]) (fun sv => [fun w => RatV w (.agg #[.bool (isN (numX m)), .slice sv.a.a.p sv.a.a.l sv.a.a.c, .slice sv.a.b.p sv.a.b.l sv.a.b.c]) (numX m), fun w => NatV w (.agg #[.slice sv.a.a.p sv.a.a.l sv.a.a.c]) ((numX m).num.natAbs), fun w => NatV w (.agg #[.slice sv.a.b.p sv.a.b.l sv.a.b.c]) (den0 (numX m)), fun w => RefR w (.agg #[.bool (isN (numX m)), .slice sv.b.a.p (digs B6 (numQ (numX m))).length sv.b.a.c, .slice sv.b.b.p (digs B6 (den0 (numX m))).length sv.b.b.c]) (numX m), fun w => RefV w (.slice sv.b.a.p (digs B6 (numQ (numX m))).length sv.b.a.c) (numQ (numX m)), fun w => RefV w (.slice sv.b.b.p (digs B6 (den0 (numX m))).length sv.b.b.c) (den0 (numX m))]) (wants0 rfl)
    · intro f1 l1 hl1; intro w' hK; go_simp; (try go_bits); refine (of_q (.agg #[.bool m.neg, .slice p_h0 m.ds.length c_h0, .slice q_h0 m.es.length d_h0]) m w' (h0_0.below hK.old) (hB0.below hK.old) ok_m).mono ?_; rintro e w5 ⟨y0, y1, rfl, u0, u1, hb⟩; obtain ⟨rfl, rfl⟩ := hl1.out; have u0_0 := u0; obtain ⟨p_u0, l_u0, c_u0, q_u0, m_u0, d_u0, rfl, u0_1, u0_2⟩ := u0; have u1_0 := u1; obtain ⟨p_u1, c_u1, q_u1, d_u1, rfl, u1_1, u1_2⟩ := u1.slr; exact ⟨_, rfl, (⟨(⟨⟨p_u0, l_u0, c_u0⟩, ⟨q_u0, m_u0, d_u0⟩⟩ : Duo Sl Sl), (⟨⟨p_u1, 0, c_u1⟩, ⟨q_u1, 0, d_u1⟩⟩ : Duo Sl Sl)⟩ : Duo (Duo Sl Sl) (Duo Sl Sl)), rfl, hb, .cons (fun w2 h2 => u0_0.below h2) (.cons (fun w2 h2 => u0_1.below h2) (.cons (fun w2 h2 => u0_2.below h2) (.cons (fun w2 h2 => u1_0.below h2) (.cons (fun w2 h2 => u1_1.below h2) (.cons (fun w2 h2 => u1_2.below h2) (Lasts.nil _))))))⟩
    intro sv7
    simp only [Act.put, pA, pB, pC, pD, pE]
    apply txF (wants0 rfl); (· intro w' hK; go_simp; (try go_bits); exact ⟨rfl, rfl⟩); simp only [Act.put, pA, pB, pC]
    apply txF (wants0 rfl); (· intro w' hK; go_simp; (try go_bits); exact ⟨rfl, rfl⟩); simp only [Act.put, pA, pB, pC]
    apply txF (wants0 rfl); (· intro w' hK; go_simp; (try go_bits); exact ⟨rfl, rfl⟩); simp only [Act.put, pA, pB, pC]
    apply txF (wants0 rfl); (· intro w' hK; go_simp; (try go_bits); exact ⟨rfl, rfl⟩); simp only [Act.put, pA, pB, pC]
    apply txA (.cells #[.bool false, .slice none 0 0, .slice none 0 0] 29) (wants0 rfl)
    · intro w' hK; go_simp; rfl
    intro R8 q_R8
    have o_R1_R8 : R1 < R8 := q_R8 _ _ _ m8
    have o_R2_R8 : R2 < R8 := q_R8 _ _ _ m7
    have o_R5_R8 : R5 < R8 := q_R8 _ _ _ m6
    clear q_R8
    simp only [mkOf, Act.put, pA, pB, pC]
    apply txA (.cells #[.bool false, .slice none 0 0, .slice none 0 0] 36) (wants0 rfl)
    · intro w' hK; go_simp; rfl
    intro R9 q_R9
    have o_R1_R9 : R1 < R9 := q_R9 _ _ _ m9
    have o_R2_R9 : R2 < R9 := q_R9 _ _ _ m8
    have o_R5_R9 : R5 < R9 := q_R9 _ _ _ m7
    have o_R8_R9 : R8 < R9 := q_R9 _ _ _ m0
    clear q_R9
    simp only [mkOf, Act.put, pA, pB, pC]
    apply txU 1 (Has w.heap.size R8 (.cells #[.bool (isN (numX m)), .slice sv7.a.a.p sv7.a.a.l sv7.a.a.c, .slice sv7.a.b.p sv7.a.b.l sv7.a.b.c] 29)) (wants0 rfl)
    · intro l1 hl1; intro w' hK; have k_R8 := (hK.get m1); have c_R8_0 := k_R8.at 0 rfl; have c_R8_1 := k_R8.at 1 rfl; have c_R8_2 := k_R8.at 2 rfl; have f_R8 := k_R8.fz; have ni := noInt_of k_R8 (by intro _ _ h; cases h); go_simp; obtain rfl := hl1.out; exact ⟨rfl, ks_put (R := R8) hK k_R8.1 0 [.bool (isN (numX m)), .slice sv7.a.a.p sv7.a.a.l sv7.a.a.c, .slice sv7.a.b.p sv7.a.b.l sv7.a.b.c] (all1 (spG o_R8_R9 (hK.get m0)) (all1 (fun w2 hb => has_put k_R8 0 [.bool (isN (numX m)), .slice sv7.a.a.p sv7.a.a.l sv7.a.a.c, .slice sv7.a.b.p sv7.a.b.l sv7.a.b.c] hb) (all1 (spQ ni (hK.get m2)) (all1 (spN ni (hK.get m3)) (all1 (spN ni (hK.get m4)) (all1 (spS ni (hK.get m5)) (all1 (spR ni (hK.get m6)) (all1 (spR ni (hK.get m7)) (all1 (spL o_R5_R8 (hK.get m8)) (all1 (spL o_R2_R8 (hK.get m9)) (all1 (spL o_R1_R8 (hK.get m10)) aN)))))))))))⟩
    simp only [Act.put, pB, pC]
    apply txU 0 (Has w.heap.size R9 (.cells #[.bool (isN (numX m)), .slice sv7.b.a.p (digs B6 (numQ (numX m))).length sv7.b.a.c, .slice sv7.b.b.p (digs B6 (den0 (numX m))).length sv7.b.b.c] 36)) (wants0 rfl)
    · intro l1 hl1; intro w' hK; have k_R9 := (hK.get m0); have c_R9_0 := k_R9.at 0 rfl; have c_R9_1 := k_R9.at 1 rfl; have c_R9_2 := k_R9.at 2 rfl; have f_R9 := k_R9.fz; have ni := noInt_of k_R9 (by intro _ _ h; cases h); go_simp; obtain rfl := hl1.out; exact ⟨rfl, ks_put (R := R9) hK k_R9.1 0 [.bool (isN (numX m)), .slice sv7.b.a.p (digs B6 (numQ (numX m))).length sv7.b.a.c, .slice sv7.b.b.p (digs B6 (den0 (numX m))).length sv7.b.b.c] (all1 (fun w2 hb => has_put k_R9 0 [.bool (isN (numX m)), .slice sv7.b.a.p (digs B6 (numQ (numX m))).length sv7.b.a.c, .slice sv7.b.b.p (digs B6 (den0 (numX m))).length sv7.b.b.c] hb) (all1 (spL o_R8_R9 (hK.get m1)) (all1 (spQ ni (hK.get m2)) (all1 (spN ni (hK.get m3)) (all1 (spN ni (hK.get m4)) (all1 (spS ni (hK.get m5)) (all1 (spR ni (hK.get m6)) (all1 (spR ni (hK.get m7)) (all1 (spL o_R5_R9 (hK.get m8)) (all1 (spL o_R2_R9 (hK.get m9)) (all1 (spL o_R1_R9 (hK.get m10)) aN)))))))))))⟩
    simp only [Act.put, pB, pC]
    apply txF (wants0 rfl); (· intro w' hK; go_simp; (try go_bits); exact ⟨rfl, rfl⟩); simp only [Act.put, pA, pB, pC]
    refine txEnd (fun W10 hK => ?_)
    go_upto_region 6 with (fail)
    refine wp_region_tx w hK ?_
    clear hK
    apply txF (wants0 rfl); (· intro w' hK; have k_R2 := (hK.get m9); have c_R2_0 := k_R2.at 0 rfl; have c_R2_1 := k_R2.at 1 rfl; have c_R2_2 := k_R2.at 2 rfl; go_simp; (try go_bits); exact ⟨rfl, rfl⟩); simp only [Act.put, pA, pB, pC]
    apply txE (α := Duo (Duo Sl Sl) (Duo Sl Sl)) (fun sv => .tuple #[.agg #[.bool (isN (numX n)), .slice sv.a.a.p sv.a.a.l sv.a.a.c, .slice sv.a.b.p sv.a.b.l sv.a.b.c], .agg #[.bool (isN (numX n)), .slice sv.b.a.p (digs B6 (numQ (numX n))).length sv.b.a.c, .slice sv.b.b.p (digs B6 (den0 (numX n))).length sv.b.b.c], .bool true]) (fun sv => [fun w => RatV w (.agg #[.bool (isN (numX n)), .slice sv.a.a.p sv.a.a.l sv.a.a.c, .slice sv.a.b.p sv.a.b.l sv.a.b.c]) (numX n), fun w => NatV w (.agg #[.slice sv.a.a.p sv.a.a.l sv.a.a.c]) ((numX n).num.natAbs), fun w => NatV w (.agg #[.slice sv.a.b.p sv.a.b.l sv.a.b.c]) (den0 (numX n)), fun w => RefR w (.agg #[.bool (isN (numX n)), .slice sv.b.a.p (digs B6 (numQ (numX n))).length sv.b.a.c, .slice sv.b.b.p (digs B6 (den0 (numX n))).length sv.b.b.c]) (numX n), fun w => RefV w (.slice sv.b.a.p (digs B6 (numQ (numX n))).length sv.b.a.c) (numQ (numX n)), fun w => RefV w (.slice sv.b.b.p (digs B6 (den0 (numX n))).length sv.b.b.c) (den0 (numX n))]) (wants0 rfl)
    · intro f1 l1 hl1; intro w' hK; go_simp; (try go_bits); refine (of_q (.agg #[.bool n.neg, .slice p_h1 n.ds.length c_h1, .slice q_h1 n.es.length d_h1]) n w' (h1_0.below hK.old) (hB0.below hK.old) ok_n).mono ?_; rintro e w5 ⟨y0, y1, rfl, u0, u1, hb⟩; obtain ⟨rfl, rfl⟩ := hl1.out; have u0_0 := u0; obtain ⟨p_u0, l_u0, c_u0, q_u0, m_u0, d_u0, rfl, u0_1, u0_2⟩ := u0; have u1_0 := u1; obtain ⟨p_u1, c_u1, q_u1, d_u1, rfl, u1_1, u1_2⟩ := u1.slr; exact ⟨_, rfl, (⟨(⟨⟨p_u0, l_u0, c_u0⟩, ⟨q_u0, m_u0, d_u0⟩⟩ : Duo Sl Sl), (⟨⟨p_u1, 0, c_u1⟩, ⟨q_u1, 0, d_u1⟩⟩ : Duo Sl Sl)⟩ : Duo (Duo Sl Sl) (Duo Sl Sl)), rfl, hb, .cons (fun w2 h2 => u0_0.below h2) (.cons (fun w2 h2 => u0_1.below h2) (.cons (fun w2 h2 => u0_2.below h2) (.cons (fun w2 h2 => u1_0.below h2) (.cons (fun w2 h2 => u1_1.below h2) (.cons (fun w2 h2 => u1_2.below h2) (Lasts.nil _))))))⟩
    intro sv11
    simp only [Act.put, pA, pB, pC, pD, pE]
    apply txF (wants0 rfl); (· intro w' hK; go_simp; (try go_bits); exact ⟨rfl, rfl⟩); simp only [Act.put, pA, pB, pC]
    apply txF (wants0 rfl); (· intro w' hK; go_simp; (try go_bits); exact ⟨rfl, rfl⟩); simp only [Act.put, pA, pB, pC]
    apply txF (wants0 rfl); (· intro w' hK; go_simp; (try go_bits); exact ⟨rfl, rfl⟩); simp only [Act.put, pA, pB, pC]
    apply txF (wants0 rfl); (· intro w' hK; go_simp; (try go_bits); exact ⟨rfl, rfl⟩); simp only [Act.put, pA, pB, pC]
    apply txA (.cells #[.bool false, .slice none 0 0, .slice none 0 0] 29) (wants0 rfl)
    · intro w' hK; go_simp; rfl
    intro R12 q_R12
    have o_R1_R12 : R1 < R12 := q_R12 _ _ _ m16
    have o_R2_R12 : R2 < R12 := q_R12 _ _ _ m15
    have o_R5_R12 : R5 < R12 := q_R12 _ _ _ m14
    have o_R8_R12 : R8 < R12 := q_R12 _ _ _ m7
    have o_R9_R12 : R9 < R12 := q_R12 _ _ _ m6
    clear q_R12
    simp only [mkOf, Act.put, pA, pB, pC]
    apply txA (.cells #[.bool false, .slice none 0 0, .slice none 0 0] 36) (wants0 rfl)
    · intro w' hK; go_simp; rfl
    intro R13 q_R13
    have o_R1_R13 : R1 < R13 := q_R13 _ _ _ m17
    have o_R2_R13 : R2 < R13 := q_R13 _ _ _ m16
    have o_R5_R13 : R5 < R13 := q_R13 _ _ _ m15
    have o_R8_R13 : R8 < R13 := q_R13 _ _ _ m8
    have o_R9_R13 : R9 < R13 := q_R13 _ _ _ m7
    have o_R12_R13 : R12 < R13 := q_R13 _ _ _ m0
    clear q_R13
    simp only [mkOf, Act.put, pA, pB, pC]
    apply txU 1 (Has w.heap.size R12 (.cells #[.bool (isN (numX n)), .slice sv11.a.a.p sv11.a.a.l sv11.a.a.c, .slice sv11.a.b.p sv11.a.b.l sv11.a.b.c] 29)) (wants0 rfl)
    · intro l1 hl1; intro w' hK; have k_R12 := (hK.get m1); have c_R12_0 := k_R12.at 0 rfl; have c_R12_1 := k_R12.at 1 rfl; have c_R12_2 := k_R12.at 2 rfl; have f_R12 := k_R12.fz; have ni := noInt_of k_R12 (by intro _ _ h; cases h); go_simp; obtain rfl := hl1.out; exact ⟨rfl, ks_put (R := R12) hK k_R12.1 0 [.bool (isN (numX n)), .slice sv11.a.a.p sv11.a.a.l sv11.a.a.c, .slice sv11.a.b.p sv11.a.b.l sv11.a.b.c] (all1 (spG o_R12_R13 (hK.get m0)) (all1 (fun w2 hb => has_put k_R12 0 [.bool (isN (numX n)), .slice sv11.a.a.p sv11.a.a.l sv11.a.a.c, .slice sv11.a.b.p sv11.a.b.l sv11.a.b.c] hb) (all1 (spQ ni (hK.get m2)) (all1 (spN ni (hK.get m3)) (all1 (spN ni (hK.get m4)) (all1 (spS ni (hK.get m5)) (all1 (spR ni (hK.get m6)) (all1 (spR ni (hK.get m7)) (all1 (spL o_R9_R12 (hK.get m8)) (all1 (spL o_R8_R12 (hK.get m9)) (all1 (spQ ni (hK.get m10)) (all1 (spN ni (hK.get m11)) (all1 (spN ni (hK.get m12)) (all1 (spS ni (hK.get m13)) (all1 (spR ni (hK.get m14)) (all1 (spR ni (hK.get m15)) (all1 (spL o_R5_R12 (hK.get m16)) (all1 (spL o_R2_R12 (hK.get m17)) (all1 (spL o_R1_R12 (hK.get m18)) aN)))))))))))))))))))⟩
    simp only [Act.put, pB, pC]
    apply txU 0 (Has w.heap.size R13 (.cells #[.bool (isN (numX n)), .slice sv11.b.a.p (digs B6 (numQ (numX n))).length sv11.b.a.c, .slice sv11.b.b.p (digs B6 (den0 (numX n))).length sv11.b.b.c] 36)) (wants0 rfl)
    · intro l1 hl1; intro w' hK; have k_R13 := (hK.get m0); have c_R13_0 := k_R13.at 0 rfl; have c_R13_1 := k_R13.at 1 rfl; have c_R13_2 := k_R13.at 2 rfl; have f_R13 := k_R13.fz; have ni := noInt_of k_R13 (by intro _ _ h; cases h); go_simp; obtain rfl := hl1.out; exact ⟨rfl, ks_put (R := R13) hK k_R13.1 0 [.bool (isN (numX n)), .slice sv11.b.a.p (digs B6 (numQ (numX n))).length sv11.b.a.c, .slice sv11.b.b.p (digs B6 (den0 (numX n))).length sv11.b.b.c] (all1 (fun w2 hb => has_put k_R13 0 [.bool (isN (numX n)), .slice sv11.b.a.p (digs B6 (numQ (numX n))).length sv11.b.a.c, .slice sv11.b.b.p (digs B6 (den0 (numX n))).length sv11.b.b.c] hb) (all1 (spL o_R12_R13 (hK.get m1)) (all1 (spQ ni (hK.get m2)) (all1 (spN ni (hK.get m3)) (all1 (spN ni (hK.get m4)) (all1 (spS ni (hK.get m5)) (all1 (spR ni (hK.get m6)) (all1 (spR ni (hK.get m7)) (all1 (spL o_R9_R13 (hK.get m8)) (all1 (spL o_R8_R13 (hK.get m9)) (all1 (spQ ni (hK.get m10)) (all1 (spN ni (hK.get m11)) (all1 (spN ni (hK.get m12)) (all1 (spS ni (hK.get m13)) (all1 (spR ni (hK.get m14)) (all1 (spR ni (hK.get m15)) (all1 (spL o_R5_R13 (hK.get m16)) (all1 (spL o_R2_R13 (hK.get m17)) (all1 (spL o_R1_R13 (hK.get m18)) aN)))))))))))))))))))⟩
    simp only [Act.put, pB, pC]
    apply txF (wants0 rfl); (· intro w' hK; go_simp; (try go_bits); exact ⟨rfl, rfl⟩); simp only [Act.put, pA, pB, pC]
    refine txEnd (fun W14 hK => ?_)
    go_upto_region 7 with (fail)
    refine wp_region_tx w hK ?_
    clear hK
    apply txF (wants0 rfl); (· intro w' hK; have k_R8 := (hK.get m9); have c_R8_0 := k_R8.at 0 rfl; have c_R8_1 := k_R8.at 1 rfl; have c_R8_2 := k_R8.at 2 rfl; go_simp; (try go_bits); exact ⟨rfl, rfl⟩); simp only [Act.put, pA, pB, pC]
    apply txF (wants0 rfl); (· intro w' hK; have k_R12 := (hK.get m1); have c_R12_0 := k_R12.at 0 rfl; have c_R12_1 := k_R12.at 1 rfl; have c_R12_2 := k_R12.at 2 rfl; go_simp; (try go_bits); exact ⟨rfl, rfl⟩); simp only [Act.put, pA, pB, pC]
    obtain ⟨z1, hz1⟩ : ∃ b : Int, RowKit.Hid ((if (numX n) = 0 then 10 else 0) = b) := ⟨_, hid rfl⟩
    apply txE (α := Duo Sl Sl) (fun sv => .tuple #[.agg #[.bool (isN ((numX m) / (numX n))), .slice sv.a.p sv.a.l sv.a.c, .slice sv.b.p sv.b.l sv.b.c], .int .i64 z1]) (fun sv => [fun w => RatV w (.agg #[.bool (isN ((numX m) / (numX n))), .slice sv.a.p sv.a.l sv.a.c, .slice sv.b.p sv.b.l sv.b.c]) ((numX m) / (numX n)), fun w => NatV w (.agg #[.slice sv.a.p sv.a.l sv.a.c]) (((numX m) / (numX n)).num.natAbs), fun w => NatV w (.agg #[.slice sv.b.p sv.b.l sv.b.c]) (den0 ((numX m) / (numX n)))]) (wants0 rfl)
    · intro f1 l1 hl1; intro w' hK; go_simp; (try go_bits); refine (qdiv_any (.agg #[.bool (isN (numX m)), .slice sv7.a.a.p sv7.a.a.l sv7.a.a.c, .slice sv7.a.b.p sv7.a.b.l sv7.a.b.c]) (.agg #[.bool (isN (numX n)), .slice sv11.a.a.p sv11.a.a.l sv11.a.a.c, .slice sv11.a.b.p sv11.a.b.l sv11.a.b.c]) (numX m) (numX n) w' (hK.get m10) (hK.get m2) (LmQ.up (b := 1000) ok_m.lm (by decide)) (LmQ.up (b := 1000) ok_n.lm (by decide)) (by decide)).mono ?_; rintro e w5 ⟨y0, rfl, u0, hb⟩; obtain ⟨rfl, rfl⟩ := hl1.out; have u0_0 := u0; obtain ⟨p_u0, l_u0, c_u0, q_u0, m_u0, d_u0, rfl, u0_1, u0_2⟩ := u0; exact ⟨_, rfl, (⟨⟨p_u0, l_u0, c_u0⟩, ⟨q_u0, m_u0, d_u0⟩⟩ : Duo Sl Sl), (by rw [hz1.out]), hb, .cons (fun w2 h2 => u0_0.below h2) (.cons (fun w2 h2 => u0_1.below h2) (.cons (fun w2 h2 => u0_2.below h2) (Lasts.nil _)))⟩
    intro sv15
    simp only [Act.put, pA, pB, pC, pD, pE]
    apply txF (wants0 rfl); (· intro w' hK; go_simp; (try go_bits); exact ⟨rfl, rfl⟩); simp only [Act.put, pA, pB, pC]
    apply txF (wants0 rfl); (· intro w' hK; go_simp; (try go_bits); exact ⟨rfl, rfl⟩); simp only [Act.put, pA, pB, pC]
    apply txF (wants0 rfl); (· intro w' hK; go_simp; (try go_bits); exact ⟨rfl, rfl⟩); simp only [Act.put, pA, pB, pC]
    apply txA (.cells #[.bool false, .slice none 0 0, .slice none 0 0] 29) (wants0 rfl)
    · intro w' hK; go_simp; rfl
    intro R16 q_R16
    have o_R1_R16 : R1 < R16 := q_R16 _ _ _ m21
    have o_R2_R16 : R2 < R16 := q_R16 _ _ _ m20
    have o_R5_R16 : R5 < R16 := q_R16 _ _ _ m19
    have o_R8_R16 : R8 < R16 := q_R16 _ _ _ m12
    have o_R9_R16 : R9 < R16 := q_R16 _ _ _ m11
    have o_R12_R16 : R12 < R16 := q_R16 _ _ _ m4
    have o_R13_R16 : R13 < R16 := q_R16 _ _ _ m3
    clear q_R16
    simp only [mkOf, Act.put, pA, pB, pC]
    apply txU 0 (Has w.heap.size R16 (.cells #[.bool (isN ((numX m) / (numX n))), .slice sv15.a.p sv15.a.l sv15.a.c, .slice sv15.b.p sv15.b.l sv15.b.c] 29)) (wants0 rfl)
    · intro l1 hl1; intro w' hK; have k_R16 := (hK.get m0); have c_R16_0 := k_R16.at 0 rfl; have c_R16_1 := k_R16.at 1 rfl; have c_R16_2 := k_R16.at 2 rfl; have f_R16 := k_R16.fz; have ni := noInt_of k_R16 (by intro _ _ h; cases h); go_simp; obtain rfl := hl1.out; exact ⟨rfl, ks_put (R := R16) hK k_R16.1 0 [.bool (isN ((numX m) / (numX n))), .slice sv15.a.p sv15.a.l sv15.a.c, .slice sv15.b.p sv15.b.l sv15.b.c] (all1 (fun w2 hb => has_put k_R16 0 [.bool (isN ((numX m) / (numX n))), .slice sv15.a.p sv15.a.l sv15.a.c, .slice sv15.b.p sv15.b.l sv15.b.c] hb) (all1 (spQ ni (hK.get m1)) (all1 (spN ni (hK.get m2)) (all1 (spN ni (hK.get m3)) (all1 (spL o_R13_R16 (hK.get m4)) (all1 (spL o_R12_R16 (hK.get m5)) (all1 (spQ ni (hK.get m6)) (all1 (spN ni (hK.get m7)) (all1 (spN ni (hK.get m8)) (all1 (spS ni (hK.get m9)) (all1 (spR ni (hK.get m10)) (all1 (spR ni (hK.get m11)) (all1 (spL o_R9_R16 (hK.get m12)) (all1 (spL o_R8_R16 (hK.get m13)) (all1 (spQ ni (hK.get m14)) (all1 (spN ni (hK.get m15)) (all1 (spN ni (hK.get m16)) (all1 (spS ni (hK.get m17)) (all1 (spR ni (hK.get m18)) (all1 (spR ni (hK.get m19)) (all1 (spL o_R5_R16 (hK.get m20)) (all1 (spL o_R2_R16 (hK.get m21)) (all1 (spL o_R1_R16 (hK.get m22)) aN)))))))))))))))))))))))⟩
    simp only [Act.put, pB, pC]
    apply txF (wants0 rfl); (· intro w' hK; go_simp; (try go_bits); exact ⟨rfl, rfl⟩); simp only [Act.put, pA, pB, pC]
    refine txEnd (fun W17 hK => ?_)
    go_upto_region 8 with (fail)
    refine wp_region_tx w hK ?_
    clear hK
    apply txF (wants0 rfl); (· intro w' hK; have k_R9 := (hK.get m12); have c_R9_0 := k_R9.at 0 rfl; have c_R9_1 := k_R9.at 1 rfl; have c_R9_2 := k_R9.at 2 rfl; go_simp; (try go_bits); exact ⟨rfl, rfl⟩); simp only [Act.put, pA, pB, pC]
    apply txF (wants0 rfl); (· intro w' hK; have k_R13 := (hK.get m4); have c_R13_0 := k_R13.at 0 rfl; have c_R13_1 := k_R13.at 1 rfl; have c_R13_2 := k_R13.at 2 rfl; go_simp; (try go_bits); exact ⟨rfl, rfl⟩); simp only [Act.put, pA, pB, pC]
    obtain ⟨z2, hz2⟩ : ∃ b : Int, RowKit.Hid ((if (numX n) = 0 then 10 else 0) = b) := ⟨_, hid rfl⟩
    apply txE (α := Duo Sl Sl) (fun sv => .tuple #[.agg #[.bool (isN ((numX m) / (numX n))), .slice sv.a.p (digs B6 (numQ ((numX m) / (numX n)))).length sv.a.c, .slice sv.b.p (digs B6 (den0 ((numX m) / (numX n)))).length sv.b.c], .int .i64 z2]) (fun sv => [fun w => RefR w (.agg #[.bool (isN ((numX m) / (numX n))), .slice sv.a.p (digs B6 (numQ ((numX m) / (numX n)))).length sv.a.c, .slice sv.b.p (digs B6 (den0 ((numX m) / (numX n)))).length sv.b.c]) ((numX m) / (numX n)), fun w => RefV w (.slice sv.a.p (digs B6 (numQ ((numX m) / (numX n)))).length sv.a.c) (numQ ((numX m) / (numX n))), fun w => RefV w (.slice sv.b.p (digs B6 (den0 ((numX m) / (numX n)))).length sv.b.c) (den0 ((numX m) / (numX n)))]) (wants0 rfl)
    · intro f1 l1 hl1; intro w' hK; go_simp; (try go_bits); refine (rdiv_q (.agg #[.bool (isN (numX m)), .slice sv7.b.a.p (digs B6 (numQ (numX m))).length sv7.b.a.c, .slice sv7.b.b.p (digs B6 (den0 (numX m))).length sv7.b.b.c]) (.agg #[.bool (isN (numX n)), .slice sv11.b.a.p (digs B6 (numQ (numX n))).length sv11.b.a.c, .slice sv11.b.b.p (digs B6 (den0 (numX n))).length sv11.b.b.c]) (numX m) (numX n) w' (hK.get m17) (hK.get m9) (LmQ.up (b := 1000) ok_m.lm (by decide)) (LmQ.up (b := 1000) ok_n.lm (by decide)) (by decide)).mono ?_; rintro e w5 ⟨y0, rfl, u0, hb⟩; obtain ⟨rfl, rfl⟩ := hl1.out; have u0_0 := u0; obtain ⟨p_u0, c_u0, q_u0, d_u0, rfl, u0_1, u0_2⟩ := u0.slr; exact ⟨_, rfl, (⟨⟨p_u0, 0, c_u0⟩, ⟨q_u0, 0, d_u0⟩⟩ : Duo Sl Sl), (by rw [hz2.out]), hb, .cons (fun w2 h2 => u0_0.below h2) (.cons (fun w2 h2 => u0_1.below h2) (.cons (fun w2 h2 => u0_2.below h2) (Lasts.nil _)))⟩
    intro sv18
    simp only [Act.put, pA, pB, pC, pD, pE]
    apply txF (wants0 rfl); (· intro w' hK; go_simp; (try go_bits); exact ⟨rfl, rfl⟩); simp only [Act.put, pA, pB, pC]
    apply txF (wants0 rfl); (· intro w' hK; go_simp; (try go_bits); exact ⟨rfl, rfl⟩); simp only [Act.put, pA, pB, pC]
    apply txF (wants0 rfl); (· intro w' hK; go_simp; (try go_bits); exact ⟨rfl, rfl⟩); simp only [Act.put, pA, pB, pC]
    apply txA (.cells #[.bool false, .slice none 0 0, .slice none 0 0] 36) (wants0 rfl)
    · intro w' hK; go_simp; rfl
    intro R19 q_R19
    have o_R1_R19 : R1 < R19 := q_R19 _ _ _ (ms m24)
    have o_R2_R19 : R2 < R19 := q_R19 _ _ _ m24
    have o_R5_R19 : R5 < R19 := q_R19 _ _ _ m23
    have o_R8_R19 : R8 < R19 := q_R19 _ _ _ m16
    have o_R9_R19 : R9 < R19 := q_R19 _ _ _ m15
    have o_R12_R19 : R12 < R19 := q_R19 _ _ _ m8
    have o_R13_R19 : R13 < R19 := q_R19 _ _ _ m7
    have o_R16_R19 : R16 < R19 := q_R19 _ _ _ m3
    clear q_R19
    simp only [mkOf, Act.put, pA, pB, pC]
    apply txU 0 (Has w.heap.size R19 (.cells #[.bool (isN ((numX m) / (numX n))), .slice sv18.a.p (digs B6 (numQ ((numX m) / (numX n)))).length sv18.a.c, .slice sv18.b.p (digs B6 (den0 ((numX m) / (numX n)))).length sv18.b.c] 36)) (wants0 rfl)
    · intro l1 hl1; intro w' hK; have k_R19 := (hK.get m0); have c_R19_0 := k_R19.at 0 rfl; have c_R19_1 := k_R19.at 1 rfl; have c_R19_2 := k_R19.at 2 rfl; have f_R19 := k_R19.fz; have ni := noInt_of k_R19 (by intro _ _ h; cases h); go_simp; obtain rfl := hl1.out; exact ⟨rfl, ks_put (R := R19) hK k_R19.1 0 [.bool (isN ((numX m) / (numX n))), .slice sv18.a.p (digs B6 (numQ ((numX m) / (numX n)))).length sv18.a.c, .slice sv18.b.p (digs B6 (den0 ((numX m) / (numX n)))).length sv18.b.c] (all1 (fun w2 hb => has_put k_R19 0 [.bool (isN ((numX m) / (numX n))), .slice sv18.a.p (digs B6 (numQ ((numX m) / (numX n)))).length sv18.a.c, .slice sv18.b.p (digs B6 (den0 ((numX m) / (numX n)))).length sv18.b.c] hb) (all1 (spS ni (hK.get m1)) (all1 (spR ni (hK.get m2)) (all1 (spR ni (hK.get m3)) (all1 (spL o_R16_R19 (hK.get m4)) (all1 (spQ ni (hK.get m5)) (all1 (spN ni (hK.get m6)) (all1 (spN ni (hK.get m7)) (all1 (spL o_R13_R19 (hK.get m8)) (all1 (spL o_R12_R19 (hK.get m9)) (all1 (spQ ni (hK.get m10)) (all1 (spN ni (hK.get m11)) (all1 (spN ni (hK.get m12)) (all1 (spS ni (hK.get m13)) (all1 (spR ni (hK.get m14)) (all1 (spR ni (hK.get m15)) (all1 (spL o_R9_R19 (hK.get m16)) (all1 (spL o_R8_R19 (hK.get m17)) (all1 (spQ ni (hK.get m18)) (all1 (spN ni (hK.get m19)) (all1 (spN ni (hK.get m20)) (all1 (spS ni (hK.get m21)) (all1 (spR ni (hK.get m22)) (all1 (spR ni (hK.get m23)) (all1 (spL o_R5_R19 (hK.get m24)) (all1 (spL o_R2_R19 (hK.get (ms m24))) (all1 (spL o_R1_R19 (hK.get (ms (ms m24)))) aN)))))))))))))))))))))))))))⟩
    simp only [Act.put, pB, pC]
    apply txF (wants0 rfl); (· intro w' hK; go_simp; (try go_bits); exact ⟨rfl, rfl⟩); simp only [Act.put, pA, pB, pC]
    refine txEnd (fun W20 hK => ?_)
    go_upto_region 9 with (fail)
    have hK0 := hK
    refine wp_region_float0 (w) _ _ [0, 0, 0, 0, 0, 0, 0, 2, 0, 0, 2, 1, 0, 0, 0, 0, 0, 0, 0, 0, 0, 1, 0, 0] (by kernel_rfl) (by kernel_rfl) (by kernel_rfl) (by kernel_rfl) (KS.drew hK0) (KS.drew hK) ?_
    clear hK hK0
    apply lxF0 (wants0 rfl); (· intro w' h0; go_simp; (try go_bits); exact ⟨rfl, rfl⟩); simp only [Act.put, pA, pB, pC]
    apply lxF0 (wants0 rfl); (· intro w' h0; go_simp; (try go_bits); exact ⟨rfl, rfl⟩); simp only [Act.put, pA, pB, pC]
    apply lxF0 (wantsg (j := 1) (d := 47) (b := true) rfl rfl rfl rfl); (· intro w' h0; go_simp; (try go_bits); exact ⟨rfl, rfl⟩); simp only [Act.put, pA, pB, pC]
    apply lxF0 (wants0 rfl); (· intro w' h0; go_simp; (try go_bits); exact ⟨rfl, rfl⟩); simp only [Act.put, pA, pB, pC]
    apply lxF0 (wants0 rfl); (· intro w' h0; go_simp; (try go_bits); exact ⟨rfl, rfl⟩); simp only [Act.put, pA, pB, pC]
    apply lxF0 (wantsg (j := 4) (d := 50) (b := true) rfl rfl rfl rfl); (· intro w' h0; have k_R8 := (h0.get m17); have c_R8_0 := k_R8.at 0 rfl; have c_R8_1 := k_R8.at 1 rfl; have c_R8_2 := k_R8.at 2 rfl; go_simp; (try go_bits); exact ⟨rfl, rfl⟩); simp only [Act.put, pA, pB, pC]
    apply lxF0 (wantsg (j := 4) (d := 50) (b := true) rfl rfl rfl rfl); (· intro w' h0; have k_R12 := (h0.get m9); have c_R12_0 := k_R12.at 0 rfl; have c_R12_1 := k_R12.at 1 rfl; have c_R12_2 := k_R12.at 2 rfl; go_simp; (try go_bits); exact ⟨rfl, rfl⟩); simp only [Act.put, pA, pB, pC]
    apply lxE1 (α := Duo Sl Sl) (fun sv => .agg #[.bool (isN ((numX m) * (numX n))), .slice sv.a.p sv.a.l sv.a.c, .slice sv.b.p sv.b.l sv.b.c]) (fun sv => [fun w => RatV w (.agg #[.bool (isN ((numX m) * (numX n))), .slice sv.a.p sv.a.l sv.a.c, .slice sv.b.p sv.b.l sv.b.c]) ((numX m) * (numX n)), fun w => NatV w (.agg #[.slice sv.a.p sv.a.l sv.a.c]) (((numX m) * (numX n)).num.natAbs), fun w => NatV w (.agg #[.slice sv.b.p sv.b.l sv.b.c]) (den0 ((numX m) * (numX n)))]) (wantsg (j := 4) (d := 50) (b := true) rfl rfl rfl rfl)
    · intro f1 l1 hl1; intro w' h0 hK; go_simp; (try go_bits); refine (qmul_any (.agg #[.bool (isN (numX m)), .slice sv7.a.a.p sv7.a.a.l sv7.a.a.c, .slice sv7.a.b.p sv7.a.b.l sv7.a.b.c]) (.agg #[.bool (isN (numX n)), .slice sv11.a.a.p sv11.a.a.l sv11.a.a.c, .slice sv11.a.b.p sv11.a.b.l sv11.a.b.c]) (numX m) (numX n) w' (hK.get m18) (hK.get m10) (LmQ.up (b := 1000) ok_m.lm (by decide)) (LmQ.up (b := 1000) ok_n.lm (by decide)) (by decide)).mono ?_; rintro e w5 ⟨y0, rfl, u0, hb⟩; obtain ⟨rfl, rfl⟩ := hl1.out; have u0_0 := u0; obtain ⟨p_u0, l_u0, c_u0, q_u0, m_u0, d_u0, rfl, u0_1, u0_2⟩ := u0; exact ⟨_, rfl, (⟨⟨p_u0, l_u0, c_u0⟩, ⟨q_u0, m_u0, d_u0⟩⟩ : Duo Sl Sl), rfl, hb, .cons (fun w2 h2 => u0_0.below h2) (.cons (fun w2 h2 => u0_1.below h2) (.cons (fun w2 h2 => u0_2.below h2) (Lasts.nil _)))⟩
    intro sv21
    simp only [Act.put, pA, pB, pC, pD, pE]
    apply lxF0 (wantsg (j := 4) (d := 50) (b := true) rfl rfl rfl rfl); (· intro w' h0; have k_R9 := (h0.get m16); have c_R9_0 := k_R9.at 0 rfl; have c_R9_1 := k_R9.at 1 rfl; have c_R9_2 := k_R9.at 2 rfl; go_simp; (try go_bits); exact ⟨rfl, rfl⟩); simp only [Act.put, pA, pB, pC]
    apply lxF0 (wantsg (j := 4) (d := 50) (b := true) rfl rfl rfl rfl); (· intro w' h0; have k_R13 := (h0.get m8); have c_R13_0 := k_R13.at 0 rfl; have c_R13_1 := k_R13.at 1 rfl; have c_R13_2 := k_R13.at 2 rfl; go_simp; (try go_bits); exact ⟨rfl, rfl⟩); simp only [Act.put, pA, pB, pC]
    apply lxE1 (α := Duo Sl Sl) (fun sv => .agg #[.bool (isN ((numX m) * (numX n))), .slice sv.a.p (digs B6 (numQ ((numX m) * (numX n)))).length sv.a.c, .slice sv.b.p (digs B6 (den0 ((numX m) * (numX n)))).length sv.b.c]) (fun sv => [fun w => RefR w (.agg #[.bool (isN ((numX m) * (numX n))), .slice sv.a.p (digs B6 (numQ ((numX m) * (numX n)))).length sv.a.c, .slice sv.b.p (digs B6 (den0 ((numX m) * (numX n)))).length sv.b.c]) ((numX m) * (numX n)), fun w => RefV w (.slice sv.a.p (digs B6 (numQ ((numX m) * (numX n)))).length sv.a.c) (numQ ((numX m) * (numX n))), fun w => RefV w (.slice sv.b.p (digs B6 (den0 ((numX m) * (numX n)))).length sv.b.c) (den0 ((numX m) * (numX n)))]) (wantsg (j := 4) (d := 50) (b := true) rfl rfl rfl rfl)
    · intro f1 l1 hl1; intro w' h0 hK; go_simp; (try go_bits); refine (rmul_q (.agg #[.bool (isN (numX m)), .slice sv7.b.a.p (digs B6 (numQ (numX m))).length sv7.b.a.c, .slice sv7.b.b.p (digs B6 (den0 (numX m))).length sv7.b.b.c]) (.agg #[.bool (isN (numX n)), .slice sv11.b.a.p (digs B6 (numQ (numX n))).length sv11.b.a.c, .slice sv11.b.b.p (digs B6 (den0 (numX n))).length sv11.b.b.c]) (numX m) (numX n) w' (hK.get m24) (hK.get m16) (LmQ.up (b := 1000) ok_m.lm (by decide)) (LmQ.up (b := 1000) ok_n.lm (by decide)) (by decide)).mono ?_; rintro e w5 ⟨y0, rfl, u0, hb⟩; obtain ⟨rfl, rfl⟩ := hl1.out; have u0_0 := u0; obtain ⟨p_u0, c_u0, q_u0, d_u0, rfl, u0_1, u0_2⟩ := u0.slr; exact ⟨_, rfl, (⟨⟨p_u0, 0, c_u0⟩, ⟨q_u0, 0, d_u0⟩⟩ : Duo Sl Sl), rfl, hb, .cons (fun w2 h2 => u0_0.below h2) (.cons (fun w2 h2 => u0_1.below h2) (.cons (fun w2 h2 => u0_2.below h2) (Lasts.nil _)))⟩
    intro sv22
    simp only [Act.put, pA, pB, pC, pD, pE]
    apply lxH1 (v := .bool true) (wantsg (j := 4) (d := 50) (b := true) rfl rfl rfl rfl)
    · intro v1 hv1; intro w' h0 hK; go_simp; (try go_bits); refine (is_q (.agg #[.bool (isN ((numX m) * (numX n))), .slice sv21.a.p sv21.a.l sv21.a.c, .slice sv21.b.p sv21.b.l sv21.b.c]) (.agg #[.bool (isN ((numX m) * (numX n))), .slice sv22.a.p (digs B6 (numQ ((numX m) * (numX n)))).length sv22.a.c, .slice sv22.b.p (digs B6 (den0 ((numX m) * (numX n)))).length sv22.b.c]) ((numX m) * (numX n)) ((numX m) * (numX n)) w' (hK.get m3) (hK.get m0) (hB0.below hK.old) (LmQ.up (b := 50) (LmQ.mul ok_m.lm ok_n.lm) (by decide)) (LmQ.up (b := 50) (LmQ.mul ok_m.lm ok_n.lm) (by decide)) rfl).mono ?_; rintro e w5 ⟨rfl, hb⟩; obtain rfl := hv1.out; exact ⟨_, rfl, rfl, hb⟩
    simp only [Act.put, pA, pB, pC]
    apply lxF0 (wants0 rfl); (· intro w' h0; go_simp; (try go_bits); exact ⟨rfl, rfl⟩); simp only [Act.put, pA, pB, pC]
    apply lxF0 (wants0 rfl); (· intro w' h0; go_simp; (try go_bits); exact ⟨rfl, rfl⟩); simp only [Act.put, pA, pB, pC]
    apply lxF0 (wantsg (j := 13) (d := 59) (b := true) rfl rfl rfl rfl); (· intro w' h0; go_simp; (try go_bits); exact ⟨rfl, rfl⟩); simp only [Act.put, pA, pB, pC]
    apply lxF0 (wantsg (j := 13) (d := 59) (b := true) rfl rfl rfl rfl); (· intro w' h0; go_simp; (try go_bits); exact ⟨rfl, rfl⟩); simp only [Act.put, pA, pB, pC]
    apply lxF0 (v := .bool true) (wantsg (j := 13) (d := 59) (b := true) rfl rfl rfl rfl); (· intro w' h0; go_simp; (try go_bits); exact ⟨congrArg Value.bool (by rw [← hz1.out, ← hz2.out]; simp), rfl⟩); simp only [Act.put, pA, pB, pC]
    apply lxF0 (wants0 rfl); (· intro w' h0; go_simp; (try go_bits); exact ⟨rfl, rfl⟩); simp only [Act.put, pA, pB, pC]
    apply lxF0 (wants0 rfl); (· intro w' h0; go_simp; (try go_bits); exact ⟨rfl, rfl⟩); simp only [Act.put, pA, pB, pC]
    apply lxF0 (wantsg (j := 18) (d := 64) (b := true) rfl rfl rfl rfl); (· intro w' h0; have k_R16 := (h0.get m4); have c_R16_0 := k_R16.at 0 rfl; have c_R16_1 := k_R16.at 1 rfl; have c_R16_2 := k_R16.at 2 rfl; go_simp; (try go_bits); exact ⟨rfl, rfl⟩); simp only [Act.put, pA, pB, pC]
    apply lxF0 (wantsg (j := 18) (d := 64) (b := true) rfl rfl rfl rfl); (· intro w' h0; have k_R19 := (h0.get m0); have c_R19_0 := k_R19.at 0 rfl; have c_R19_1 := k_R19.at 1 rfl; have c_R19_2 := k_R19.at 2 rfl; go_simp; (try go_bits); exact ⟨rfl, rfl⟩); simp only [Act.put, pA, pB, pC]
    apply lxH1 (v := .bool true) (wantsg (j := 18) (d := 64) (b := true) rfl rfl rfl rfl)
    · intro v1 hv1; intro w' h0 hK; go_simp; (try go_bits); refine (is_q (.agg #[.bool (isN ((numX m) / (numX n))), .slice sv15.a.p sv15.a.l sv15.a.c, .slice sv15.b.p sv15.b.l sv15.b.c]) (.agg #[.bool (isN ((numX m) / (numX n))), .slice sv18.a.p (digs B6 (numQ ((numX m) / (numX n)))).length sv18.a.c, .slice sv18.b.p (digs B6 (den0 ((numX m) / (numX n)))).length sv18.b.c]) ((numX m) / (numX n)) ((numX m) / (numX n)) w' (hK.get m11) (hK.get m7) (hB0.below hK.old) (LmQ.up (b := 50) (LmQ.quo ok_m.lm ok_n.lm) (by decide)) (LmQ.up (b := 50) (LmQ.quo ok_m.lm ok_n.lm) (by decide)) rfl).mono ?_; rintro e w5 ⟨rfl, hb⟩; obtain rfl := hv1.out; exact ⟨_, rfl, rfl, hb⟩
    simp only [Act.put, pA, pB, pC]
    apply lxF0 (wants0 rfl); (· intro w' h0; go_simp; (try go_bits); exact ⟨rfl, rfl⟩); simp only [Act.put, pA, pB, pC]
    apply lxF0 (wants0 rfl); (· intro w' h0; go_simp; (try go_bits); exact ⟨rfl, rfl⟩); simp only [Act.put, pA, pB, pC]
    refine lxEnd (fun W23 hK => ?_)
    go_wp2
    try go_ret
    show Q0 (.returned (.bool true)) _
    exact (by obtain rfl := hQ0.out; exact ⟨rfl, hK.old⟩)
set_option maxRecDepth 100000 in
theorem rationalFloor_walk (v0 : Value) (n : NumS) (w : World) (h0 : NumV w v0 n) (hB0 : Bas w) (d_n : (∀ d ∈ n.ds, d < B32) ∧ ∀ d ∈ n.es, d < B32) :
    Calls Tryz.prog 8 #[v0] w fun e w' => e = .returned (.bool true) ∧ Below w.heap.size w w' := by
  have h0_0 := h0; obtain ⟨p_h0, c_h0, q_h0, d_h0, rfl, h0_1, h0_2⟩ := h0.sl
  have hK : KS w [] w := (KS.start w)
  refine Calls.hide (fun Q0 hQ0 => ?_)
  go_enter Tryz.func8, Tryz.ntmps8
  go_upto_region 0 with (fail)
  refine wp_region_tx w hK ?_
  clear hK
  apply txA (.cells #[.bool n.neg, .slice p_h0 n.ds.length c_h0, .slice q_h0 n.es.length d_h0] 43) (wants0 rfl)
  · intro w' hK; go_simp; rfl
  intro R1 q_R1
  clear q_R1
  simp only [mkOf, Act.put, pA, pB, pC]
  apply txF (wants0 rfl); (· intro w' hK; go_simp; (try go_bits); exact ⟨rfl, rfl⟩); simp only [Act.put, pA, pB, pC]
  refine txEnd (fun W2 hK => ?_)
  go_upto_region 1 with (fail)
  refine wp_region_tx w hK ?_
  clear hK
  apply txH (v := .bool true) (wants0 rfl)
  · intro v1 hv1; intro w' hK; go_simp; (try go_bits); refine (awake_q   w' (hB0.below hK.old) ).mono ?_; rintro e w5 ⟨rfl, hb⟩; obtain rfl := hv1.out; exact ⟨_, rfl, rfl, hb⟩
  simp only [Act.put, pA, pB, pC]
  apply txF (wants0 rfl); (· intro w' hK; go_simp; (try go_bits); exact ⟨rfl, rfl⟩); simp only [Act.put, pA, pB, pC]
  refine txEnd (fun W3 hK => ?_)
  go_upto_region 3 with (fail)
  refine wp_region_tx w hK ?_
  clear hK
  apply txF (wants0 rfl); (· intro w' hK; have k_R1 := (hK.get m0); have c_R1_0 := k_R1.at 0 rfl; have c_R1_1 := k_R1.at 1 rfl; have c_R1_2 := k_R1.at 2 rfl; go_simp; (try go_bits); exact ⟨rfl, rfl⟩); simp only [Act.put, pA, pB, pC]
  apply txA (.cells #[.bool n.neg, .slice p_h0 n.ds.length c_h0, .slice q_h0 n.es.length d_h0] 43) (wants0 rfl)
  · intro w' hK; go_simp; rfl
  intro R4 q_R4
  have o_R1_R4 : R1 < R4 := q_R4 _ _ _ m0
  clear q_R4
  simp only [mkOf, Act.put, pA, pB, pC]
  obtain ⟨b1, hb1⟩ : ∃ b : Bool, RowKit.Hid (decide (∀ x ∈ ([⟨.bool n.neg, p_h0, n.ds.length, c_h0, q_h0, n.es.length, d_h0⟩] : List NC), x.l ≤ 8 ∧ x.m ≤ 8) = b) := ⟨_, hid rfl⟩
  apply txH (v := .bool b1) (wants0 rfl)
  · intro v1 hv1; intro w' hK; go_simp; (try go_bits); refine (brief_any R4 ([⟨.bool n.neg, p_h0, n.ds.length, c_h0, q_h0, n.es.length, d_h0⟩] : List NC) w' (hK.get m0) (by simp)).mono ?_; rintro e w5 ⟨rfl, hb⟩; obtain rfl := hv1.out; exact ⟨_, rfl, (by rw [hb1.out]), hb⟩
  simp only [Act.put, pA, pB, pC]
  apply txF (wants0 rfl); (· intro w' hK; go_simp; (try go_bits); exact ⟨rfl, rfl⟩); simp only [Act.put, pA, pB, pC]
  refine txEnd (fun W5 hK => ?_)
  cases b1
  · --
    go_wp2
    try go_ret
    show Q0 (.returned (.bool true)) _
    exact (by obtain rfl := hQ0.out; exact ⟨rfl, hK.old⟩)
  · --
    have hq := brief_1 hb1.out rfl
    have ok_n : NumOk n := nok d_n hq
    go_upto_region 5 with (fail)
    refine wp_region_tx w hK ?_
    clear hK
    apply txF (wants0 rfl); (· intro w' hK; have k_R1 := (hK.get m1); have c_R1_0 := k_R1.at 0 rfl; have c_R1_1 := k_R1.at 1 rfl; have c_R1_2 := k_R1.at 2 rfl; go_simp; (try go_bits); exact ⟨rfl, rfl⟩); simp only [Act.put, pA, pB, pC]
    apply txE (α := Duo (Duo Sl Sl) (Duo Sl Sl)) (fun sv => .tuple #[.agg #[.bool (isN (numX n)), .slice sv.a.a.p sv.a.a.l sv.a.a.c, .slice sv.a.b.p sv.a.b.l sv.a.b.c], .agg #[.bool (isN (numX n)), .slice sv.b.a.p (digs B6 (numQ (numX n))).length sv.b.a.c, .slice sv.b.b.p (digs B6 (den0 (numX n))).length sv.b.b.c], .bool true]) (fun sv => [fun w => RatV w (.agg #[.bool (isN (numX n)), .slice sv.a.a.p sv.a.a.l sv.a.a.c, .slice sv.a.b.p sv.a.b.l sv.a.b.c]) (numX n), fun w => NatV w (.agg #[.slice sv.a.a.p sv.a.a.l sv.a.a.c]) ((numX n).num.natAbs), fun w => NatV w (.agg #[.slice sv.a.b.p sv.a.b.l sv.a.b.c]) (den0 (numX n)), fun w => RefR w (.agg #[.bool (isN (numX n)), .slice sv.b.a.p (digs B6 (numQ (numX n))).length sv.b.a.c, .slice sv.b.b.p (digs B6 (den0 (numX n))).length sv.b.b.c]) (numX n), fun w => RefV w (.slice sv.b.a.p (digs B6 (numQ (numX n))).length sv.b.a.c) (numQ (numX n)), fun w => RefV w (.slice sv.b.b.p (digs B6 (den0 (numX n))).length sv.b.b.c) (den0 (numX n))]) (wants0 rfl)
    · intro f1 l1 hl1; intro w' hK; go_simp; (try go_bits); refine (of_q (.agg #[.bool n.neg, .slice p_h0 n.ds.length c_h0, .slice q_h0 n.es.length d_h0]) n w' (h0_0.below hK.old) (hB0.below hK.old) ok_n).mono ?_; rintro e w5 ⟨y0, y1, rfl, u0, u1, hb⟩; obtain ⟨rfl, rfl⟩ := hl1.out; have u0_0 := u0; obtain ⟨p_u0, l_u0, c_u0, q_u0, m_u0, d_u0, rfl, u0_1, u0_2⟩ := u0; have u1_0 := u1; obtain ⟨p_u1, c_u1, q_u1, d_u1, rfl, u1_1, u1_2⟩ := u1.slr; exact ⟨_, rfl, (⟨(⟨⟨p_u0, l_u0, c_u0⟩, ⟨q_u0, m_u0, d_u0⟩⟩ : Duo Sl Sl), (⟨⟨p_u1, 0, c_u1⟩, ⟨q_u1, 0, d_u1⟩⟩ : Duo Sl Sl)⟩ : Duo (Duo Sl Sl) (Duo Sl Sl)), rfl, hb, .cons (fun w2 h2 => u0_0.below h2) (.cons (fun w2 h2 => u0_1.below h2) (.cons (fun w2 h2 => u0_2.below h2) (.cons (fun w2 h2 => u1_0.below h2) (.cons (fun w2 h2 => u1_1.below h2) (.cons (fun w2 h2 => u1_2.below h2) (Lasts.nil _))))))⟩
    intro sv6
    simp only [Act.put, pA, pB, pC, pD, pE]
    apply txF (wants0 rfl); (· intro w' hK; go_simp; (try go_bits); exact ⟨rfl, rfl⟩); simp only [Act.put, pA, pB, pC]
    apply txF (wants0 rfl); (· intro w' hK; go_simp; (try go_bits); exact ⟨rfl, rfl⟩); simp only [Act.put, pA, pB, pC]
    apply txF (wants0 rfl); (· intro w' hK; go_simp; (try go_bits); exact ⟨rfl, rfl⟩); simp only [Act.put, pA, pB, pC]
    apply txF (wants0 rfl); (· intro w' hK; go_simp; (try go_bits); exact ⟨rfl, rfl⟩); simp only [Act.put, pA, pB, pC]
    apply txA (.cells #[.bool false, .slice none 0 0, .slice none 0 0] 29) (wants0 rfl)
    · intro w' hK; go_simp; rfl
    intro R7 q_R7
    have o_R1_R7 : R1 < R7 := q_R7 _ _ _ m7
    have o_R4_R7 : R4 < R7 := q_R7 _ _ _ m6
    clear q_R7
    simp only [mkOf, Act.put, pA, pB, pC]
    apply txA (.cells #[.bool false, .slice none 0 0, .slice none 0 0] 36) (wants0 rfl)
    · intro w' hK; go_simp; rfl
    intro R8 q_R8
    have o_R1_R8 : R1 < R8 := q_R8 _ _ _ m8
    have o_R4_R8 : R4 < R8 := q_R8 _ _ _ m7
    have o_R7_R8 : R7 < R8 := q_R8 _ _ _ m0
    clear q_R8
    simp only [mkOf, Act.put, pA, pB, pC]
    apply txU 1 (Has w.heap.size R7 (.cells #[.bool (isN (numX n)), .slice sv6.a.a.p sv6.a.a.l sv6.a.a.c, .slice sv6.a.b.p sv6.a.b.l sv6.a.b.c] 29)) (wants0 rfl)
    · intro l1 hl1; intro w' hK; have k_R7 := (hK.get m1); have c_R7_0 := k_R7.at 0 rfl; have c_R7_1 := k_R7.at 1 rfl; have c_R7_2 := k_R7.at 2 rfl; have f_R7 := k_R7.fz; have ni := noInt_of k_R7 (by intro _ _ h; cases h); go_simp; obtain rfl := hl1.out; exact ⟨rfl, ks_put (R := R7) hK k_R7.1 0 [.bool (isN (numX n)), .slice sv6.a.a.p sv6.a.a.l sv6.a.a.c, .slice sv6.a.b.p sv6.a.b.l sv6.a.b.c] (all1 (spG o_R7_R8 (hK.get m0)) (all1 (fun w2 hb => has_put k_R7 0 [.bool (isN (numX n)), .slice sv6.a.a.p sv6.a.a.l sv6.a.a.c, .slice sv6.a.b.p sv6.a.b.l sv6.a.b.c] hb) (all1 (spQ ni (hK.get m2)) (all1 (spN ni (hK.get m3)) (all1 (spN ni (hK.get m4)) (all1 (spS ni (hK.get m5)) (all1 (spR ni (hK.get m6)) (all1 (spR ni (hK.get m7)) (all1 (spL o_R4_R7 (hK.get m8)) (all1 (spL o_R1_R7 (hK.get m9)) aN))))))))))⟩
    simp only [Act.put, pB, pC]
    apply txU 0 (Has w.heap.size R8 (.cells #[.bool (isN (numX n)), .slice sv6.b.a.p (digs B6 (numQ (numX n))).length sv6.b.a.c, .slice sv6.b.b.p (digs B6 (den0 (numX n))).length sv6.b.b.c] 36)) (wants0 rfl)
    · intro l1 hl1; intro w' hK; have k_R8 := (hK.get m0); have c_R8_0 := k_R8.at 0 rfl; have c_R8_1 := k_R8.at 1 rfl; have c_R8_2 := k_R8.at 2 rfl; have f_R8 := k_R8.fz; have ni := noInt_of k_R8 (by intro _ _ h; cases h); go_simp; obtain rfl := hl1.out; exact ⟨rfl, ks_put (R := R8) hK k_R8.1 0 [.bool (isN (numX n)), .slice sv6.b.a.p (digs B6 (numQ (numX n))).length sv6.b.a.c, .slice sv6.b.b.p (digs B6 (den0 (numX n))).length sv6.b.b.c] (all1 (fun w2 hb => has_put k_R8 0 [.bool (isN (numX n)), .slice sv6.b.a.p (digs B6 (numQ (numX n))).length sv6.b.a.c, .slice sv6.b.b.p (digs B6 (den0 (numX n))).length sv6.b.b.c] hb) (all1 (spL o_R7_R8 (hK.get m1)) (all1 (spQ ni (hK.get m2)) (all1 (spN ni (hK.get m3)) (all1 (spN ni (hK.get m4)) (all1 (spS ni (hK.get m5)) (all1 (spR ni (hK.get m6)) (all1 (spR ni (hK.get m7)) (all1 (spL o_R4_R8 (hK.get m8)) (all1 (spL o_R1_R8 (hK.get m9)) aN))))))))))⟩
    simp only [Act.put, pB, pC]
    apply txF (wants0 rfl); (· intro w' hK; go_simp; (try go_bits); exact ⟨rfl, rfl⟩); simp only [Act.put, pA, pB, pC]
    refine txEnd (fun W9 hK => ?_)
    go_upto_region 6 with (fail)
    refine wp_region_tx w hK ?_
    clear hK
    apply txF (wants0 rfl); (· intro w' hK; have k_R7 := (hK.get m1); have c_R7_0 := k_R7.at 0 rfl; have c_R7_1 := k_R7.at 1 rfl; have c_R7_2 := k_R7.at 2 rfl; go_simp; (try go_bits); exact ⟨rfl, rfl⟩); simp only [Act.put, pA, pB, pC]
    apply txE (α := Duo Sl Sl) (fun sv => .agg #[.bool (isN (floorQ (numX n))), .slice sv.a.p sv.a.l sv.a.c, .slice sv.b.p sv.b.l sv.b.c]) (fun sv => [fun w => RatV w (.agg #[.bool (isN (floorQ (numX n))), .slice sv.a.p sv.a.l sv.a.c, .slice sv.b.p sv.b.l sv.b.c]) (floorQ (numX n)), fun w => NatV w (.agg #[.slice sv.a.p sv.a.l sv.a.c]) ((floorQ (numX n)).num.natAbs), fun w => NatV w (.agg #[.slice sv.b.p sv.b.l sv.b.c]) (den0 (floorQ (numX n)))]) (wants0 rfl)
    · intro f1 l1 hl1; intro w' hK; go_simp; (try go_bits); refine (qfloor_any (.agg #[.bool (isN (numX n)), .slice sv6.a.a.p sv6.a.a.l sv6.a.a.c, .slice sv6.a.b.p sv6.a.b.l sv6.a.b.c]) (numX n) w' (hK.get m2) (LmQ.up (b := 1000) ok_n.lm (by decide)) (by decide)).mono ?_; rintro e w5 ⟨y0, rfl, u0, hb⟩; obtain ⟨rfl, rfl⟩ := hl1.out; have u0_0 := u0; obtain ⟨p_u0, l_u0, c_u0, q_u0, m_u0, d_u0, rfl, u0_1, u0_2⟩ := u0; exact ⟨_, rfl, (⟨⟨p_u0, l_u0, c_u0⟩, ⟨q_u0, m_u0, d_u0⟩⟩ : Duo Sl Sl), rfl, hb, .cons (fun w2 h2 => u0_0.below h2) (.cons (fun w2 h2 => u0_1.below h2) (.cons (fun w2 h2 => u0_2.below h2) (Lasts.nil _)))⟩
    intro sv10
    simp only [Act.put, pA, pB, pC, pD, pE]
    apply txA (.cells #[.bool false, .slice none 0 0, .slice none 0 0] 29) (wants0 rfl)
    · intro w' hK; go_simp; rfl
    intro R11 q_R11
    have o_R1_R11 : R1 < R11 := q_R11 _ _ _ m12
    have o_R4_R11 : R4 < R11 := q_R11 _ _ _ m11
    have o_R7_R11 : R7 < R11 := q_R11 _ _ _ m4
    have o_R8_R11 : R8 < R11 := q_R11 _ _ _ m3
    clear q_R11
    simp only [mkOf, Act.put, pA, pB, pC]
    apply txU 0 (Has w.heap.size R11 (.cells #[.bool (isN (floorQ (numX n))), .slice sv10.a.p sv10.a.l sv10.a.c, .slice sv10.b.p sv10.b.l sv10.b.c] 29)) (wants0 rfl)
    · intro l1 hl1; intro w' hK; have k_R11 := (hK.get m0); have c_R11_0 := k_R11.at 0 rfl; have c_R11_1 := k_R11.at 1 rfl; have c_R11_2 := k_R11.at 2 rfl; have f_R11 := k_R11.fz; have ni := noInt_of k_R11 (by intro _ _ h; cases h); go_simp; obtain rfl := hl1.out; exact ⟨rfl, ks_put (R := R11) hK k_R11.1 0 [.bool (isN (floorQ (numX n))), .slice sv10.a.p sv10.a.l sv10.a.c, .slice sv10.b.p sv10.b.l sv10.b.c] (all1 (fun w2 hb => has_put k_R11 0 [.bool (isN (floorQ (numX n))), .slice sv10.a.p sv10.a.l sv10.a.c, .slice sv10.b.p sv10.b.l sv10.b.c] hb) (all1 (spQ ni (hK.get m1)) (all1 (spN ni (hK.get m2)) (all1 (spN ni (hK.get m3)) (all1 (spL o_R8_R11 (hK.get m4)) (all1 (spL o_R7_R11 (hK.get m5)) (all1 (spQ ni (hK.get m6)) (all1 (spN ni (hK.get m7)) (all1 (spN ni (hK.get m8)) (all1 (spS ni (hK.get m9)) (all1 (spR ni (hK.get m10)) (all1 (spR ni (hK.get m11)) (all1 (spL o_R4_R11 (hK.get m12)) (all1 (spL o_R1_R11 (hK.get m13)) aN))))))))))))))⟩
    simp only [Act.put, pB, pC]
    refine txEnd (fun W12 hK => ?_)
    go_upto_region 7 with (fail)
    have hK0 := hK
    refine wp_region_float0 (w) _ _ [0, 0, 0, 0, 2, 1, 0, 0, 0, 2, 0, 2, 1, 0, 0, 0, 0, 1, 0, 0, 0, 0, 0, 2, 2, 1, 0, 0, 0, 0, 2, 1, 0, 0, 0, 0, 2, 0, 2, 2, 2, 1, 0, 0, 0] (by kernel_rfl) (by kernel_rfl) (by kernel_rfl) (by kernel_rfl) (KS.drew hK0) (KS.drew hK) ?_
    clear hK hK0
    apply lxF0 (wants0 rfl); (· intro w' h0; go_simp; (try go_bits); exact ⟨rfl, rfl⟩); simp only [Act.put, pA, pB, pC]
    apply lxF0 (wants0 rfl); (· intro w' h0; go_simp; (try go_bits); exact ⟨rfl, rfl⟩); simp only [Act.put, pA, pB, pC]
    apply lxF0 (wantsg (j := 1) (d := 22) (b := true) rfl rfl rfl rfl); (· intro w' h0; have k_R11 := (h0.get m0); have c_R11_0 := k_R11.at 0 rfl; have c_R11_1 := k_R11.at 1 rfl; have c_R11_2 := k_R11.at 2 rfl; go_simp; (try go_bits); exact ⟨rfl, rfl⟩); simp only [Act.put, pA, pB, pC]
    apply lxF0 (wantsg (j := 1) (d := 22) (b := true) rfl rfl rfl rfl); (· intro w' h0; have k_R8 := (h0.get m4); have c_R8_0 := k_R8.at 0 rfl; have c_R8_1 := k_R8.at 1 rfl; have c_R8_2 := k_R8.at 2 rfl; go_simp; (try go_bits); exact ⟨rfl, rfl⟩); simp only [Act.put, pA, pB, pC]
    apply lxE1 (α := Duo Sl Sl) (fun sv => .agg #[.bool (isN (floorQ (numX n))), .slice sv.a.p (digs B6 (numQ (floorQ (numX n)))).length sv.a.c, .slice sv.b.p (digs B6 (den0 (floorQ (numX n)))).length sv.b.c]) (fun sv => [fun w => RefR w (.agg #[.bool (isN (floorQ (numX n))), .slice sv.a.p (digs B6 (numQ (floorQ (numX n)))).length sv.a.c, .slice sv.b.p (digs B6 (den0 (floorQ (numX n)))).length sv.b.c]) (floorQ (numX n)), fun w => RefV w (.slice sv.a.p (digs B6 (numQ (floorQ (numX n)))).length sv.a.c) (numQ (floorQ (numX n))), fun w => RefV w (.slice sv.b.p (digs B6 (den0 (floorQ (numX n)))).length sv.b.c) (den0 (floorQ (numX n)))]) (wantsg (j := 1) (d := 22) (b := true) rfl rfl rfl rfl)
    · intro f1 l1 hl1; intro w' h0 hK; go_simp; (try go_bits); refine (rfloor_q (.agg #[.bool (isN (numX n)), .slice sv6.b.a.p (digs B6 (numQ (numX n))).length sv6.b.a.c, .slice sv6.b.b.p (digs B6 (den0 (numX n))).length sv6.b.b.c]) (numX n) w' (hK.get m9) (LmQ.up (b := 1000) ok_n.lm (by decide)) (by decide)).mono ?_; rintro e w5 ⟨y0, rfl, u0, hb⟩; obtain ⟨rfl, rfl⟩ := hl1.out; have u0_0 := u0; obtain ⟨p_u0, c_u0, q_u0, d_u0, rfl, u0_1, u0_2⟩ := u0.slr; exact ⟨_, rfl, (⟨⟨p_u0, 0, c_u0⟩, ⟨q_u0, 0, d_u0⟩⟩ : Duo Sl Sl), rfl, hb, .cons (fun w2 h2 => u0_0.below h2) (.cons (fun w2 h2 => u0_1.below h2) (.cons (fun w2 h2 => u0_2.below h2) (Lasts.nil _)))⟩
    intro sv13
    simp only [Act.put, pA, pB, pC, pD, pE]
    apply lxH1 (v := .bool true) (wantsg (j := 1) (d := 22) (b := true) rfl rfl rfl rfl)
    · intro v1 hv1; intro w' h0 hK; go_simp; (try go_bits); refine (is_q (.agg #[.bool (isN (floorQ (numX n))), .slice sv10.a.p sv10.a.l sv10.a.c, .slice sv10.b.p sv10.b.l sv10.b.c]) (.agg #[.bool (isN (floorQ (numX n))), .slice sv13.a.p (digs B6 (numQ (floorQ (numX n)))).length sv13.a.c, .slice sv13.b.p (digs B6 (den0 (floorQ (numX n)))).length sv13.b.c]) (floorQ (numX n)) (floorQ (numX n)) w' (hK.get m4) (hK.get m0) (hB0.below hK.old) (LmQ.up (b := 50) (LmQ.floor ok_n.lm) (by decide)) (LmQ.up (b := 50) (LmQ.floor ok_n.lm) (by decide)) rfl).mono ?_; rintro e w5 ⟨rfl, hb⟩; obtain rfl := hv1.out; exact ⟨_, rfl, rfl, hb⟩
    simp only [Act.put, pA, pB, pC]
    apply lxF0 (wants0 rfl); (· intro w' h0; go_simp; (try go_bits); exact ⟨rfl, rfl⟩); simp only [Act.put, pA, pB, pC]
    apply lxF0 (wants0 rfl); (· intro w' h0; go_simp; (try go_bits); exact ⟨rfl, rfl⟩); simp only [Act.put, pA, pB, pC]
    apply lxF0 (wantsg (j := 7) (d := 28) (b := true) rfl rfl rfl rfl); (· intro w' h0; have k_R7 := (h0.get m5); have c_R7_0 := k_R7.at 0 rfl; have c_R7_1 := k_R7.at 1 rfl; have c_R7_2 := k_R7.at 2 rfl; go_simp; (try go_bits); exact ⟨rfl, rfl⟩); simp only [Act.put, pA, pB, pC]
    apply lxE1 (α := Duo Sl Sl) (fun sv => .agg #[.bool (isN (-floorQ (-(numX n)))), .slice sv.a.p sv.a.l sv.a.c, .slice sv.b.p sv.b.l sv.b.c]) (fun sv => [fun w => RatV w (.agg #[.bool (isN (-floorQ (-(numX n)))), .slice sv.a.p sv.a.l sv.a.c, .slice sv.b.p sv.b.l sv.b.c]) (-floorQ (-(numX n))), fun w => NatV w (.agg #[.slice sv.a.p sv.a.l sv.a.c]) ((-floorQ (-(numX n))).num.natAbs), fun w => NatV w (.agg #[.slice sv.b.p sv.b.l sv.b.c]) (den0 (-floorQ (-(numX n))))]) (wantsg (j := 7) (d := 28) (b := true) rfl rfl rfl rfl)
    · intro f1 l1 hl1; intro w' h0 hK; go_simp; (try go_bits); refine (qceil_any (.agg #[.bool (isN (numX n)), .slice sv6.a.a.p sv6.a.a.l sv6.a.a.c, .slice sv6.a.b.p sv6.a.b.l sv6.a.b.c]) (numX n) w' (hK.get m9) (LmQ.up (b := 1000) ok_n.lm (by decide)) (by decide)).mono ?_; rintro e w5 ⟨y0, rfl, u0, hb⟩; obtain ⟨rfl, rfl⟩ := hl1.out; have u0_0 := u0; obtain ⟨p_u0, l_u0, c_u0, q_u0, m_u0, d_u0, rfl, u0_1, u0_2⟩ := u0; exact ⟨_, rfl, (⟨⟨p_u0, l_u0, c_u0⟩, ⟨q_u0, m_u0, d_u0⟩⟩ : Duo Sl Sl), rfl, hb, .cons (fun w2 h2 => u0_0.below h2) (.cons (fun w2 h2 => u0_1.below h2) (.cons (fun w2 h2 => u0_2.below h2) (Lasts.nil _)))⟩
    intro sv14
    simp only [Act.put, pA, pB, pC, pD, pE]
    apply lxF0 (wantsg (j := 7) (d := 28) (b := true) rfl rfl rfl rfl); (· intro w' h0; have k_R8 := (h0.get m4); have c_R8_0 := k_R8.at 0 rfl; have c_R8_1 := k_R8.at 1 rfl; have c_R8_2 := k_R8.at 2 rfl; go_simp; (try go_bits); exact ⟨rfl, rfl⟩); simp only [Act.put, pA, pB, pC]
    apply lxE1 (α := Duo Sl Sl) (fun sv => .agg #[.bool (isN (-floorQ (-(numX n)))), .slice sv.a.p (digs B6 (numQ (-floorQ (-(numX n))))).length sv.a.c, .slice sv.b.p (digs B6 (den0 (-floorQ (-(numX n))))).length sv.b.c]) (fun sv => [fun w => RefR w (.agg #[.bool (isN (-floorQ (-(numX n)))), .slice sv.a.p (digs B6 (numQ (-floorQ (-(numX n))))).length sv.a.c, .slice sv.b.p (digs B6 (den0 (-floorQ (-(numX n))))).length sv.b.c]) (-floorQ (-(numX n))), fun w => RefV w (.slice sv.a.p (digs B6 (numQ (-floorQ (-(numX n))))).length sv.a.c) (numQ (-floorQ (-(numX n)))), fun w => RefV w (.slice sv.b.p (digs B6 (den0 (-floorQ (-(numX n))))).length sv.b.c) (den0 (-floorQ (-(numX n))))]) (wantsg (j := 7) (d := 28) (b := true) rfl rfl rfl rfl)
    · intro f1 l1 hl1; intro w' h0 hK; go_simp; (try go_bits); refine (rceil_q (.agg #[.bool (isN (numX n)), .slice sv6.b.a.p (digs B6 (numQ (numX n))).length sv6.b.a.c, .slice sv6.b.b.p (digs B6 (den0 (numX n))).length sv6.b.b.c]) (numX n) w' (hK.get m15) (LmQ.up (b := 1000) ok_n.lm (by decide)) (by decide)).mono ?_; rintro e w5 ⟨y0, rfl, u0, hb⟩; obtain ⟨rfl, rfl⟩ := hl1.out; have u0_0 := u0; obtain ⟨p_u0, c_u0, q_u0, d_u0, rfl, u0_1, u0_2⟩ := u0.slr; exact ⟨_, rfl, (⟨⟨p_u0, 0, c_u0⟩, ⟨q_u0, 0, d_u0⟩⟩ : Duo Sl Sl), rfl, hb, .cons (fun w2 h2 => u0_0.below h2) (.cons (fun w2 h2 => u0_1.below h2) (.cons (fun w2 h2 => u0_2.below h2) (Lasts.nil _)))⟩
    intro sv15
    simp only [Act.put, pA, pB, pC, pD, pE]
    apply lxH1 (v := .bool true) (wantsg (j := 7) (d := 28) (b := true) rfl rfl rfl rfl)
    · intro v1 hv1; intro w' h0 hK; go_simp; (try go_bits); refine (is_q (.agg #[.bool (isN (-floorQ (-(numX n)))), .slice sv14.a.p sv14.a.l sv14.a.c, .slice sv14.b.p sv14.b.l sv14.b.c]) (.agg #[.bool (isN (-floorQ (-(numX n)))), .slice sv15.a.p (digs B6 (numQ (-floorQ (-(numX n))))).length sv15.a.c, .slice sv15.b.p (digs B6 (den0 (-floorQ (-(numX n))))).length sv15.b.c]) (-floorQ (-(numX n))) (-floorQ (-(numX n))) w' (hK.get m3) (hK.get m0) (hB0.below hK.old) (LmQ.up (b := 50) (LmQ.neg (LmQ.floor (LmQ.neg ok_n.lm))) (by decide)) (LmQ.up (b := 50) (LmQ.neg (LmQ.floor (LmQ.neg ok_n.lm))) (by decide)) rfl).mono ?_; rintro e w5 ⟨rfl, hb⟩; obtain rfl := hv1.out; exact ⟨_, rfl, rfl, hb⟩
    simp only [Act.put, pA, pB, pC]
    apply lxF0 (wants0 rfl); (· intro w' h0; go_simp; (try go_bits); exact ⟨rfl, rfl⟩); simp only [Act.put, pA, pB, pC]
    apply lxF0 (wants0 rfl); (· intro w' h0; go_simp; (try go_bits); exact ⟨rfl, rfl⟩); simp only [Act.put, pA, pB, pC]
    apply lxF0 (wantsg (j := 14) (d := 35) (b := true) rfl rfl rfl rfl); (· intro w' h0; have k_R11 := (h0.get m0); have c_R11_0 := k_R11.at 0 rfl; have c_R11_1 := k_R11.at 1 rfl; have c_R11_2 := k_R11.at 2 rfl; go_simp; (try go_bits); exact ⟨rfl, rfl⟩); simp only [Act.put, pA, pB, pC]
    apply lxF0 (wantsg (j := 14) (d := 35) (b := true) rfl rfl rfl rfl); (· intro w' h0; have k_R7 := (h0.get m5); have c_R7_0 := k_R7.at 0 rfl; have c_R7_1 := k_R7.at 1 rfl; have c_R7_2 := k_R7.at 2 rfl; go_simp; (try go_bits); exact ⟨rfl, rfl⟩); simp only [Act.put, pA, pB, pC]
    obtain ⟨z1, hz1⟩ : ∃ b : Int, RowKit.Hid ((sgQ ((floorQ (numX n)) - (numX n))) = b) := ⟨_, hid rfl⟩
    apply lxH1 (v := .int .i64 z1) (wantsg (j := 14) (d := 35) (b := true) rfl rfl rfl rfl)
    · intro v1 hv1; intro w' h0 hK; go_simp; (try go_bits); refine (qcmp_any (.agg #[.bool (isN (floorQ (numX n))), .slice sv10.a.p sv10.a.l sv10.a.c, .slice sv10.b.p sv10.b.l sv10.b.c]) (.agg #[.bool (isN (numX n)), .slice sv6.a.a.p sv6.a.a.l sv6.a.a.c, .slice sv6.a.b.p sv6.a.b.l sv6.a.b.c]) (floorQ (numX n)) (numX n) w' (hK.get m10) (hK.get m15) (LmQ.up (b := 1000) (LmQ.floor ok_n.lm) (by decide)) (LmQ.up (b := 1000) ok_n.lm (by decide)) (by decide)).mono ?_; rintro e w5 ⟨rfl, hb⟩; obtain rfl := hv1.out; exact ⟨_, rfl, (by rw [hz1.out]), hb⟩
    simp only [Act.put, pA, pB, pC]
    apply lxF0 (v := .bool true) (wantsg (j := 14) (d := 35) (b := true) rfl rfl rfl rfl); (· intro w' h0; go_simp; (try go_bits); exact ⟨congrArg Value.bool (by rw [← hz1.out]; exact decide_eq_true (floor_le _)), rfl⟩); simp only [Act.put, pA, pB, pC]
    apply lxF0 (wants0 rfl); (· intro w' h0; go_simp; (try go_bits); exact ⟨rfl, rfl⟩); simp only [Act.put, pA, pB, pC]
    apply lxF0 (wants0 rfl); (· intro w' h0; go_simp; (try go_bits); exact ⟨rfl, rfl⟩); simp only [Act.put, pA, pB, pC]
    apply lxF0 (wantsg (j := 20) (d := 41) (b := true) rfl rfl rfl rfl); (· intro w' h0; have k_R7 := (h0.get m5); have c_R7_0 := k_R7.at 0 rfl; have c_R7_1 := k_R7.at 1 rfl; have c_R7_2 := k_R7.at 2 rfl; go_simp; (try go_bits); exact ⟨rfl, rfl⟩); simp only [Act.put, pA, pB, pC]
    apply lxF0 (wantsg (j := 20) (d := 41) (b := true) rfl rfl rfl rfl); (· intro w' h0; have k_R11 := (h0.get m0); have c_R11_0 := k_R11.at 0 rfl; have c_R11_1 := k_R11.at 1 rfl; have c_R11_2 := k_R11.at 2 rfl; go_simp; (try go_bits); exact ⟨rfl, rfl⟩); simp only [Act.put, pA, pB, pC]
    apply lxE1 (α := Duo Sl Sl) (fun sv => .agg #[.bool (isN (((1 : Int) : Rat))), .slice sv.a.p sv.a.l sv.a.c, .slice sv.b.p sv.b.l sv.b.c]) (fun sv => [fun w => RatV w (.agg #[.bool (isN (((1 : Int) : Rat))), .slice sv.a.p sv.a.l sv.a.c, .slice sv.b.p sv.b.l sv.b.c]) (((1 : Int) : Rat)), fun w => NatV w (.agg #[.slice sv.a.p sv.a.l sv.a.c]) ((((1 : Int) : Rat)).num.natAbs), fun w => NatV w (.agg #[.slice sv.b.p sv.b.l sv.b.c]) (den0 (((1 : Int) : Rat)))]) (wantsg (j := 20) (d := 41) (b := true) rfl rfl rfl rfl)
    · intro f1 l1 hl1; intro w' h0 hK; go_simp; (try go_bits); refine (qint_any  1 w'  (by decide) (by decide)).mono ?_; rintro e w5 ⟨y0, rfl, u0, hb⟩; obtain ⟨rfl, rfl⟩ := hl1.out; have u0_0 := u0; obtain ⟨p_u0, l_u0, c_u0, q_u0, m_u0, d_u0, rfl, u0_1, u0_2⟩ := u0; exact ⟨_, rfl, (⟨⟨p_u0, l_u0, c_u0⟩, ⟨q_u0, m_u0, d_u0⟩⟩ : Duo Sl Sl), rfl, hb, .cons (fun w2 h2 => u0_0.below h2) (.cons (fun w2 h2 => u0_1.below h2) (.cons (fun w2 h2 => u0_2.below h2) (Lasts.nil _)))⟩
    intro sv16
    simp only [Act.put, pA, pB, pC, pD, pE]
    apply lxE1 (α := Duo Sl Sl) (fun sv => .agg #[.bool (isN ((floorQ (numX n)) + (((1 : Int) : Rat)))), .slice sv.a.p sv.a.l sv.a.c, .slice sv.b.p sv.b.l sv.b.c]) (fun sv => [fun w => RatV w (.agg #[.bool (isN ((floorQ (numX n)) + (((1 : Int) : Rat)))), .slice sv.a.p sv.a.l sv.a.c, .slice sv.b.p sv.b.l sv.b.c]) ((floorQ (numX n)) + (((1 : Int) : Rat))), fun w => NatV w (.agg #[.slice sv.a.p sv.a.l sv.a.c]) (((floorQ (numX n)) + (((1 : Int) : Rat))).num.natAbs), fun w => NatV w (.agg #[.slice sv.b.p sv.b.l sv.b.c]) (den0 ((floorQ (numX n)) + (((1 : Int) : Rat))))]) (wantsg (j := 20) (d := 41) (b := true) rfl rfl rfl rfl)
    · intro f1 l1 hl1; intro w' h0 hK; go_simp; (try go_bits); refine (qadd_any (.agg #[.bool (isN (floorQ (numX n))), .slice sv10.a.p sv10.a.l sv10.a.c, .slice sv10.b.p sv10.b.l sv10.b.c]) (.agg #[.bool (isN (((1 : Int) : Rat))), .slice sv16.a.p sv16.a.l sv16.a.c, .slice sv16.b.p sv16.b.l sv16.b.c]) (floorQ (numX n)) (((1 : Int) : Rat)) w' (hK.get m13) (hK.get m0) (LmQ.up (b := 1000) (LmQ.floor ok_n.lm) (by decide)) (LmQ.up (b := 1000) (LmQ.int (n := 1) (by decide) (by decide)) (by decide)) (by decide)).mono ?_; rintro e w5 ⟨y0, rfl, u0, hb⟩; obtain ⟨rfl, rfl⟩ := hl1.out; have u0_0 := u0; obtain ⟨p_u0, l_u0, c_u0, q_u0, m_u0, d_u0, rfl, u0_1, u0_2⟩ := u0; exact ⟨_, rfl, (⟨⟨p_u0, l_u0, c_u0⟩, ⟨q_u0, m_u0, d_u0⟩⟩ : Duo Sl Sl), rfl, hb, .cons (fun w2 h2 => u0_0.below h2) (.cons (fun w2 h2 => u0_1.below h2) (.cons (fun w2 h2 => u0_2.below h2) (Lasts.nil _)))⟩
    intro sv17
    simp only [Act.put, pA, pB, pC, pD, pE]
    obtain ⟨z2, hz2⟩ : ∃ b : Int, RowKit.Hid ((sgQ ((numX n) - ((floorQ (numX n)) + (((1 : Int) : Rat))))) = b) := ⟨_, hid rfl⟩
    apply lxH1 (v := .int .i64 z2) (wantsg (j := 20) (d := 41) (b := true) rfl rfl rfl rfl)
    · intro v1 hv1; intro w' h0 hK; go_simp; (try go_bits); refine (qcmp_any (.agg #[.bool (isN (numX n)), .slice sv6.a.a.p sv6.a.a.l sv6.a.a.c, .slice sv6.a.b.p sv6.a.b.l sv6.a.b.c]) (.agg #[.bool (isN ((floorQ (numX n)) + (((1 : Int) : Rat)))), .slice sv17.a.p sv17.a.l sv17.a.c, .slice sv17.b.p sv17.b.l sv17.b.c]) (numX n) ((floorQ (numX n)) + (((1 : Int) : Rat))) w' (hK.get m21) (hK.get m0) (LmQ.up (b := 1000) ok_n.lm (by decide)) (LmQ.up (b := 1000) (LmQ.add (LmQ.floor ok_n.lm) (LmQ.int (n := 1) (by decide) (by decide))) (by decide)) (by decide)).mono ?_; rintro e w5 ⟨rfl, hb⟩; obtain rfl := hv1.out; exact ⟨_, rfl, (by rw [hz2.out]), hb⟩
    simp only [Act.put, pA, pB, pC]
    apply lxF0 (v := .bool true) (wantsg (j := 20) (d := 41) (b := true) rfl rfl rfl rfl); (· intro w' h0; go_simp; (try go_bits); exact ⟨congrArg Value.bool (by rw [← hz2.out]; exact decide_eq_true (floor_lt _)), rfl⟩); simp only [Act.put, pA, pB, pC]
    apply lxF0 (wants0 rfl); (· intro w' h0; go_simp; (try go_bits); exact ⟨rfl, rfl⟩); simp only [Act.put, pA, pB, pC]
    apply lxF0 (wants0 rfl); (· intro w' h0; go_simp; (try go_bits); exact ⟨rfl, rfl⟩); simp only [Act.put, pA, pB, pC]
    apply lxF0 (wantsg (j := 28) (d := 49) (b := true) rfl rfl rfl rfl); (· intro w' h0; have k_R11 := (h0.get m0); have c_R11_0 := k_R11.at 0 rfl; have c_R11_1 := k_R11.at 1 rfl; have c_R11_2 := k_R11.at 2 rfl; go_simp; (try go_bits); exact ⟨rfl, rfl⟩); simp only [Act.put, pA, pB, pC]
    apply lxE1 (α := Sl) (fun sv => .agg #[.slice sv.p sv.l sv.c]) (fun sv => [fun w => NatV w (.agg #[.slice sv.p sv.l sv.c]) ((floorQ (numX n)).den)]) (wantsg (j := 28) (d := 49) (b := true) rfl rfl rfl rfl)
    · intro f1 l1 hl1; intro w' h0 hK; go_simp; (try go_bits); refine (den_any (.agg #[.bool (isN (floorQ (numX n))), .slice sv10.a.p sv10.a.l sv10.a.c, .slice sv10.b.p sv10.b.l sv10.b.c]) (floorQ (numX n)) w' (hK.get m16) ).mono ?_; rintro e w5 ⟨y0, rfl, u0, hb⟩; obtain ⟨rfl, rfl⟩ := hl1.out; obtain ⟨p_u0, c_u0, rfl, _⟩ := u0.digp; exact ⟨_, rfl, (⟨p_u0, _, c_u0⟩ : Sl), rfl, hb, .cons (fun w2 h2 => u0.below h2) (Lasts.nil _)⟩
    intro sv18
    simp only [Act.put, pA, pB, pC, pD, pE]
    apply lxH1 (v := .string ⟨(decDigits ((floorQ (numX n)).den)).toArray⟩) (wantsg (j := 28) (d := 49) (b := true) rfl rfl rfl rfl)
    · intro v1 hv1; intro w' h0 hK; go_simp; (try go_bits); refine (ntext_q (.agg #[.slice sv18.p sv18.l sv18.c]) ((floorQ (numX n)).den) w' (hK.get m0) (hB0.below hK.old) (by rw [floor_den]; exact dl1)).mono ?_; rintro e w5 ⟨rfl, hb⟩; obtain rfl := hv1.out; exact ⟨_, rfl, rfl, hb⟩
    simp only [Act.put, pA, pB, pC]
    apply lxF0 (v := .bool true) (wantsg (j := 28) (d := 49) (b := true) rfl rfl rfl rfl); (· intro w' h0; go_simp; (try go_bits); exact ⟨congrArg Value.bool (by rw [floor_den]; rw [dec1 (by decide)]; rfl), rfl⟩); simp only [Act.put, pA, pB, pC]
    apply lxF0 (wants0 rfl); (· intro w' h0; go_simp; (try go_bits); exact ⟨rfl, rfl⟩); simp only [Act.put, pA, pB, pC]
    apply lxF0 (wants0 rfl); (· intro w' h0; go_simp; (try go_bits); exact ⟨rfl, rfl⟩); simp only [Act.put, pA, pB, pC]
    apply lxF0 (wantsg (j := 34) (d := 55) (b := true) rfl rfl rfl rfl); (· intro w' h0; have k_R7 := (h0.get m5); have c_R7_0 := k_R7.at 0 rfl; have c_R7_1 := k_R7.at 1 rfl; have c_R7_2 := k_R7.at 2 rfl; go_simp; (try go_bits); exact ⟨rfl, rfl⟩); simp only [Act.put, pA, pB, pC]
    apply lxE1 (α := Duo Sl Sl) (fun sv => .agg #[.bool (isN (-floorQ (-(numX n)))), .slice sv.a.p sv.a.l sv.a.c, .slice sv.b.p sv.b.l sv.b.c]) (fun sv => [fun w => RatV w (.agg #[.bool (isN (-floorQ (-(numX n)))), .slice sv.a.p sv.a.l sv.a.c, .slice sv.b.p sv.b.l sv.b.c]) (-floorQ (-(numX n))), fun w => NatV w (.agg #[.slice sv.a.p sv.a.l sv.a.c]) ((-floorQ (-(numX n))).num.natAbs), fun w => NatV w (.agg #[.slice sv.b.p sv.b.l sv.b.c]) (den0 (-floorQ (-(numX n))))]) (wantsg (j := 34) (d := 55) (b := true) rfl rfl rfl rfl)
    · intro f1 l1 hl1; intro w' h0 hK; go_simp; (try go_bits); refine (qceil_any (.agg #[.bool (isN (numX n)), .slice sv6.a.a.p sv6.a.a.l sv6.a.a.c, .slice sv6.a.b.p sv6.a.b.l sv6.a.b.c]) (numX n) w' (hK.get m22) (LmQ.up (b := 1000) ok_n.lm (by decide)) (by decide)).mono ?_; rintro e w5 ⟨y0, rfl, u0, hb⟩; obtain ⟨rfl, rfl⟩ := hl1.out; have u0_0 := u0; obtain ⟨p_u0, l_u0, c_u0, q_u0, m_u0, d_u0, rfl, u0_1, u0_2⟩ := u0; exact ⟨_, rfl, (⟨⟨p_u0, l_u0, c_u0⟩, ⟨q_u0, m_u0, d_u0⟩⟩ : Duo Sl Sl), rfl, hb, .cons (fun w2 h2 => u0_0.below h2) (.cons (fun w2 h2 => u0_1.below h2) (.cons (fun w2 h2 => u0_2.below h2) (Lasts.nil _)))⟩
    intro sv19
    simp only [Act.put, pA, pB, pC, pD, pE]
    apply lxF0 (wantsg (j := 34) (d := 55) (b := true) rfl rfl rfl rfl); (· intro w' h0; have k_R7 := (h0.get m5); have c_R7_0 := k_R7.at 0 rfl; have c_R7_1 := k_R7.at 1 rfl; have c_R7_2 := k_R7.at 2 rfl; go_simp; (try go_bits); exact ⟨rfl, rfl⟩); simp only [Act.put, pA, pB, pC]
    apply lxE1 (α := Duo Sl Sl) (fun sv => .agg #[.bool (isN (-(numX n))), .slice sv.a.p sv.a.l sv.a.c, .slice sv.b.p sv.b.l sv.b.c]) (fun sv => [fun w => RatV w (.agg #[.bool (isN (-(numX n))), .slice sv.a.p sv.a.l sv.a.c, .slice sv.b.p sv.b.l sv.b.c]) (-(numX n)), fun w => NatV w (.agg #[.slice sv.a.p sv.a.l sv.a.c]) ((-(numX n)).num.natAbs), fun w => NatV w (.agg #[.slice sv.b.p sv.b.l sv.b.c]) (den0 (-(numX n)))]) (wantsg (j := 34) (d := 55) (b := true) rfl rfl rfl rfl)
    · intro f1 l1 hl1; intro w' h0 hK; go_simp; (try go_bits); refine (qneg_any (.agg #[.bool (isN (numX n)), .slice sv6.a.a.p sv6.a.a.l sv6.a.a.c, .slice sv6.a.b.p sv6.a.b.l sv6.a.b.c]) (numX n) w' (hK.get (ms m24)) ).mono ?_; rintro e w5 ⟨y0, rfl, u0, hb⟩; obtain ⟨rfl, rfl⟩ := hl1.out; have u0_0 := u0; obtain ⟨p_u0, l_u0, c_u0, q_u0, m_u0, d_u0, rfl, u0_1, u0_2⟩ := u0; exact ⟨_, rfl, (⟨⟨p_u0, l_u0, c_u0⟩, ⟨q_u0, m_u0, d_u0⟩⟩ : Duo Sl Sl), rfl, hb, .cons (fun w2 h2 => u0_0.below h2) (.cons (fun w2 h2 => u0_1.below h2) (.cons (fun w2 h2 => u0_2.below h2) (Lasts.nil _)))⟩
    intro sv20
    simp only [Act.put, pA, pB, pC, pD, pE]
    apply lxE1 (α := Duo Sl Sl) (fun sv => .agg #[.bool (isN (floorQ (-(numX n)))), .slice sv.a.p sv.a.l sv.a.c, .slice sv.b.p sv.b.l sv.b.c]) (fun sv => [fun w => RatV w (.agg #[.bool (isN (floorQ (-(numX n)))), .slice sv.a.p sv.a.l sv.a.c, .slice sv.b.p sv.b.l sv.b.c]) (floorQ (-(numX n))), fun w => NatV w (.agg #[.slice sv.a.p sv.a.l sv.a.c]) ((floorQ (-(numX n))).num.natAbs), fun w => NatV w (.agg #[.slice sv.b.p sv.b.l sv.b.c]) (den0 (floorQ (-(numX n))))]) (wantsg (j := 34) (d := 55) (b := true) rfl rfl rfl rfl)
    · intro f1 l1 hl1; intro w' h0 hK; go_simp; (try go_bits); refine (qfloor_any (.agg #[.bool (isN (-(numX n))), .slice sv20.a.p sv20.a.l sv20.a.c, .slice sv20.b.p sv20.b.l sv20.b.c]) (-(numX n)) w' (hK.get m0) (LmQ.up (b := 1000) (LmQ.neg ok_n.lm) (by decide)) (by decide)).mono ?_; rintro e w5 ⟨y0, rfl, u0, hb⟩; obtain ⟨rfl, rfl⟩ := hl1.out; have u0_0 := u0; obtain ⟨p_u0, l_u0, c_u0, q_u0, m_u0, d_u0, rfl, u0_1, u0_2⟩ := u0; exact ⟨_, rfl, (⟨⟨p_u0, l_u0, c_u0⟩, ⟨q_u0, m_u0, d_u0⟩⟩ : Duo Sl Sl), rfl, hb, .cons (fun w2 h2 => u0_0.below h2) (.cons (fun w2 h2 => u0_1.below h2) (.cons (fun w2 h2 => u0_2.below h2) (Lasts.nil _)))⟩
    intro sv21
    simp only [Act.put, pA, pB, pC, pD, pE]
    apply lxE1 (α := Duo Sl Sl) (fun sv => .agg #[.bool (isN (-(floorQ (-(numX n))))), .slice sv.a.p sv.a.l sv.a.c, .slice sv.b.p sv.b.l sv.b.c]) (fun sv => [fun w => RatV w (.agg #[.bool (isN (-(floorQ (-(numX n))))), .slice sv.a.p sv.a.l sv.a.c, .slice sv.b.p sv.b.l sv.b.c]) (-(floorQ (-(numX n)))), fun w => NatV w (.agg #[.slice sv.a.p sv.a.l sv.a.c]) ((-(floorQ (-(numX n)))).num.natAbs), fun w => NatV w (.agg #[.slice sv.b.p sv.b.l sv.b.c]) (den0 (-(floorQ (-(numX n)))))]) (wantsg (j := 34) (d := 55) (b := true) rfl rfl rfl rfl)
    · intro f1 l1 hl1; intro w' h0 hK; go_simp; (try go_bits); refine (qneg_any (.agg #[.bool (isN (floorQ (-(numX n)))), .slice sv21.a.p sv21.a.l sv21.a.c, .slice sv21.b.p sv21.b.l sv21.b.c]) (floorQ (-(numX n))) w' (hK.get m0) ).mono ?_; rintro e w5 ⟨y0, rfl, u0, hb⟩; obtain ⟨rfl, rfl⟩ := hl1.out; have u0_0 := u0; obtain ⟨p_u0, l_u0, c_u0, q_u0, m_u0, d_u0, rfl, u0_1, u0_2⟩ := u0; exact ⟨_, rfl, (⟨⟨p_u0, l_u0, c_u0⟩, ⟨q_u0, m_u0, d_u0⟩⟩ : Duo Sl Sl), rfl, hb, .cons (fun w2 h2 => u0_0.below h2) (.cons (fun w2 h2 => u0_1.below h2) (.cons (fun w2 h2 => u0_2.below h2) (Lasts.nil _)))⟩
    intro sv22
    simp only [Act.put, pA, pB, pC, pD, pE]
    obtain ⟨z3, hz3⟩ : ∃ b : Int, RowKit.Hid ((sgQ ((-floorQ (-(numX n))) - (-(floorQ (-(numX n)))))) = b) := ⟨_, hid rfl⟩
    apply lxH1 (v := .int .i64 z3) (wantsg (j := 34) (d := 55) (b := true) rfl rfl rfl rfl)
    · intro v1 hv1; intro w' h0 hK; go_simp; (try go_bits); refine (qcmp_any (.agg #[.bool (isN (-floorQ (-(numX n)))), .slice sv19.a.p sv19.a.l sv19.a.c, .slice sv19.b.p sv19.b.l sv19.b.c]) (.agg #[.bool (isN (-(floorQ (-(numX n))))), .slice sv22.a.p sv22.a.l sv22.a.c, .slice sv22.b.p sv22.b.l sv22.b.c]) (-floorQ (-(numX n))) (-(floorQ (-(numX n)))) w' (hK.get m9) (hK.get m0) (LmQ.up (b := 1000) (LmQ.neg (LmQ.floor (LmQ.neg ok_n.lm))) (by decide)) (LmQ.up (b := 1000) (LmQ.neg (LmQ.floor (LmQ.neg ok_n.lm))) (by decide)) (by decide)).mono ?_; rintro e w5 ⟨rfl, hb⟩; obtain rfl := hv1.out; exact ⟨_, rfl, (by rw [hz3.out]), hb⟩
    simp only [Act.put, pA, pB, pC]
    apply lxF0 (v := .bool true) (wantsg (j := 34) (d := 55) (b := true) rfl rfl rfl rfl); (· intro w' h0; go_simp; (try go_bits); exact ⟨congrArg Value.bool (by rw [← hz3.out, Rat.sub_self]; rfl), rfl⟩); simp only [Act.put, pA, pB, pC]
    apply lxF0 (wants0 rfl); (· intro w' h0; go_simp; (try go_bits); exact ⟨rfl, rfl⟩); simp only [Act.put, pA, pB, pC]
    apply lxF0 (wants0 rfl); (· intro w' h0; go_simp; (try go_bits); exact ⟨rfl, rfl⟩); simp only [Act.put, pA, pB, pC]
    refine lxEnd (fun W23 hK => ?_)
    go_wp2
    try go_ret
    show Q0 (.returned (.bool true)) _
    exact (by obtain rfl := hQ0.out; exact ⟨rfl, hK.old⟩)
end Go.Proofs.YtiilkcdefpmimaaGreatDoor
