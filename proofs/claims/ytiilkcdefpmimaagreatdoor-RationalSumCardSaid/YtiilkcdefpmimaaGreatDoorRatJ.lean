/- Helpers of the laws of rational numbers: awake, of, is, same. -/
import Derived.Test.YtiilkcdefpmimaaGreatDoorRatI
namespace Go.Proofs.YtiilkcdefpmimaaGreatDoor
open Go.RowKit
open Go.Lib (decDigits)
structure NumS where
  neg : Bool
  ds : List Nat
  es : List Nat
def NumV (W : World) (v : Value) (n : NumS) : Prop := ∃ nv dv, v = .agg #[.bool n.neg, nv, dv] ∧ InV W nv n.ds ∧ InV W dv n.es
theorem NumV.below {W W' : World} {v : Value} {n : NumS} (h : NumV W v n) (hb : Below W.heap.size W W') : NumV W' v n := by
  obtain ⟨nv, dv, rfl, h1, h2⟩ := h
  exact ⟨nv, dv, rfl, h1.below hb, h2.below hb⟩
theorem NumV.sl {W : World} {v : Value} {n : NumS} (h : NumV W v n) : ∃ p c q d, v = .agg #[.bool n.neg, .slice p n.ds.length c, .slice q n.es.length d] ∧ InV W (.slice p n.ds.length c) n.ds ∧ InV W (.slice q n.es.length d) n.es := by
  obtain ⟨nv, dv, rfl, h1, h2⟩ := h
  obtain ⟨p, c, rfl, _⟩ := h1.slice
  obtain ⟨q, d, rfl, _⟩ := h2.slice
  exact ⟨p, c, q, d, rfl, h1, h2⟩
structure NumOk (n : NumS) : Prop where
  d : ∀ d ∈ n.ds, d < B32
  e : ∀ d ∈ n.es, d < B32
  l : n.ds.length ≤ 8
  m : n.es.length ≤ 8
def numX (n : NumS) : Rat := ofS n.neg (val B32 n.ds) (one0 (val B32 n.es))
theorem one0_ne (z : Nat) : one0 z ≠ 0 := by unfold one0; split <;> omega
theorem val_lm {ds : List Nat} {k : Nat} (h : ∀ d ∈ ds, d < B32) (hk : ds.length ≤ k) : Lm k (val B32 ds) := Nat.lt_of_lt_of_le (val_lt b32_2 h) (Nat.pow_le_pow_right (by decide) hk)
theorem one0_lm {k z : Nat} (h : Lm k z) (hk : 1 ≤ k) : Lm k (one0 z) := by
  unfold one0
  split
  · exact Lm.one.up hk
  · exact h
theorem NumOk.lm {n : NumS} (h : NumOk n) : LmQ 8 (numX n) := .ofS _ (val_lm h.d h.l) (one0_lm (val_lm h.e h.m) (by decide)) (one0_ne _)
theorem textQ_short {x : Rat} (h : LmQ 50 x) : (decDigits x.num.natAbs).length ≤ 1000 ∧ (decDigits x.den).length ≤ 1000 := ⟨Nat.le_trans (dec_len h.n) (by decide), Nat.le_trans (dec_len h.d) (by decide)⟩
theorem textQ_len {x : Rat} (h : LmQ 50 x) : (textQ x).length ≤ 2002 := by
  have := textQ_short h
  unfold textQ
  split <;> split <;> simp <;> omega
theorem qparse_back (x : Rat) (w : World) (hB : Bas w) (hx : LmQ 50 x) :
    Calls Tryz.prog 12 #[.string ⟨(textQ x).toArray⟩] w fun e w' => ∃ y0, e = .returned (.tuple #[y0, .int .i64 0]) ∧ RatV w' y0 x ∧ Below w.heap.size w w' := by
  have h := parse_text x (textQ_short hx).1 (textQ_short hx).2
  have c := qparse_q (textQ x) w hB (by have := textQ_len hx; omega)
  rwa [h.1, h.2] at c
theorem of_x1 {n : NumS} (h : (((digs B6 (val B32 n.es)).length : Int) == 0) = true) : ofS n.neg (val B32 n.ds) 1 = numX n := by
  unfold numX one0
  rw [if_pos (len6_zero h)]
theorem of_x2 {n : NumS} (h : (((digs B6 (val B32 n.es)).length : Int) == 0) = false) : ofS n.neg (val B32 n.ds) (val B32 n.es) = numX n := by
  unfold numX one0
  rw [if_neg (len6_pos h)]
theorem of_lm1 {n : NumS} (h : NumOk n) : LmQ 8 (ofS n.neg (val B32 n.ds) 1) := .ofS _ (val_lm h.d h.l) (Lm.one.up (by decide)) (by decide)
theorem of_lm2 {n : NumS} (h : NumOk n) (hb : (((digs B6 (val B32 n.es)).length : Int) == 0) = false) : LmQ 8 (ofS n.neg (val B32 n.ds) (val B32 n.es)) := by rw [of_x2 hb]; exact h.lm
set_option maxRecDepth 100000 in
theorem of_q (v0 : Value) (n : NumS) (w : World) (h0 : NumV w v0 n) (hB0 : Bas w) (hn : NumOk n) :
    Calls Tryz.prog 17 #[v0] w fun e w' => ∃ y0 y1, e = .returned (.tuple #[y0, y1, .bool true]) ∧ RatV w' y0 (numX n) ∧ RefR w' y1 (numX n) ∧ Below w.heap.size w w' := by
  have h0_0 := h0; obtain ⟨p_h0, c_h0, q_h0, d_h0, rfl, h0_1, h0_2⟩ := h0.sl
  have hK : KS w [] w := (KS.start w)
  have l1 := hn.l
  have l2 := hn.m
  have e1 : (digs B6 (val B32 n.ds)).length ≤ 50000 := d6_of (val_lm hn.d hn.l) (by decide)
  have e2 : (digs B6 (val B32 n.es)).length ≤ 50000 := d6_of (val_lm hn.e hn.m) (by decide)
  have e3 : (digs B6 1).length ≤ 1 := by rw [digs6_1]; exact Nat.le_refl _
  refine Calls.hide (fun Q0 hQ0 => ?_)
  go_enter Tryz.func17, Tryz.ntmps17
  go_upto_region 0 with (fail)
  refine wp_region_tx w hK ?_
  clear hK
  apply txA (.cells #[.bool n.neg, .slice p_h0 n.ds.length c_h0, .slice q_h0 n.es.length d_h0] 43) (wants0 rfl)
  · intro w' hK; go_simp; rfl
  intro R1 q_R1
  clear q_R1
  simp only [mkOf, Act.put, pA, pB, pC]
  apply txA (.cells #[.bool false, .slice none 0 0, .slice none 0 0] 29) (wants0 rfl)
  · intro w' hK; go_simp; rfl
  intro R2 q_R2
  have o_R1_R2 : R1 < R2 := q_R2 _ _ _ m0
  clear q_R2
  simp only [mkOf, Act.put, pA, pB, pC]
  apply txA (.cells #[.bool false, .slice none 0 0, .slice none 0 0] 36) (wants0 rfl)
  · intro w' hK; go_simp; rfl
  intro R3 q_R3
  have o_R1_R3 : R1 < R3 := q_R3 _ _ _ m1
  have o_R2_R3 : R2 < R3 := q_R3 _ _ _ m0
  clear q_R3
  simp only [mkOf, Act.put, pA, pB, pC]
  apply txF (wants0 rfl); (· intro w' hK; go_simp; (try go_bits); exact ⟨rfl, rfl⟩); simp only [Act.put, pA, pB, pC]
  refine txEnd (fun W4 hK => ?_)
  go_upto_region 1 with (fail)
  refine wp_region_tx w hK ?_
  clear hK
  apply txF (wants0 rfl); (· intro w' hK; go_simp; (try go_bits); exact ⟨rfl, rfl⟩); simp only [Act.put, pA, pB, pC]
  apply txF (wants0 rfl); (· intro w' hK; have k_R1 := (hK.get m2); have c_R1_2 := k_R1.at 2 rfl; go_simp; (try go_bits); exact ⟨rfl, rfl⟩); simp only [Act.put, pA, pB, pC]
  apply txE (α := Sl) (fun sv => .slice sv.p (digs B6 (val B32 n.es)).length sv.c) (fun sv => [fun w => RefV w (.slice sv.p (digs B6 (val B32 n.es)).length sv.c) (val B32 n.es)]) (wants0 rfl)
  · intro f1 l1 hl1 w' hK; go_simp; (try go_bits); refine (make_any (.slice q_h0 n.es.length d_h0) n.es w' (h0_2.below hK.old) hn.e (by omega)).mono ?_; rintro e w5 ⟨y0, rfl, u0, hb⟩; obtain ⟨rfl, rfl⟩ := hl1.out; obtain ⟨p_u0, c_u0, rfl⟩ := u0.slr; exact ⟨_, rfl, (⟨p_u0, 0, c_u0⟩ : Sl), rfl, hb, .cons (fun w2 h2 => u0.below h2) (Lasts.nil _)⟩
  intro sv5
  simp only [Act.put, pA, pB, pC, pD, pE]
  apply txF (wants0 rfl); (· intro w' hK; go_simp; (try go_bits); exact ⟨rfl, rfl⟩); simp only [Act.put, pA, pB, pC]
  refine txEnd (fun W6 hK => ?_)
  go_upto_region 2 with (fail)
  refine wp_region_tx w hK ?_
  clear hK
  iterate 2 (apply txF (wants0 rfl); (· intro w' hK; go_simp; (try go_bits); exact ⟨rfl, rfl⟩); simp only [Act.put, pA, pB, pC])
  obtain ⟨b1, hb1⟩ : ∃ b : Bool, RowKit.Hid (((((digs B6 (val B32 n.es)).length : Int)) == 0) = b) := ⟨_, hid rfl⟩
  apply txB b1 (wants0 rfl); (· intro w' hK; go_simp; (try go_bits); exact ⟨by have q := hb1.out; subst q; first | rfl | simp, rfl⟩); simp only [Act.put, pA, pB, pC]
  refine txEnd (fun W7 hK => ?_)
  cases b1
  · --
   go_upto_region 4 with (fail)
   have z_R1 : R1 < W7.heap.size := (hK.get m3).ltS
   have z_R2 : R2 < W7.heap.size := (hK.get m2).ltS
   have z_R3 : R3 < W7.heap.size := (hK.get m1).ltS
   have v_W7 := hK.old.size
   have hB0_W7 := hB0.below hK.old
   have h0_0_W7 := h0_0.below hK.old
   have h0_1_W7 := h0_1.below hK.old
   have h0_2_W7 := h0_2.below hK.old
   have hKo := hK
   replace hK := hK.re
   have hK0 := hK
   refine wp_region_float0 (W7) _ _ [0, 0, 0, 0, 2, 0, 2, 0, 0, 0, 3, 4, 0] (by kernel_rfl) (by kernel_rfl) (by kernel_rfl) (by kernel_rfl) (KS.drew hK0) (KS.drew hK) ?_
   clear hK hK0
   apply lxF0 (wants0 rfl); (· intro w' h0; go_simp; (try go_bits); exact ⟨rfl, rfl⟩); simp only [Act.put, pA, pB, pC]
   apply lxF0 (wants0 rfl); (· intro w' h0; have k_R1 := (h0.get m3); have c_R1_0 := k_R1.at 0 rfl; go_simp; (try go_bits); exact ⟨rfl, rfl⟩); simp only [Act.put, pA, pB, pC]
   apply lxF0 (wants0 rfl); (· intro w' h0; go_simp; (try go_bits); exact ⟨rfl, rfl⟩); simp only [Act.put, pA, pB, pC]
   apply lxF0 (wants0 rfl); (· intro w' h0; have k_R1 := (h0.get m3); have c_R1_1 := k_R1.at 1 rfl; go_simp; (try go_bits); exact ⟨rfl, rfl⟩); simp only [Act.put, pA, pB, pC]
   apply lxE1 (α := Sl) (fun sv => .slice sv.p (digs B6 (val B32 n.ds)).length sv.c) (fun sv => [fun w => RefV w (.slice sv.p (digs B6 (val B32 n.ds)).length sv.c) (val B32 n.ds)]) (wants0 rfl)
   · intro f1 l1 hl1 w' h0 hK; go_simp; (try go_bits); refine (make_any (.slice p_h0 n.ds.length c_h0) n.ds w' (h0_1_W7.below hK.old) hn.d (by omega)).mono ?_; rintro e w5 ⟨y0, rfl, u0, hb⟩; obtain ⟨rfl, rfl⟩ := hl1.out; obtain ⟨p_u0, c_u0, rfl⟩ := u0.slr; exact ⟨_, rfl, (⟨p_u0, 0, c_u0⟩ : Sl), rfl, hb, .cons (fun w2 h2 => u0.below h2) (Lasts.nil _)⟩
   intro sv8
   simp only [Act.put, pA, pB, pC, pD, pE]
   apply lxF0 (wants0 rfl); (· intro w' h0; go_simp; (try go_bits); exact ⟨rfl, rfl⟩); simp only [Act.put, pA, pB, pC]
   obtain ⟨z1, hz1⟩ : ∃ b : Int, RowKit.Hid ((if (val B32 n.es) = 0 then 10 else 0) = b) := ⟨_, hid rfl⟩
   apply lxE1 (α := Duo Sl Sl) (fun sv => .tuple #[.agg #[.bool (isN (ofS n.neg (val B32 n.ds) (val B32 n.es))), .slice sv.a.p (digs B6 (numQ (ofS n.neg (val B32 n.ds) (val B32 n.es)))).length sv.a.c, .slice sv.b.p (digs B6 (den0 (ofS n.neg (val B32 n.ds) (val B32 n.es)))).length sv.b.c], .int .i64 z1]) (fun sv => [fun w => RefR w (.agg #[.bool (isN (ofS n.neg (val B32 n.ds) (val B32 n.es))), .slice sv.a.p (digs B6 (numQ (ofS n.neg (val B32 n.ds) (val B32 n.es)))).length sv.a.c, .slice sv.b.p (digs B6 (den0 (ofS n.neg (val B32 n.ds) (val B32 n.es)))).length sv.b.c]) (ofS n.neg (val B32 n.ds) (val B32 n.es)), fun w => RefV w (.slice sv.a.p (digs B6 (numQ (ofS n.neg (val B32 n.ds) (val B32 n.es)))).length sv.a.c) (numQ (ofS n.neg (val B32 n.ds) (val B32 n.es))), fun w => RefV w (.slice sv.b.p (digs B6 (den0 (ofS n.neg (val B32 n.ds) (val B32 n.es)))).length sv.b.c) (den0 (ofS n.neg (val B32 n.ds) (val B32 n.es)))]) (wants0 rfl)
   · intro f1 l1 hl1 w' h0 hK; go_simp; (try go_bits); refine (rmake_q (.slice sv8.p (digs B6 (val B32 n.ds)).length sv8.c) (.slice sv5.p (digs B6 (val B32 n.es)).length sv5.c) n.neg (val B32 n.ds) (val B32 n.es) w' (hK.get m0) (hK.get m1) (by omega) (by omega)).mono ?_; rintro e w5 ⟨y0, rfl, u0, hb⟩; obtain ⟨rfl, rfl⟩ := hl1.out; have u0_0 := u0; obtain ⟨p_u0, c_u0, q_u0, d_u0, rfl, u0_1, u0_2⟩ := u0.slr; exact ⟨_, rfl, (⟨⟨p_u0, 0, c_u0⟩, ⟨q_u0, 0, d_u0⟩⟩ : Duo Sl Sl), (by rw [hz1.out]), hb, .cons (fun w2 h2 => u0_0.below h2) (.cons (fun w2 h2 => u0_1.below h2) (.cons (fun w2 h2 => u0_2.below h2) (Lasts.nil _)))⟩
   intro sv9
   simp only [Act.put, pA, pB, pC, pD, pE]
   iterate 3 (apply lxF0 (wants0 rfl); (· intro w' h0; go_simp; (try go_bits); exact ⟨rfl, rfl⟩); simp only [Act.put, pA, pB, pC])
   apply lxA0 (.cells #[.bool false, .slice none 0 0, .slice none 0 0] 36) (wants0 rfl)
   · intro w' h0; go_simp; rfl
   intro R10
   simp only [mkOf, Act.put, pA, pB, pC]
   apply lxU1 0 (Has W7.heap.size R10 (.cells #[.bool (isN (ofS n.neg (val B32 n.ds) (val B32 n.es))), .slice sv9.a.p (digs B6 (numQ (ofS n.neg (val B32 n.ds) (val B32 n.es)))).length sv9.a.c, .slice sv9.b.p (digs B6 (den0 (ofS n.neg (val B32 n.ds) (val B32 n.es)))).length sv9.b.c] 36)) (wants0 rfl)
   · intro g0 l1 hl1 w' h0 hK; have k_R10 := (hK.get m0); have ⟨c_R10_0, c_R10_1, c_R10_2⟩ := k_R10.c3; have f_R10 := k_R10.fz; have ni := noInt_of k_R10 nofun; go_simp; obtain ⟨rfl, rfl⟩ := hl1.out; exact ⟨rfl, ks_put (R := R10) h0 k_R10.1 0 [.bool (isN (ofS n.neg (val B32 n.ds) (val B32 n.es))), .slice sv9.a.p (digs B6 (numQ (ofS n.neg (val B32 n.ds) (val B32 n.es)))).length sv9.a.c, .slice sv9.b.p (digs B6 (den0 (ofS n.neg (val B32 n.ds) (val B32 n.es)))).length sv9.b.c] (al1 (spR ni (h0.get m0)) (al1 (spL (Nat.lt_of_lt_of_le z_R3 k_R10.1) (h0.get m1)) (al1 (spL (Nat.lt_of_lt_of_le z_R2 k_R10.1) (h0.get m2)) (al1 (spL (Nat.lt_of_lt_of_le z_R1 k_R10.1) (h0.get m3)) aN)))), ks_put (R := R10) hK k_R10.1 0 [.bool (isN (ofS n.neg (val B32 n.ds) (val B32 n.es))), .slice sv9.a.p (digs B6 (numQ (ofS n.neg (val B32 n.ds) (val B32 n.es)))).length sv9.a.c, .slice sv9.b.p (digs B6 (den0 (ofS n.neg (val B32 n.ds) (val B32 n.es)))).length sv9.b.c] (al1 (fun _ => has_put k_R10 _ _) (al1 (spS ni (hK.get m1)) (al1 (spR ni (hK.get m2)) (al1 (spR ni (hK.get m3)) (al1 (spR ni (hK.get m4)) (al1 (spR ni (hK.get m5)) (al1 (spL (Nat.lt_of_lt_of_le z_R3 k_R10.1) (hK.get m6)) (al1 (spL (Nat.lt_of_lt_of_le z_R2 k_R10.1) (hK.get m7)) (al1 (spL (Nat.lt_of_lt_of_le z_R1 k_R10.1) (hK.get m8)) aN)))))))))⟩
   simp only [Act.put, pB]
   apply lxF0 (wants0 rfl); (· intro w' h0; go_simp; (try go_bits); exact ⟨rfl, rfl⟩); simp only [Act.put, pA, pB, pC]
   refine lxEnd (fun W11 hK => ?_)
   have o_R1_R10 : R1 < R10 := Nat.lt_of_lt_of_le z_R1 (hK.get m0).1
   have o_R2_R10 : R2 < R10 := Nat.lt_of_lt_of_le z_R2 (hK.get m0).1
   have o_R3_R10 : R3 < R10 := Nat.lt_of_lt_of_le z_R3 (hK.get m0).1
   replace hK := hKo.over hK
   clear hKo
   go_upto_region 5 with (fail)
   refine wp_region_tx w hK ?_
   clear hK
   apply txF (wants0 rfl); (· intro w' hK; have k_R10 := (hK.get m0); have ⟨c_R10_0, c_R10_1, c_R10_2⟩ := k_R10.c3; go_simp; (try go_bits); exact ⟨rfl, rfl⟩); simp only [Act.put, pA, pB, pC]
   apply txH (v := .string ⟨(textQ (ofS n.neg (val B32 n.ds) (val B32 n.es))).toArray⟩) (wants0 rfl)
   · intro v1 hv1 w' hK; go_simp; (try go_bits); refine (rtext_q (.agg #[.bool (isN (ofS n.neg (val B32 n.ds) (val B32 n.es))), .slice sv9.a.p (digs B6 (numQ (ofS n.neg (val B32 n.ds) (val B32 n.es)))).length sv9.a.c, .slice sv9.b.p (digs B6 (den0 (ofS n.neg (val B32 n.ds) (val B32 n.es)))).length sv9.b.c]) (ofS n.neg (val B32 n.ds) (val B32 n.es)) w' (hK.get m1) (LmQ.up (b := 1000) (of_lm2 hn hb1.out) (by decide)) (by decide)).mono ?_; rintro e w5 ⟨rfl, hb⟩; obtain rfl := hv1.out; exact ⟨_, rfl, rfl, hb⟩
   simp only [Act.put, pA, pB, pC]
   apply txE (α := Duo Sl Sl) (fun sv => .tuple #[.agg #[.bool (isN (ofS n.neg (val B32 n.ds) (val B32 n.es))), .slice sv.a.p sv.a.l sv.a.c, .slice sv.b.p sv.b.l sv.b.c], .int .i64 0]) (fun sv => [fun w => RatV w (.agg #[.bool (isN (ofS n.neg (val B32 n.ds) (val B32 n.es))), .slice sv.a.p sv.a.l sv.a.c, .slice sv.b.p sv.b.l sv.b.c]) (ofS n.neg (val B32 n.ds) (val B32 n.es)), fun w => NatV w (.agg #[.slice sv.a.p sv.a.l sv.a.c]) ((ofS n.neg (val B32 n.ds) (val B32 n.es)).num.natAbs), fun w => NatV w (.agg #[.slice sv.b.p sv.b.l sv.b.c]) (den0 (ofS n.neg (val B32 n.ds) (val B32 n.es)))]) (wants0 rfl)
   · intro f1 l1 hl1 w' hK; go_simp; (try go_bits); refine (qparse_back  (ofS n.neg (val B32 n.ds) (val B32 n.es)) w' (hB0.below hK.old) (LmQ.up (b := 50) (of_lm2 hn hb1.out) (by decide))).mono ?_; rintro e w5 ⟨y0, rfl, u0, hb⟩; obtain ⟨rfl, rfl⟩ := hl1.out; have u0_0 := u0; obtain ⟨p_u0, l_u0, c_u0, q_u0, m_u0, d_u0, rfl, u0_1, u0_2⟩ := u0; exact ⟨_, rfl, (⟨⟨p_u0, l_u0, c_u0⟩, ⟨q_u0, m_u0, d_u0⟩⟩ : Duo Sl Sl), rfl, hb, .cons (fun w2 h2 => u0_0.below h2) (.cons (fun w2 h2 => u0_1.below h2) (.cons (fun w2 h2 => u0_2.below h2) (Lasts.nil _)))⟩
   intro sv12
   simp only [Act.put, pA, pB, pC, pD, pE]
   iterate 3 (apply txF (wants0 rfl); (· intro w' hK; go_simp; (try go_bits); exact ⟨rfl, rfl⟩); simp only [Act.put, pA, pB, pC])
   apply txA (.cells #[.bool false, .slice none 0 0, .slice none 0 0] 29) (wants0 rfl)
   · intro w' hK; go_simp; rfl
   intro R13 q_R13
   have o_R1_R13 : R1 < R13 := q_R13 _ _ _ m11
   have o_R2_R13 : R2 < R13 := q_R13 _ _ _ m10
   have o_R3_R13 : R3 < R13 := q_R13 _ _ _ m9
   have o_R10_R13 : R10 < R13 := q_R13 _ _ _ m3
   clear q_R13
   simp only [mkOf, Act.put, pA, pB, pC]
   apply txU 0 (Has w.heap.size R13 (.cells #[.bool (isN (ofS n.neg (val B32 n.ds) (val B32 n.es))), .slice sv12.a.p sv12.a.l sv12.a.c, .slice sv12.b.p sv12.b.l sv12.b.c] 29)) (wants0 rfl)
   · intro l1 hl1 w' hK; have k_R13 := (hK.get m0); have ⟨c_R13_0, c_R13_1, c_R13_2⟩ := k_R13.c3; have f_R13 := k_R13.fz; have ni := noInt_of k_R13 nofun; go_simp; obtain rfl := hl1.out; exact ⟨rfl, ks_put (R := R13) hK k_R13.1 0 [.bool (isN (ofS n.neg (val B32 n.ds) (val B32 n.es))), .slice sv12.a.p sv12.a.l sv12.a.c, .slice sv12.b.p sv12.b.l sv12.b.c] (al1 (fun _ => has_put k_R13 _ _) (al1 (spQ ni (hK.get m1)) (al1 (spN ni (hK.get m2)) (al1 (spN ni (hK.get m3)) (al1 (spL o_R10_R13 (hK.get m4)) (al1 (spS ni (hK.get m5)) (al1 (spR ni (hK.get m6)) (al1 (spR ni (hK.get m7)) (al1 (spR ni (hK.get m8)) (al1 (spR ni (hK.get m9)) (al1 (spL o_R3_R13 (hK.get m10)) (al1 (spL o_R2_R13 (hK.get m11)) (al1 (spL o_R1_R13 (hK.get m12)) aN)))))))))))))⟩
   simp only [Act.put, pB]
   apply txF (wants0 rfl); (· intro w' hK; go_simp; (try go_bits); exact ⟨rfl, rfl⟩); simp only [Act.put, pA, pB, pC]
   refine txEnd (fun W14 hK => ?_)
   go_upto_region 6 with (fail)
   have hK0 := hK.subl (sK (sK (sK (sK (sK (sK (sK (sK (sK (sK (sC (sC (sK sZ)))))))))))))
   refine wp_region_float0 (w) _ _ [0, 0, 0, 0, 0, 0, 0, 0, 0, 0, 0, 0, 0, 0, 0, 0, 4, 4, 0] (by kernel_rfl) (by kernel_rfl) (by kernel_rfl) (by kernel_rfl) (KS.drew hK0) (KS.drew hK) ?_
   clear hK hK0
   apply lxF0 (wants0 rfl); (· intro w' h0; have k_R13 := (h0.get m0); have ⟨c_R13_0, c_R13_1, c_R13_2⟩ := k_R13.c3; go_simp; (try go_bits); exact ⟨rfl, rfl⟩); simp only [Act.put, pA, pB, pC]
   apply lxF0 (wants0 rfl); (· intro w' h0; have k_R10 := (h0.get m4); have ⟨c_R10_0, c_R10_1, c_R10_2⟩ := k_R10.c3; go_simp; (try go_bits); exact ⟨rfl, rfl⟩); simp only [Act.put, pA, pB, pC]
   apply lxF0 (wants0 rfl); (· intro w' h0; go_simp; (try go_bits); exact ⟨rfl, rfl⟩); simp only [Act.put, pA, pB, pC]
   apply lxF0 (wants0 rfl); (· intro w' h0; have k_R1 := (h0.get m10); have c_R1_1 := k_R1.at 1 rfl; go_simp; (try go_bits); exact ⟨rfl, rfl⟩); simp only [Act.put, pA, pB, pC]
   apply lxF0 (wants0 rfl); (· intro w' h0; go_simp; (try go_bits); exact ⟨rfl, rfl⟩); simp only [Act.put, pA, pB, pC]
   apply lxF0 (v := .bool true) (wants0 rfl); (· intro w' h0; go_simp; (try go_bits); exact ⟨congrArg Value.bool (by simp; omega), rfl⟩); simp only [Act.put, pA, pB, pC]
   apply lxF0 (wants0 rfl); (· intro w' h0; go_simp; (try go_bits); exact ⟨rfl, rfl⟩); simp only [Act.put, pA, pB, pC]
   apply lxF0 (wantsg (j := 6) (d := 39) (b := true) rfl rfl rfl rfl); (· intro w' h0; go_simp; (try go_bits); exact ⟨rfl, rfl⟩); simp only [Act.put, pA, pB, pC]
   apply lxF0 (wantsg (j := 6) (d := 39) (b := true) rfl rfl rfl rfl); (· intro w' h0; have k_R1 := (h0.get m10); have c_R1_2 := k_R1.at 2 rfl; go_simp; (try go_bits); exact ⟨rfl, rfl⟩); simp only [Act.put, pA, pB, pC]
   apply lxF0 (wantsg (j := 6) (d := 39) (b := true) rfl rfl rfl rfl); (· intro w' h0; go_simp; (try go_bits); exact ⟨rfl, rfl⟩); simp only [Act.put, pA, pB, pC]
   apply lxF0 (v := .bool true) (wantsg (j := 6) (d := 39) (b := true) rfl rfl rfl rfl); (· intro w' h0; go_simp; (try go_bits); exact ⟨congrArg Value.bool (by simp; omega), rfl⟩); simp only [Act.put, pA, pB, pC]
   iterate 2 (apply lxF0 (wants0 rfl); (· intro w' h0; go_simp; (try go_bits); exact ⟨rfl, rfl⟩); simp only [Act.put, pA, pB, pC])
   iterate 2 (apply lxF0 (wantsg (j := 12) (d := 45) (b := true) rfl rfl rfl rfl); (· intro w' h0; go_simp; (try go_bits); exact ⟨rfl, rfl⟩); simp only [Act.put, pA, pB, pC])
   apply lxF0 (wants0 rfl); (· intro w' h0; go_simp; (try go_bits); exact ⟨rfl, rfl⟩); simp only [Act.put, pA, pB, pC]
   apply lxU1 11 (Has w.heap.size R2 (.cells #[.bool (isN (ofS n.neg (val B32 n.ds) (val B32 n.es))), .slice sv12.a.p sv12.a.l sv12.a.c, .slice sv12.b.p sv12.b.l sv12.b.c] 29)) (wants0 rfl)
   · intro g0 l1 hl1 w' h0 hK; have k_R2 := (hK.get m11); have ⟨c_R2_0, c_R2_1, c_R2_2⟩ := k_R2.c3; have f_R2 := k_R2.fz; have ni := noInt_of k_R2 nofun; go_simp; obtain ⟨rfl, rfl⟩ := hl1.out; exact ⟨rfl, ks_put (R := R2) h0 k_R2.1 0 [.bool (isN (ofS n.neg (val B32 n.ds) (val B32 n.es))), .slice sv12.a.p sv12.a.l sv12.a.c, .slice sv12.b.p sv12.b.l sv12.b.c] (al1 (spG o_R2_R13 (h0.get m0)) (al1 (spQ ni (h0.get m1)) (al1 (spN ni (h0.get m2)) (al1 (spN ni (h0.get m3)) (al1 (spG o_R2_R10 (h0.get m4)) (al1 (spS ni (h0.get m5)) (al1 (spR ni (h0.get m6)) (al1 (spR ni (h0.get m7)) (al1 (spR ni (h0.get m8)) (al1 (spR ni (h0.get m9)) (al1 (spL o_R1_R2 (h0.get m10)) aN))))))))))), ks_put (R := R2) hK k_R2.1 0 [.bool (isN (ofS n.neg (val B32 n.ds) (val B32 n.es))), .slice sv12.a.p sv12.a.l sv12.a.c, .slice sv12.b.p sv12.b.l sv12.b.c] (al1 (spG o_R2_R13 (hK.get m0)) (al1 (spQ ni (hK.get m1)) (al1 (spN ni (hK.get m2)) (al1 (spN ni (hK.get m3)) (al1 (spG o_R2_R10 (hK.get m4)) (al1 (spS ni (hK.get m5)) (al1 (spR ni (hK.get m6)) (al1 (spR ni (hK.get m7)) (al1 (spR ni (hK.get m8)) (al1 (spR ni (hK.get m9)) (al1 (spG o_R2_R3 (hK.get m10)) (al1 (fun _ => has_put k_R2 _ _) (al1 (spL o_R1_R2 (hK.get m12)) aN)))))))))))))⟩
   simp only [Act.put, pB, pC]
   apply lxU1 10 (Has w.heap.size R3 (.cells #[.bool (isN (ofS n.neg (val B32 n.ds) (val B32 n.es))), .slice sv9.a.p (digs B6 (numQ (ofS n.neg (val B32 n.ds) (val B32 n.es)))).length sv9.a.c, .slice sv9.b.p (digs B6 (den0 (ofS n.neg (val B32 n.ds) (val B32 n.es)))).length sv9.b.c] 36)) (wants0 rfl)
   · intro g0 l1 hl1 w' h0 hK; have k_R3 := (hK.get m10); have ⟨c_R3_0, c_R3_1, c_R3_2⟩ := k_R3.c3; have f_R3 := k_R3.fz; have ni := noInt_of k_R3 nofun; go_simp; obtain ⟨rfl, rfl⟩ := hl1.out; exact ⟨rfl, ks_put (R := R3) h0 k_R3.1 0 [.bool (isN (ofS n.neg (val B32 n.ds) (val B32 n.es))), .slice sv9.a.p (digs B6 (numQ (ofS n.neg (val B32 n.ds) (val B32 n.es)))).length sv9.a.c, .slice sv9.b.p (digs B6 (den0 (ofS n.neg (val B32 n.ds) (val B32 n.es)))).length sv9.b.c] (al1 (spG o_R3_R13 (h0.get m0)) (al1 (spQ ni (h0.get m1)) (al1 (spN ni (h0.get m2)) (al1 (spN ni (h0.get m3)) (al1 (spG o_R3_R10 (h0.get m4)) (al1 (spS ni (h0.get m5)) (al1 (spR ni (h0.get m6)) (al1 (spR ni (h0.get m7)) (al1 (spR ni (h0.get m8)) (al1 (spR ni (h0.get m9)) (al1 (spL o_R1_R3 (h0.get m10)) aN))))))))))), ks_put (R := R3) hK k_R3.1 0 [.bool (isN (ofS n.neg (val B32 n.ds) (val B32 n.es))), .slice sv9.a.p (digs B6 (numQ (ofS n.neg (val B32 n.ds) (val B32 n.es)))).length sv9.a.c, .slice sv9.b.p (digs B6 (den0 (ofS n.neg (val B32 n.ds) (val B32 n.es)))).length sv9.b.c] (al1 (spG o_R3_R13 (hK.get m0)) (al1 (spQ ni (hK.get m1)) (al1 (spN ni (hK.get m2)) (al1 (spN ni (hK.get m3)) (al1 (spG o_R3_R10 (hK.get m4)) (al1 (spS ni (hK.get m5)) (al1 (spR ni (hK.get m6)) (al1 (spR ni (hK.get m7)) (al1 (spR ni (hK.get m8)) (al1 (spR ni (hK.get m9)) (al1 (fun _ => has_put k_R3 _ _) (al1 (spL o_R2_R3 (hK.get m11)) (al1 (spL o_R1_R3 (hK.get m12)) aN)))))))))))))⟩
   simp only [Act.put, pB, pC]
   apply lxF0 (wants0 rfl); (· intro w' h0; go_simp; (try go_bits); exact ⟨rfl, rfl⟩); simp only [Act.put, pA, pB, pC]
   refine lxEnd (fun W15 hK => ?_)
   have k_R2 := (hK.get m11); have ⟨c_R2_0, c_R2_1, c_R2_2⟩ := k_R2.c3
   have k_R3 := (hK.get m10); have ⟨c_R3_0, c_R3_1, c_R3_2⟩ := k_R3.c3
   go_wp2
   exact bodyPost_ret (v := .tuple #[.agg #[.bool (isN (ofS n.neg (val B32 n.ds) (val B32 n.es))), .slice sv12.a.p sv12.a.l sv12.a.c, .slice sv12.b.p sv12.b.l sv12.b.c], .agg #[.bool (isN (ofS n.neg (val B32 n.ds) (val B32 n.es))), .slice sv9.a.p (digs B6 (numQ (ofS n.neg (val B32 n.ds) (val B32 n.es)))).length sv9.a.c, .slice sv9.b.p (digs B6 (den0 (ofS n.neg (val B32 n.ds) (val B32 n.es)))).length sv9.b.c], .bool true]) (by simp [results, Tryz.results17, go_sem, c_R2_0, c_R2_1, c_R2_2, c_R3_0, c_R3_1, c_R3_2]) rfl ((by obtain rfl := hQ0.out; exact ⟨_, _, rfl, (Eq.mp (congrArg (RatV _ _) (show ofS n.neg (val B32 n.ds) (val B32 n.es) = numX n from (of_x2 hb1.out))) (hK.get m1)), (Eq.mp (congrArg (RefR _ _) (show ofS n.neg (val B32 n.ds) (val B32 n.es) = numX n from (of_x2 hb1.out))) (hK.get m5)), hK.old⟩))
  · --
   go_upto_region 3 with (fail)
   refine wp_region_tx w hK ?_
   clear hK
   apply txE (α := Sl) (fun sv => .slice sv.p (digs B6 1).length sv.c) (fun sv => [fun w => RefV w (.slice sv.p (digs B6 1).length sv.c) 1]) (wants0 rfl)
   · intro f1 l1 hl1 w' hK; go_simp; (try go_bits); refine (rof_any  1 w'  (by omega)).mono ?_; rintro e w5 ⟨y0, rfl, u0, hb⟩; obtain ⟨rfl, rfl⟩ := hl1.out; obtain ⟨p_u0, c_u0, rfl⟩ := u0.slr; exact ⟨_, rfl, (⟨p_u0, 0, c_u0⟩ : Sl), rfl, hb, .cons (fun w2 h2 => u0.below h2) (Lasts.nil _)⟩
   intro sv16
   simp only [Act.put, pA, pB, pC, pD, pE]
   apply txF (wants0 rfl); (· intro w' hK; go_simp; (try go_bits); exact ⟨rfl, rfl⟩); simp only [Act.put, pA, pB, pC]
   refine txEnd (fun W17 hK => ?_)
   go_upto_region 4 with (fail)
   have z_R1 : R1 < W17.heap.size := (hK.get m4).ltS
   have z_R2 : R2 < W17.heap.size := (hK.get m3).ltS
   have z_R3 : R3 < W17.heap.size := (hK.get m2).ltS
   have v_W17 := hK.old.size
   have hB0_W17 := hB0.below hK.old
   have h0_0_W17 := h0_0.below hK.old
   have h0_1_W17 := h0_1.below hK.old
   have h0_2_W17 := h0_2.below hK.old
   have hKo := hK
   replace hK := hK.re
   have hK0 := hK
   refine wp_region_float0 (W17) _ _ [0, 0, 0, 0, 2, 0, 2, 0, 0, 0, 3, 4, 0] (by kernel_rfl) (by kernel_rfl) (by kernel_rfl) (by kernel_rfl) (KS.drew hK0) (KS.drew hK) ?_
   clear hK hK0
   apply lxF0 (wants0 rfl); (· intro w' h0; go_simp; (try go_bits); exact ⟨rfl, rfl⟩); simp only [Act.put, pA, pB, pC]
   apply lxF0 (wants0 rfl); (· intro w' h0; have k_R1 := (h0.get m4); have c_R1_0 := k_R1.at 0 rfl; go_simp; (try go_bits); exact ⟨rfl, rfl⟩); simp only [Act.put, pA, pB, pC]
   apply lxF0 (wants0 rfl); (· intro w' h0; go_simp; (try go_bits); exact ⟨rfl, rfl⟩); simp only [Act.put, pA, pB, pC]
   apply lxF0 (wants0 rfl); (· intro w' h0; have k_R1 := (h0.get m4); have c_R1_1 := k_R1.at 1 rfl; go_simp; (try go_bits); exact ⟨rfl, rfl⟩); simp only [Act.put, pA, pB, pC]
   apply lxE1 (α := Sl) (fun sv => .slice sv.p (digs B6 (val B32 n.ds)).length sv.c) (fun sv => [fun w => RefV w (.slice sv.p (digs B6 (val B32 n.ds)).length sv.c) (val B32 n.ds)]) (wants0 rfl)
   · intro f1 l1 hl1 w' h0 hK; go_simp; (try go_bits); refine (make_any (.slice p_h0 n.ds.length c_h0) n.ds w' (h0_1_W17.below hK.old) hn.d (by omega)).mono ?_; rintro e w5 ⟨y0, rfl, u0, hb⟩; obtain ⟨rfl, rfl⟩ := hl1.out; obtain ⟨p_u0, c_u0, rfl⟩ := u0.slr; exact ⟨_, rfl, (⟨p_u0, 0, c_u0⟩ : Sl), rfl, hb, .cons (fun w2 h2 => u0.below h2) (Lasts.nil _)⟩
   intro sv18
   simp only [Act.put, pA, pB, pC, pD, pE]
   apply lxF0 (wants0 rfl); (· intro w' h0; go_simp; (try go_bits); exact ⟨rfl, rfl⟩); simp only [Act.put, pA, pB, pC]
   obtain ⟨z1, hz1⟩ : ∃ b : Int, RowKit.Hid ((if 1 = 0 then 10 else 0) = b) := ⟨_, hid rfl⟩
   apply lxE1 (α := Duo Sl Sl) (fun sv => .tuple #[.agg #[.bool (isN (ofS n.neg (val B32 n.ds) 1)), .slice sv.a.p (digs B6 (numQ (ofS n.neg (val B32 n.ds) 1))).length sv.a.c, .slice sv.b.p (digs B6 (den0 (ofS n.neg (val B32 n.ds) 1))).length sv.b.c], .int .i64 z1]) (fun sv => [fun w => RefR w (.agg #[.bool (isN (ofS n.neg (val B32 n.ds) 1)), .slice sv.a.p (digs B6 (numQ (ofS n.neg (val B32 n.ds) 1))).length sv.a.c, .slice sv.b.p (digs B6 (den0 (ofS n.neg (val B32 n.ds) 1))).length sv.b.c]) (ofS n.neg (val B32 n.ds) 1), fun w => RefV w (.slice sv.a.p (digs B6 (numQ (ofS n.neg (val B32 n.ds) 1))).length sv.a.c) (numQ (ofS n.neg (val B32 n.ds) 1)), fun w => RefV w (.slice sv.b.p (digs B6 (den0 (ofS n.neg (val B32 n.ds) 1))).length sv.b.c) (den0 (ofS n.neg (val B32 n.ds) 1))]) (wants0 rfl)
   · intro f1 l1 hl1 w' h0 hK; go_simp; (try go_bits); refine (rmake_q (.slice sv18.p (digs B6 (val B32 n.ds)).length sv18.c) (.slice sv16.p (digs B6 1).length sv16.c) n.neg (val B32 n.ds) 1 w' (hK.get m0) (hK.get m1) (by omega) (by omega)).mono ?_; rintro e w5 ⟨y0, rfl, u0, hb⟩; obtain ⟨rfl, rfl⟩ := hl1.out; have u0_0 := u0; obtain ⟨p_u0, c_u0, q_u0, d_u0, rfl, u0_1, u0_2⟩ := u0.slr; exact ⟨_, rfl, (⟨⟨p_u0, 0, c_u0⟩, ⟨q_u0, 0, d_u0⟩⟩ : Duo Sl Sl), (by rw [hz1.out]), hb, .cons (fun w2 h2 => u0_0.below h2) (.cons (fun w2 h2 => u0_1.below h2) (.cons (fun w2 h2 => u0_2.below h2) (Lasts.nil _)))⟩
   intro sv19
   simp only [Act.put, pA, pB, pC, pD, pE]
   iterate 3 (apply lxF0 (wants0 rfl); (· intro w' h0; go_simp; (try go_bits); exact ⟨rfl, rfl⟩); simp only [Act.put, pA, pB, pC])
   apply lxA0 (.cells #[.bool false, .slice none 0 0, .slice none 0 0] 36) (wants0 rfl)
   · intro w' h0; go_simp; rfl
   intro R20
   simp only [mkOf, Act.put, pA, pB, pC]
   apply lxU1 0 (Has W17.heap.size R20 (.cells #[.bool (isN (ofS n.neg (val B32 n.ds) 1)), .slice sv19.a.p (digs B6 (numQ (ofS n.neg (val B32 n.ds) 1))).length sv19.a.c, .slice sv19.b.p (digs B6 (den0 (ofS n.neg (val B32 n.ds) 1))).length sv19.b.c] 36)) (wants0 rfl)
   · intro g0 l1 hl1 w' h0 hK; have k_R20 := (hK.get m0); have ⟨c_R20_0, c_R20_1, c_R20_2⟩ := k_R20.c3; have f_R20 := k_R20.fz; have ni := noInt_of k_R20 nofun; go_simp; obtain ⟨rfl, rfl⟩ := hl1.out; exact ⟨rfl, ks_put (R := R20) h0 k_R20.1 0 [.bool (isN (ofS n.neg (val B32 n.ds) 1)), .slice sv19.a.p (digs B6 (numQ (ofS n.neg (val B32 n.ds) 1))).length sv19.a.c, .slice sv19.b.p (digs B6 (den0 (ofS n.neg (val B32 n.ds) 1))).length sv19.b.c] (al1 (spR ni (h0.get m0)) (al1 (spR ni (h0.get m1)) (al1 (spL (Nat.lt_of_lt_of_le z_R3 k_R20.1) (h0.get m2)) (al1 (spL (Nat.lt_of_lt_of_le z_R2 k_R20.1) (h0.get m3)) (al1 (spL (Nat.lt_of_lt_of_le z_R1 k_R20.1) (h0.get m4)) aN))))), ks_put (R := R20) hK k_R20.1 0 [.bool (isN (ofS n.neg (val B32 n.ds) 1)), .slice sv19.a.p (digs B6 (numQ (ofS n.neg (val B32 n.ds) 1))).length sv19.a.c, .slice sv19.b.p (digs B6 (den0 (ofS n.neg (val B32 n.ds) 1))).length sv19.b.c] (al1 (fun _ => has_put k_R20 _ _) (al1 (spS ni (hK.get m1)) (al1 (spR ni (hK.get m2)) (al1 (spR ni (hK.get m3)) (al1 (spR ni (hK.get m4)) (al1 (spR ni (hK.get m5)) (al1 (spR ni (hK.get m6)) (al1 (spL (Nat.lt_of_lt_of_le z_R3 k_R20.1) (hK.get m7)) (al1 (spL (Nat.lt_of_lt_of_le z_R2 k_R20.1) (hK.get m8)) (al1 (spL (Nat.lt_of_lt_of_le z_R1 k_R20.1) (hK.get m9)) aN))))))))))⟩
   simp only [Act.put, pB]
   apply lxF0 (wants0 rfl); (· intro w' h0; go_simp; (try go_bits); exact ⟨rfl, rfl⟩); simp only [Act.put, pA, pB, pC]
   refine lxEnd (fun W21 hK => ?_)
   have o_R1_R20 : R1 < R20 := Nat.lt_of_lt_of_le z_R1 (hK.get m0).1
   have o_R2_R20 : R2 < R20 := Nat.lt_of_lt_of_le z_R2 (hK.get m0).1
   have o_R3_R20 : R3 < R20 := Nat.lt_of_lt_of_le z_R3 (hK.get m0).1
   replace hK := hKo.over hK
   clear hKo
   go_upto_region 5 with (fail)
   refine wp_region_tx w hK ?_
   clear hK
   apply txF (wants0 rfl); (· intro w' hK; have k_R20 := (hK.get m0); have ⟨c_R20_0, c_R20_1, c_R20_2⟩ := k_R20.c3; go_simp; (try go_bits); exact ⟨rfl, rfl⟩); simp only [Act.put, pA, pB, pC]
   apply txH (v := .string ⟨(textQ (ofS n.neg (val B32 n.ds) 1)).toArray⟩) (wants0 rfl)
   · intro v1 hv1 w' hK; go_simp; (try go_bits); refine (rtext_q (.agg #[.bool (isN (ofS n.neg (val B32 n.ds) 1)), .slice sv19.a.p (digs B6 (numQ (ofS n.neg (val B32 n.ds) 1))).length sv19.a.c, .slice sv19.b.p (digs B6 (den0 (ofS n.neg (val B32 n.ds) 1))).length sv19.b.c]) (ofS n.neg (val B32 n.ds) 1) w' (hK.get m1) (LmQ.up (b := 1000) (of_lm1 hn) (by decide)) (by decide)).mono ?_; rintro e w5 ⟨rfl, hb⟩; obtain rfl := hv1.out; exact ⟨_, rfl, rfl, hb⟩
   simp only [Act.put, pA, pB, pC]
   apply txE (α := Duo Sl Sl) (fun sv => .tuple #[.agg #[.bool (isN (ofS n.neg (val B32 n.ds) 1)), .slice sv.a.p sv.a.l sv.a.c, .slice sv.b.p sv.b.l sv.b.c], .int .i64 0]) (fun sv => [fun w => RatV w (.agg #[.bool (isN (ofS n.neg (val B32 n.ds) 1)), .slice sv.a.p sv.a.l sv.a.c, .slice sv.b.p sv.b.l sv.b.c]) (ofS n.neg (val B32 n.ds) 1), fun w => NatV w (.agg #[.slice sv.a.p sv.a.l sv.a.c]) ((ofS n.neg (val B32 n.ds) 1).num.natAbs), fun w => NatV w (.agg #[.slice sv.b.p sv.b.l sv.b.c]) (den0 (ofS n.neg (val B32 n.ds) 1))]) (wants0 rfl)
   · intro f1 l1 hl1 w' hK; go_simp; (try go_bits); refine (qparse_back  (ofS n.neg (val B32 n.ds) 1) w' (hB0.below hK.old) (LmQ.up (b := 50) (of_lm1 hn) (by decide))).mono ?_; rintro e w5 ⟨y0, rfl, u0, hb⟩; obtain ⟨rfl, rfl⟩ := hl1.out; have u0_0 := u0; obtain ⟨p_u0, l_u0, c_u0, q_u0, m_u0, d_u0, rfl, u0_1, u0_2⟩ := u0; exact ⟨_, rfl, (⟨⟨p_u0, l_u0, c_u0⟩, ⟨q_u0, m_u0, d_u0⟩⟩ : Duo Sl Sl), rfl, hb, .cons (fun w2 h2 => u0_0.below h2) (.cons (fun w2 h2 => u0_1.below h2) (.cons (fun w2 h2 => u0_2.below h2) (Lasts.nil _)))⟩
   intro sv22
   simp only [Act.put, pA, pB, pC, pD, pE]
   iterate 3 (apply txF (wants0 rfl); (· intro w' hK; go_simp; (try go_bits); exact ⟨rfl, rfl⟩); simp only [Act.put, pA, pB, pC])
   apply txA (.cells #[.bool false, .slice none 0 0, .slice none 0 0] 29) (wants0 rfl)
   · intro w' hK; go_simp; rfl
   intro R23 q_R23
   have o_R1_R23 : R1 < R23 := q_R23 _ _ _ m12
   have o_R2_R23 : R2 < R23 := q_R23 _ _ _ m11
   have o_R3_R23 : R3 < R23 := q_R23 _ _ _ m10
   have o_R20_R23 : R20 < R23 := q_R23 _ _ _ m3
   clear q_R23
   simp only [mkOf, Act.put, pA, pB, pC]
   apply txU 0 (Has w.heap.size R23 (.cells #[.bool (isN (ofS n.neg (val B32 n.ds) 1)), .slice sv22.a.p sv22.a.l sv22.a.c, .slice sv22.b.p sv22.b.l sv22.b.c] 29)) (wants0 rfl)
   · intro l1 hl1 w' hK; have k_R23 := (hK.get m0); have ⟨c_R23_0, c_R23_1, c_R23_2⟩ := k_R23.c3; have f_R23 := k_R23.fz; have ni := noInt_of k_R23 nofun; go_simp; obtain rfl := hl1.out; exact ⟨rfl, ks_put (R := R23) hK k_R23.1 0 [.bool (isN (ofS n.neg (val B32 n.ds) 1)), .slice sv22.a.p sv22.a.l sv22.a.c, .slice sv22.b.p sv22.b.l sv22.b.c] (al1 (fun _ => has_put k_R23 _ _) (al1 (spQ ni (hK.get m1)) (al1 (spN ni (hK.get m2)) (al1 (spN ni (hK.get m3)) (al1 (spL o_R20_R23 (hK.get m4)) (al1 (spS ni (hK.get m5)) (al1 (spR ni (hK.get m6)) (al1 (spR ni (hK.get m7)) (al1 (spR ni (hK.get m8)) (al1 (spR ni (hK.get m9)) (al1 (spR ni (hK.get m10)) (al1 (spL o_R3_R23 (hK.get m11)) (al1 (spL o_R2_R23 (hK.get m12)) (al1 (spL o_R1_R23 (hK.get m13)) aN))))))))))))))⟩
   simp only [Act.put, pB]
   apply txF (wants0 rfl); (· intro w' hK; go_simp; (try go_bits); exact ⟨rfl, rfl⟩); simp only [Act.put, pA, pB, pC]
   refine txEnd (fun W24 hK => ?_)
   go_upto_region 6 with (fail)
   have hK0 := hK.subl (sK (sK (sK (sK (sK (sK (sK (sK (sK (sK (sK (sC (sC (sK sZ))))))))))))))
   refine wp_region_float0 (w) _ _ [0, 0, 0, 0, 0, 0, 0, 0, 0, 0, 0, 0, 0, 0, 0, 0, 4, 4, 0] (by kernel_rfl) (by kernel_rfl) (by kernel_rfl) (by kernel_rfl) (KS.drew hK0) (KS.drew hK) ?_
   clear hK hK0
   apply lxF0 (wants0 rfl); (· intro w' h0; have k_R23 := (h0.get m0); have ⟨c_R23_0, c_R23_1, c_R23_2⟩ := k_R23.c3; go_simp; (try go_bits); exact ⟨rfl, rfl⟩); simp only [Act.put, pA, pB, pC]
   apply lxF0 (wants0 rfl); (· intro w' h0; have k_R20 := (h0.get m4); have ⟨c_R20_0, c_R20_1, c_R20_2⟩ := k_R20.c3; go_simp; (try go_bits); exact ⟨rfl, rfl⟩); simp only [Act.put, pA, pB, pC]
   apply lxF0 (wants0 rfl); (· intro w' h0; go_simp; (try go_bits); exact ⟨rfl, rfl⟩); simp only [Act.put, pA, pB, pC]
   apply lxF0 (wants0 rfl); (· intro w' h0; have k_R1 := (h0.get m11); have c_R1_1 := k_R1.at 1 rfl; go_simp; (try go_bits); exact ⟨rfl, rfl⟩); simp only [Act.put, pA, pB, pC]
   apply lxF0 (wants0 rfl); (· intro w' h0; go_simp; (try go_bits); exact ⟨rfl, rfl⟩); simp only [Act.put, pA, pB, pC]
   apply lxF0 (v := .bool true) (wants0 rfl); (· intro w' h0; go_simp; (try go_bits); exact ⟨congrArg Value.bool (by simp; omega), rfl⟩); simp only [Act.put, pA, pB, pC]
   apply lxF0 (wants0 rfl); (· intro w' h0; go_simp; (try go_bits); exact ⟨rfl, rfl⟩); simp only [Act.put, pA, pB, pC]
   apply lxF0 (wantsg (j := 6) (d := 39) (b := true) rfl rfl rfl rfl); (· intro w' h0; go_simp; (try go_bits); exact ⟨rfl, rfl⟩); simp only [Act.put, pA, pB, pC]
   apply lxF0 (wantsg (j := 6) (d := 39) (b := true) rfl rfl rfl rfl); (· intro w' h0; have k_R1 := (h0.get m11); have c_R1_2 := k_R1.at 2 rfl; go_simp; (try go_bits); exact ⟨rfl, rfl⟩); simp only [Act.put, pA, pB, pC]
   apply lxF0 (wantsg (j := 6) (d := 39) (b := true) rfl rfl rfl rfl); (· intro w' h0; go_simp; (try go_bits); exact ⟨rfl, rfl⟩); simp only [Act.put, pA, pB, pC]
   apply lxF0 (v := .bool true) (wantsg (j := 6) (d := 39) (b := true) rfl rfl rfl rfl); (· intro w' h0; go_simp; (try go_bits); exact ⟨congrArg Value.bool (by simp; omega), rfl⟩); simp only [Act.put, pA, pB, pC]
   iterate 2 (apply lxF0 (wants0 rfl); (· intro w' h0; go_simp; (try go_bits); exact ⟨rfl, rfl⟩); simp only [Act.put, pA, pB, pC])
   iterate 2 (apply lxF0 (wantsg (j := 12) (d := 45) (b := true) rfl rfl rfl rfl); (· intro w' h0; go_simp; (try go_bits); exact ⟨rfl, rfl⟩); simp only [Act.put, pA, pB, pC])
   apply lxF0 (wants0 rfl); (· intro w' h0; go_simp; (try go_bits); exact ⟨rfl, rfl⟩); simp only [Act.put, pA, pB, pC]
   apply lxU1 12 (Has w.heap.size R2 (.cells #[.bool (isN (ofS n.neg (val B32 n.ds) 1)), .slice sv22.a.p sv22.a.l sv22.a.c, .slice sv22.b.p sv22.b.l sv22.b.c] 29)) (wants0 rfl)
   · intro g0 l1 hl1 w' h0 hK; have k_R2 := (hK.get m12); have ⟨c_R2_0, c_R2_1, c_R2_2⟩ := k_R2.c3; have f_R2 := k_R2.fz; have ni := noInt_of k_R2 nofun; go_simp; obtain ⟨rfl, rfl⟩ := hl1.out; exact ⟨rfl, ks_put (R := R2) h0 k_R2.1 0 [.bool (isN (ofS n.neg (val B32 n.ds) 1)), .slice sv22.a.p sv22.a.l sv22.a.c, .slice sv22.b.p sv22.b.l sv22.b.c] (al1 (spG o_R2_R23 (h0.get m0)) (al1 (spQ ni (h0.get m1)) (al1 (spN ni (h0.get m2)) (al1 (spN ni (h0.get m3)) (al1 (spG o_R2_R20 (h0.get m4)) (al1 (spS ni (h0.get m5)) (al1 (spR ni (h0.get m6)) (al1 (spR ni (h0.get m7)) (al1 (spR ni (h0.get m8)) (al1 (spR ni (h0.get m9)) (al1 (spR ni (h0.get m10)) (al1 (spL o_R1_R2 (h0.get m11)) aN)))))))))))), ks_put (R := R2) hK k_R2.1 0 [.bool (isN (ofS n.neg (val B32 n.ds) 1)), .slice sv22.a.p sv22.a.l sv22.a.c, .slice sv22.b.p sv22.b.l sv22.b.c] (al1 (spG o_R2_R23 (hK.get m0)) (al1 (spQ ni (hK.get m1)) (al1 (spN ni (hK.get m2)) (al1 (spN ni (hK.get m3)) (al1 (spG o_R2_R20 (hK.get m4)) (al1 (spS ni (hK.get m5)) (al1 (spR ni (hK.get m6)) (al1 (spR ni (hK.get m7)) (al1 (spR ni (hK.get m8)) (al1 (spR ni (hK.get m9)) (al1 (spR ni (hK.get m10)) (al1 (spG o_R2_R3 (hK.get m11)) (al1 (fun _ => has_put k_R2 _ _) (al1 (spL o_R1_R2 (hK.get m13)) aN))))))))))))))⟩
   simp only [Act.put, pB, pC]
   apply lxU1 11 (Has w.heap.size R3 (.cells #[.bool (isN (ofS n.neg (val B32 n.ds) 1)), .slice sv19.a.p (digs B6 (numQ (ofS n.neg (val B32 n.ds) 1))).length sv19.a.c, .slice sv19.b.p (digs B6 (den0 (ofS n.neg (val B32 n.ds) 1))).length sv19.b.c] 36)) (wants0 rfl)
   · intro g0 l1 hl1 w' h0 hK; have k_R3 := (hK.get m11); have ⟨c_R3_0, c_R3_1, c_R3_2⟩ := k_R3.c3; have f_R3 := k_R3.fz; have ni := noInt_of k_R3 nofun; go_simp; obtain ⟨rfl, rfl⟩ := hl1.out; exact ⟨rfl, ks_put (R := R3) h0 k_R3.1 0 [.bool (isN (ofS n.neg (val B32 n.ds) 1)), .slice sv19.a.p (digs B6 (numQ (ofS n.neg (val B32 n.ds) 1))).length sv19.a.c, .slice sv19.b.p (digs B6 (den0 (ofS n.neg (val B32 n.ds) 1))).length sv19.b.c] (al1 (spG o_R3_R23 (h0.get m0)) (al1 (spQ ni (h0.get m1)) (al1 (spN ni (h0.get m2)) (al1 (spN ni (h0.get m3)) (al1 (spG o_R3_R20 (h0.get m4)) (al1 (spS ni (h0.get m5)) (al1 (spR ni (h0.get m6)) (al1 (spR ni (h0.get m7)) (al1 (spR ni (h0.get m8)) (al1 (spR ni (h0.get m9)) (al1 (spR ni (h0.get m10)) (al1 (spL o_R1_R3 (h0.get m11)) aN)))))))))))), ks_put (R := R3) hK k_R3.1 0 [.bool (isN (ofS n.neg (val B32 n.ds) 1)), .slice sv19.a.p (digs B6 (numQ (ofS n.neg (val B32 n.ds) 1))).length sv19.a.c, .slice sv19.b.p (digs B6 (den0 (ofS n.neg (val B32 n.ds) 1))).length sv19.b.c] (al1 (spG o_R3_R23 (hK.get m0)) (al1 (spQ ni (hK.get m1)) (al1 (spN ni (hK.get m2)) (al1 (spN ni (hK.get m3)) (al1 (spG o_R3_R20 (hK.get m4)) (al1 (spS ni (hK.get m5)) (al1 (spR ni (hK.get m6)) (al1 (spR ni (hK.get m7)) (al1 (spR ni (hK.get m8)) (al1 (spR ni (hK.get m9)) (al1 (spR ni (hK.get m10)) (al1 (fun _ => has_put k_R3 _ _) (al1 (spL o_R2_R3 (hK.get m12)) (al1 (spL o_R1_R3 (hK.get m13)) aN))))))))))))))⟩
   simp only [Act.put, pB, pC]
   apply lxF0 (wants0 rfl); (· intro w' h0; go_simp; (try go_bits); exact ⟨rfl, rfl⟩); simp only [Act.put, pA, pB, pC]
   refine lxEnd (fun W25 hK => ?_)
   have k_R2 := (hK.get m12); have ⟨c_R2_0, c_R2_1, c_R2_2⟩ := k_R2.c3
   have k_R3 := (hK.get m11); have ⟨c_R3_0, c_R3_1, c_R3_2⟩ := k_R3.c3
   go_wp2
   exact bodyPost_ret (v := .tuple #[.agg #[.bool (isN (ofS n.neg (val B32 n.ds) 1)), .slice sv22.a.p sv22.a.l sv22.a.c, .slice sv22.b.p sv22.b.l sv22.b.c], .agg #[.bool (isN (ofS n.neg (val B32 n.ds) 1)), .slice sv19.a.p (digs B6 (numQ (ofS n.neg (val B32 n.ds) 1))).length sv19.a.c, .slice sv19.b.p (digs B6 (den0 (ofS n.neg (val B32 n.ds) 1))).length sv19.b.c], .bool true]) (by simp [results, Tryz.results17, go_sem, c_R2_0, c_R2_1, c_R2_2, c_R3_0, c_R3_1, c_R3_2]) rfl ((by obtain rfl := hQ0.out; exact ⟨_, _, rfl, (Eq.mp (congrArg (RatV _ _) (show ofS n.neg (val B32 n.ds) 1 = numX n from (of_x1 hb1.out))) (hK.get m1)), (Eq.mp (congrArg (RefR _ _) (show ofS n.neg (val B32 n.ds) 1 = numX n from (of_x1 hb1.out))) (hK.get m5)), hK.old⟩))
set_option maxRecDepth 100000 in
theorem is_q (v0 : Value) (v1 : Value) (x : Rat) (y : Rat) (w : World) (h0 : RatV w v0 x) (h1 : RefR w v1 y) (hB0 : Bas w) (hx : LmQ 50 x) (hy : LmQ 50 y) (hxy : x = y) :
    Calls Tryz.prog 14 #[v0, v1] w fun e w' => e = .returned (.bool true) ∧ Below w.heap.size w w' := by
  have h0_0 := h0; obtain ⟨p_h0, l_h0, c_h0, q_h0, m_h0, d_h0, rfl, h0_1, h0_2⟩ := h0
  have h1_0 := h1; obtain ⟨p_h1, c_h1, q_h1, d_h1, rfl, h1_1, h1_2⟩ := h1.slr
  have hK : KS w [fun w => RefR w (.agg #[.bool (isN y), .slice p_h1 (digs B6 (numQ y)).length c_h1, .slice q_h1 (digs B6 (den0 y)).length d_h1]) y, fun w => RefV w (.slice p_h1 (digs B6 (numQ y)).length c_h1) (numQ y), fun w => RefV w (.slice q_h1 (digs B6 (den0 y)).length d_h1) (den0 y), fun w => RatV w (.agg #[.bool (isN x), .slice p_h0 l_h0 c_h0, .slice q_h0 m_h0 d_h0]) x, fun w => NatV w (.agg #[.slice p_h0 l_h0 c_h0]) x.num.natAbs, fun w => NatV w (.agg #[.slice q_h0 m_h0 d_h0]) (den0 x)] w := (KS.add (KS.add (KS.add (KS.add (KS.add (KS.add (KS.start w) (fun w' hb => h0_2.below hb)) (fun w' hb => h0_1.below hb)) (fun w' hb => h0_0.below hb)) (fun w' hb => h1_2.below hb)) (fun w' hb => h1_1.below hb)) (fun w' hb => h1_0.below hb))
  replace hxy := hid hxy
  refine Calls.hide (fun Q0 hQ0 => ?_)
  go_enter Tryz.func14, Tryz.ntmps14
  go_upto_region 0 with (fail)
  refine wp_region_tx w hK ?_
  clear hK
  apply txA (.cells #[.bool (isN x), .slice p_h0 l_h0 c_h0, .slice q_h0 m_h0 d_h0] 29) (wants0 rfl)
  · intro w' hK; go_simp; rfl
  intro R1 q_R1
  clear q_R1
  simp only [mkOf, Act.put, pA, pB, pC]
  apply txA (.cells #[.bool (isN y), .slice p_h1 (digs B6 (numQ y)).length c_h1, .slice q_h1 (digs B6 (den0 y)).length d_h1] 36) (wants0 rfl)
  · intro w' hK; go_simp; rfl
  intro R2 q_R2
  have o_R1_R2 : R1 < R2 := q_R2 _ _ _ m0
  clear q_R2
  simp only [mkOf, Act.put, pA, pB, pC]
  apply txF (wants0 rfl); (· intro w' hK; go_simp; (try go_bits); exact ⟨rfl, rfl⟩); simp only [Act.put, pA, pB, pC]
  refine txEnd (fun W3 hK => ?_)
  go_upto_region 1 with (fail)
  have hK0 := hK
  refine wp_region_float0 (w) _ _ [0, 1, 0, 1, 0, 0] (by kernel_rfl) (by kernel_rfl) (by kernel_rfl) (by kernel_rfl) (KS.drew hK0) (KS.drew hK) ?_
  clear hK hK0
  apply lxF0 (wants0 rfl); (· intro w' h0; have k_R1 := (h0.get m1); have ⟨c_R1_0, c_R1_1, c_R1_2⟩ := k_R1.c3; go_simp; (try go_bits); exact ⟨rfl, rfl⟩); simp only [Act.put, pA, pB, pC]
  apply lxH1 (v := .string ⟨(textQ x).toArray⟩) (wants0 rfl)
  · intro v1 hv1 w' h0 hK; go_simp; (try go_bits); refine (qtext_q (.agg #[.bool (isN x), .slice p_h0 l_h0 c_h0, .slice q_h0 m_h0 d_h0]) x w' (hK.get m5) (hB0.below hK.old) (LmQ.up (b := 1000) hx (by decide)) (by decide)).mono ?_; rintro e w5 ⟨rfl, hb⟩; obtain rfl := hv1.out; exact ⟨_, rfl, rfl, hb⟩
  simp only [Act.put, pA, pB, pC]
  apply lxF0 (wants0 rfl); (· intro w' h0; have k_R2 := (h0.get m0); have ⟨c_R2_0, c_R2_1, c_R2_2⟩ := k_R2.c3; go_simp; (try go_bits); exact ⟨rfl, rfl⟩); simp only [Act.put, pA, pB, pC]
  apply lxH1 (v := .string ⟨(textQ y).toArray⟩) (wants0 rfl)
  · intro v1 hv1 w' h0 hK; go_simp; (try go_bits); refine (rtext_q (.agg #[.bool (isN y), .slice p_h1 (digs B6 (numQ y)).length c_h1, .slice q_h1 (digs B6 (den0 y)).length d_h1]) y w' (hK.get m2) (LmQ.up (b := 1000) hy (by decide)) (by decide)).mono ?_; rintro e w5 ⟨rfl, hb⟩; obtain rfl := hv1.out; exact ⟨_, rfl, rfl, hb⟩
  simp only [Act.put, pA, pB, pC]
  apply lxF0 (v := .bool true) (wants0 rfl); (· intro w' h0; go_simp; (try go_bits); exact ⟨congrArg Value.bool (by rw [hxy.out]; simp), rfl⟩); simp only [Act.put, pA, pB, pC]
  apply lxF0 (wants0 rfl); (· intro w' h0; go_simp; (try go_bits); exact ⟨rfl, rfl⟩); simp only [Act.put, pA, pB, pC]
  refine lxEnd (fun W4 hK => ?_)
  go_wp2
  try go_ret
  show Q0 (.returned (.bool true)) _
  exact (by obtain rfl := hQ0.out; exact ⟨rfl, hK.old⟩)
theorem aw_a : LmQ 8 (1 / 3 : Rat) := ⟨by show _ < _; decide +kernel, by show _ < _; decide +kernel⟩
theorem aw_b : LmQ 8 (1 / 2 : Rat) := ⟨by show _ < _; decide +kernel, by show _ < _; decide +kernel⟩
theorem aw_c : LmQ 8 (-7 / 2 : Rat) := ⟨by show _ < _; decide +kernel, by show _ < _; decide +kernel⟩
theorem qof_26 (w : World) : Calls Tryz.prog 25 #[.int .i64 2, .int .i64 6] w fun e w' => ∃ y0, e = .returned (.tuple #[y0, .int .i64 0]) ∧ RatV w' y0 (1 / 3 : Rat) ∧ Below w.heap.size w w' := by
  have c := qof_any 2 6 w (by decide) (by decide) (by decide) (by decide)
  rwa [show (((2 : Int) : Rat) / ((6 : Int) : Rat)) = 1 / 3 by decide +kernel, if_neg (by decide)] at c
theorem qof_12 (w : World) : Calls Tryz.prog 25 #[.int .i64 1, .int .i64 2] w fun e w' => ∃ y0, e = .returned (.tuple #[y0, .int .i64 0]) ∧ RatV w' y0 (1 / 2 : Rat) ∧ Below w.heap.size w w' := by
  have c := qof_any 1 2 w (by decide) (by decide) (by decide) (by decide)
  rwa [show (((1 : Int) : Rat) / ((2 : Int) : Rat)) = 1 / 2 by decide +kernel, if_neg (by decide)] at c
theorem dec1 {n : Nat} (h : n < 10) : decDigits n = [UInt8.ofNat (48 + n)] := dec_small h
theorem text_of {x : Rat} {b : Bool} {n d : Nat} {l : List UInt8} (h : isN x = b ∧ x.num.natAbs = n ∧ x.den = d) (hl : (if b then [45] else []) ++ (decDigits n ++ (if d = 1 then [] else 47 :: decDigits d)) = l) : textQ x = l := by
  unfold textQ
  rw [h.1, h.2.1, h.2.2, hl]
theorem aw_t3 : textQ (-7 / 2 : Rat) = [45, 55, 47, 50] := text_of (b := true) (n := 7) (d := 2) (by decide +kernel) (by rw [dec1 (by decide), dec1 (by decide)]; rfl)
theorem aw_t1 : textQ (1 / 3 - 1 / 2 : Rat) = [45, 49, 47, 54] := text_of (b := true) (n := 1) (d := 6) (by decide +kernel) (by rw [dec1 (by decide), dec1 (by decide)]; rfl)
theorem aw_t4 : textQ (floorQ (-7 / 2)) = [45, 52] := text_of (b := true) (n := 4) (d := 1) (by decide +kernel) (by rw [dec1 (by decide)]; rfl)
theorem aw_t5 : textQ (-floorQ (-(-7 / 2))) = [45, 51] := text_of (b := true) (n := 3) (d := 1) (by decide +kernel) (by rw [dec1 (by decide)]; rfl)
theorem qparse_72 (w : World) (hB : Bas w) : Calls Tryz.prog 12 #[.string ⟨#[45, 55, 47, 50]⟩] w fun e w' => ∃ y0, e = .returned (.tuple #[y0, .int .i64 0]) ∧ RatV w' y0 (-7 / 2 : Rat) ∧ Below w.heap.size w w' := by
  have c := qparse_back (-7 / 2) w hB (aw_c.up (by decide))
  rwa [aw_t3] at c
theorem parse48 : parseVal [48] = 0 ∧ parseErr [48] = 0 := by
  have e : decDigits 0 = [48] := by rw [dec_small (by decide)]; rfl
  have h := parse_dec (n := 0) (by rw [e]; decide)
  rw [e] at h
  exact ⟨h.2, h.1⟩
theorem qparse_10 (w : World) (hB : Bas w) : Calls Tryz.prog 12 #[.string ⟨#[49, 47, 48]⟩] w fun e w' => ∃ y0, e = .returned (.tuple #[y0, .int .i64 10]) ∧ RatV w' y0 (0 : Rat) ∧ Below w.heap.size w w' := by
  have c := qparse_q [49, 47, 48] w hB (by decide)
  have h : errQ [49, 47, 48] = 10 := by
    unfold errQ
    rw [show firQ [49, 47, 48] = [49] from rfl, show secQ [49, 47, 48] = [48] from rfl, parse49.2, parse48.2, parse48.1]
    rfl
  have h2 : valQ [49, 47, 48] = 0 := by unfold valQ; rw [if_neg (by rw [h]; decide)]
  rwa [h, h2] at c
set_option maxRecDepth 100000 in
theorem awake_q   (w : World)  (hB0 : Bas w)  :
    Calls Tryz.prog 11 #[] w fun e w' => e = .returned (.bool true) ∧ Below w.heap.size w w' := by
  have hK : KS w [] w := (KS.start w)
  refine Calls.hide (fun Q0 hQ0 => ?_)
  go_enter Tryz.func11, Tryz.ntmps11
  go_upto_region 1 with (fail)
  refine wp_region_tx w hK ?_
  clear hK
  apply txE (α := Duo Sl Sl) (fun sv => .tuple #[.agg #[.bool (isN ((1 / 3 : Rat))), .slice sv.a.p sv.a.l sv.a.c, .slice sv.b.p sv.b.l sv.b.c], .int .i64 0]) (fun sv => [fun w => RatV w (.agg #[.bool (isN ((1 / 3 : Rat))), .slice sv.a.p sv.a.l sv.a.c, .slice sv.b.p sv.b.l sv.b.c]) ((1 / 3 : Rat)), fun w => NatV w (.agg #[.slice sv.a.p sv.a.l sv.a.c]) (((1 / 3 : Rat)).num.natAbs), fun w => NatV w (.agg #[.slice sv.b.p sv.b.l sv.b.c]) (den0 ((1 / 3 : Rat)))]) (wants0 rfl)
  · intro f1 l1 hl1 w' hK; go_simp; (try go_bits); refine (qof_26   w'  ).mono ?_; rintro e w5 ⟨y0, rfl, u0, hb⟩; obtain ⟨rfl, rfl⟩ := hl1.out; have u0_0 := u0; obtain ⟨p_u0, l_u0, c_u0, q_u0, m_u0, d_u0, rfl, u0_1, u0_2⟩ := u0; exact ⟨_, rfl, (⟨⟨p_u0, l_u0, c_u0⟩, ⟨q_u0, m_u0, d_u0⟩⟩ : Duo Sl Sl), rfl, hb, .cons (fun w2 h2 => u0_0.below h2) (.cons (fun w2 h2 => u0_1.below h2) (.cons (fun w2 h2 => u0_2.below h2) (Lasts.nil _)))⟩
  intro sv1
  simp only [Act.put, pA, pB, pC, pD, pE]
  iterate 3 (apply txF (wants0 rfl); (· intro w' hK; go_simp; (try go_bits); exact ⟨rfl, rfl⟩); simp only [Act.put, pA, pB, pC])
  apply txA (.cells #[.bool false, .slice none 0 0, .slice none 0 0] 29) (wants0 rfl)
  · intro w' hK; go_simp; rfl
  intro R2 q_R2
  clear q_R2
  simp only [mkOf, Act.put, pA, pB, pC]
  apply txU 0 (Has w.heap.size R2 (.cells #[.bool (isN ((1 / 3 : Rat))), .slice sv1.a.p sv1.a.l sv1.a.c, .slice sv1.b.p sv1.b.l sv1.b.c] 29)) (wants0 rfl)
  · intro l1 hl1 w' hK; have k_R2 := (hK.get m0); have ⟨c_R2_0, c_R2_1, c_R2_2⟩ := k_R2.c3; have f_R2 := k_R2.fz; have ni := noInt_of k_R2 nofun; go_simp; obtain rfl := hl1.out; exact ⟨rfl, ks_put (R := R2) hK k_R2.1 0 [.bool (isN ((1 / 3 : Rat))), .slice sv1.a.p sv1.a.l sv1.a.c, .slice sv1.b.p sv1.b.l sv1.b.c] (al1 (fun _ => has_put k_R2 _ _) (al1 (spQ ni (hK.get m1)) (al1 (spN ni (hK.get m2)) (al1 (spN ni (hK.get m3)) aN))))⟩
  simp only [Act.put, pB]
  apply txF (wants0 rfl); (· intro w' hK; go_simp; (try go_bits); exact ⟨rfl, rfl⟩); simp only [Act.put, pA, pB, pC]
  refine txEnd (fun W3 hK => ?_)
  go_upto_region 2 with (fail)
  refine wp_region_tx w hK ?_
  clear hK
  apply txE (α := Duo Sl Sl) (fun sv => .tuple #[.agg #[.bool (isN ((1 / 2 : Rat))), .slice sv.a.p sv.a.l sv.a.c, .slice sv.b.p sv.b.l sv.b.c], .int .i64 0]) (fun sv => [fun w => RatV w (.agg #[.bool (isN ((1 / 2 : Rat))), .slice sv.a.p sv.a.l sv.a.c, .slice sv.b.p sv.b.l sv.b.c]) ((1 / 2 : Rat)), fun w => NatV w (.agg #[.slice sv.a.p sv.a.l sv.a.c]) (((1 / 2 : Rat)).num.natAbs), fun w => NatV w (.agg #[.slice sv.b.p sv.b.l sv.b.c]) (den0 ((1 / 2 : Rat)))]) (wants0 rfl)
  · intro f1 l1 hl1 w' hK; go_simp; (try go_bits); refine (qof_12   w'  ).mono ?_; rintro e w5 ⟨y0, rfl, u0, hb⟩; obtain ⟨rfl, rfl⟩ := hl1.out; have u0_0 := u0; obtain ⟨p_u0, l_u0, c_u0, q_u0, m_u0, d_u0, rfl, u0_1, u0_2⟩ := u0; exact ⟨_, rfl, (⟨⟨p_u0, l_u0, c_u0⟩, ⟨q_u0, m_u0, d_u0⟩⟩ : Duo Sl Sl), rfl, hb, .cons (fun w2 h2 => u0_0.below h2) (.cons (fun w2 h2 => u0_1.below h2) (.cons (fun w2 h2 => u0_2.below h2) (Lasts.nil _)))⟩
  intro sv4
  simp only [Act.put, pA, pB, pC, pD, pE]
  iterate 3 (apply txF (wants0 rfl); (· intro w' hK; go_simp; (try go_bits); exact ⟨rfl, rfl⟩); simp only [Act.put, pA, pB, pC])
  apply txA (.cells #[.bool false, .slice none 0 0, .slice none 0 0] 29) (wants0 rfl)
  · intro w' hK; go_simp; rfl
  intro R5 q_R5
  have o_R2_R5 : R2 < R5 := q_R5 _ _ _ m3
  clear q_R5
  simp only [mkOf, Act.put, pA, pB, pC]
  apply txU 0 (Has w.heap.size R5 (.cells #[.bool (isN ((1 / 2 : Rat))), .slice sv4.a.p sv4.a.l sv4.a.c, .slice sv4.b.p sv4.b.l sv4.b.c] 29)) (wants0 rfl)
  · intro l1 hl1 w' hK; have k_R5 := (hK.get m0); have ⟨c_R5_0, c_R5_1, c_R5_2⟩ := k_R5.c3; have f_R5 := k_R5.fz; have ni := noInt_of k_R5 nofun; go_simp; obtain rfl := hl1.out; exact ⟨rfl, ks_put (R := R5) hK k_R5.1 0 [.bool (isN ((1 / 2 : Rat))), .slice sv4.a.p sv4.a.l sv4.a.c, .slice sv4.b.p sv4.b.l sv4.b.c] (al1 (fun _ => has_put k_R5 _ _) (al1 (spQ ni (hK.get m1)) (al1 (spN ni (hK.get m2)) (al1 (spN ni (hK.get m3)) (al1 (spL o_R2_R5 (hK.get m4)) (al1 (spQ ni (hK.get m5)) (al1 (spN ni (hK.get m6)) (al1 (spN ni (hK.get m7)) aN))))))))⟩
  simp only [Act.put, pB]
  apply txF (wants0 rfl); (· intro w' hK; go_simp; (try go_bits); exact ⟨rfl, rfl⟩); simp only [Act.put, pA, pB, pC]
  refine txEnd (fun W6 hK => ?_)
  go_upto_region 3 with (fail)
  refine wp_region_tx w hK ?_
  clear hK
  apply txE (α := Duo Sl Sl) (fun sv => .tuple #[.agg #[.bool (isN ((-7 / 2 : Rat))), .slice sv.a.p sv.a.l sv.a.c, .slice sv.b.p sv.b.l sv.b.c], .int .i64 0]) (fun sv => [fun w => RatV w (.agg #[.bool (isN ((-7 / 2 : Rat))), .slice sv.a.p sv.a.l sv.a.c, .slice sv.b.p sv.b.l sv.b.c]) ((-7 / 2 : Rat)), fun w => NatV w (.agg #[.slice sv.a.p sv.a.l sv.a.c]) (((-7 / 2 : Rat)).num.natAbs), fun w => NatV w (.agg #[.slice sv.b.p sv.b.l sv.b.c]) (den0 ((-7 / 2 : Rat)))]) (wants0 rfl)
  · intro f1 l1 hl1 w' hK; go_simp; (try go_bits); refine (qparse_72   w' (hB0.below hK.old) ).mono ?_; rintro e w5 ⟨y0, rfl, u0, hb⟩; obtain ⟨rfl, rfl⟩ := hl1.out; have u0_0 := u0; obtain ⟨p_u0, l_u0, c_u0, q_u0, m_u0, d_u0, rfl, u0_1, u0_2⟩ := u0; exact ⟨_, rfl, (⟨⟨p_u0, l_u0, c_u0⟩, ⟨q_u0, m_u0, d_u0⟩⟩ : Duo Sl Sl), rfl, hb, .cons (fun w2 h2 => u0_0.below h2) (.cons (fun w2 h2 => u0_1.below h2) (.cons (fun w2 h2 => u0_2.below h2) (Lasts.nil _)))⟩
  intro sv7
  simp only [Act.put, pA, pB, pC, pD, pE]
  iterate 3 (apply txF (wants0 rfl); (· intro w' hK; go_simp; (try go_bits); exact ⟨rfl, rfl⟩); simp only [Act.put, pA, pB, pC])
  apply txA (.cells #[.bool false, .slice none 0 0, .slice none 0 0] 29) (wants0 rfl)
  · intro w' hK; go_simp; rfl
  intro R8 q_R8
  have o_R2_R8 : R2 < R8 := q_R8 _ _ _ m7
  have o_R5_R8 : R5 < R8 := q_R8 _ _ _ m3
  clear q_R8
  simp only [mkOf, Act.put, pA, pB, pC]
  apply txU 0 (Has w.heap.size R8 (.cells #[.bool (isN ((-7 / 2 : Rat))), .slice sv7.a.p sv7.a.l sv7.a.c, .slice sv7.b.p sv7.b.l sv7.b.c] 29)) (wants0 rfl)
  · intro l1 hl1 w' hK; have k_R8 := (hK.get m0); have ⟨c_R8_0, c_R8_1, c_R8_2⟩ := k_R8.c3; have f_R8 := k_R8.fz; have ni := noInt_of k_R8 nofun; go_simp; obtain rfl := hl1.out; exact ⟨rfl, ks_put (R := R8) hK k_R8.1 0 [.bool (isN ((-7 / 2 : Rat))), .slice sv7.a.p sv7.a.l sv7.a.c, .slice sv7.b.p sv7.b.l sv7.b.c] (al1 (fun _ => has_put k_R8 _ _) (al1 (spQ ni (hK.get m1)) (al1 (spN ni (hK.get m2)) (al1 (spN ni (hK.get m3)) (al1 (spL o_R5_R8 (hK.get m4)) (al1 (spQ ni (hK.get m5)) (al1 (spN ni (hK.get m6)) (al1 (spN ni (hK.get m7)) (al1 (spL o_R2_R8 (hK.get m8)) (al1 (spQ ni (hK.get m9)) (al1 (spN ni (hK.get m10)) (al1 (spN ni (hK.get m11)) aN))))))))))))⟩
  simp only [Act.put, pB]
  apply txF (wants0 rfl); (· intro w' hK; go_simp; (try go_bits); exact ⟨rfl, rfl⟩); simp only [Act.put, pA, pB, pC]
  refine txEnd (fun W9 hK => ?_)
  go_upto_region 4 with (fail)
  refine wp_region_tx w hK ?_
  clear hK
  apply txE (α := Duo Sl Sl) (fun sv => .tuple #[.agg #[.bool (isN ((0 : Rat))), .slice sv.a.p sv.a.l sv.a.c, .slice sv.b.p sv.b.l sv.b.c], .int .i64 10]) (fun sv => [fun w => RatV w (.agg #[.bool (isN ((0 : Rat))), .slice sv.a.p sv.a.l sv.a.c, .slice sv.b.p sv.b.l sv.b.c]) ((0 : Rat)), fun w => NatV w (.agg #[.slice sv.a.p sv.a.l sv.a.c]) (((0 : Rat)).num.natAbs), fun w => NatV w (.agg #[.slice sv.b.p sv.b.l sv.b.c]) (den0 ((0 : Rat)))]) (wants0 rfl)
  · intro f1 l1 hl1 w' hK; go_simp; (try go_bits); refine (qparse_10   w' (hB0.below hK.old) ).mono ?_; rintro e w5 ⟨y0, rfl, u0, hb⟩; obtain ⟨rfl, rfl⟩ := hl1.out; have u0_0 := u0; obtain ⟨p_u0, l_u0, c_u0, q_u0, m_u0, d_u0, rfl, u0_1, u0_2⟩ := u0; exact ⟨_, rfl, (⟨⟨p_u0, l_u0, c_u0⟩, ⟨q_u0, m_u0, d_u0⟩⟩ : Duo Sl Sl), rfl, hb, .cons (fun w2 h2 => u0_0.below h2) (.cons (fun w2 h2 => u0_1.below h2) (.cons (fun w2 h2 => u0_2.below h2) (Lasts.nil _)))⟩
  intro sv10
  simp only [Act.put, pA, pB, pC, pD, pE]
  iterate 3 (apply txF (wants0 rfl); (· intro w' hK; go_simp; (try go_bits); exact ⟨rfl, rfl⟩); simp only [Act.put, pA, pB, pC])
  apply txA (.cells #[.bool false, .slice none 0 0, .slice none 0 0] 29) (wants0 rfl)
  · intro w' hK; go_simp; rfl
  intro R11 q_R11
  have o_R2_R11 : R2 < R11 := q_R11 _ _ _ m11
  have o_R5_R11 : R5 < R11 := q_R11 _ _ _ m7
  have o_R8_R11 : R8 < R11 := q_R11 _ _ _ m3
  clear q_R11
  simp only [mkOf, Act.put, pA, pB, pC]
  apply txU 0 (Has w.heap.size R11 (.cells #[.bool (isN ((0 : Rat))), .slice sv10.a.p sv10.a.l sv10.a.c, .slice sv10.b.p sv10.b.l sv10.b.c] 29)) (wants0 rfl)
  · intro l1 hl1 w' hK; have k_R11 := (hK.get m0); have ⟨c_R11_0, c_R11_1, c_R11_2⟩ := k_R11.c3; have f_R11 := k_R11.fz; have ni := noInt_of k_R11 nofun; go_simp; obtain rfl := hl1.out; exact ⟨rfl, ks_put (R := R11) hK k_R11.1 0 [.bool (isN ((0 : Rat))), .slice sv10.a.p sv10.a.l sv10.a.c, .slice sv10.b.p sv10.b.l sv10.b.c] (al1 (fun _ => has_put k_R11 _ _) (al1 (spQ ni (hK.get m1)) (al1 (spN ni (hK.get m2)) (al1 (spN ni (hK.get m3)) (al1 (spL o_R8_R11 (hK.get m4)) (al1 (spQ ni (hK.get m5)) (al1 (spN ni (hK.get m6)) (al1 (spN ni (hK.get m7)) (al1 (spL o_R5_R11 (hK.get m8)) (al1 (spQ ni (hK.get m9)) (al1 (spN ni (hK.get m10)) (al1 (spN ni (hK.get m11)) (al1 (spL o_R2_R11 (hK.get m12)) (al1 (spQ ni (hK.get m13)) (al1 (spN ni (hK.get m14)) (al1 (spN ni (hK.get m15)) aN))))))))))))))))⟩
  simp only [Act.put, pB]
  apply txF (wants0 rfl); (· intro w' hK; go_simp; (try go_bits); exact ⟨rfl, rfl⟩); simp only [Act.put, pA, pB, pC]
  refine txEnd (fun W12 hK => ?_)
  go_upto_region 5 with (fail)
  refine wp_region_tx w hK ?_
  clear hK
  iterate 3 (apply txF (wants0 rfl); (· intro w' hK; go_simp; (try go_bits); exact ⟨rfl, rfl⟩); simp only [Act.put, pA, pB, pC])
  iterate 2 (apply txF (wantsg (j := 2) (d := 27) (b := true) rfl rfl rfl rfl); (· intro w' hK; go_simp; (try go_bits); exact ⟨rfl, rfl⟩); simp only [Act.put, pA, pB, pC])
  iterate 2 (apply txF (wants0 rfl); (· intro w' hK; go_simp; (try go_bits); exact ⟨rfl, rfl⟩); simp only [Act.put, pA, pB, pC])
  iterate 2 (apply txF (wantsg (j := 6) (d := 31) (b := true) rfl rfl rfl rfl); (· intro w' hK; go_simp; (try go_bits); exact ⟨rfl, rfl⟩); simp only [Act.put, pA, pB, pC])
  iterate 2 (apply txF (wants0 rfl); (· intro w' hK; go_simp; (try go_bits); exact ⟨rfl, rfl⟩); simp only [Act.put, pA, pB, pC])
  iterate 2 (apply txF (wantsg (j := 10) (d := 35) (b := true) rfl rfl rfl rfl); (· intro w' hK; go_simp; (try go_bits); exact ⟨rfl, rfl⟩); simp only [Act.put, pA, pB, pC])
  iterate 2 (apply txF (wants0 rfl); (· intro w' hK; go_simp; (try go_bits); exact ⟨rfl, rfl⟩); simp only [Act.put, pA, pB, pC])
  apply txF (wantsg (j := 14) (d := 39) (b := true) rfl rfl rfl rfl); (· intro w' hK; have k_R2 := (hK.get m12); have ⟨c_R2_0, c_R2_1, c_R2_2⟩ := k_R2.c3; go_simp; (try go_bits); exact ⟨rfl, rfl⟩); simp only [Act.put, pA, pB, pC]
  apply txF (wantsg (j := 14) (d := 39) (b := true) rfl rfl rfl rfl); (· intro w' hK; have k_R5 := (hK.get m8); have ⟨c_R5_0, c_R5_1, c_R5_2⟩ := k_R5.c3; go_simp; (try go_bits); exact ⟨rfl, rfl⟩); simp only [Act.put, pA, pB, pC]
  apply txE (α := Duo Sl Sl) (fun sv => .agg #[.bool (isN (((1 / 3 : Rat)) - ((1 / 2 : Rat)))), .slice sv.a.p sv.a.l sv.a.c, .slice sv.b.p sv.b.l sv.b.c]) (fun sv => [fun w => RatV w (.agg #[.bool (isN (((1 / 3 : Rat)) - ((1 / 2 : Rat)))), .slice sv.a.p sv.a.l sv.a.c, .slice sv.b.p sv.b.l sv.b.c]) (((1 / 3 : Rat)) - ((1 / 2 : Rat))), fun w => NatV w (.agg #[.slice sv.a.p sv.a.l sv.a.c]) ((((1 / 3 : Rat)) - ((1 / 2 : Rat))).num.natAbs), fun w => NatV w (.agg #[.slice sv.b.p sv.b.l sv.b.c]) (den0 (((1 / 3 : Rat)) - ((1 / 2 : Rat))))]) (wantsg (j := 14) (d := 39) (b := true) rfl rfl rfl rfl)
  · intro f1 l1 hl1 w' hK; go_simp; (try go_bits); refine (qsub_any (.agg #[.bool (isN ((1 / 3 : Rat))), .slice sv1.a.p sv1.a.l sv1.a.c, .slice sv1.b.p sv1.b.l sv1.b.c]) (.agg #[.bool (isN ((1 / 2 : Rat))), .slice sv4.a.p sv4.a.l sv4.a.c, .slice sv4.b.p sv4.b.l sv4.b.c]) ((1 / 3 : Rat)) ((1 / 2 : Rat)) w' (hK.get m13) (hK.get m9) (LmQ.up (b := 1000) aw_a (by decide)) (LmQ.up (b := 1000) aw_b (by decide)) (by decide)).mono ?_; rintro e w5 ⟨y0, rfl, u0, hb⟩; obtain ⟨rfl, rfl⟩ := hl1.out; have u0_0 := u0; obtain ⟨p_u0, l_u0, c_u0, q_u0, m_u0, d_u0, rfl, u0_1, u0_2⟩ := u0; exact ⟨_, rfl, (⟨⟨p_u0, l_u0, c_u0⟩, ⟨q_u0, m_u0, d_u0⟩⟩ : Duo Sl Sl), rfl, hb, .cons (fun w2 h2 => u0_0.below h2) (.cons (fun w2 h2 => u0_1.below h2) (.cons (fun w2 h2 => u0_2.below h2) (Lasts.nil _)))⟩
  intro sv13
  simp only [Act.put, pA, pB, pC, pD, pE]
  apply txH (v := .string ⟨(textQ (((1 / 3 : Rat)) - ((1 / 2 : Rat)))).toArray⟩) (wantsg (j := 14) (d := 39) (b := true) rfl rfl rfl rfl)
  · intro v1 hv1 w' hK; go_simp; (try go_bits); refine (qtext_q (.agg #[.bool (isN (((1 / 3 : Rat)) - ((1 / 2 : Rat)))), .slice sv13.a.p sv13.a.l sv13.a.c, .slice sv13.b.p sv13.b.l sv13.b.c]) (((1 / 3 : Rat)) - ((1 / 2 : Rat))) w' (hK.get m0) (hB0.below hK.old) (LmQ.up (b := 1000) (LmQ.sub aw_a aw_b) (by decide)) (by decide)).mono ?_; rintro e w5 ⟨rfl, hb⟩; obtain rfl := hv1.out; exact ⟨_, rfl, rfl, hb⟩
  simp only [Act.put, pA, pB, pC]
  apply txF (v := .bool true) (wantsg (j := 14) (d := 39) (b := true) rfl rfl rfl rfl); (· intro w' hK; go_simp; (try go_bits); exact ⟨congrArg Value.bool (by rw [aw_t1]; simp), rfl⟩); simp only [Act.put, pA, pB, pC]
  iterate 2 (apply txF (wants0 rfl); (· intro w' hK; go_simp; (try go_bits); exact ⟨rfl, rfl⟩); simp only [Act.put, pA, pB, pC])
  apply txF (wantsg (j := 21) (d := 46) (b := true) rfl rfl rfl rfl); (· intro w' hK; have k_R8 := (hK.get m7); have ⟨c_R8_0, c_R8_1, c_R8_2⟩ := k_R8.c3; go_simp; (try go_bits); exact ⟨rfl, rfl⟩); simp only [Act.put, pA, pB, pC]
  apply txE (α := Duo Sl Sl) (fun sv => .agg #[.bool (isN (floorQ ((-7 / 2 : Rat)))), .slice sv.a.p sv.a.l sv.a.c, .slice sv.b.p sv.b.l sv.b.c]) (fun sv => [fun w => RatV w (.agg #[.bool (isN (floorQ ((-7 / 2 : Rat)))), .slice sv.a.p sv.a.l sv.a.c, .slice sv.b.p sv.b.l sv.b.c]) (floorQ ((-7 / 2 : Rat))), fun w => NatV w (.agg #[.slice sv.a.p sv.a.l sv.a.c]) ((floorQ ((-7 / 2 : Rat))).num.natAbs), fun w => NatV w (.agg #[.slice sv.b.p sv.b.l sv.b.c]) (den0 (floorQ ((-7 / 2 : Rat))))]) (wantsg (j := 21) (d := 46) (b := true) rfl rfl rfl rfl)
  · intro f1 l1 hl1 w' hK; go_simp; (try go_bits); refine (qfloor_any (.agg #[.bool (isN ((-7 / 2 : Rat))), .slice sv7.a.p sv7.a.l sv7.a.c, .slice sv7.b.p sv7.b.l sv7.b.c]) ((-7 / 2 : Rat)) w' (hK.get m8) (LmQ.up (b := 1000) aw_c (by decide)) (by decide)).mono ?_; rintro e w5 ⟨y0, rfl, u0, hb⟩; obtain ⟨rfl, rfl⟩ := hl1.out; have u0_0 := u0; obtain ⟨p_u0, l_u0, c_u0, q_u0, m_u0, d_u0, rfl, u0_1, u0_2⟩ := u0; exact ⟨_, rfl, (⟨⟨p_u0, l_u0, c_u0⟩, ⟨q_u0, m_u0, d_u0⟩⟩ : Duo Sl Sl), rfl, hb, .cons (fun w2 h2 => u0_0.below h2) (.cons (fun w2 h2 => u0_1.below h2) (.cons (fun w2 h2 => u0_2.below h2) (Lasts.nil _)))⟩
  intro sv14
  simp only [Act.put, pA, pB, pC, pD, pE]
  apply txH (v := .string ⟨(textQ (floorQ ((-7 / 2 : Rat)))).toArray⟩) (wantsg (j := 21) (d := 46) (b := true) rfl rfl rfl rfl)
  · intro v1 hv1 w' hK; go_simp; (try go_bits); refine (qtext_q (.agg #[.bool (isN (floorQ ((-7 / 2 : Rat)))), .slice sv14.a.p sv14.a.l sv14.a.c, .slice sv14.b.p sv14.b.l sv14.b.c]) (floorQ ((-7 / 2 : Rat))) w' (hK.get m0) (hB0.below hK.old) (LmQ.up (b := 1000) (LmQ.floor aw_c) (by decide)) (by decide)).mono ?_; rintro e w5 ⟨rfl, hb⟩; obtain rfl := hv1.out; exact ⟨_, rfl, rfl, hb⟩
  simp only [Act.put, pA, pB, pC]
  apply txF (v := .bool true) (wantsg (j := 21) (d := 46) (b := true) rfl rfl rfl rfl); (· intro w' hK; go_simp; (try go_bits); exact ⟨congrArg Value.bool (by rw [aw_t4]; simp), rfl⟩); simp only [Act.put, pA, pB, pC]
  iterate 2 (apply txF (wants0 rfl); (· intro w' hK; go_simp; (try go_bits); exact ⟨rfl, rfl⟩); simp only [Act.put, pA, pB, pC])
  apply txF (wantsg (j := 27) (d := 52) (b := true) rfl rfl rfl rfl); (· intro w' hK; have k_R8 := (hK.get m10); have ⟨c_R8_0, c_R8_1, c_R8_2⟩ := k_R8.c3; go_simp; (try go_bits); exact ⟨rfl, rfl⟩); simp only [Act.put, pA, pB, pC]
  apply txE (α := Duo Sl Sl) (fun sv => .agg #[.bool (isN (-floorQ (-((-7 / 2 : Rat))))), .slice sv.a.p sv.a.l sv.a.c, .slice sv.b.p sv.b.l sv.b.c]) (fun sv => [fun w => RatV w (.agg #[.bool (isN (-floorQ (-((-7 / 2 : Rat))))), .slice sv.a.p sv.a.l sv.a.c, .slice sv.b.p sv.b.l sv.b.c]) (-floorQ (-((-7 / 2 : Rat)))), fun w => NatV w (.agg #[.slice sv.a.p sv.a.l sv.a.c]) ((-floorQ (-((-7 / 2 : Rat)))).num.natAbs), fun w => NatV w (.agg #[.slice sv.b.p sv.b.l sv.b.c]) (den0 (-floorQ (-((-7 / 2 : Rat)))))]) (wantsg (j := 27) (d := 52) (b := true) rfl rfl rfl rfl)
  · intro f1 l1 hl1 w' hK; go_simp; (try go_bits); refine (qceil_any (.agg #[.bool (isN ((-7 / 2 : Rat))), .slice sv7.a.p sv7.a.l sv7.a.c, .slice sv7.b.p sv7.b.l sv7.b.c]) ((-7 / 2 : Rat)) w' (hK.get m11) (LmQ.up (b := 1000) aw_c (by decide)) (by decide)).mono ?_; rintro e w5 ⟨y0, rfl, u0, hb⟩; obtain ⟨rfl, rfl⟩ := hl1.out; have u0_0 := u0; obtain ⟨p_u0, l_u0, c_u0, q_u0, m_u0, d_u0, rfl, u0_1, u0_2⟩ := u0; exact ⟨_, rfl, (⟨⟨p_u0, l_u0, c_u0⟩, ⟨q_u0, m_u0, d_u0⟩⟩ : Duo Sl Sl), rfl, hb, .cons (fun w2 h2 => u0_0.below h2) (.cons (fun w2 h2 => u0_1.below h2) (.cons (fun w2 h2 => u0_2.below h2) (Lasts.nil _)))⟩
  intro sv15
  simp only [Act.put, pA, pB, pC, pD, pE]
  apply txH (v := .string ⟨(textQ (-floorQ (-((-7 / 2 : Rat))))).toArray⟩) (wantsg (j := 27) (d := 52) (b := true) rfl rfl rfl rfl)
  · intro v1 hv1 w' hK; go_simp; (try go_bits); refine (qtext_q (.agg #[.bool (isN (-floorQ (-((-7 / 2 : Rat))))), .slice sv15.a.p sv15.a.l sv15.a.c, .slice sv15.b.p sv15.b.l sv15.b.c]) (-floorQ (-((-7 / 2 : Rat)))) w' (hK.get m0) (hB0.below hK.old) (LmQ.up (b := 1000) (LmQ.neg (LmQ.floor (LmQ.neg aw_c))) (by decide)) (by decide)).mono ?_; rintro e w5 ⟨rfl, hb⟩; obtain rfl := hv1.out; exact ⟨_, rfl, rfl, hb⟩
  simp only [Act.put, pA, pB, pC]
  apply txF (v := .bool true) (wantsg (j := 27) (d := 52) (b := true) rfl rfl rfl rfl); (· intro w' hK; go_simp; (try go_bits); exact ⟨congrArg Value.bool (by rw [aw_t5]; simp), rfl⟩); simp only [Act.put, pA, pB, pC]
  apply txF (wants0 rfl); (· intro w' hK; go_simp; (try go_bits); exact ⟨rfl, rfl⟩); simp only [Act.put, pA, pB, pC]
  apply txF (wants0 rfl); (· intro w' hK; go_simp; (try go_bits); exact ⟨rfl, rfl⟩); simp only [Act.put, pA, pB]
  refine txEnd (fun W16 hK => ?_)
  go_wp2
  try go_ret
  show Q0 (.returned (.bool true)) _
  exact (by obtain rfl := hQ0.out; exact ⟨rfl, hK.old⟩)
end Go.Proofs.YtiilkcdefpmimaaGreatDoor
