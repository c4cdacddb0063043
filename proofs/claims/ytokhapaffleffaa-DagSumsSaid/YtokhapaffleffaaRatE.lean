/- Rational numbers of the program: reducing a quotient, making numbers. -/
import Derived.Test.YtokhapaffleffaaTx
import Derived.Test.YtokhapaffleffaaRatX
namespace Go.Proofs.Ytokhapaffleffaa
open Go.RowKit
open Go.Lib (decDigits)
theorem ofS_n0 (s : Bool) {n d : Nat} (h : (n == 0) = true) : ofS s n 1 = ofS s n d := by
  have : n = 0 := by simpa using h
  rw [this, ofS_zero, ofS_zero]
theorem ofS_d1 (s : Bool) {n d : Nat} (h : (d == 1) = true) : ofS s n 1 = ofS s n d := by
  have : d = 1 := by simpa using h
  rw [this]
theorem ofS_g1 (s : Bool) {n d : Nat} (hd : d ≠ 0) (h : (d / Nat.gcd n d == 1) = true) : ofS s (n / Nat.gcd n d) 1 = ofS s n d := by
  have : d / Nat.gcd n d = 1 := by simpa using h
  have e := ofS_div s n hd
  rwa [this] at e
theorem made_b (s : Bool) {n : Nat} (h : (n == 0) = false) : s = (s && decide (n ≠ 0)) := by
  have : n ≠ 0 := by simpa using h
  simp [this]
theorem made_1 {n d : Nat} (h : (Nat.gcd n d == 1) = true) : n = n / Nat.gcd n d := by
  have : Nat.gcd n d = 1 := by simpa using h
  rw [this, Nat.div_one]
theorem made_2 {n d : Nat} (h : (Nat.gcd n d == 1) = true) (h' : (d == 1) = false) : d = if d / Nat.gcd n d = 1 then 0 else d / Nat.gcd n d := by
  have : Nat.gcd n d = 1 := by simpa using h
  have h2 : d ≠ 1 := by simpa using h'
  rw [this, Nat.div_one, if_neg h2]
theorem made_3 {n d : Nat} (h' : (d / Nat.gcd n d == 1) = false) : d / Nat.gcd n d = if d / Nat.gcd n d = 1 then 0 else d / Nat.gcd n d := by
  have h2 : d / Nat.gcd n d ≠ 1 := by simpa using h'
  rw [if_neg h2]
set_option maxRecDepth 100000 in
theorem reduced_any (v1 : Value) (v2 : Value) (s : Bool) (n : Nat) (d : Nat) (w : World) (h1 : NatV w v1 n) (h2 : NatV w v2 d) (hd0 : d ≠ 0) (l1 : (digs B32 n).length ≤ 50000) (l2 : (digs B32 d).length ≤ 50000) :
    Calls Try.prog 30 #[.bool s, v1, v2] w fun e w' => ∃ y0, e = .returned y0 ∧ RatV w' y0 (ofS s n d) ∧ Below w.heap.size w w' := by
  obtain ⟨p_h1, c_h1, rfl, _⟩ := h1.digp
  obtain ⟨p_h2, c_h2, rfl, _⟩ := h2.digp
  have hK : KS w [fun w => NatV w (.agg #[.slice p_h2 (digs B32 d).length c_h2]) d, fun w => NatV w (.agg #[.slice p_h1 (digs B32 n).length c_h1]) n] w := (KS.add (KS.add (KS.start w) (fun w' hb => h1.below hb)) (fun w' hb => h2.below hb))
  have l3 : (digs B32 (Nat.gcd n d)).length ≤ 50000 := dlen_gcd n hd0 l2
  refine Calls.hide (fun Q0 hQ0 => ?_)
  go_enter Try.func30, Try.ntmps30
  go_upto_region 0 with (fail)
  refine wp_region_tx w hK ?_
  clear hK
  apply txA (.cells #[.slice p_h1 (digs B32 n).length c_h1] 45) (wants0 rfl)
  · intro w' hK; go_simp; rfl
  intro R1 q_R1
  clear q_R1
  simp only [mkOf, Act.put, pA, pB, pC]
  apply txA (.cells #[.slice p_h2 (digs B32 d).length c_h2] 45) (wants0 rfl)
  · intro w' hK; go_simp; rfl
  intro R2 q_R2
  have o_R1_R2 : R1 < R2 := q_R2 _ _ _ m0
  clear q_R2
  simp only [mkOf, Act.put, pA, pB, pC]
  apply txA (.cells #[.bool false, .slice none 0 0, .slice none 0 0] 47) (wants0 rfl)
  · intro w' hK; go_simp; rfl
  intro R3 q_R3
  have o_R1_R3 : R1 < R3 := q_R3 _ _ _ m1
  have o_R2_R3 : R2 < R3 := q_R3 _ _ _ m0
  clear q_R3
  simp only [mkOf, Act.put, pA, pB, pC]
  refine txEnd (fun W4 hK => ?_)
  go_upto_region 1 with (fail)
  refine wp_region_tx w hK ?_
  clear hK
  apply txF (wants0 rfl); (· intro w' hK; have k_R1 := (hK.get m2); have c_R1_0 := k_R1.at 0 rfl; go_simp; (try go_bits); exact ⟨rfl, rfl⟩); simp only [Act.put, pA, pB, pC]
  obtain ⟨b1, hb1⟩ : ∃ b : Bool, RowKit.Hid ((n == 0) = b) := ⟨_, hid rfl⟩
  apply txH (v := .bool b1) (wants0 rfl)
  · intro v1 hv1 w' hK; go_simp; (try go_bits); refine (isZero_any (.agg #[.slice p_h1 (digs B32 n).length c_h1]) n w' (hK.get m4) ).mono ?_; rintro e w5 ⟨rfl, hb⟩; obtain rfl := hv1.out; exact ⟨_, rfl, (by rw [hb1.out]), hb⟩
  simp only [Act.put, pA, pB, pC]
  apply txF (wants0 rfl); (· intro w' hK; go_simp; (try go_bits); exact ⟨rfl, rfl⟩); simp only [Act.put, pA, pB, pC]
  cases b1
  · --
   apply txF (wantsg (j := 2) (d := 10) (b := false) rfl rfl rfl rfl); (· intro w' hK; have k_R2 := (hK.get m1); have c_R2_0 := k_R2.at 0 rfl; go_simp; (try go_bits); exact ⟨rfl, rfl⟩); simp only [Act.put, pA, pB, pC]
   obtain ⟨b2, hb2⟩ : ∃ b : Bool, RowKit.Hid ((d == 1) = b) := ⟨_, hid rfl⟩
   apply txH (v := .bool b2) (wantsg (j := 2) (d := 10) (b := false) rfl rfl rfl rfl)
   · intro v1 hv1 w' hK; go_simp; (try go_bits); refine (one_any (.agg #[.slice p_h2 (digs B32 d).length c_h2]) d w' (hK.get m3) ).mono ?_; rintro e w5 ⟨rfl, hb⟩; obtain rfl := hv1.out; exact ⟨_, rfl, (by rw [hb2.out]), hb⟩
   simp only [Act.put, pA, pB, pC]
   apply txF (wants0 rfl); (· intro w' hK; go_simp; (try go_bits); exact ⟨rfl, rfl⟩); simp only [Act.put, pA, pB, pC]
   refine txEnd (fun W5 hK => ?_)
   cases b2
   · --
    go_upto_region 3 with (fail)
    refine wp_region_tx w hK ?_
    clear hK
    apply txF (wants0 rfl); (· intro w' hK; have k_R1 := (hK.get m2); have c_R1_0 := k_R1.at 0 rfl; go_simp; (try go_bits); exact ⟨rfl, rfl⟩); simp only [Act.put, pA, pB, pC]
    apply txF (wants0 rfl); (· intro w' hK; have k_R2 := (hK.get m1); have c_R2_0 := k_R2.at 0 rfl; go_simp; (try go_bits); exact ⟨rfl, rfl⟩); simp only [Act.put, pA, pB, pC]
    apply txE (α := Sl) (fun sv => .agg #[.slice sv.p sv.l sv.c]) (fun sv => [fun w => NatV w (.agg #[.slice sv.p sv.l sv.c]) (Nat.gcd n d)]) (wants0 rfl)
    · intro f1 l1 hl1 w' hK; go_simp; (try go_bits); refine (gcd_any (.agg #[.slice p_h1 (digs B32 n).length c_h1]) (.agg #[.slice p_h2 (digs B32 d).length c_h2]) n d w' (hK.get m4) (hK.get m3) (by omega) (by omega)).mono ?_; rintro e w5 ⟨y0, rfl, u0, hb⟩; obtain ⟨rfl, rfl⟩ := hl1.out; obtain ⟨p_u0, c_u0, rfl, _⟩ := u0.digp; exact ⟨_, rfl, (⟨p_u0, _, c_u0⟩ : Sl), rfl, hb, .cons (fun w2 h2 => u0.below h2) (Lasts.nil _)⟩
    intro sv6
    simp only [Act.put, pA, pB, pC, pD, pE]
    apply txA (.cells #[.slice none 0 0] 45) (wants0 rfl)
    · intro w' hK; go_simp; rfl
    intro R7 q_R7
    have o_R1_R7 : R1 < R7 := q_R7 _ _ _ m3
    have o_R2_R7 : R2 < R7 := q_R7 _ _ _ m2
    have o_R3_R7 : R3 < R7 := q_R7 _ _ _ m1
    clear q_R7
    simp only [mkOf, Act.put, pA, pB, pC]
    apply txU 0 (Has w.heap.size R7 (.cells #[.slice sv6.p sv6.l sv6.c] 45)) (wants0 rfl)
    · intro l1 hl1 w' hK; have k_R7 := (hK.get m0); have c_R7_0 := k_R7.at 0 rfl; have f_R7 := k_R7.fz; have ni := hdIs_of k_R7; go_simp; obtain rfl := hl1.out; exact ⟨rfl, ks_put (R := R7) hK k_R7.1 0 [.slice sv6.p sv6.l sv6.c] (al1 (fun _ => has_put k_R7 _ _) (al1 (spN (ni.no rfl) (hK.get m1)) (al1 (spL o_R3_R7 (hK.get m2)) (al1 (spL o_R2_R7 (hK.get m3)) (al1 (spL o_R1_R7 (hK.get m4)) (al1 (spN (ni.no rfl) (hK.get m5)) (al1 (spN (ni.no rfl) (hK.get m6)) aN)))))))⟩
    simp only [Act.put, pB]
    refine txEnd (fun W8 hK => ?_)
    go_upto_region 4 with (fail)
    refine wp_region_tx w hK ?_
    clear hK
    apply txF (wants0 rfl); (· intro w' hK; have k_R7 := (hK.get m0); have c_R7_0 := k_R7.at 0 rfl; go_simp; (try go_bits); exact ⟨rfl, rfl⟩); simp only [Act.put, pA, pB, pC]
    obtain ⟨b3, hb3⟩ : ∃ b : Bool, RowKit.Hid (((Nat.gcd n d) == 1) = b) := ⟨_, hid rfl⟩
    apply txH (v := .bool b3) (wants0 rfl)
    · intro v1 hv1 w' hK; go_simp; (try go_bits); refine (one_any (.agg #[.slice sv6.p sv6.l sv6.c]) (Nat.gcd n d) w' (hK.get m1) ).mono ?_; rintro e w5 ⟨rfl, hb⟩; obtain rfl := hv1.out; exact ⟨_, rfl, (by rw [hb3.out]), hb⟩
    simp only [Act.put, pA, pB, pC]
    apply txF (wants0 rfl); (· intro w' hK; go_simp; (try go_bits); exact ⟨rfl, rfl⟩); simp only [Act.put, pA, pB, pC]
    refine txEnd (fun W9 hK => ?_)
    cases b3
    · --
     go_upto_region 5 with (fail)
     refine wp_region_tx w hK ?_
     clear hK
     apply txF (wants0 rfl); (· intro w' hK; have k_R1 := (hK.get m4); have c_R1_0 := k_R1.at 0 rfl; go_simp; (try go_bits); exact ⟨rfl, rfl⟩); simp only [Act.put, pA, pB, pC]
     apply txF (wants0 rfl); (· intro w' hK; have k_R7 := (hK.get m0); have c_R7_0 := k_R7.at 0 rfl; go_simp; (try go_bits); exact ⟨rfl, rfl⟩); simp only [Act.put, pA, pB, pC]
     obtain ⟨z1, hz1⟩ : ∃ b : Int, RowKit.Hid ((errD (Nat.gcd n d)) = b) := ⟨_, hid rfl⟩
     apply txE (α := Duo (Sl) (Sl)) (fun sv => .tuple #[.agg #[.slice sv.a.p sv.a.l sv.a.c], .agg #[.slice sv.b.p sv.b.l sv.b.c], .int .i64 z1]) (fun sv => [fun w => NatV w (.agg #[.slice sv.a.p sv.a.l sv.a.c]) (n / (Nat.gcd n d)), fun w => NatV w (.agg #[.slice sv.b.p sv.b.l sv.b.c]) (rem0 n (Nat.gcd n d))]) (wants0 rfl)
     · intro f1 l1 hl1 w' hK; go_simp; (try go_bits); refine (dm_any (.agg #[.slice p_h1 (digs B32 n).length c_h1]) (.agg #[.slice sv6.p sv6.l sv6.c]) n (Nat.gcd n d) w' (hK.get m6) (hK.get m1) (by omega) (by omega)).mono ?_; rintro e w5 ⟨y0, y1, rfl, u0, u1, hb⟩; obtain ⟨rfl, rfl⟩ := hl1.out; obtain ⟨p_u0, c_u0, rfl, _⟩ := u0.digp; obtain ⟨p_u1, c_u1, rfl, _⟩ := u1.digp; exact ⟨_, rfl, (⟨(⟨p_u0, _, c_u0⟩ : Sl), (⟨p_u1, _, c_u1⟩ : Sl)⟩ : Duo (Sl) (Sl)), (by rw [hz1.out]), hb, .cons (fun w2 h2 => u0.below h2) (.cons (fun w2 h2 => u1.below h2) (Lasts.nil _))⟩
     intro sv10
     simp only [Act.put, pA, pB, pC, pD, pE]
     iterate 4 (apply txF (wants0 rfl); (· intro w' hK; go_simp; (try go_bits); exact ⟨rfl, rfl⟩); simp only [Act.put, pA, pB, pC])
     apply txU 6 (Has w.heap.size R1 (.cells #[.slice sv10.a.p sv10.a.l sv10.a.c] 45)) (wants0 rfl)
     · intro l1 hl1 w' hK; have k_R1 := (hK.get m6); have c_R1_0 := k_R1.at 0 rfl; have f_R1 := k_R1.fz; have ni := hdIs_of k_R1; go_simp; obtain rfl := hl1.out; exact ⟨rfl, ks_put (R := R1) hK k_R1.1 0 [.slice sv10.a.p sv10.a.l sv10.a.c] (al1 (spN (ni.no rfl) (hK.get m0)) (al1 (spN (ni.no rfl) (hK.get m1)) (al1 (spG o_R1_R7 (hK.get m2)) (al1 (spN (ni.no rfl) (hK.get m3)) (al1 (spG o_R1_R3 (hK.get m4)) (al1 (spG o_R1_R2 (hK.get m5)) (al1 (fun _ => has_put k_R1 _ _) (al1 (spN (ni.no rfl) (hK.get m7)) (al1 (spN (ni.no rfl) (hK.get m8)) aN)))))))))⟩
     simp only [Act.put, pB, pC]
     refine txEnd (fun W11 hK => ?_)
     go_upto_region 6 with (fail)
     refine wp_region_tx w hK ?_
     clear hK
     apply txF (wants0 rfl); (· intro w' hK; have k_R2 := (hK.get m5); have c_R2_0 := k_R2.at 0 rfl; go_simp; (try go_bits); exact ⟨rfl, rfl⟩); simp only [Act.put, pA, pB, pC]
     apply txF (wants0 rfl); (· intro w' hK; have k_R7 := (hK.get m2); have c_R7_0 := k_R7.at 0 rfl; go_simp; (try go_bits); exact ⟨rfl, rfl⟩); simp only [Act.put, pA, pB, pC]
     obtain ⟨z2, hz2⟩ : ∃ b : Int, RowKit.Hid ((errD (Nat.gcd n d)) = b) := ⟨_, hid rfl⟩
     apply txE (α := Duo (Sl) (Sl)) (fun sv => .tuple #[.agg #[.slice sv.a.p sv.a.l sv.a.c], .agg #[.slice sv.b.p sv.b.l sv.b.c], .int .i64 z2]) (fun sv => [fun w => NatV w (.agg #[.slice sv.a.p sv.a.l sv.a.c]) (d / (Nat.gcd n d)), fun w => NatV w (.agg #[.slice sv.b.p sv.b.l sv.b.c]) (rem0 d (Nat.gcd n d))]) (wants0 rfl)
     · intro f1 l1 hl1 w' hK; go_simp; (try go_bits); refine (dm_any (.agg #[.slice p_h2 (digs B32 d).length c_h2]) (.agg #[.slice sv6.p sv6.l sv6.c]) d (Nat.gcd n d) w' (hK.get m7) (hK.get m3) (by omega) (by omega)).mono ?_; rintro e w5 ⟨y0, y1, rfl, u0, u1, hb⟩; obtain ⟨rfl, rfl⟩ := hl1.out; obtain ⟨p_u0, c_u0, rfl, _⟩ := u0.digp; obtain ⟨p_u1, c_u1, rfl, _⟩ := u1.digp; exact ⟨_, rfl, (⟨(⟨p_u0, _, c_u0⟩ : Sl), (⟨p_u1, _, c_u1⟩ : Sl)⟩ : Duo (Sl) (Sl)), (by rw [hz2.out]), hb, .cons (fun w2 h2 => u0.below h2) (.cons (fun w2 h2 => u1.below h2) (Lasts.nil _))⟩
     intro sv12
     simp only [Act.put, pA, pB, pC, pD, pE]
     iterate 4 (apply txF (wants0 rfl); (· intro w' hK; go_simp; (try go_bits); exact ⟨rfl, rfl⟩); simp only [Act.put, pA, pB, pC])
     apply txU 7 (Has w.heap.size R2 (.cells #[.slice sv12.a.p sv12.a.l sv12.a.c] 45)) (wants0 rfl)
     · intro l1 hl1 w' hK; have k_R2 := (hK.get m7); have c_R2_0 := k_R2.at 0 rfl; have f_R2 := k_R2.fz; have ni := hdIs_of k_R2; go_simp; obtain rfl := hl1.out; exact ⟨rfl, ks_put (R := R2) hK k_R2.1 0 [.slice sv12.a.p sv12.a.l sv12.a.c] (al1 (spN (ni.no rfl) (hK.get m0)) (al1 (spN (ni.no rfl) (hK.get m1)) (al1 (spN (ni.no rfl) (hK.get m2)) (al1 (spN (ni.no rfl) (hK.get m3)) (al1 (spG o_R2_R7 (hK.get m4)) (al1 (spN (ni.no rfl) (hK.get m5)) (al1 (spG o_R2_R3 (hK.get m6)) (al1 (fun _ => has_put k_R2 _ _) (al1 (spL o_R1_R2 (hK.get m8)) (al1 (spN (ni.no rfl) (hK.get m9)) (al1 (spN (ni.no rfl) (hK.get m10)) aN)))))))))))⟩
     simp only [Act.put, pB, pC]
     refine txEnd (fun W13 hK => ?_)
     go_upto_region 7 with (fail)
     refine wp_region_tx w hK ?_
     clear hK
     apply txF (wants0 rfl); (· intro w' hK; have k_R2 := (hK.get m7); have c_R2_0 := k_R2.at 0 rfl; go_simp; (try go_bits); exact ⟨rfl, rfl⟩); simp only [Act.put, pA, pB, pC]
     obtain ⟨b4, hb4⟩ : ∃ b : Bool, RowKit.Hid (((d / (Nat.gcd n d)) == 1) = b) := ⟨_, hid rfl⟩
     apply txH (v := .bool b4) (wants0 rfl)
     · intro v1 hv1 w' hK; go_simp; (try go_bits); refine (one_any (.agg #[.slice sv12.a.p sv12.a.l sv12.a.c]) (d / (Nat.gcd n d)) w' (hK.get m0) ).mono ?_; rintro e w5 ⟨rfl, hb⟩; obtain rfl := hv1.out; exact ⟨_, rfl, (by rw [hb4.out]), hb⟩
     simp only [Act.put, pA, pB, pC]
     refine txEnd (fun W14 hK => ?_)
     cases b4
     · --
      go_upto_region 9 with (fail)
      refine wp_region_tx w hK ?_
      clear hK
      apply txF (wants0 rfl); (· intro w' hK; go_simp; (try go_bits); exact ⟨rfl, rfl⟩); simp only [Act.put, pA, pB, pC]
      apply txF (wants0 rfl); (· intro w' hK; have k_R1 := (hK.get m8); have c_R1_0 := k_R1.at 0 rfl; go_simp; (try go_bits); exact ⟨rfl, rfl⟩); simp only [Act.put, pA, pB, pC]
      apply txF (wants0 rfl); (· intro w' hK; have k_R2 := (hK.get m7); have c_R2_0 := k_R2.at 0 rfl; go_simp; (try go_bits); exact ⟨rfl, rfl⟩); simp only [Act.put, pA, pB, pC]
      apply txF (wants0 rfl); (· intro w' hK; go_simp; (try go_bits); exact ⟨rfl, rfl⟩); simp only [Act.put, pA, pB, pC]
      apply txU 6 (Has w.heap.size R3 (.cells #[.bool s, .slice sv10.a.p sv10.a.l sv10.a.c, .slice sv12.a.p sv12.a.l sv12.a.c] 47)) (wants0 rfl)
      · intro l1 hl1 w' hK; have k_R3 := (hK.get m6); have ⟨c_R3_0, c_R3_1, c_R3_2⟩ := k_R3.c3; have f_R3 := k_R3.fz; have ni := hdIs_of k_R3; go_simp; obtain rfl := hl1.out; exact ⟨rfl, ks_put (R := R3) hK k_R3.1 0 [.bool s, .slice sv10.a.p sv10.a.l sv10.a.c, .slice sv12.a.p sv12.a.l sv12.a.c] (al1 (spN (ni.no rfl) (hK.get m0)) (al1 (spN (ni.no rfl) (hK.get m1)) (al1 (spN (ni.no rfl) (hK.get m2)) (al1 (spN (ni.no rfl) (hK.get m3)) (al1 (spG o_R3_R7 (hK.get m4)) (al1 (spN (ni.no rfl) (hK.get m5)) (al1 (fun _ => has_put k_R3 _ _) (al1 (spL o_R2_R3 (hK.get m7)) (al1 (spL o_R1_R3 (hK.get m8)) (al1 (spN (ni.no rfl) (hK.get m9)) (al1 (spN (ni.no rfl) (hK.get m10)) aN)))))))))))⟩
      simp only [Act.put, pB, pC]
      refine txEnd (fun W15 hK => ?_)
      have k_R3 := (hK.get m6); have ⟨c_R3_0, c_R3_1, c_R3_2⟩ := k_R3.c3
      go_wp2
      exact bodyPost_ret (v := .agg #[.bool s, .slice sv10.a.p sv10.a.l sv10.a.c, .slice sv12.a.p sv12.a.l sv12.a.c]) (by simp [results, Try.results30, go_sem, c_R3_0, c_R3_1, c_R3_2]) rfl ((by obtain rfl := hQ0.out; exact ⟨_, rfl, (RatV.make hd0 (made_b s hb1.out) rfl (made_3 hb4.out) (hK.get m2) (hK.get m0)), hK.old⟩))
     · --
      go_upto_region 8 with (fail)
      refine wp_region_tx w hK ?_
      clear hK
      apply txF (wants0 rfl); (· intro w' hK; go_simp; (try go_bits); exact ⟨rfl, rfl⟩); simp only [Act.put, pA, pB, pC]
      apply txF (wants0 rfl); (· intro w' hK; have k_R1 := (hK.get m8); have c_R1_0 := k_R1.at 0 rfl; go_simp; (try go_bits); exact ⟨rfl, rfl⟩); simp only [Act.put, pA, pB, pC]
      apply txE (α := Duo Sl Sl) (fun sv => .agg #[.bool (isN (ofS s (n / (Nat.gcd n d)) 1)), .slice sv.a.p sv.a.l sv.a.c, .slice sv.b.p sv.b.l sv.b.c]) (fun sv => [fun w => RatV w (.agg #[.bool (isN (ofS s (n / (Nat.gcd n d)) 1)), .slice sv.a.p sv.a.l sv.a.c, .slice sv.b.p sv.b.l sv.b.c]) (ofS s (n / (Nat.gcd n d)) 1), fun w => NatV w (.agg #[.slice sv.a.p sv.a.l sv.a.c]) ((ofS s (n / (Nat.gcd n d)) 1).num.natAbs), fun w => NatV w (.agg #[.slice sv.b.p sv.b.l sv.b.c]) (den0 (ofS s (n / (Nat.gcd n d)) 1))]) (wants0 rfl)
      · intro f1 l1 hl1 w' hK; go_simp; (try go_bits); refine (whole_any s (.agg #[.slice sv10.a.p sv10.a.l sv10.a.c]) (n / (Nat.gcd n d)) w' (hK.get m2)).mono ?_; rintro e w5 ⟨y0, rfl, u0, hb⟩; obtain ⟨rfl, rfl⟩ := hl1.out; have u0_0 := u0; obtain ⟨p_u0, l_u0, c_u0, q_u0, m_u0, d_u0, rfl, u0_1, u0_2⟩ := u0; exact ⟨_, rfl, (⟨⟨p_u0, l_u0, c_u0⟩, ⟨q_u0, m_u0, d_u0⟩⟩ : Duo Sl Sl), rfl, hb, .cons (fun w2 h2 => u0_0.below h2) (.cons (fun w2 h2 => u0_1.below h2) (.cons (fun w2 h2 => u0_2.below h2) (Lasts.nil _)))⟩
      intro sv16
      simp only [Act.put, pA, pB, pC, pD, pE]
      apply txU 9 (Has w.heap.size R3 (.cells #[.bool (isN (ofS s (n / (Nat.gcd n d)) 1)), .slice sv16.a.p sv16.a.l sv16.a.c, .slice sv16.b.p sv16.b.l sv16.b.c] 47)) (wants0 rfl)
      · intro l1 hl1 w' hK; have k_R3 := (hK.get m9); have ⟨c_R3_0, c_R3_1, c_R3_2⟩ := k_R3.c3; have f_R3 := k_R3.fz; have ni := hdIs_of k_R3; go_simp; obtain rfl := hl1.out; exact ⟨rfl, ks_put (R := R3) hK k_R3.1 0 [.bool (isN (ofS s (n / (Nat.gcd n d)) 1)), .slice sv16.a.p sv16.a.l sv16.a.c, .slice sv16.b.p sv16.b.l sv16.b.c] (al1 (spQ (ni.no rfl) (hK.get m0)) (al1 (spN (ni.no rfl) (hK.get m1)) (al1 (spN (ni.no rfl) (hK.get m2)) (al1 (spN (ni.no rfl) (hK.get m3)) (al1 (spN (ni.no rfl) (hK.get m4)) (al1 (spN (ni.no rfl) (hK.get m5)) (al1 (spN (ni.no rfl) (hK.get m6)) (al1 (spG o_R3_R7 (hK.get m7)) (al1 (spN (ni.no rfl) (hK.get m8)) (al1 (fun _ => has_put k_R3 _ _) (al1 (spL o_R2_R3 (hK.get m10)) (al1 (spL o_R1_R3 (hK.get m11)) (al1 (spN (ni.no rfl) (hK.get m12)) (al1 (spN (ni.no rfl) (hK.get m13)) aN))))))))))))))⟩
      simp only [Act.put, pB, pC]
      refine txEnd (fun W17 hK => ?_)
      have k_R3 := (hK.get m9); have ⟨c_R3_0, c_R3_1, c_R3_2⟩ := k_R3.c3
      go_wp2
      exact bodyPost_ret (v := .agg #[.bool (isN (ofS s (n / (Nat.gcd n d)) 1)), .slice sv16.a.p sv16.a.l sv16.a.c, .slice sv16.b.p sv16.b.l sv16.b.c]) (by simp [results, Try.results30, go_sem, c_R3_0, c_R3_1, c_R3_2]) rfl ((by obtain rfl := hQ0.out; exact ⟨_, rfl, (Eq.mp (congrArg (RatV _ _) (show ofS s (n / (Nat.gcd n d)) 1 = ofS s n d from ofS_g1 s hd0 hb4.out)) (hK.get m0)), hK.old⟩))
    · --
     go_upto_region 7 with (fail)
     refine wp_region_tx w hK ?_
     clear hK
     apply txF (wants0 rfl); (· intro w' hK; have k_R2 := (hK.get m3); have c_R2_0 := k_R2.at 0 rfl; go_simp; (try go_bits); exact ⟨rfl, rfl⟩); simp only [Act.put, pA, pB, pC]
     obtain ⟨b4, hb4⟩ : ∃ b : Bool, RowKit.Hid ((d == 1) = b) := ⟨_, hid rfl⟩
     apply txH (v := .bool b4) (wants0 rfl)
     · intro v1 hv1 w' hK; go_simp; (try go_bits); refine (one_any (.agg #[.slice p_h2 (digs B32 d).length c_h2]) d w' (hK.get m5) ).mono ?_; rintro e w5 ⟨rfl, hb⟩; obtain rfl := hv1.out; exact ⟨_, rfl, (by rw [hb4.out]), hb⟩
     simp only [Act.put, pA, pB, pC]
     refine txEnd (fun W18 hK => ?_)
     cases b4
     · --
      go_upto_region 9 with (fail)
      refine wp_region_tx w hK ?_
      clear hK
      apply txF (wants0 rfl); (· intro w' hK; go_simp; (try go_bits); exact ⟨rfl, rfl⟩); simp only [Act.put, pA, pB, pC]
      apply txF (wants0 rfl); (· intro w' hK; have k_R1 := (hK.get m4); have c_R1_0 := k_R1.at 0 rfl; go_simp; (try go_bits); exact ⟨rfl, rfl⟩); simp only [Act.put, pA, pB, pC]
      apply txF (wants0 rfl); (· intro w' hK; have k_R2 := (hK.get m3); have c_R2_0 := k_R2.at 0 rfl; go_simp; (try go_bits); exact ⟨rfl, rfl⟩); simp only [Act.put, pA, pB, pC]
      apply txF (wants0 rfl); (· intro w' hK; go_simp; (try go_bits); exact ⟨rfl, rfl⟩); simp only [Act.put, pA, pB, pC]
      apply txU 2 (Has w.heap.size R3 (.cells #[.bool s, .slice p_h1 (digs B32 n).length c_h1, .slice p_h2 (digs B32 d).length c_h2] 47)) (wants0 rfl)
      · intro l1 hl1 w' hK; have k_R3 := (hK.get m2); have ⟨c_R3_0, c_R3_1, c_R3_2⟩ := k_R3.c3; have f_R3 := k_R3.fz; have ni := hdIs_of k_R3; go_simp; obtain rfl := hl1.out; exact ⟨rfl, ks_put (R := R3) hK k_R3.1 0 [.bool s, .slice p_h1 (digs B32 n).length c_h1, .slice p_h2 (digs B32 d).length c_h2] (al1 (spG o_R3_R7 (hK.get m0)) (al1 (spN (ni.no rfl) (hK.get m1)) (al1 (fun _ => has_put k_R3 _ _) (al1 (spL o_R2_R3 (hK.get m3)) (al1 (spL o_R1_R3 (hK.get m4)) (al1 (spN (ni.no rfl) (hK.get m5)) (al1 (spN (ni.no rfl) (hK.get m6)) aN)))))))⟩
      simp only [Act.put, pB, pC]
      refine txEnd (fun W19 hK => ?_)
      have k_R3 := (hK.get m2); have ⟨c_R3_0, c_R3_1, c_R3_2⟩ := k_R3.c3
      go_wp2
      exact bodyPost_ret (v := .agg #[.bool s, .slice p_h1 (digs B32 n).length c_h1, .slice p_h2 (digs B32 d).length c_h2]) (by simp [results, Try.results30, go_sem, c_R3_0, c_R3_1, c_R3_2]) rfl ((by obtain rfl := hQ0.out; exact ⟨_, rfl, (RatV.make hd0 (made_b s hb1.out) (made_1 hb3.out) (made_2 hb3.out hb4.out) (hK.get m6) (hK.get m5)), hK.old⟩))
     · --
      go_upto_region 8 with (fail)
      refine wp_region_tx w hK ?_
      clear hK
      apply txF (wants0 rfl); (· intro w' hK; go_simp; (try go_bits); exact ⟨rfl, rfl⟩); simp only [Act.put, pA, pB, pC]
      apply txF (wants0 rfl); (· intro w' hK; have k_R1 := (hK.get m4); have c_R1_0 := k_R1.at 0 rfl; go_simp; (try go_bits); exact ⟨rfl, rfl⟩); simp only [Act.put, pA, pB, pC]
      apply txE (α := Duo Sl Sl) (fun sv => .agg #[.bool (isN (ofS s n 1)), .slice sv.a.p sv.a.l sv.a.c, .slice sv.b.p sv.b.l sv.b.c]) (fun sv => [fun w => RatV w (.agg #[.bool (isN (ofS s n 1)), .slice sv.a.p sv.a.l sv.a.c, .slice sv.b.p sv.b.l sv.b.c]) (ofS s n 1), fun w => NatV w (.agg #[.slice sv.a.p sv.a.l sv.a.c]) ((ofS s n 1).num.natAbs), fun w => NatV w (.agg #[.slice sv.b.p sv.b.l sv.b.c]) (den0 (ofS s n 1))]) (wants0 rfl)
      · intro f1 l1 hl1 w' hK; go_simp; (try go_bits); refine (whole_any s (.agg #[.slice p_h1 (digs B32 n).length c_h1]) n w' (hK.get m6)).mono ?_; rintro e w5 ⟨y0, rfl, u0, hb⟩; obtain ⟨rfl, rfl⟩ := hl1.out; have u0_0 := u0; obtain ⟨p_u0, l_u0, c_u0, q_u0, m_u0, d_u0, rfl, u0_1, u0_2⟩ := u0; exact ⟨_, rfl, (⟨⟨p_u0, l_u0, c_u0⟩, ⟨q_u0, m_u0, d_u0⟩⟩ : Duo Sl Sl), rfl, hb, .cons (fun w2 h2 => u0_0.below h2) (.cons (fun w2 h2 => u0_1.below h2) (.cons (fun w2 h2 => u0_2.below h2) (Lasts.nil _)))⟩
      intro sv20
      simp only [Act.put, pA, pB, pC, pD, pE]
      apply txU 5 (Has w.heap.size R3 (.cells #[.bool (isN (ofS s n 1)), .slice sv20.a.p sv20.a.l sv20.a.c, .slice sv20.b.p sv20.b.l sv20.b.c] 47)) (wants0 rfl)
      · intro l1 hl1 w' hK; have k_R3 := (hK.get m5); have ⟨c_R3_0, c_R3_1, c_R3_2⟩ := k_R3.c3; have f_R3 := k_R3.fz; have ni := hdIs_of k_R3; go_simp; obtain rfl := hl1.out; exact ⟨rfl, ks_put (R := R3) hK k_R3.1 0 [.bool (isN (ofS s n 1)), .slice sv20.a.p sv20.a.l sv20.a.c, .slice sv20.b.p sv20.b.l sv20.b.c] (al1 (spQ (ni.no rfl) (hK.get m0)) (al1 (spN (ni.no rfl) (hK.get m1)) (al1 (spN (ni.no rfl) (hK.get m2)) (al1 (spG o_R3_R7 (hK.get m3)) (al1 (spN (ni.no rfl) (hK.get m4)) (al1 (fun _ => has_put k_R3 _ _) (al1 (spL o_R2_R3 (hK.get m6)) (al1 (spL o_R1_R3 (hK.get m7)) (al1 (spN (ni.no rfl) (hK.get m8)) (al1 (spN (ni.no rfl) (hK.get m9)) aN))))))))))⟩
      simp only [Act.put, pB, pC]
      refine txEnd (fun W21 hK => ?_)
      have k_R3 := (hK.get m5); have ⟨c_R3_0, c_R3_1, c_R3_2⟩ := k_R3.c3
      go_wp2
      exact bodyPost_ret (v := .agg #[.bool (isN (ofS s n 1)), .slice sv20.a.p sv20.a.l sv20.a.c, .slice sv20.b.p sv20.b.l sv20.b.c]) (by simp [results, Try.results30, go_sem, c_R3_0, c_R3_1, c_R3_2]) rfl ((by obtain rfl := hQ0.out; exact ⟨_, rfl, (Eq.mp (congrArg (RatV _ _) (show ofS s n 1 = ofS s n d from ofS_d1 s hb4.out)) (hK.get m0)), hK.old⟩))
   · --
    go_upto_region 2 with (fail)
    refine wp_region_tx w hK ?_
    clear hK
    apply txF (wants0 rfl); (· intro w' hK; go_simp; (try go_bits); exact ⟨rfl, rfl⟩); simp only [Act.put, pA, pB, pC]
    apply txF (wants0 rfl); (· intro w' hK; have k_R1 := (hK.get m2); have c_R1_0 := k_R1.at 0 rfl; go_simp; (try go_bits); exact ⟨rfl, rfl⟩); simp only [Act.put, pA, pB, pC]
    apply txE (α := Duo Sl Sl) (fun sv => .agg #[.bool (isN (ofS s n 1)), .slice sv.a.p sv.a.l sv.a.c, .slice sv.b.p sv.b.l sv.b.c]) (fun sv => [fun w => RatV w (.agg #[.bool (isN (ofS s n 1)), .slice sv.a.p sv.a.l sv.a.c, .slice sv.b.p sv.b.l sv.b.c]) (ofS s n 1), fun w => NatV w (.agg #[.slice sv.a.p sv.a.l sv.a.c]) ((ofS s n 1).num.natAbs), fun w => NatV w (.agg #[.slice sv.b.p sv.b.l sv.b.c]) (den0 (ofS s n 1))]) (wants0 rfl)
    · intro f1 l1 hl1 w' hK; go_simp; (try go_bits); refine (whole_any s (.agg #[.slice p_h1 (digs B32 n).length c_h1]) n w' (hK.get m4)).mono ?_; rintro e w5 ⟨y0, rfl, u0, hb⟩; obtain ⟨rfl, rfl⟩ := hl1.out; have u0_0 := u0; obtain ⟨p_u0, l_u0, c_u0, q_u0, m_u0, d_u0, rfl, u0_1, u0_2⟩ := u0; exact ⟨_, rfl, (⟨⟨p_u0, l_u0, c_u0⟩, ⟨q_u0, m_u0, d_u0⟩⟩ : Duo Sl Sl), rfl, hb, .cons (fun w2 h2 => u0_0.below h2) (.cons (fun w2 h2 => u0_1.below h2) (.cons (fun w2 h2 => u0_2.below h2) (Lasts.nil _)))⟩
    intro sv22
    simp only [Act.put, pA, pB, pC, pD, pE]
    apply txU 3 (Has w.heap.size R3 (.cells #[.bool (isN (ofS s n 1)), .slice sv22.a.p sv22.a.l sv22.a.c, .slice sv22.b.p sv22.b.l sv22.b.c] 47)) (wants0 rfl)
    · intro l1 hl1 w' hK; have k_R3 := (hK.get m3); have ⟨c_R3_0, c_R3_1, c_R3_2⟩ := k_R3.c3; have f_R3 := k_R3.fz; have ni := hdIs_of k_R3; go_simp; obtain rfl := hl1.out; exact ⟨rfl, ks_put (R := R3) hK k_R3.1 0 [.bool (isN (ofS s n 1)), .slice sv22.a.p sv22.a.l sv22.a.c, .slice sv22.b.p sv22.b.l sv22.b.c] (al1 (spQ (ni.no rfl) (hK.get m0)) (al1 (spN (ni.no rfl) (hK.get m1)) (al1 (spN (ni.no rfl) (hK.get m2)) (al1 (fun _ => has_put k_R3 _ _) (al1 (spL o_R2_R3 (hK.get m4)) (al1 (spL o_R1_R3 (hK.get m5)) (al1 (spN (ni.no rfl) (hK.get m6)) (al1 (spN (ni.no rfl) (hK.get m7)) aN))))))))⟩
    simp only [Act.put, pB, pC]
    refine txEnd (fun W23 hK => ?_)
    have k_R3 := (hK.get m3); have ⟨c_R3_0, c_R3_1, c_R3_2⟩ := k_R3.c3
    go_wp2
    exact bodyPost_ret (v := .agg #[.bool (isN (ofS s n 1)), .slice sv22.a.p sv22.a.l sv22.a.c, .slice sv22.b.p sv22.b.l sv22.b.c]) (by simp [results, Try.results30, go_sem, c_R3_0, c_R3_1, c_R3_2]) rfl ((by obtain rfl := hQ0.out; exact ⟨_, rfl, (Eq.mp (congrArg (RatV _ _) (show ofS s n 1 = ofS s n d from ofS_d1 s hb2.out)) (hK.get m0)), hK.old⟩))
  · --
   iterate 2 (apply txN (j := 2) (d := 10) (b := false) rfl rfl rfl rfl; simp only [Act.put, pA, pB, pC])
   apply txF (wants0 rfl); (· intro w' hK; go_simp; (try go_bits); exact ⟨rfl, rfl⟩); simp only [Act.put, pA, pB, pC]
   refine txEnd (fun W24 hK => ?_)
   go_upto_region 2 with (fail)
   refine wp_region_tx w hK ?_
   clear hK
   apply txF (wants0 rfl); (· intro w' hK; go_simp; (try go_bits); exact ⟨rfl, rfl⟩); simp only [Act.put, pA, pB, pC]
   apply txF (wants0 rfl); (· intro w' hK; have k_R1 := (hK.get m2); have c_R1_0 := k_R1.at 0 rfl; go_simp; (try go_bits); exact ⟨rfl, rfl⟩); simp only [Act.put, pA, pB, pC]
   apply txE (α := Duo Sl Sl) (fun sv => .agg #[.bool (isN (ofS s n 1)), .slice sv.a.p sv.a.l sv.a.c, .slice sv.b.p sv.b.l sv.b.c]) (fun sv => [fun w => RatV w (.agg #[.bool (isN (ofS s n 1)), .slice sv.a.p sv.a.l sv.a.c, .slice sv.b.p sv.b.l sv.b.c]) (ofS s n 1), fun w => NatV w (.agg #[.slice sv.a.p sv.a.l sv.a.c]) ((ofS s n 1).num.natAbs), fun w => NatV w (.agg #[.slice sv.b.p sv.b.l sv.b.c]) (den0 (ofS s n 1))]) (wants0 rfl)
   · intro f1 l1 hl1 w' hK; go_simp; (try go_bits); refine (whole_any s (.agg #[.slice p_h1 (digs B32 n).length c_h1]) n w' (hK.get m4)).mono ?_; rintro e w5 ⟨y0, rfl, u0, hb⟩; obtain ⟨rfl, rfl⟩ := hl1.out; have u0_0 := u0; obtain ⟨p_u0, l_u0, c_u0, q_u0, m_u0, d_u0, rfl, u0_1, u0_2⟩ := u0; exact ⟨_, rfl, (⟨⟨p_u0, l_u0, c_u0⟩, ⟨q_u0, m_u0, d_u0⟩⟩ : Duo Sl Sl), rfl, hb, .cons (fun w2 h2 => u0_0.below h2) (.cons (fun w2 h2 => u0_1.below h2) (.cons (fun w2 h2 => u0_2.below h2) (Lasts.nil _)))⟩
   intro sv25
   simp only [Act.put, pA, pB, pC, pD, pE]
   apply txU 3 (Has w.heap.size R3 (.cells #[.bool (isN (ofS s n 1)), .slice sv25.a.p sv25.a.l sv25.a.c, .slice sv25.b.p sv25.b.l sv25.b.c] 47)) (wants0 rfl)
   · intro l1 hl1 w' hK; have k_R3 := (hK.get m3); have ⟨c_R3_0, c_R3_1, c_R3_2⟩ := k_R3.c3; have f_R3 := k_R3.fz; have ni := hdIs_of k_R3; go_simp; obtain rfl := hl1.out; exact ⟨rfl, ks_put (R := R3) hK k_R3.1 0 [.bool (isN (ofS s n 1)), .slice sv25.a.p sv25.a.l sv25.a.c, .slice sv25.b.p sv25.b.l sv25.b.c] (al1 (spQ (ni.no rfl) (hK.get m0)) (al1 (spN (ni.no rfl) (hK.get m1)) (al1 (spN (ni.no rfl) (hK.get m2)) (al1 (fun _ => has_put k_R3 _ _) (al1 (spL o_R2_R3 (hK.get m4)) (al1 (spL o_R1_R3 (hK.get m5)) (al1 (spN (ni.no rfl) (hK.get m6)) (al1 (spN (ni.no rfl) (hK.get m7)) aN))))))))⟩
   simp only [Act.put, pB, pC]
   refine txEnd (fun W26 hK => ?_)
   have k_R3 := (hK.get m3); have ⟨c_R3_0, c_R3_1, c_R3_2⟩ := k_R3.c3
   go_wp2
   exact bodyPost_ret (v := .agg #[.bool (isN (ofS s n 1)), .slice sv25.a.p sv25.a.l sv25.a.c, .slice sv25.b.p sv25.b.l sv25.b.c]) (by simp [results, Try.results30, go_sem, c_R3_0, c_R3_1, c_R3_2]) rfl ((by obtain rfl := hQ0.out; exact ⟨_, rfl, (Eq.mp (congrArg (RatV _ _) (show ofS s n 1 = ofS s n d from ofS_n0 s hb1.out)) (hK.get m0)), hK.old⟩))
theorem sgnd_lm {s t : Bool} {n m k : Nat} (hn : Lm k n) (hm : Lm k m) : Lm (k + 1) (sgnd s n t m).2 := by
  have h := (hn.add hm).le (n := (sgnd s n t m).2) (by unfold sgnd; split <;> (try split) <;> simp <;> omega)
  rwa [Nat.max_self] at h
theorem add_made (x y : Rat) {b : Bool} (hb : (sgnd (isN x) (x.num.natAbs * one0 (den0 y)) (isN y) (y.num.natAbs * one0 (den0 x))).1 = b) : ofS b (sgnd (isN x) (x.num.natAbs * one0 (den0 y)) (isN y) (y.num.natAbs * one0 (den0 x))).2 (x.den * one0 (den0 y)) = x + y := by
  have h := sgnd_eq (isN x) (x.num.natAbs * one0 (den0 y)) (isN y) (y.num.natAbs * one0 (den0 x))
  rw [hb] at h
  rw [one0_den0] at h ⊢
  rw [one0_den0] at h ⊢
  exact add_of h
theorem den_1 {x : Rat} (h : (den0 x == 0) = true) : x.den = 1 := by
  have : den0 x = 0 := by simpa using h
  exact (den0_zero x).1 this
theorem add_whole (x y : Rat) {b : Bool} (hb : (sgnd (isN x) (x.num.natAbs * one0 (den0 y)) (isN y) (y.num.natAbs * one0 (den0 x))).1 = b) (hx : (den0 x == 0) = true) (hy : (den0 y == 0) = true) : ofS b (sgnd (isN x) (x.num.natAbs * one0 (den0 y)) (isN y) (y.num.natAbs * one0 (den0 x))).2 1 = x + y := by
  have h := add_made x y hb
  rw [show x.den * one0 (den0 y) = 1 from by rw [one0_den0, den_1 hx, den_1 hy]] at h
  exact h
theorem div_made (x : Rat) {y : Rat} (hy : y ≠ 0) : ofS (isN x != isN y) (x.num.natAbs * one0 (den0 y)) (y.num.natAbs * one0 (den0 x)) = x / y := by rw [one0_den0, one0_den0]; exact div_of x hy
theorem div_zero' (x : Rat) : x / 0 = 0 := by simp [Rat.div_def]
theorem cmp_made {x y : Rat} {z3 : Int} (hz : sgQ x = sgQ y) (h0 : sgQ x ≠ 0) (h3 : cmpN (x.num.natAbs * one0 (den0 y)) (y.num.natAbs * one0 (den0 x)) = z3) : sgQ (x - y) = sgQ x * z3 := by
  have hs : isN x = isN y := by
    rw [Bool.eq_iff_iff, isN_iff, isN_iff, ← sgQ_neg, ← sgQ_neg, hz]
  rw [cmp_cross hs, ← h3]
  rw [one0_den0, one0_den0]
  have e1 : sgQ x = if isN x then -1 else 1 := by
    unfold sgQ at h0 ⊢
    split
    · rename_i h; rw [if_pos h] at h0; exact absurd rfl h0
    · rfl
  rw [e1]
  congr 1
  unfold cmpN
  split
  · rfl
  · split
    · rw [if_neg (by omega)]
    · rw [if_pos (by omega)]
theorem cmpN_rng {n m : Nat} {z : Int} (h : cmpN n m = z) : -1 ≤ z ∧ z ≤ 1 := by rw [← h]; unfold cmpN; split <;> (try split) <;> omega
theorem int_len {z : Int} (h0 : -9223372036854775808 ≤ z) (h1 : z ≤ 9223372036854775807) : (digs B32 z.natAbs).length ≤ 2 := digs_len_le b32_2 2 _ (by
  have : B32 ^ 2 = 18446744073709551616 := by decide
  omega)
theorem sg_cases {x : Rat} {z : Int} (h : sgQ x = z) : z = 0 ∨ z = -1 ∨ z = 1 := by rw [← h]; exact sgQ_range x
theorem quo_ints (a b : Int) : ofS (decide (a < 0) != decide (b < 0)) a.natAbs b.natAbs = (a : Rat) / (b : Rat) := by
  by_cases hb : b = 0
  · subst hb
    unfold ofS
    simp [Rat.div_def]
  · have h1 : ((a : Rat)) = ofS (decide (a < 0)) a.natAbs 1 := by rw [ofS_one, sgn_of]
    have h2 : ((b : Rat)) = ofS (decide (b < 0)) b.natAbs 1 := by rw [ofS_one, sgn_of]
    rw [h1, h2, ofS_quo _ _ (by omega) (by decide), Nat.mul_one, Nat.one_mul]
theorem int_of (a : Int) : ofS (decide (a < 0)) a.natAbs 1 = (a : Rat) := by rw [ofS_one, sgn_of]
theorem RatV.zero (W : World) : RatV W (.agg #[.bool false, .slice none 0 0, .slice none 0 0]) 0 := ⟨_, _, _, _, _, _, rfl, NatV.zero W, NatV.zero W⟩
set_option maxRecDepth 100000 in
theorem qof_any  (n : Int) (d : Int) (w : World)  (n0 : -9223372036854775808 ≤ n) (n1 : n ≤ 9223372036854775807) (d0 : -9223372036854775808 ≤ d) (d1 : d ≤ 9223372036854775807) :
    Calls Try.prog 11 #[.int .i64 n, .int .i64 d] w fun e w' => ∃ y0, e = .returned (.tuple #[y0, .int .i64 (if d = 0 then 10 else 0)]) ∧ RatV w' y0 (((n : Int) : Rat) / ((d : Int) : Rat)) ∧ Below w.heap.size w w' := by
  have hK : KS w [] w := (KS.start w)
  have l1 := int_len n0 n1
  have l2 := int_len d0 d1
  refine Calls.hide (fun Q0 hQ0 => ?_)
  go_enter Try.func11, Try.ntmps11
  go_upto_region 0 with (fail)
  refine wp_region_tx w hK ?_
  clear hK
  apply txA (.cells #[.bool false, .slice none 0 0, .slice none 0 0] 47) (wants0 rfl)
  · intro w' hK; go_simp; rfl
  intro R1 q_R1
  clear q_R1
  simp only [mkOf, Act.put, pA, pB, pC]
  apply txF (wants0 rfl); (· intro w' hK; go_simp; (try go_bits); exact ⟨rfl, rfl⟩); simp only [Act.put, pA, pB, pC]
  refine txEnd (fun W2 hK => ?_)
  by_cases hz : d = 0
  · --
   subst hz
   go_upto_region 2 with (fail)
   refine wp_region_tx w hK ?_
   clear hK
   apply txF (wants0 rfl); (· intro w' hK; go_simp; (try go_bits); exact ⟨rfl, rfl⟩); simp only [Act.put, pA, pB, pC]
   apply txU 0 (Has w.heap.size R1 (.cells #[.bool false, .slice none 0 0, .slice none 0 0] 47)) (wants0 rfl)
   · intro l1 hl1 w' hK; have k_R1 := (hK.get m0); have ⟨c_R1_0, c_R1_1, c_R1_2⟩ := k_R1.c3; have f_R1 := k_R1.fz; go_simp; obtain rfl := hl1.out; exact ⟨rfl, ks_put (R := R1) hK k_R1.1 0 [.bool false, .slice none 0 0, .slice none 0 0] (al1 (fun _ => has_put k_R1 _ _) aN)⟩
   simp only [Act.put, pB]
   apply txF (wants0 rfl); (· intro w' hK; go_simp; (try go_bits); exact ⟨rfl, rfl⟩); simp only [Act.put, pA, pB, pC]
   refine txEnd (fun W3 hK => ?_)
   have k_R1 := (hK.get m0); have ⟨c_R1_0, c_R1_1, c_R1_2⟩ := k_R1.c3
   go_wp2
   exact bodyPost_ret (v := .tuple #[.agg #[.bool false, .slice none 0 0, .slice none 0 0], .int .i64 10]) (by simp [results, Try.results11, go_sem, c_R1_0, c_R1_1, c_R1_2]) rfl ((by obtain rfl := hQ0.out; exact ⟨_, rfl, (by have q : (n : Rat) / ((0 : Int) : Rat) = 0 := div_zero' _; rw [q]; exact RatV.zero _), hK.old⟩))
  · --
   go_upto_region 3 with (fail)
   refine wp_region_tx w hK ?_
   clear hK
   apply txF (wants0 rfl); (· intro w' hK; go_simp; (try go_bits); exact ⟨rfl, rfl⟩); simp only [Act.put, pA, pB, pC]
   obtain ⟨b1, hb1⟩ : ∃ b : Bool, RowKit.Hid ((decide (n < 0)) = b) := ⟨_, hid rfl⟩
   apply txE (α := Sl) (fun sv => .tuple #[.agg #[.slice sv.p sv.l sv.c], .bool b1]) (fun sv => [fun w => NatV w (.agg #[.slice sv.p sv.l sv.c]) n.natAbs]) (wants0 rfl)
   · intro f1 l1 hl1 w' hK; go_simp; (try go_bits); refine (magnitude_any n w' (by omega) (by omega)).mono ?_; rintro e w5 ⟨y0, rfl, u0, hb⟩; obtain ⟨rfl, rfl⟩ := hl1.out; obtain ⟨p_u0, c_u0, rfl, _⟩ := u0.digp; exact ⟨_, rfl, (⟨p_u0, _, c_u0⟩ : Sl), (by rw [hb1.out]), hb, .cons (fun w2 h2 => u0.below h2) (Lasts.nil _)⟩
   intro sv4
   simp only [Act.put, pA, pB, pC, pD, pE]
   iterate 3 (apply txF (wants0 rfl); (· intro w' hK; go_simp; (try go_bits); exact ⟨rfl, rfl⟩); simp only [Act.put, pA, pB, pC])
   apply txA (.cells #[.slice none 0 0] 45) (wants0 rfl)
   · intro w' hK; go_simp; rfl
   intro R5 q_R5
   have o_R1_R5 : R1 < R5 := q_R5 _ _ _ m1
   clear q_R5
   simp only [mkOf, Act.put, pA, pB, pC]
   apply txU 0 (Has w.heap.size R5 (.cells #[.slice sv4.p sv4.l sv4.c] 45)) (wants0 rfl)
   · intro l1 hl1 w' hK; have k_R5 := (hK.get m0); have c_R5_0 := k_R5.at 0 rfl; have f_R5 := k_R5.fz; have ni := hdIs_of k_R5; go_simp; obtain rfl := hl1.out; exact ⟨rfl, ks_put (R := R5) hK k_R5.1 0 [.slice sv4.p sv4.l sv4.c] (al1 (fun _ => has_put k_R5 _ _) (al1 (spN (ni.no rfl) (hK.get m1)) (al1 (spL o_R1_R5 (hK.get m2)) aN)))⟩
   simp only [Act.put, pB]
   apply txF (wants0 rfl); (· intro w' hK; go_simp; (try go_bits); exact ⟨rfl, rfl⟩); simp only [Act.put, pA, pB, pC]
   refine txEnd (fun W6 hK => ?_)
   go_upto_region 4 with (fail)
   refine wp_region_tx w hK ?_
   clear hK
   apply txF (wants0 rfl); (· intro w' hK; go_simp; (try go_bits); exact ⟨rfl, rfl⟩); simp only [Act.put, pA, pB, pC]
   obtain ⟨b2, hb2⟩ : ∃ b : Bool, RowKit.Hid ((decide (d < 0)) = b) := ⟨_, hid rfl⟩
   apply txE (α := Sl) (fun sv => .tuple #[.agg #[.slice sv.p sv.l sv.c], .bool b2]) (fun sv => [fun w => NatV w (.agg #[.slice sv.p sv.l sv.c]) d.natAbs]) (wants0 rfl)
   · intro f1 l1 hl1 w' hK; go_simp; (try go_bits); refine (magnitude_any d w' (by omega) (by omega)).mono ?_; rintro e w5 ⟨y0, rfl, u0, hb⟩; obtain ⟨rfl, rfl⟩ := hl1.out; obtain ⟨p_u0, c_u0, rfl, _⟩ := u0.digp; exact ⟨_, rfl, (⟨p_u0, _, c_u0⟩ : Sl), (by rw [hb2.out]), hb, .cons (fun w2 h2 => u0.below h2) (Lasts.nil _)⟩
   intro sv7
   simp only [Act.put, pA, pB, pC, pD, pE]
   iterate 3 (apply txF (wants0 rfl); (· intro w' hK; go_simp; (try go_bits); exact ⟨rfl, rfl⟩); simp only [Act.put, pA, pB, pC])
   apply txA (.cells #[.slice none 0 0] 45) (wants0 rfl)
   · intro w' hK; go_simp; rfl
   intro R8 q_R8
   have o_R1_R8 : R1 < R8 := q_R8 _ _ _ m3
   have o_R5_R8 : R5 < R8 := q_R8 _ _ _ m1
   clear q_R8
   simp only [mkOf, Act.put, pA, pB, pC]
   apply txU 0 (Has w.heap.size R8 (.cells #[.slice sv7.p sv7.l sv7.c] 45)) (wants0 rfl)
   · intro l1 hl1 w' hK; have k_R8 := (hK.get m0); have c_R8_0 := k_R8.at 0 rfl; have f_R8 := k_R8.fz; have ni := hdIs_of k_R8; go_simp; obtain rfl := hl1.out; exact ⟨rfl, ks_put (R := R8) hK k_R8.1 0 [.slice sv7.p sv7.l sv7.c] (al1 (fun _ => has_put k_R8 _ _) (al1 (spN (ni.no rfl) (hK.get m1)) (al1 (spL o_R5_R8 (hK.get m2)) (al1 (spN (ni.no rfl) (hK.get m3)) (al1 (spL o_R1_R8 (hK.get m4)) aN)))))⟩
   simp only [Act.put, pB]
   apply txF (wants0 rfl); (· intro w' hK; go_simp; (try go_bits); exact ⟨rfl, rfl⟩); simp only [Act.put, pA, pB, pC]
   refine txEnd (fun W9 hK => ?_)
   go_upto_region 5 with (fail)
   refine wp_region_tx w hK ?_
   clear hK
   iterate 3 (apply txF (wants0 rfl); (· intro w' hK; go_simp; (try go_bits); exact ⟨rfl, rfl⟩); simp only [Act.put, pA, pB, pC])
   apply txF (wants0 rfl); (· intro w' hK; have k_R5 := (hK.get m2); have c_R5_0 := k_R5.at 0 rfl; go_simp; (try go_bits); exact ⟨rfl, rfl⟩); simp only [Act.put, pA, pB, pC]
   apply txF (wants0 rfl); (· intro w' hK; have k_R8 := (hK.get m0); have c_R8_0 := k_R8.at 0 rfl; go_simp; (try go_bits); exact ⟨rfl, rfl⟩); simp only [Act.put, pA, pB, pC]
   apply txE (α := Duo Sl Sl) (fun sv => .agg #[.bool (isN (ofS ((b1 != b2)) n.natAbs d.natAbs)), .slice sv.a.p sv.a.l sv.a.c, .slice sv.b.p sv.b.l sv.b.c]) (fun sv => [fun w => RatV w (.agg #[.bool (isN (ofS ((b1 != b2)) n.natAbs d.natAbs)), .slice sv.a.p sv.a.l sv.a.c, .slice sv.b.p sv.b.l sv.b.c]) (ofS ((b1 != b2)) n.natAbs d.natAbs), fun w => NatV w (.agg #[.slice sv.a.p sv.a.l sv.a.c]) ((ofS ((b1 != b2)) n.natAbs d.natAbs).num.natAbs), fun w => NatV w (.agg #[.slice sv.b.p sv.b.l sv.b.c]) (den0 (ofS ((b1 != b2)) n.natAbs d.natAbs))]) (wants0 rfl)
   · intro f1 l1 hl1 w' hK; go_simp; (try go_bits); refine (reduced_any (.agg #[.slice sv4.p sv4.l sv4.c]) (.agg #[.slice sv7.p sv7.l sv7.c]) ((b1 != b2)) n.natAbs d.natAbs w' (hK.get m3) (hK.get m1) (by omega) (by omega) (by omega)).mono ?_; rintro e w5 ⟨y0, rfl, u0, hb⟩; obtain ⟨rfl, rfl⟩ := hl1.out; have u0_0 := u0; obtain ⟨p_u0, l_u0, c_u0, q_u0, m_u0, d_u0, rfl, u0_1, u0_2⟩ := u0; exact ⟨_, rfl, (⟨⟨p_u0, l_u0, c_u0⟩, ⟨q_u0, m_u0, d_u0⟩⟩ : Duo Sl Sl), rfl, hb, .cons (fun w2 h2 => u0_0.below h2) (.cons (fun w2 h2 => u0_1.below h2) (.cons (fun w2 h2 => u0_2.below h2) (Lasts.nil _)))⟩
   intro sv10
   simp only [Act.put, pA, pB, pC, pD, pE]
   apply txU 7 (Has w.heap.size R1 (.cells #[.bool (isN (ofS ((b1 != b2)) n.natAbs d.natAbs)), .slice sv10.a.p sv10.a.l sv10.a.c, .slice sv10.b.p sv10.b.l sv10.b.c] 47)) (wants0 rfl)
   · intro l1 hl1 w' hK; have k_R1 := (hK.get m7); have ⟨c_R1_0, c_R1_1, c_R1_2⟩ := k_R1.c3; have f_R1 := k_R1.fz; have ni := hdIs_of k_R1; go_simp; obtain rfl := hl1.out; exact ⟨rfl, ks_put (R := R1) hK k_R1.1 0 [.bool (isN (ofS ((b1 != b2)) n.natAbs d.natAbs)), .slice sv10.a.p sv10.a.l sv10.a.c, .slice sv10.b.p sv10.b.l sv10.b.c] (al1 (spQ (ni.no rfl) (hK.get m0)) (al1 (spN (ni.no rfl) (hK.get m1)) (al1 (spN (ni.no rfl) (hK.get m2)) (al1 (spG o_R1_R8 (hK.get m3)) (al1 (spN (ni.no rfl) (hK.get m4)) (al1 (spG o_R1_R5 (hK.get m5)) (al1 (spN (ni.no rfl) (hK.get m6)) (al1 (fun _ => has_put k_R1 _ _) aN))))))))⟩
   simp only [Act.put, pB, pC]
   apply txF (wants0 rfl); (· intro w' hK; go_simp; (try go_bits); exact ⟨rfl, rfl⟩); simp only [Act.put, pA, pB, pC]
   refine txEnd (fun W11 hK => ?_)
   have k_R1 := (hK.get m7); have ⟨c_R1_0, c_R1_1, c_R1_2⟩ := k_R1.c3
   go_wp2
   exact bodyPost_ret (v := .tuple #[.agg #[.bool (isN (ofS ((b1 != b2)) n.natAbs d.natAbs)), .slice sv10.a.p sv10.a.l sv10.a.c, .slice sv10.b.p sv10.b.l sv10.b.c], .int .i64 0]) (by simp [results, Try.results11, go_sem, c_R1_0, c_R1_1, c_R1_2]) rfl ((by obtain rfl := hQ0.out; exact ⟨.agg #[.bool (isN (ofS ((b1 != b2)) n.natAbs d.natAbs)), .slice sv10.a.p sv10.a.l sv10.a.c, .slice sv10.b.p sv10.b.l sv10.b.c], (by rw [if_neg hz]), (Eq.mp (congrArg (RatV _ _) (show ofS ((b1 != b2)) n.natAbs d.natAbs = ((n : Int) : Rat) / ((d : Int) : Rat) from (by rw [← hb1.out, ← hb2.out]; exact quo_ints n d))) (hK.get m0)), hK.old⟩))
set_option maxRecDepth 100000 in
theorem qint_any  (n : Int) (w : World)  (n0 : -9223372036854775808 ≤ n) (n1 : n ≤ 9223372036854775807) :
    Calls Try.prog 14 #[.int .i64 n] w fun e w' => ∃ y0, e = .returned y0 ∧ RatV w' y0 (((n : Int) : Rat)) ∧ Below w.heap.size w w' := by
  have hK : KS w [] w := (KS.start w)
  refine Calls.hide (fun Q0 hQ0 => ?_)
  go_enter Try.func14, Try.ntmps14
  go_upto_region 0 with (fail)
  refine wp_region_tx w hK ?_
  clear hK
  apply txA (.cells #[.bool false, .slice none 0 0, .slice none 0 0] 47) (wants0 rfl)
  · intro w' hK; go_simp; rfl
  intro R1 q_R1
  clear q_R1
  simp only [mkOf, Act.put, pA, pB, pC]
  refine txEnd (fun W2 hK => ?_)
  go_upto_region 1 with (fail)
  refine wp_region_tx w hK ?_
  clear hK
  apply txF (wants0 rfl); (· intro w' hK; go_simp; (try go_bits); exact ⟨rfl, rfl⟩); simp only [Act.put, pA, pB, pC]
  obtain ⟨b1, hb1⟩ : ∃ b : Bool, RowKit.Hid ((decide (n < 0)) = b) := ⟨_, hid rfl⟩
  apply txE (α := Sl) (fun sv => .tuple #[.agg #[.slice sv.p sv.l sv.c], .bool b1]) (fun sv => [fun w => NatV w (.agg #[.slice sv.p sv.l sv.c]) n.natAbs]) (wants0 rfl)
  · intro f1 l1 hl1 w' hK; go_simp; (try go_bits); refine (magnitude_any n w' (by omega) (by omega)).mono ?_; rintro e w5 ⟨y0, rfl, u0, hb⟩; obtain ⟨rfl, rfl⟩ := hl1.out; obtain ⟨p_u0, c_u0, rfl, _⟩ := u0.digp; exact ⟨_, rfl, (⟨p_u0, _, c_u0⟩ : Sl), (by rw [hb1.out]), hb, .cons (fun w2 h2 => u0.below h2) (Lasts.nil _)⟩
  intro sv3
  simp only [Act.put, pA, pB, pC, pD, pE]
  iterate 3 (apply txF (wants0 rfl); (· intro w' hK; go_simp; (try go_bits); exact ⟨rfl, rfl⟩); simp only [Act.put, pA, pB, pC])
  apply txA (.cells #[.slice none 0 0] 45) (wants0 rfl)
  · intro w' hK; go_simp; rfl
  intro R4 q_R4
  have o_R1_R4 : R1 < R4 := q_R4 _ _ _ m1
  clear q_R4
  simp only [mkOf, Act.put, pA, pB, pC]
  apply txU 0 (Has w.heap.size R4 (.cells #[.slice sv3.p sv3.l sv3.c] 45)) (wants0 rfl)
  · intro l1 hl1 w' hK; have k_R4 := (hK.get m0); have c_R4_0 := k_R4.at 0 rfl; have f_R4 := k_R4.fz; have ni := hdIs_of k_R4; go_simp; obtain rfl := hl1.out; exact ⟨rfl, ks_put (R := R4) hK k_R4.1 0 [.slice sv3.p sv3.l sv3.c] (al1 (fun _ => has_put k_R4 _ _) (al1 (spN (ni.no rfl) (hK.get m1)) (al1 (spL o_R1_R4 (hK.get m2)) aN)))⟩
  simp only [Act.put, pB]
  apply txF (wants0 rfl); (· intro w' hK; go_simp; (try go_bits); exact ⟨rfl, rfl⟩); simp only [Act.put, pA, pB, pC]
  refine txEnd (fun W5 hK => ?_)
  go_upto_region 2 with (fail)
  refine wp_region_tx w hK ?_
  clear hK
  apply txF (wants0 rfl); (· intro w' hK; go_simp; (try go_bits); exact ⟨rfl, rfl⟩); simp only [Act.put, pA, pB, pC]
  apply txF (wants0 rfl); (· intro w' hK; have k_R4 := (hK.get m0); have c_R4_0 := k_R4.at 0 rfl; go_simp; (try go_bits); exact ⟨rfl, rfl⟩); simp only [Act.put, pA, pB, pC]
  apply txE (α := Duo Sl Sl) (fun sv => .agg #[.bool (isN (ofS b1 n.natAbs 1)), .slice sv.a.p sv.a.l sv.a.c, .slice sv.b.p sv.b.l sv.b.c]) (fun sv => [fun w => RatV w (.agg #[.bool (isN (ofS b1 n.natAbs 1)), .slice sv.a.p sv.a.l sv.a.c, .slice sv.b.p sv.b.l sv.b.c]) (ofS b1 n.natAbs 1), fun w => NatV w (.agg #[.slice sv.a.p sv.a.l sv.a.c]) ((ofS b1 n.natAbs 1).num.natAbs), fun w => NatV w (.agg #[.slice sv.b.p sv.b.l sv.b.c]) (den0 (ofS b1 n.natAbs 1))]) (wants0 rfl)
  · intro f1 l1 hl1 w' hK; go_simp; (try go_bits); refine (whole_any b1 (.agg #[.slice sv3.p sv3.l sv3.c]) n.natAbs w' (hK.get m1)).mono ?_; rintro e w5 ⟨y0, rfl, u0, hb⟩; obtain ⟨rfl, rfl⟩ := hl1.out; have u0_0 := u0; obtain ⟨p_u0, l_u0, c_u0, q_u0, m_u0, d_u0, rfl, u0_1, u0_2⟩ := u0; exact ⟨_, rfl, (⟨⟨p_u0, l_u0, c_u0⟩, ⟨q_u0, m_u0, d_u0⟩⟩ : Duo Sl Sl), rfl, hb, .cons (fun w2 h2 => u0_0.below h2) (.cons (fun w2 h2 => u0_1.below h2) (.cons (fun w2 h2 => u0_2.below h2) (Lasts.nil _)))⟩
  intro sv6
  simp only [Act.put, pA, pB, pC, pD, pE]
  apply txU 5 (Has w.heap.size R1 (.cells #[.bool (isN (ofS b1 n.natAbs 1)), .slice sv6.a.p sv6.a.l sv6.a.c, .slice sv6.b.p sv6.b.l sv6.b.c] 47)) (wants0 rfl)
  · intro l1 hl1 w' hK; have k_R1 := (hK.get m5); have ⟨c_R1_0, c_R1_1, c_R1_2⟩ := k_R1.c3; have f_R1 := k_R1.fz; have ni := hdIs_of k_R1; go_simp; obtain rfl := hl1.out; exact ⟨rfl, ks_put (R := R1) hK k_R1.1 0 [.bool (isN (ofS b1 n.natAbs 1)), .slice sv6.a.p sv6.a.l sv6.a.c, .slice sv6.b.p sv6.b.l sv6.b.c] (al1 (spQ (ni.no rfl) (hK.get m0)) (al1 (spN (ni.no rfl) (hK.get m1)) (al1 (spN (ni.no rfl) (hK.get m2)) (al1 (spG o_R1_R4 (hK.get m3)) (al1 (spN (ni.no rfl) (hK.get m4)) (al1 (fun _ => has_put k_R1 _ _) aN))))))⟩
  simp only [Act.put, pB, pC]
  refine txEnd (fun W7 hK => ?_)
  have k_R1 := (hK.get m5); have ⟨c_R1_0, c_R1_1, c_R1_2⟩ := k_R1.c3
  go_wp2
  exact bodyPost_ret (v := .agg #[.bool (isN (ofS b1 n.natAbs 1)), .slice sv6.a.p sv6.a.l sv6.a.c, .slice sv6.b.p sv6.b.l sv6.b.c]) (by simp [results, Try.results14, go_sem, c_R1_0, c_R1_1, c_R1_2]) rfl ((by obtain rfl := hQ0.out; exact ⟨_, rfl, (Eq.mp (congrArg (RatV _ _) (show ofS b1 n.natAbs 1 = ((n : Int) : Rat) from (by rw [← hb1.out]; exact int_of n))) (hK.get m0)), hK.old⟩))
set_option maxRecDepth 100000 in
theorem qcmp_any (v0 : Value) (v1 : Value) (x : Rat) (y : Rat) (w : World) (h0 : RatV w v0 x) (h1 : RatV w v1 y) {k : Nat} (hx : LmQ k x) (hy : LmQ k y) (hk : k ≤ 10000) :
    Calls Try.prog 13 #[v0, v1] w fun e w' => e = .returned (.int .i64 (sgQ (x - y))) ∧ Below w.heap.size w w' := by
  have h0_0 := h0; obtain ⟨p_h0, l_h0, c_h0, q_h0, m_h0, d_h0, rfl, h0_1, h0_2⟩ := h0
  have h1_0 := h1; obtain ⟨p_h1, l_h1, c_h1, q_h1, m_h1, d_h1, rfl, h1_1, h1_2⟩ := h1
  have hK : KS w [fun w => RatV w (.agg #[.bool (isN y), .slice p_h1 l_h1 c_h1, .slice q_h1 m_h1 d_h1]) y, fun w => NatV w (.agg #[.slice p_h1 l_h1 c_h1]) y.num.natAbs, fun w => NatV w (.agg #[.slice q_h1 m_h1 d_h1]) (den0 y), fun w => RatV w (.agg #[.bool (isN x), .slice p_h0 l_h0 c_h0, .slice q_h0 m_h0 d_h0]) x, fun w => NatV w (.agg #[.slice p_h0 l_h0 c_h0]) x.num.natAbs, fun w => NatV w (.agg #[.slice q_h0 m_h0 d_h0]) (den0 x)] w := (KS.add (KS.add (KS.add (KS.add (KS.add (KS.add (KS.start w) (fun w' hb => h0_2.below hb)) (fun w' hb => h0_1.below hb)) (fun w' hb => h0_0.below hb)) (fun w' hb => h1_2.below hb)) (fun w' hb => h1_1.below hb)) (fun w' hb => h1_0.below hb))
  have e1 := hx.n.len
  have e2 := hy.n.len
  have e3 := hx.d0.len
  have e4 := hy.d0.len
  have e5 : (digs B32 (x.num.natAbs * one0 (den0 y))).length ≤ k + k := by rw [one0_den0]; exact (hx.n.mul hy.d).len
  have e6 : (digs B32 (y.num.natAbs * one0 (den0 x))).length ≤ k + k := by rw [one0_den0]; exact (hy.n.mul hx.d).len
  have e8 : (digs B32 (x.den * one0 (den0 y))).length ≤ k + k := by rw [one0_den0]; exact (hx.d.mul hy.d).len
  have e9 : x.den * one0 (den0 y) ≠ 0 := by rw [one0_den0]; exact Nat.mul_ne_zero x.den_nz y.den_nz
  have e7 : (digs B32 (sgnd (isN x) (x.num.natAbs * one0 (den0 y)) (isN y) (y.num.natAbs * one0 (den0 x))).2).length ≤ k + k + 1 := Lm.len (sgnd_lm (by rw [one0_den0]; exact hx.n.mul hy.d) (by rw [one0_den0]; exact hy.n.mul hx.d))
  have e12 : (digs B32 (x.num.natAbs * y.num.natAbs)).length ≤ k + k := (hx.n.mul hy.n).len
  have e10 := hx.d.len
  have e11 := hy.d.len
  refine Calls.hide (fun Q0 hQ0 => ?_)
  go_enter Try.func13, Try.ntmps13
  go_upto_region 0 with (fail)
  refine wp_region_tx w hK ?_
  clear hK
  apply txA (.cells #[.bool (isN x), .slice p_h0 l_h0 c_h0, .slice q_h0 m_h0 d_h0] 47) (wants0 rfl)
  · intro w' hK; go_simp; rfl
  intro R1 q_R1
  clear q_R1
  simp only [mkOf, Act.put, pA, pB, pC]
  apply txA (.cells #[.bool (isN y), .slice p_h1 l_h1 c_h1, .slice q_h1 m_h1 d_h1] 47) (wants0 rfl)
  · intro w' hK; go_simp; rfl
  intro R2 q_R2
  have o_R1_R2 : R1 < R2 := q_R2 _ _ _ m0
  clear q_R2
  simp only [mkOf, Act.put, pA, pB, pC]
  apply txF (wants0 rfl); (· intro w' hK; go_simp; (try go_bits); exact ⟨rfl, rfl⟩); simp only [Act.put, pA, pB, pC]
  refine txEnd (fun W3 hK => ?_)
  go_upto_region 1 with (fail)
  have hK0 := hK
  refine wp_region_float0 (w) _ _ [0, 1, 0, 1, 0, 0] (by kernel_rfl) (by kernel_rfl) (by kernel_rfl) (by kernel_rfl) (KS.drew hK0) (KS.drew hK) ?_
  clear hK hK0
  apply lxF0 (wants0 rfl); (· intro w' h0; have k_R1 := (h0.get m1); have ⟨c_R1_0, c_R1_1, c_R1_2⟩ := k_R1.c3; go_simp; (try go_bits); exact ⟨rfl, rfl⟩); simp only [Act.put, pA, pB, pC]
  obtain ⟨z1, hz1⟩ : ∃ b : Int, RowKit.Hid ((sgQ x) = b) := ⟨_, hid rfl⟩
  apply lxH1 (v := .int .i64 z1) (wants0 rfl)
  · intro v1 hv1 w' h0 hK; go_simp; (try go_bits); refine (sign_any (.agg #[.bool (isN x), .slice p_h0 l_h0 c_h0, .slice q_h0 m_h0 d_h0]) x w' (hK.get m5) ).mono ?_; rintro e w5 ⟨rfl, hb⟩; obtain rfl := hv1.out; exact ⟨_, rfl, (by rw [hz1.out]), hb⟩
  simp only [Act.put, pA, pB, pC]
  apply lxF0 (wants0 rfl); (· intro w' h0; have k_R2 := (h0.get m0); have ⟨c_R2_0, c_R2_1, c_R2_2⟩ := k_R2.c3; go_simp; (try go_bits); exact ⟨rfl, rfl⟩); simp only [Act.put, pA, pB, pC]
  obtain ⟨z2, hz2⟩ : ∃ b : Int, RowKit.Hid ((sgQ y) = b) := ⟨_, hid rfl⟩
  apply lxH1 (v := .int .i64 z2) (wants0 rfl)
  · intro v1 hv1 w' h0 hK; go_simp; (try go_bits); refine (sign_any (.agg #[.bool (isN y), .slice p_h1 l_h1 c_h1, .slice q_h1 m_h1 d_h1]) y w' (hK.get m2) ).mono ?_; rintro e w5 ⟨rfl, hb⟩; obtain rfl := hv1.out; exact ⟨_, rfl, (by rw [hz2.out]), hb⟩
  simp only [Act.put, pA, pB, pC]
  iterate 2 (apply lxF0 (wants0 rfl); (· intro w' h0; go_simp; (try go_bits); exact ⟨rfl, rfl⟩); simp only [Act.put, pA, pB, pC])
  refine lxEnd (fun W4 hK => ?_)
  rcases Int.lt_trichotomy z1 z2 with hz | hz | hz
  · --
   go_wp2
   try go_ret
   show Q0 (.returned (.int .i64 (-1))) _
   exact (by obtain rfl := hQ0.out; exact ⟨(by rw [cmp_signs_lt (by rw [hz1.out, hz2.out]; exact hz)]), hK.old⟩)
  · --
   subst hz
   rcases sg_cases hz1.out with hz | hz | hz
   · --
    subst hz
    go_wp2
    try go_ret
    show Q0 (.returned (.int .i64 0)) _
    exact (by obtain rfl := hQ0.out; exact ⟨(by rw [sgQ_zero.1 hz1.out, sgQ_zero.1 hz2.out, Rat.sub_self, sgQ_zero.2 rfl]), hK.old⟩)
   · --
    subst hz
    go_upto_region 8 with (fail)
    have hK0 := hK
    refine wp_region_float0 (w) _ _ [0, 0, 0, 0, 0, 2, 0, 0, 0, 0, 2, 1, 0, 0] (by kernel_rfl) (by kernel_rfl) (by kernel_rfl) (by kernel_rfl) (KS.drew hK0) (KS.drew hK) ?_
    clear hK hK0
    iterate 2 (apply lxF0 (wants0 rfl); (· intro w' h0; go_simp; (try go_bits); exact ⟨rfl, rfl⟩); simp only [Act.put, pA, pB, pC])
    apply lxF0 (wants0 rfl); (· intro w' h0; have k_R1 := (h0.get m1); have c_R1_1 := k_R1.at 1 rfl; go_simp; (try go_bits); exact ⟨rfl, rfl⟩); simp only [Act.put, pA, pB, pC]
    apply lxF0 (wants0 rfl); (· intro w' h0; go_simp; (try go_bits); exact ⟨rfl, rfl⟩); simp only [Act.put, pA, pB, pC]
    apply lxF0 (wants0 rfl); (· intro w' h0; have k_R2 := (h0.get m0); have c_R2_2 := k_R2.at 2 rfl; go_simp; (try go_bits); exact ⟨rfl, rfl⟩); simp only [Act.put, pA, pB, pC]
    apply lxE1 (α := Sl) (fun sv => .agg #[.slice sv.p sv.l sv.c]) (fun sv => [fun w => NatV w (.agg #[.slice sv.p sv.l sv.c]) (x.num.natAbs * one0 (den0 y))]) (wants0 rfl)
    · intro f1 l1 hl1 w' h0 hK; go_simp; (try go_bits); refine (qtimes_any (.agg #[.slice p_h0 l_h0 c_h0]) (.agg #[.slice q_h1 m_h1 d_h1]) x.num.natAbs (den0 y) w' (hK.get m6) (hK.get m4) (by omega)).mono ?_; rintro e w5 ⟨y0, rfl, u0, hb⟩; obtain ⟨rfl, rfl⟩ := hl1.out; obtain ⟨p_u0, c_u0, rfl, _⟩ := u0.digp; exact ⟨_, rfl, (⟨p_u0, _, c_u0⟩ : Sl), rfl, hb, .cons (fun w2 h2 => u0.below h2) (Lasts.nil _)⟩
    intro sv5
    simp only [Act.put, pA, pB, pC, pD, pE]
    apply lxF0 (wants0 rfl); (· intro w' h0; go_simp; (try go_bits); exact ⟨rfl, rfl⟩); simp only [Act.put, pA, pB, pC]
    apply lxF0 (wants0 rfl); (· intro w' h0; have k_R2 := (h0.get m0); have c_R2_1 := k_R2.at 1 rfl; go_simp; (try go_bits); exact ⟨rfl, rfl⟩); simp only [Act.put, pA, pB, pC]
    apply lxF0 (wants0 rfl); (· intro w' h0; go_simp; (try go_bits); exact ⟨rfl, rfl⟩); simp only [Act.put, pA, pB, pC]
    apply lxF0 (wants0 rfl); (· intro w' h0; have k_R1 := (h0.get m1); have c_R1_2 := k_R1.at 2 rfl; go_simp; (try go_bits); exact ⟨rfl, rfl⟩); simp only [Act.put, pA, pB, pC]
    apply lxE1 (α := Sl) (fun sv => .agg #[.slice sv.p sv.l sv.c]) (fun sv => [fun w => NatV w (.agg #[.slice sv.p sv.l sv.c]) (y.num.natAbs * one0 (den0 x))]) (wants0 rfl)
    · intro f1 l1 hl1 w' h0 hK; go_simp; (try go_bits); refine (qtimes_any (.agg #[.slice p_h1 l_h1 c_h1]) (.agg #[.slice q_h0 m_h0 d_h0]) y.num.natAbs (den0 x) w' (hK.get m4) (hK.get m8) (by omega)).mono ?_; rintro e w5 ⟨y0, rfl, u0, hb⟩; obtain ⟨rfl, rfl⟩ := hl1.out; obtain ⟨p_u0, c_u0, rfl, _⟩ := u0.digp; exact ⟨_, rfl, (⟨p_u0, _, c_u0⟩ : Sl), rfl, hb, .cons (fun w2 h2 => u0.below h2) (Lasts.nil _)⟩
    intro sv6
    simp only [Act.put, pA, pB, pC, pD, pE]
    obtain ⟨z3, hz3⟩ : ∃ b : Int, RowKit.Hid ((cmpN (x.num.natAbs * one0 (den0 y)) (y.num.natAbs * one0 (den0 x))) = b) := ⟨_, hid rfl⟩
    apply lxH1 (v := .int .i64 z3) (wants0 rfl)
    · intro v1 hv1 w' h0 hK; go_simp; (try go_bits); refine (cmp_any (.agg #[.slice sv5.p sv5.l sv5.c]) (.agg #[.slice sv6.p sv6.l sv6.c]) (x.num.natAbs * one0 (den0 y)) (y.num.natAbs * one0 (den0 x)) w' (hK.get m1) (hK.get m0) (by omega) (by omega)).mono ?_; rintro e w5 ⟨rfl, hb⟩; obtain rfl := hv1.out; exact ⟨_, rfl, (by rw [hz3.out]), hb⟩
    simp only [Act.put, pA, pB, pC]
    apply lxF0 (wants0 rfl); (· intro w' h0; have q3 := (cmpN_rng hz3.out).1; have q4 := (cmpN_rng hz3.out).2; go_simp; (try go_bits); exact ⟨rfl, rfl⟩); simp only [Act.put, pA, pB, pC]
    apply lxF0 (wants0 rfl); (· intro w' h0; go_simp; (try go_bits); exact ⟨rfl, rfl⟩); simp only [Act.put, pA, pB, pC]
    refine lxEnd (fun W7 hK => ?_)
    go_wp2
    try go_ret
    show Q0 (.returned (.int .i64 (-z3))) _
    exact (by obtain rfl := hQ0.out; exact ⟨(by rw [show sgQ (x - y) = -z3 from by rw [cmp_made (hz1.out.trans hz2.out.symm) (by rw [hz1.out]; decide) hz3.out, hz1.out]; omega]), hK.old⟩)
   · --
    subst hz
    go_upto_region 8 with (fail)
    have hK0 := hK
    refine wp_region_float0 (w) _ _ [0, 0, 0, 0, 0, 2, 0, 0, 0, 0, 2, 1, 0, 0] (by kernel_rfl) (by kernel_rfl) (by kernel_rfl) (by kernel_rfl) (KS.drew hK0) (KS.drew hK) ?_
    clear hK hK0
    iterate 2 (apply lxF0 (wants0 rfl); (· intro w' h0; go_simp; (try go_bits); exact ⟨rfl, rfl⟩); simp only [Act.put, pA, pB, pC])
    apply lxF0 (wants0 rfl); (· intro w' h0; have k_R1 := (h0.get m1); have c_R1_1 := k_R1.at 1 rfl; go_simp; (try go_bits); exact ⟨rfl, rfl⟩); simp only [Act.put, pA, pB, pC]
    apply lxF0 (wants0 rfl); (· intro w' h0; go_simp; (try go_bits); exact ⟨rfl, rfl⟩); simp only [Act.put, pA, pB, pC]
    apply lxF0 (wants0 rfl); (· intro w' h0; have k_R2 := (h0.get m0); have c_R2_2 := k_R2.at 2 rfl; go_simp; (try go_bits); exact ⟨rfl, rfl⟩); simp only [Act.put, pA, pB, pC]
    apply lxE1 (α := Sl) (fun sv => .agg #[.slice sv.p sv.l sv.c]) (fun sv => [fun w => NatV w (.agg #[.slice sv.p sv.l sv.c]) (x.num.natAbs * one0 (den0 y))]) (wants0 rfl)
    · intro f1 l1 hl1 w' h0 hK; go_simp; (try go_bits); refine (qtimes_any (.agg #[.slice p_h0 l_h0 c_h0]) (.agg #[.slice q_h1 m_h1 d_h1]) x.num.natAbs (den0 y) w' (hK.get m6) (hK.get m4) (by omega)).mono ?_; rintro e w5 ⟨y0, rfl, u0, hb⟩; obtain ⟨rfl, rfl⟩ := hl1.out; obtain ⟨p_u0, c_u0, rfl, _⟩ := u0.digp; exact ⟨_, rfl, (⟨p_u0, _, c_u0⟩ : Sl), rfl, hb, .cons (fun w2 h2 => u0.below h2) (Lasts.nil _)⟩
    intro sv8
    simp only [Act.put, pA, pB, pC, pD, pE]
    apply lxF0 (wants0 rfl); (· intro w' h0; go_simp; (try go_bits); exact ⟨rfl, rfl⟩); simp only [Act.put, pA, pB, pC]
    apply lxF0 (wants0 rfl); (· intro w' h0; have k_R2 := (h0.get m0); have c_R2_1 := k_R2.at 1 rfl; go_simp; (try go_bits); exact ⟨rfl, rfl⟩); simp only [Act.put, pA, pB, pC]
    apply lxF0 (wants0 rfl); (· intro w' h0; go_simp; (try go_bits); exact ⟨rfl, rfl⟩); simp only [Act.put, pA, pB, pC]
    apply lxF0 (wants0 rfl); (· intro w' h0; have k_R1 := (h0.get m1); have c_R1_2 := k_R1.at 2 rfl; go_simp; (try go_bits); exact ⟨rfl, rfl⟩); simp only [Act.put, pA, pB, pC]
    apply lxE1 (α := Sl) (fun sv => .agg #[.slice sv.p sv.l sv.c]) (fun sv => [fun w => NatV w (.agg #[.slice sv.p sv.l sv.c]) (y.num.natAbs * one0 (den0 x))]) (wants0 rfl)
    · intro f1 l1 hl1 w' h0 hK; go_simp; (try go_bits); refine (qtimes_any (.agg #[.slice p_h1 l_h1 c_h1]) (.agg #[.slice q_h0 m_h0 d_h0]) y.num.natAbs (den0 x) w' (hK.get m4) (hK.get m8) (by omega)).mono ?_; rintro e w5 ⟨y0, rfl, u0, hb⟩; obtain ⟨rfl, rfl⟩ := hl1.out; obtain ⟨p_u0, c_u0, rfl, _⟩ := u0.digp; exact ⟨_, rfl, (⟨p_u0, _, c_u0⟩ : Sl), rfl, hb, .cons (fun w2 h2 => u0.below h2) (Lasts.nil _)⟩
    intro sv9
    simp only [Act.put, pA, pB, pC, pD, pE]
    obtain ⟨z3, hz3⟩ : ∃ b : Int, RowKit.Hid ((cmpN (x.num.natAbs * one0 (den0 y)) (y.num.natAbs * one0 (den0 x))) = b) := ⟨_, hid rfl⟩
    apply lxH1 (v := .int .i64 z3) (wants0 rfl)
    · intro v1 hv1 w' h0 hK; go_simp; (try go_bits); refine (cmp_any (.agg #[.slice sv8.p sv8.l sv8.c]) (.agg #[.slice sv9.p sv9.l sv9.c]) (x.num.natAbs * one0 (den0 y)) (y.num.natAbs * one0 (den0 x)) w' (hK.get m1) (hK.get m0) (by omega) (by omega)).mono ?_; rintro e w5 ⟨rfl, hb⟩; obtain rfl := hv1.out; exact ⟨_, rfl, (by rw [hz3.out]), hb⟩
    simp only [Act.put, pA, pB, pC]
    apply lxF0 (wants0 rfl); (· intro w' h0; have q3 := (cmpN_rng hz3.out).1; have q4 := (cmpN_rng hz3.out).2; go_simp; (try go_bits); exact ⟨rfl, rfl⟩); simp only [Act.put, pA, pB, pC]
    apply lxF0 (wants0 rfl); (· intro w' h0; go_simp; (try go_bits); exact ⟨rfl, rfl⟩); simp only [Act.put, pA, pB, pC]
    refine lxEnd (fun W10 hK => ?_)
    go_wp2
    try go_ret
    show Q0 (.returned (.int .i64 z3)) _
    exact (by obtain rfl := hQ0.out; exact ⟨(by rw [show sgQ (x - y) = z3 from by rw [cmp_made (hz1.out.trans hz2.out.symm) (by rw [hz1.out]; decide) hz3.out, hz1.out]; omega]), hK.old⟩)
  · --
   go_wp2
   try go_ret
   show Q0 (.returned (.int .i64 1)) _
   exact (by obtain rfl := hQ0.out; exact ⟨(by rw [cmp_signs_gt (by rw [hz1.out, hz2.out]; exact hz)]), hK.old⟩)
set_option maxRecDepth 100000 in
theorem qadd_any (v0 : Value) (v1 : Value) (x : Rat) (y : Rat) (w : World) (h0 : RatV w v0 x) (h1 : RatV w v1 y) {k : Nat} (hx : LmQ k x) (hy : LmQ k y) (hk : k ≤ 10000) :
    Calls Try.prog 28 #[v0, v1] w fun e w' => ∃ y0, e = .returned y0 ∧ RatV w' y0 (x + y) ∧ Below w.heap.size w w' := by
  have h0_0 := h0; obtain ⟨p_h0, l_h0, c_h0, q_h0, m_h0, d_h0, rfl, h0_1, h0_2⟩ := h0
  have h1_0 := h1; obtain ⟨p_h1, l_h1, c_h1, q_h1, m_h1, d_h1, rfl, h1_1, h1_2⟩ := h1
  have hK : KS w [fun w => RatV w (.agg #[.bool (isN y), .slice p_h1 l_h1 c_h1, .slice q_h1 m_h1 d_h1]) y, fun w => NatV w (.agg #[.slice p_h1 l_h1 c_h1]) y.num.natAbs, fun w => NatV w (.agg #[.slice q_h1 m_h1 d_h1]) (den0 y), fun w => RatV w (.agg #[.bool (isN x), .slice p_h0 l_h0 c_h0, .slice q_h0 m_h0 d_h0]) x, fun w => NatV w (.agg #[.slice p_h0 l_h0 c_h0]) x.num.natAbs, fun w => NatV w (.agg #[.slice q_h0 m_h0 d_h0]) (den0 x)] w := (KS.add (KS.add (KS.add (KS.add (KS.add (KS.add (KS.start w) (fun w' hb => h0_2.below hb)) (fun w' hb => h0_1.below hb)) (fun w' hb => h0_0.below hb)) (fun w' hb => h1_2.below hb)) (fun w' hb => h1_1.below hb)) (fun w' hb => h1_0.below hb))
  have e1 := hx.n.len
  have e2 := hy.n.len
  have e3 := hx.d0.len
  have e4 := hy.d0.len
  have e5 : (digs B32 (x.num.natAbs * one0 (den0 y))).length ≤ k + k := by rw [one0_den0]; exact (hx.n.mul hy.d).len
  have e6 : (digs B32 (y.num.natAbs * one0 (den0 x))).length ≤ k + k := by rw [one0_den0]; exact (hy.n.mul hx.d).len
  have e8 : (digs B32 (x.den * one0 (den0 y))).length ≤ k + k := by rw [one0_den0]; exact (hx.d.mul hy.d).len
  have e9 : x.den * one0 (den0 y) ≠ 0 := by rw [one0_den0]; exact Nat.mul_ne_zero x.den_nz y.den_nz
  have e7 : (digs B32 (sgnd (isN x) (x.num.natAbs * one0 (den0 y)) (isN y) (y.num.natAbs * one0 (den0 x))).2).length ≤ k + k + 1 := Lm.len (sgnd_lm (by rw [one0_den0]; exact hx.n.mul hy.d) (by rw [one0_den0]; exact hy.n.mul hx.d))
  have e12 : (digs B32 (x.num.natAbs * y.num.natAbs)).length ≤ k + k := (hx.n.mul hy.n).len
  have e10 := hx.d.len
  have e11 := hy.d.len
  refine Calls.hide (fun Q0 hQ0 => ?_)
  go_enter Try.func28, Try.ntmps28
  go_upto_region 0 with (fail)
  refine wp_region_tx w hK ?_
  clear hK
  apply txA (.cells #[.bool (isN x), .slice p_h0 l_h0 c_h0, .slice q_h0 m_h0 d_h0] 47) (wants0 rfl)
  · intro w' hK; go_simp; rfl
  intro R1 q_R1
  clear q_R1
  simp only [mkOf, Act.put, pA, pB, pC]
  apply txA (.cells #[.bool (isN y), .slice p_h1 l_h1 c_h1, .slice q_h1 m_h1 d_h1] 47) (wants0 rfl)
  · intro w' hK; go_simp; rfl
  intro R2 q_R2
  have o_R1_R2 : R1 < R2 := q_R2 _ _ _ m0
  clear q_R2
  simp only [mkOf, Act.put, pA, pB, pC]
  apply txA (.cells #[.bool false, .slice none 0 0, .slice none 0 0] 47) (wants0 rfl)
  · intro w' hK; go_simp; rfl
  intro R3 q_R3
  have o_R1_R3 : R1 < R3 := q_R3 _ _ _ m1
  have o_R2_R3 : R2 < R3 := q_R3 _ _ _ m0
  clear q_R3
  simp only [mkOf, Act.put, pA, pB, pC]
  refine txEnd (fun W4 hK => ?_)
  go_upto_region 1 with (fail)
  refine wp_region_tx w hK ?_
  clear hK
  apply txF (wants0 rfl); (· intro w' hK; have k_R1 := (hK.get m2); have ⟨c_R1_0, c_R1_1, c_R1_2⟩ := k_R1.c3; go_simp; (try go_bits); exact ⟨rfl, rfl⟩); simp only [Act.put, pA, pB, pC]
  obtain ⟨z1, hz1⟩ : ∃ b : Int, RowKit.Hid ((sgQ x) = b) := ⟨_, hid rfl⟩
  apply txH (v := .int .i64 z1) (wants0 rfl)
  · intro v1 hv1 w' hK; go_simp; (try go_bits); refine (sign_any (.agg #[.bool (isN x), .slice p_h0 l_h0 c_h0, .slice q_h0 m_h0 d_h0]) x w' (hK.get m6) ).mono ?_; rintro e w5 ⟨rfl, hb⟩; obtain rfl := hv1.out; exact ⟨_, rfl, (by rw [hz1.out]), hb⟩
  simp only [Act.put, pA, pB, pC]
  apply txF (wants0 rfl); (· intro w' hK; go_simp; (try go_bits); exact ⟨rfl, rfl⟩); simp only [Act.put, pA, pB, pC]
  refine txEnd (fun W5 hK => ?_)
  by_cases hz : z1 = 0
  · --
   subst hz
   go_upto_region 2 with (fail)
   refine wp_region_tx w hK ?_
   clear hK
   apply txF (wants0 rfl); (· intro w' hK; have k_R2 := (hK.get m1); have ⟨c_R2_0, c_R2_1, c_R2_2⟩ := k_R2.c3; go_simp; (try go_bits); exact ⟨rfl, rfl⟩); simp only [Act.put, pA, pB, pC]
   apply txU 0 (Has w.heap.size R3 (.cells #[.bool (isN y), .slice p_h1 l_h1 c_h1, .slice q_h1 m_h1 d_h1] 47)) (wants0 rfl)
   · intro l1 hl1 w' hK; have k_R3 := (hK.get m0); have ⟨c_R3_0, c_R3_1, c_R3_2⟩ := k_R3.c3; have f_R3 := k_R3.fz; have ni := hdIs_of k_R3; go_simp; obtain rfl := hl1.out; exact ⟨rfl, ks_put (R := R3) hK k_R3.1 0 [.bool (isN y), .slice p_h1 l_h1 c_h1, .slice q_h1 m_h1 d_h1] (al1 (fun _ => has_put k_R3 _ _) (al1 (spL o_R2_R3 (hK.get m1)) (al1 (spL o_R1_R3 (hK.get m2)) (al1 (spQ (ni.no rfl) (hK.get m3)) (al1 (spN (ni.no rfl) (hK.get m4)) (al1 (spN (ni.no rfl) (hK.get m5)) (al1 (spQ (ni.no rfl) (hK.get m6)) (al1 (spN (ni.no rfl) (hK.get m7)) (al1 (spN (ni.no rfl) (hK.get m8)) aN)))))))))⟩
   simp only [Act.put, pB]
   refine txEnd (fun W6 hK => ?_)
   have k_R3 := (hK.get m0); have ⟨c_R3_0, c_R3_1, c_R3_2⟩ := k_R3.c3
   go_wp2
   exact bodyPost_ret (v := .agg #[.bool (isN y), .slice p_h1 l_h1 c_h1, .slice q_h1 m_h1 d_h1]) (by simp [results, Try.results28, go_sem, c_R3_0, c_R3_1, c_R3_2]) rfl ((by obtain rfl := hQ0.out; exact ⟨_, rfl, (Eq.mp (congrArg (RatV _ _) (show y = x + y from (by rw [sgQ_zero.1 hz1.out, Rat.zero_add]))) (hK.get m3)), hK.old⟩))
  · --
   go_upto_region 3 with (fail)
   refine wp_region_tx w hK ?_
   clear hK
   apply txF (wants0 rfl); (· intro w' hK; have k_R2 := (hK.get m1); have ⟨c_R2_0, c_R2_1, c_R2_2⟩ := k_R2.c3; go_simp; (try go_bits); exact ⟨rfl, rfl⟩); simp only [Act.put, pA, pB, pC]
   obtain ⟨z2, hz2⟩ : ∃ b : Int, RowKit.Hid ((sgQ y) = b) := ⟨_, hid rfl⟩
   apply txH (v := .int .i64 z2) (wants0 rfl)
   · intro v1 hv1 w' hK; go_simp; (try go_bits); refine (sign_any (.agg #[.bool (isN y), .slice p_h1 l_h1 c_h1, .slice q_h1 m_h1 d_h1]) y w' (hK.get m3) ).mono ?_; rintro e w5 ⟨rfl, hb⟩; obtain rfl := hv1.out; exact ⟨_, rfl, (by rw [hz2.out]), hb⟩
   simp only [Act.put, pA, pB, pC]
   apply txF (wants0 rfl); (· intro w' hK; go_simp; (try go_bits); exact ⟨rfl, rfl⟩); simp only [Act.put, pA, pB, pC]
   refine txEnd (fun W7 hK => ?_)
   by_cases hz2 : z2 = 0
   · --
    subst hz2
    go_upto_region 4 with (fail)
    refine wp_region_tx w hK ?_
    clear hK
    apply txF (wants0 rfl); (· intro w' hK; have k_R1 := (hK.get m2); have ⟨c_R1_0, c_R1_1, c_R1_2⟩ := k_R1.c3; go_simp; (try go_bits); exact ⟨rfl, rfl⟩); simp only [Act.put, pA, pB, pC]
    apply txU 0 (Has w.heap.size R3 (.cells #[.bool (isN x), .slice p_h0 l_h0 c_h0, .slice q_h0 m_h0 d_h0] 47)) (wants0 rfl)
    · intro l1 hl1 w' hK; have k_R3 := (hK.get m0); have ⟨c_R3_0, c_R3_1, c_R3_2⟩ := k_R3.c3; have f_R3 := k_R3.fz; have ni := hdIs_of k_R3; go_simp; obtain rfl := hl1.out; exact ⟨rfl, ks_put (R := R3) hK k_R3.1 0 [.bool (isN x), .slice p_h0 l_h0 c_h0, .slice q_h0 m_h0 d_h0] (al1 (fun _ => has_put k_R3 _ _) (al1 (spL o_R2_R3 (hK.get m1)) (al1 (spL o_R1_R3 (hK.get m2)) (al1 (spQ (ni.no rfl) (hK.get m3)) (al1 (spN (ni.no rfl) (hK.get m4)) (al1 (spN (ni.no rfl) (hK.get m5)) (al1 (spQ (ni.no rfl) (hK.get m6)) (al1 (spN (ni.no rfl) (hK.get m7)) (al1 (spN (ni.no rfl) (hK.get m8)) aN)))))))))⟩
    simp only [Act.put, pB]
    refine txEnd (fun W8 hK => ?_)
    have k_R3 := (hK.get m0); have ⟨c_R3_0, c_R3_1, c_R3_2⟩ := k_R3.c3
    go_wp2
    exact bodyPost_ret (v := .agg #[.bool (isN x), .slice p_h0 l_h0 c_h0, .slice q_h0 m_h0 d_h0]) (by simp [results, Try.results28, go_sem, c_R3_0, c_R3_1, c_R3_2]) rfl ((by obtain rfl := hQ0.out; exact ⟨_, rfl, (Eq.mp (congrArg (RatV _ _) (show x = x + y from (by rw [sgQ_zero.1 hz2.out, Rat.add_zero]))) (hK.get m6)), hK.old⟩))
   · --
    go_upto_region 5 with (fail)
    have z_R1 : R1 < W7.heap.size := (hK.get m2).ltS
    have z_R2 : R2 < W7.heap.size := (hK.get m1).ltS
    have z_R3 : R3 < W7.heap.size := (hK.get m0).ltS
    have v_W7 := hK.old.size
    have hKo := hK
    replace hK := hK.re
    have hK0 := hK
    refine wp_region_float0 (W7) _ _ [0, 0, 0, 0, 0, 0, 2, 0, 0, 0, 0, 0, 0, 2, 2, 0, 0, 0, 3, 0, 4] (by kernel_rfl) (by kernel_rfl) (by kernel_rfl) (by kernel_rfl) (KS.drew hK0) (KS.drew hK) ?_
    clear hK hK0
    apply lxF0 (wants0 rfl); (· intro w' h0; go_simp; (try go_bits); exact ⟨rfl, rfl⟩); simp only [Act.put, pA, pB, pC]
    apply lxF0 (wants0 rfl); (· intro w' h0; have k_R1 := (h0.get m2); have c_R1_0 := k_R1.at 0 rfl; go_simp; (try go_bits); exact ⟨rfl, rfl⟩); simp only [Act.put, pA, pB, pC]
    apply lxF0 (wants0 rfl); (· intro w' h0; go_simp; (try go_bits); exact ⟨rfl, rfl⟩); simp only [Act.put, pA, pB, pC]
    apply lxF0 (wants0 rfl); (· intro w' h0; have k_R1 := (h0.get m2); have c_R1_1 := k_R1.at 1 rfl; go_simp; (try go_bits); exact ⟨rfl, rfl⟩); simp only [Act.put, pA, pB, pC]
    apply lxF0 (wants0 rfl); (· intro w' h0; go_simp; (try go_bits); exact ⟨rfl, rfl⟩); simp only [Act.put, pA, pB, pC]
    apply lxF0 (wants0 rfl); (· intro w' h0; have k_R2 := (h0.get m1); have c_R2_2 := k_R2.at 2 rfl; go_simp; (try go_bits); exact ⟨rfl, rfl⟩); simp only [Act.put, pA, pB, pC]
    apply lxE1 (α := Sl) (fun sv => .agg #[.slice sv.p sv.l sv.c]) (fun sv => [fun w => NatV w (.agg #[.slice sv.p sv.l sv.c]) (x.num.natAbs * one0 (den0 y))]) (wants0 rfl)
    · intro f1 l1 hl1 w' h0 hK; go_simp; (try go_bits); refine (qtimes_any (.agg #[.slice p_h0 l_h0 c_h0]) (.agg #[.slice q_h1 m_h1 d_h1]) x.num.natAbs (den0 y) w' (hK.get m7) (hK.get m5) (by omega)).mono ?_; rintro e w5 ⟨y0, rfl, u0, hb⟩; obtain ⟨rfl, rfl⟩ := hl1.out; obtain ⟨p_u0, c_u0, rfl, _⟩ := u0.digp; exact ⟨_, rfl, (⟨p_u0, _, c_u0⟩ : Sl), rfl, hb, .cons (fun w2 h2 => u0.below h2) (Lasts.nil _)⟩
    intro sv9
    simp only [Act.put, pA, pB, pC, pD, pE]
    apply lxF0 (wants0 rfl); (· intro w' h0; go_simp; (try go_bits); exact ⟨rfl, rfl⟩); simp only [Act.put, pA, pB, pC]
    apply lxF0 (wants0 rfl); (· intro w' h0; have k_R2 := (h0.get m1); have c_R2_0 := k_R2.at 0 rfl; go_simp; (try go_bits); exact ⟨rfl, rfl⟩); simp only [Act.put, pA, pB, pC]
    apply lxF0 (wants0 rfl); (· intro w' h0; go_simp; (try go_bits); exact ⟨rfl, rfl⟩); simp only [Act.put, pA, pB, pC]
    apply lxF0 (wants0 rfl); (· intro w' h0; have k_R2 := (h0.get m1); have c_R2_1 := k_R2.at 1 rfl; go_simp; (try go_bits); exact ⟨rfl, rfl⟩); simp only [Act.put, pA, pB, pC]
    apply lxF0 (wants0 rfl); (· intro w' h0; go_simp; (try go_bits); exact ⟨rfl, rfl⟩); simp only [Act.put, pA, pB, pC]
    apply lxF0 (wants0 rfl); (· intro w' h0; have k_R1 := (h0.get m2); have c_R1_2 := k_R1.at 2 rfl; go_simp; (try go_bits); exact ⟨rfl, rfl⟩); simp only [Act.put, pA, pB, pC]
    apply lxE1 (α := Sl) (fun sv => .agg #[.slice sv.p sv.l sv.c]) (fun sv => [fun w => NatV w (.agg #[.slice sv.p sv.l sv.c]) (y.num.natAbs * one0 (den0 x))]) (wants0 rfl)
    · intro f1 l1 hl1 w' h0 hK; go_simp; (try go_bits); refine (qtimes_any (.agg #[.slice p_h1 l_h1 c_h1]) (.agg #[.slice q_h0 m_h0 d_h0]) y.num.natAbs (den0 x) w' (hK.get m5) (hK.get m9) (by omega)).mono ?_; rintro e w5 ⟨y0, rfl, u0, hb⟩; obtain ⟨rfl, rfl⟩ := hl1.out; obtain ⟨p_u0, c_u0, rfl, _⟩ := u0.digp; exact ⟨_, rfl, (⟨p_u0, _, c_u0⟩ : Sl), rfl, hb, .cons (fun w2 h2 => u0.below h2) (Lasts.nil _)⟩
    intro sv10
    simp only [Act.put, pA, pB, pC, pD, pE]
    obtain ⟨b1, hb1⟩ : ∃ b : Bool, RowKit.Hid ((sgnd ((isN x)) (x.num.natAbs * one0 (den0 y)) ((isN y)) (y.num.natAbs * one0 (den0 x))).1 = b) := ⟨_, hid rfl⟩
    apply lxE1 (α := Sl) (fun sv => .tuple #[.bool b1, .agg #[.slice sv.p sv.l sv.c]]) (fun sv => [fun w => NatV w (.agg #[.slice sv.p sv.l sv.c]) ((sgnd ((isN x)) (x.num.natAbs * one0 (den0 y)) ((isN y)) (y.num.natAbs * one0 (den0 x))).2)]) (wants0 rfl)
    · intro f1 l1 hl1 w' h0 hK; go_simp; (try go_bits); refine (signed_any ((isN x)) ((isN y)) (.agg #[.slice sv9.p sv9.l sv9.c]) (.agg #[.slice sv10.p sv10.l sv10.c]) (x.num.natAbs * one0 (den0 y)) (y.num.natAbs * one0 (den0 x)) w' (hK.get m1) (hK.get m0) (by omega) (by omega)).mono ?_; rintro e w5 ⟨y0, rfl, u0, hb⟩; obtain ⟨rfl, rfl⟩ := hl1.out; obtain ⟨p_u0, c_u0, rfl, _⟩ := u0.digp; exact ⟨_, rfl, (⟨p_u0, _, c_u0⟩ : Sl), (by rw [hb1.out]), hb, .cons (fun w2 h2 => u0.below h2) (Lasts.nil _)⟩
    intro sv11
    simp only [Act.put, pA, pB, pC, pD, pE]
    iterate 3 (apply lxF0 (wants0 rfl); (· intro w' h0; go_simp; (try go_bits); exact ⟨rfl, rfl⟩); simp only [Act.put, pA, pB, pC])
    apply lxA0 (.cells #[.slice none 0 0] 45) (wants0 rfl)
    · intro w' h0; go_simp; rfl
    intro R12
    simp only [mkOf, Act.put, pA, pB, pC]
    apply lxF0 (wants0 rfl); (· intro w' h0; go_simp; (try go_bits); exact ⟨rfl, rfl⟩); simp only [Act.put, pA, pB, pC]
    apply lxU1 0 (Has W7.heap.size R12 (.cells #[.slice sv11.p sv11.l sv11.c] 45)) (wants0 rfl)
    · intro g0 l1 hl1 w' h0 hK; have k_R12 := (hK.get m0); have c_R12_0 := k_R12.at 0 rfl; have f_R12 := k_R12.fz; have ni := hdIs_of k_R12; go_simp; obtain ⟨rfl, rfl⟩ := hl1.out; exact ⟨rfl, ks_put (R := R12) h0 k_R12.1 0 [.slice sv11.p sv11.l sv11.c] (al1 (spL (Nat.lt_of_lt_of_le z_R3 k_R12.1) (h0.get m0)) (al1 (spL (Nat.lt_of_lt_of_le z_R2 k_R12.1) (h0.get m1)) (al1 (spL (Nat.lt_of_lt_of_le z_R1 k_R12.1) (h0.get m2)) (al1 (spQ (ni.no rfl) (h0.get m3)) (al1 (spN (ni.no rfl) (h0.get m4)) (al1 (spN (ni.no rfl) (h0.get m5)) (al1 (spQ (ni.no rfl) (h0.get m6)) (al1 (spN (ni.no rfl) (h0.get m7)) (al1 (spN (ni.no rfl) (h0.get m8)) aN))))))))), ks_put (R := R12) hK k_R12.1 0 [.slice sv11.p sv11.l sv11.c] (al1 (fun _ => has_put k_R12 _ _) (al1 (spN (ni.no rfl) (hK.get m1)) (al1 (spN (ni.no rfl) (hK.get m2)) (al1 (spN (ni.no rfl) (hK.get m3)) (al1 (spL (Nat.lt_of_lt_of_le z_R3 k_R12.1) (hK.get m4)) (al1 (spL (Nat.lt_of_lt_of_le z_R2 k_R12.1) (hK.get m5)) (al1 (spL (Nat.lt_of_lt_of_le z_R1 k_R12.1) (hK.get m6)) (al1 (spQ (ni.no rfl) (hK.get m7)) (al1 (spN (ni.no rfl) (hK.get m8)) (al1 (spN (ni.no rfl) (hK.get m9)) (al1 (spQ (ni.no rfl) (hK.get m10)) (al1 (spN (ni.no rfl) (hK.get m11)) (al1 (spN (ni.no rfl) (hK.get m12)) aN)))))))))))))⟩
    simp only [Act.put, pB]
    refine lxEnd (fun W13 hK => ?_)
    have o_R1_R12 : R1 < R12 := Nat.lt_of_lt_of_le z_R1 (hK.get m0).1
    have o_R2_R12 : R2 < R12 := Nat.lt_of_lt_of_le z_R2 (hK.get m0).1
    have o_R3_R12 : R3 < R12 := Nat.lt_of_lt_of_le z_R3 (hK.get m0).1
    replace hK := hKo.over hK
    clear hKo
    go_upto_region 6 with (fail)
    refine wp_region_tx w hK ?_
    clear hK
    apply txF (wants0 rfl); (· intro w' hK; go_simp; (try go_bits); exact ⟨rfl, rfl⟩); simp only [Act.put, pA, pB, pC]
    apply txF (wants0 rfl); (· intro w' hK; have k_R1 := (hK.get m6); have c_R1_2 := k_R1.at 2 rfl; go_simp; (try go_bits); exact ⟨rfl, rfl⟩); simp only [Act.put, pA, pB, pC]
    obtain ⟨b2, hb2⟩ : ∃ b : Bool, RowKit.Hid (((den0 x) == 0) = b) := ⟨_, hid rfl⟩
    apply txH (v := .bool b2) (wants0 rfl)
    · intro v1 hv1 w' hK; go_simp; (try go_bits); refine (isZero_any (.agg #[.slice q_h0 m_h0 d_h0]) (den0 x) w' (hK.get m12) ).mono ?_; rintro e w5 ⟨rfl, hb⟩; obtain rfl := hv1.out; exact ⟨_, rfl, (by rw [hb2.out]), hb⟩
    simp only [Act.put, pA, pB, pC]
    apply txF (wants0 rfl); (· intro w' hK; go_simp; (try go_bits); exact ⟨rfl, rfl⟩); simp only [Act.put, pA, pB, pC]
    cases b2
    · --
     iterate 3 (apply txN (j := 3) (d := 36) (b := true) rfl rfl rfl rfl; simp only [Act.put, pA, pB, pC])
     apply txF (wants0 rfl); (· intro w' hK; go_simp; (try go_bits); exact ⟨rfl, rfl⟩); simp only [Act.put, pA, pB, pC]
     refine txEnd (fun W14 hK => ?_)
     go_upto_region 8 with (fail)
     have hK0 := hK.subl (sK (sK (sK (sK (sC (sK (sK (sK (sK (sK (sK (sK (sK sZ)))))))))))))
     refine wp_region_float0 (w) _ _ [0, 0, 0, 2, 0, 0, 2, 2, 4] (by kernel_rfl) (by kernel_rfl) (by kernel_rfl) (by kernel_rfl) (KS.drew hK0) (KS.drew hK) ?_
     clear hK hK0
     apply lxF0 (wants0 rfl); (· intro w' h0; go_simp; (try go_bits); exact ⟨rfl, rfl⟩); simp only [Act.put, pA, pB, pC]
     apply lxF0 (wants0 rfl); (· intro w' h0; have k_R12 := (h0.get m0); have c_R12_0 := k_R12.at 0 rfl; go_simp; (try go_bits); exact ⟨rfl, rfl⟩); simp only [Act.put, pA, pB, pC]
     apply lxF0 (wants0 rfl); (· intro w' h0; have k_R1 := (h0.get m5); have ⟨c_R1_0, c_R1_1, c_R1_2⟩ := k_R1.c3; go_simp; (try go_bits); exact ⟨rfl, rfl⟩); simp only [Act.put, pA, pB, pC]
     apply lxE1 (α := Sl) (fun sv => .agg #[.slice sv.p sv.l sv.c]) (fun sv => [fun w => NatV w (.agg #[.slice sv.p sv.l sv.c]) x.den]) (wants0 rfl)
     · intro f1 l1 hl1 w' h0 hK; go_simp; (try go_bits); refine (den_any (.agg #[.bool (isN x), .slice p_h0 l_h0 c_h0, .slice q_h0 m_h0 d_h0]) x w' (hK.get m10) ).mono ?_; rintro e w5 ⟨y0, rfl, u0, hb⟩; obtain ⟨rfl, rfl⟩ := hl1.out; obtain ⟨p_u0, c_u0, rfl, _⟩ := u0.digp; exact ⟨_, rfl, (⟨p_u0, _, c_u0⟩ : Sl), rfl, hb, .cons (fun w2 h2 => u0.below h2) (Lasts.nil _)⟩
     intro sv15
     simp only [Act.put, pA, pB, pC, pD, pE]
     apply lxF0 (wants0 rfl); (· intro w' h0; go_simp; (try go_bits); exact ⟨rfl, rfl⟩); simp only [Act.put, pA, pB, pC]
     apply lxF0 (wants0 rfl); (· intro w' h0; have k_R2 := (h0.get m4); have c_R2_2 := k_R2.at 2 rfl; go_simp; (try go_bits); exact ⟨rfl, rfl⟩); simp only [Act.put, pA, pB, pC]
     apply lxE1 (α := Sl) (fun sv => .agg #[.slice sv.p sv.l sv.c]) (fun sv => [fun w => NatV w (.agg #[.slice sv.p sv.l sv.c]) (x.den * one0 (den0 y))]) (wants0 rfl)
     · intro f1 l1 hl1 w' h0 hK; go_simp; (try go_bits); refine (qtimes_any (.agg #[.slice sv15.p sv15.l sv15.c]) (.agg #[.slice q_h1 m_h1 d_h1]) x.den (den0 y) w' (hK.get m0) (hK.get m10) (by omega)).mono ?_; rintro e w5 ⟨y0, rfl, u0, hb⟩; obtain ⟨rfl, rfl⟩ := hl1.out; obtain ⟨p_u0, c_u0, rfl, _⟩ := u0.digp; exact ⟨_, rfl, (⟨p_u0, _, c_u0⟩ : Sl), rfl, hb, .cons (fun w2 h2 => u0.below h2) (Lasts.nil _)⟩
     intro sv16
     simp only [Act.put, pA, pB, pC, pD, pE]
     apply lxE1 (α := Duo Sl Sl) (fun sv => .agg #[.bool (isN (ofS b1 ((sgnd ((isN x)) (x.num.natAbs * one0 (den0 y)) ((isN y)) (y.num.natAbs * one0 (den0 x))).2) (x.den * one0 (den0 y)))), .slice sv.a.p sv.a.l sv.a.c, .slice sv.b.p sv.b.l sv.b.c]) (fun sv => [fun w => RatV w (.agg #[.bool (isN (ofS b1 ((sgnd ((isN x)) (x.num.natAbs * one0 (den0 y)) ((isN y)) (y.num.natAbs * one0 (den0 x))).2) (x.den * one0 (den0 y)))), .slice sv.a.p sv.a.l sv.a.c, .slice sv.b.p sv.b.l sv.b.c]) (ofS b1 ((sgnd ((isN x)) (x.num.natAbs * one0 (den0 y)) ((isN y)) (y.num.natAbs * one0 (den0 x))).2) (x.den * one0 (den0 y))), fun w => NatV w (.agg #[.slice sv.a.p sv.a.l sv.a.c]) ((ofS b1 ((sgnd ((isN x)) (x.num.natAbs * one0 (den0 y)) ((isN y)) (y.num.natAbs * one0 (den0 x))).2) (x.den * one0 (den0 y))).num.natAbs), fun w => NatV w (.agg #[.slice sv.b.p sv.b.l sv.b.c]) (den0 (ofS b1 ((sgnd ((isN x)) (x.num.natAbs * one0 (den0 y)) ((isN y)) (y.num.natAbs * one0 (den0 x))).2) (x.den * one0 (den0 y))))]) (wants0 rfl)
     · intro f1 l1 hl1 w' h0 hK; go_simp; (try go_bits); refine (reduced_any (.agg #[.slice sv11.p sv11.l sv11.c]) (.agg #[.slice sv16.p sv16.l sv16.c]) b1 ((sgnd ((isN x)) (x.num.natAbs * one0 (den0 y)) ((isN y)) (y.num.natAbs * one0 (den0 x))).2) (x.den * one0 (den0 y)) w' (hK.get m3) (hK.get m0) (by first | assumption | omega) (by omega) (by omega)).mono ?_; rintro e w5 ⟨y0, rfl, u0, hb⟩; obtain ⟨rfl, rfl⟩ := hl1.out; have u0_0 := u0; obtain ⟨p_u0, l_u0, c_u0, q_u0, m_u0, d_u0, rfl, u0_1, u0_2⟩ := u0; exact ⟨_, rfl, (⟨⟨p_u0, l_u0, c_u0⟩, ⟨q_u0, m_u0, d_u0⟩⟩ : Duo Sl Sl), rfl, hb, .cons (fun w2 h2 => u0_0.below h2) (.cons (fun w2 h2 => u0_1.below h2) (.cons (fun w2 h2 => u0_2.below h2) (Lasts.nil _)))⟩
     intro sv17
     simp only [Act.put, pA, pB, pC, pD, pE]
     apply lxU1 9 (Has w.heap.size R3 (.cells #[.bool (isN (ofS b1 ((sgnd ((isN x)) (x.num.natAbs * one0 (den0 y)) ((isN y)) (y.num.natAbs * one0 (den0 x))).2) (x.den * one0 (den0 y)))), .slice sv17.a.p sv17.a.l sv17.a.c, .slice sv17.b.p sv17.b.l sv17.b.c] 47)) (wants0 rfl)
     · intro g0 l1 hl1 w' h0 hK; have k_R3 := (hK.get m9); have ⟨c_R3_0, c_R3_1, c_R3_2⟩ := k_R3.c3; have f_R3 := k_R3.fz; have ni := hdIs_of k_R3; go_simp; obtain ⟨rfl, rfl⟩ := hl1.out; exact ⟨rfl, ks_put (R := R3) h0 k_R3.1 0 [.bool (isN (ofS b1 ((sgnd ((isN x)) (x.num.natAbs * one0 (den0 y)) ((isN y)) (y.num.natAbs * one0 (den0 x))).2) (x.den * one0 (den0 y)))), .slice sv17.a.p sv17.a.l sv17.a.c, .slice sv17.b.p sv17.b.l sv17.b.c] (al1 (spG o_R3_R12 (h0.get m0)) (al1 (spN (ni.no rfl) (h0.get m1)) (al1 (spN (ni.no rfl) (h0.get m2)) (al1 (spN (ni.no rfl) (h0.get m3)) (al1 (spL o_R2_R3 (h0.get m4)) (al1 (spL o_R1_R3 (h0.get m5)) (al1 (spQ (ni.no rfl) (h0.get m6)) (al1 (spN (ni.no rfl) (h0.get m7)) (al1 (spN (ni.no rfl) (h0.get m8)) (al1 (spQ (ni.no rfl) (h0.get m9)) (al1 (spN (ni.no rfl) (h0.get m10)) (al1 (spN (ni.no rfl) (h0.get m11)) aN)))))))))))), ks_put (R := R3) hK k_R3.1 0 [.bool (isN (ofS b1 ((sgnd ((isN x)) (x.num.natAbs * one0 (den0 y)) ((isN y)) (y.num.natAbs * one0 (den0 x))).2) (x.den * one0 (den0 y)))), .slice sv17.a.p sv17.a.l sv17.a.c, .slice sv17.b.p sv17.b.l sv17.b.c] (al1 (spQ (ni.no rfl) (hK.get m0)) (al1 (spN (ni.no rfl) (hK.get m1)) (al1 (spN (ni.no rfl) (hK.get m2)) (al1 (spN (ni.no rfl) (hK.get m3)) (al1 (spN (ni.no rfl) (hK.get m4)) (al1 (spG o_R3_R12 (hK.get m5)) (al1 (spN (ni.no rfl) (hK.get m6)) (al1 (spN (ni.no rfl) (hK.get m7)) (al1 (spN (ni.no rfl) (hK.get m8)) (al1 (fun _ => has_put k_R3 _ _) (al1 (spL o_R2_R3 (hK.get m10)) (al1 (spL o_R1_R3 (hK.get m11)) (al1 (spQ (ni.no rfl) (hK.get m12)) (al1 (spN (ni.no rfl) (hK.get m13)) (al1 (spN (ni.no rfl) (hK.get m14)) (al1 (spQ (ni.no rfl) (hK.get m15)) (al1 (spN (ni.no rfl) (hK.get m16)) (al1 (spN (ni.no rfl) (hK.get m17)) aN))))))))))))))))))⟩
     simp only [Act.put, pB, pC]
     refine lxEnd (fun W18 hK => ?_)
     have k_R3 := (hK.get m9); have ⟨c_R3_0, c_R3_1, c_R3_2⟩ := k_R3.c3
     go_wp2
     exact bodyPost_ret (v := .agg #[.bool (isN (ofS b1 ((sgnd ((isN x)) (x.num.natAbs * one0 (den0 y)) ((isN y)) (y.num.natAbs * one0 (den0 x))).2) (x.den * one0 (den0 y)))), .slice sv17.a.p sv17.a.l sv17.a.c, .slice sv17.b.p sv17.b.l sv17.b.c]) (by simp [results, Try.results28, go_sem, c_R3_0, c_R3_1, c_R3_2]) rfl ((by obtain rfl := hQ0.out; exact ⟨_, rfl, (Eq.mp (congrArg (RatV _ _) (show ofS b1 ((sgnd ((isN x)) (x.num.natAbs * one0 (den0 y)) ((isN y)) (y.num.natAbs * one0 (den0 x))).2) (x.den * one0 (den0 y)) = x + y from (add_made x y hb1.out))) (hK.get m0)), hK.old⟩))
    · --
     apply txF (wantsg (j := 3) (d := 36) (b := true) rfl rfl rfl rfl); (· intro w' hK; go_simp; (try go_bits); exact ⟨rfl, rfl⟩); simp only [Act.put, pA, pB, pC]
     apply txF (wantsg (j := 3) (d := 36) (b := true) rfl rfl rfl rfl); (· intro w' hK; have k_R2 := (hK.get m5); have c_R2_2 := k_R2.at 2 rfl; go_simp; (try go_bits); exact ⟨rfl, rfl⟩); simp only [Act.put, pA, pB, pC]
     obtain ⟨b3, hb3⟩ : ∃ b : Bool, RowKit.Hid (((den0 y) == 0) = b) := ⟨_, hid rfl⟩
     apply txH (v := .bool b3) (wantsg (j := 3) (d := 36) (b := true) rfl rfl rfl rfl)
     · intro v1 hv1 w' hK; go_simp; (try go_bits); refine (isZero_any (.agg #[.slice q_h1 m_h1 d_h1]) (den0 y) w' (hK.get m9) ).mono ?_; rintro e w5 ⟨rfl, hb⟩; obtain rfl := hv1.out; exact ⟨_, rfl, (by rw [hb3.out]), hb⟩
     simp only [Act.put, pA, pB, pC]
     apply txF (wants0 rfl); (· intro w' hK; go_simp; (try go_bits); exact ⟨rfl, rfl⟩); simp only [Act.put, pA, pB, pC]
     refine txEnd (fun W19 hK => ?_)
     cases b3
     · --
      go_upto_region 8 with (fail)
      have hK0 := hK.subl (sK (sK (sK (sK (sC (sK (sK (sK (sK (sK (sK (sK (sK sZ)))))))))))))
      refine wp_region_float0 (w) _ _ [0, 0, 0, 2, 0, 0, 2, 2, 4] (by kernel_rfl) (by kernel_rfl) (by kernel_rfl) (by kernel_rfl) (KS.drew hK0) (KS.drew hK) ?_
      clear hK hK0
      apply lxF0 (wants0 rfl); (· intro w' h0; go_simp; (try go_bits); exact ⟨rfl, rfl⟩); simp only [Act.put, pA, pB, pC]
      apply lxF0 (wants0 rfl); (· intro w' h0; have k_R12 := (h0.get m0); have c_R12_0 := k_R12.at 0 rfl; go_simp; (try go_bits); exact ⟨rfl, rfl⟩); simp only [Act.put, pA, pB, pC]
      apply lxF0 (wants0 rfl); (· intro w' h0; have k_R1 := (h0.get m5); have ⟨c_R1_0, c_R1_1, c_R1_2⟩ := k_R1.c3; go_simp; (try go_bits); exact ⟨rfl, rfl⟩); simp only [Act.put, pA, pB, pC]
      apply lxE1 (α := Sl) (fun sv => .agg #[.slice sv.p sv.l sv.c]) (fun sv => [fun w => NatV w (.agg #[.slice sv.p sv.l sv.c]) x.den]) (wants0 rfl)
      · intro f1 l1 hl1 w' h0 hK; go_simp; (try go_bits); refine (den_any (.agg #[.bool (isN x), .slice p_h0 l_h0 c_h0, .slice q_h0 m_h0 d_h0]) x w' (hK.get m10) ).mono ?_; rintro e w5 ⟨y0, rfl, u0, hb⟩; obtain ⟨rfl, rfl⟩ := hl1.out; obtain ⟨p_u0, c_u0, rfl, _⟩ := u0.digp; exact ⟨_, rfl, (⟨p_u0, _, c_u0⟩ : Sl), rfl, hb, .cons (fun w2 h2 => u0.below h2) (Lasts.nil _)⟩
      intro sv20
      simp only [Act.put, pA, pB, pC, pD, pE]
      apply lxF0 (wants0 rfl); (· intro w' h0; go_simp; (try go_bits); exact ⟨rfl, rfl⟩); simp only [Act.put, pA, pB, pC]
      apply lxF0 (wants0 rfl); (· intro w' h0; have k_R2 := (h0.get m4); have c_R2_2 := k_R2.at 2 rfl; go_simp; (try go_bits); exact ⟨rfl, rfl⟩); simp only [Act.put, pA, pB, pC]
      apply lxE1 (α := Sl) (fun sv => .agg #[.slice sv.p sv.l sv.c]) (fun sv => [fun w => NatV w (.agg #[.slice sv.p sv.l sv.c]) (x.den * one0 (den0 y))]) (wants0 rfl)
      · intro f1 l1 hl1 w' h0 hK; go_simp; (try go_bits); refine (qtimes_any (.agg #[.slice sv20.p sv20.l sv20.c]) (.agg #[.slice q_h1 m_h1 d_h1]) x.den (den0 y) w' (hK.get m0) (hK.get m10) (by omega)).mono ?_; rintro e w5 ⟨y0, rfl, u0, hb⟩; obtain ⟨rfl, rfl⟩ := hl1.out; obtain ⟨p_u0, c_u0, rfl, _⟩ := u0.digp; exact ⟨_, rfl, (⟨p_u0, _, c_u0⟩ : Sl), rfl, hb, .cons (fun w2 h2 => u0.below h2) (Lasts.nil _)⟩
      intro sv21
      simp only [Act.put, pA, pB, pC, pD, pE]
      apply lxE1 (α := Duo Sl Sl) (fun sv => .agg #[.bool (isN (ofS b1 ((sgnd ((isN x)) (x.num.natAbs * one0 (den0 y)) ((isN y)) (y.num.natAbs * one0 (den0 x))).2) (x.den * one0 (den0 y)))), .slice sv.a.p sv.a.l sv.a.c, .slice sv.b.p sv.b.l sv.b.c]) (fun sv => [fun w => RatV w (.agg #[.bool (isN (ofS b1 ((sgnd ((isN x)) (x.num.natAbs * one0 (den0 y)) ((isN y)) (y.num.natAbs * one0 (den0 x))).2) (x.den * one0 (den0 y)))), .slice sv.a.p sv.a.l sv.a.c, .slice sv.b.p sv.b.l sv.b.c]) (ofS b1 ((sgnd ((isN x)) (x.num.natAbs * one0 (den0 y)) ((isN y)) (y.num.natAbs * one0 (den0 x))).2) (x.den * one0 (den0 y))), fun w => NatV w (.agg #[.slice sv.a.p sv.a.l sv.a.c]) ((ofS b1 ((sgnd ((isN x)) (x.num.natAbs * one0 (den0 y)) ((isN y)) (y.num.natAbs * one0 (den0 x))).2) (x.den * one0 (den0 y))).num.natAbs), fun w => NatV w (.agg #[.slice sv.b.p sv.b.l sv.b.c]) (den0 (ofS b1 ((sgnd ((isN x)) (x.num.natAbs * one0 (den0 y)) ((isN y)) (y.num.natAbs * one0 (den0 x))).2) (x.den * one0 (den0 y))))]) (wants0 rfl)
      · intro f1 l1 hl1 w' h0 hK; go_simp; (try go_bits); refine (reduced_any (.agg #[.slice sv11.p sv11.l sv11.c]) (.agg #[.slice sv21.p sv21.l sv21.c]) b1 ((sgnd ((isN x)) (x.num.natAbs * one0 (den0 y)) ((isN y)) (y.num.natAbs * one0 (den0 x))).2) (x.den * one0 (den0 y)) w' (hK.get m3) (hK.get m0) (by first | assumption | omega) (by omega) (by omega)).mono ?_; rintro e w5 ⟨y0, rfl, u0, hb⟩; obtain ⟨rfl, rfl⟩ := hl1.out; have u0_0 := u0; obtain ⟨p_u0, l_u0, c_u0, q_u0, m_u0, d_u0, rfl, u0_1, u0_2⟩ := u0; exact ⟨_, rfl, (⟨⟨p_u0, l_u0, c_u0⟩, ⟨q_u0, m_u0, d_u0⟩⟩ : Duo Sl Sl), rfl, hb, .cons (fun w2 h2 => u0_0.below h2) (.cons (fun w2 h2 => u0_1.below h2) (.cons (fun w2 h2 => u0_2.below h2) (Lasts.nil _)))⟩
      intro sv22
      simp only [Act.put, pA, pB, pC, pD, pE]
      apply lxU1 9 (Has w.heap.size R3 (.cells #[.bool (isN (ofS b1 ((sgnd ((isN x)) (x.num.natAbs * one0 (den0 y)) ((isN y)) (y.num.natAbs * one0 (den0 x))).2) (x.den * one0 (den0 y)))), .slice sv22.a.p sv22.a.l sv22.a.c, .slice sv22.b.p sv22.b.l sv22.b.c] 47)) (wants0 rfl)
      · intro g0 l1 hl1 w' h0 hK; have k_R3 := (hK.get m9); have ⟨c_R3_0, c_R3_1, c_R3_2⟩ := k_R3.c3; have f_R3 := k_R3.fz; have ni := hdIs_of k_R3; go_simp; obtain ⟨rfl, rfl⟩ := hl1.out; exact ⟨rfl, ks_put (R := R3) h0 k_R3.1 0 [.bool (isN (ofS b1 ((sgnd ((isN x)) (x.num.natAbs * one0 (den0 y)) ((isN y)) (y.num.natAbs * one0 (den0 x))).2) (x.den * one0 (den0 y)))), .slice sv22.a.p sv22.a.l sv22.a.c, .slice sv22.b.p sv22.b.l sv22.b.c] (al1 (spG o_R3_R12 (h0.get m0)) (al1 (spN (ni.no rfl) (h0.get m1)) (al1 (spN (ni.no rfl) (h0.get m2)) (al1 (spN (ni.no rfl) (h0.get m3)) (al1 (spL o_R2_R3 (h0.get m4)) (al1 (spL o_R1_R3 (h0.get m5)) (al1 (spQ (ni.no rfl) (h0.get m6)) (al1 (spN (ni.no rfl) (h0.get m7)) (al1 (spN (ni.no rfl) (h0.get m8)) (al1 (spQ (ni.no rfl) (h0.get m9)) (al1 (spN (ni.no rfl) (h0.get m10)) (al1 (spN (ni.no rfl) (h0.get m11)) aN)))))))))))), ks_put (R := R3) hK k_R3.1 0 [.bool (isN (ofS b1 ((sgnd ((isN x)) (x.num.natAbs * one0 (den0 y)) ((isN y)) (y.num.natAbs * one0 (den0 x))).2) (x.den * one0 (den0 y)))), .slice sv22.a.p sv22.a.l sv22.a.c, .slice sv22.b.p sv22.b.l sv22.b.c] (al1 (spQ (ni.no rfl) (hK.get m0)) (al1 (spN (ni.no rfl) (hK.get m1)) (al1 (spN (ni.no rfl) (hK.get m2)) (al1 (spN (ni.no rfl) (hK.get m3)) (al1 (spN (ni.no rfl) (hK.get m4)) (al1 (spG o_R3_R12 (hK.get m5)) (al1 (spN (ni.no rfl) (hK.get m6)) (al1 (spN (ni.no rfl) (hK.get m7)) (al1 (spN (ni.no rfl) (hK.get m8)) (al1 (fun _ => has_put k_R3 _ _) (al1 (spL o_R2_R3 (hK.get m10)) (al1 (spL o_R1_R3 (hK.get m11)) (al1 (spQ (ni.no rfl) (hK.get m12)) (al1 (spN (ni.no rfl) (hK.get m13)) (al1 (spN (ni.no rfl) (hK.get m14)) (al1 (spQ (ni.no rfl) (hK.get m15)) (al1 (spN (ni.no rfl) (hK.get m16)) (al1 (spN (ni.no rfl) (hK.get m17)) aN))))))))))))))))))⟩
      simp only [Act.put, pB, pC]
      refine lxEnd (fun W23 hK => ?_)
      have k_R3 := (hK.get m9); have ⟨c_R3_0, c_R3_1, c_R3_2⟩ := k_R3.c3
      go_wp2
      exact bodyPost_ret (v := .agg #[.bool (isN (ofS b1 ((sgnd ((isN x)) (x.num.natAbs * one0 (den0 y)) ((isN y)) (y.num.natAbs * one0 (den0 x))).2) (x.den * one0 (den0 y)))), .slice sv22.a.p sv22.a.l sv22.a.c, .slice sv22.b.p sv22.b.l sv22.b.c]) (by simp [results, Try.results28, go_sem, c_R3_0, c_R3_1, c_R3_2]) rfl ((by obtain rfl := hQ0.out; exact ⟨_, rfl, (Eq.mp (congrArg (RatV _ _) (show ofS b1 ((sgnd ((isN x)) (x.num.natAbs * one0 (den0 y)) ((isN y)) (y.num.natAbs * one0 (den0 x))).2) (x.den * one0 (den0 y)) = x + y from (add_made x y hb1.out))) (hK.get m0)), hK.old⟩))
     · --
      go_upto_region 7 with (fail)
      refine wp_region_tx w hK ?_
      clear hK
      apply txF (wants0 rfl); (· intro w' hK; go_simp; (try go_bits); exact ⟨rfl, rfl⟩); simp only [Act.put, pA, pB, pC]
      apply txF (wants0 rfl); (· intro w' hK; have k_R12 := (hK.get m0); have c_R12_0 := k_R12.at 0 rfl; go_simp; (try go_bits); exact ⟨rfl, rfl⟩); simp only [Act.put, pA, pB, pC]
      apply txE (α := Duo Sl Sl) (fun sv => .agg #[.bool (isN (ofS b1 ((sgnd ((isN x)) (x.num.natAbs * one0 (den0 y)) ((isN y)) (y.num.natAbs * one0 (den0 x))).2) 1)), .slice sv.a.p sv.a.l sv.a.c, .slice sv.b.p sv.b.l sv.b.c]) (fun sv => [fun w => RatV w (.agg #[.bool (isN (ofS b1 ((sgnd ((isN x)) (x.num.natAbs * one0 (den0 y)) ((isN y)) (y.num.natAbs * one0 (den0 x))).2) 1)), .slice sv.a.p sv.a.l sv.a.c, .slice sv.b.p sv.b.l sv.b.c]) (ofS b1 ((sgnd ((isN x)) (x.num.natAbs * one0 (den0 y)) ((isN y)) (y.num.natAbs * one0 (den0 x))).2) 1), fun w => NatV w (.agg #[.slice sv.a.p sv.a.l sv.a.c]) ((ofS b1 ((sgnd ((isN x)) (x.num.natAbs * one0 (den0 y)) ((isN y)) (y.num.natAbs * one0 (den0 x))).2) 1).num.natAbs), fun w => NatV w (.agg #[.slice sv.b.p sv.b.l sv.b.c]) (den0 (ofS b1 ((sgnd ((isN x)) (x.num.natAbs * one0 (den0 y)) ((isN y)) (y.num.natAbs * one0 (den0 x))).2) 1))]) (wants0 rfl)
      · intro f1 l1 hl1 w' hK; go_simp; (try go_bits); refine (whole_any b1 (.agg #[.slice sv11.p sv11.l sv11.c]) ((sgnd ((isN x)) (x.num.natAbs * one0 (den0 y)) ((isN y)) (y.num.natAbs * one0 (den0 x))).2) w' (hK.get m1)).mono ?_; rintro e w5 ⟨y0, rfl, u0, hb⟩; obtain ⟨rfl, rfl⟩ := hl1.out; have u0_0 := u0; obtain ⟨p_u0, l_u0, c_u0, q_u0, m_u0, d_u0, rfl, u0_1, u0_2⟩ := u0; exact ⟨_, rfl, (⟨⟨p_u0, l_u0, c_u0⟩, ⟨q_u0, m_u0, d_u0⟩⟩ : Duo Sl Sl), rfl, hb, .cons (fun w2 h2 => u0_0.below h2) (.cons (fun w2 h2 => u0_1.below h2) (.cons (fun w2 h2 => u0_2.below h2) (Lasts.nil _)))⟩
      intro sv24
      simp only [Act.put, pA, pB, pC, pD, pE]
      apply txU 7 (Has w.heap.size R3 (.cells #[.bool (isN (ofS b1 ((sgnd ((isN x)) (x.num.natAbs * one0 (den0 y)) ((isN y)) (y.num.natAbs * one0 (den0 x))).2) 1)), .slice sv24.a.p sv24.a.l sv24.a.c, .slice sv24.b.p sv24.b.l sv24.b.c] 47)) (wants0 rfl)
      · intro l1 hl1 w' hK; have k_R3 := (hK.get m7); have ⟨c_R3_0, c_R3_1, c_R3_2⟩ := k_R3.c3; have f_R3 := k_R3.fz; have ni := hdIs_of k_R3; go_simp; obtain rfl := hl1.out; exact ⟨rfl, ks_put (R := R3) hK k_R3.1 0 [.bool (isN (ofS b1 ((sgnd ((isN x)) (x.num.natAbs * one0 (den0 y)) ((isN y)) (y.num.natAbs * one0 (den0 x))).2) 1)), .slice sv24.a.p sv24.a.l sv24.a.c, .slice sv24.b.p sv24.b.l sv24.b.c] (al1 (spQ (ni.no rfl) (hK.get m0)) (al1 (spN (ni.no rfl) (hK.get m1)) (al1 (spN (ni.no rfl) (hK.get m2)) (al1 (spG o_R3_R12 (hK.get m3)) (al1 (spN (ni.no rfl) (hK.get m4)) (al1 (spN (ni.no rfl) (hK.get m5)) (al1 (spN (ni.no rfl) (hK.get m6)) (al1 (fun _ => has_put k_R3 _ _) (al1 (spL o_R2_R3 (hK.get m8)) (al1 (spL o_R1_R3 (hK.get m9)) (al1 (spQ (ni.no rfl) (hK.get m10)) (al1 (spN (ni.no rfl) (hK.get m11)) (al1 (spN (ni.no rfl) (hK.get m12)) (al1 (spQ (ni.no rfl) (hK.get m13)) (al1 (spN (ni.no rfl) (hK.get m14)) (al1 (spN (ni.no rfl) (hK.get m15)) aN))))))))))))))))⟩
      simp only [Act.put, pB, pC]
      refine txEnd (fun W25 hK => ?_)
      have k_R3 := (hK.get m7); have ⟨c_R3_0, c_R3_1, c_R3_2⟩ := k_R3.c3
      go_wp2
      exact bodyPost_ret (v := .agg #[.bool (isN (ofS b1 ((sgnd ((isN x)) (x.num.natAbs * one0 (den0 y)) ((isN y)) (y.num.natAbs * one0 (den0 x))).2) 1)), .slice sv24.a.p sv24.a.l sv24.a.c, .slice sv24.b.p sv24.b.l sv24.b.c]) (by simp [results, Try.results28, go_sem, c_R3_0, c_R3_1, c_R3_2]) rfl ((by obtain rfl := hQ0.out; exact ⟨_, rfl, (Eq.mp (congrArg (RatV _ _) (show ofS b1 ((sgnd ((isN x)) (x.num.natAbs * one0 (den0 y)) ((isN y)) (y.num.natAbs * one0 (den0 x))).2) 1 = x + y from (add_whole x y hb1.out hb2.out hb3.out))) (hK.get m0)), hK.old⟩))
set_option maxRecDepth 100000 in
theorem qdiv_any (v0 : Value) (v1 : Value) (x : Rat) (y : Rat) (w : World) (h0 : RatV w v0 x) (h1 : RatV w v1 y) {k : Nat} (hx : LmQ k x) (hy : LmQ k y) (hk : k ≤ 10000) :
    Calls Try.prog 27 #[v0, v1] w fun e w' => ∃ y0, e = .returned (.tuple #[y0, .int .i64 (if y = 0 then 10 else 0)]) ∧ RatV w' y0 (x / y) ∧ Below w.heap.size w w' := by
  have h0_0 := h0; obtain ⟨p_h0, l_h0, c_h0, q_h0, m_h0, d_h0, rfl, h0_1, h0_2⟩ := h0
  have h1_0 := h1; obtain ⟨p_h1, l_h1, c_h1, q_h1, m_h1, d_h1, rfl, h1_1, h1_2⟩ := h1
  have hK : KS w [fun w => RatV w (.agg #[.bool (isN y), .slice p_h1 l_h1 c_h1, .slice q_h1 m_h1 d_h1]) y, fun w => NatV w (.agg #[.slice p_h1 l_h1 c_h1]) y.num.natAbs, fun w => NatV w (.agg #[.slice q_h1 m_h1 d_h1]) (den0 y), fun w => RatV w (.agg #[.bool (isN x), .slice p_h0 l_h0 c_h0, .slice q_h0 m_h0 d_h0]) x, fun w => NatV w (.agg #[.slice p_h0 l_h0 c_h0]) x.num.natAbs, fun w => NatV w (.agg #[.slice q_h0 m_h0 d_h0]) (den0 x)] w := (KS.add (KS.add (KS.add (KS.add (KS.add (KS.add (KS.start w) (fun w' hb => h0_2.below hb)) (fun w' hb => h0_1.below hb)) (fun w' hb => h0_0.below hb)) (fun w' hb => h1_2.below hb)) (fun w' hb => h1_1.below hb)) (fun w' hb => h1_0.below hb))
  have e1 := hx.n.len
  have e2 := hy.n.len
  have e3 := hx.d0.len
  have e4 := hy.d0.len
  have e5 : (digs B32 (x.num.natAbs * one0 (den0 y))).length ≤ k + k := by rw [one0_den0]; exact (hx.n.mul hy.d).len
  have e6 : (digs B32 (y.num.natAbs * one0 (den0 x))).length ≤ k + k := by rw [one0_den0]; exact (hy.n.mul hx.d).len
  have e8 : (digs B32 (x.den * one0 (den0 y))).length ≤ k + k := by rw [one0_den0]; exact (hx.d.mul hy.d).len
  have e9 : x.den * one0 (den0 y) ≠ 0 := by rw [one0_den0]; exact Nat.mul_ne_zero x.den_nz y.den_nz
  have e7 : (digs B32 (sgnd (isN x) (x.num.natAbs * one0 (den0 y)) (isN y) (y.num.natAbs * one0 (den0 x))).2).length ≤ k + k + 1 := Lm.len (sgnd_lm (by rw [one0_den0]; exact hx.n.mul hy.d) (by rw [one0_den0]; exact hy.n.mul hx.d))
  have e12 : (digs B32 (x.num.natAbs * y.num.natAbs)).length ≤ k + k := (hx.n.mul hy.n).len
  have e10 := hx.d.len
  have e11 := hy.d.len
  refine Calls.hide (fun Q0 hQ0 => ?_)
  go_enter Try.func27, Try.ntmps27
  go_upto_region 0 with (fail)
  refine wp_region_tx w hK ?_
  clear hK
  apply txA (.cells #[.bool (isN x), .slice p_h0 l_h0 c_h0, .slice q_h0 m_h0 d_h0] 47) (wants0 rfl)
  · intro w' hK; go_simp; rfl
  intro R1 q_R1
  clear q_R1
  simp only [mkOf, Act.put, pA, pB, pC]
  apply txA (.cells #[.bool (isN y), .slice p_h1 l_h1 c_h1, .slice q_h1 m_h1 d_h1] 47) (wants0 rfl)
  · intro w' hK; go_simp; rfl
  intro R2 q_R2
  have o_R1_R2 : R1 < R2 := q_R2 _ _ _ m0
  clear q_R2
  simp only [mkOf, Act.put, pA, pB, pC]
  apply txA (.cells #[.bool false, .slice none 0 0, .slice none 0 0] 47) (wants0 rfl)
  · intro w' hK; go_simp; rfl
  intro R3 q_R3
  have o_R1_R3 : R1 < R3 := q_R3 _ _ _ m1
  have o_R2_R3 : R2 < R3 := q_R3 _ _ _ m0
  clear q_R3
  simp only [mkOf, Act.put, pA, pB, pC]
  apply txF (wants0 rfl); (· intro w' hK; go_simp; (try go_bits); exact ⟨rfl, rfl⟩); simp only [Act.put, pA, pB, pC]
  refine txEnd (fun W4 hK => ?_)
  go_upto_region 1 with (fail)
  refine wp_region_tx w hK ?_
  clear hK
  apply txF (wants0 rfl); (· intro w' hK; have k_R2 := (hK.get m1); have ⟨c_R2_0, c_R2_1, c_R2_2⟩ := k_R2.c3; go_simp; (try go_bits); exact ⟨rfl, rfl⟩); simp only [Act.put, pA, pB, pC]
  obtain ⟨z1, hz1⟩ : ∃ b : Int, RowKit.Hid ((sgQ y) = b) := ⟨_, hid rfl⟩
  apply txH (v := .int .i64 z1) (wants0 rfl)
  · intro v1 hv1 w' hK; go_simp; (try go_bits); refine (sign_any (.agg #[.bool (isN y), .slice p_h1 l_h1 c_h1, .slice q_h1 m_h1 d_h1]) y w' (hK.get m3) ).mono ?_; rintro e w5 ⟨rfl, hb⟩; obtain rfl := hv1.out; exact ⟨_, rfl, (by rw [hz1.out]), hb⟩
  simp only [Act.put, pA, pB, pC]
  apply txF (wants0 rfl); (· intro w' hK; go_simp; (try go_bits); exact ⟨rfl, rfl⟩); simp only [Act.put, pA, pB, pC]
  refine txEnd (fun W5 hK => ?_)
  by_cases hz : z1 = 0
  · --
   subst hz
   go_upto_region 2 with (fail)
   refine wp_region_tx w hK ?_
   clear hK
   apply txF (wants0 rfl); (· intro w' hK; go_simp; (try go_bits); exact ⟨rfl, rfl⟩); simp only [Act.put, pA, pB, pC]
   apply txU 0 (Has w.heap.size R3 (.cells #[.bool false, .slice none 0 0, .slice none 0 0] 47)) (wants0 rfl)
   · intro l1 hl1 w' hK; have k_R3 := (hK.get m0); have ⟨c_R3_0, c_R3_1, c_R3_2⟩ := k_R3.c3; have f_R3 := k_R3.fz; have ni := hdIs_of k_R3; go_simp; obtain rfl := hl1.out; exact ⟨rfl, ks_put (R := R3) hK k_R3.1 0 [.bool false, .slice none 0 0, .slice none 0 0] (al1 (fun _ => has_put k_R3 _ _) (al1 (spL o_R2_R3 (hK.get m1)) (al1 (spL o_R1_R3 (hK.get m2)) (al1 (spQ (ni.no rfl) (hK.get m3)) (al1 (spN (ni.no rfl) (hK.get m4)) (al1 (spN (ni.no rfl) (hK.get m5)) (al1 (spQ (ni.no rfl) (hK.get m6)) (al1 (spN (ni.no rfl) (hK.get m7)) (al1 (spN (ni.no rfl) (hK.get m8)) aN)))))))))⟩
   simp only [Act.put, pB]
   apply txF (wants0 rfl); (· intro w' hK; go_simp; (try go_bits); exact ⟨rfl, rfl⟩); simp only [Act.put, pA, pB, pC]
   refine txEnd (fun W6 hK => ?_)
   have k_R3 := (hK.get m0); have ⟨c_R3_0, c_R3_1, c_R3_2⟩ := k_R3.c3
   go_wp2
   exact bodyPost_ret (v := .tuple #[.agg #[.bool false, .slice none 0 0, .slice none 0 0], .int .i64 10]) (by simp [results, Try.results27, go_sem, c_R3_0, c_R3_1, c_R3_2]) rfl ((by obtain rfl := hQ0.out; exact ⟨.agg #[.bool false, .slice none 0 0, .slice none 0 0], (by rw [if_pos (sgQ_zero.1 hz1.out)]), (by rw [sgQ_zero.1 hz1.out, div_zero']; exact RatV.zero _), hK.old⟩))
  · --
   go_upto_region 3 with (fail)
   have hK0 := hK.subl (sC (sK (sK (sK (sK (sK (sK (sK (sK sZ)))))))))
   refine wp_region_float0 (w) _ _ [0, 0, 0, 0, 0, 0, 0, 0, 0, 2, 0, 0, 0, 0, 2, 2, 4, 0] (by kernel_rfl) (by kernel_rfl) (by kernel_rfl) (by kernel_rfl) (KS.drew hK0) (KS.drew hK) ?_
   clear hK hK0
   apply lxF0 (wants0 rfl); (· intro w' h0; go_simp; (try go_bits); exact ⟨rfl, rfl⟩); simp only [Act.put, pA, pB, pC]
   apply lxF0 (wants0 rfl); (· intro w' h0; have k_R1 := (h0.get m1); have c_R1_0 := k_R1.at 0 rfl; go_simp; (try go_bits); exact ⟨rfl, rfl⟩); simp only [Act.put, pA, pB, pC]
   apply lxF0 (wants0 rfl); (· intro w' h0; go_simp; (try go_bits); exact ⟨rfl, rfl⟩); simp only [Act.put, pA, pB, pC]
   apply lxF0 (wants0 rfl); (· intro w' h0; have k_R2 := (h0.get m0); have c_R2_0 := k_R2.at 0 rfl; go_simp; (try go_bits); exact ⟨rfl, rfl⟩); simp only [Act.put, pA, pB, pC]
   iterate 2 (apply lxF0 (wants0 rfl); (· intro w' h0; go_simp; (try go_bits); exact ⟨rfl, rfl⟩); simp only [Act.put, pA, pB, pC])
   apply lxF0 (wants0 rfl); (· intro w' h0; have k_R1 := (h0.get m1); have c_R1_1 := k_R1.at 1 rfl; go_simp; (try go_bits); exact ⟨rfl, rfl⟩); simp only [Act.put, pA, pB, pC]
   apply lxF0 (wants0 rfl); (· intro w' h0; go_simp; (try go_bits); exact ⟨rfl, rfl⟩); simp only [Act.put, pA, pB, pC]
   apply lxF0 (wants0 rfl); (· intro w' h0; have k_R2 := (h0.get m0); have c_R2_2 := k_R2.at 2 rfl; go_simp; (try go_bits); exact ⟨rfl, rfl⟩); simp only [Act.put, pA, pB, pC]
   apply lxE1 (α := Sl) (fun sv => .agg #[.slice sv.p sv.l sv.c]) (fun sv => [fun w => NatV w (.agg #[.slice sv.p sv.l sv.c]) (x.num.natAbs * one0 (den0 y))]) (wants0 rfl)
   · intro f1 l1 hl1 w' h0 hK; go_simp; (try go_bits); refine (qtimes_any (.agg #[.slice p_h0 l_h0 c_h0]) (.agg #[.slice q_h1 m_h1 d_h1]) x.num.natAbs (den0 y) w' (hK.get m7) (hK.get m5) (by omega)).mono ?_; rintro e w5 ⟨y0, rfl, u0, hb⟩; obtain ⟨rfl, rfl⟩ := hl1.out; obtain ⟨p_u0, c_u0, rfl, _⟩ := u0.digp; exact ⟨_, rfl, (⟨p_u0, _, c_u0⟩ : Sl), rfl, hb, .cons (fun w2 h2 => u0.below h2) (Lasts.nil _)⟩
   intro sv7
   simp only [Act.put, pA, pB, pC, pD, pE]
   apply lxF0 (wants0 rfl); (· intro w' h0; go_simp; (try go_bits); exact ⟨rfl, rfl⟩); simp only [Act.put, pA, pB, pC]
   apply lxF0 (wants0 rfl); (· intro w' h0; have k_R2 := (h0.get m0); have c_R2_1 := k_R2.at 1 rfl; go_simp; (try go_bits); exact ⟨rfl, rfl⟩); simp only [Act.put, pA, pB, pC]
   apply lxF0 (wants0 rfl); (· intro w' h0; go_simp; (try go_bits); exact ⟨rfl, rfl⟩); simp only [Act.put, pA, pB, pC]
   apply lxF0 (wants0 rfl); (· intro w' h0; have k_R1 := (h0.get m1); have c_R1_2 := k_R1.at 2 rfl; go_simp; (try go_bits); exact ⟨rfl, rfl⟩); simp only [Act.put, pA, pB, pC]
   apply lxE1 (α := Sl) (fun sv => .agg #[.slice sv.p sv.l sv.c]) (fun sv => [fun w => NatV w (.agg #[.slice sv.p sv.l sv.c]) (y.num.natAbs * one0 (den0 x))]) (wants0 rfl)
   · intro f1 l1 hl1 w' h0 hK; go_simp; (try go_bits); refine (qtimes_any (.agg #[.slice p_h1 l_h1 c_h1]) (.agg #[.slice q_h0 m_h0 d_h0]) y.num.natAbs (den0 x) w' (hK.get m5) (hK.get m9) (by omega)).mono ?_; rintro e w5 ⟨y0, rfl, u0, hb⟩; obtain ⟨rfl, rfl⟩ := hl1.out; obtain ⟨p_u0, c_u0, rfl, _⟩ := u0.digp; exact ⟨_, rfl, (⟨p_u0, _, c_u0⟩ : Sl), rfl, hb, .cons (fun w2 h2 => u0.below h2) (Lasts.nil _)⟩
   intro sv8
   simp only [Act.put, pA, pB, pC, pD, pE]
   apply lxE1 (α := Duo Sl Sl) (fun sv => .agg #[.bool (isN (ofS ((((isN x)) != ((isN y)))) (x.num.natAbs * one0 (den0 y)) (y.num.natAbs * one0 (den0 x)))), .slice sv.a.p sv.a.l sv.a.c, .slice sv.b.p sv.b.l sv.b.c]) (fun sv => [fun w => RatV w (.agg #[.bool (isN (ofS ((((isN x)) != ((isN y)))) (x.num.natAbs * one0 (den0 y)) (y.num.natAbs * one0 (den0 x)))), .slice sv.a.p sv.a.l sv.a.c, .slice sv.b.p sv.b.l sv.b.c]) (ofS ((((isN x)) != ((isN y)))) (x.num.natAbs * one0 (den0 y)) (y.num.natAbs * one0 (den0 x))), fun w => NatV w (.agg #[.slice sv.a.p sv.a.l sv.a.c]) ((ofS ((((isN x)) != ((isN y)))) (x.num.natAbs * one0 (den0 y)) (y.num.natAbs * one0 (den0 x))).num.natAbs), fun w => NatV w (.agg #[.slice sv.b.p sv.b.l sv.b.c]) (den0 (ofS ((((isN x)) != ((isN y)))) (x.num.natAbs * one0 (den0 y)) (y.num.natAbs * one0 (den0 x))))]) (wants0 rfl)
   · intro f1 l1 hl1 w' h0 hK; go_simp; (try go_bits); refine (reduced_any (.agg #[.slice sv7.p sv7.l sv7.c]) (.agg #[.slice sv8.p sv8.l sv8.c]) ((((isN x)) != ((isN y)))) (x.num.natAbs * one0 (den0 y)) (y.num.natAbs * one0 (den0 x)) w' (hK.get m1) (hK.get m0) (Nat.mul_ne_zero (fun e => hz (by rw [← hz1.out]; exact sgQ_zero.2 ((natAbs_zero y).1 e))) (by rw [one0_den0]; exact x.den_nz)) (by omega) (by omega)).mono ?_; rintro e w5 ⟨y0, rfl, u0, hb⟩; obtain ⟨rfl, rfl⟩ := hl1.out; have u0_0 := u0; obtain ⟨p_u0, l_u0, c_u0, q_u0, m_u0, d_u0, rfl, u0_1, u0_2⟩ := u0; exact ⟨_, rfl, (⟨⟨p_u0, l_u0, c_u0⟩, ⟨q_u0, m_u0, d_u0⟩⟩ : Duo Sl Sl), rfl, hb, .cons (fun w2 h2 => u0_0.below h2) (.cons (fun w2 h2 => u0_1.below h2) (.cons (fun w2 h2 => u0_2.below h2) (Lasts.nil _)))⟩
   intro sv9
   simp only [Act.put, pA, pB, pC, pD, pE]
   apply lxU1 5 (Has w.heap.size R3 (.cells #[.bool (isN (ofS ((((isN x)) != ((isN y)))) (x.num.natAbs * one0 (den0 y)) (y.num.natAbs * one0 (den0 x)))), .slice sv9.a.p sv9.a.l sv9.a.c, .slice sv9.b.p sv9.b.l sv9.b.c] 47)) (wants0 rfl)
   · intro g0 l1 hl1 w' h0 hK; have k_R3 := (hK.get m5); have ⟨c_R3_0, c_R3_1, c_R3_2⟩ := k_R3.c3; have f_R3 := k_R3.fz; have ni := hdIs_of k_R3; go_simp; obtain ⟨rfl, rfl⟩ := hl1.out; exact ⟨rfl, ks_put (R := R3) h0 k_R3.1 0 [.bool (isN (ofS ((((isN x)) != ((isN y)))) (x.num.natAbs * one0 (den0 y)) (y.num.natAbs * one0 (den0 x)))), .slice sv9.a.p sv9.a.l sv9.a.c, .slice sv9.b.p sv9.b.l sv9.b.c] (al1 (spL o_R2_R3 (h0.get m0)) (al1 (spL o_R1_R3 (h0.get m1)) (al1 (spQ (ni.no rfl) (h0.get m2)) (al1 (spN (ni.no rfl) (h0.get m3)) (al1 (spN (ni.no rfl) (h0.get m4)) (al1 (spQ (ni.no rfl) (h0.get m5)) (al1 (spN (ni.no rfl) (h0.get m6)) (al1 (spN (ni.no rfl) (h0.get m7)) aN)))))))), ks_put (R := R3) hK k_R3.1 0 [.bool (isN (ofS ((((isN x)) != ((isN y)))) (x.num.natAbs * one0 (den0 y)) (y.num.natAbs * one0 (den0 x)))), .slice sv9.a.p sv9.a.l sv9.a.c, .slice sv9.b.p sv9.b.l sv9.b.c] (al1 (spQ (ni.no rfl) (hK.get m0)) (al1 (spN (ni.no rfl) (hK.get m1)) (al1 (spN (ni.no rfl) (hK.get m2)) (al1 (spN (ni.no rfl) (hK.get m3)) (al1 (spN (ni.no rfl) (hK.get m4)) (al1 (fun _ => has_put k_R3 _ _) (al1 (spL o_R2_R3 (hK.get m6)) (al1 (spL o_R1_R3 (hK.get m7)) (al1 (spQ (ni.no rfl) (hK.get m8)) (al1 (spN (ni.no rfl) (hK.get m9)) (al1 (spN (ni.no rfl) (hK.get m10)) (al1 (spQ (ni.no rfl) (hK.get m11)) (al1 (spN (ni.no rfl) (hK.get m12)) (al1 (spN (ni.no rfl) (hK.get m13)) aN))))))))))))))⟩
   simp only [Act.put, pB, pC]
   apply lxF0 (wants0 rfl); (· intro w' h0; go_simp; (try go_bits); exact ⟨rfl, rfl⟩); simp only [Act.put, pA, pB, pC]
   refine lxEnd (fun W10 hK => ?_)
   have k_R3 := (hK.get m5); have ⟨c_R3_0, c_R3_1, c_R3_2⟩ := k_R3.c3
   go_wp2
   exact bodyPost_ret (v := .tuple #[.agg #[.bool (isN (ofS ((((isN x)) != ((isN y)))) (x.num.natAbs * one0 (den0 y)) (y.num.natAbs * one0 (den0 x)))), .slice sv9.a.p sv9.a.l sv9.a.c, .slice sv9.b.p sv9.b.l sv9.b.c], .int .i64 0]) (by simp [results, Try.results27, go_sem, c_R3_0, c_R3_1, c_R3_2]) rfl ((by obtain rfl := hQ0.out; exact ⟨.agg #[.bool (isN (ofS ((((isN x)) != ((isN y)))) (x.num.natAbs * one0 (den0 y)) (y.num.natAbs * one0 (den0 x)))), .slice sv9.a.p sv9.a.l sv9.a.c, .slice sv9.b.p sv9.b.l sv9.b.c], (by rw [if_neg (fun e => hz (by rw [← hz1.out]; exact sgQ_zero.2 e))]), (Eq.mp (congrArg (RatV _ _) (show ofS ((((isN x)) != ((isN y)))) (x.num.natAbs * one0 (den0 y)) (y.num.natAbs * one0 (den0 x)) = x / y from (div_made x (fun e => hz (by rw [← hz1.out]; exact sgQ_zero.2 e))))) (hK.get m0)), hK.old⟩))
end Go.Proofs.Ytokhapaffleffaa
