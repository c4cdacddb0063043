/- Rational numbers of the reference. -/
import Derived.Test.YtiilkcdefpmimaaGreatDoorRatE
namespace Go.Proofs.YtiilkcdefpmimaaGreatDoor
open Go.RowKit
open Go.Lib (decDigits)
theorem d6_of {k n : Nat} (h : Lm k n) (hk : k ≤ 25000) : (digs B6 n).length ≤ 50000 := Nat.le_trans h.len6 (by omega)
theorem int_len6 {z : Int} (h0 : -9223372036854775808 ≤ z) (h1 : z ≤ 9223372036854775807) : (digs B6 z.natAbs).length ≤ 50000 := d6_of (k := 2) (by
  have : B32 ^ 2 = 18446744073709551616 := by decide
  show _ < _
  omega) (by decide)
theorem Lm.one : Lm 1 1 := by show _ < _; decide
theorem size_b {n : Int} (h : decide (n < 0) = false) : n = (n.natAbs : Int) := by
  have : ¬ n < 0 := by simpa using h
  omega
theorem size_c {n : Int} (h1 : n ≤ 9223372036854775807) (h : decide (n < 0) = false) : IntKind.u64.wrap n = (n.natAbs : Int) := by
  have := size_b h
  simp only [IntKind.wrap, IntKind.bits, IntKind.signed, Bool.false_and, Bool.false_eq_true, if_false]
  omega
theorem size_a {n : Int} (h0 : -9223372036854775808 ≤ n) (h : decide (n < 0) = true) : IntKind.u64.wrap (IntKind.u64.wrap (wrap64 (-wrap64 (n + 1))) + 1) = (n.natAbs : Int) := by
  have h2 : n < 0 := by simpa using h
  have e1 : wrap64 (n + 1) = n + 1 := by unfold wrap64; omega
  have e2 : wrap64 (-(n + 1)) = -(n + 1) := by unfold wrap64; omega
  rw [e1, e2]
  simp only [IntKind.wrap, IntKind.bits, IntKind.signed, Bool.false_and, Bool.false_eq_true, if_false]
  omega
theorem den_t {x : Rat} (h : (((digs B6 (den0 x)).length : Int) == 0) = true) : 1 = x.den := (( den0_zero x).1 (len6_zero h)).symm
theorem den_f {x : Rat} (h : (((digs B6 (den0 x)).length : Int) == 0) = false) : den0 x = x.den := by
  have := len6_pos h
  have h2 := one0_den0 x
  unfold one0 at h2
  rwa [if_neg this] at h2
set_option maxRecDepth 100000 in
theorem rone_q (v0 : Value) (x : Rat) (w : World) (h0 : RefR w v0 x)  :
    Calls Tryz.prog 75 #[v0] w fun e w' => ∃ y0, e = .returned y0 ∧ RefV w' y0 x.den ∧ Below w.heap.size w w' := by
  have h0_0 := h0; obtain ⟨p_h0, c_h0, q_h0, d_h0, rfl, h0_1, h0_2⟩ := h0.slr
  have hK : KS w [fun w => RefR w (.agg #[.bool (isN x), .slice p_h0 (digs B6 (numQ x)).length c_h0, .slice q_h0 (digs B6 (den0 x)).length d_h0]) x, fun w => RefV w (.slice p_h0 (digs B6 (numQ x)).length c_h0) (numQ x), fun w => RefV w (.slice q_h0 (digs B6 (den0 x)).length d_h0) (den0 x)] w := (KS.add (KS.add (KS.add (KS.start w) (fun w' hb => h0_2.below hb)) (fun w' hb => h0_1.below hb)) (fun w' hb => h0_0.below hb))
  refine Calls.hide (fun Q0 hQ0 => ?_)
  go_enter Tryz.func75, Tryz.ntmps75
  go_upto_region 0 with (fail)
  refine wp_region_tx w hK ?_
  clear hK
  apply txA (.cells #[.bool (isN x), .slice p_h0 (digs B6 (numQ x)).length c_h0, .slice q_h0 (digs B6 (den0 x)).length d_h0] 36) (wants0 rfl)
  · intro w' hK; go_simp; rfl
  intro R1 q_R1
  clear q_R1
  simp only [mkOf, Act.put, pA, pB, pC]
  apply txF (wants0 rfl); (· intro w' hK; go_simp; (try go_bits); exact ⟨rfl, rfl⟩); simp only [Act.put, pA, pB, pC]
  refine txEnd (fun W2 hK => ?_)
  go_upto_region 1 with (fail)
  refine wp_region_tx w hK ?_
  clear hK
  apply txF (wants0 rfl); (· intro w' hK; go_simp; (try go_bits); exact ⟨rfl, rfl⟩); simp only [Act.put, pA, pB, pC]
  apply txF (wants0 rfl); (· intro w' hK; have k_R1 := (hK.get m0); have c_R1_2 := k_R1.at 2 rfl; go_simp; (try go_bits); exact ⟨rfl, rfl⟩); simp only [Act.put, pA, pB, pC]
  apply txF (wants0 rfl); (· intro w' hK; go_simp; (try go_bits); exact ⟨rfl, rfl⟩); simp only [Act.put, pA, pB, pC]
  obtain ⟨b1, hb1⟩ : ∃ b : Bool, RowKit.Hid (((((digs B6 (den0 x)).length : Int)) == 0) = b) := ⟨_, hid rfl⟩
  apply txB b1 (wants0 rfl); (· intro w' hK; go_simp; (try go_bits); exact ⟨by have q := hb1.out; subst q; first | rfl | simp, rfl⟩); simp only [Act.put, pA, pB, pC]
  refine txEnd (fun W3 hK => ?_)
  cases b1
  · --
   go_upto_region 3 with (fail)
   refine wp_region_tx w hK ?_
   clear hK
   apply txF (wants0 rfl); (· intro w' hK; go_simp; (try go_bits); exact ⟨rfl, rfl⟩); simp only [Act.put, pA, pB, pC]
   apply txF (wants0 rfl); (· intro w' hK; have k_R1 := (hK.get m0); have c_R1_2 := k_R1.at 2 rfl; go_simp; (try go_bits); exact ⟨rfl, rfl⟩); simp only [Act.put, pA, pB, pC]
   apply txF (wants0 rfl); (· intro w' hK; go_simp; (try go_bits); exact ⟨rfl, rfl⟩); simp only [Act.put, pA, pB, pC]
   refine txEnd (fun W4 hK => ?_)
   go_wp2
   try go_ret
   show Q0 (.returned (.slice q_h0 (digs B6 (den0 x)).length d_h0)) _
   exact (by obtain rfl := hQ0.out; exact ⟨_, rfl, (Eq.mp (congrArg (RefV _ _) (show den0 x = x.den from (den_f hb1.out))) (hK.get m3)), hK.old⟩)
  · --
   go_upto_region 2 with (fail)
   refine wp_region_tx w hK ?_
   clear hK
   apply txE (α := Sl) (fun sv => .slice sv.p (digs B6 1).length sv.c) (fun sv => [fun w => RefV w (.slice sv.p (digs B6 1).length sv.c) 1]) (wants0 rfl)
   · intro f1 l1 hl1 w' hK; go_simp; (try go_bits); refine (rof_any  1 w'  (by omega)).mono ?_; rintro e w5 ⟨y0, rfl, u0, hb⟩; obtain ⟨rfl, rfl⟩ := hl1.out; obtain ⟨p_u0, c_u0, rfl⟩ := u0.slr; exact ⟨_, rfl, (⟨p_u0, 0, c_u0⟩ : Sl), rfl, hb, .cons (fun w2 h2 => u0.below h2) (Lasts.nil _)⟩
   intro sv5
   simp only [Act.put, pA, pB, pC, pD, pE]
   apply txF (wants0 rfl); (· intro w' hK; go_simp; (try go_bits); exact ⟨rfl, rfl⟩); simp only [Act.put, pA, pB, pC]
   refine txEnd (fun W6 hK => ?_)
   go_wp2
   try go_ret
   show Q0 (.returned (.slice sv5.p (digs B6 1).length sv5.c)) _
   exact (by obtain rfl := hQ0.out; exact ⟨_, rfl, (Eq.mp (congrArg (RefV _ _) (show 1 = x.den from (den_t hb1.out))) (hK.get m0)), hK.old⟩)
theorem digs6_1 : digs B6 1 = [1] := by
  rw [digs_pos b6_2 (by decide), Nat.mod_eq_of_lt (by decide), Nat.div_eq_of_lt (by decide), digs_zero]
theorem beq1_t {a : Nat} (h : ((a : Int) == 1) = true) : a = 1 := by
  have : (a : Int) = 1 := by simpa using h
  omega
theorem beq1_f {a : Nat} (h : ((a : Int) == 1) = false) : a ≠ 1 := fun e => by subst e; cases h
theorem gcd6_len {n d : Nat} (h1 : (digs B6 n).length ≤ 50000) (h2 : (digs B6 d).length ≤ 50000) : (digs B6 (Nat.gcd n d)).length ≤ 50000 := by
  rcases Nat.eq_zero_or_pos d with h | h
  · rw [h, Nat.gcd_zero_right]; exact h1
  · exact digs6_mono (Nat.le_of_dvd h (Nat.gcd_dvd_right n d)) h2
theorem make_b0 (s : Bool) {n d : Nat} (_hd : d ≠ 0) (h : n / Nat.gcd n d = 0) : false = (s && decide (n ≠ 0)) := by
  have : n = 0 := by
    rcases Nat.eq_zero_or_pos n with h1 | h1
    · exact h1
    · have := Nat.div_pos (Nat.le_of_dvd h1 (Nat.gcd_dvd_left n d)) (Nat.gcd_pos_of_pos_left d h1)
      omega
  simp [this]
theorem make_b1 (s : Bool) {n g : Nat} (h : n / g ≠ 0) : s = (s && decide (n ≠ 0)) := by
  have : n ≠ 0 := fun e => h (by rw [e]; simp)
  simp [this]
theorem ofS_00 (s : Bool) (n : Nat) : ofS s n 0 = 0 := ofS_d0 s n
set_option maxRecDepth 100000 in
theorem rmake_q (v1 : Value) (v2 : Value) (s : Bool) (n : Nat) (d : Nat) (w : World) (h1 : RefV w v1 n) (h2 : RefV w v2 d) (l1 : (digs B6 n).length ≤ 50000) (l2 : (digs B6 d).length ≤ 50000) :
    Calls Tryz.prog 56 #[.bool s, v1, v2] w fun e w' => ∃ y0, e = .returned (.tuple #[y0, .int .i64 (if d = 0 then 10 else 0)]) ∧ RefR w' y0 (ofS s n d) ∧ Below w.heap.size w w' := by
  obtain ⟨p_h1, c_h1, rfl⟩ := h1.slr
  obtain ⟨p_h2, c_h2, rfl⟩ := h2.slr
  have hK : KS w [fun w => RefV w (.slice p_h2 (digs B6 d).length c_h2) d, fun w => RefV w (.slice p_h1 (digs B6 n).length c_h1) n] w := (KS.add (KS.add (KS.start w) (fun w' hb => h1.below hb)) (fun w' hb => h2.below hb))
  have l3 : (digs B6 (Nat.gcd n d)).length ≤ 50000 := gcd6_len l1 l2
  refine Calls.hide (fun Q0 hQ0 => ?_)
  go_enter Tryz.func56, Tryz.ntmps56
  go_upto_region 0 with (fail)
  refine wp_region_tx w hK ?_
  clear hK
  apply txA (.cells #[.bool false, .slice none 0 0, .slice none 0 0] 36) (wants0 rfl)
  · intro w' hK; go_simp; rfl
  intro R1 q_R1
  clear q_R1
  simp only [mkOf, Act.put, pA, pB, pC]
  apply txF (wants0 rfl); (· intro w' hK; go_simp; (try go_bits); exact ⟨rfl, rfl⟩); simp only [Act.put, pA, pB, pC]
  refine txEnd (fun W2 hK => ?_)
  go_upto_region 1 with (fail)
  refine wp_region_tx w hK ?_
  clear hK
  iterate 2 (apply txF (wants0 rfl); (· intro w' hK; go_simp; (try go_bits); exact ⟨rfl, rfl⟩); simp only [Act.put, pA, pB, pC])
  obtain ⟨b1, hb1⟩ : ∃ b : Bool, RowKit.Hid (((((digs B6 d).length : Int)) == 0) = b) := ⟨_, hid rfl⟩
  apply txB b1 (wants0 rfl); (· intro w' hK; go_simp; (try go_bits); exact ⟨by have q := hb1.out; subst q; first | rfl | simp, rfl⟩); simp only [Act.put, pA, pB, pC]
  refine txEnd (fun W3 hK => ?_)
  cases b1
  · --
   go_upto_region 3 with (fail)
   refine wp_region_tx w hK ?_
   clear hK
   iterate 2 (apply txF (wants0 rfl); (· intro w' hK; go_simp; (try go_bits); exact ⟨rfl, rfl⟩); simp only [Act.put, pA, pB, pC])
   apply txE (α := Sl) (fun sv => .slice sv.p (digs B6 (Nat.gcd n d)).length sv.c) (fun sv => [fun w => RefV w (.slice sv.p (digs B6 (Nat.gcd n d)).length sv.c) (Nat.gcd n d)]) (wants0 rfl)
   · intro f1 l1 hl1 w' hK; go_simp; (try go_bits); refine (rgcd_any d n (.slice p_h1 (digs B6 n).length c_h1) (.slice p_h2 (digs B6 d).length c_h2) w' (hK.get m2) (hK.get m1) (by omega) (by omega)).mono ?_; rintro e w5 ⟨y0, rfl, u0, hb⟩; obtain ⟨rfl, rfl⟩ := hl1.out; obtain ⟨p_u0, c_u0, rfl⟩ := u0.slr; exact ⟨_, rfl, (⟨p_u0, 0, c_u0⟩ : Sl), rfl, hb, .cons (fun w2 h2 => u0.below h2) (Lasts.nil _)⟩
   intro sv4
   simp only [Act.put, pA, pB, pC, pD, pE]
   apply txF (wants0 rfl); (· intro w' hK; go_simp; (try go_bits); exact ⟨rfl, rfl⟩); simp only [Act.put, pA, pB, pC]
   refine txEnd (fun W5 hK => ?_)
   go_upto_region 4 with (fail)
   refine wp_region_tx w hK ?_
   clear hK
   iterate 2 (apply txF (wants0 rfl); (· intro w' hK; go_simp; (try go_bits); exact ⟨rfl, rfl⟩); simp only [Act.put, pA, pB, pC])
   obtain ⟨z1, hz1⟩ : ∃ b : Int, RowKit.Hid ((errD (Nat.gcd n d)) = b) := ⟨_, hid rfl⟩
   apply txE (α := Duo (Sl) (Sl)) (fun sv => .tuple #[.slice sv.a.p (digs B6 (n / (Nat.gcd n d))).length sv.a.c, .slice sv.b.p (digs B6 (rem0 n (Nat.gcd n d))).length sv.b.c, .int .i64 z1]) (fun sv => [fun w => RefV w (.slice sv.a.p (digs B6 (n / (Nat.gcd n d))).length sv.a.c) (n / (Nat.gcd n d)), fun w => RefV w (.slice sv.b.p (digs B6 (rem0 n (Nat.gcd n d))).length sv.b.c) (rem0 n (Nat.gcd n d))]) (wants0 rfl)
   · intro f1 l1 hl1 w' hK; go_simp; (try go_bits); refine (rdm_any (.slice p_h1 (digs B6 n).length c_h1) (.slice sv4.p (digs B6 (Nat.gcd n d)).length sv4.c) n (Nat.gcd n d) w' (hK.get m3) (hK.get m0) (by omega) (by omega)).mono ?_; rintro e w5 ⟨y0, y1, rfl, u0, u1, hb⟩; obtain ⟨rfl, rfl⟩ := hl1.out; obtain ⟨p_u0, c_u0, rfl⟩ := u0.slr; obtain ⟨p_u1, c_u1, rfl⟩ := u1.slr; exact ⟨_, rfl, (⟨(⟨p_u0, 0, c_u0⟩ : Sl), (⟨p_u1, 0, c_u1⟩ : Sl)⟩ : Duo (Sl) (Sl)), (by rw [hz1.out]), hb, .cons (fun w2 h2 => u0.below h2) (.cons (fun w2 h2 => u1.below h2) (Lasts.nil _))⟩
   intro sv6
   simp only [Act.put, pA, pB, pC, pD, pE]
   iterate 7 (apply txF (wants0 rfl); (· intro w' hK; go_simp; (try go_bits); exact ⟨rfl, rfl⟩); simp only [Act.put, pA, pB, pC])
   refine txEnd (fun W7 hK => ?_)
   go_upto_region 5 with (fail)
   refine wp_region_tx w hK ?_
   clear hK
   iterate 2 (apply txF (wants0 rfl); (· intro w' hK; go_simp; (try go_bits); exact ⟨rfl, rfl⟩); simp only [Act.put, pA, pB, pC])
   obtain ⟨z2, hz2⟩ : ∃ b : Int, RowKit.Hid ((errD (Nat.gcd n d)) = b) := ⟨_, hid rfl⟩
   apply txE (α := Duo (Sl) (Sl)) (fun sv => .tuple #[.slice sv.a.p (digs B6 (d / (Nat.gcd n d))).length sv.a.c, .slice sv.b.p (digs B6 (rem0 d (Nat.gcd n d))).length sv.b.c, .int .i64 z2]) (fun sv => [fun w => RefV w (.slice sv.a.p (digs B6 (d / (Nat.gcd n d))).length sv.a.c) (d / (Nat.gcd n d)), fun w => RefV w (.slice sv.b.p (digs B6 (rem0 d (Nat.gcd n d))).length sv.b.c) (rem0 d (Nat.gcd n d))]) (wants0 rfl)
   · intro f1 l1 hl1 w' hK; go_simp; (try go_bits); refine (rdm_any (.slice p_h2 (digs B6 d).length c_h2) (.slice sv4.p (digs B6 (Nat.gcd n d)).length sv4.c) d (Nat.gcd n d) w' (hK.get m4) (hK.get m2) (by omega) (by omega)).mono ?_; rintro e w5 ⟨y0, y1, rfl, u0, u1, hb⟩; obtain ⟨rfl, rfl⟩ := hl1.out; obtain ⟨p_u0, c_u0, rfl⟩ := u0.slr; obtain ⟨p_u1, c_u1, rfl⟩ := u1.slr; exact ⟨_, rfl, (⟨(⟨p_u0, 0, c_u0⟩ : Sl), (⟨p_u1, 0, c_u1⟩ : Sl)⟩ : Duo (Sl) (Sl)), (by rw [hz2.out]), hb, .cons (fun w2 h2 => u0.below h2) (.cons (fun w2 h2 => u1.below h2) (Lasts.nil _))⟩
   intro sv8
   simp only [Act.put, pA, pB, pC, pD, pE]
   iterate 7 (apply txF (wants0 rfl); (· intro w' hK; go_simp; (try go_bits); exact ⟨rfl, rfl⟩); simp only [Act.put, pA, pB, pC])
   refine txEnd (fun W9 hK => ?_)
   go_upto_region 6 with (fail)
   refine wp_region_tx w hK ?_
   clear hK
   iterate 2 (apply txF (wants0 rfl); (· intro w' hK; go_simp; (try go_bits); exact ⟨rfl, rfl⟩); simp only [Act.put, pA, pB, pC])
   obtain ⟨b2, hb2⟩ : ∃ b : Bool, RowKit.Hid (((((digs B6 (d / (Nat.gcd n d))).length : Int)) == 1) = b) := ⟨_, hid rfl⟩
   apply txB b2 (wants0 rfl); (· intro w' hK; go_simp; (try go_bits); exact ⟨by have q := hb2.out; subst q; first | rfl | simp, rfl⟩); simp only [Act.put, pA, pB, pC]
   apply txF (wants0 rfl); (· intro w' hK; go_simp; (try go_bits); exact ⟨rfl, rfl⟩); simp only [Act.put, pA, pB, pC]
   cases b2
   · --
    iterate 4 (apply txN (j := 3) (d := 39) (b := true) rfl rfl rfl rfl; simp only [Act.put, pA, pB, pC])
    apply txF (wants0 rfl); (· intro w' hK; go_simp; (try go_bits); exact ⟨rfl, rfl⟩); simp only [Act.put, pA, pB, pC]
    refine txEnd (fun W10 hK => ?_)
    go_upto_region 8 with (fail)
    refine wp_region_tx w hK ?_
    clear hK
    iterate 2 (apply txF (wants0 rfl); (· intro w' hK; go_simp; (try go_bits); exact ⟨rfl, rfl⟩); simp only [Act.put, pA, pB, pC])
    obtain ⟨b3, hb3⟩ : ∃ b : Bool, RowKit.Hid (((((digs B6 (n / (Nat.gcd n d))).length : Int)) == 0) = b) := ⟨_, hid rfl⟩
    apply txB b3 (wants0 rfl); (· intro w' hK; go_simp; (try go_bits); exact ⟨by have q := hb3.out; subst q; first | rfl | simp, rfl⟩); simp only [Act.put, pA, pB, pC]
    refine txEnd (fun W11 hK => ?_)
    cases b3
    · --
     go_upto_region 10 with (fail)
     refine wp_region_tx w hK ?_
     clear hK
     iterate 4 (apply txF (wants0 rfl); (· intro w' hK; go_simp; (try go_bits); exact ⟨rfl, rfl⟩); simp only [Act.put, pA, pB, pC])
     apply txU 5 (Has w.heap.size R1 (.cells #[.bool s, .slice sv6.a.p (digs B6 (n / (Nat.gcd n d))).length sv6.a.c, .slice sv8.a.p (digs B6 (d / (Nat.gcd n d))).length sv8.a.c] 36)) (wants0 rfl)
     · intro l1 hl1 w' hK; have k_R1 := (hK.get m5); have ⟨c_R1_0, c_R1_1, c_R1_2⟩ := k_R1.c3; have f_R1 := k_R1.fz; have ni := noInt_of k_R1 nofun; go_simp; obtain rfl := hl1.out; exact ⟨rfl, ks_put (R := R1) hK k_R1.1 0 [.bool s, .slice sv6.a.p (digs B6 (n / (Nat.gcd n d))).length sv6.a.c, .slice sv8.a.p (digs B6 (d / (Nat.gcd n d))).length sv8.a.c] (al1 (spR ni (hK.get m0)) (al1 (spR ni (hK.get m1)) (al1 (spR ni (hK.get m2)) (al1 (spR ni (hK.get m3)) (al1 (spR ni (hK.get m4)) (al1 (fun _ => has_put k_R1 _ _) (al1 (spR ni (hK.get m6)) (al1 (spR ni (hK.get m7)) aN))))))))⟩
     simp only [Act.put, pB, pC]
     apply txF (wants0 rfl); (· intro w' hK; go_simp; (try go_bits); exact ⟨rfl, rfl⟩); simp only [Act.put, pA, pB, pC]
     refine txEnd (fun W12 hK => ?_)
     have k_R1 := (hK.get m5); have ⟨c_R1_0, c_R1_1, c_R1_2⟩ := k_R1.c3
     have hd0 : d ≠ 0 := len6_pos hb1.out
     go_wp2
     exact bodyPost_ret (v := .tuple #[.agg #[.bool s, .slice sv6.a.p (digs B6 (n / (Nat.gcd n d))).length sv6.a.c, .slice sv8.a.p (digs B6 (d / (Nat.gcd n d))).length sv8.a.c], .int .i64 0]) (by simp [results, Tryz.results56, go_sem, c_R1_0, c_R1_1, c_R1_2]) rfl ((by obtain rfl := hQ0.out; exact ⟨.agg #[.bool s, .slice sv6.a.p (digs B6 (n / (Nat.gcd n d))).length sv6.a.c, .slice sv8.a.p (digs B6 (d / (Nat.gcd n d))).length sv8.a.c], (by rw [if_neg (len6_pos hb1.out)]), (RefR.make hd0 (make_b1 s (len6_pos hb3.out)) (rfl) ((if_neg (fun e => by have := hb2.out; rw [e, digs6_1] at this; cases this)).symm) (hK.get m2) (hK.get m0)), hK.old⟩))
    · --
     go_upto_region 10 with (fail)
     refine wp_region_tx w hK ?_
     clear hK
     iterate 4 (apply txF (wants0 rfl); (· intro w' hK; go_simp; (try go_bits); exact ⟨rfl, rfl⟩); simp only [Act.put, pA, pB, pC])
     apply txU 5 (Has w.heap.size R1 (.cells #[.bool false, .slice none 0 0, .slice sv8.a.p (digs B6 (d / (Nat.gcd n d))).length sv8.a.c] 36)) (wants0 rfl)
     · intro l1 hl1 w' hK; have k_R1 := (hK.get m5); have ⟨c_R1_0, c_R1_1, c_R1_2⟩ := k_R1.c3; have f_R1 := k_R1.fz; have ni := noInt_of k_R1 nofun; go_simp; obtain rfl := hl1.out; exact ⟨rfl, ks_put (R := R1) hK k_R1.1 0 [.bool false, .slice none 0 0, .slice sv8.a.p (digs B6 (d / (Nat.gcd n d))).length sv8.a.c] (al1 (spR ni (hK.get m0)) (al1 (spR ni (hK.get m1)) (al1 (spR ni (hK.get m2)) (al1 (spR ni (hK.get m3)) (al1 (spR ni (hK.get m4)) (al1 (fun _ => has_put k_R1 _ _) (al1 (spR ni (hK.get m6)) (al1 (spR ni (hK.get m7)) aN))))))))⟩
     simp only [Act.put, pB, pC]
     apply txF (wants0 rfl); (· intro w' hK; go_simp; (try go_bits); exact ⟨rfl, rfl⟩); simp only [Act.put, pA, pB, pC]
     refine txEnd (fun W13 hK => ?_)
     have k_R1 := (hK.get m5); have ⟨c_R1_0, c_R1_1, c_R1_2⟩ := k_R1.c3
     have hd0 : d ≠ 0 := len6_pos hb1.out
     go_wp2
     exact bodyPost_ret (v := .tuple #[.agg #[.bool false, .slice none 0 0, .slice sv8.a.p (digs B6 (d / (Nat.gcd n d))).length sv8.a.c], .int .i64 0]) (by simp [results, Tryz.results56, go_sem, c_R1_0, c_R1_1, c_R1_2]) rfl ((by obtain rfl := hQ0.out; exact ⟨.agg #[.bool false, .slice none 0 0, .slice sv8.a.p (digs B6 (d / (Nat.gcd n d))).length sv8.a.c], (by rw [if_neg (len6_pos hb1.out)]), (RefR.make hd0 (make_b0 s hd0 (len6_zero hb3.out)) ((len6_zero hb3.out).symm) ((if_neg (fun e => by have := hb2.out; rw [e, digs6_1] at this; cases this)).symm) (RefV.zero _) (hK.get m0)), hK.old⟩))
   · --
    apply txF (wantsg (j := 3) (d := 39) (b := true) rfl rfl rfl rfl); (· intro w' hK; go_simp; (try go_bits); exact ⟨rfl, rfl⟩); simp only [Act.put, pA, pB, pC]
    refine Tx.know (fun w hK => RefV.one (hK.get m0) hb2.out) (fun hh => ?_)
    obtain ⟨g1, hp1⟩ := hh
    replace hp1 := hid hp1
    apply txF (wantsg (j := 3) (d := 39) (b := true) rfl rfl rfl rfl); (· intro w' hK; have hl1 := digs6_one hb2.out; have hp2 := hp1.out; go_simp; (try go_bits); exact ⟨rfl, rfl⟩); simp only [Act.put, pA, pB, pC]
    apply txF (wantsg (j := 3) (d := 39) (b := true) rfl rfl rfl rfl); (· intro w' hK; have q1 := (hK.get m0); rw [hp1.out] at q1; have q2 := RefV.cell1 q1 hb2.out; go_simp; (try go_bits); exact ⟨rfl, rfl⟩); simp only [Act.put, pA, pB, pC]
    obtain ⟨b3, hb3⟩ : ∃ b : Bool, RowKit.Hid ((((((d / Nat.gcd n d : Nat)) : Int)) == 1) = b) := ⟨_, hid rfl⟩
    apply txB b3 (wantsg (j := 3) (d := 39) (b := true) rfl rfl rfl rfl); (· intro w' hK; go_simp; (try go_bits); exact ⟨by have q := hb3.out; subst q; first | rfl | simp, rfl⟩); simp only [Act.put, pA, pB, pC]
    apply txF (wants0 rfl); (· intro w' hK; go_simp; (try go_bits); exact ⟨rfl, rfl⟩); simp only [Act.put, pA, pB, pC]
    refine txEnd (fun W14 hK => ?_)
    cases b3
    · --
     go_upto_region 8 with (fail)
     refine wp_region_tx w hK ?_
     clear hK
     iterate 2 (apply txF (wants0 rfl); (· intro w' hK; go_simp; (try go_bits); exact ⟨rfl, rfl⟩); simp only [Act.put, pA, pB, pC])
     obtain ⟨b4, hb4⟩ : ∃ b : Bool, RowKit.Hid (((((digs B6 (n / (Nat.gcd n d))).length : Int)) == 0) = b) := ⟨_, hid rfl⟩
     apply txB b4 (wants0 rfl); (· intro w' hK; go_simp; (try go_bits); exact ⟨by have q := hb4.out; subst q; first | rfl | simp, rfl⟩); simp only [Act.put, pA, pB, pC]
     refine txEnd (fun W15 hK => ?_)
     cases b4
     · --
      go_upto_region 10 with (fail)
      refine wp_region_tx w hK ?_
      clear hK
      iterate 4 (apply txF (wants0 rfl); (· intro w' hK; go_simp; (try go_bits); exact ⟨rfl, rfl⟩); simp only [Act.put, pA, pB, pC])
      apply txU 5 (Has w.heap.size R1 (.cells #[.bool s, .slice sv6.a.p (digs B6 (n / (Nat.gcd n d))).length sv6.a.c, .slice sv8.a.p (digs B6 (d / (Nat.gcd n d))).length sv8.a.c] 36)) (wants0 rfl)
      · intro l1 hl1 w' hK; have k_R1 := (hK.get m5); have ⟨c_R1_0, c_R1_1, c_R1_2⟩ := k_R1.c3; have f_R1 := k_R1.fz; have ni := noInt_of k_R1 nofun; go_simp; obtain rfl := hl1.out; exact ⟨rfl, ks_put (R := R1) hK k_R1.1 0 [.bool s, .slice sv6.a.p (digs B6 (n / (Nat.gcd n d))).length sv6.a.c, .slice sv8.a.p (digs B6 (d / (Nat.gcd n d))).length sv8.a.c] (al1 (spR ni (hK.get m0)) (al1 (spR ni (hK.get m1)) (al1 (spR ni (hK.get m2)) (al1 (spR ni (hK.get m3)) (al1 (spR ni (hK.get m4)) (al1 (fun _ => has_put k_R1 _ _) (al1 (spR ni (hK.get m6)) (al1 (spR ni (hK.get m7)) aN))))))))⟩
      simp only [Act.put, pB, pC]
      apply txF (wants0 rfl); (· intro w' hK; go_simp; (try go_bits); exact ⟨rfl, rfl⟩); simp only [Act.put, pA, pB, pC]
      refine txEnd (fun W16 hK => ?_)
      have k_R1 := (hK.get m5); have ⟨c_R1_0, c_R1_1, c_R1_2⟩ := k_R1.c3
      have hd0 : d ≠ 0 := len6_pos hb1.out
      go_wp2
      exact bodyPost_ret (v := .tuple #[.agg #[.bool s, .slice sv6.a.p (digs B6 (n / (Nat.gcd n d))).length sv6.a.c, .slice sv8.a.p (digs B6 (d / (Nat.gcd n d))).length sv8.a.c], .int .i64 0]) (by simp [results, Tryz.results56, go_sem, c_R1_0, c_R1_1, c_R1_2]) rfl ((by obtain rfl := hQ0.out; exact ⟨.agg #[.bool s, .slice sv6.a.p (digs B6 (n / (Nat.gcd n d))).length sv6.a.c, .slice sv8.a.p (digs B6 (d / (Nat.gcd n d))).length sv8.a.c], (by rw [if_neg (len6_pos hb1.out)]), (RefR.make hd0 (make_b1 s (len6_pos hb4.out)) (rfl) ((if_neg (beq1_f hb3.out)).symm) (hK.get m2) (hK.get m0)), hK.old⟩))
     · --
      go_upto_region 10 with (fail)
      refine wp_region_tx w hK ?_
      clear hK
      iterate 4 (apply txF (wants0 rfl); (· intro w' hK; go_simp; (try go_bits); exact ⟨rfl, rfl⟩); simp only [Act.put, pA, pB, pC])
      apply txU 5 (Has w.heap.size R1 (.cells #[.bool false, .slice none 0 0, .slice sv8.a.p (digs B6 (d / (Nat.gcd n d))).length sv8.a.c] 36)) (wants0 rfl)
      · intro l1 hl1 w' hK; have k_R1 := (hK.get m5); have ⟨c_R1_0, c_R1_1, c_R1_2⟩ := k_R1.c3; have f_R1 := k_R1.fz; have ni := noInt_of k_R1 nofun; go_simp; obtain rfl := hl1.out; exact ⟨rfl, ks_put (R := R1) hK k_R1.1 0 [.bool false, .slice none 0 0, .slice sv8.a.p (digs B6 (d / (Nat.gcd n d))).length sv8.a.c] (al1 (spR ni (hK.get m0)) (al1 (spR ni (hK.get m1)) (al1 (spR ni (hK.get m2)) (al1 (spR ni (hK.get m3)) (al1 (spR ni (hK.get m4)) (al1 (fun _ => has_put k_R1 _ _) (al1 (spR ni (hK.get m6)) (al1 (spR ni (hK.get m7)) aN))))))))⟩
      simp only [Act.put, pB, pC]
      apply txF (wants0 rfl); (· intro w' hK; go_simp; (try go_bits); exact ⟨rfl, rfl⟩); simp only [Act.put, pA, pB, pC]
      refine txEnd (fun W17 hK => ?_)
      have k_R1 := (hK.get m5); have ⟨c_R1_0, c_R1_1, c_R1_2⟩ := k_R1.c3
      have hd0 : d ≠ 0 := len6_pos hb1.out
      go_wp2
      exact bodyPost_ret (v := .tuple #[.agg #[.bool false, .slice none 0 0, .slice sv8.a.p (digs B6 (d / (Nat.gcd n d))).length sv8.a.c], .int .i64 0]) (by simp [results, Tryz.results56, go_sem, c_R1_0, c_R1_1, c_R1_2]) rfl ((by obtain rfl := hQ0.out; exact ⟨.agg #[.bool false, .slice none 0 0, .slice sv8.a.p (digs B6 (d / (Nat.gcd n d))).length sv8.a.c], (by rw [if_neg (len6_pos hb1.out)]), (RefR.make hd0 (make_b0 s hd0 (len6_zero hb4.out)) ((len6_zero hb4.out).symm) ((if_neg (beq1_f hb3.out)).symm) (RefV.zero _) (hK.get m0)), hK.old⟩))
    · --
     go_upto_region 8 with (fail)
     refine wp_region_tx w hK ?_
     clear hK
     iterate 2 (apply txF (wants0 rfl); (· intro w' hK; go_simp; (try go_bits); exact ⟨rfl, rfl⟩); simp only [Act.put, pA, pB, pC])
     obtain ⟨b4, hb4⟩ : ∃ b : Bool, RowKit.Hid (((((digs B6 (n / (Nat.gcd n d))).length : Int)) == 0) = b) := ⟨_, hid rfl⟩
     apply txB b4 (wants0 rfl); (· intro w' hK; go_simp; (try go_bits); exact ⟨by have q := hb4.out; subst q; first | rfl | simp, rfl⟩); simp only [Act.put, pA, pB, pC]
     refine txEnd (fun W18 hK => ?_)
     cases b4
     · --
      go_upto_region 10 with (fail)
      refine wp_region_tx w hK ?_
      clear hK
      iterate 4 (apply txF (wants0 rfl); (· intro w' hK; go_simp; (try go_bits); exact ⟨rfl, rfl⟩); simp only [Act.put, pA, pB, pC])
      apply txU 5 (Has w.heap.size R1 (.cells #[.bool s, .slice sv6.a.p (digs B6 (n / (Nat.gcd n d))).length sv6.a.c, .slice none 0 0] 36)) (wants0 rfl)
      · intro l1 hl1 w' hK; have k_R1 := (hK.get m5); have ⟨c_R1_0, c_R1_1, c_R1_2⟩ := k_R1.c3; have f_R1 := k_R1.fz; have ni := noInt_of k_R1 nofun; go_simp; obtain rfl := hl1.out; exact ⟨rfl, ks_put (R := R1) hK k_R1.1 0 [.bool s, .slice sv6.a.p (digs B6 (n / (Nat.gcd n d))).length sv6.a.c, .slice none 0 0] (al1 (spR ni (hK.get m0)) (al1 (spR ni (hK.get m1)) (al1 (spR ni (hK.get m2)) (al1 (spR ni (hK.get m3)) (al1 (spR ni (hK.get m4)) (al1 (fun _ => has_put k_R1 _ _) (al1 (spR ni (hK.get m6)) (al1 (spR ni (hK.get m7)) aN))))))))⟩
      simp only [Act.put, pB, pC]
      apply txF (wants0 rfl); (· intro w' hK; go_simp; (try go_bits); exact ⟨rfl, rfl⟩); simp only [Act.put, pA, pB, pC]
      refine txEnd (fun W19 hK => ?_)
      have k_R1 := (hK.get m5); have ⟨c_R1_0, c_R1_1, c_R1_2⟩ := k_R1.c3
      have hd0 : d ≠ 0 := len6_pos hb1.out
      go_wp2
      exact bodyPost_ret (v := .tuple #[.agg #[.bool s, .slice sv6.a.p (digs B6 (n / (Nat.gcd n d))).length sv6.a.c, .slice none 0 0], .int .i64 0]) (by simp [results, Tryz.results56, go_sem, c_R1_0, c_R1_1, c_R1_2]) rfl ((by obtain rfl := hQ0.out; exact ⟨.agg #[.bool s, .slice sv6.a.p (digs B6 (n / (Nat.gcd n d))).length sv6.a.c, .slice none 0 0], (by rw [if_neg (len6_pos hb1.out)]), (RefR.make hd0 (make_b1 s (len6_pos hb4.out)) (rfl) ((if_pos (beq1_t hb3.out)).symm) (hK.get m2) (RefV.zero _)), hK.old⟩))
     · --
      go_upto_region 10 with (fail)
      refine wp_region_tx w hK ?_
      clear hK
      iterate 4 (apply txF (wants0 rfl); (· intro w' hK; go_simp; (try go_bits); exact ⟨rfl, rfl⟩); simp only [Act.put, pA, pB, pC])
      apply txU 5 (Has w.heap.size R1 (.cells #[.bool false, .slice none 0 0, .slice none 0 0] 36)) (wants0 rfl)
      · intro l1 hl1 w' hK; have k_R1 := (hK.get m5); have ⟨c_R1_0, c_R1_1, c_R1_2⟩ := k_R1.c3; have f_R1 := k_R1.fz; have ni := noInt_of k_R1 nofun; go_simp; obtain rfl := hl1.out; exact ⟨rfl, ks_put (R := R1) hK k_R1.1 0 [.bool false, .slice none 0 0, .slice none 0 0] (al1 (spR ni (hK.get m0)) (al1 (spR ni (hK.get m1)) (al1 (spR ni (hK.get m2)) (al1 (spR ni (hK.get m3)) (al1 (spR ni (hK.get m4)) (al1 (fun _ => has_put k_R1 _ _) (al1 (spR ni (hK.get m6)) (al1 (spR ni (hK.get m7)) aN))))))))⟩
      simp only [Act.put, pB, pC]
      apply txF (wants0 rfl); (· intro w' hK; go_simp; (try go_bits); exact ⟨rfl, rfl⟩); simp only [Act.put, pA, pB, pC]
      refine txEnd (fun W20 hK => ?_)
      have k_R1 := (hK.get m5); have ⟨c_R1_0, c_R1_1, c_R1_2⟩ := k_R1.c3
      have hd0 : d ≠ 0 := len6_pos hb1.out
      go_wp2
      exact bodyPost_ret (v := .tuple #[.agg #[.bool false, .slice none 0 0, .slice none 0 0], .int .i64 0]) (by simp [results, Tryz.results56, go_sem, c_R1_0, c_R1_1, c_R1_2]) rfl ((by obtain rfl := hQ0.out; exact ⟨.agg #[.bool false, .slice none 0 0, .slice none 0 0], (by rw [if_neg (len6_pos hb1.out)]), (RefR.make hd0 (make_b0 s hd0 (len6_zero hb4.out)) ((len6_zero hb4.out).symm) ((if_pos (beq1_t hb3.out)).symm) (RefV.zero _) (RefV.zero _)), hK.old⟩))
  · --
   go_upto_region 2 with (fail)
   refine wp_region_tx w hK ?_
   clear hK
   apply txF (wants0 rfl); (· intro w' hK; go_simp; (try go_bits); exact ⟨rfl, rfl⟩); simp only [Act.put, pA, pB, pC]
   apply txU 0 (Has w.heap.size R1 (.cells #[.bool false, .slice none 0 0, .slice none 0 0] 36)) (wants0 rfl)
   · intro l1 hl1 w' hK; have k_R1 := (hK.get m0); have ⟨c_R1_0, c_R1_1, c_R1_2⟩ := k_R1.c3; have f_R1 := k_R1.fz; have ni := noInt_of k_R1 nofun; go_simp; obtain rfl := hl1.out; exact ⟨rfl, ks_put (R := R1) hK k_R1.1 0 [.bool false, .slice none 0 0, .slice none 0 0] (al1 (fun _ => has_put k_R1 _ _) (al1 (spR ni (hK.get m1)) (al1 (spR ni (hK.get m2)) aN)))⟩
   simp only [Act.put, pB]
   apply txF (wants0 rfl); (· intro w' hK; go_simp; (try go_bits); exact ⟨rfl, rfl⟩); simp only [Act.put, pA, pB, pC]
   refine txEnd (fun W21 hK => ?_)
   have k_R1 := (hK.get m0); have ⟨c_R1_0, c_R1_1, c_R1_2⟩ := k_R1.c3
   go_wp2
   exact bodyPost_ret (v := .tuple #[.agg #[.bool false, .slice none 0 0, .slice none 0 0], .int .i64 10]) (by simp [results, Tryz.results56, go_sem, c_R1_0, c_R1_1, c_R1_2]) rfl ((by obtain rfl := hQ0.out; exact ⟨.agg #[.bool false, .slice none 0 0, .slice none 0 0], (by rw [if_pos (len6_zero hb1.out)]), (by rw [len6_zero hb1.out, ofS_00]; exact RefR.zero _), hK.old⟩))
set_option maxRecDepth 100000 in
theorem rmade_q (v1 : Value) (v2 : Value) (s : Bool) (n : Nat) (d : Nat) (w : World) (h1 : RefV w v1 n) (h2 : RefV w v2 d) (l1 : (digs B6 n).length ≤ 50000) (l2 : (digs B6 d).length ≤ 50000) :
    Calls Tryz.prog 70 #[.bool s, v1, v2] w fun e w' => ∃ y0, e = .returned y0 ∧ RefR w' y0 (ofS s n d) ∧ Below w.heap.size w w' := by
  obtain ⟨p_h1, c_h1, rfl⟩ := h1.slr
  obtain ⟨p_h2, c_h2, rfl⟩ := h2.slr
  have hK : KS w [fun w => RefV w (.slice p_h2 (digs B6 d).length c_h2) d, fun w => RefV w (.slice p_h1 (digs B6 n).length c_h1) n] w := (KS.add (KS.add (KS.start w) (fun w' hb => h1.below hb)) (fun w' hb => h2.below hb))
  refine Calls.hide (fun Q0 hQ0 => ?_)
  go_enter Tryz.func70, Tryz.ntmps70
  go_upto_region 0 with (fail)
  refine wp_region_tx w hK ?_
  clear hK
  apply txA (.cells #[.bool false, .slice none 0 0, .slice none 0 0] 36) (wants0 rfl)
  · intro w' hK; go_simp; rfl
  intro R1 q_R1
  clear q_R1
  simp only [mkOf, Act.put, pA, pB, pC]
  refine txEnd (fun W2 hK => ?_)
  go_upto_region 1 with (fail)
  refine wp_region_tx w hK ?_
  clear hK
  iterate 3 (apply txF (wants0 rfl); (· intro w' hK; go_simp; (try go_bits); exact ⟨rfl, rfl⟩); simp only [Act.put, pA, pB, pC])
  obtain ⟨z1, hz1⟩ : ∃ b : Int, RowKit.Hid ((if d = 0 then 10 else 0) = b) := ⟨_, hid rfl⟩
  apply txE (α := Duo Sl Sl) (fun sv => .tuple #[.agg #[.bool (isN (ofS s n d)), .slice sv.a.p (digs B6 (numQ (ofS s n d))).length sv.a.c, .slice sv.b.p (digs B6 (den0 (ofS s n d))).length sv.b.c], .int .i64 z1]) (fun sv => [fun w => RefR w (.agg #[.bool (isN (ofS s n d)), .slice sv.a.p (digs B6 (numQ (ofS s n d))).length sv.a.c, .slice sv.b.p (digs B6 (den0 (ofS s n d))).length sv.b.c]) (ofS s n d), fun w => RefV w (.slice sv.a.p (digs B6 (numQ (ofS s n d))).length sv.a.c) (numQ (ofS s n d)), fun w => RefV w (.slice sv.b.p (digs B6 (den0 (ofS s n d))).length sv.b.c) (den0 (ofS s n d))]) (wants0 rfl)
  · intro f1 l1 hl1 w' hK; go_simp; (try go_bits); refine (rmake_q (.slice p_h1 (digs B6 n).length c_h1) (.slice p_h2 (digs B6 d).length c_h2) s n d w' (hK.get m2) (hK.get m1) (by omega) (by omega)).mono ?_; rintro e w5 ⟨y0, rfl, u0, hb⟩; obtain ⟨rfl, rfl⟩ := hl1.out; have u0_0 := u0; obtain ⟨p_u0, c_u0, q_u0, d_u0, rfl, u0_1, u0_2⟩ := u0.slr; exact ⟨_, rfl, (⟨⟨p_u0, 0, c_u0⟩, ⟨q_u0, 0, d_u0⟩⟩ : Duo Sl Sl), (by rw [hz1.out]), hb, .cons (fun w2 h2 => u0_0.below h2) (.cons (fun w2 h2 => u0_1.below h2) (.cons (fun w2 h2 => u0_2.below h2) (Lasts.nil _)))⟩
  intro sv3
  simp only [Act.put, pA, pB, pC, pD, pE]
  iterate 3 (apply txF (wants0 rfl); (· intro w' hK; go_simp; (try go_bits); exact ⟨rfl, rfl⟩); simp only [Act.put, pA, pB, pC])
  apply txA (.cells #[.bool false, .slice none 0 0, .slice none 0 0] 36) (wants0 rfl)
  · intro w' hK; go_simp; rfl
  intro R4 q_R4
  have o_R1_R4 : R1 < R4 := q_R4 _ _ _ m3
  clear q_R4
  simp only [mkOf, Act.put, pA, pB, pC]
  apply txU 0 (Has w.heap.size R4 (.cells #[.bool (isN (ofS s n d)), .slice sv3.a.p (digs B6 (numQ (ofS s n d))).length sv3.a.c, .slice sv3.b.p (digs B6 (den0 (ofS s n d))).length sv3.b.c] 36)) (wants0 rfl)
  · intro l1 hl1 w' hK; have k_R4 := (hK.get m0); have ⟨c_R4_0, c_R4_1, c_R4_2⟩ := k_R4.c3; have f_R4 := k_R4.fz; have ni := noInt_of k_R4 nofun; go_simp; obtain rfl := hl1.out; exact ⟨rfl, ks_put (R := R4) hK k_R4.1 0 [.bool (isN (ofS s n d)), .slice sv3.a.p (digs B6 (numQ (ofS s n d))).length sv3.a.c, .slice sv3.b.p (digs B6 (den0 (ofS s n d))).length sv3.b.c] (al1 (fun _ => has_put k_R4 _ _) (al1 (spS ni (hK.get m1)) (al1 (spR ni (hK.get m2)) (al1 (spR ni (hK.get m3)) (al1 (spL o_R1_R4 (hK.get m4)) (al1 (spR ni (hK.get m5)) (al1 (spR ni (hK.get m6)) aN)))))))⟩
  simp only [Act.put, pB]
  apply txF (wants0 rfl); (· intro w' hK; go_simp; (try go_bits); exact ⟨rfl, rfl⟩); simp only [Act.put, pA, pB, pC]
  refine txEnd (fun W5 hK => ?_)
  go_upto_region 2 with (fail)
  refine wp_region_tx w hK ?_
  clear hK
  apply txF (wants0 rfl); (· intro w' hK; have k_R4 := (hK.get m0); have ⟨c_R4_0, c_R4_1, c_R4_2⟩ := k_R4.c3; go_simp; (try go_bits); exact ⟨rfl, rfl⟩); simp only [Act.put, pA, pB, pC]
  apply txU 4 (Has w.heap.size R1 (.cells #[.bool (isN (ofS s n d)), .slice sv3.a.p (digs B6 (numQ (ofS s n d))).length sv3.a.c, .slice sv3.b.p (digs B6 (den0 (ofS s n d))).length sv3.b.c] 36)) (wants0 rfl)
  · intro l1 hl1 w' hK; have k_R1 := (hK.get m4); have ⟨c_R1_0, c_R1_1, c_R1_2⟩ := k_R1.c3; have f_R1 := k_R1.fz; have ni := noInt_of k_R1 nofun; go_simp; obtain rfl := hl1.out; exact ⟨rfl, ks_put (R := R1) hK k_R1.1 0 [.bool (isN (ofS s n d)), .slice sv3.a.p (digs B6 (numQ (ofS s n d))).length sv3.a.c, .slice sv3.b.p (digs B6 (den0 (ofS s n d))).length sv3.b.c] (al1 (spG o_R1_R4 (hK.get m0)) (al1 (spS ni (hK.get m1)) (al1 (spR ni (hK.get m2)) (al1 (spR ni (hK.get m3)) (al1 (fun _ => has_put k_R1 _ _) (al1 (spR ni (hK.get m5)) (al1 (spR ni (hK.get m6)) aN)))))))⟩
  simp only [Act.put, pB, pC]
  refine txEnd (fun W6 hK => ?_)
  have k_R1 := (hK.get m4); have ⟨c_R1_0, c_R1_1, c_R1_2⟩ := k_R1.c3
  go_wp2
  exact bodyPost_ret (v := .agg #[.bool (isN (ofS s n d)), .slice sv3.a.p (digs B6 (numQ (ofS s n d))).length sv3.a.c, .slice sv3.b.p (digs B6 (den0 (ofS s n d))).length sv3.b.c]) (by simp [results, Tryz.results70, go_sem, c_R1_0, c_R1_1, c_R1_2]) rfl ((by obtain rfl := hQ0.out; exact ⟨_, rfl, (hK.get m1), hK.old⟩))
set_option maxRecDepth 100000 in
theorem rsize_q  (n : Int) (w : World)  (n0 : -9223372036854775808 ≤ n) (n1 : n ≤ 9223372036854775807) :
    Calls Tryz.prog 71 #[.int .i64 n] w fun e w' => ∃ y0, e = .returned y0 ∧ RefV w' y0 n.natAbs ∧ Below w.heap.size w w' := by
  have hK : KS w [] w := (KS.start w)
  refine Calls.hide (fun Q0 hQ0 => ?_)
  go_enter Tryz.func71, Tryz.ntmps71
  go_upto_region 1 with (fail)
  refine wp_region_tx w hK ?_
  clear hK
  apply txF (wants0 rfl); (· intro w' hK; go_simp; (try go_bits); exact ⟨rfl, rfl⟩); simp only [Act.put, pA, pB, pC]
  obtain ⟨b1, hb1⟩ : ∃ b : Bool, RowKit.Hid (decide (n < 0) = b) := ⟨_, hid rfl⟩
  apply txB b1 (wants0 rfl); (· intro w' hK; go_simp; (try go_bits); exact ⟨by have q := hb1.out; subst q; first | rfl | simp, rfl⟩); simp only [Act.put, pA, pB, pC]
  refine txEnd (fun W1 hK => ?_)
  cases b1
  · --
   go_upto_region 3 with (fail)
   refine wp_region_tx w hK ?_
   clear hK
   iterate 2 (apply txF (wants0 rfl); (· intro w' hK; go_simp; (try go_bits); exact ⟨rfl, rfl⟩); simp only [Act.put, pA, pB, pC])
   apply txE (α := Sl) (fun sv => .slice sv.p (digs B6 n.natAbs).length sv.c) (fun sv => [fun w => RefV w (.slice sv.p (digs B6 n.natAbs).length sv.c) n.natAbs]) (wants0 rfl)
   · intro f1 l1 hl1 w' hK; go_simp; (try go_bits); rw [size_c n1 hb1.out]; refine (rof_any  n.natAbs w'  (by omega)).mono ?_; rintro e w5 ⟨y0, rfl, u0, hb⟩; obtain ⟨rfl, rfl⟩ := hl1.out; obtain ⟨p_u0, c_u0, rfl⟩ := u0.slr; exact ⟨_, rfl, (⟨p_u0, 0, c_u0⟩ : Sl), rfl, hb, .cons (fun w2 h2 => u0.below h2) (Lasts.nil _)⟩
   intro sv2
   simp only [Act.put, pA, pB, pC, pD, pE]
   apply txF (wants0 rfl); (· intro w' hK; go_simp; (try go_bits); exact ⟨rfl, rfl⟩); simp only [Act.put, pA, pB, pC]
   refine txEnd (fun W3 hK => ?_)
   go_wp2
   try go_ret
   show Q0 (.returned (.slice sv2.p (digs B6 n.natAbs).length sv2.c)) _
   exact (by obtain rfl := hQ0.out; exact ⟨_, rfl, (hK.get m0), hK.old⟩)
  · --
   go_upto_region 2 with (fail)
   refine wp_region_tx w hK ?_
   clear hK
   iterate 5 (apply txF (wants0 rfl); (· intro w' hK; go_simp; (try go_bits); exact ⟨rfl, rfl⟩); simp only [Act.put, pA, pB, pC])
   apply txE (α := Sl) (fun sv => .slice sv.p (digs B6 n.natAbs).length sv.c) (fun sv => [fun w => RefV w (.slice sv.p (digs B6 n.natAbs).length sv.c) n.natAbs]) (wants0 rfl)
   · intro f1 l1 hl1 w' hK; go_simp; (try go_bits); rw [size_a n0 hb1.out]; refine (rof_any  n.natAbs w'  (by omega)).mono ?_; rintro e w5 ⟨y0, rfl, u0, hb⟩; obtain ⟨rfl, rfl⟩ := hl1.out; obtain ⟨p_u0, c_u0, rfl⟩ := u0.slr; exact ⟨_, rfl, (⟨p_u0, 0, c_u0⟩ : Sl), rfl, hb, .cons (fun w2 h2 => u0.below h2) (Lasts.nil _)⟩
   intro sv4
   simp only [Act.put, pA, pB, pC, pD, pE]
   apply txF (wants0 rfl); (· intro w' hK; go_simp; (try go_bits); exact ⟨rfl, rfl⟩); simp only [Act.put, pA, pB, pC]
   refine txEnd (fun W5 hK => ?_)
   go_wp2
   try go_ret
   show Q0 (.returned (.slice sv4.p (digs B6 n.natAbs).length sv4.c)) _
   exact (by obtain rfl := hQ0.out; exact ⟨_, rfl, (hK.get m0), hK.old⟩)
set_option maxRecDepth 100000 in
theorem rof_q  (n : Int) (d : Int) (w : World)  (n0 : -9223372036854775808 ≤ n) (n1 : n ≤ 9223372036854775807) (d0 : -9223372036854775808 ≤ d) (d1 : d ≤ 9223372036854775807) :
    Calls Tryz.prog 30 #[.int .i64 n, .int .i64 d] w fun e w' => ∃ y0, e = .returned y0 ∧ RefR w' y0 (((n : Int) : Rat) / ((d : Int) : Rat)) ∧ Below w.heap.size w w' := by
  have hK : KS w [] w := (KS.start w)
  have l1 := int_len6 n0 n1
  have l2 := int_len6 d0 d1
  refine Calls.hide (fun Q0 hQ0 => ?_)
  go_enter Tryz.func30, Tryz.ntmps30
  go_upto_region 0 with (fail)
  refine wp_region_tx w hK ?_
  clear hK
  apply txA (.cells #[.bool false, .slice none 0 0, .slice none 0 0] 36) (wants0 rfl)
  · intro w' hK; go_simp; rfl
  intro R1 q_R1
  clear q_R1
  simp only [mkOf, Act.put, pA, pB, pC]
  refine txEnd (fun W2 hK => ?_)
  go_upto_region 1 with (fail)
  refine wp_region_tx w hK ?_
  clear hK
  apply txF (wants0 rfl); (· intro w' hK; go_simp; (try go_bits); exact ⟨rfl, rfl⟩); simp only [Act.put, pA, pB, pC]
  obtain ⟨b1, hb1⟩ : ∃ b : Bool, RowKit.Hid (decide (n < 0) = b) := ⟨_, hid rfl⟩
  apply txB b1 (wants0 rfl); (· intro w' hK; go_simp; (try go_bits); exact ⟨by have q := hb1.out; subst q; first | rfl | simp, rfl⟩); simp only [Act.put, pA, pB, pC]
  apply txF (wants0 rfl); (· intro w' hK; go_simp; (try go_bits); exact ⟨rfl, rfl⟩); simp only [Act.put, pA, pB, pC]
  obtain ⟨b2, hb2⟩ : ∃ b : Bool, RowKit.Hid (decide (d < 0) = b) := ⟨_, hid rfl⟩
  apply txB b2 (wants0 rfl); (· intro w' hK; go_simp; (try go_bits); exact ⟨by have q := hb2.out; subst q; first | rfl | simp, rfl⟩); simp only [Act.put, pA, pB, pC]
  iterate 2 (apply txF (wants0 rfl); (· intro w' hK; go_simp; (try go_bits); exact ⟨rfl, rfl⟩); simp only [Act.put, pA, pB, pC])
  apply txE (α := Sl) (fun sv => .slice sv.p (digs B6 n.natAbs).length sv.c) (fun sv => [fun w => RefV w (.slice sv.p (digs B6 n.natAbs).length sv.c) n.natAbs]) (wants0 rfl)
  · intro f1 l1 hl1 w' hK; go_simp; (try go_bits); refine (rsize_q  n w'  (by omega) (by omega)).mono ?_; rintro e w5 ⟨y0, rfl, u0, hb⟩; obtain ⟨rfl, rfl⟩ := hl1.out; obtain ⟨p_u0, c_u0, rfl⟩ := u0.slr; exact ⟨_, rfl, (⟨p_u0, 0, c_u0⟩ : Sl), rfl, hb, .cons (fun w2 h2 => u0.below h2) (Lasts.nil _)⟩
  intro sv3
  simp only [Act.put, pA, pB, pC, pD, pE]
  apply txF (wants0 rfl); (· intro w' hK; go_simp; (try go_bits); exact ⟨rfl, rfl⟩); simp only [Act.put, pA, pB, pC]
  apply txE (α := Sl) (fun sv => .slice sv.p (digs B6 d.natAbs).length sv.c) (fun sv => [fun w => RefV w (.slice sv.p (digs B6 d.natAbs).length sv.c) d.natAbs]) (wants0 rfl)
  · intro f1 l1 hl1 w' hK; go_simp; (try go_bits); refine (rsize_q  d w'  (by omega) (by omega)).mono ?_; rintro e w5 ⟨y0, rfl, u0, hb⟩; obtain ⟨rfl, rfl⟩ := hl1.out; obtain ⟨p_u0, c_u0, rfl⟩ := u0.slr; exact ⟨_, rfl, (⟨p_u0, 0, c_u0⟩ : Sl), rfl, hb, .cons (fun w2 h2 => u0.below h2) (Lasts.nil _)⟩
  intro sv4
  simp only [Act.put, pA, pB, pC, pD, pE]
  apply txE (α := Duo Sl Sl) (fun sv => .agg #[.bool (isN (ofS ((b1 != b2)) n.natAbs d.natAbs)), .slice sv.a.p (digs B6 (numQ (ofS ((b1 != b2)) n.natAbs d.natAbs))).length sv.a.c, .slice sv.b.p (digs B6 (den0 (ofS ((b1 != b2)) n.natAbs d.natAbs))).length sv.b.c]) (fun sv => [fun w => RefR w (.agg #[.bool (isN (ofS ((b1 != b2)) n.natAbs d.natAbs)), .slice sv.a.p (digs B6 (numQ (ofS ((b1 != b2)) n.natAbs d.natAbs))).length sv.a.c, .slice sv.b.p (digs B6 (den0 (ofS ((b1 != b2)) n.natAbs d.natAbs))).length sv.b.c]) (ofS ((b1 != b2)) n.natAbs d.natAbs), fun w => RefV w (.slice sv.a.p (digs B6 (numQ (ofS ((b1 != b2)) n.natAbs d.natAbs))).length sv.a.c) (numQ (ofS ((b1 != b2)) n.natAbs d.natAbs)), fun w => RefV w (.slice sv.b.p (digs B6 (den0 (ofS ((b1 != b2)) n.natAbs d.natAbs))).length sv.b.c) (den0 (ofS ((b1 != b2)) n.natAbs d.natAbs))]) (wants0 rfl)
  · intro f1 l1 hl1 w' hK; go_simp; (try go_bits); refine (rmade_q (.slice sv3.p (digs B6 n.natAbs).length sv3.c) (.slice sv4.p (digs B6 d.natAbs).length sv4.c) ((b1 != b2)) n.natAbs d.natAbs w' (hK.get m1) (hK.get m0) (by omega) (by omega)).mono ?_; rintro e w5 ⟨y0, rfl, u0, hb⟩; obtain ⟨rfl, rfl⟩ := hl1.out; have u0_0 := u0; obtain ⟨p_u0, c_u0, q_u0, d_u0, rfl, u0_1, u0_2⟩ := u0.slr; exact ⟨_, rfl, (⟨⟨p_u0, 0, c_u0⟩, ⟨q_u0, 0, d_u0⟩⟩ : Duo Sl Sl), rfl, hb, .cons (fun w2 h2 => u0_0.below h2) (.cons (fun w2 h2 => u0_1.below h2) (.cons (fun w2 h2 => u0_2.below h2) (Lasts.nil _)))⟩
  intro sv5
  simp only [Act.put, pA, pB, pC, pD, pE]
  apply txU 5 (Has w.heap.size R1 (.cells #[.bool (isN (ofS ((b1 != b2)) n.natAbs d.natAbs)), .slice sv5.a.p (digs B6 (numQ (ofS ((b1 != b2)) n.natAbs d.natAbs))).length sv5.a.c, .slice sv5.b.p (digs B6 (den0 (ofS ((b1 != b2)) n.natAbs d.natAbs))).length sv5.b.c] 36)) (wants0 rfl)
  · intro l1 hl1 w' hK; have k_R1 := (hK.get m5); have ⟨c_R1_0, c_R1_1, c_R1_2⟩ := k_R1.c3; have f_R1 := k_R1.fz; have ni := noInt_of k_R1 nofun; go_simp; obtain rfl := hl1.out; exact ⟨rfl, ks_put (R := R1) hK k_R1.1 0 [.bool (isN (ofS ((b1 != b2)) n.natAbs d.natAbs)), .slice sv5.a.p (digs B6 (numQ (ofS ((b1 != b2)) n.natAbs d.natAbs))).length sv5.a.c, .slice sv5.b.p (digs B6 (den0 (ofS ((b1 != b2)) n.natAbs d.natAbs))).length sv5.b.c] (al1 (spS ni (hK.get m0)) (al1 (spR ni (hK.get m1)) (al1 (spR ni (hK.get m2)) (al1 (spR ni (hK.get m3)) (al1 (spR ni (hK.get m4)) (al1 (fun _ => has_put k_R1 _ _) aN))))))⟩
  simp only [Act.put, pB, pC]
  refine txEnd (fun W6 hK => ?_)
  have k_R1 := (hK.get m5); have ⟨c_R1_0, c_R1_1, c_R1_2⟩ := k_R1.c3
  go_wp2
  exact bodyPost_ret (v := .agg #[.bool (isN (ofS ((b1 != b2)) n.natAbs d.natAbs)), .slice sv5.a.p (digs B6 (numQ (ofS ((b1 != b2)) n.natAbs d.natAbs))).length sv5.a.c, .slice sv5.b.p (digs B6 (den0 (ofS ((b1 != b2)) n.natAbs d.natAbs))).length sv5.b.c]) (by simp [results, Tryz.results30, go_sem, c_R1_0, c_R1_1, c_R1_2]) rfl ((by obtain rfl := hQ0.out; exact ⟨_, rfl, (Eq.mp (congrArg (RefR _ _) (show ofS ((b1 != b2)) n.natAbs d.natAbs = ((n : Int) : Rat) / ((d : Int) : Rat) from (by rw [← hb1.out, ← hb2.out]; exact quo_ints n d))) (hK.get m0)), hK.old⟩))
set_option maxRecDepth 100000 in
theorem rint_q  (n : Int) (w : World)  (n0 : -9223372036854775808 ≤ n) (n1 : n ≤ 9223372036854775807) :
    Calls Tryz.prog 28 #[.int .i64 n] w fun e w' => ∃ y0, e = .returned y0 ∧ RefR w' y0 (((n : Int) : Rat)) ∧ Below w.heap.size w w' := by
  have hK : KS w [] w := (KS.start w)
  refine Calls.hide (fun Q0 hQ0 => ?_)
  go_enter Tryz.func28, Tryz.ntmps28
  go_upto_region 0 with (fail)
  refine wp_region_tx w hK ?_
  clear hK
  apply txA (.cells #[.bool false, .slice none 0 0, .slice none 0 0] 36) (wants0 rfl)
  · intro w' hK; go_simp; rfl
  intro R1 q_R1
  clear q_R1
  simp only [mkOf, Act.put, pA, pB, pC]
  refine txEnd (fun W2 hK => ?_)
  go_upto_region 1 with (fail)
  refine wp_region_tx w hK ?_
  clear hK
  apply txF (wants0 rfl); (· intro w' hK; go_simp; (try go_bits); exact ⟨rfl, rfl⟩); simp only [Act.put, pA, pB, pC]
  apply txE (α := Duo Sl Sl) (fun sv => .agg #[.bool (isN (((n : Int) : Rat) / ((1 : Int) : Rat))), .slice sv.a.p (digs B6 (numQ (((n : Int) : Rat) / ((1 : Int) : Rat)))).length sv.a.c, .slice sv.b.p (digs B6 (den0 (((n : Int) : Rat) / ((1 : Int) : Rat)))).length sv.b.c]) (fun sv => [fun w => RefR w (.agg #[.bool (isN (((n : Int) : Rat) / ((1 : Int) : Rat))), .slice sv.a.p (digs B6 (numQ (((n : Int) : Rat) / ((1 : Int) : Rat)))).length sv.a.c, .slice sv.b.p (digs B6 (den0 (((n : Int) : Rat) / ((1 : Int) : Rat)))).length sv.b.c]) (((n : Int) : Rat) / ((1 : Int) : Rat)), fun w => RefV w (.slice sv.a.p (digs B6 (numQ (((n : Int) : Rat) / ((1 : Int) : Rat)))).length sv.a.c) (numQ (((n : Int) : Rat) / ((1 : Int) : Rat))), fun w => RefV w (.slice sv.b.p (digs B6 (den0 (((n : Int) : Rat) / ((1 : Int) : Rat)))).length sv.b.c) (den0 (((n : Int) : Rat) / ((1 : Int) : Rat)))]) (wants0 rfl)
  · intro f1 l1 hl1 w' hK; go_simp; (try go_bits); refine (rof_q  n 1 w'  (by omega) (by omega) (by omega) (by omega)).mono ?_; rintro e w5 ⟨y0, rfl, u0, hb⟩; obtain ⟨rfl, rfl⟩ := hl1.out; have u0_0 := u0; obtain ⟨p_u0, c_u0, q_u0, d_u0, rfl, u0_1, u0_2⟩ := u0.slr; exact ⟨_, rfl, (⟨⟨p_u0, 0, c_u0⟩, ⟨q_u0, 0, d_u0⟩⟩ : Duo Sl Sl), rfl, hb, .cons (fun w2 h2 => u0_0.below h2) (.cons (fun w2 h2 => u0_1.below h2) (.cons (fun w2 h2 => u0_2.below h2) (Lasts.nil _)))⟩
  intro sv3
  simp only [Act.put, pA, pB, pC, pD, pE]
  apply txU 3 (Has w.heap.size R1 (.cells #[.bool (isN (((n : Int) : Rat) / ((1 : Int) : Rat))), .slice sv3.a.p (digs B6 (numQ (((n : Int) : Rat) / ((1 : Int) : Rat)))).length sv3.a.c, .slice sv3.b.p (digs B6 (den0 (((n : Int) : Rat) / ((1 : Int) : Rat)))).length sv3.b.c] 36)) (wants0 rfl)
  · intro l1 hl1 w' hK; have k_R1 := (hK.get m3); have ⟨c_R1_0, c_R1_1, c_R1_2⟩ := k_R1.c3; have f_R1 := k_R1.fz; have ni := noInt_of k_R1 nofun; go_simp; obtain rfl := hl1.out; exact ⟨rfl, ks_put (R := R1) hK k_R1.1 0 [.bool (isN (((n : Int) : Rat) / ((1 : Int) : Rat))), .slice sv3.a.p (digs B6 (numQ (((n : Int) : Rat) / ((1 : Int) : Rat)))).length sv3.a.c, .slice sv3.b.p (digs B6 (den0 (((n : Int) : Rat) / ((1 : Int) : Rat)))).length sv3.b.c] (al1 (spS ni (hK.get m0)) (al1 (spR ni (hK.get m1)) (al1 (spR ni (hK.get m2)) (al1 (fun _ => has_put k_R1 _ _) aN))))⟩
  simp only [Act.put, pB, pC]
  refine txEnd (fun W4 hK => ?_)
  have k_R1 := (hK.get m3); have ⟨c_R1_0, c_R1_1, c_R1_2⟩ := k_R1.c3
  go_wp2
  exact bodyPost_ret (v := .agg #[.bool (isN (((n : Int) : Rat) / ((1 : Int) : Rat))), .slice sv3.a.p (digs B6 (numQ (((n : Int) : Rat) / ((1 : Int) : Rat)))).length sv3.a.c, .slice sv3.b.p (digs B6 (den0 (((n : Int) : Rat) / ((1 : Int) : Rat)))).length sv3.b.c]) (by simp [results, Tryz.results28, go_sem, c_R1_0, c_R1_1, c_R1_2]) rfl ((by obtain rfl := hQ0.out; exact ⟨_, rfl, (Eq.mp (congrArg (RefR _ _) (show ((n : Int) : Rat) / ((1 : Int) : Rat) = ((n : Int) : Rat) from (by rw [← quo_ints n 1]; show ofS (decide (n < 0) != false) n.natAbs 1 = _; rw [Bool.bne_false]; exact int_of n))) (hK.get m0)), hK.old⟩))
set_option maxRecDepth 100000 in
theorem rneg_q (v0 : Value) (x : Rat) (w : World) (h0 : RefR w v0 x) {k : Nat} (hx : LmQ k x) (hk : k ≤ 10000) :
    Calls Tryz.prog 36 #[v0] w fun e w' => ∃ y0, e = .returned y0 ∧ RefR w' y0 (-x) ∧ Below w.heap.size w w' := by
  have h0_0 := h0; obtain ⟨p_h0, c_h0, q_h0, d_h0, rfl, h0_1, h0_2⟩ := h0.slr
  have hK : KS w [fun w => RefR w (.agg #[.bool (isN x), .slice p_h0 (digs B6 (numQ x)).length c_h0, .slice q_h0 (digs B6 (den0 x)).length d_h0]) x, fun w => RefV w (.slice p_h0 (digs B6 (numQ x)).length c_h0) (numQ x), fun w => RefV w (.slice q_h0 (digs B6 (den0 x)).length d_h0) (den0 x)] w := (KS.add (KS.add (KS.add (KS.start w) (fun w' hb => h0_2.below hb)) (fun w' hb => h0_1.below hb)) (fun w' hb => h0_0.below hb))
  have e1 : (digs B6 (numQ x)).length ≤ 50000 := d6_of hx.n (by omega)
  have e2 := d6_of hx.d (by omega)
  refine Calls.hide (fun Q0 hQ0 => ?_)
  go_enter Tryz.func36, Tryz.ntmps36
  go_upto_region 0 with (fail)
  refine wp_region_tx w hK ?_
  clear hK
  apply txA (.cells #[.bool (isN x), .slice p_h0 (digs B6 (numQ x)).length c_h0, .slice q_h0 (digs B6 (den0 x)).length d_h0] 36) (wants0 rfl)
  · intro w' hK; go_simp; rfl
  intro R1 q_R1
  clear q_R1
  simp only [mkOf, Act.put, pA, pB, pC]
  apply txA (.cells #[.bool false, .slice none 0 0, .slice none 0 0] 36) (wants0 rfl)
  · intro w' hK; go_simp; rfl
  intro R2 q_R2
  have o_R1_R2 : R1 < R2 := q_R2 _ _ _ m0
  clear q_R2
  simp only [mkOf, Act.put, pA, pB, pC]
  refine txEnd (fun W3 hK => ?_)
  go_upto_region 1 with (fail)
  have hK0 := hK.subl (sC (sK (sK (sK (sK sZ)))))
  refine wp_region_float0 (w) _ _ [0, 0, 0, 0, 0, 0, 2, 2, 4] (by kernel_rfl) (by kernel_rfl) (by kernel_rfl) (by kernel_rfl) (KS.drew hK0) (KS.drew hK) ?_
  clear hK hK0
  apply lxF0 (wants0 rfl); (· intro w' h0; go_simp; (try go_bits); exact ⟨rfl, rfl⟩); simp only [Act.put, pA, pB, pC]
  apply lxF0 (wants0 rfl); (· intro w' h0; have k_R1 := (h0.get m0); have c_R1_0 := k_R1.at 0 rfl; go_simp; (try go_bits); exact ⟨rfl, rfl⟩); simp only [Act.put, pA, pB, pC]
  iterate 2 (apply lxF0 (wants0 rfl); (· intro w' h0; go_simp; (try go_bits); exact ⟨rfl, rfl⟩); simp only [Act.put, pA, pB, pC])
  apply lxF0 (wants0 rfl); (· intro w' h0; have k_R1 := (h0.get m0); have c_R1_1 := k_R1.at 1 rfl; go_simp; (try go_bits); exact ⟨rfl, rfl⟩); simp only [Act.put, pA, pB, pC]
  apply lxF0 (wants0 rfl); (· intro w' h0; have k_R1 := (h0.get m0); have ⟨c_R1_0, c_R1_1, c_R1_2⟩ := k_R1.c3; go_simp; (try go_bits); exact ⟨rfl, rfl⟩); simp only [Act.put, pA, pB, pC]
  apply lxE1 (α := Sl) (fun sv => .slice sv.p (digs B6 x.den).length sv.c) (fun sv => [fun w => RefV w (.slice sv.p (digs B6 x.den).length sv.c) x.den]) (wants0 rfl)
  · intro f1 l1 hl1 w' h0 hK; go_simp; (try go_bits); refine (rone_q (.agg #[.bool (isN x), .slice p_h0 (digs B6 (numQ x)).length c_h0, .slice q_h0 (digs B6 (den0 x)).length d_h0]) x w' (hK.get m2) ).mono ?_; rintro e w5 ⟨y0, rfl, u0, hb⟩; obtain ⟨rfl, rfl⟩ := hl1.out; obtain ⟨p_u0, c_u0, rfl⟩ := u0.slr; exact ⟨_, rfl, (⟨p_u0, 0, c_u0⟩ : Sl), rfl, hb, .cons (fun w2 h2 => u0.below h2) (Lasts.nil _)⟩
  intro sv4
  simp only [Act.put, pA, pB, pC, pD, pE]
  apply lxE1 (α := Duo Sl Sl) (fun sv => .agg #[.bool (isN (ofS ((!(isN x))) (numQ x) x.den)), .slice sv.a.p (digs B6 (numQ (ofS ((!(isN x))) (numQ x) x.den))).length sv.a.c, .slice sv.b.p (digs B6 (den0 (ofS ((!(isN x))) (numQ x) x.den))).length sv.b.c]) (fun sv => [fun w => RefR w (.agg #[.bool (isN (ofS ((!(isN x))) (numQ x) x.den)), .slice sv.a.p (digs B6 (numQ (ofS ((!(isN x))) (numQ x) x.den))).length sv.a.c, .slice sv.b.p (digs B6 (den0 (ofS ((!(isN x))) (numQ x) x.den))).length sv.b.c]) (ofS ((!(isN x))) (numQ x) x.den), fun w => RefV w (.slice sv.a.p (digs B6 (numQ (ofS ((!(isN x))) (numQ x) x.den))).length sv.a.c) (numQ (ofS ((!(isN x))) (numQ x) x.den)), fun w => RefV w (.slice sv.b.p (digs B6 (den0 (ofS ((!(isN x))) (numQ x) x.den))).length sv.b.c) (den0 (ofS ((!(isN x))) (numQ x) x.den))]) (wants0 rfl)
  · intro f1 l1 hl1 w' h0 hK; go_simp; (try go_bits); refine (rmade_q (.slice p_h0 (digs B6 (numQ x)).length c_h0) (.slice sv4.p (digs B6 x.den).length sv4.c) ((!(isN x))) (numQ x) x.den w' (hK.get m4) (hK.get m0) (by omega) (by omega)).mono ?_; rintro e w5 ⟨y0, rfl, u0, hb⟩; obtain ⟨rfl, rfl⟩ := hl1.out; have u0_0 := u0; obtain ⟨p_u0, c_u0, q_u0, d_u0, rfl, u0_1, u0_2⟩ := u0.slr; exact ⟨_, rfl, (⟨⟨p_u0, 0, c_u0⟩, ⟨q_u0, 0, d_u0⟩⟩ : Duo Sl Sl), rfl, hb, .cons (fun w2 h2 => u0_0.below h2) (.cons (fun w2 h2 => u0_1.below h2) (.cons (fun w2 h2 => u0_2.below h2) (Lasts.nil _)))⟩
  intro sv5
  simp only [Act.put, pA, pB, pC, pD, pE]
  apply lxU1 4 (Has w.heap.size R2 (.cells #[.bool (isN (ofS ((!(isN x))) (numQ x) x.den)), .slice sv5.a.p (digs B6 (numQ (ofS ((!(isN x))) (numQ x) x.den))).length sv5.a.c, .slice sv5.b.p (digs B6 (den0 (ofS ((!(isN x))) (numQ x) x.den))).length sv5.b.c] 36)) (wants0 rfl)
  · intro g0 l1 hl1 w' h0 hK; have k_R2 := (hK.get m4); have ⟨c_R2_0, c_R2_1, c_R2_2⟩ := k_R2.c3; have f_R2 := k_R2.fz; have ni := noInt_of k_R2 nofun; go_simp; obtain ⟨rfl, rfl⟩ := hl1.out; exact ⟨rfl, ks_put (R := R2) h0 k_R2.1 0 [.bool (isN (ofS ((!(isN x))) (numQ x) x.den)), .slice sv5.a.p (digs B6 (numQ (ofS ((!(isN x))) (numQ x) x.den))).length sv5.a.c, .slice sv5.b.p (digs B6 (den0 (ofS ((!(isN x))) (numQ x) x.den))).length sv5.b.c] (al1 (spL o_R1_R2 (h0.get m0)) (al1 (spS ni (h0.get m1)) (al1 (spR ni (h0.get m2)) (al1 (spR ni (h0.get m3)) aN)))), ks_put (R := R2) hK k_R2.1 0 [.bool (isN (ofS ((!(isN x))) (numQ x) x.den)), .slice sv5.a.p (digs B6 (numQ (ofS ((!(isN x))) (numQ x) x.den))).length sv5.a.c, .slice sv5.b.p (digs B6 (den0 (ofS ((!(isN x))) (numQ x) x.den))).length sv5.b.c] (al1 (spS ni (hK.get m0)) (al1 (spR ni (hK.get m1)) (al1 (spR ni (hK.get m2)) (al1 (spR ni (hK.get m3)) (al1 (fun _ => has_put k_R2 _ _) (al1 (spL o_R1_R2 (hK.get m5)) (al1 (spS ni (hK.get m6)) (al1 (spR ni (hK.get m7)) (al1 (spR ni (hK.get m8)) aN)))))))))⟩
  simp only [Act.put, pB, pC]
  refine lxEnd (fun W6 hK => ?_)
  have k_R2 := (hK.get m4); have ⟨c_R2_0, c_R2_1, c_R2_2⟩ := k_R2.c3
  go_wp2
  exact bodyPost_ret (v := .agg #[.bool (isN (ofS ((!(isN x))) (numQ x) x.den)), .slice sv5.a.p (digs B6 (numQ (ofS ((!(isN x))) (numQ x) x.den))).length sv5.a.c, .slice sv5.b.p (digs B6 (den0 (ofS ((!(isN x))) (numQ x) x.den))).length sv5.b.c]) (by simp [results, Tryz.results36, go_sem, c_R2_0, c_R2_1, c_R2_2]) rfl ((by obtain rfl := hQ0.out; exact ⟨_, rfl, (Eq.mp (congrArg (RefR _ _) (show ofS ((!(isN x))) (numQ x) x.den = -x from (by rw [← ofS_neg]; exact congrArg _ (ofS_self x)))) (hK.get m0)), hK.old⟩))
theorem radd_t {x y : Rat} (h : (isN x == isN y) = true) : ofS (isN x) (x.num.natAbs * y.den + y.num.natAbs * x.den) (x.den * y.den) = x + y := add_of (by
  have e : isN x = isN y := by simpa using h
  rw [← e]
  exact (sgn_add _ _ _).symm)
theorem cmpN_ge {n m : Nat} {z : Int} (hz : cmpN n m = z) (h : decide (0 ≤ z) = true) : m ≤ n := by
  have : 0 ≤ z := by simpa using h
  rw [← hz] at this
  unfold cmpN at this
  split at this <;> omega
theorem cmpN_lt' {n m : Nat} {z : Int} (hz : cmpN n m = z) (h : decide (0 ≤ z) = false) : n < m := by
  have : ¬ 0 ≤ z := by simpa using h
  rw [← hz] at this
  unfold cmpN at this
  split at this
  · assumption
  · split at this <;> omega
theorem not_of_beq {a b : Bool} (h : (a == b) = false) : b = !a := by revert h; cases a <;> cases b <;> decide
theorem radd_ft {x y : Rat} {z : Int} (h : (isN x == isN y) = false) (hz : cmpN (x.num.natAbs * y.den) (y.num.natAbs * x.den) = z) (h2 : decide (0 ≤ z) = true) : ofS (isN x) (x.num.natAbs * y.den - y.num.natAbs * x.den) (x.den * y.den) = x + y := add_of (by
  rw [not_of_beq h]
  exact (sgn_sub _ (cmpN_ge hz h2)).symm)
theorem radd_ff {x y : Rat} {z : Int} (h : (isN x == isN y) = false) (hz : cmpN (x.num.natAbs * y.den) (y.num.natAbs * x.den) = z) (h2 : decide (0 ≤ z) = false) : ofS (isN y) (y.num.natAbs * x.den - x.num.natAbs * y.den) (x.den * y.den) = x + y := add_of (by
  have e : isN x = !isN y := by rw [not_of_beq h]; simp
  rw [e, Int.add_comm]
  exact (sgn_sub _ (Nat.le_of_lt (cmpN_lt' hz h2))).symm)
theorem rdiv_a (x y : Rat) : ofS (isN x != isN y) (x.num.natAbs * y.den) (x.den * y.num.natAbs) = x / y := by
  by_cases h : y = 0
  · rw [h, div_zero', show (0 : Rat).num.natAbs = 0 from rfl, Nat.mul_zero, ofS_d0]
  · rw [Nat.mul_comm x.den]; exact div_of x h
theorem rdiv_e {x y : Rat} {z : Int} (h : (if x.den * y.num.natAbs = 0 then 10 else 0) = z) : z = if y = 0 then 10 else 0 := by
  rw [← h]
  by_cases hy : y = 0
  · rw [if_pos hy, if_pos (by rw [(natAbs_zero y).2 hy, Nat.mul_zero])]
  · rw [if_neg hy, if_neg (Nat.mul_ne_zero x.den_nz fun e => hy ((natAbs_zero y).1 e))]
theorem sgQ_n0 {x : Rat} (h : x.num.natAbs = 0) : sgQ x = 0 := by unfold sgQ; rw [if_pos h]
theorem sgQ_n1 {x : Rat} {b : Bool} (h : x.num.natAbs ≠ 0) (hb : isN x = b) : sgQ x = if b then -1 else 1 := by unfold sgQ; rw [if_neg h, hb]
theorem rem_zero {x : Rat} (h : rem0 x.num.natAbs x.den = 0) : x.den = 1 := by
  unfold rem0 at h
  rw [if_neg x.den_nz] at h
  have h2 := x.reduced
  have h3 : x.den ∣ x.num.natAbs := Nat.dvd_of_mod_eq_zero h
  have h4 := Nat.gcd_eq_right h3
  unfold Nat.Coprime at h2
  omega
theorem rem_one {x : Rat} (h : x.den = 1) : rem0 x.num.natAbs x.den = 0 := by unfold rem0; rw [h]; simp [Nat.mod_one]
theorem rfl_f {x : Rat} (h : isN x = false) : ofS false (x.num.natAbs / x.den) 1 = floorQ x := by
  by_cases hd : x.den = 1
  · rw [floorQ_int hd, hd, Nat.div_one]
    have := ofS_self x
    rwa [h, hd] at this
  · have := floorQ_frac hd
    rwa [h] at this
theorem rfl_tf {x : Rat} (h : isN x = true) (hr : rem0 x.num.natAbs x.den = 0) : ofS true (x.num.natAbs / x.den) 1 = floorQ x := by
  have hd := rem_zero hr
  rw [floorQ_int hd, hd, Nat.div_one]
  have := ofS_self x
  rwa [h, hd] at this
theorem rfl_tt {x : Rat} (h : isN x = true) (hr : rem0 x.num.natAbs x.den ≠ 0) : ofS true (x.num.natAbs / x.den + 1) 1 = floorQ x := by
  have hd : x.den ≠ 1 := fun e => hr (rem_one e)
  have := floorQ_frac hd
  rwa [h] at this
theorem len6_lt {n : Nat} {b : Bool} (h : decide (0 < ((digs B6 n).length : Int)) = b) : (n = 0 ↔ b = false) := by
  rw [← h]
  constructor
  · intro e; rw [e, digs_zero]; rfl
  · intro e
    have : ¬ 0 < ((digs B6 n).length : Int) := by simpa using e
    exact (digs_eq_nil b6_2).1 (List.eq_nil_of_length_eq_zero (by omega))
set_option maxRecDepth 100000 in
theorem radd_q (v0 : Value) (v1 : Value) (x : Rat) (y : Rat) (w : World) (h0 : RefR w v0 x) (h1 : RefR w v1 y) {k : Nat} (hx : LmQ k x) (hy : LmQ k y) (hk : k ≤ 10000) :
    Calls Tryz.prog 32 #[v0, v1] w fun e w' => ∃ y0, e = .returned y0 ∧ RefR w' y0 (x + y) ∧ Below w.heap.size w w' := by
  have h0_0 := h0; obtain ⟨p_h0, c_h0, q_h0, d_h0, rfl, h0_1, h0_2⟩ := h0.slr
  have h1_0 := h1; obtain ⟨p_h1, c_h1, q_h1, d_h1, rfl, h1_1, h1_2⟩ := h1.slr
  have hK : KS w [fun w => RefR w (.agg #[.bool (isN y), .slice p_h1 (digs B6 (numQ y)).length c_h1, .slice q_h1 (digs B6 (den0 y)).length d_h1]) y, fun w => RefV w (.slice p_h1 (digs B6 (numQ y)).length c_h1) (numQ y), fun w => RefV w (.slice q_h1 (digs B6 (den0 y)).length d_h1) (den0 y), fun w => RefR w (.agg #[.bool (isN x), .slice p_h0 (digs B6 (numQ x)).length c_h0, .slice q_h0 (digs B6 (den0 x)).length d_h0]) x, fun w => RefV w (.slice p_h0 (digs B6 (numQ x)).length c_h0) (numQ x), fun w => RefV w (.slice q_h0 (digs B6 (den0 x)).length d_h0) (den0 x)] w := (KS.add (KS.add (KS.add (KS.add (KS.add (KS.add (KS.start w) (fun w' hb => h0_2.below hb)) (fun w' hb => h0_1.below hb)) (fun w' hb => h0_0.below hb)) (fun w' hb => h1_2.below hb)) (fun w' hb => h1_1.below hb)) (fun w' hb => h1_0.below hb))
  have e1 : (digs B6 (numQ x)).length ≤ 50000 := d6_of hx.n (by omega)
  have e2 := d6_of hx.d (by omega)
  have e3 : (digs B6 (numQ y)).length ≤ 50000 := d6_of hy.n (by omega)
  have e4 := d6_of hy.d (by omega)
  have e5 : (digs B6 (numQ x * y.den)).length ≤ 50000 := d6_of (hx.n.mul hy.d) (by omega)
  have e6 : (digs B6 (numQ y * x.den)).length ≤ 50000 := d6_of (hy.n.mul hx.d) (by omega)
  have e7 := d6_of (hx.d.mul hy.d) (by omega)
  have e8 : (digs B6 (numQ x * y.den + numQ y * x.den)).length ≤ 50000 := d6_of ((hx.n.mul hy.d).add (hy.n.mul hx.d)) (by omega)
  have e9 : (digs B6 (numQ x * y.den - numQ y * x.den)).length ≤ 50000 := d6_of (hx.n.mul hy.d).sub (by omega)
  have e10 : (digs B6 (numQ y * x.den - numQ x * y.den)).length ≤ 50000 := d6_of (hy.n.mul hx.d).sub (by omega)
  have e11 : (digs B6 (numQ x * numQ y)).length ≤ 50000 := d6_of (hx.n.mul hy.n) (by omega)
  have e12 : (digs B6 (x.den * numQ y)).length ≤ 50000 := d6_of (hx.d.mul hy.n) (by omega)
  refine Calls.hide (fun Q0 hQ0 => ?_)
  go_enter Tryz.func32, Tryz.ntmps32
  go_upto_region 0 with (fail)
  refine wp_region_tx w hK ?_
  clear hK
  apply txA (.cells #[.bool (isN x), .slice p_h0 (digs B6 (numQ x)).length c_h0, .slice q_h0 (digs B6 (den0 x)).length d_h0] 36) (wants0 rfl)
  · intro w' hK; go_simp; rfl
  intro R1 q_R1
  clear q_R1
  simp only [mkOf, Act.put, pA, pB, pC]
  apply txA (.cells #[.bool (isN y), .slice p_h1 (digs B6 (numQ y)).length c_h1, .slice q_h1 (digs B6 (den0 y)).length d_h1] 36) (wants0 rfl)
  · intro w' hK; go_simp; rfl
  intro R2 q_R2
  have o_R1_R2 : R1 < R2 := q_R2 _ _ _ m0
  clear q_R2
  simp only [mkOf, Act.put, pA, pB, pC]
  apply txA (.cells #[.bool false, .slice none 0 0, .slice none 0 0] 36) (wants0 rfl)
  · intro w' hK; go_simp; rfl
  intro R3 q_R3
  have o_R1_R3 : R1 < R3 := q_R3 _ _ _ m1
  have o_R2_R3 : R2 < R3 := q_R3 _ _ _ m0
  clear q_R3
  simp only [mkOf, Act.put, pA, pB, pC]
  refine txEnd (fun W4 hK => ?_)
  go_upto_region 1 with (fail)
  have hK0 := hK
  refine wp_region_float0 (w) _ _ [0, 0, 0, 2, 2, 0, 0, 0, 2, 2, 0, 0] (by kernel_rfl) (by kernel_rfl) (by kernel_rfl) (by kernel_rfl) (KS.drew hK0) (KS.drew hK) ?_
  clear hK hK0
  apply lxF0 (wants0 rfl); (· intro w' h0; go_simp; (try go_bits); exact ⟨rfl, rfl⟩); simp only [Act.put, pA, pB, pC]
  apply lxF0 (wants0 rfl); (· intro w' h0; have k_R1 := (h0.get m2); have c_R1_1 := k_R1.at 1 rfl; go_simp; (try go_bits); exact ⟨rfl, rfl⟩); simp only [Act.put, pA, pB, pC]
  apply lxF0 (wants0 rfl); (· intro w' h0; have k_R2 := (h0.get m1); have ⟨c_R2_0, c_R2_1, c_R2_2⟩ := k_R2.c3; go_simp; (try go_bits); exact ⟨rfl, rfl⟩); simp only [Act.put, pA, pB, pC]
  apply lxE1 (α := Sl) (fun sv => .slice sv.p (digs B6 y.den).length sv.c) (fun sv => [fun w => RefV w (.slice sv.p (digs B6 y.den).length sv.c) y.den]) (wants0 rfl)
  · intro f1 l1 hl1 w' h0 hK; go_simp; (try go_bits); refine (rone_q (.agg #[.bool (isN y), .slice p_h1 (digs B6 (numQ y)).length c_h1, .slice q_h1 (digs B6 (den0 y)).length d_h1]) y w' (hK.get m3) ).mono ?_; rintro e w5 ⟨y0, rfl, u0, hb⟩; obtain ⟨rfl, rfl⟩ := hl1.out; obtain ⟨p_u0, c_u0, rfl⟩ := u0.slr; exact ⟨_, rfl, (⟨p_u0, 0, c_u0⟩ : Sl), rfl, hb, .cons (fun w2 h2 => u0.below h2) (Lasts.nil _)⟩
  intro sv5
  simp only [Act.put, pA, pB, pC, pD, pE]
  apply lxE1 (α := Sl) (fun sv => .slice sv.p (digs B6 ((numQ x) * y.den)).length sv.c) (fun sv => [fun w => RefV w (.slice sv.p (digs B6 ((numQ x) * y.den)).length sv.c) ((numQ x) * y.den)]) (wants0 rfl)
  · intro f1 l1 hl1 w' h0 hK; go_simp; (try go_bits); refine (rmul_any (.slice p_h0 (digs B6 (numQ x)).length c_h0) (.slice sv5.p (digs B6 y.den).length sv5.c) (numQ x) y.den w' (hK.get m8) (hK.get m0) (by omega) (by omega)).mono ?_; rintro e w5 ⟨y0, rfl, u0, hb⟩; obtain ⟨rfl, rfl⟩ := hl1.out; obtain ⟨p_u0, c_u0, rfl⟩ := u0.slr; exact ⟨_, rfl, (⟨p_u0, 0, c_u0⟩ : Sl), rfl, hb, .cons (fun w2 h2 => u0.below h2) (Lasts.nil _)⟩
  intro sv6
  simp only [Act.put, pA, pB, pC, pD, pE]
  apply lxF0 (wants0 rfl); (· intro w' h0; go_simp; (try go_bits); exact ⟨rfl, rfl⟩); simp only [Act.put, pA, pB, pC]
  apply lxF0 (wants0 rfl); (· intro w' h0; have k_R2 := (h0.get m1); have c_R2_1 := k_R2.at 1 rfl; go_simp; (try go_bits); exact ⟨rfl, rfl⟩); simp only [Act.put, pA, pB, pC]
  apply lxF0 (wants0 rfl); (· intro w' h0; have k_R1 := (h0.get m2); have ⟨c_R1_0, c_R1_1, c_R1_2⟩ := k_R1.c3; go_simp; (try go_bits); exact ⟨rfl, rfl⟩); simp only [Act.put, pA, pB, pC]
  apply lxE1 (α := Sl) (fun sv => .slice sv.p (digs B6 x.den).length sv.c) (fun sv => [fun w => RefV w (.slice sv.p (digs B6 x.den).length sv.c) x.den]) (wants0 rfl)
  · intro f1 l1 hl1 w' h0 hK; go_simp; (try go_bits); refine (rone_q (.agg #[.bool (isN x), .slice p_h0 (digs B6 (numQ x)).length c_h0, .slice q_h0 (digs B6 (den0 x)).length d_h0]) x w' (hK.get m8) ).mono ?_; rintro e w5 ⟨y0, rfl, u0, hb⟩; obtain ⟨rfl, rfl⟩ := hl1.out; obtain ⟨p_u0, c_u0, rfl⟩ := u0.slr; exact ⟨_, rfl, (⟨p_u0, 0, c_u0⟩ : Sl), rfl, hb, .cons (fun w2 h2 => u0.below h2) (Lasts.nil _)⟩
  intro sv7
  simp only [Act.put, pA, pB, pC, pD, pE]
  apply lxE1 (α := Sl) (fun sv => .slice sv.p (digs B6 ((numQ y) * x.den)).length sv.c) (fun sv => [fun w => RefV w (.slice sv.p (digs B6 ((numQ y) * x.den)).length sv.c) ((numQ y) * x.den)]) (wants0 rfl)
  · intro f1 l1 hl1 w' h0 hK; go_simp; (try go_bits); refine (rmul_any (.slice p_h1 (digs B6 (numQ y)).length c_h1) (.slice sv7.p (digs B6 x.den).length sv7.c) (numQ y) x.den w' (hK.get m7) (hK.get m0) (by omega) (by omega)).mono ?_; rintro e w5 ⟨y0, rfl, u0, hb⟩; obtain ⟨rfl, rfl⟩ := hl1.out; obtain ⟨p_u0, c_u0, rfl⟩ := u0.slr; exact ⟨_, rfl, (⟨p_u0, 0, c_u0⟩ : Sl), rfl, hb, .cons (fun w2 h2 => u0.below h2) (Lasts.nil _)⟩
  intro sv8
  simp only [Act.put, pA, pB, pC, pD, pE]
  iterate 2 (apply lxF0 (wants0 rfl); (· intro w' h0; go_simp; (try go_bits); exact ⟨rfl, rfl⟩); simp only [Act.put, pA, pB, pC])
  refine lxEnd (fun W9 hK => ?_)
  go_upto_region 2 with (fail)
  have hK0 := hK
  refine wp_region_float0 (w) _ _ [0, 2, 0, 2, 2, 0] (by kernel_rfl) (by kernel_rfl) (by kernel_rfl) (by kernel_rfl) (KS.drew hK0) (KS.drew hK) ?_
  clear hK hK0
  apply lxF0 (wants0 rfl); (· intro w' h0; have k_R1 := (h0.get m6); have ⟨c_R1_0, c_R1_1, c_R1_2⟩ := k_R1.c3; go_simp; (try go_bits); exact ⟨rfl, rfl⟩); simp only [Act.put, pA, pB, pC]
  apply lxE1 (α := Sl) (fun sv => .slice sv.p (digs B6 x.den).length sv.c) (fun sv => [fun w => RefV w (.slice sv.p (digs B6 x.den).length sv.c) x.den]) (wants0 rfl)
  · intro f1 l1 hl1 w' h0 hK; go_simp; (try go_bits); refine (rone_q (.agg #[.bool (isN x), .slice p_h0 (digs B6 (numQ x)).length c_h0, .slice q_h0 (digs B6 (den0 x)).length d_h0]) x w' (hK.get m10) ).mono ?_; rintro e w5 ⟨y0, rfl, u0, hb⟩; obtain ⟨rfl, rfl⟩ := hl1.out; obtain ⟨p_u0, c_u0, rfl⟩ := u0.slr; exact ⟨_, rfl, (⟨p_u0, 0, c_u0⟩ : Sl), rfl, hb, .cons (fun w2 h2 => u0.below h2) (Lasts.nil _)⟩
  intro sv10
  simp only [Act.put, pA, pB, pC, pD, pE]
  apply lxF0 (wants0 rfl); (· intro w' h0; have k_R2 := (h0.get m5); have ⟨c_R2_0, c_R2_1, c_R2_2⟩ := k_R2.c3; go_simp; (try go_bits); exact ⟨rfl, rfl⟩); simp only [Act.put, pA, pB, pC]
  apply lxE1 (α := Sl) (fun sv => .slice sv.p (digs B6 y.den).length sv.c) (fun sv => [fun w => RefV w (.slice sv.p (digs B6 y.den).length sv.c) y.den]) (wants0 rfl)
  · intro f1 l1 hl1 w' h0 hK; go_simp; (try go_bits); refine (rone_q (.agg #[.bool (isN y), .slice p_h1 (digs B6 (numQ y)).length c_h1, .slice q_h1 (digs B6 (den0 y)).length d_h1]) y w' (hK.get m8) ).mono ?_; rintro e w5 ⟨y0, rfl, u0, hb⟩; obtain ⟨rfl, rfl⟩ := hl1.out; obtain ⟨p_u0, c_u0, rfl⟩ := u0.slr; exact ⟨_, rfl, (⟨p_u0, 0, c_u0⟩ : Sl), rfl, hb, .cons (fun w2 h2 => u0.below h2) (Lasts.nil _)⟩
  intro sv11
  simp only [Act.put, pA, pB, pC, pD, pE]
  apply lxE1 (α := Sl) (fun sv => .slice sv.p (digs B6 (x.den * y.den)).length sv.c) (fun sv => [fun w => RefV w (.slice sv.p (digs B6 (x.den * y.den)).length sv.c) (x.den * y.den)]) (wants0 rfl)
  · intro f1 l1 hl1 w' h0 hK; go_simp; (try go_bits); refine (rmul_any (.slice sv10.p (digs B6 x.den).length sv10.c) (.slice sv11.p (digs B6 y.den).length sv11.c) x.den y.den w' (hK.get m1) (hK.get m0) (by omega) (by omega)).mono ?_; rintro e w5 ⟨y0, rfl, u0, hb⟩; obtain ⟨rfl, rfl⟩ := hl1.out; obtain ⟨p_u0, c_u0, rfl⟩ := u0.slr; exact ⟨_, rfl, (⟨p_u0, 0, c_u0⟩ : Sl), rfl, hb, .cons (fun w2 h2 => u0.below h2) (Lasts.nil _)⟩
  intro sv12
  simp only [Act.put, pA, pB, pC, pD, pE]
  apply lxF0 (wants0 rfl); (· intro w' h0; go_simp; (try go_bits); exact ⟨rfl, rfl⟩); simp only [Act.put, pA, pB, pC]
  refine lxEnd (fun W13 hK => ?_)
  go_upto_region 3 with (fail)
  refine wp_region_tx w hK ?_
  clear hK
  apply txF (wants0 rfl); (· intro w' hK; go_simp; (try go_bits); exact ⟨rfl, rfl⟩); simp only [Act.put, pA, pB, pC]
  apply txF (wants0 rfl); (· intro w' hK; have k_R1 := (hK.get m9); have c_R1_0 := k_R1.at 0 rfl; go_simp; (try go_bits); exact ⟨rfl, rfl⟩); simp only [Act.put, pA, pB, pC]
  apply txF (wants0 rfl); (· intro w' hK; go_simp; (try go_bits); exact ⟨rfl, rfl⟩); simp only [Act.put, pA, pB, pC]
  apply txF (wants0 rfl); (· intro w' hK; have k_R2 := (hK.get m8); have c_R2_0 := k_R2.at 0 rfl; go_simp; (try go_bits); exact ⟨rfl, rfl⟩); simp only [Act.put, pA, pB, pC]
  obtain ⟨b1, hb1⟩ : ∃ b : Bool, RowKit.Hid ((((isN x)) == ((isN y))) = b) := ⟨_, hid rfl⟩
  apply txB b1 (wants0 rfl); (· intro w' hK; go_simp; (try go_bits); exact ⟨by have q := hb1.out; subst q; first | rfl | simp, rfl⟩); simp only [Act.put, pA, pB, pC]
  apply txF (wants0 rfl); (· intro w' hK; go_simp; (try go_bits); exact ⟨rfl, rfl⟩); simp only [Act.put, pA, pB, pC]
  refine txEnd (fun W14 hK => ?_)
  cases b1
  · --
   go_upto_region 5 with (fail)
   refine wp_region_tx w hK ?_
   clear hK
   iterate 2 (apply txF (wants0 rfl); (· intro w' hK; go_simp; (try go_bits); exact ⟨rfl, rfl⟩); simp only [Act.put, pA, pB, pC])
   obtain ⟨z1, hz1⟩ : ∃ b : Int, RowKit.Hid ((cmpN ((numQ x) * y.den) ((numQ y) * x.den)) = b) := ⟨_, hid rfl⟩
   apply txH (v := .int .i64 z1) (wants0 rfl)
   · intro v1 hv1 w' hK; go_simp; (try go_bits); refine (rcmp_any (.slice sv6.p (digs B6 ((numQ x) * y.den)).length sv6.c) (.slice sv8.p (digs B6 ((numQ y) * x.den)).length sv8.c) ((numQ x) * y.den) ((numQ y) * x.den) w' (hK.get m5) (hK.get m3) (by omega) (by omega)).mono ?_; rintro e w5 ⟨rfl, hb⟩; obtain rfl := hv1.out; exact ⟨_, rfl, (by rw [hz1.out]), hb⟩
   simp only [Act.put, pA, pB, pC]
   obtain ⟨b2, hb2⟩ : ∃ b : Bool, RowKit.Hid (decide (0 ≤ z1) = b) := ⟨_, hid rfl⟩
   apply txB b2 (wants0 rfl); (· intro w' hK; go_simp; (try go_bits); exact ⟨by have q := hb2.out; subst q; first | rfl | simp, rfl⟩); simp only [Act.put, pA, pB, pC]
   apply txF (wants0 rfl); (· intro w' hK; go_simp; (try go_bits); exact ⟨rfl, rfl⟩); simp only [Act.put, pA, pB, pC]
   refine txEnd (fun W15 hK => ?_)
   cases b2
   · --
    go_upto_region 8 with (fail)
    refine wp_region_tx w hK ?_
    clear hK
    iterate 2 (apply txF (wants0 rfl); (· intro w' hK; go_simp; (try go_bits); exact ⟨rfl, rfl⟩); simp only [Act.put, pA, pB, pC])
    obtain ⟨z2, hz2⟩ : ∃ b : Int, RowKit.Hid ((if ((numQ y) * x.den) < ((numQ x) * y.den) then 2 else 0) = b) := ⟨_, hid rfl⟩
    apply txE (α := Sl) (fun sv => .tuple #[.slice sv.p (digs B6 (((numQ y) * x.den) - ((numQ x) * y.den))).length sv.c, .int .i64 z2]) (fun sv => [fun w => RefV w (.slice sv.p (digs B6 (((numQ y) * x.den) - ((numQ x) * y.den))).length sv.c) (((numQ y) * x.den) - ((numQ x) * y.den))]) (wants0 rfl)
    · intro f1 l1 hl1 w' hK; go_simp; (try go_bits); refine (rsub_any (.slice sv8.p (digs B6 ((numQ y) * x.den)).length sv8.c) (.slice sv6.p (digs B6 ((numQ x) * y.den)).length sv6.c) ((numQ y) * x.den) ((numQ x) * y.den) w' (hK.get m3) (hK.get m5) (by omega) (by omega)).mono ?_; rintro e w5 ⟨y0, rfl, u0, hb⟩; obtain ⟨rfl, rfl⟩ := hl1.out; obtain ⟨p_u0, c_u0, rfl⟩ := u0.slr; exact ⟨_, rfl, (⟨p_u0, 0, c_u0⟩ : Sl), (by rw [hz2.out]), hb, .cons (fun w2 h2 => u0.below h2) (Lasts.nil _)⟩
    intro sv16
    simp only [Act.put, pA, pB, pC, pD, pE]
    iterate 5 (apply txF (wants0 rfl); (· intro w' hK; go_simp; (try go_bits); exact ⟨rfl, rfl⟩); simp only [Act.put, pA, pB, pC])
    refine txEnd (fun W17 hK => ?_)
    go_upto_region 9 with (fail)
    refine wp_region_tx w hK ?_
    clear hK
    apply txF (wants0 rfl); (· intro w' hK; go_simp; (try go_bits); exact ⟨rfl, rfl⟩); simp only [Act.put, pA, pB, pC]
    apply txF (wants0 rfl); (· intro w' hK; have k_R2 := (hK.get m9); have c_R2_0 := k_R2.at 0 rfl; go_simp; (try go_bits); exact ⟨rfl, rfl⟩); simp only [Act.put, pA, pB, pC]
    iterate 2 (apply txF (wants0 rfl); (· intro w' hK; go_simp; (try go_bits); exact ⟨rfl, rfl⟩); simp only [Act.put, pA, pB, pC])
    apply txE (α := Duo Sl Sl) (fun sv => .agg #[.bool (isN (ofS ((isN y)) (((numQ y) * x.den) - ((numQ x) * y.den)) (x.den * y.den))), .slice sv.a.p (digs B6 (numQ (ofS ((isN y)) (((numQ y) * x.den) - ((numQ x) * y.den)) (x.den * y.den)))).length sv.a.c, .slice sv.b.p (digs B6 (den0 (ofS ((isN y)) (((numQ y) * x.den) - ((numQ x) * y.den)) (x.den * y.den)))).length sv.b.c]) (fun sv => [fun w => RefR w (.agg #[.bool (isN (ofS ((isN y)) (((numQ y) * x.den) - ((numQ x) * y.den)) (x.den * y.den))), .slice sv.a.p (digs B6 (numQ (ofS ((isN y)) (((numQ y) * x.den) - ((numQ x) * y.den)) (x.den * y.den)))).length sv.a.c, .slice sv.b.p (digs B6 (den0 (ofS ((isN y)) (((numQ y) * x.den) - ((numQ x) * y.den)) (x.den * y.den)))).length sv.b.c]) (ofS ((isN y)) (((numQ y) * x.den) - ((numQ x) * y.den)) (x.den * y.den)), fun w => RefV w (.slice sv.a.p (digs B6 (numQ (ofS ((isN y)) (((numQ y) * x.den) - ((numQ x) * y.den)) (x.den * y.den)))).length sv.a.c) (numQ (ofS ((isN y)) (((numQ y) * x.den) - ((numQ x) * y.den)) (x.den * y.den))), fun w => RefV w (.slice sv.b.p (digs B6 (den0 (ofS ((isN y)) (((numQ y) * x.den) - ((numQ x) * y.den)) (x.den * y.den)))).length sv.b.c) (den0 (ofS ((isN y)) (((numQ y) * x.den) - ((numQ x) * y.den)) (x.den * y.den)))]) (wants0 rfl)
    · intro f1 l1 hl1 w' hK; go_simp; (try go_bits); refine (rmade_q (.slice sv16.p (digs B6 (((numQ y) * x.den) - ((numQ x) * y.den))).length sv16.c) (.slice sv12.p (digs B6 (x.den * y.den)).length sv12.c) ((isN y)) (((numQ y) * x.den) - ((numQ x) * y.den)) (x.den * y.den) w' (hK.get m0) (hK.get m1) (by omega) (by omega)).mono ?_; rintro e w5 ⟨y0, rfl, u0, hb⟩; obtain ⟨rfl, rfl⟩ := hl1.out; have u0_0 := u0; obtain ⟨p_u0, c_u0, q_u0, d_u0, rfl, u0_1, u0_2⟩ := u0.slr; exact ⟨_, rfl, (⟨⟨p_u0, 0, c_u0⟩, ⟨q_u0, 0, d_u0⟩⟩ : Duo Sl Sl), rfl, hb, .cons (fun w2 h2 => u0_0.below h2) (.cons (fun w2 h2 => u0_1.below h2) (.cons (fun w2 h2 => u0_2.below h2) (Lasts.nil _)))⟩
    intro sv18
    simp only [Act.put, pA, pB, pC, pD, pE]
    apply txU 11 (Has w.heap.size R3 (.cells #[.bool (isN (ofS ((isN y)) (((numQ y) * x.den) - ((numQ x) * y.den)) (x.den * y.den))), .slice sv18.a.p (digs B6 (numQ (ofS ((isN y)) (((numQ y) * x.den) - ((numQ x) * y.den)) (x.den * y.den)))).length sv18.a.c, .slice sv18.b.p (digs B6 (den0 (ofS ((isN y)) (((numQ y) * x.den) - ((numQ x) * y.den)) (x.den * y.den)))).length sv18.b.c] 36)) (wants0 rfl)
    · intro l1 hl1 w' hK; have k_R3 := (hK.get m11); have ⟨c_R3_0, c_R3_1, c_R3_2⟩ := k_R3.c3; have f_R3 := k_R3.fz; have ni := noInt_of k_R3 nofun; go_simp; obtain rfl := hl1.out; exact ⟨rfl, ks_put (R := R3) hK k_R3.1 0 [.bool (isN (ofS ((isN y)) (((numQ y) * x.den) - ((numQ x) * y.den)) (x.den * y.den))), .slice sv18.a.p (digs B6 (numQ (ofS ((isN y)) (((numQ y) * x.den) - ((numQ x) * y.den)) (x.den * y.den)))).length sv18.a.c, .slice sv18.b.p (digs B6 (den0 (ofS ((isN y)) (((numQ y) * x.den) - ((numQ x) * y.den)) (x.den * y.den)))).length sv18.b.c] (al1 (spS ni (hK.get m0)) (al1 (spR ni (hK.get m1)) (al1 (spR ni (hK.get m2)) (al1 (spR ni (hK.get m3)) (al1 (spR ni (hK.get m4)) (al1 (spR ni (hK.get m5)) (al1 (spR ni (hK.get m6)) (al1 (spR ni (hK.get m7)) (al1 (spR ni (hK.get m8)) (al1 (spR ni (hK.get m9)) (al1 (spR ni (hK.get m10)) (al1 (fun _ => has_put k_R3 _ _) (al1 (spL o_R2_R3 (hK.get m12)) (al1 (spL o_R1_R3 (hK.get m13)) (al1 (spS ni (hK.get m14)) (al1 (spR ni (hK.get m15)) (al1 (spR ni (hK.get m16)) (al1 (spS ni (hK.get m17)) (al1 (spR ni (hK.get m18)) (al1 (spR ni (hK.get m19)) aN))))))))))))))))))))⟩
    simp only [Act.put, pB, pC]
    refine txEnd (fun W19 hK => ?_)
    have k_R3 := (hK.get m11); have ⟨c_R3_0, c_R3_1, c_R3_2⟩ := k_R3.c3
    go_wp2
    exact bodyPost_ret (v := .agg #[.bool (isN (ofS ((isN y)) (((numQ y) * x.den) - ((numQ x) * y.den)) (x.den * y.den))), .slice sv18.a.p (digs B6 (numQ (ofS ((isN y)) (((numQ y) * x.den) - ((numQ x) * y.den)) (x.den * y.den)))).length sv18.a.c, .slice sv18.b.p (digs B6 (den0 (ofS ((isN y)) (((numQ y) * x.den) - ((numQ x) * y.den)) (x.den * y.den)))).length sv18.b.c]) (by simp [results, Tryz.results32, go_sem, c_R3_0, c_R3_1, c_R3_2]) rfl ((by obtain rfl := hQ0.out; exact ⟨_, rfl, (Eq.mp (congrArg (RefR _ _) (show ofS ((isN y)) (((numQ y) * x.den) - ((numQ x) * y.den)) (x.den * y.den) = x + y from (radd_ff hb1.out hz1.out hb2.out))) (hK.get m0)), hK.old⟩))
   · --
    go_upto_region 6 with (fail)
    refine wp_region_tx w hK ?_
    clear hK
    iterate 2 (apply txF (wants0 rfl); (· intro w' hK; go_simp; (try go_bits); exact ⟨rfl, rfl⟩); simp only [Act.put, pA, pB, pC])
    obtain ⟨z2, hz2⟩ : ∃ b : Int, RowKit.Hid ((if ((numQ x) * y.den) < ((numQ y) * x.den) then 2 else 0) = b) := ⟨_, hid rfl⟩
    apply txE (α := Sl) (fun sv => .tuple #[.slice sv.p (digs B6 (((numQ x) * y.den) - ((numQ y) * x.den))).length sv.c, .int .i64 z2]) (fun sv => [fun w => RefV w (.slice sv.p (digs B6 (((numQ x) * y.den) - ((numQ y) * x.den))).length sv.c) (((numQ x) * y.den) - ((numQ y) * x.den))]) (wants0 rfl)
    · intro f1 l1 hl1 w' hK; go_simp; (try go_bits); refine (rsub_any (.slice sv6.p (digs B6 ((numQ x) * y.den)).length sv6.c) (.slice sv8.p (digs B6 ((numQ y) * x.den)).length sv8.c) ((numQ x) * y.den) ((numQ y) * x.den) w' (hK.get m5) (hK.get m3) (by omega) (by omega)).mono ?_; rintro e w5 ⟨y0, rfl, u0, hb⟩; obtain ⟨rfl, rfl⟩ := hl1.out; obtain ⟨p_u0, c_u0, rfl⟩ := u0.slr; exact ⟨_, rfl, (⟨p_u0, 0, c_u0⟩ : Sl), (by rw [hz2.out]), hb, .cons (fun w2 h2 => u0.below h2) (Lasts.nil _)⟩
    intro sv20
    simp only [Act.put, pA, pB, pC, pD, pE]
    iterate 5 (apply txF (wants0 rfl); (· intro w' hK; go_simp; (try go_bits); exact ⟨rfl, rfl⟩); simp only [Act.put, pA, pB, pC])
    refine txEnd (fun W21 hK => ?_)
    go_upto_region 7 with (fail)
    refine wp_region_tx w hK ?_
    clear hK
    apply txF (wants0 rfl); (· intro w' hK; go_simp; (try go_bits); exact ⟨rfl, rfl⟩); simp only [Act.put, pA, pB, pC]
    apply txF (wants0 rfl); (· intro w' hK; have k_R1 := (hK.get m10); have c_R1_0 := k_R1.at 0 rfl; go_simp; (try go_bits); exact ⟨rfl, rfl⟩); simp only [Act.put, pA, pB, pC]
    iterate 2 (apply txF (wants0 rfl); (· intro w' hK; go_simp; (try go_bits); exact ⟨rfl, rfl⟩); simp only [Act.put, pA, pB, pC])
    apply txE (α := Duo Sl Sl) (fun sv => .agg #[.bool (isN (ofS ((isN x)) (((numQ x) * y.den) - ((numQ y) * x.den)) (x.den * y.den))), .slice sv.a.p (digs B6 (numQ (ofS ((isN x)) (((numQ x) * y.den) - ((numQ y) * x.den)) (x.den * y.den)))).length sv.a.c, .slice sv.b.p (digs B6 (den0 (ofS ((isN x)) (((numQ x) * y.den) - ((numQ y) * x.den)) (x.den * y.den)))).length sv.b.c]) (fun sv => [fun w => RefR w (.agg #[.bool (isN (ofS ((isN x)) (((numQ x) * y.den) - ((numQ y) * x.den)) (x.den * y.den))), .slice sv.a.p (digs B6 (numQ (ofS ((isN x)) (((numQ x) * y.den) - ((numQ y) * x.den)) (x.den * y.den)))).length sv.a.c, .slice sv.b.p (digs B6 (den0 (ofS ((isN x)) (((numQ x) * y.den) - ((numQ y) * x.den)) (x.den * y.den)))).length sv.b.c]) (ofS ((isN x)) (((numQ x) * y.den) - ((numQ y) * x.den)) (x.den * y.den)), fun w => RefV w (.slice sv.a.p (digs B6 (numQ (ofS ((isN x)) (((numQ x) * y.den) - ((numQ y) * x.den)) (x.den * y.den)))).length sv.a.c) (numQ (ofS ((isN x)) (((numQ x) * y.den) - ((numQ y) * x.den)) (x.den * y.den))), fun w => RefV w (.slice sv.b.p (digs B6 (den0 (ofS ((isN x)) (((numQ x) * y.den) - ((numQ y) * x.den)) (x.den * y.den)))).length sv.b.c) (den0 (ofS ((isN x)) (((numQ x) * y.den) - ((numQ y) * x.den)) (x.den * y.den)))]) (wants0 rfl)
    · intro f1 l1 hl1 w' hK; go_simp; (try go_bits); refine (rmade_q (.slice sv20.p (digs B6 (((numQ x) * y.den) - ((numQ y) * x.den))).length sv20.c) (.slice sv12.p (digs B6 (x.den * y.den)).length sv12.c) ((isN x)) (((numQ x) * y.den) - ((numQ y) * x.den)) (x.den * y.den) w' (hK.get m0) (hK.get m1) (by omega) (by omega)).mono ?_; rintro e w5 ⟨y0, rfl, u0, hb⟩; obtain ⟨rfl, rfl⟩ := hl1.out; have u0_0 := u0; obtain ⟨p_u0, c_u0, q_u0, d_u0, rfl, u0_1, u0_2⟩ := u0.slr; exact ⟨_, rfl, (⟨⟨p_u0, 0, c_u0⟩, ⟨q_u0, 0, d_u0⟩⟩ : Duo Sl Sl), rfl, hb, .cons (fun w2 h2 => u0_0.below h2) (.cons (fun w2 h2 => u0_1.below h2) (.cons (fun w2 h2 => u0_2.below h2) (Lasts.nil _)))⟩
    intro sv22
    simp only [Act.put, pA, pB, pC, pD, pE]
    apply txU 11 (Has w.heap.size R3 (.cells #[.bool (isN (ofS ((isN x)) (((numQ x) * y.den) - ((numQ y) * x.den)) (x.den * y.den))), .slice sv22.a.p (digs B6 (numQ (ofS ((isN x)) (((numQ x) * y.den) - ((numQ y) * x.den)) (x.den * y.den)))).length sv22.a.c, .slice sv22.b.p (digs B6 (den0 (ofS ((isN x)) (((numQ x) * y.den) - ((numQ y) * x.den)) (x.den * y.den)))).length sv22.b.c] 36)) (wants0 rfl)
    · intro l1 hl1 w' hK; have k_R3 := (hK.get m11); have ⟨c_R3_0, c_R3_1, c_R3_2⟩ := k_R3.c3; have f_R3 := k_R3.fz; have ni := noInt_of k_R3 nofun; go_simp; obtain rfl := hl1.out; exact ⟨rfl, ks_put (R := R3) hK k_R3.1 0 [.bool (isN (ofS ((isN x)) (((numQ x) * y.den) - ((numQ y) * x.den)) (x.den * y.den))), .slice sv22.a.p (digs B6 (numQ (ofS ((isN x)) (((numQ x) * y.den) - ((numQ y) * x.den)) (x.den * y.den)))).length sv22.a.c, .slice sv22.b.p (digs B6 (den0 (ofS ((isN x)) (((numQ x) * y.den) - ((numQ y) * x.den)) (x.den * y.den)))).length sv22.b.c] (al1 (spS ni (hK.get m0)) (al1 (spR ni (hK.get m1)) (al1 (spR ni (hK.get m2)) (al1 (spR ni (hK.get m3)) (al1 (spR ni (hK.get m4)) (al1 (spR ni (hK.get m5)) (al1 (spR ni (hK.get m6)) (al1 (spR ni (hK.get m7)) (al1 (spR ni (hK.get m8)) (al1 (spR ni (hK.get m9)) (al1 (spR ni (hK.get m10)) (al1 (fun _ => has_put k_R3 _ _) (al1 (spL o_R2_R3 (hK.get m12)) (al1 (spL o_R1_R3 (hK.get m13)) (al1 (spS ni (hK.get m14)) (al1 (spR ni (hK.get m15)) (al1 (spR ni (hK.get m16)) (al1 (spS ni (hK.get m17)) (al1 (spR ni (hK.get m18)) (al1 (spR ni (hK.get m19)) aN))))))))))))))))))))⟩
    simp only [Act.put, pB, pC]
    refine txEnd (fun W23 hK => ?_)
    have k_R3 := (hK.get m11); have ⟨c_R3_0, c_R3_1, c_R3_2⟩ := k_R3.c3
    go_wp2
    exact bodyPost_ret (v := .agg #[.bool (isN (ofS ((isN x)) (((numQ x) * y.den) - ((numQ y) * x.den)) (x.den * y.den))), .slice sv22.a.p (digs B6 (numQ (ofS ((isN x)) (((numQ x) * y.den) - ((numQ y) * x.den)) (x.den * y.den)))).length sv22.a.c, .slice sv22.b.p (digs B6 (den0 (ofS ((isN x)) (((numQ x) * y.den) - ((numQ y) * x.den)) (x.den * y.den)))).length sv22.b.c]) (by simp [results, Tryz.results32, go_sem, c_R3_0, c_R3_1, c_R3_2]) rfl ((by obtain rfl := hQ0.out; exact ⟨_, rfl, (Eq.mp (congrArg (RefR _ _) (show ofS ((isN x)) (((numQ x) * y.den) - ((numQ y) * x.den)) (x.den * y.den) = x + y from (radd_ft hb1.out hz1.out hb2.out))) (hK.get m0)), hK.old⟩))
  · --
   go_upto_region 4 with (fail)
   have hK0 := hK.subl (sK (sK (sK (sK (sK (sK (sK (sC (sK (sK (sK (sK (sK (sK (sK (sK sZ))))))))))))))))
   refine wp_region_float0 (w) _ _ [0, 0, 0, 0, 2, 0, 2, 4] (by kernel_rfl) (by kernel_rfl) (by kernel_rfl) (by kernel_rfl) (KS.drew hK0) (KS.drew hK) ?_
   clear hK hK0
   apply lxF0 (wants0 rfl); (· intro w' h0; go_simp; (try go_bits); exact ⟨rfl, rfl⟩); simp only [Act.put, pA, pB, pC]
   apply lxF0 (wants0 rfl); (· intro w' h0; have k_R1 := (h0.get m8); have c_R1_0 := k_R1.at 0 rfl; go_simp; (try go_bits); exact ⟨rfl, rfl⟩); simp only [Act.put, pA, pB, pC]
   iterate 2 (apply lxF0 (wants0 rfl); (· intro w' h0; go_simp; (try go_bits); exact ⟨rfl, rfl⟩); simp only [Act.put, pA, pB, pC])
   apply lxE1 (α := Sl) (fun sv => .slice sv.p (digs B6 (((numQ x) * y.den) + ((numQ y) * x.den))).length sv.c) (fun sv => [fun w => RefV w (.slice sv.p (digs B6 (((numQ x) * y.den) + ((numQ y) * x.den))).length sv.c) (((numQ x) * y.den) + ((numQ y) * x.den))]) (wants0 rfl)
   · intro f1 l1 hl1 w' h0 hK; go_simp; (try go_bits); refine (radd_any (.slice sv6.p (digs B6 ((numQ x) * y.den)).length sv6.c) (.slice sv8.p (digs B6 ((numQ y) * x.den)).length sv8.c) ((numQ x) * y.den) ((numQ y) * x.den) w' (hK.get m5) (hK.get m3) (by omega) (by omega)).mono ?_; rintro e w5 ⟨y0, rfl, u0, hb⟩; obtain ⟨rfl, rfl⟩ := hl1.out; obtain ⟨p_u0, c_u0, rfl⟩ := u0.slr; exact ⟨_, rfl, (⟨p_u0, 0, c_u0⟩ : Sl), rfl, hb, .cons (fun w2 h2 => u0.below h2) (Lasts.nil _)⟩
   intro sv24
   simp only [Act.put, pA, pB, pC, pD, pE]
   apply lxF0 (wants0 rfl); (· intro w' h0; go_simp; (try go_bits); exact ⟨rfl, rfl⟩); simp only [Act.put, pA, pB, pC]
   apply lxE1 (α := Duo Sl Sl) (fun sv => .agg #[.bool (isN (ofS ((isN x)) (((numQ x) * y.den) + ((numQ y) * x.den)) (x.den * y.den))), .slice sv.a.p (digs B6 (numQ (ofS ((isN x)) (((numQ x) * y.den) + ((numQ y) * x.den)) (x.den * y.den)))).length sv.a.c, .slice sv.b.p (digs B6 (den0 (ofS ((isN x)) (((numQ x) * y.den) + ((numQ y) * x.den)) (x.den * y.den)))).length sv.b.c]) (fun sv => [fun w => RefR w (.agg #[.bool (isN (ofS ((isN x)) (((numQ x) * y.den) + ((numQ y) * x.den)) (x.den * y.den))), .slice sv.a.p (digs B6 (numQ (ofS ((isN x)) (((numQ x) * y.den) + ((numQ y) * x.den)) (x.den * y.den)))).length sv.a.c, .slice sv.b.p (digs B6 (den0 (ofS ((isN x)) (((numQ x) * y.den) + ((numQ y) * x.den)) (x.den * y.den)))).length sv.b.c]) (ofS ((isN x)) (((numQ x) * y.den) + ((numQ y) * x.den)) (x.den * y.den)), fun w => RefV w (.slice sv.a.p (digs B6 (numQ (ofS ((isN x)) (((numQ x) * y.den) + ((numQ y) * x.den)) (x.den * y.den)))).length sv.a.c) (numQ (ofS ((isN x)) (((numQ x) * y.den) + ((numQ y) * x.den)) (x.den * y.den))), fun w => RefV w (.slice sv.b.p (digs B6 (den0 (ofS ((isN x)) (((numQ x) * y.den) + ((numQ y) * x.den)) (x.den * y.den)))).length sv.b.c) (den0 (ofS ((isN x)) (((numQ x) * y.den) + ((numQ y) * x.den)) (x.den * y.den)))]) (wants0 rfl)
   · intro f1 l1 hl1 w' h0 hK; go_simp; (try go_bits); refine (rmade_q (.slice sv24.p (digs B6 (((numQ x) * y.den) + ((numQ y) * x.den))).length sv24.c) (.slice sv12.p (digs B6 (x.den * y.den)).length sv12.c) ((isN x)) (((numQ x) * y.den) + ((numQ y) * x.den)) (x.den * y.den) w' (hK.get m0) (hK.get m1) (by omega) (by omega)).mono ?_; rintro e w5 ⟨y0, rfl, u0, hb⟩; obtain ⟨rfl, rfl⟩ := hl1.out; have u0_0 := u0; obtain ⟨p_u0, c_u0, q_u0, d_u0, rfl, u0_1, u0_2⟩ := u0.slr; exact ⟨_, rfl, (⟨⟨p_u0, 0, c_u0⟩, ⟨q_u0, 0, d_u0⟩⟩ : Duo Sl Sl), rfl, hb, .cons (fun w2 h2 => u0_0.below h2) (.cons (fun w2 h2 => u0_1.below h2) (.cons (fun w2 h2 => u0_2.below h2) (Lasts.nil _)))⟩
   intro sv25
   simp only [Act.put, pA, pB, pC, pD, pE]
   apply lxU1 11 (Has w.heap.size R3 (.cells #[.bool (isN (ofS ((isN x)) (((numQ x) * y.den) + ((numQ y) * x.den)) (x.den * y.den))), .slice sv25.a.p (digs B6 (numQ (ofS ((isN x)) (((numQ x) * y.den) + ((numQ y) * x.den)) (x.den * y.den)))).length sv25.a.c, .slice sv25.b.p (digs B6 (den0 (ofS ((isN x)) (((numQ x) * y.den) + ((numQ y) * x.den)) (x.den * y.den)))).length sv25.b.c] 36)) (wants0 rfl)
   · intro g0 l1 hl1 w' h0 hK; have k_R3 := (hK.get m11); have ⟨c_R3_0, c_R3_1, c_R3_2⟩ := k_R3.c3; have f_R3 := k_R3.fz; have ni := noInt_of k_R3 nofun; go_simp; obtain ⟨rfl, rfl⟩ := hl1.out; exact ⟨rfl, ks_put (R := R3) h0 k_R3.1 0 [.bool (isN (ofS ((isN x)) (((numQ x) * y.den) + ((numQ y) * x.den)) (x.den * y.den))), .slice sv25.a.p (digs B6 (numQ (ofS ((isN x)) (((numQ x) * y.den) + ((numQ y) * x.den)) (x.den * y.den)))).length sv25.a.c, .slice sv25.b.p (digs B6 (den0 (ofS ((isN x)) (((numQ x) * y.den) + ((numQ y) * x.den)) (x.den * y.den)))).length sv25.b.c] (al1 (spR ni (h0.get m0)) (al1 (spR ni (h0.get m1)) (al1 (spR ni (h0.get m2)) (al1 (spR ni (h0.get m3)) (al1 (spR ni (h0.get m4)) (al1 (spR ni (h0.get m5)) (al1 (spR ni (h0.get m6)) (al1 (spL o_R2_R3 (h0.get m7)) (al1 (spL o_R1_R3 (h0.get m8)) (al1 (spS ni (h0.get m9)) (al1 (spR ni (h0.get m10)) (al1 (spR ni (h0.get m11)) (al1 (spS ni (h0.get m12)) (al1 (spR ni (h0.get m13)) (al1 (spR ni (h0.get m14)) aN))))))))))))))), ks_put (R := R3) hK k_R3.1 0 [.bool (isN (ofS ((isN x)) (((numQ x) * y.den) + ((numQ y) * x.den)) (x.den * y.den))), .slice sv25.a.p (digs B6 (numQ (ofS ((isN x)) (((numQ x) * y.den) + ((numQ y) * x.den)) (x.den * y.den)))).length sv25.a.c, .slice sv25.b.p (digs B6 (den0 (ofS ((isN x)) (((numQ x) * y.den) + ((numQ y) * x.den)) (x.den * y.den)))).length sv25.b.c] (al1 (spS ni (hK.get m0)) (al1 (spR ni (hK.get m1)) (al1 (spR ni (hK.get m2)) (al1 (spR ni (hK.get m3)) (al1 (spR ni (hK.get m4)) (al1 (spR ni (hK.get m5)) (al1 (spR ni (hK.get m6)) (al1 (spR ni (hK.get m7)) (al1 (spR ni (hK.get m8)) (al1 (spR ni (hK.get m9)) (al1 (spR ni (hK.get m10)) (al1 (fun _ => has_put k_R3 _ _) (al1 (spL o_R2_R3 (hK.get m12)) (al1 (spL o_R1_R3 (hK.get m13)) (al1 (spS ni (hK.get m14)) (al1 (spR ni (hK.get m15)) (al1 (spR ni (hK.get m16)) (al1 (spS ni (hK.get m17)) (al1 (spR ni (hK.get m18)) (al1 (spR ni (hK.get m19)) aN))))))))))))))))))))⟩
   simp only [Act.put, pB, pC]
   refine lxEnd (fun W26 hK => ?_)
   have k_R3 := (hK.get m11); have ⟨c_R3_0, c_R3_1, c_R3_2⟩ := k_R3.c3
   go_wp2
   exact bodyPost_ret (v := .agg #[.bool (isN (ofS ((isN x)) (((numQ x) * y.den) + ((numQ y) * x.den)) (x.den * y.den))), .slice sv25.a.p (digs B6 (numQ (ofS ((isN x)) (((numQ x) * y.den) + ((numQ y) * x.den)) (x.den * y.den)))).length sv25.a.c, .slice sv25.b.p (digs B6 (den0 (ofS ((isN x)) (((numQ x) * y.den) + ((numQ y) * x.den)) (x.den * y.den)))).length sv25.b.c]) (by simp [results, Tryz.results32, go_sem, c_R3_0, c_R3_1, c_R3_2]) rfl ((by obtain rfl := hQ0.out; exact ⟨_, rfl, (Eq.mp (congrArg (RefR _ _) (show ofS ((isN x)) (((numQ x) * y.den) + ((numQ y) * x.den)) (x.den * y.den) = x + y from (radd_t hb1.out))) (hK.get m0)), hK.old⟩))
set_option maxRecDepth 100000 in
theorem rsub_q (v0 : Value) (v1 : Value) (x : Rat) (y : Rat) (w : World) (h0 : RefR w v0 x) (h1 : RefR w v1 y) {k : Nat} (hx : LmQ k x) (hy : LmQ k y) (hk : k ≤ 10000) :
    Calls Tryz.prog 34 #[v0, v1] w fun e w' => ∃ y0, e = .returned y0 ∧ RefR w' y0 (x - y) ∧ Below w.heap.size w w' := by
  have h0_0 := h0; obtain ⟨p_h0, c_h0, q_h0, d_h0, rfl, h0_1, h0_2⟩ := h0.slr
  have h1_0 := h1; obtain ⟨p_h1, c_h1, q_h1, d_h1, rfl, h1_1, h1_2⟩ := h1.slr
  have hK : KS w [fun w => RefR w (.agg #[.bool (isN y), .slice p_h1 (digs B6 (numQ y)).length c_h1, .slice q_h1 (digs B6 (den0 y)).length d_h1]) y, fun w => RefV w (.slice p_h1 (digs B6 (numQ y)).length c_h1) (numQ y), fun w => RefV w (.slice q_h1 (digs B6 (den0 y)).length d_h1) (den0 y), fun w => RefR w (.agg #[.bool (isN x), .slice p_h0 (digs B6 (numQ x)).length c_h0, .slice q_h0 (digs B6 (den0 x)).length d_h0]) x, fun w => RefV w (.slice p_h0 (digs B6 (numQ x)).length c_h0) (numQ x), fun w => RefV w (.slice q_h0 (digs B6 (den0 x)).length d_h0) (den0 x)] w := (KS.add (KS.add (KS.add (KS.add (KS.add (KS.add (KS.start w) (fun w' hb => h0_2.below hb)) (fun w' hb => h0_1.below hb)) (fun w' hb => h0_0.below hb)) (fun w' hb => h1_2.below hb)) (fun w' hb => h1_1.below hb)) (fun w' hb => h1_0.below hb))
  refine Calls.hide (fun Q0 hQ0 => ?_)
  go_enter Tryz.func34, Tryz.ntmps34
  go_upto_region 0 with (fail)
  refine wp_region_tx w hK ?_
  clear hK
  apply txA (.cells #[.bool (isN x), .slice p_h0 (digs B6 (numQ x)).length c_h0, .slice q_h0 (digs B6 (den0 x)).length d_h0] 36) (wants0 rfl)
  · intro w' hK; go_simp; rfl
  intro R1 q_R1
  clear q_R1
  simp only [mkOf, Act.put, pA, pB, pC]
  apply txA (.cells #[.bool (isN y), .slice p_h1 (digs B6 (numQ y)).length c_h1, .slice q_h1 (digs B6 (den0 y)).length d_h1] 36) (wants0 rfl)
  · intro w' hK; go_simp; rfl
  intro R2 q_R2
  have o_R1_R2 : R1 < R2 := q_R2 _ _ _ m0
  clear q_R2
  simp only [mkOf, Act.put, pA, pB, pC]
  apply txA (.cells #[.bool false, .slice none 0 0, .slice none 0 0] 36) (wants0 rfl)
  · intro w' hK; go_simp; rfl
  intro R3 q_R3
  have o_R1_R3 : R1 < R3 := q_R3 _ _ _ m1
  have o_R2_R3 : R2 < R3 := q_R3 _ _ _ m0
  clear q_R3
  simp only [mkOf, Act.put, pA, pB, pC]
  refine txEnd (fun W4 hK => ?_)
  go_upto_region 1 with (fail)
  have hK0 := hK.subl (sC (sK (sK (sK (sK (sK (sK (sK (sK sZ)))))))))
  refine wp_region_float0 (w) _ _ [0, 0, 2, 2, 4] (by kernel_rfl) (by kernel_rfl) (by kernel_rfl) (by kernel_rfl) (KS.drew hK0) (KS.drew hK) ?_
  clear hK hK0
  apply lxF0 (wants0 rfl); (· intro w' h0; have k_R1 := (h0.get m1); have ⟨c_R1_0, c_R1_1, c_R1_2⟩ := k_R1.c3; go_simp; (try go_bits); exact ⟨rfl, rfl⟩); simp only [Act.put, pA, pB, pC]
  apply lxF0 (wants0 rfl); (· intro w' h0; have k_R2 := (h0.get m0); have ⟨c_R2_0, c_R2_1, c_R2_2⟩ := k_R2.c3; go_simp; (try go_bits); exact ⟨rfl, rfl⟩); simp only [Act.put, pA, pB, pC]
  apply lxE1 (α := Duo Sl Sl) (fun sv => .agg #[.bool (isN (-y)), .slice sv.a.p (digs B6 (numQ (-y))).length sv.a.c, .slice sv.b.p (digs B6 (den0 (-y))).length sv.b.c]) (fun sv => [fun w => RefR w (.agg #[.bool (isN (-y)), .slice sv.a.p (digs B6 (numQ (-y))).length sv.a.c, .slice sv.b.p (digs B6 (den0 (-y))).length sv.b.c]) (-y), fun w => RefV w (.slice sv.a.p (digs B6 (numQ (-y))).length sv.a.c) (numQ (-y)), fun w => RefV w (.slice sv.b.p (digs B6 (den0 (-y))).length sv.b.c) (den0 (-y))]) (wants0 rfl)
  · intro f1 l1 hl1 w' h0 hK; go_simp; (try go_bits); refine (rneg_q (.agg #[.bool (isN y), .slice p_h1 (digs B6 (numQ y)).length c_h1, .slice q_h1 (digs B6 (den0 y)).length d_h1]) y w' (hK.get m3) hy hk).mono ?_; rintro e w5 ⟨y0, rfl, u0, hb⟩; obtain ⟨rfl, rfl⟩ := hl1.out; have u0_0 := u0; obtain ⟨p_u0, c_u0, q_u0, d_u0, rfl, u0_1, u0_2⟩ := u0.slr; exact ⟨_, rfl, (⟨⟨p_u0, 0, c_u0⟩, ⟨q_u0, 0, d_u0⟩⟩ : Duo Sl Sl), rfl, hb, .cons (fun w2 h2 => u0_0.below h2) (.cons (fun w2 h2 => u0_1.below h2) (.cons (fun w2 h2 => u0_2.below h2) (Lasts.nil _)))⟩
  intro sv5
  simp only [Act.put, pA, pB, pC, pD, pE]
  apply lxE1 (α := Duo Sl Sl) (fun sv => .agg #[.bool (isN (x + (-y))), .slice sv.a.p (digs B6 (numQ (x + (-y)))).length sv.a.c, .slice sv.b.p (digs B6 (den0 (x + (-y)))).length sv.b.c]) (fun sv => [fun w => RefR w (.agg #[.bool (isN (x + (-y))), .slice sv.a.p (digs B6 (numQ (x + (-y)))).length sv.a.c, .slice sv.b.p (digs B6 (den0 (x + (-y)))).length sv.b.c]) (x + (-y)), fun w => RefV w (.slice sv.a.p (digs B6 (numQ (x + (-y)))).length sv.a.c) (numQ (x + (-y))), fun w => RefV w (.slice sv.b.p (digs B6 (den0 (x + (-y)))).length sv.b.c) (den0 (x + (-y)))]) (wants0 rfl)
  · intro f1 l1 hl1 w' h0 hK; go_simp; (try go_bits); refine (radd_q (.agg #[.bool (isN x), .slice p_h0 (digs B6 (numQ x)).length c_h0, .slice q_h0 (digs B6 (den0 x)).length d_h0]) (.agg #[.bool (isN (-y)), .slice sv5.a.p (digs B6 (numQ (-y))).length sv5.a.c, .slice sv5.b.p (digs B6 (den0 (-y))).length sv5.b.c]) x (-y) w' (hK.get m9) (hK.get m0) hx hy.neg hk).mono ?_; rintro e w5 ⟨y0, rfl, u0, hb⟩; obtain ⟨rfl, rfl⟩ := hl1.out; have u0_0 := u0; obtain ⟨p_u0, c_u0, q_u0, d_u0, rfl, u0_1, u0_2⟩ := u0.slr; exact ⟨_, rfl, (⟨⟨p_u0, 0, c_u0⟩, ⟨q_u0, 0, d_u0⟩⟩ : Duo Sl Sl), rfl, hb, .cons (fun w2 h2 => u0_0.below h2) (.cons (fun w2 h2 => u0_1.below h2) (.cons (fun w2 h2 => u0_2.below h2) (Lasts.nil _)))⟩
  intro sv6
  simp only [Act.put, pA, pB, pC, pD, pE]
  apply lxU1 6 (Has w.heap.size R3 (.cells #[.bool (isN (x + (-y))), .slice sv6.a.p (digs B6 (numQ (x + (-y)))).length sv6.a.c, .slice sv6.b.p (digs B6 (den0 (x + (-y)))).length sv6.b.c] 36)) (wants0 rfl)
  · intro g0 l1 hl1 w' h0 hK; have k_R3 := (hK.get m6); have ⟨c_R3_0, c_R3_1, c_R3_2⟩ := k_R3.c3; have f_R3 := k_R3.fz; have ni := noInt_of k_R3 nofun; go_simp; obtain ⟨rfl, rfl⟩ := hl1.out; exact ⟨rfl, ks_put (R := R3) h0 k_R3.1 0 [.bool (isN (x + (-y))), .slice sv6.a.p (digs B6 (numQ (x + (-y)))).length sv6.a.c, .slice sv6.b.p (digs B6 (den0 (x + (-y)))).length sv6.b.c] (al1 (spL o_R2_R3 (h0.get m0)) (al1 (spL o_R1_R3 (h0.get m1)) (al1 (spS ni (h0.get m2)) (al1 (spR ni (h0.get m3)) (al1 (spR ni (h0.get m4)) (al1 (spS ni (h0.get m5)) (al1 (spR ni (h0.get m6)) (al1 (spR ni (h0.get m7)) aN)))))))), ks_put (R := R3) hK k_R3.1 0 [.bool (isN (x + (-y))), .slice sv6.a.p (digs B6 (numQ (x + (-y)))).length sv6.a.c, .slice sv6.b.p (digs B6 (den0 (x + (-y)))).length sv6.b.c] (al1 (spS ni (hK.get m0)) (al1 (spR ni (hK.get m1)) (al1 (spR ni (hK.get m2)) (al1 (spS ni (hK.get m3)) (al1 (spR ni (hK.get m4)) (al1 (spR ni (hK.get m5)) (al1 (fun _ => has_put k_R3 _ _) (al1 (spL o_R2_R3 (hK.get m7)) (al1 (spL o_R1_R3 (hK.get m8)) (al1 (spS ni (hK.get m9)) (al1 (spR ni (hK.get m10)) (al1 (spR ni (hK.get m11)) (al1 (spS ni (hK.get m12)) (al1 (spR ni (hK.get m13)) (al1 (spR ni (hK.get m14)) aN)))))))))))))))⟩
  simp only [Act.put, pB, pC]
  refine lxEnd (fun W7 hK => ?_)
  have k_R3 := (hK.get m6); have ⟨c_R3_0, c_R3_1, c_R3_2⟩ := k_R3.c3
  go_wp2
  exact bodyPost_ret (v := .agg #[.bool (isN (x + (-y))), .slice sv6.a.p (digs B6 (numQ (x + (-y)))).length sv6.a.c, .slice sv6.b.p (digs B6 (den0 (x + (-y)))).length sv6.b.c]) (by simp [results, Tryz.results34, go_sem, c_R3_0, c_R3_1, c_R3_2]) rfl ((by obtain rfl := hQ0.out; exact ⟨_, rfl, (Eq.mp (congrArg (RefR _ _) (show x + (-y) = x - y from (Rat.sub_eq_add_neg x y).symm)) (hK.get m0)), hK.old⟩))
set_option maxRecDepth 100000 in
theorem rmul_q (v0 : Value) (v1 : Value) (x : Rat) (y : Rat) (w : World) (h0 : RefR w v0 x) (h1 : RefR w v1 y) {k : Nat} (hx : LmQ k x) (hy : LmQ k y) (hk : k ≤ 10000) :
    Calls Tryz.prog 43 #[v0, v1] w fun e w' => ∃ y0, e = .returned y0 ∧ RefR w' y0 (x * y) ∧ Below w.heap.size w w' := by
  have h0_0 := h0; obtain ⟨p_h0, c_h0, q_h0, d_h0, rfl, h0_1, h0_2⟩ := h0.slr
  have h1_0 := h1; obtain ⟨p_h1, c_h1, q_h1, d_h1, rfl, h1_1, h1_2⟩ := h1.slr
  have hK : KS w [fun w => RefR w (.agg #[.bool (isN y), .slice p_h1 (digs B6 (numQ y)).length c_h1, .slice q_h1 (digs B6 (den0 y)).length d_h1]) y, fun w => RefV w (.slice p_h1 (digs B6 (numQ y)).length c_h1) (numQ y), fun w => RefV w (.slice q_h1 (digs B6 (den0 y)).length d_h1) (den0 y), fun w => RefR w (.agg #[.bool (isN x), .slice p_h0 (digs B6 (numQ x)).length c_h0, .slice q_h0 (digs B6 (den0 x)).length d_h0]) x, fun w => RefV w (.slice p_h0 (digs B6 (numQ x)).length c_h0) (numQ x), fun w => RefV w (.slice q_h0 (digs B6 (den0 x)).length d_h0) (den0 x)] w := (KS.add (KS.add (KS.add (KS.add (KS.add (KS.add (KS.start w) (fun w' hb => h0_2.below hb)) (fun w' hb => h0_1.below hb)) (fun w' hb => h0_0.below hb)) (fun w' hb => h1_2.below hb)) (fun w' hb => h1_1.below hb)) (fun w' hb => h1_0.below hb))
  have e1 : (digs B6 (numQ x)).length ≤ 50000 := d6_of hx.n (by omega)
  have e2 := d6_of hx.d (by omega)
  have e3 : (digs B6 (numQ y)).length ≤ 50000 := d6_of hy.n (by omega)
  have e4 := d6_of hy.d (by omega)
  have e5 : (digs B6 (numQ x * y.den)).length ≤ 50000 := d6_of (hx.n.mul hy.d) (by omega)
  have e6 : (digs B6 (numQ y * x.den)).length ≤ 50000 := d6_of (hy.n.mul hx.d) (by omega)
  have e7 := d6_of (hx.d.mul hy.d) (by omega)
  have e8 : (digs B6 (numQ x * y.den + numQ y * x.den)).length ≤ 50000 := d6_of ((hx.n.mul hy.d).add (hy.n.mul hx.d)) (by omega)
  have e9 : (digs B6 (numQ x * y.den - numQ y * x.den)).length ≤ 50000 := d6_of (hx.n.mul hy.d).sub (by omega)
  have e10 : (digs B6 (numQ y * x.den - numQ x * y.den)).length ≤ 50000 := d6_of (hy.n.mul hx.d).sub (by omega)
  have e11 : (digs B6 (numQ x * numQ y)).length ≤ 50000 := d6_of (hx.n.mul hy.n) (by omega)
  have e12 : (digs B6 (x.den * numQ y)).length ≤ 50000 := d6_of (hx.d.mul hy.n) (by omega)
  refine Calls.hide (fun Q0 hQ0 => ?_)
  go_enter Tryz.func43, Tryz.ntmps43
  go_upto_region 0 with (fail)
  refine wp_region_tx w hK ?_
  clear hK
  apply txA (.cells #[.bool (isN x), .slice p_h0 (digs B6 (numQ x)).length c_h0, .slice q_h0 (digs B6 (den0 x)).length d_h0] 36) (wants0 rfl)
  · intro w' hK; go_simp; rfl
  intro R1 q_R1
  clear q_R1
  simp only [mkOf, Act.put, pA, pB, pC]
  apply txA (.cells #[.bool (isN y), .slice p_h1 (digs B6 (numQ y)).length c_h1, .slice q_h1 (digs B6 (den0 y)).length d_h1] 36) (wants0 rfl)
  · intro w' hK; go_simp; rfl
  intro R2 q_R2
  have o_R1_R2 : R1 < R2 := q_R2 _ _ _ m0
  clear q_R2
  simp only [mkOf, Act.put, pA, pB, pC]
  apply txA (.cells #[.bool false, .slice none 0 0, .slice none 0 0] 36) (wants0 rfl)
  · intro w' hK; go_simp; rfl
  intro R3 q_R3
  have o_R1_R3 : R1 < R3 := q_R3 _ _ _ m1
  have o_R2_R3 : R2 < R3 := q_R3 _ _ _ m0
  clear q_R3
  simp only [mkOf, Act.put, pA, pB, pC]
  refine txEnd (fun W4 hK => ?_)
  go_upto_region 1 with (fail)
  have hK0 := hK.subl (sC (sK (sK (sK (sK (sK (sK (sK (sK sZ)))))))))
  refine wp_region_float0 (w) _ _ [0, 0, 0, 0, 0, 0, 0, 0, 0, 2, 0, 2, 0, 2, 2, 2, 4] (by kernel_rfl) (by kernel_rfl) (by kernel_rfl) (by kernel_rfl) (KS.drew hK0) (KS.drew hK) ?_
  clear hK hK0
  apply lxF0 (wants0 rfl); (· intro w' h0; go_simp; (try go_bits); exact ⟨rfl, rfl⟩); simp only [Act.put, pA, pB, pC]
  apply lxF0 (wants0 rfl); (· intro w' h0; have k_R1 := (h0.get m1); have c_R1_0 := k_R1.at 0 rfl; go_simp; (try go_bits); exact ⟨rfl, rfl⟩); simp only [Act.put, pA, pB, pC]
  apply lxF0 (wants0 rfl); (· intro w' h0; go_simp; (try go_bits); exact ⟨rfl, rfl⟩); simp only [Act.put, pA, pB, pC]
  apply lxF0 (wants0 rfl); (· intro w' h0; have k_R2 := (h0.get m0); have c_R2_0 := k_R2.at 0 rfl; go_simp; (try go_bits); exact ⟨rfl, rfl⟩); simp only [Act.put, pA, pB, pC]
  iterate 2 (apply lxF0 (wants0 rfl); (· intro w' h0; go_simp; (try go_bits); exact ⟨rfl, rfl⟩); simp only [Act.put, pA, pB, pC])
  apply lxF0 (wants0 rfl); (· intro w' h0; have k_R1 := (h0.get m1); have c_R1_1 := k_R1.at 1 rfl; go_simp; (try go_bits); exact ⟨rfl, rfl⟩); simp only [Act.put, pA, pB, pC]
  apply lxF0 (wants0 rfl); (· intro w' h0; go_simp; (try go_bits); exact ⟨rfl, rfl⟩); simp only [Act.put, pA, pB, pC]
  apply lxF0 (wants0 rfl); (· intro w' h0; have k_R2 := (h0.get m0); have c_R2_1 := k_R2.at 1 rfl; go_simp; (try go_bits); exact ⟨rfl, rfl⟩); simp only [Act.put, pA, pB, pC]
  apply lxE1 (α := Sl) (fun sv => .slice sv.p (digs B6 ((numQ x) * (numQ y))).length sv.c) (fun sv => [fun w => RefV w (.slice sv.p (digs B6 ((numQ x) * (numQ y))).length sv.c) ((numQ x) * (numQ y))]) (wants0 rfl)
  · intro f1 l1 hl1 w' h0 hK; go_simp; (try go_bits); refine (rmul_any (.slice p_h0 (digs B6 (numQ x)).length c_h0) (.slice p_h1 (digs B6 (numQ y)).length c_h1) (numQ x) (numQ y) w' (hK.get m7) (hK.get m4) (by omega) (by omega)).mono ?_; rintro e w5 ⟨y0, rfl, u0, hb⟩; obtain ⟨rfl, rfl⟩ := hl1.out; obtain ⟨p_u0, c_u0, rfl⟩ := u0.slr; exact ⟨_, rfl, (⟨p_u0, 0, c_u0⟩ : Sl), rfl, hb, .cons (fun w2 h2 => u0.below h2) (Lasts.nil _)⟩
  intro sv5
  simp only [Act.put, pA, pB, pC, pD, pE]
  apply lxF0 (wants0 rfl); (· intro w' h0; have k_R1 := (h0.get m1); have ⟨c_R1_0, c_R1_1, c_R1_2⟩ := k_R1.c3; go_simp; (try go_bits); exact ⟨rfl, rfl⟩); simp only [Act.put, pA, pB, pC]
  apply lxE1 (α := Sl) (fun sv => .slice sv.p (digs B6 x.den).length sv.c) (fun sv => [fun w => RefV w (.slice sv.p (digs B6 x.den).length sv.c) x.den]) (wants0 rfl)
  · intro f1 l1 hl1 w' h0 hK; go_simp; (try go_bits); refine (rone_q (.agg #[.bool (isN x), .slice p_h0 (digs B6 (numQ x)).length c_h0, .slice q_h0 (digs B6 (den0 x)).length d_h0]) x w' (hK.get m7) ).mono ?_; rintro e w5 ⟨y0, rfl, u0, hb⟩; obtain ⟨rfl, rfl⟩ := hl1.out; obtain ⟨p_u0, c_u0, rfl⟩ := u0.slr; exact ⟨_, rfl, (⟨p_u0, 0, c_u0⟩ : Sl), rfl, hb, .cons (fun w2 h2 => u0.below h2) (Lasts.nil _)⟩
  intro sv6
  simp only [Act.put, pA, pB, pC, pD, pE]
  apply lxF0 (wants0 rfl); (· intro w' h0; have k_R2 := (h0.get m0); have ⟨c_R2_0, c_R2_1, c_R2_2⟩ := k_R2.c3; go_simp; (try go_bits); exact ⟨rfl, rfl⟩); simp only [Act.put, pA, pB, pC]
  apply lxE1 (α := Sl) (fun sv => .slice sv.p (digs B6 y.den).length sv.c) (fun sv => [fun w => RefV w (.slice sv.p (digs B6 y.den).length sv.c) y.den]) (wants0 rfl)
  · intro f1 l1 hl1 w' h0 hK; go_simp; (try go_bits); refine (rone_q (.agg #[.bool (isN y), .slice p_h1 (digs B6 (numQ y)).length c_h1, .slice q_h1 (digs B6 (den0 y)).length d_h1]) y w' (hK.get m5) ).mono ?_; rintro e w5 ⟨y0, rfl, u0, hb⟩; obtain ⟨rfl, rfl⟩ := hl1.out; obtain ⟨p_u0, c_u0, rfl⟩ := u0.slr; exact ⟨_, rfl, (⟨p_u0, 0, c_u0⟩ : Sl), rfl, hb, .cons (fun w2 h2 => u0.below h2) (Lasts.nil _)⟩
  intro sv7
  simp only [Act.put, pA, pB, pC, pD, pE]
  apply lxE1 (α := Sl) (fun sv => .slice sv.p (digs B6 (x.den * y.den)).length sv.c) (fun sv => [fun w => RefV w (.slice sv.p (digs B6 (x.den * y.den)).length sv.c) (x.den * y.den)]) (wants0 rfl)
  · intro f1 l1 hl1 w' h0 hK; go_simp; (try go_bits); refine (rmul_any (.slice sv6.p (digs B6 x.den).length sv6.c) (.slice sv7.p (digs B6 y.den).length sv7.c) x.den y.den w' (hK.get m1) (hK.get m0) (by omega) (by omega)).mono ?_; rintro e w5 ⟨y0, rfl, u0, hb⟩; obtain ⟨rfl, rfl⟩ := hl1.out; obtain ⟨p_u0, c_u0, rfl⟩ := u0.slr; exact ⟨_, rfl, (⟨p_u0, 0, c_u0⟩ : Sl), rfl, hb, .cons (fun w2 h2 => u0.below h2) (Lasts.nil _)⟩
  intro sv8
  simp only [Act.put, pA, pB, pC, pD, pE]
  apply lxE1 (α := Duo Sl Sl) (fun sv => .agg #[.bool (isN (ofS ((((isN x)) != ((isN y)))) ((numQ x) * (numQ y)) (x.den * y.den))), .slice sv.a.p (digs B6 (numQ (ofS ((((isN x)) != ((isN y)))) ((numQ x) * (numQ y)) (x.den * y.den)))).length sv.a.c, .slice sv.b.p (digs B6 (den0 (ofS ((((isN x)) != ((isN y)))) ((numQ x) * (numQ y)) (x.den * y.den)))).length sv.b.c]) (fun sv => [fun w => RefR w (.agg #[.bool (isN (ofS ((((isN x)) != ((isN y)))) ((numQ x) * (numQ y)) (x.den * y.den))), .slice sv.a.p (digs B6 (numQ (ofS ((((isN x)) != ((isN y)))) ((numQ x) * (numQ y)) (x.den * y.den)))).length sv.a.c, .slice sv.b.p (digs B6 (den0 (ofS ((((isN x)) != ((isN y)))) ((numQ x) * (numQ y)) (x.den * y.den)))).length sv.b.c]) (ofS ((((isN x)) != ((isN y)))) ((numQ x) * (numQ y)) (x.den * y.den)), fun w => RefV w (.slice sv.a.p (digs B6 (numQ (ofS ((((isN x)) != ((isN y)))) ((numQ x) * (numQ y)) (x.den * y.den)))).length sv.a.c) (numQ (ofS ((((isN x)) != ((isN y)))) ((numQ x) * (numQ y)) (x.den * y.den))), fun w => RefV w (.slice sv.b.p (digs B6 (den0 (ofS ((((isN x)) != ((isN y)))) ((numQ x) * (numQ y)) (x.den * y.den)))).length sv.b.c) (den0 (ofS ((((isN x)) != ((isN y)))) ((numQ x) * (numQ y)) (x.den * y.den)))]) (wants0 rfl)
  · intro f1 l1 hl1 w' h0 hK; go_simp; (try go_bits); refine (rmade_q (.slice sv5.p (digs B6 ((numQ x) * (numQ y))).length sv5.c) (.slice sv8.p (digs B6 (x.den * y.den)).length sv8.c) ((((isN x)) != ((isN y)))) ((numQ x) * (numQ y)) (x.den * y.den) w' (hK.get m3) (hK.get m0) (by omega) (by omega)).mono ?_; rintro e w5 ⟨y0, rfl, u0, hb⟩; obtain ⟨rfl, rfl⟩ := hl1.out; have u0_0 := u0; obtain ⟨p_u0, c_u0, q_u0, d_u0, rfl, u0_1, u0_2⟩ := u0.slr; exact ⟨_, rfl, (⟨⟨p_u0, 0, c_u0⟩, ⟨q_u0, 0, d_u0⟩⟩ : Duo Sl Sl), rfl, hb, .cons (fun w2 h2 => u0_0.below h2) (.cons (fun w2 h2 => u0_1.below h2) (.cons (fun w2 h2 => u0_2.below h2) (Lasts.nil _)))⟩
  intro sv9
  simp only [Act.put, pA, pB, pC, pD, pE]
  apply lxU1 7 (Has w.heap.size R3 (.cells #[.bool (isN (ofS ((((isN x)) != ((isN y)))) ((numQ x) * (numQ y)) (x.den * y.den))), .slice sv9.a.p (digs B6 (numQ (ofS ((((isN x)) != ((isN y)))) ((numQ x) * (numQ y)) (x.den * y.den)))).length sv9.a.c, .slice sv9.b.p (digs B6 (den0 (ofS ((((isN x)) != ((isN y)))) ((numQ x) * (numQ y)) (x.den * y.den)))).length sv9.b.c] 36)) (wants0 rfl)
  · intro g0 l1 hl1 w' h0 hK; have k_R3 := (hK.get m7); have ⟨c_R3_0, c_R3_1, c_R3_2⟩ := k_R3.c3; have f_R3 := k_R3.fz; have ni := noInt_of k_R3 nofun; go_simp; obtain ⟨rfl, rfl⟩ := hl1.out; exact ⟨rfl, ks_put (R := R3) h0 k_R3.1 0 [.bool (isN (ofS ((((isN x)) != ((isN y)))) ((numQ x) * (numQ y)) (x.den * y.den))), .slice sv9.a.p (digs B6 (numQ (ofS ((((isN x)) != ((isN y)))) ((numQ x) * (numQ y)) (x.den * y.den)))).length sv9.a.c, .slice sv9.b.p (digs B6 (den0 (ofS ((((isN x)) != ((isN y)))) ((numQ x) * (numQ y)) (x.den * y.den)))).length sv9.b.c] (al1 (spL o_R2_R3 (h0.get m0)) (al1 (spL o_R1_R3 (h0.get m1)) (al1 (spS ni (h0.get m2)) (al1 (spR ni (h0.get m3)) (al1 (spR ni (h0.get m4)) (al1 (spS ni (h0.get m5)) (al1 (spR ni (h0.get m6)) (al1 (spR ni (h0.get m7)) aN)))))))), ks_put (R := R3) hK k_R3.1 0 [.bool (isN (ofS ((((isN x)) != ((isN y)))) ((numQ x) * (numQ y)) (x.den * y.den))), .slice sv9.a.p (digs B6 (numQ (ofS ((((isN x)) != ((isN y)))) ((numQ x) * (numQ y)) (x.den * y.den)))).length sv9.a.c, .slice sv9.b.p (digs B6 (den0 (ofS ((((isN x)) != ((isN y)))) ((numQ x) * (numQ y)) (x.den * y.den)))).length sv9.b.c] (al1 (spS ni (hK.get m0)) (al1 (spR ni (hK.get m1)) (al1 (spR ni (hK.get m2)) (al1 (spR ni (hK.get m3)) (al1 (spR ni (hK.get m4)) (al1 (spR ni (hK.get m5)) (al1 (spR ni (hK.get m6)) (al1 (fun _ => has_put k_R3 _ _) (al1 (spL o_R2_R3 (hK.get m8)) (al1 (spL o_R1_R3 (hK.get m9)) (al1 (spS ni (hK.get m10)) (al1 (spR ni (hK.get m11)) (al1 (spR ni (hK.get m12)) (al1 (spS ni (hK.get m13)) (al1 (spR ni (hK.get m14)) (al1 (spR ni (hK.get m15)) aN))))))))))))))))⟩
  simp only [Act.put, pB, pC]
  refine lxEnd (fun W10 hK => ?_)
  have k_R3 := (hK.get m7); have ⟨c_R3_0, c_R3_1, c_R3_2⟩ := k_R3.c3
  go_wp2
  exact bodyPost_ret (v := .agg #[.bool (isN (ofS ((((isN x)) != ((isN y)))) ((numQ x) * (numQ y)) (x.den * y.den))), .slice sv9.a.p (digs B6 (numQ (ofS ((((isN x)) != ((isN y)))) ((numQ x) * (numQ y)) (x.den * y.den)))).length sv9.a.c, .slice sv9.b.p (digs B6 (den0 (ofS ((((isN x)) != ((isN y)))) ((numQ x) * (numQ y)) (x.den * y.den)))).length sv9.b.c]) (by simp [results, Tryz.results43, go_sem, c_R3_0, c_R3_1, c_R3_2]) rfl ((by obtain rfl := hQ0.out; exact ⟨_, rfl, (Eq.mp (congrArg (RefR _ _) (show ofS ((((isN x)) != ((isN y)))) ((numQ x) * (numQ y)) (x.den * y.den) = x * y from (mul_of x y))) (hK.get m0)), hK.old⟩))
set_option maxRecDepth 100000 in
theorem rdiv_q (v0 : Value) (v1 : Value) (x : Rat) (y : Rat) (w : World) (h0 : RefR w v0 x) (h1 : RefR w v1 y) {k : Nat} (hx : LmQ k x) (hy : LmQ k y) (hk : k ≤ 10000) :
    Calls Tryz.prog 41 #[v0, v1] w fun e w' => ∃ y0, e = .returned (.tuple #[y0, .int .i64 (if y = 0 then 10 else 0)]) ∧ RefR w' y0 (x / y) ∧ Below w.heap.size w w' := by
  have h0_0 := h0; obtain ⟨p_h0, c_h0, q_h0, d_h0, rfl, h0_1, h0_2⟩ := h0.slr
  have h1_0 := h1; obtain ⟨p_h1, c_h1, q_h1, d_h1, rfl, h1_1, h1_2⟩ := h1.slr
  have hK : KS w [fun w => RefR w (.agg #[.bool (isN y), .slice p_h1 (digs B6 (numQ y)).length c_h1, .slice q_h1 (digs B6 (den0 y)).length d_h1]) y, fun w => RefV w (.slice p_h1 (digs B6 (numQ y)).length c_h1) (numQ y), fun w => RefV w (.slice q_h1 (digs B6 (den0 y)).length d_h1) (den0 y), fun w => RefR w (.agg #[.bool (isN x), .slice p_h0 (digs B6 (numQ x)).length c_h0, .slice q_h0 (digs B6 (den0 x)).length d_h0]) x, fun w => RefV w (.slice p_h0 (digs B6 (numQ x)).length c_h0) (numQ x), fun w => RefV w (.slice q_h0 (digs B6 (den0 x)).length d_h0) (den0 x)] w := (KS.add (KS.add (KS.add (KS.add (KS.add (KS.add (KS.start w) (fun w' hb => h0_2.below hb)) (fun w' hb => h0_1.below hb)) (fun w' hb => h0_0.below hb)) (fun w' hb => h1_2.below hb)) (fun w' hb => h1_1.below hb)) (fun w' hb => h1_0.below hb))
  have e1 : (digs B6 (numQ x)).length ≤ 50000 := d6_of hx.n (by omega)
  have e2 := d6_of hx.d (by omega)
  have e3 : (digs B6 (numQ y)).length ≤ 50000 := d6_of hy.n (by omega)
  have e4 := d6_of hy.d (by omega)
  have e5 : (digs B6 (numQ x * y.den)).length ≤ 50000 := d6_of (hx.n.mul hy.d) (by omega)
  have e6 : (digs B6 (numQ y * x.den)).length ≤ 50000 := d6_of (hy.n.mul hx.d) (by omega)
  have e7 := d6_of (hx.d.mul hy.d) (by omega)
  have e8 : (digs B6 (numQ x * y.den + numQ y * x.den)).length ≤ 50000 := d6_of ((hx.n.mul hy.d).add (hy.n.mul hx.d)) (by omega)
  have e9 : (digs B6 (numQ x * y.den - numQ y * x.den)).length ≤ 50000 := d6_of (hx.n.mul hy.d).sub (by omega)
  have e10 : (digs B6 (numQ y * x.den - numQ x * y.den)).length ≤ 50000 := d6_of (hy.n.mul hx.d).sub (by omega)
  have e11 : (digs B6 (numQ x * numQ y)).length ≤ 50000 := d6_of (hx.n.mul hy.n) (by omega)
  have e12 : (digs B6 (x.den * numQ y)).length ≤ 50000 := d6_of (hx.d.mul hy.n) (by omega)
  refine Calls.hide (fun Q0 hQ0 => ?_)
  go_enter Tryz.func41, Tryz.ntmps41
  go_upto_region 0 with (fail)
  refine wp_region_tx w hK ?_
  clear hK
  apply txA (.cells #[.bool (isN x), .slice p_h0 (digs B6 (numQ x)).length c_h0, .slice q_h0 (digs B6 (den0 x)).length d_h0] 36) (wants0 rfl)
  · intro w' hK; go_simp; rfl
  intro R1 q_R1
  clear q_R1
  simp only [mkOf, Act.put, pA, pB, pC]
  apply txA (.cells #[.bool (isN y), .slice p_h1 (digs B6 (numQ y)).length c_h1, .slice q_h1 (digs B6 (den0 y)).length d_h1] 36) (wants0 rfl)
  · intro w' hK; go_simp; rfl
  intro R2 q_R2
  have o_R1_R2 : R1 < R2 := q_R2 _ _ _ m0
  clear q_R2
  simp only [mkOf, Act.put, pA, pB, pC]
  apply txA (.cells #[.bool false, .slice none 0 0, .slice none 0 0] 36) (wants0 rfl)
  · intro w' hK; go_simp; rfl
  intro R3 q_R3
  have o_R1_R3 : R1 < R3 := q_R3 _ _ _ m1
  have o_R2_R3 : R2 < R3 := q_R3 _ _ _ m0
  clear q_R3
  simp only [mkOf, Act.put, pA, pB, pC]
  apply txF (wants0 rfl); (· intro w' hK; go_simp; (try go_bits); exact ⟨rfl, rfl⟩); simp only [Act.put, pA, pB, pC]
  refine txEnd (fun W4 hK => ?_)
  go_upto_region 1 with (fail)
  have hK0 := hK.subl (sC (sK (sK (sK (sK (sK (sK (sK (sK sZ)))))))))
  refine wp_region_float0 (w) _ _ [0, 0, 0, 0, 0, 0, 0, 0, 2, 2, 0, 2, 0, 0, 2, 2, 0, 0, 4, 0] (by kernel_rfl) (by kernel_rfl) (by kernel_rfl) (by kernel_rfl) (KS.drew hK0) (KS.drew hK) ?_
  clear hK hK0
  apply lxF0 (wants0 rfl); (· intro w' h0; go_simp; (try go_bits); exact ⟨rfl, rfl⟩); simp only [Act.put, pA, pB, pC]
  apply lxF0 (wants0 rfl); (· intro w' h0; have k_R1 := (h0.get m1); have c_R1_0 := k_R1.at 0 rfl; go_simp; (try go_bits); exact ⟨rfl, rfl⟩); simp only [Act.put, pA, pB, pC]
  apply lxF0 (wants0 rfl); (· intro w' h0; go_simp; (try go_bits); exact ⟨rfl, rfl⟩); simp only [Act.put, pA, pB, pC]
  apply lxF0 (wants0 rfl); (· intro w' h0; have k_R2 := (h0.get m0); have c_R2_0 := k_R2.at 0 rfl; go_simp; (try go_bits); exact ⟨rfl, rfl⟩); simp only [Act.put, pA, pB, pC]
  iterate 2 (apply lxF0 (wants0 rfl); (· intro w' h0; go_simp; (try go_bits); exact ⟨rfl, rfl⟩); simp only [Act.put, pA, pB, pC])
  apply lxF0 (wants0 rfl); (· intro w' h0; have k_R1 := (h0.get m1); have c_R1_1 := k_R1.at 1 rfl; go_simp; (try go_bits); exact ⟨rfl, rfl⟩); simp only [Act.put, pA, pB, pC]
  apply lxF0 (wants0 rfl); (· intro w' h0; have k_R2 := (h0.get m0); have ⟨c_R2_0, c_R2_1, c_R2_2⟩ := k_R2.c3; go_simp; (try go_bits); exact ⟨rfl, rfl⟩); simp only [Act.put, pA, pB, pC]
  apply lxE1 (α := Sl) (fun sv => .slice sv.p (digs B6 y.den).length sv.c) (fun sv => [fun w => RefV w (.slice sv.p (digs B6 y.den).length sv.c) y.den]) (wants0 rfl)
  · intro f1 l1 hl1 w' h0 hK; go_simp; (try go_bits); refine (rone_q (.agg #[.bool (isN y), .slice p_h1 (digs B6 (numQ y)).length c_h1, .slice q_h1 (digs B6 (den0 y)).length d_h1]) y w' (hK.get m3) ).mono ?_; rintro e w5 ⟨y0, rfl, u0, hb⟩; obtain ⟨rfl, rfl⟩ := hl1.out; obtain ⟨p_u0, c_u0, rfl⟩ := u0.slr; exact ⟨_, rfl, (⟨p_u0, 0, c_u0⟩ : Sl), rfl, hb, .cons (fun w2 h2 => u0.below h2) (Lasts.nil _)⟩
  intro sv5
  simp only [Act.put, pA, pB, pC, pD, pE]
  apply lxE1 (α := Sl) (fun sv => .slice sv.p (digs B6 ((numQ x) * y.den)).length sv.c) (fun sv => [fun w => RefV w (.slice sv.p (digs B6 ((numQ x) * y.den)).length sv.c) ((numQ x) * y.den)]) (wants0 rfl)
  · intro f1 l1 hl1 w' h0 hK; go_simp; (try go_bits); refine (rmul_any (.slice p_h0 (digs B6 (numQ x)).length c_h0) (.slice sv5.p (digs B6 y.den).length sv5.c) (numQ x) y.den w' (hK.get m8) (hK.get m0) (by omega) (by omega)).mono ?_; rintro e w5 ⟨y0, rfl, u0, hb⟩; obtain ⟨rfl, rfl⟩ := hl1.out; obtain ⟨p_u0, c_u0, rfl⟩ := u0.slr; exact ⟨_, rfl, (⟨p_u0, 0, c_u0⟩ : Sl), rfl, hb, .cons (fun w2 h2 => u0.below h2) (Lasts.nil _)⟩
  intro sv6
  simp only [Act.put, pA, pB, pC, pD, pE]
  apply lxF0 (wants0 rfl); (· intro w' h0; have k_R1 := (h0.get m1); have ⟨c_R1_0, c_R1_1, c_R1_2⟩ := k_R1.c3; go_simp; (try go_bits); exact ⟨rfl, rfl⟩); simp only [Act.put, pA, pB, pC]
  apply lxE1 (α := Sl) (fun sv => .slice sv.p (digs B6 x.den).length sv.c) (fun sv => [fun w => RefV w (.slice sv.p (digs B6 x.den).length sv.c) x.den]) (wants0 rfl)
  · intro f1 l1 hl1 w' h0 hK; go_simp; (try go_bits); refine (rone_q (.agg #[.bool (isN x), .slice p_h0 (digs B6 (numQ x)).length c_h0, .slice q_h0 (digs B6 (den0 x)).length d_h0]) x w' (hK.get m8) ).mono ?_; rintro e w5 ⟨y0, rfl, u0, hb⟩; obtain ⟨rfl, rfl⟩ := hl1.out; obtain ⟨p_u0, c_u0, rfl⟩ := u0.slr; exact ⟨_, rfl, (⟨p_u0, 0, c_u0⟩ : Sl), rfl, hb, .cons (fun w2 h2 => u0.below h2) (Lasts.nil _)⟩
  intro sv7
  simp only [Act.put, pA, pB, pC, pD, pE]
  apply lxF0 (wants0 rfl); (· intro w' h0; go_simp; (try go_bits); exact ⟨rfl, rfl⟩); simp only [Act.put, pA, pB, pC]
  apply lxF0 (wants0 rfl); (· intro w' h0; have k_R2 := (h0.get m0); have c_R2_1 := k_R2.at 1 rfl; go_simp; (try go_bits); exact ⟨rfl, rfl⟩); simp only [Act.put, pA, pB, pC]
  apply lxE1 (α := Sl) (fun sv => .slice sv.p (digs B6 (x.den * (numQ y))).length sv.c) (fun sv => [fun w => RefV w (.slice sv.p (digs B6 (x.den * (numQ y))).length sv.c) (x.den * (numQ y))]) (wants0 rfl)
  · intro f1 l1 hl1 w' h0 hK; go_simp; (try go_bits); refine (rmul_any (.slice sv7.p (digs B6 x.den).length sv7.c) (.slice p_h1 (digs B6 (numQ y)).length c_h1) x.den (numQ y) w' (hK.get m0) (hK.get m7) (by omega) (by omega)).mono ?_; rintro e w5 ⟨y0, rfl, u0, hb⟩; obtain ⟨rfl, rfl⟩ := hl1.out; obtain ⟨p_u0, c_u0, rfl⟩ := u0.slr; exact ⟨_, rfl, (⟨p_u0, 0, c_u0⟩ : Sl), rfl, hb, .cons (fun w2 h2 => u0.below h2) (Lasts.nil _)⟩
  intro sv8
  simp only [Act.put, pA, pB, pC, pD, pE]
  obtain ⟨z1, hz1⟩ : ∃ b : Int, RowKit.Hid ((if (x.den * (numQ y)) = 0 then 10 else 0) = b) := ⟨_, hid rfl⟩
  apply lxE1 (α := Duo Sl Sl) (fun sv => .tuple #[.agg #[.bool (isN (ofS ((((isN x)) != ((isN y)))) ((numQ x) * y.den) (x.den * (numQ y)))), .slice sv.a.p (digs B6 (numQ (ofS ((((isN x)) != ((isN y)))) ((numQ x) * y.den) (x.den * (numQ y))))).length sv.a.c, .slice sv.b.p (digs B6 (den0 (ofS ((((isN x)) != ((isN y)))) ((numQ x) * y.den) (x.den * (numQ y))))).length sv.b.c], .int .i64 z1]) (fun sv => [fun w => RefR w (.agg #[.bool (isN (ofS ((((isN x)) != ((isN y)))) ((numQ x) * y.den) (x.den * (numQ y)))), .slice sv.a.p (digs B6 (numQ (ofS ((((isN x)) != ((isN y)))) ((numQ x) * y.den) (x.den * (numQ y))))).length sv.a.c, .slice sv.b.p (digs B6 (den0 (ofS ((((isN x)) != ((isN y)))) ((numQ x) * y.den) (x.den * (numQ y))))).length sv.b.c]) (ofS ((((isN x)) != ((isN y)))) ((numQ x) * y.den) (x.den * (numQ y))), fun w => RefV w (.slice sv.a.p (digs B6 (numQ (ofS ((((isN x)) != ((isN y)))) ((numQ x) * y.den) (x.den * (numQ y))))).length sv.a.c) (numQ (ofS ((((isN x)) != ((isN y)))) ((numQ x) * y.den) (x.den * (numQ y)))), fun w => RefV w (.slice sv.b.p (digs B6 (den0 (ofS ((((isN x)) != ((isN y)))) ((numQ x) * y.den) (x.den * (numQ y))))).length sv.b.c) (den0 (ofS ((((isN x)) != ((isN y)))) ((numQ x) * y.den) (x.den * (numQ y))))]) (wants0 rfl)
  · intro f1 l1 hl1 w' h0 hK; go_simp; (try go_bits); refine (rmake_q (.slice sv6.p (digs B6 ((numQ x) * y.den)).length sv6.c) (.slice sv8.p (digs B6 (x.den * (numQ y))).length sv8.c) ((((isN x)) != ((isN y)))) ((numQ x) * y.den) (x.den * (numQ y)) w' (hK.get m2) (hK.get m0) (by omega) (by omega)).mono ?_; rintro e w5 ⟨y0, rfl, u0, hb⟩; obtain ⟨rfl, rfl⟩ := hl1.out; have u0_0 := u0; obtain ⟨p_u0, c_u0, q_u0, d_u0, rfl, u0_1, u0_2⟩ := u0.slr; exact ⟨_, rfl, (⟨⟨p_u0, 0, c_u0⟩, ⟨q_u0, 0, d_u0⟩⟩ : Duo Sl Sl), (by rw [hz1.out]), hb, .cons (fun w2 h2 => u0_0.below h2) (.cons (fun w2 h2 => u0_1.below h2) (.cons (fun w2 h2 => u0_2.below h2) (Lasts.nil _)))⟩
  intro sv9
  simp only [Act.put, pA, pB, pC, pD, pE]
  iterate 2 (apply lxF0 (wants0 rfl); (· intro w' h0; go_simp; (try go_bits); exact ⟨rfl, rfl⟩); simp only [Act.put, pA, pB, pC])
  apply lxU1 7 (Has w.heap.size R3 (.cells #[.bool (isN (ofS ((((isN x)) != ((isN y)))) ((numQ x) * y.den) (x.den * (numQ y)))), .slice sv9.a.p (digs B6 (numQ (ofS ((((isN x)) != ((isN y)))) ((numQ x) * y.den) (x.den * (numQ y))))).length sv9.a.c, .slice sv9.b.p (digs B6 (den0 (ofS ((((isN x)) != ((isN y)))) ((numQ x) * y.den) (x.den * (numQ y))))).length sv9.b.c] 36)) (wants0 rfl)
  · intro g0 l1 hl1 w' h0 hK; have k_R3 := (hK.get m7); have ⟨c_R3_0, c_R3_1, c_R3_2⟩ := k_R3.c3; have f_R3 := k_R3.fz; have ni := noInt_of k_R3 nofun; go_simp; obtain ⟨rfl, rfl⟩ := hl1.out; exact ⟨rfl, ks_put (R := R3) h0 k_R3.1 0 [.bool (isN (ofS ((((isN x)) != ((isN y)))) ((numQ x) * y.den) (x.den * (numQ y)))), .slice sv9.a.p (digs B6 (numQ (ofS ((((isN x)) != ((isN y)))) ((numQ x) * y.den) (x.den * (numQ y))))).length sv9.a.c, .slice sv9.b.p (digs B6 (den0 (ofS ((((isN x)) != ((isN y)))) ((numQ x) * y.den) (x.den * (numQ y))))).length sv9.b.c] (al1 (spL o_R2_R3 (h0.get m0)) (al1 (spL o_R1_R3 (h0.get m1)) (al1 (spS ni (h0.get m2)) (al1 (spR ni (h0.get m3)) (al1 (spR ni (h0.get m4)) (al1 (spS ni (h0.get m5)) (al1 (spR ni (h0.get m6)) (al1 (spR ni (h0.get m7)) aN)))))))), ks_put (R := R3) hK k_R3.1 0 [.bool (isN (ofS ((((isN x)) != ((isN y)))) ((numQ x) * y.den) (x.den * (numQ y)))), .slice sv9.a.p (digs B6 (numQ (ofS ((((isN x)) != ((isN y)))) ((numQ x) * y.den) (x.den * (numQ y))))).length sv9.a.c, .slice sv9.b.p (digs B6 (den0 (ofS ((((isN x)) != ((isN y)))) ((numQ x) * y.den) (x.den * (numQ y))))).length sv9.b.c] (al1 (spS ni (hK.get m0)) (al1 (spR ni (hK.get m1)) (al1 (spR ni (hK.get m2)) (al1 (spR ni (hK.get m3)) (al1 (spR ni (hK.get m4)) (al1 (spR ni (hK.get m5)) (al1 (spR ni (hK.get m6)) (al1 (fun _ => has_put k_R3 _ _) (al1 (spL o_R2_R3 (hK.get m8)) (al1 (spL o_R1_R3 (hK.get m9)) (al1 (spS ni (hK.get m10)) (al1 (spR ni (hK.get m11)) (al1 (spR ni (hK.get m12)) (al1 (spS ni (hK.get m13)) (al1 (spR ni (hK.get m14)) (al1 (spR ni (hK.get m15)) aN))))))))))))))))⟩
  simp only [Act.put, pB, pC]
  apply lxF0 (wants0 rfl); (· intro w' h0; go_simp; (try go_bits); exact ⟨rfl, rfl⟩); simp only [Act.put, pA, pB, pC]
  refine lxEnd (fun W10 hK => ?_)
  have k_R3 := (hK.get m7); have ⟨c_R3_0, c_R3_1, c_R3_2⟩ := k_R3.c3
  go_wp2
  exact bodyPost_ret (v := .tuple #[.agg #[.bool (isN (ofS ((((isN x)) != ((isN y)))) ((numQ x) * y.den) (x.den * (numQ y)))), .slice sv9.a.p (digs B6 (numQ (ofS ((((isN x)) != ((isN y)))) ((numQ x) * y.den) (x.den * (numQ y))))).length sv9.a.c, .slice sv9.b.p (digs B6 (den0 (ofS ((((isN x)) != ((isN y)))) ((numQ x) * y.den) (x.den * (numQ y))))).length sv9.b.c], .int .i64 z1]) (by simp [results, Tryz.results41, go_sem, c_R3_0, c_R3_1, c_R3_2]) rfl ((by obtain rfl := hQ0.out; exact ⟨.agg #[.bool (isN (ofS ((((isN x)) != ((isN y)))) ((numQ x) * y.den) (x.den * (numQ y)))), .slice sv9.a.p (digs B6 (numQ (ofS ((((isN x)) != ((isN y)))) ((numQ x) * y.den) (x.den * (numQ y))))).length sv9.a.c, .slice sv9.b.p (digs B6 (den0 (ofS ((((isN x)) != ((isN y)))) ((numQ x) * y.den) (x.den * (numQ y))))).length sv9.b.c], (by rw [rdiv_e hz1.out]), (Eq.mp (congrArg (RefR _ _) (show ofS ((((isN x)) != ((isN y)))) ((numQ x) * y.den) (x.den * (numQ y)) = x / y from (rdiv_a x y))) (hK.get m0)), hK.old⟩))
set_option maxRecDepth 100000 in
theorem rsign_q (v0 : Value) (x : Rat) (w : World) (h0 : RefR w v0 x)  :
    Calls Tryz.prog 39 #[v0] w fun e w' => e = .returned (.int .i64 (sgQ x)) ∧ Below w.heap.size w w' := by
  have h0_0 := h0; obtain ⟨p_h0, c_h0, q_h0, d_h0, rfl, h0_1, h0_2⟩ := h0.slr
  have hK : KS w [fun w => RefR w (.agg #[.bool (isN x), .slice p_h0 (digs B6 (numQ x)).length c_h0, .slice q_h0 (digs B6 (den0 x)).length d_h0]) x, fun w => RefV w (.slice p_h0 (digs B6 (numQ x)).length c_h0) (numQ x), fun w => RefV w (.slice q_h0 (digs B6 (den0 x)).length d_h0) (den0 x)] w := (KS.add (KS.add (KS.add (KS.start w) (fun w' hb => h0_2.below hb)) (fun w' hb => h0_1.below hb)) (fun w' hb => h0_0.below hb))
  obtain ⟨b0, hb0⟩ : ∃ b, RowKit.Hid (isN x = b) := ⟨_, hid rfl⟩
  rw [show isN x = b0 from hb0.out] at hK ⊢
  refine Calls.hide (fun Q0 hQ0 => ?_)
  go_enter Tryz.func39, Tryz.ntmps39
  go_upto_region 0 with (fail)
  refine wp_region_tx w hK ?_
  clear hK
  apply txA (.cells #[.bool b0, .slice p_h0 (digs B6 (numQ x)).length c_h0, .slice q_h0 (digs B6 (den0 x)).length d_h0] 36) (wants0 rfl)
  · intro w' hK; go_simp; rfl
  intro R1 q_R1
  clear q_R1
  simp only [mkOf, Act.put, pA, pB, pC]
  apply txF (wants0 rfl); (· intro w' hK; go_simp; (try go_bits); exact ⟨rfl, rfl⟩); simp only [Act.put, pA, pB, pC]
  refine txEnd (fun W2 hK => ?_)
  go_upto_region 1 with (fail)
  refine wp_region_tx w hK ?_
  clear hK
  apply txF (wants0 rfl); (· intro w' hK; go_simp; (try go_bits); exact ⟨rfl, rfl⟩); simp only [Act.put, pA, pB, pC]
  apply txF (wants0 rfl); (· intro w' hK; have k_R1 := (hK.get m0); have c_R1_1 := k_R1.at 1 rfl; go_simp; (try go_bits); exact ⟨rfl, rfl⟩); simp only [Act.put, pA, pB, pC]
  apply txF (wants0 rfl); (· intro w' hK; go_simp; (try go_bits); exact ⟨rfl, rfl⟩); simp only [Act.put, pA, pB, pC]
  obtain ⟨b1, hb1⟩ : ∃ b : Bool, RowKit.Hid (((((digs B6 (numQ x)).length : Int)) == 0) = b) := ⟨_, hid rfl⟩
  apply txB b1 (wants0 rfl); (· intro w' hK; go_simp; (try go_bits); exact ⟨by have q := hb1.out; subst q; first | rfl | simp, rfl⟩); simp only [Act.put, pA, pB, pC]
  apply txF (wants0 rfl); (· intro w' hK; go_simp; (try go_bits); exact ⟨rfl, rfl⟩); simp only [Act.put, pA, pB, pC]
  refine txEnd (fun W3 hK => ?_)
  cases b1
  · --
   go_upto_region 3 with (fail)
   refine wp_region_tx w hK ?_
   clear hK
   apply txF (wants0 rfl); (· intro w' hK; go_simp; (try go_bits); exact ⟨rfl, rfl⟩); simp only [Act.put, pA, pB, pC]
   apply txF (wants0 rfl); (· intro w' hK; have k_R1 := (hK.get m0); have c_R1_0 := k_R1.at 0 rfl; go_simp; (try go_bits); exact ⟨rfl, rfl⟩); simp only [Act.put, pA, pB, pC]
   apply txF (wants0 rfl); (· intro w' hK; go_simp; (try go_bits); exact ⟨rfl, rfl⟩); simp only [Act.put, pA, pB, pC]
   refine txEnd (fun W4 hK => ?_)
   cases b0
   · --
    go_wp2
    try go_ret
    show Q0 (.returned (.int .i64 1)) _
    exact (by obtain rfl := hQ0.out; exact ⟨(by rw [sgQ_n1 (len6_pos hb1.out) hb0.out]; rfl), hK.old⟩)
   · --
    go_wp2
    try go_ret
    show Q0 (.returned (.int .i64 (-1))) _
    exact (by obtain rfl := hQ0.out; exact ⟨(by rw [sgQ_n1 (len6_pos hb1.out) hb0.out]; rfl), hK.old⟩)
  · --
   go_wp2
   try go_ret
   show Q0 (.returned (.int .i64 0)) _
   exact (by obtain rfl := hQ0.out; exact ⟨(by rw [sgQ_n0 (len6_zero hb1.out)]), hK.old⟩)
set_option maxRecDepth 100000 in
theorem rcmp_q (v0 : Value) (v1 : Value) (x : Rat) (y : Rat) (w : World) (h0 : RefR w v0 x) (h1 : RefR w v1 y) {k : Nat} (hx : LmQ k x) (hy : LmQ k y) (hk : k ≤ 10000) :
    Calls Tryz.prog 38 #[v0, v1] w fun e w' => e = .returned (.int .i64 (sgQ (x - y))) ∧ Below w.heap.size w w' := by
  have h0_0 := h0; obtain ⟨p_h0, c_h0, q_h0, d_h0, rfl, h0_1, h0_2⟩ := h0.slr
  have h1_0 := h1; obtain ⟨p_h1, c_h1, q_h1, d_h1, rfl, h1_1, h1_2⟩ := h1.slr
  have hK : KS w [fun w => RefR w (.agg #[.bool (isN y), .slice p_h1 (digs B6 (numQ y)).length c_h1, .slice q_h1 (digs B6 (den0 y)).length d_h1]) y, fun w => RefV w (.slice p_h1 (digs B6 (numQ y)).length c_h1) (numQ y), fun w => RefV w (.slice q_h1 (digs B6 (den0 y)).length d_h1) (den0 y), fun w => RefR w (.agg #[.bool (isN x), .slice p_h0 (digs B6 (numQ x)).length c_h0, .slice q_h0 (digs B6 (den0 x)).length d_h0]) x, fun w => RefV w (.slice p_h0 (digs B6 (numQ x)).length c_h0) (numQ x), fun w => RefV w (.slice q_h0 (digs B6 (den0 x)).length d_h0) (den0 x)] w := (KS.add (KS.add (KS.add (KS.add (KS.add (KS.add (KS.start w) (fun w' hb => h0_2.below hb)) (fun w' hb => h0_1.below hb)) (fun w' hb => h0_0.below hb)) (fun w' hb => h1_2.below hb)) (fun w' hb => h1_1.below hb)) (fun w' hb => h1_0.below hb))
  refine Calls.hide (fun Q0 hQ0 => ?_)
  go_enter Tryz.func38, Tryz.ntmps38
  go_upto_region 0 with (fail)
  refine wp_region_tx w hK ?_
  clear hK
  apply txA (.cells #[.bool (isN x), .slice p_h0 (digs B6 (numQ x)).length c_h0, .slice q_h0 (digs B6 (den0 x)).length d_h0] 36) (wants0 rfl)
  · intro w' hK; go_simp; rfl
  intro R1 q_R1
  clear q_R1
  simp only [mkOf, Act.put, pA, pB, pC]
  apply txA (.cells #[.bool (isN y), .slice p_h1 (digs B6 (numQ y)).length c_h1, .slice q_h1 (digs B6 (den0 y)).length d_h1] 36) (wants0 rfl)
  · intro w' hK; go_simp; rfl
  intro R2 q_R2
  have o_R1_R2 : R1 < R2 := q_R2 _ _ _ m0
  clear q_R2
  simp only [mkOf, Act.put, pA, pB, pC]
  apply txF (wants0 rfl); (· intro w' hK; go_simp; (try go_bits); exact ⟨rfl, rfl⟩); simp only [Act.put, pA, pB, pC]
  refine txEnd (fun W3 hK => ?_)
  go_upto_region 1 with (fail)
  refine wp_region_tx w hK ?_
  clear hK
  apply txF (wants0 rfl); (· intro w' hK; have k_R1 := (hK.get m1); have ⟨c_R1_0, c_R1_1, c_R1_2⟩ := k_R1.c3; go_simp; (try go_bits); exact ⟨rfl, rfl⟩); simp only [Act.put, pA, pB, pC]
  apply txF (wants0 rfl); (· intro w' hK; have k_R2 := (hK.get m0); have ⟨c_R2_0, c_R2_1, c_R2_2⟩ := k_R2.c3; go_simp; (try go_bits); exact ⟨rfl, rfl⟩); simp only [Act.put, pA, pB, pC]
  apply txE (α := Duo Sl Sl) (fun sv => .agg #[.bool (isN (x - y)), .slice sv.a.p (digs B6 (numQ (x - y))).length sv.a.c, .slice sv.b.p (digs B6 (den0 (x - y))).length sv.b.c]) (fun sv => [fun w => RefR w (.agg #[.bool (isN (x - y)), .slice sv.a.p (digs B6 (numQ (x - y))).length sv.a.c, .slice sv.b.p (digs B6 (den0 (x - y))).length sv.b.c]) (x - y), fun w => RefV w (.slice sv.a.p (digs B6 (numQ (x - y))).length sv.a.c) (numQ (x - y)), fun w => RefV w (.slice sv.b.p (digs B6 (den0 (x - y))).length sv.b.c) (den0 (x - y))]) (wants0 rfl)
  · intro f1 l1 hl1 w' hK; go_simp; (try go_bits); refine (rsub_q (.agg #[.bool (isN x), .slice p_h0 (digs B6 (numQ x)).length c_h0, .slice q_h0 (digs B6 (den0 x)).length d_h0]) (.agg #[.bool (isN y), .slice p_h1 (digs B6 (numQ y)).length c_h1, .slice q_h1 (digs B6 (den0 y)).length d_h1]) x y w' (hK.get m5) (hK.get m2) hx hy hk).mono ?_; rintro e w5 ⟨y0, rfl, u0, hb⟩; obtain ⟨rfl, rfl⟩ := hl1.out; have u0_0 := u0; obtain ⟨p_u0, c_u0, q_u0, d_u0, rfl, u0_1, u0_2⟩ := u0.slr; exact ⟨_, rfl, (⟨⟨p_u0, 0, c_u0⟩, ⟨q_u0, 0, d_u0⟩⟩ : Duo Sl Sl), rfl, hb, .cons (fun w2 h2 => u0_0.below h2) (.cons (fun w2 h2 => u0_1.below h2) (.cons (fun w2 h2 => u0_2.below h2) (Lasts.nil _)))⟩
  intro sv4
  simp only [Act.put, pA, pB, pC, pD, pE]
  obtain ⟨z1, hz1⟩ : ∃ b : Int, RowKit.Hid ((sgQ (x - y)) = b) := ⟨_, hid rfl⟩
  apply txH (v := .int .i64 z1) (wants0 rfl)
  · intro v1 hv1 w' hK; go_simp; (try go_bits); refine (rsign_q (.agg #[.bool (isN (x - y)), .slice sv4.a.p (digs B6 (numQ (x - y))).length sv4.a.c, .slice sv4.b.p (digs B6 (den0 (x - y))).length sv4.b.c]) (x - y) w' (hK.get m0) ).mono ?_; rintro e w5 ⟨rfl, hb⟩; obtain rfl := hv1.out; exact ⟨_, rfl, (by rw [hz1.out]), hb⟩
  simp only [Act.put, pA, pB, pC]
  apply txF (wants0 rfl); (· intro w' hK; go_simp; (try go_bits); exact ⟨rfl, rfl⟩); simp only [Act.put, pA, pB, pC]
  refine txEnd (fun W5 hK => ?_)
  go_wp2
  try go_ret
  show Q0 (.returned (.int .i64 z1)) _
  exact (by obtain rfl := hQ0.out; exact ⟨(by rw [hz1.out]), hK.old⟩)
set_option maxRecDepth 100000 in
theorem rfloor_q (v0 : Value) (x : Rat) (w : World) (h0 : RefR w v0 x) {k : Nat} (hx : LmQ k x) (hk : k ≤ 10000) :
    Calls Tryz.prog 45 #[v0] w fun e w' => ∃ y0, e = .returned y0 ∧ RefR w' y0 (floorQ x) ∧ Below w.heap.size w w' := by
  have h0_0 := h0; obtain ⟨p_h0, c_h0, q_h0, d_h0, rfl, h0_1, h0_2⟩ := h0.slr
  have hK : KS w [fun w => RefR w (.agg #[.bool (isN x), .slice p_h0 (digs B6 (numQ x)).length c_h0, .slice q_h0 (digs B6 (den0 x)).length d_h0]) x, fun w => RefV w (.slice p_h0 (digs B6 (numQ x)).length c_h0) (numQ x), fun w => RefV w (.slice q_h0 (digs B6 (den0 x)).length d_h0) (den0 x)] w := (KS.add (KS.add (KS.add (KS.start w) (fun w' hb => h0_2.below hb)) (fun w' hb => h0_1.below hb)) (fun w' hb => h0_0.below hb))
  obtain ⟨b0, hb0⟩ : ∃ b, RowKit.Hid (isN x = b) := ⟨_, hid rfl⟩
  rw [show isN x = b0 from hb0.out] at hK ⊢
  have e1 : (digs B6 (numQ x)).length ≤ 50000 := d6_of hx.n (by omega)
  have e2 := d6_of hx.d (by omega)
  have e3 : (digs B6 (numQ x / x.den)).length ≤ 50000 := digs6_mono (Nat.div_le_self _ _) e1
  have e5 : (digs B6 (numQ x / x.den + 1)).length ≤ 50000 := d6_of ((hx.n.le (Nat.div_le_self x.num.natAbs x.den)).add (Lm.one)) (by omega)
  have e4 : (digs B6 1).length ≤ 1 := by rw [digs6_1]; exact Nat.le_refl _
  refine Calls.hide (fun Q0 hQ0 => ?_)
  go_enter Tryz.func45, Tryz.ntmps45
  go_upto_region 0 with (fail)
  refine wp_region_tx w hK ?_
  clear hK
  apply txA (.cells #[.bool b0, .slice p_h0 (digs B6 (numQ x)).length c_h0, .slice q_h0 (digs B6 (den0 x)).length d_h0] 36) (wants0 rfl)
  · intro w' hK; go_simp; rfl
  intro R1 q_R1
  clear q_R1
  simp only [mkOf, Act.put, pA, pB, pC]
  apply txA (.cells #[.bool false, .slice none 0 0, .slice none 0 0] 36) (wants0 rfl)
  · intro w' hK; go_simp; rfl
  intro R2 q_R2
  have o_R1_R2 : R1 < R2 := q_R2 _ _ _ m0
  clear q_R2
  simp only [mkOf, Act.put, pA, pB, pC]
  refine txEnd (fun W3 hK => ?_)
  go_upto_region 1 with (fail)
  have hK0 := hK
  refine wp_region_float0 (w) _ _ [0, 0, 0, 2, 2, 0, 0, 0, 0, 0, 0, 0] (by kernel_rfl) (by kernel_rfl) (by kernel_rfl) (by kernel_rfl) (KS.drew hK0) (KS.drew hK) ?_
  clear hK hK0
  apply lxF0 (wants0 rfl); (· intro w' h0; go_simp; (try go_bits); exact ⟨rfl, rfl⟩); simp only [Act.put, pA, pB, pC]
  apply lxF0 (wants0 rfl); (· intro w' h0; have k_R1 := (h0.get m1); have c_R1_1 := k_R1.at 1 rfl; go_simp; (try go_bits); exact ⟨rfl, rfl⟩); simp only [Act.put, pA, pB, pC]
  apply lxF0 (wants0 rfl); (· intro w' h0; have k_R1 := (h0.get m1); have ⟨c_R1_0, c_R1_1, c_R1_2⟩ := k_R1.c3; go_simp; (try go_bits); exact ⟨rfl, rfl⟩); simp only [Act.put, pA, pB, pC]
  apply lxE1 (α := Sl) (fun sv => .slice sv.p (digs B6 x.den).length sv.c) (fun sv => [fun w => RefV w (.slice sv.p (digs B6 x.den).length sv.c) x.den]) (wants0 rfl)
  · intro f1 l1 hl1 w' h0 hK; go_simp; (try go_bits); refine (rone_q (.agg #[.bool b0, .slice p_h0 (digs B6 (numQ x)).length c_h0, .slice q_h0 (digs B6 (den0 x)).length d_h0]) x w' (hK.get m2) ).mono ?_; rintro e w5 ⟨y0, rfl, u0, hb⟩; obtain ⟨rfl, rfl⟩ := hl1.out; obtain ⟨p_u0, c_u0, rfl⟩ := u0.slr; exact ⟨_, rfl, (⟨p_u0, 0, c_u0⟩ : Sl), rfl, hb, .cons (fun w2 h2 => u0.below h2) (Lasts.nil _)⟩
  intro sv4
  simp only [Act.put, pA, pB, pC, pD, pE]
  obtain ⟨z1, hz1⟩ : ∃ b : Int, RowKit.Hid ((errD x.den) = b) := ⟨_, hid rfl⟩
  apply lxE1 (α := Duo (Sl) (Sl)) (fun sv => .tuple #[.slice sv.a.p (digs B6 ((numQ x) / x.den)).length sv.a.c, .slice sv.b.p (digs B6 (rem0 (numQ x) x.den)).length sv.b.c, .int .i64 z1]) (fun sv => [fun w => RefV w (.slice sv.a.p (digs B6 ((numQ x) / x.den)).length sv.a.c) ((numQ x) / x.den), fun w => RefV w (.slice sv.b.p (digs B6 (rem0 (numQ x) x.den)).length sv.b.c) (rem0 (numQ x) x.den)]) (wants0 rfl)
  · intro f1 l1 hl1 w' h0 hK; go_simp; (try go_bits); refine (rdm_any (.slice p_h0 (digs B6 (numQ x)).length c_h0) (.slice sv4.p (digs B6 x.den).length sv4.c) (numQ x) x.den w' (hK.get m4) (hK.get m0) (by omega) (by omega)).mono ?_; rintro e w5 ⟨y0, y1, rfl, u0, u1, hb⟩; obtain ⟨rfl, rfl⟩ := hl1.out; obtain ⟨p_u0, c_u0, rfl⟩ := u0.slr; obtain ⟨p_u1, c_u1, rfl⟩ := u1.slr; exact ⟨_, rfl, (⟨(⟨p_u0, 0, c_u0⟩ : Sl), (⟨p_u1, 0, c_u1⟩ : Sl)⟩ : Duo (Sl) (Sl)), (by rw [hz1.out]), hb, .cons (fun w2 h2 => u0.below h2) (.cons (fun w2 h2 => u1.below h2) (Lasts.nil _))⟩
  intro sv5
  simp only [Act.put, pA, pB, pC, pD, pE]
  iterate 7 (apply lxF0 (wants0 rfl); (· intro w' h0; go_simp; (try go_bits); exact ⟨rfl, rfl⟩); simp only [Act.put, pA, pB, pC])
  refine lxEnd (fun W6 hK => ?_)
  go_upto_region 2 with (fail)
  refine wp_region_tx w hK ?_
  clear hK
  apply txF (wants0 rfl); (· intro w' hK; go_simp; (try go_bits); exact ⟨rfl, rfl⟩); simp only [Act.put, pA, pB, pC]
  apply txF (wants0 rfl); (· intro w' hK; have k_R1 := (hK.get m4); have c_R1_0 := k_R1.at 0 rfl; go_simp; (try go_bits); exact ⟨rfl, rfl⟩); simp only [Act.put, pA, pB, pC]
  apply txF (wants0 rfl); (· intro w' hK; go_simp; (try go_bits); exact ⟨rfl, rfl⟩); simp only [Act.put, pA, pB, pC]
  cases b0
  · --
   iterate 3 (apply txN (j := 2) (d := 17) (b := true) rfl rfl rfl rfl; simp only [Act.put, pA, pB, pC])
   apply txF (wants0 rfl); (· intro w' hK; go_simp; (try go_bits); exact ⟨rfl, rfl⟩); simp only [Act.put, pA, pB, pC]
   refine txEnd (fun W7 hK => ?_)
   go_upto_region 4 with (fail)
   have hK0 := hK.subl (sK (sK (sK (sC (sK (sK (sK (sK sZ))))))))
   refine wp_region_float0 (w) _ _ [0, 0, 0, 2, 2, 4] (by kernel_rfl) (by kernel_rfl) (by kernel_rfl) (by kernel_rfl) (KS.drew hK0) (KS.drew hK) ?_
   clear hK hK0
   apply lxF0 (wants0 rfl); (· intro w' h0; go_simp; (try go_bits); exact ⟨rfl, rfl⟩); simp only [Act.put, pA, pB, pC]
   apply lxF0 (wants0 rfl); (· intro w' h0; have k_R1 := (h0.get m3); have c_R1_0 := k_R1.at 0 rfl; go_simp; (try go_bits); exact ⟨rfl, rfl⟩); simp only [Act.put, pA, pB, pC]
   apply lxF0 (wants0 rfl); (· intro w' h0; go_simp; (try go_bits); exact ⟨rfl, rfl⟩); simp only [Act.put, pA, pB, pC]
   apply lxE1 (α := Sl) (fun sv => .slice sv.p (digs B6 1).length sv.c) (fun sv => [fun w => RefV w (.slice sv.p (digs B6 1).length sv.c) 1]) (wants0 rfl)
   · intro f1 l1 hl1 w' h0 hK; go_simp; (try go_bits); refine (rof_any  1 w'  (by omega)).mono ?_; rintro e w5 ⟨y0, rfl, u0, hb⟩; obtain ⟨rfl, rfl⟩ := hl1.out; obtain ⟨p_u0, c_u0, rfl⟩ := u0.slr; exact ⟨_, rfl, (⟨p_u0, 0, c_u0⟩ : Sl), rfl, hb, .cons (fun w2 h2 => u0.below h2) (Lasts.nil _)⟩
   intro sv8
   simp only [Act.put, pA, pB, pC, pD, pE]
   apply lxE1 (α := Duo Sl Sl) (fun sv => .agg #[.bool (isN (ofS false ((numQ x) / x.den) 1)), .slice sv.a.p (digs B6 (numQ (ofS false ((numQ x) / x.den) 1))).length sv.a.c, .slice sv.b.p (digs B6 (den0 (ofS false ((numQ x) / x.den) 1))).length sv.b.c]) (fun sv => [fun w => RefR w (.agg #[.bool (isN (ofS false ((numQ x) / x.den) 1)), .slice sv.a.p (digs B6 (numQ (ofS false ((numQ x) / x.den) 1))).length sv.a.c, .slice sv.b.p (digs B6 (den0 (ofS false ((numQ x) / x.den) 1))).length sv.b.c]) (ofS false ((numQ x) / x.den) 1), fun w => RefV w (.slice sv.a.p (digs B6 (numQ (ofS false ((numQ x) / x.den) 1))).length sv.a.c) (numQ (ofS false ((numQ x) / x.den) 1)), fun w => RefV w (.slice sv.b.p (digs B6 (den0 (ofS false ((numQ x) / x.den) 1))).length sv.b.c) (den0 (ofS false ((numQ x) / x.den) 1))]) (wants0 rfl)
   · intro f1 l1 hl1 w' h0 hK; go_simp; (try go_bits); refine (rmade_q (.slice sv5.a.p (digs B6 ((numQ x) / x.den)).length sv5.a.c) (.slice sv8.p (digs B6 1).length sv8.c) false ((numQ x) / x.den) 1 w' (hK.get m1) (hK.get m0) (by omega) (by omega)).mono ?_; rintro e w5 ⟨y0, rfl, u0, hb⟩; obtain ⟨rfl, rfl⟩ := hl1.out; have u0_0 := u0; obtain ⟨p_u0, c_u0, q_u0, d_u0, rfl, u0_1, u0_2⟩ := u0.slr; exact ⟨_, rfl, (⟨⟨p_u0, 0, c_u0⟩, ⟨q_u0, 0, d_u0⟩⟩ : Duo Sl Sl), rfl, hb, .cons (fun w2 h2 => u0_0.below h2) (.cons (fun w2 h2 => u0_1.below h2) (.cons (fun w2 h2 => u0_2.below h2) (Lasts.nil _)))⟩
   intro sv9
   simp only [Act.put, pA, pB, pC, pD, pE]
   apply lxU1 7 (Has w.heap.size R2 (.cells #[.bool (isN (ofS false ((numQ x) / x.den) 1)), .slice sv9.a.p (digs B6 (numQ (ofS false ((numQ x) / x.den) 1))).length sv9.a.c, .slice sv9.b.p (digs B6 (den0 (ofS false ((numQ x) / x.den) 1))).length sv9.b.c] 36)) (wants0 rfl)
   · intro g0 l1 hl1 w' h0 hK; have k_R2 := (hK.get m7); have ⟨c_R2_0, c_R2_1, c_R2_2⟩ := k_R2.c3; have f_R2 := k_R2.fz; have ni := noInt_of k_R2 nofun; go_simp; obtain ⟨rfl, rfl⟩ := hl1.out; exact ⟨rfl, ks_put (R := R2) h0 k_R2.1 0 [.bool (isN (ofS false ((numQ x) / x.den) 1)), .slice sv9.a.p (digs B6 (numQ (ofS false ((numQ x) / x.den) 1))).length sv9.a.c, .slice sv9.b.p (digs B6 (den0 (ofS false ((numQ x) / x.den) 1))).length sv9.b.c] (al1 (spR ni (h0.get m0)) (al1 (spR ni (h0.get m1)) (al1 (spR ni (h0.get m2)) (al1 (spL o_R1_R2 (h0.get m3)) (al1 (spS ni (h0.get m4)) (al1 (spR ni (h0.get m5)) (al1 (spR ni (h0.get m6)) aN))))))), ks_put (R := R2) hK k_R2.1 0 [.bool (isN (ofS false ((numQ x) / x.den) 1)), .slice sv9.a.p (digs B6 (numQ (ofS false ((numQ x) / x.den) 1))).length sv9.a.c, .slice sv9.b.p (digs B6 (den0 (ofS false ((numQ x) / x.den) 1))).length sv9.b.c] (al1 (spS ni (hK.get m0)) (al1 (spR ni (hK.get m1)) (al1 (spR ni (hK.get m2)) (al1 (spR ni (hK.get m3)) (al1 (spR ni (hK.get m4)) (al1 (spR ni (hK.get m5)) (al1 (spR ni (hK.get m6)) (al1 (fun _ => has_put k_R2 _ _) (al1 (spL o_R1_R2 (hK.get m8)) (al1 (spS ni (hK.get m9)) (al1 (spR ni (hK.get m10)) (al1 (spR ni (hK.get m11)) aN))))))))))))⟩
   simp only [Act.put, pB, pC]
   refine lxEnd (fun W10 hK => ?_)
   have k_R2 := (hK.get m7); have ⟨c_R2_0, c_R2_1, c_R2_2⟩ := k_R2.c3
   go_wp2
   exact bodyPost_ret (v := .agg #[.bool (isN (ofS false ((numQ x) / x.den) 1)), .slice sv9.a.p (digs B6 (numQ (ofS false ((numQ x) / x.den) 1))).length sv9.a.c, .slice sv9.b.p (digs B6 (den0 (ofS false ((numQ x) / x.den) 1))).length sv9.b.c]) (by simp [results, Tryz.results45, go_sem, c_R2_0, c_R2_1, c_R2_2]) rfl ((by obtain rfl := hQ0.out; exact ⟨_, rfl, (Eq.mp (congrArg (RefR _ _) (show ofS false ((numQ x) / x.den) 1 = floorQ x from (rfl_f hb0.out))) (hK.get m0)), hK.old⟩))
  · --
   iterate 2 (apply txF (wantsg (j := 2) (d := 17) (b := true) rfl rfl rfl rfl); (· intro w' hK; go_simp; (try go_bits); exact ⟨rfl, rfl⟩); simp only [Act.put, pA, pB, pC])
   obtain ⟨b1, hb1⟩ : ∃ b : Bool, RowKit.Hid (decide (0 < (((digs B6 (rem0 (numQ x) x.den)).length : Int))) = b) := ⟨_, hid rfl⟩
   apply txB b1 (wantsg (j := 2) (d := 17) (b := true) rfl rfl rfl rfl); (· intro w' hK; go_simp; (try go_bits); exact ⟨by have q := hb1.out; subst q; first | rfl | simp, rfl⟩); simp only [Act.put, pA, pB, pC]
   apply txF (wants0 rfl); (· intro w' hK; go_simp; (try go_bits); exact ⟨rfl, rfl⟩); simp only [Act.put, pA, pB, pC]
   refine txEnd (fun W11 hK => ?_)
   cases b1
   · --
    go_upto_region 4 with (fail)
    have hK0 := hK.subl (sK (sK (sK (sC (sK (sK (sK (sK sZ))))))))
    refine wp_region_float0 (w) _ _ [0, 0, 0, 2, 2, 4] (by kernel_rfl) (by kernel_rfl) (by kernel_rfl) (by kernel_rfl) (KS.drew hK0) (KS.drew hK) ?_
    clear hK hK0
    apply lxF0 (wants0 rfl); (· intro w' h0; go_simp; (try go_bits); exact ⟨rfl, rfl⟩); simp only [Act.put, pA, pB, pC]
    apply lxF0 (wants0 rfl); (· intro w' h0; have k_R1 := (h0.get m3); have c_R1_0 := k_R1.at 0 rfl; go_simp; (try go_bits); exact ⟨rfl, rfl⟩); simp only [Act.put, pA, pB, pC]
    apply lxF0 (wants0 rfl); (· intro w' h0; go_simp; (try go_bits); exact ⟨rfl, rfl⟩); simp only [Act.put, pA, pB, pC]
    apply lxE1 (α := Sl) (fun sv => .slice sv.p (digs B6 1).length sv.c) (fun sv => [fun w => RefV w (.slice sv.p (digs B6 1).length sv.c) 1]) (wants0 rfl)
    · intro f1 l1 hl1 w' h0 hK; go_simp; (try go_bits); refine (rof_any  1 w'  (by omega)).mono ?_; rintro e w5 ⟨y0, rfl, u0, hb⟩; obtain ⟨rfl, rfl⟩ := hl1.out; obtain ⟨p_u0, c_u0, rfl⟩ := u0.slr; exact ⟨_, rfl, (⟨p_u0, 0, c_u0⟩ : Sl), rfl, hb, .cons (fun w2 h2 => u0.below h2) (Lasts.nil _)⟩
    intro sv12
    simp only [Act.put, pA, pB, pC, pD, pE]
    apply lxE1 (α := Duo Sl Sl) (fun sv => .agg #[.bool (isN (ofS true ((numQ x) / x.den) 1)), .slice sv.a.p (digs B6 (numQ (ofS true ((numQ x) / x.den) 1))).length sv.a.c, .slice sv.b.p (digs B6 (den0 (ofS true ((numQ x) / x.den) 1))).length sv.b.c]) (fun sv => [fun w => RefR w (.agg #[.bool (isN (ofS true ((numQ x) / x.den) 1)), .slice sv.a.p (digs B6 (numQ (ofS true ((numQ x) / x.den) 1))).length sv.a.c, .slice sv.b.p (digs B6 (den0 (ofS true ((numQ x) / x.den) 1))).length sv.b.c]) (ofS true ((numQ x) / x.den) 1), fun w => RefV w (.slice sv.a.p (digs B6 (numQ (ofS true ((numQ x) / x.den) 1))).length sv.a.c) (numQ (ofS true ((numQ x) / x.den) 1)), fun w => RefV w (.slice sv.b.p (digs B6 (den0 (ofS true ((numQ x) / x.den) 1))).length sv.b.c) (den0 (ofS true ((numQ x) / x.den) 1))]) (wants0 rfl)
    · intro f1 l1 hl1 w' h0 hK; go_simp; (try go_bits); refine (rmade_q (.slice sv5.a.p (digs B6 ((numQ x) / x.den)).length sv5.a.c) (.slice sv12.p (digs B6 1).length sv12.c) true ((numQ x) / x.den) 1 w' (hK.get m1) (hK.get m0) (by omega) (by omega)).mono ?_; rintro e w5 ⟨y0, rfl, u0, hb⟩; obtain ⟨rfl, rfl⟩ := hl1.out; have u0_0 := u0; obtain ⟨p_u0, c_u0, q_u0, d_u0, rfl, u0_1, u0_2⟩ := u0.slr; exact ⟨_, rfl, (⟨⟨p_u0, 0, c_u0⟩, ⟨q_u0, 0, d_u0⟩⟩ : Duo Sl Sl), rfl, hb, .cons (fun w2 h2 => u0_0.below h2) (.cons (fun w2 h2 => u0_1.below h2) (.cons (fun w2 h2 => u0_2.below h2) (Lasts.nil _)))⟩
    intro sv13
    simp only [Act.put, pA, pB, pC, pD, pE]
    apply lxU1 7 (Has w.heap.size R2 (.cells #[.bool (isN (ofS true ((numQ x) / x.den) 1)), .slice sv13.a.p (digs B6 (numQ (ofS true ((numQ x) / x.den) 1))).length sv13.a.c, .slice sv13.b.p (digs B6 (den0 (ofS true ((numQ x) / x.den) 1))).length sv13.b.c] 36)) (wants0 rfl)
    · intro g0 l1 hl1 w' h0 hK; have k_R2 := (hK.get m7); have ⟨c_R2_0, c_R2_1, c_R2_2⟩ := k_R2.c3; have f_R2 := k_R2.fz; have ni := noInt_of k_R2 nofun; go_simp; obtain ⟨rfl, rfl⟩ := hl1.out; exact ⟨rfl, ks_put (R := R2) h0 k_R2.1 0 [.bool (isN (ofS true ((numQ x) / x.den) 1)), .slice sv13.a.p (digs B6 (numQ (ofS true ((numQ x) / x.den) 1))).length sv13.a.c, .slice sv13.b.p (digs B6 (den0 (ofS true ((numQ x) / x.den) 1))).length sv13.b.c] (al1 (spR ni (h0.get m0)) (al1 (spR ni (h0.get m1)) (al1 (spR ni (h0.get m2)) (al1 (spL o_R1_R2 (h0.get m3)) (al1 (spS ni (h0.get m4)) (al1 (spR ni (h0.get m5)) (al1 (spR ni (h0.get m6)) aN))))))), ks_put (R := R2) hK k_R2.1 0 [.bool (isN (ofS true ((numQ x) / x.den) 1)), .slice sv13.a.p (digs B6 (numQ (ofS true ((numQ x) / x.den) 1))).length sv13.a.c, .slice sv13.b.p (digs B6 (den0 (ofS true ((numQ x) / x.den) 1))).length sv13.b.c] (al1 (spS ni (hK.get m0)) (al1 (spR ni (hK.get m1)) (al1 (spR ni (hK.get m2)) (al1 (spR ni (hK.get m3)) (al1 (spR ni (hK.get m4)) (al1 (spR ni (hK.get m5)) (al1 (spR ni (hK.get m6)) (al1 (fun _ => has_put k_R2 _ _) (al1 (spL o_R1_R2 (hK.get m8)) (al1 (spS ni (hK.get m9)) (al1 (spR ni (hK.get m10)) (al1 (spR ni (hK.get m11)) aN))))))))))))⟩
    simp only [Act.put, pB, pC]
    refine lxEnd (fun W14 hK => ?_)
    have k_R2 := (hK.get m7); have ⟨c_R2_0, c_R2_1, c_R2_2⟩ := k_R2.c3
    go_wp2
    exact bodyPost_ret (v := .agg #[.bool (isN (ofS true ((numQ x) / x.den) 1)), .slice sv13.a.p (digs B6 (numQ (ofS true ((numQ x) / x.den) 1))).length sv13.a.c, .slice sv13.b.p (digs B6 (den0 (ofS true ((numQ x) / x.den) 1))).length sv13.b.c]) (by simp [results, Tryz.results45, go_sem, c_R2_0, c_R2_1, c_R2_2]) rfl ((by obtain rfl := hQ0.out; exact ⟨_, rfl, (Eq.mp (congrArg (RefR _ _) (show ofS true ((numQ x) / x.den) 1 = floorQ x from (rfl_tf hb0.out ((len6_lt hb1.out).2 rfl)))) (hK.get m0)), hK.old⟩))
   · --
    go_upto_region 3 with (fail)
    refine wp_region_tx w hK ?_
    clear hK
    apply txF (wants0 rfl); (· intro w' hK; go_simp; (try go_bits); exact ⟨rfl, rfl⟩); simp only [Act.put, pA, pB, pC]
    apply txE (α := Sl) (fun sv => .slice sv.p (digs B6 1).length sv.c) (fun sv => [fun w => RefV w (.slice sv.p (digs B6 1).length sv.c) 1]) (wants0 rfl)
    · intro f1 l1 hl1 w' hK; go_simp; (try go_bits); refine (rof_any  1 w'  (by omega)).mono ?_; rintro e w5 ⟨y0, rfl, u0, hb⟩; obtain ⟨rfl, rfl⟩ := hl1.out; obtain ⟨p_u0, c_u0, rfl⟩ := u0.slr; exact ⟨_, rfl, (⟨p_u0, 0, c_u0⟩ : Sl), rfl, hb, .cons (fun w2 h2 => u0.below h2) (Lasts.nil _)⟩
    intro sv15
    simp only [Act.put, pA, pB, pC, pD, pE]
    apply txE (α := Sl) (fun sv => .slice sv.p (digs B6 (((numQ x) / x.den) + 1)).length sv.c) (fun sv => [fun w => RefV w (.slice sv.p (digs B6 (((numQ x) / x.den) + 1)).length sv.c) (((numQ x) / x.den) + 1)]) (wants0 rfl)
    · intro f1 l1 hl1 w' hK; go_simp; (try go_bits); refine (radd_any (.slice sv5.a.p (digs B6 ((numQ x) / x.den)).length sv5.a.c) (.slice sv15.p (digs B6 1).length sv15.c) ((numQ x) / x.den) 1 w' (hK.get m1) (hK.get m0) (by omega) (by omega)).mono ?_; rintro e w5 ⟨y0, rfl, u0, hb⟩; obtain ⟨rfl, rfl⟩ := hl1.out; obtain ⟨p_u0, c_u0, rfl⟩ := u0.slr; exact ⟨_, rfl, (⟨p_u0, 0, c_u0⟩ : Sl), rfl, hb, .cons (fun w2 h2 => u0.below h2) (Lasts.nil _)⟩
    intro sv16
    simp only [Act.put, pA, pB, pC, pD, pE]
    apply txF (wants0 rfl); (· intro w' hK; go_simp; (try go_bits); exact ⟨rfl, rfl⟩); simp only [Act.put, pA, pB, pC]
    refine txEnd (fun W17 hK => ?_)
    go_upto_region 4 with (fail)
    have hK0 := hK.subl (sK (sK (sK (sK (sK (sC (sK (sK (sK (sK sZ))))))))))
    refine wp_region_float0 (w) _ _ [0, 0, 0, 2, 2, 4] (by kernel_rfl) (by kernel_rfl) (by kernel_rfl) (by kernel_rfl) (KS.drew hK0) (KS.drew hK) ?_
    clear hK hK0
    apply lxF0 (wants0 rfl); (· intro w' h0; go_simp; (try go_bits); exact ⟨rfl, rfl⟩); simp only [Act.put, pA, pB, pC]
    apply lxF0 (wants0 rfl); (· intro w' h0; have k_R1 := (h0.get m5); have c_R1_0 := k_R1.at 0 rfl; go_simp; (try go_bits); exact ⟨rfl, rfl⟩); simp only [Act.put, pA, pB, pC]
    apply lxF0 (wants0 rfl); (· intro w' h0; go_simp; (try go_bits); exact ⟨rfl, rfl⟩); simp only [Act.put, pA, pB, pC]
    apply lxE1 (α := Sl) (fun sv => .slice sv.p (digs B6 1).length sv.c) (fun sv => [fun w => RefV w (.slice sv.p (digs B6 1).length sv.c) 1]) (wants0 rfl)
    · intro f1 l1 hl1 w' h0 hK; go_simp; (try go_bits); refine (rof_any  1 w'  (by omega)).mono ?_; rintro e w5 ⟨y0, rfl, u0, hb⟩; obtain ⟨rfl, rfl⟩ := hl1.out; obtain ⟨p_u0, c_u0, rfl⟩ := u0.slr; exact ⟨_, rfl, (⟨p_u0, 0, c_u0⟩ : Sl), rfl, hb, .cons (fun w2 h2 => u0.below h2) (Lasts.nil _)⟩
    intro sv18
    simp only [Act.put, pA, pB, pC, pD, pE]
    apply lxE1 (α := Duo Sl Sl) (fun sv => .agg #[.bool (isN (ofS true (((numQ x) / x.den) + 1) 1)), .slice sv.a.p (digs B6 (numQ (ofS true (((numQ x) / x.den) + 1) 1))).length sv.a.c, .slice sv.b.p (digs B6 (den0 (ofS true (((numQ x) / x.den) + 1) 1))).length sv.b.c]) (fun sv => [fun w => RefR w (.agg #[.bool (isN (ofS true (((numQ x) / x.den) + 1) 1)), .slice sv.a.p (digs B6 (numQ (ofS true (((numQ x) / x.den) + 1) 1))).length sv.a.c, .slice sv.b.p (digs B6 (den0 (ofS true (((numQ x) / x.den) + 1) 1))).length sv.b.c]) (ofS true (((numQ x) / x.den) + 1) 1), fun w => RefV w (.slice sv.a.p (digs B6 (numQ (ofS true (((numQ x) / x.den) + 1) 1))).length sv.a.c) (numQ (ofS true (((numQ x) / x.den) + 1) 1)), fun w => RefV w (.slice sv.b.p (digs B6 (den0 (ofS true (((numQ x) / x.den) + 1) 1))).length sv.b.c) (den0 (ofS true (((numQ x) / x.den) + 1) 1))]) (wants0 rfl)
    · intro f1 l1 hl1 w' h0 hK; go_simp; (try go_bits); refine (rmade_q (.slice sv16.p (digs B6 (((numQ x) / x.den) + 1)).length sv16.c) (.slice sv18.p (digs B6 1).length sv18.c) true (((numQ x) / x.den) + 1) 1 w' (hK.get m1) (hK.get m0) (by omega) (by omega)).mono ?_; rintro e w5 ⟨y0, rfl, u0, hb⟩; obtain ⟨rfl, rfl⟩ := hl1.out; have u0_0 := u0; obtain ⟨p_u0, c_u0, q_u0, d_u0, rfl, u0_1, u0_2⟩ := u0.slr; exact ⟨_, rfl, (⟨⟨p_u0, 0, c_u0⟩, ⟨q_u0, 0, d_u0⟩⟩ : Duo Sl Sl), rfl, hb, .cons (fun w2 h2 => u0_0.below h2) (.cons (fun w2 h2 => u0_1.below h2) (.cons (fun w2 h2 => u0_2.below h2) (Lasts.nil _)))⟩
    intro sv19
    simp only [Act.put, pA, pB, pC, pD, pE]
    apply lxU1 9 (Has w.heap.size R2 (.cells #[.bool (isN (ofS true (((numQ x) / x.den) + 1) 1)), .slice sv19.a.p (digs B6 (numQ (ofS true (((numQ x) / x.den) + 1) 1))).length sv19.a.c, .slice sv19.b.p (digs B6 (den0 (ofS true (((numQ x) / x.den) + 1) 1))).length sv19.b.c] 36)) (wants0 rfl)
    · intro g0 l1 hl1 w' h0 hK; have k_R2 := (hK.get m9); have ⟨c_R2_0, c_R2_1, c_R2_2⟩ := k_R2.c3; have f_R2 := k_R2.fz; have ni := noInt_of k_R2 nofun; go_simp; obtain ⟨rfl, rfl⟩ := hl1.out; exact ⟨rfl, ks_put (R := R2) h0 k_R2.1 0 [.bool (isN (ofS true (((numQ x) / x.den) + 1) 1)), .slice sv19.a.p (digs B6 (numQ (ofS true (((numQ x) / x.den) + 1) 1))).length sv19.a.c, .slice sv19.b.p (digs B6 (den0 (ofS true (((numQ x) / x.den) + 1) 1))).length sv19.b.c] (al1 (spR ni (h0.get m0)) (al1 (spR ni (h0.get m1)) (al1 (spR ni (h0.get m2)) (al1 (spR ni (h0.get m3)) (al1 (spR ni (h0.get m4)) (al1 (spL o_R1_R2 (h0.get m5)) (al1 (spS ni (h0.get m6)) (al1 (spR ni (h0.get m7)) (al1 (spR ni (h0.get m8)) aN))))))))), ks_put (R := R2) hK k_R2.1 0 [.bool (isN (ofS true (((numQ x) / x.den) + 1) 1)), .slice sv19.a.p (digs B6 (numQ (ofS true (((numQ x) / x.den) + 1) 1))).length sv19.a.c, .slice sv19.b.p (digs B6 (den0 (ofS true (((numQ x) / x.den) + 1) 1))).length sv19.b.c] (al1 (spS ni (hK.get m0)) (al1 (spR ni (hK.get m1)) (al1 (spR ni (hK.get m2)) (al1 (spR ni (hK.get m3)) (al1 (spR ni (hK.get m4)) (al1 (spR ni (hK.get m5)) (al1 (spR ni (hK.get m6)) (al1 (spR ni (hK.get m7)) (al1 (spR ni (hK.get m8)) (al1 (fun _ => has_put k_R2 _ _) (al1 (spL o_R1_R2 (hK.get m10)) (al1 (spS ni (hK.get m11)) (al1 (spR ni (hK.get m12)) (al1 (spR ni (hK.get m13)) aN))))))))))))))⟩
    simp only [Act.put, pB, pC]
    refine lxEnd (fun W20 hK => ?_)
    have k_R2 := (hK.get m9); have ⟨c_R2_0, c_R2_1, c_R2_2⟩ := k_R2.c3
    go_wp2
    exact bodyPost_ret (v := .agg #[.bool (isN (ofS true (((numQ x) / x.den) + 1) 1)), .slice sv19.a.p (digs B6 (numQ (ofS true (((numQ x) / x.den) + 1) 1))).length sv19.a.c, .slice sv19.b.p (digs B6 (den0 (ofS true (((numQ x) / x.den) + 1) 1))).length sv19.b.c]) (by simp [results, Tryz.results45, go_sem, c_R2_0, c_R2_1, c_R2_2]) rfl ((by obtain rfl := hQ0.out; exact ⟨_, rfl, (Eq.mp (congrArg (RefR _ _) (show ofS true (((numQ x) / x.den) + 1) 1 = floorQ x from (rfl_tt hb0.out (fun e => by have := (len6_lt hb1.out).1 e; cases this)))) (hK.get m0)), hK.old⟩))
set_option maxRecDepth 100000 in
theorem rceil_q (v0 : Value) (x : Rat) (w : World) (h0 : RefR w v0 x) {k : Nat} (hx : LmQ k x) (hk : k ≤ 9000) :
    Calls Tryz.prog 47 #[v0] w fun e w' => ∃ y0, e = .returned y0 ∧ RefR w' y0 (-floorQ (-x)) ∧ Below w.heap.size w w' := by
  have h0_0 := h0; obtain ⟨p_h0, c_h0, q_h0, d_h0, rfl, h0_1, h0_2⟩ := h0.slr
  have hK : KS w [fun w => RefR w (.agg #[.bool (isN x), .slice p_h0 (digs B6 (numQ x)).length c_h0, .slice q_h0 (digs B6 (den0 x)).length d_h0]) x, fun w => RefV w (.slice p_h0 (digs B6 (numQ x)).length c_h0) (numQ x), fun w => RefV w (.slice q_h0 (digs B6 (den0 x)).length d_h0) (den0 x)] w := (KS.add (KS.add (KS.add (KS.start w) (fun w' hb => h0_2.below hb)) (fun w' hb => h0_1.below hb)) (fun w' hb => h0_0.below hb))
  refine Calls.hide (fun Q0 hQ0 => ?_)
  go_enter Tryz.func47, Tryz.ntmps47
  go_upto_region 0 with (fail)
  refine wp_region_tx w hK ?_
  clear hK
  apply txA (.cells #[.bool (isN x), .slice p_h0 (digs B6 (numQ x)).length c_h0, .slice q_h0 (digs B6 (den0 x)).length d_h0] 36) (wants0 rfl)
  · intro w' hK; go_simp; rfl
  intro R1 q_R1
  clear q_R1
  simp only [mkOf, Act.put, pA, pB, pC]
  apply txA (.cells #[.bool false, .slice none 0 0, .slice none 0 0] 36) (wants0 rfl)
  · intro w' hK; go_simp; rfl
  intro R2 q_R2
  have o_R1_R2 : R1 < R2 := q_R2 _ _ _ m0
  clear q_R2
  simp only [mkOf, Act.put, pA, pB, pC]
  refine txEnd (fun W3 hK => ?_)
  go_upto_region 1 with (fail)
  refine wp_region_tx w hK ?_
  clear hK
  apply txF (wants0 rfl); (· intro w' hK; have k_R1 := (hK.get m1); have ⟨c_R1_0, c_R1_1, c_R1_2⟩ := k_R1.c3; go_simp; (try go_bits); exact ⟨rfl, rfl⟩); simp only [Act.put, pA, pB, pC]
  apply txE (α := Duo Sl Sl) (fun sv => .agg #[.bool (isN (-x)), .slice sv.a.p (digs B6 (numQ (-x))).length sv.a.c, .slice sv.b.p (digs B6 (den0 (-x))).length sv.b.c]) (fun sv => [fun w => RefR w (.agg #[.bool (isN (-x)), .slice sv.a.p (digs B6 (numQ (-x))).length sv.a.c, .slice sv.b.p (digs B6 (den0 (-x))).length sv.b.c]) (-x), fun w => RefV w (.slice sv.a.p (digs B6 (numQ (-x))).length sv.a.c) (numQ (-x)), fun w => RefV w (.slice sv.b.p (digs B6 (den0 (-x))).length sv.b.c) (den0 (-x))]) (wants0 rfl)
  · intro f1 l1 hl1 w' hK; go_simp; (try go_bits); refine (rneg_q (.agg #[.bool (isN x), .slice p_h0 (digs B6 (numQ x)).length c_h0, .slice q_h0 (digs B6 (den0 x)).length d_h0]) x w' (hK.get m2) hx (by omega)).mono ?_; rintro e w5 ⟨y0, rfl, u0, hb⟩; obtain ⟨rfl, rfl⟩ := hl1.out; have u0_0 := u0; obtain ⟨p_u0, c_u0, q_u0, d_u0, rfl, u0_1, u0_2⟩ := u0.slr; exact ⟨_, rfl, (⟨⟨p_u0, 0, c_u0⟩, ⟨q_u0, 0, d_u0⟩⟩ : Duo Sl Sl), rfl, hb, .cons (fun w2 h2 => u0_0.below h2) (.cons (fun w2 h2 => u0_1.below h2) (.cons (fun w2 h2 => u0_2.below h2) (Lasts.nil _)))⟩
  intro sv4
  simp only [Act.put, pA, pB, pC, pD, pE]
  apply txE (α := Duo Sl Sl) (fun sv => .agg #[.bool (isN (floorQ (-x))), .slice sv.a.p (digs B6 (numQ (floorQ (-x)))).length sv.a.c, .slice sv.b.p (digs B6 (den0 (floorQ (-x)))).length sv.b.c]) (fun sv => [fun w => RefR w (.agg #[.bool (isN (floorQ (-x))), .slice sv.a.p (digs B6 (numQ (floorQ (-x)))).length sv.a.c, .slice sv.b.p (digs B6 (den0 (floorQ (-x)))).length sv.b.c]) (floorQ (-x)), fun w => RefV w (.slice sv.a.p (digs B6 (numQ (floorQ (-x)))).length sv.a.c) (numQ (floorQ (-x))), fun w => RefV w (.slice sv.b.p (digs B6 (den0 (floorQ (-x)))).length sv.b.c) (den0 (floorQ (-x)))]) (wants0 rfl)
  · intro f1 l1 hl1 w' hK; go_simp; (try go_bits); refine (rfloor_q (.agg #[.bool (isN (-x)), .slice sv4.a.p (digs B6 (numQ (-x))).length sv4.a.c, .slice sv4.b.p (digs B6 (den0 (-x))).length sv4.b.c]) (-x) w' (hK.get m0) hx.neg (by omega)).mono ?_; rintro e w5 ⟨y0, rfl, u0, hb⟩; obtain ⟨rfl, rfl⟩ := hl1.out; have u0_0 := u0; obtain ⟨p_u0, c_u0, q_u0, d_u0, rfl, u0_1, u0_2⟩ := u0.slr; exact ⟨_, rfl, (⟨⟨p_u0, 0, c_u0⟩, ⟨q_u0, 0, d_u0⟩⟩ : Duo Sl Sl), rfl, hb, .cons (fun w2 h2 => u0_0.below h2) (.cons (fun w2 h2 => u0_1.below h2) (.cons (fun w2 h2 => u0_2.below h2) (Lasts.nil _)))⟩
  intro sv5
  simp only [Act.put, pA, pB, pC, pD, pE]
  apply txE (α := Duo Sl Sl) (fun sv => .agg #[.bool (isN (-(floorQ (-x)))), .slice sv.a.p (digs B6 (numQ (-(floorQ (-x))))).length sv.a.c, .slice sv.b.p (digs B6 (den0 (-(floorQ (-x))))).length sv.b.c]) (fun sv => [fun w => RefR w (.agg #[.bool (isN (-(floorQ (-x)))), .slice sv.a.p (digs B6 (numQ (-(floorQ (-x))))).length sv.a.c, .slice sv.b.p (digs B6 (den0 (-(floorQ (-x))))).length sv.b.c]) (-(floorQ (-x))), fun w => RefV w (.slice sv.a.p (digs B6 (numQ (-(floorQ (-x))))).length sv.a.c) (numQ (-(floorQ (-x)))), fun w => RefV w (.slice sv.b.p (digs B6 (den0 (-(floorQ (-x))))).length sv.b.c) (den0 (-(floorQ (-x))))]) (wants0 rfl)
  · intro f1 l1 hl1 w' hK; go_simp; (try go_bits); refine (rneg_q (.agg #[.bool (isN (floorQ (-x))), .slice sv5.a.p (digs B6 (numQ (floorQ (-x)))).length sv5.a.c, .slice sv5.b.p (digs B6 (den0 (floorQ (-x)))).length sv5.b.c]) (floorQ (-x)) w' (hK.get m0) (hx.neg.floor) (by omega)).mono ?_; rintro e w5 ⟨y0, rfl, u0, hb⟩; obtain ⟨rfl, rfl⟩ := hl1.out; have u0_0 := u0; obtain ⟨p_u0, c_u0, q_u0, d_u0, rfl, u0_1, u0_2⟩ := u0.slr; exact ⟨_, rfl, (⟨⟨p_u0, 0, c_u0⟩, ⟨q_u0, 0, d_u0⟩⟩ : Duo Sl Sl), rfl, hb, .cons (fun w2 h2 => u0_0.below h2) (.cons (fun w2 h2 => u0_1.below h2) (.cons (fun w2 h2 => u0_2.below h2) (Lasts.nil _)))⟩
  intro sv6
  simp only [Act.put, pA, pB, pC, pD, pE]
  apply txU 9 (Has w.heap.size R2 (.cells #[.bool (isN (-(floorQ (-x)))), .slice sv6.a.p (digs B6 (numQ (-(floorQ (-x))))).length sv6.a.c, .slice sv6.b.p (digs B6 (den0 (-(floorQ (-x))))).length sv6.b.c] 36)) (wants0 rfl)
  · intro l1 hl1 w' hK; have k_R2 := (hK.get m9); have ⟨c_R2_0, c_R2_1, c_R2_2⟩ := k_R2.c3; have f_R2 := k_R2.fz; have ni := noInt_of k_R2 nofun; go_simp; obtain rfl := hl1.out; exact ⟨rfl, ks_put (R := R2) hK k_R2.1 0 [.bool (isN (-(floorQ (-x)))), .slice sv6.a.p (digs B6 (numQ (-(floorQ (-x))))).length sv6.a.c, .slice sv6.b.p (digs B6 (den0 (-(floorQ (-x))))).length sv6.b.c] (al1 (spS ni (hK.get m0)) (al1 (spR ni (hK.get m1)) (al1 (spR ni (hK.get m2)) (al1 (spS ni (hK.get m3)) (al1 (spR ni (hK.get m4)) (al1 (spR ni (hK.get m5)) (al1 (spS ni (hK.get m6)) (al1 (spR ni (hK.get m7)) (al1 (spR ni (hK.get m8)) (al1 (fun _ => has_put k_R2 _ _) (al1 (spL o_R1_R2 (hK.get m10)) (al1 (spS ni (hK.get m11)) (al1 (spR ni (hK.get m12)) (al1 (spR ni (hK.get m13)) aN))))))))))))))⟩
  simp only [Act.put, pB, pC]
  refine txEnd (fun W7 hK => ?_)
  have k_R2 := (hK.get m9); have ⟨c_R2_0, c_R2_1, c_R2_2⟩ := k_R2.c3
  go_wp2
  exact bodyPost_ret (v := .agg #[.bool (isN (-(floorQ (-x)))), .slice sv6.a.p (digs B6 (numQ (-(floorQ (-x))))).length sv6.a.c, .slice sv6.b.p (digs B6 (den0 (-(floorQ (-x))))).length sv6.b.c]) (by simp [results, Tryz.results47, go_sem, c_R2_0, c_R2_1, c_R2_2]) rfl ((by obtain rfl := hQ0.out; exact ⟨_, rfl, (hK.get m0), hK.old⟩))
end Go.Proofs.YtiilkcdefpmimaaGreatDoor
