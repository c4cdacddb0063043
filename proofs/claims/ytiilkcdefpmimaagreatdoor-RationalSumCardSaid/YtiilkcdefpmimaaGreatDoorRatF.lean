/- Rational numbers of the reference. -/
import Derived.Test.YtiilkcdefpmimaaGreatDoorRatE
namespace Go.Proofs.YtiilkcdefpmimaaGreatDoor
open Go.RowKit
open Go.Lib (decDigits)
theorem d6_of {k n : Nat} (h : Lm k n) (hk : k ≤ 25000) : (digs B6 n).length ≤ 50000 := Nat.le_trans h.len6 (by omega)
theorem Lm.one : Lm 1 1 := by show _ < _; decide
theorem den_t {x : Rat} (h : (((digs B6 (den0 x)).length : Int) == 0) = true) : 1 = x.den := (( den0_zero x).1 (len6_zero h)).symm
theorem den_f {x : Rat} (h : (((digs B6 (den0 x)).length : Int) == 0) = false) : den0 x = x.den := by
  have := len6_pos h
  have h2 := one0_den0 x
  unfold one0 at h2
  rwa [if_neg this] at h2
set_option maxRecDepth 100000 in
theorem rone_q (v0 : Value) (x : Rat) (w : World) (h0 : RefR w v0 x)  :
    Calls Tryz.prog 75 #[v0] w fun e w' => ∃ y0, e = .returned y0 ∧ RefV w' y0 x.den ∧ Below w.heap.size w w' := by
  have h0_0 := h0; obtain ⟨p_h0, c_h0, q_h0, d_h0, rfl, h0_1, h0_2⟩ := h0.slr
  have hK : KS w [fun w => RefR w (.agg #[.bool (isN x), .slice p_h0 (digs B6 (numQ x)).length c_h0, .slice q_h0 (digs B6 (den0 x)).length d_h0]) x, fun w => RefV w (.slice p_h0 (digs B6 (numQ x)).length c_h0) (numQ x), fun w => RefV w (.slice q_h0 (digs B6 (den0 x)).length d_h0) (den0 x)] w := (KS.add (KS.add (KS.add (KS.start w) (fun w' hb => h0_2.below hb)) (fun w' hb => h0_1.below hb)) (fun w' hb => h0_0.below hb))
  refine Calls.hide (fun Q0 hQ0 => ?_)
  go_enter Tryz.func75, Tryz.ntmps75
  go_upto_region 0 with (fail)
  refine wp_region_tx w hK ?_
  clear hK
  apply txA (.cells #[.bool (isN x), .slice p_h0 (digs B6 (numQ x)).length c_h0, .slice q_h0 (digs B6 (den0 x)).length d_h0] 36) (wants0 rfl)
  · intro w' hK; go_simp; rfl
  intro R1 q_R1
  clear q_R1
  simp only [mkOf, Act.put, pA, pB, pC]
  apply txF (wants0 rfl); (· intro w' hK; go_simp; (try go_bits); exact ⟨rfl, rfl⟩); simp only [Act.put, pA, pB, pC]
  refine txEnd (fun W2 hK => ?_)
  go_upto_region 1 with (fail)
  refine wp_region_tx w hK ?_
  clear hK
  apply txF (wants0 rfl); (· intro w' hK; go_simp; (try go_bits); exact ⟨rfl, rfl⟩); simp only [Act.put, pA, pB, pC]
  apply txF (wants0 rfl); (· intro w' hK; have k_R1 := (hK.get m0); have c_R1_2 := k_R1.at 2 rfl; go_simp; (try go_bits); exact ⟨rfl, rfl⟩); simp only [Act.put, pA, pB, pC]
  apply txF (wants0 rfl); (· intro w' hK; go_simp; (try go_bits); exact ⟨rfl, rfl⟩); simp only [Act.put, pA, pB, pC]
  obtain ⟨b1, hb1⟩ : ∃ b : Bool, RowKit.Hid (((((digs B6 (den0 x)).length : Int)) == 0) = b) := ⟨_, hid rfl⟩
  apply txB b1 (wants0 rfl); (· intro w' hK; go_simp; (try go_bits); exact ⟨by have q := hb1.out; subst q; first | rfl | simp, rfl⟩); simp only [Act.put, pA, pB, pC]
  refine txEnd (fun W3 hK => ?_)
  cases b1
  · --
   go_upto_region 3 with (fail)
   refine wp_region_tx w hK ?_
   clear hK
   apply txF (wants0 rfl); (· intro w' hK; go_simp; (try go_bits); exact ⟨rfl, rfl⟩); simp only [Act.put, pA, pB, pC]
   apply txF (wants0 rfl); (· intro w' hK; have k_R1 := (hK.get m0); have c_R1_2 := k_R1.at 2 rfl; go_simp; (try go_bits); exact ⟨rfl, rfl⟩); simp only [Act.put, pA, pB, pC]
   apply txF (wants0 rfl); (· intro w' hK; go_simp; (try go_bits); exact ⟨rfl, rfl⟩); simp only [Act.put, pA, pB, pC]
   refine txEnd (fun W4 hK => ?_)
   go_wp2
   try go_ret
   show Q0 (.returned (.slice q_h0 (digs B6 (den0 x)).length d_h0)) _
   exact (by obtain rfl := hQ0.out; exact ⟨_, rfl, (Eq.mp (congrArg (RefV _ _) (show den0 x = x.den from (den_f hb1.out))) (hK.get m3)), hK.old⟩)
  · --
   go_upto_region 2 with (fail)
   refine wp_region_tx w hK ?_
   clear hK
   apply txE (α := Sl) (fun sv => .slice sv.p (digs B6 1).length sv.c) (fun sv => [fun w => RefV w (.slice sv.p (digs B6 1).length sv.c) 1]) (wants0 rfl)
   · intro f1 l1 hl1 w' hK; go_simp; (try go_bits); refine (rof_any  1 w'  (by omega)).mono ?_; rintro e w5 ⟨y0, rfl, u0, hb⟩; obtain ⟨rfl, rfl⟩ := hl1.out; obtain ⟨p_u0, c_u0, rfl⟩ := u0.slr; exact ⟨_, rfl, (⟨p_u0, 0, c_u0⟩ : Sl), rfl, hb, .cons (fun w2 h2 => u0.below h2) (Lasts.nil _)⟩
   intro sv5
   simp only [Act.put, pA, pB, pC, pD, pE]
   apply txF (wants0 rfl); (· intro w' hK; go_simp; (try go_bits); exact ⟨rfl, rfl⟩); simp only [Act.put, pA, pB, pC]
   refine txEnd (fun W6 hK => ?_)
   go_wp2
   try go_ret
   show Q0 (.returned (.slice sv5.p (digs B6 1).length sv5.c)) _
   exact (by obtain rfl := hQ0.out; exact ⟨_, rfl, (Eq.mp (congrArg (RefV _ _) (show 1 = x.den from (den_t hb1.out))) (hK.get m0)), hK.old⟩)
theorem digs6_1 : digs B6 1 = [1] := by
  rw [digs_pos b6_2 (by decide), Nat.mod_eq_of_lt (by decide), Nat.div_eq_of_lt (by decide), digs_zero]
theorem beq1_t {a : Nat} (h : ((a : Int) == 1) = true) : a = 1 := by
  have : (a : Int) = 1 := by simpa using h
  omega
theorem beq1_f {a : Nat} (h : ((a : Int) == 1) = false) : a ≠ 1 := fun e => by subst e; cases h
theorem gcd6_len {n d : Nat} (h1 : (digs B6 n).length ≤ 50000) (h2 : (digs B6 d).length ≤ 50000) : (digs B6 (Nat.gcd n d)).length ≤ 50000 := by
  rcases Nat.eq_zero_or_pos d with h | h
  · rw [h, Nat.gcd_zero_right]; exact h1
  · exact digs6_mono (Nat.le_of_dvd h (Nat.gcd_dvd_right n d)) h2
theorem make_b0 (s : Bool) {n d : Nat} (_hd : d ≠ 0) (h : n / Nat.gcd n d = 0) : false = (s && decide (n ≠ 0)) := by
  have : n = 0 := by
    rcases Nat.eq_zero_or_pos n with h1 | h1
    · exact h1
    · have := Nat.div_pos (Nat.le_of_dvd h1 (Nat.gcd_dvd_left n d)) (Nat.gcd_pos_of_pos_left d h1)
      omega
  simp [this]
theorem make_b1 (s : Bool) {n g : Nat} (h : n / g ≠ 0) : s = (s && decide (n ≠ 0)) := by
  have : n ≠ 0 := fun e => h (by rw [e]; simp)
  simp [this]
theorem ofS_00 (s : Bool) (n : Nat) : ofS s n 0 = 0 := ofS_d0 s n
set_option maxRecDepth 100000 in
theorem rmake_q (v1 : Value) (v2 : Value) (s : Bool) (n : Nat) (d : Nat) (w : World) (h1 : RefV w v1 n) (h2 : RefV w v2 d) (l1 : (digs B6 n).length ≤ 50000) (l2 : (digs B6 d).length ≤ 50000) :
    Calls Tryz.prog 56 #[.bool s, v1, v2] w fun e w' => ∃ y0, e = .returned (.tuple #[y0, .int .i64 (if d = 0 then 10 else 0)]) ∧ RefR w' y0 (ofS s n d) ∧ Below w.heap.size w w' := by
  obtain ⟨p_h1, c_h1, rfl⟩ := h1.slr
  obtain ⟨p_h2, c_h2, rfl⟩ := h2.slr
  have hK : KS w [fun w => RefV w (.slice p_h2 (digs B6 d).length c_h2) d, fun w => RefV w (.slice p_h1 (digs B6 n).length c_h1) n] w := (KS.add (KS.add (KS.start w) (fun w' hb => h1.below hb)) (fun w' hb => h2.below hb))
  have l3 : (digs B6 (Nat.gcd n d)).length ≤ 50000 := gcd6_len l1 l2
  refine Calls.hide (fun Q0 hQ0 => ?_)
  go_enter Tryz.func56, Tryz.ntmps56
  go_upto_region 0 with (fail)
  refine wp_region_tx w hK ?_
  clear hK
  apply txA (.cells #[.bool false, .slice none 0 0, .slice none 0 0] 36) (wants0 rfl)
  · intro w' hK; go_simp; rfl
  intro R1 q_R1
  clear q_R1
  simp only [mkOf, Act.put, pA, pB, pC]
  apply txF (wants0 rfl); (· intro w' hK; go_simp; (try go_bits); exact ⟨rfl, rfl⟩); simp only [Act.put, pA, pB, pC]
  refine txEnd (fun W2 hK => ?_)
  go_upto_region 1 with (fail)
  refine wp_region_tx w hK ?_
  clear hK
  iterate 2 (apply txF (wants0 rfl); (· intro w' hK; go_simp; (try go_bits); exact ⟨rfl, rfl⟩); simp only [Act.put, pA, pB, pC])
  obtain ⟨b1, hb1⟩ : ∃ b : Bool, RowKit.Hid (((((digs B6 d).length : Int)) == 0) = b) := ⟨_, hid rfl⟩
  apply txB b1 (wants0 rfl); (· intro w' hK; go_simp; (try go_bits); exact ⟨by have q := hb1.out; subst q; first | rfl | simp, rfl⟩); simp only [Act.put, pA, pB, pC]
  refine txEnd (fun W3 hK => ?_)
  cases b1
  · --
   go_upto_region 3 with (fail)
   refine wp_region_tx w hK ?_
   clear hK
   iterate 2 (apply txF (wants0 rfl); (· intro w' hK; go_simp; (try go_bits); exact ⟨rfl, rfl⟩); simp only [Act.put, pA, pB, pC])
   apply txE (α := Sl) (fun sv => .slice sv.p (digs B6 (Nat.gcd n d)).length sv.c) (fun sv => [fun w => RefV w (.slice sv.p (digs B6 (Nat.gcd n d)).length sv.c) (Nat.gcd n d)]) (wants0 rfl)
   · intro f1 l1 hl1 w' hK; go_simp; (try go_bits); refine (rgcd_any d n (.slice p_h1 (digs B6 n).length c_h1) (.slice p_h2 (digs B6 d).length c_h2) w' (hK.get m2) (hK.get m1) (by omega) (by omega)).mono ?_; rintro e w5 ⟨y0, rfl, u0, hb⟩; obtain ⟨rfl, rfl⟩ := hl1.out; obtain ⟨p_u0, c_u0, rfl⟩ := u0.slr; exact ⟨_, rfl, (⟨p_u0, 0, c_u0⟩ : Sl), rfl, hb, .cons (fun w2 h2 => u0.below h2) (Lasts.nil _)⟩
   intro sv4
   simp only [Act.put, pA, pB, pC, pD, pE]
   apply txF (wants0 rfl); (· intro w' hK; go_simp; (try go_bits); exact ⟨rfl, rfl⟩); simp only [Act.put, pA, pB, pC]
   refine txEnd (fun W5 hK => ?_)
   go_upto_region 4 with (fail)
   refine wp_region_tx w hK ?_
   clear hK
   iterate 2 (apply txF (wants0 rfl); (· intro w' hK; go_simp; (try go_bits); exact ⟨rfl, rfl⟩); simp only [Act.put, pA, pB, pC])
   obtain ⟨z1, hz1⟩ : ∃ b : Int, RowKit.Hid ((errD (Nat.gcd n d)) = b) := ⟨_, hid rfl⟩
   apply txE (α := Duo (Sl) (Sl)) (fun sv => .tuple #[.slice sv.a.p (digs B6 (n / (Nat.gcd n d))).length sv.a.c, .slice sv.b.p (digs B6 (rem0 n (Nat.gcd n d))).length sv.b.c, .int .i64 z1]) (fun sv => [fun w => RefV w (.slice sv.a.p (digs B6 (n / (Nat.gcd n d))).length sv.a.c) (n / (Nat.gcd n d)), fun w => RefV w (.slice sv.b.p (digs B6 (rem0 n (Nat.gcd n d))).length sv.b.c) (rem0 n (Nat.gcd n d))]) (wants0 rfl)
   · intro f1 l1 hl1 w' hK; go_simp; (try go_bits); refine (rdm_any (.slice p_h1 (digs B6 n).length c_h1) (.slice sv4.p (digs B6 (Nat.gcd n d)).length sv4.c) n (Nat.gcd n d) w' (hK.get m3) (hK.get m0) (by omega) (by omega)).mono ?_; rintro e w5 ⟨y0, y1, rfl, u0, u1, hb⟩; obtain ⟨rfl, rfl⟩ := hl1.out; obtain ⟨p_u0, c_u0, rfl⟩ := u0.slr; obtain ⟨p_u1, c_u1, rfl⟩ := u1.slr; exact ⟨_, rfl, (⟨(⟨p_u0, 0, c_u0⟩ : Sl), (⟨p_u1, 0, c_u1⟩ : Sl)⟩ : Duo (Sl) (Sl)), (by rw [hz1.out]), hb, .cons (fun w2 h2 => u0.below h2) (.cons (fun w2 h2 => u1.below h2) (Lasts.nil _))⟩
   intro sv6
   simp only [Act.put, pA, pB, pC, pD, pE]
   iterate 7 (apply txF (wants0 rfl); (· intro w' hK; go_simp; (try go_bits); exact ⟨rfl, rfl⟩); simp only [Act.put, pA, pB, pC])
   refine txEnd (fun W7 hK => ?_)
   go_upto_region 5 with (fail)
   refine wp_region_tx w hK ?_
   clear hK
   iterate 2 (apply txF (wants0 rfl); (· intro w' hK; go_simp; (try go_bits); exact ⟨rfl, rfl⟩); simp only [Act.put, pA, pB, pC])
   obtain ⟨z2, hz2⟩ : ∃ b : Int, RowKit.Hid ((errD (Nat.gcd n d)) = b) := ⟨_, hid rfl⟩
   apply txE (α := Duo (Sl) (Sl)) (fun sv => .tuple #[.slice sv.a.p (digs B6 (d / (Nat.gcd n d))).length sv.a.c, .slice sv.b.p (digs B6 (rem0 d (Nat.gcd n d))).length sv.b.c, .int .i64 z2]) (fun sv => [fun w => RefV w (.slice sv.a.p (digs B6 (d / (Nat.gcd n d))).length sv.a.c) (d / (Nat.gcd n d)), fun w => RefV w (.slice sv.b.p (digs B6 (rem0 d (Nat.gcd n d))).length sv.b.c) (rem0 d (Nat.gcd n d))]) (wants0 rfl)
   · intro f1 l1 hl1 w' hK; go_simp; (try go_bits); refine (rdm_any (.slice p_h2 (digs B6 d).length c_h2) (.slice sv4.p (digs B6 (Nat.gcd n d)).length sv4.c) d (Nat.gcd n d) w' (hK.get m4) (hK.get m2) (by omega) (by omega)).mono ?_; rintro e w5 ⟨y0, y1, rfl, u0, u1, hb⟩; obtain ⟨rfl, rfl⟩ := hl1.out; obtain ⟨p_u0, c_u0, rfl⟩ := u0.slr; obtain ⟨p_u1, c_u1, rfl⟩ := u1.slr; exact ⟨_, rfl, (⟨(⟨p_u0, 0, c_u0⟩ : Sl), (⟨p_u1, 0, c_u1⟩ : Sl)⟩ : Duo (Sl) (Sl)), (by rw [hz2.out]), hb, .cons (fun w2 h2 => u0.below h2) (.cons (fun w2 h2 => u1.below h2) (Lasts.nil _))⟩
   intro sv8
   simp only [Act.put, pA, pB, pC, pD, pE]
   iterate 7 (apply txF (wants0 rfl); (· intro w' hK; go_simp; (try go_bits); exact ⟨rfl, rfl⟩); simp only [Act.put, pA, pB, pC])
   refine txEnd (fun W9 hK => ?_)
   go_upto_region 6 with (fail)
   refine wp_region_tx w hK ?_
   clear hK
   iterate 2 (apply txF (wants0 rfl); (· intro w' hK; go_simp; (try go_bits); exact ⟨rfl, rfl⟩); simp only [Act.put, pA, pB, pC])
   obtain ⟨b2, hb2⟩ : ∃ b : Bool, RowKit.Hid (((((digs B6 (d / (Nat.gcd n d))).length : Int)) == 1) = b) := ⟨_, hid rfl⟩
   apply txB b2 (wants0 rfl); (· intro w' hK; go_simp; (try go_bits); exact ⟨by have q := hb2.out; subst q; first | rfl | simp, rfl⟩); simp only [Act.put, pA, pB, pC]
   apply txF (wants0 rfl); (· intro w' hK; go_simp; (try go_bits); exact ⟨rfl, rfl⟩); simp only [Act.put, pA, pB, pC]
   cases b2
   · --
    iterate 4 (apply txN (j := 3) (d := 39) (b := true) rfl rfl rfl rfl; simp only [Act.put, pA, pB, pC])
    apply txF (wants0 rfl); (· intro w' hK; go_simp; (try go_bits); exact ⟨rfl, rfl⟩); simp only [Act.put, pA, pB, pC]
    refine txEnd (fun W10 hK => ?_)
    go_upto_region 8 with (fail)
    refine wp_region_tx w hK ?_
    clear hK
    iterate 2 (apply txF (wants0 rfl); (· intro w' hK; go_simp; (try go_bits); exact ⟨rfl, rfl⟩); simp only [Act.put, pA, pB, pC])
    obtain ⟨b3, hb3⟩ : ∃ b : Bool, RowKit.Hid (((((digs B6 (n / (Nat.gcd n d))).length : Int)) == 0) = b) := ⟨_, hid rfl⟩
    apply txB b3 (wants0 rfl); (· intro w' hK; go_simp; (try go_bits); exact ⟨by have q := hb3.out; subst q; first | rfl | simp, rfl⟩); simp only [Act.put, pA, pB, pC]
    refine txEnd (fun W11 hK => ?_)
    cases b3
    · --
     go_upto_region 10 with (fail)
     refine wp_region_tx w hK ?_
     clear hK
     iterate 4 (apply txF (wants0 rfl); (· intro w' hK; go_simp; (try go_bits); exact ⟨rfl, rfl⟩); simp only [Act.put, pA, pB, pC])
     apply txU 5 (Has w.heap.size R1 (.cells #[.bool s, .slice sv6.a.p (digs B6 (n / (Nat.gcd n d))).length sv6.a.c, .slice sv8.a.p (digs B6 (d / (Nat.gcd n d))).length sv8.a.c] 36)) (wants0 rfl)
     · intro l1 hl1 w' hK; have k_R1 := (hK.get m5); have ⟨c_R1_0, c_R1_1, c_R1_2⟩ := k_R1.c3; have f_R1 := k_R1.fz; have ni := noInt_of k_R1 nofun; go_simp; obtain rfl := hl1.out; exact ⟨rfl, ks_put (R := R1) hK k_R1.1 0 [.bool s, .slice sv6.a.p (digs B6 (n / (Nat.gcd n d))).length sv6.a.c, .slice sv8.a.p (digs B6 (d / (Nat.gcd n d))).length sv8.a.c] (al1 (spR ni (hK.get m0)) (al1 (spR ni (hK.get m1)) (al1 (spR ni (hK.get m2)) (al1 (spR ni (hK.get m3)) (al1 (spR ni (hK.get m4)) (al1 (fun _ => has_put k_R1 _ _) (al1 (spR ni (hK.get m6)) (al1 (spR ni (hK.get m7)) aN))))))))⟩
     simp only [Act.put, pB, pC]
     apply txF (wants0 rfl); (· intro w' hK; go_simp; (try go_bits); exact ⟨rfl, rfl⟩); simp only [Act.put, pA, pB, pC]
     refine txEnd (fun W12 hK => ?_)
     have k_R1 := (hK.get m5); have ⟨c_R1_0, c_R1_1, c_R1_2⟩ := k_R1.c3
     have hd0 : d ≠ 0 := len6_pos hb1.out
     go_wp2
     exact bodyPost_ret (v := .tuple #[.agg #[.bool s, .slice sv6.a.p (digs B6 (n / (Nat.gcd n d))).length sv6.a.c, .slice sv8.a.p (digs B6 (d / (Nat.gcd n d))).length sv8.a.c], .int .i64 0]) (by simp [results, Tryz.results56, go_sem, c_R1_0, c_R1_1, c_R1_2]) rfl ((by obtain rfl := hQ0.out; exact ⟨.agg #[.bool s, .slice sv6.a.p (digs B6 (n / (Nat.gcd n d))).length sv6.a.c, .slice sv8.a.p (digs B6 (d / (Nat.gcd n d))).length sv8.a.c], (by rw [if_neg (len6_pos hb1.out)]), (RefR.make hd0 (make_b1 s (len6_pos hb3.out)) (rfl) ((if_neg (fun e => by have := hb2.out; rw [e, digs6_1] at this; cases this)).symm) (hK.get m2) (hK.get m0)), hK.old⟩))
    · --
     go_upto_region 10 with (fail)
     refine wp_region_tx w hK ?_
     clear hK
     iterate 4 (apply txF (wants0 rfl); (· intro w' hK; go_simp; (try go_bits); exact ⟨rfl, rfl⟩); simp only [Act.put, pA, pB, pC])
     apply txU 5 (Has w.heap.size R1 (.cells #[.bool false, .slice none 0 0, .slice sv8.a.p (digs B6 (d / (Nat.gcd n d))).length sv8.a.c] 36)) (wants0 rfl)
     · intro l1 hl1 w' hK; have k_R1 := (hK.get m5); have ⟨c_R1_0, c_R1_1, c_R1_2⟩ := k_R1.c3; have f_R1 := k_R1.fz; have ni := noInt_of k_R1 nofun; go_simp; obtain rfl := hl1.out; exact ⟨rfl, ks_put (R := R1) hK k_R1.1 0 [.bool false, .slice none 0 0, .slice sv8.a.p (digs B6 (d / (Nat.gcd n d))).length sv8.a.c] (al1 (spR ni (hK.get m0)) (al1 (spR ni (hK.get m1)) (al1 (spR ni (hK.get m2)) (al1 (spR ni (hK.get m3)) (al1 (spR ni (hK.get m4)) (al1 (fun _ => has_put k_R1 _ _) (al1 (spR ni (hK.get m6)) (al1 (spR ni (hK.get m7)) aN))))))))⟩
     simp only [Act.put, pB, pC]
     apply txF (wants0 rfl); (· intro w' hK; go_simp; (try go_bits); exact ⟨rfl, rfl⟩); simp only [Act.put, pA, pB, pC]
     refine txEnd (fun W13 hK => ?_)
     have k_R1 := (hK.get m5); have ⟨c_R1_0, c_R1_1, c_R1_2⟩ := k_R1.c3
     have hd0 : d ≠ 0 := len6_pos hb1.out
     go_wp2
     exact bodyPost_ret (v := .tuple #[.agg #[.bool false, .slice none 0 0, .slice sv8.a.p (digs B6 (d / (Nat.gcd n d))).length sv8.a.c], .int .i64 0]) (by simp [results, Tryz.results56, go_sem, c_R1_0, c_R1_1, c_R1_2]) rfl ((by obtain rfl := hQ0.out; exact ⟨.agg #[.bool false, .slice none 0 0, .slice sv8.a.p (digs B6 (d / (Nat.gcd n d))).length sv8.a.c], (by rw [if_neg (len6_pos hb1.out)]), (RefR.make hd0 (make_b0 s hd0 (len6_zero hb3.out)) ((len6_zero hb3.out).symm) ((if_neg (fun e => by have := hb2.out; rw [e, digs6_1] at this; cases this)).symm) (RefV.zero _) (hK.get m0)), hK.old⟩))
   · --
    apply txF (wantsg (j := 3) (d := 39) (b := true) rfl rfl rfl rfl); (· intro w' hK; go_simp; (try go_bits); exact ⟨rfl, rfl⟩); simp only [Act.put, pA, pB, pC]
    refine Tx.know (fun w hK => RefV.one (hK.get m0) hb2.out) (fun hh => ?_)
    obtain ⟨g1, hp1⟩ := hh
    replace hp1 := hid hp1
    apply txF (wantsg (j := 3) (d := 39) (b := true) rfl rfl rfl rfl); (· intro w' hK; have hl1 := digs6_one hb2.out; have hp2 := hp1.out; go_simp; (try go_bits); exact ⟨rfl, rfl⟩); simp only [Act.put, pA, pB, pC]
    apply txF (wantsg (j := 3) (d := 39) (b := true) rfl rfl rfl rfl); (· intro w' hK; have q1 := (hK.get m0); rw [hp1.out] at q1; have q2 := RefV.cell1 q1 hb2.out; go_simp; (try go_bits); exact ⟨rfl, rfl⟩); simp only [Act.put, pA, pB, pC]
    obtain ⟨b3, hb3⟩ : ∃ b : Bool, RowKit.Hid ((((((d / Nat.gcd n d : Nat)) : Int)) == 1) = b) := ⟨_, hid rfl⟩
    apply txB b3 (wantsg (j := 3) (d := 39) (b := true) rfl rfl rfl rfl); (· intro w' hK; go_simp; (try go_bits); exact ⟨by have q := hb3.out; subst q; first | rfl | simp, rfl⟩); simp only [Act.put, pA, pB, pC]
    apply txF (wants0 rfl); (· intro w' hK; go_simp; (try go_bits); exact ⟨rfl, rfl⟩); simp only [Act.put, pA, pB, pC]
    refine txEnd (fun W14 hK => ?_)
    cases b3
    · --
     go_upto_region 8 with (fail)
     refine wp_region_tx w hK ?_
     clear hK
     iterate 2 (apply txF (wants0 rfl); (· intro w' hK; go_simp; (try go_bits); exact ⟨rfl, rfl⟩); simp only [Act.put, pA, pB, pC])
     obtain ⟨b4, hb4⟩ : ∃ b : Bool, RowKit.Hid (((((digs B6 (n / (Nat.gcd n d))).length : Int)) == 0) = b) := ⟨_, hid rfl⟩
     apply txB b4 (wants0 rfl); (· intro w' hK; go_simp; (try go_bits); exact ⟨by have q := hb4.out; subst q; first | rfl | simp, rfl⟩); simp only [Act.put, pA, pB, pC]
     refine txEnd (fun W15 hK => ?_)
     cases b4
     · --
      go_upto_region 10 with (fail)
      refine wp_region_tx w hK ?_
      clear hK
      iterate 4 (apply txF (wants0 rfl); (· intro w' hK; go_simp; (try go_bits); exact ⟨rfl, rfl⟩); simp only [Act.put, pA, pB, pC])
      apply txU 5 (Has w.heap.size R1 (.cells #[.bool s, .slice sv6.a.p (digs B6 (n / (Nat.gcd n d))).length sv6.a.c, .slice sv8.a.p (digs B6 (d / (Nat.gcd n d))).length sv8.a.c] 36)) (wants0 rfl)
      · intro l1 hl1 w' hK; have k_R1 := (hK.get m5); have ⟨c_R1_0, c_R1_1, c_R1_2⟩ := k_R1.c3; have f_R1 := k_R1.fz; have ni := noInt_of k_R1 nofun; go_simp; obtain rfl := hl1.out; exact ⟨rfl, ks_put (R := R1) hK k_R1.1 0 [.bool s, .slice sv6.a.p (digs B6 (n / (Nat.gcd n d))).length sv6.a.c, .slice sv8.a.p (digs B6 (d / (Nat.gcd n d))).length sv8.a.c] (al1 (spR ni (hK.get m0)) (al1 (spR ni (hK.get m1)) (al1 (spR ni (hK.get m2)) (al1 (spR ni (hK.get m3)) (al1 (spR ni (hK.get m4)) (al1 (fun _ => has_put k_R1 _ _) (al1 (spR ni (hK.get m6)) (al1 (spR ni (hK.get m7)) aN))))))))⟩
      simp only [Act.put, pB, pC]
      apply txF (wants0 rfl); (· intro w' hK; go_simp; (try go_bits); exact ⟨rfl, rfl⟩); simp only [Act.put, pA, pB, pC]
      refine txEnd (fun W16 hK => ?_)
      have k_R1 := (hK.get m5); have ⟨c_R1_0, c_R1_1, c_R1_2⟩ := k_R1.c3
      have hd0 : d ≠ 0 := len6_pos hb1.out
      go_wp2
      exact bodyPost_ret (v := .tuple #[.agg #[.bool s, .slice sv6.a.p (digs B6 (n / (Nat.gcd n d))).length sv6.a.c, .slice sv8.a.p (digs B6 (d / (Nat.gcd n d))).length sv8.a.c], .int .i64 0]) (by simp [results, Tryz.results56, go_sem, c_R1_0, c_R1_1, c_R1_2]) rfl ((by obtain rfl := hQ0.out; exact ⟨.agg #[.bool s, .slice sv6.a.p (digs B6 (n / (Nat.gcd n d))).length sv6.a.c, .slice sv8.a.p (digs B6 (d / (Nat.gcd n d))).length sv8.a.c], (by rw [if_neg (len6_pos hb1.out)]), (RefR.make hd0 (make_b1 s (len6_pos hb4.out)) (rfl) ((if_neg (beq1_f hb3.out)).symm) (hK.get m2) (hK.get m0)), hK.old⟩))
     · --
      go_upto_region 10 with (fail)
      refine wp_region_tx w hK ?_
      clear hK
      iterate 4 (apply txF (wants0 rfl); (· intro w' hK; go_simp; (try go_bits); exact ⟨rfl, rfl⟩); simp only [Act.put, pA, pB, pC])
      apply txU 5 (Has w.heap.size R1 (.cells #[.bool false, .slice none 0 0, .slice sv8.a.p (digs B6 (d / (Nat.gcd n d))).length sv8.a.c] 36)) (wants0 rfl)
      · intro l1 hl1 w' hK; have k_R1 := (hK.get m5); have ⟨c_R1_0, c_R1_1, c_R1_2⟩ := k_R1.c3; have f_R1 := k_R1.fz; have ni := noInt_of k_R1 nofun; go_simp; obtain rfl := hl1.out; exact ⟨rfl, ks_put (R := R1) hK k_R1.1 0 [.bool false, .slice none 0 0, .slice sv8.a.p (digs B6 (d / (Nat.gcd n d))).length sv8.a.c] (al1 (spR ni (hK.get m0)) (al1 (spR ni (hK.get m1)) (al1 (spR ni (hK.get m2)) (al1 (spR ni (hK.get m3)) (al1 (spR ni (hK.get m4)) (al1 (fun _ => has_put k_R1 _ _) (al1 (spR ni (hK.get m6)) (al1 (spR ni (hK.get m7)) aN))))))))⟩
      simp only [Act.put, pB, pC]
      apply txF (wants0 rfl); (· intro w' hK; go_simp; (try go_bits); exact ⟨rfl, rfl⟩); simp only [Act.put, pA, pB, pC]
      refine txEnd (fun W17 hK => ?_)
      have k_R1 := (hK.get m5); have ⟨c_R1_0, c_R1_1, c_R1_2⟩ := k_R1.c3
      have hd0 : d ≠ 0 := len6_pos hb1.out
      go_wp2
      exact bodyPost_ret (v := .tuple #[.agg #[.bool false, .slice none 0 0, .slice sv8.a.p (digs B6 (d / (Nat.gcd n d))).length sv8.a.c], .int .i64 0]) (by simp [results, Tryz.results56, go_sem, c_R1_0, c_R1_1, c_R1_2]) rfl ((by obtain rfl := hQ0.out; exact ⟨.agg #[.bool false, .slice none 0 0, .slice sv8.a.p (digs B6 (d / (Nat.gcd n d))).length sv8.a.c], (by rw [if_neg (len6_pos hb1.out)]), (RefR.make hd0 (make_b0 s hd0 (len6_zero hb4.out)) ((len6_zero hb4.out).symm) ((if_neg (beq1_f hb3.out)).symm) (RefV.zero _) (hK.get m0)), hK.old⟩))
    · --
     go_upto_region 8 with (fail)
     refine wp_region_tx w hK ?_
     clear hK
     iterate 2 (apply txF (wants0 rfl); (· intro w' hK; go_simp; (try go_bits); exact ⟨rfl, rfl⟩); simp only [Act.put, pA, pB, pC])
     obtain ⟨b4, hb4⟩ : ∃ b : Bool, RowKit.Hid (((((digs B6 (n / (Nat.gcd n d))).length : Int)) == 0) = b) := ⟨_, hid rfl⟩
     apply txB b4 (wants0 rfl); (· intro w' hK; go_simp; (try go_bits); exact ⟨by have q := hb4.out; subst q; first | rfl | simp, rfl⟩); simp only [Act.put, pA, pB, pC]
     refine txEnd (fun W18 hK => ?_)
     cases b4
     · --
      go_upto_region 10 with (fail)
      refine wp_region_tx w hK ?_
      clear hK
      iterate 4 (apply txF (wants0 rfl); (· intro w' hK; go_simp; (try go_bits); exact ⟨rfl, rfl⟩); simp only [Act.put, pA, pB, pC])
      apply txU 5 (Has w.heap.size R1 (.cells #[.bool s, .slice sv6.a.p (digs B6 (n / (Nat.gcd n d))).length sv6.a.c, .slice none 0 0] 36)) (wants0 rfl)
      · intro l1 hl1 w' hK; have k_R1 := (hK.get m5); have ⟨c_R1_0, c_R1_1, c_R1_2⟩ := k_R1.c3; have f_R1 := k_R1.fz; have ni := noInt_of k_R1 nofun; go_simp; obtain rfl := hl1.out; exact ⟨rfl, ks_put (R := R1) hK k_R1.1 0 [.bool s, .slice sv6.a.p (digs B6 (n / (Nat.gcd n d))).length sv6.a.c, .slice none 0 0] (al1 (spR ni (hK.get m0)) (al1 (spR ni (hK.get m1)) (al1 (spR ni (hK.get m2)) (al1 (spR ni (hK.get m3)) (al1 (spR ni (hK.get m4)) (al1 (fun _ => has_put k_R1 _ _) (al1 (spR ni (hK.get m6)) (al1 (spR ni (hK.get m7)) aN))))))))⟩
      simp only [Act.put, pB, pC]
      apply txF (wants0 rfl); (· intro w' hK; go_simp; (try go_bits); exact ⟨rfl, rfl⟩); simp only [Act.put, pA, pB, pC]
      refine txEnd (fun W19 hK => ?_)
      have k_R1 := (hK.get m5); have ⟨c_R1_0, c_R1_1, c_R1_2⟩ := k_R1.c3
      have hd0 : d ≠ 0 := len6_pos hb1.out
      go_wp2
      exact bodyPost_ret (v := .tuple #[.agg #[.bool s, .slice sv6.a.p (digs B6 (n / (Nat.gcd n d))).length sv6.a.c, .slice none 0 0], .int .i64 0]) (by simp [results, Tryz.results56, go_sem, c_R1_0, c_R1_1, c_R1_2]) rfl ((by obtain rfl := hQ0.out; exact ⟨.agg #[.bool s, .slice sv6.a.p (digs B6 (n / (Nat.gcd n d))).length sv6.a.c, .slice none 0 0], (by rw [if_neg (len6_pos hb1.out)]), (RefR.make hd0 (make_b1 s (len6_pos hb4.out)) (rfl) ((if_pos (beq1_t hb3.out)).symm) (hK.get m2) (RefV.zero _)), hK.old⟩))
     · --
      go_upto_region 10 with (fail)
      refine wp_region_tx w hK ?_
      clear hK
      iterate 4 (apply txF (wants0 rfl); (· intro w' hK; go_simp; (try go_bits); exact ⟨rfl, rfl⟩); simp only [Act.put, pA, pB, pC])
      apply txU 5 (Has w.heap.size R1 (.cells #[.bool false, .slice none 0 0, .slice none 0 0] 36)) (wants0 rfl)
      · intro l1 hl1 w' hK; have k_R1 := (hK.get m5); have ⟨c_R1_0, c_R1_1, c_R1_2⟩ := k_R1.c3; have f_R1 := k_R1.fz; have ni := noInt_of k_R1 nofun; go_simp; obtain rfl := hl1.out; exact ⟨rfl, ks_put (R := R1) hK k_R1.1 0 [.bool false, .slice none 0 0, .slice none 0 0] (al1 (spR ni (hK.get m0)) (al1 (spR ni (hK.get m1)) (al1 (spR ni (hK.get m2)) (al1 (spR ni (hK.get m3)) (al1 (spR ni (hK.get m4)) (al1 (fun _ => has_put k_R1 _ _) (al1 (spR ni (hK.get m6)) (al1 (spR ni (hK.get m7)) aN))))))))⟩
      simp only [Act.put, pB, pC]
      apply txF (wants0 rfl); (· intro w' hK; go_simp; (try go_bits); exact ⟨rfl, rfl⟩); simp only [Act.put, pA, pB, pC]
      refine txEnd (fun W20 hK => ?_)
      have k_R1 := (hK.get m5); have ⟨c_R1_0, c_R1_1, c_R1_2⟩ := k_R1.c3
      have hd0 : d ≠ 0 := len6_pos hb1.out
      go_wp2
      exact bodyPost_ret (v := .tuple #[.agg #[.bool false, .slice none 0 0, .slice none 0 0], .int .i64 0]) (by simp [results, Tryz.results56, go_sem, c_R1_0, c_R1_1, c_R1_2]) rfl ((by obtain rfl := hQ0.out; exact ⟨.agg #[.bool false, .slice none 0 0, .slice none 0 0], (by rw [if_neg (len6_pos hb1.out)]), (RefR.make hd0 (make_b0 s hd0 (len6_zero hb4.out)) ((len6_zero hb4.out).symm) ((if_pos (beq1_t hb3.out)).symm) (RefV.zero _) (RefV.zero _)), hK.old⟩))
  · --
   go_upto_region 2 with (fail)
   refine wp_region_tx w hK ?_
   clear hK
   apply txF (wants0 rfl); (· intro w' hK; go_simp; (try go_bits); exact ⟨rfl, rfl⟩); simp only [Act.put, pA, pB, pC]
   apply txU 0 (Has w.heap.size R1 (.cells #[.bool false, .slice none 0 0, .slice none 0 0] 36)) (wants0 rfl)
   · intro l1 hl1 w' hK; have k_R1 := (hK.get m0); have ⟨c_R1_0, c_R1_1, c_R1_2⟩ := k_R1.c3; have f_R1 := k_R1.fz; have ni := noInt_of k_R1 nofun; go_simp; obtain rfl := hl1.out; exact ⟨rfl, ks_put (R := R1) hK k_R1.1 0 [.bool false, .slice none 0 0, .slice none 0 0] (al1 (fun _ => has_put k_R1 _ _) (al1 (spR ni (hK.get m1)) (al1 (spR ni (hK.get m2)) aN)))⟩
   simp only [Act.put, pB]
   apply txF (wants0 rfl); (· intro w' hK; go_simp; (try go_bits); exact ⟨rfl, rfl⟩); simp only [Act.put, pA, pB, pC]
   refine txEnd (fun W21 hK => ?_)
   have k_R1 := (hK.get m0); have ⟨c_R1_0, c_R1_1, c_R1_2⟩ := k_R1.c3
   go_wp2
   exact bodyPost_ret (v := .tuple #[.agg #[.bool false, .slice none 0 0, .slice none 0 0], .int .i64 10]) (by simp [results, Tryz.results56, go_sem, c_R1_0, c_R1_1, c_R1_2]) rfl ((by obtain rfl := hQ0.out; exact ⟨.agg #[.bool false, .slice none 0 0, .slice none 0 0], (by rw [if_pos (len6_zero hb1.out)]), (by rw [len6_zero hb1.out, ofS_00]; exact RefR.zero _), hK.old⟩))
set_option maxRecDepth 100000 in
theorem rmade_q (v1 : Value) (v2 : Value) (s : Bool) (n : Nat) (d : Nat) (w : World) (h1 : RefV w v1 n) (h2 : RefV w v2 d) (l1 : (digs B6 n).length ≤ 50000) (l2 : (digs B6 d).length ≤ 50000) :
    Calls Tryz.prog 70 #[.bool s, v1, v2] w fun e w' => ∃ y0, e = .returned y0 ∧ RefR w' y0 (ofS s n d) ∧ Below w.heap.size w w' := by
  obtain ⟨p_h1, c_h1, rfl⟩ := h1.slr
  obtain ⟨p_h2, c_h2, rfl⟩ := h2.slr
  have hK : KS w [fun w => RefV w (.slice p_h2 (digs B6 d).length c_h2) d, fun w => RefV w (.slice p_h1 (digs B6 n).length c_h1) n] w := (KS.add (KS.add (KS.start w) (fun w' hb => h1.below hb)) (fun w' hb => h2.below hb))
  refine Calls.hide (fun Q0 hQ0 => ?_)
  go_enter Tryz.func70, Tryz.ntmps70
  go_upto_region 0 with (fail)
  refine wp_region_tx w hK ?_
  clear hK
  apply txA (.cells #[.bool false, .slice none 0 0, .slice none 0 0] 36) (wants0 rfl)
  · intro w' hK; go_simp; rfl
  intro R1 q_R1
  clear q_R1
  simp only [mkOf, Act.put, pA, pB, pC]
  refine txEnd (fun W2 hK => ?_)
  go_upto_region 1 with (fail)
  refine wp_region_tx w hK ?_
  clear hK
  iterate 3 (apply txF (wants0 rfl); (· intro w' hK; go_simp; (try go_bits); exact ⟨rfl, rfl⟩); simp only [Act.put, pA, pB, pC])
  obtain ⟨z1, hz1⟩ : ∃ b : Int, RowKit.Hid ((if d = 0 then 10 else 0) = b) := ⟨_, hid rfl⟩
  apply txE (α := Duo Sl Sl) (fun sv => .tuple #[.agg #[.bool (isN (ofS s n d)), .slice sv.a.p (digs B6 (numQ (ofS s n d))).length sv.a.c, .slice sv.b.p (digs B6 (den0 (ofS s n d))).length sv.b.c], .int .i64 z1]) (fun sv => [fun w => RefR w (.agg #[.bool (isN (ofS s n d)), .slice sv.a.p (digs B6 (numQ (ofS s n d))).length sv.a.c, .slice sv.b.p (digs B6 (den0 (ofS s n d))).length sv.b.c]) (ofS s n d), fun w => RefV w (.slice sv.a.p (digs B6 (numQ (ofS s n d))).length sv.a.c) (numQ (ofS s n d)), fun w => RefV w (.slice sv.b.p (digs B6 (den0 (ofS s n d))).length sv.b.c) (den0 (ofS s n d))]) (wants0 rfl)
  · intro f1 l1 hl1 w' hK; go_simp; (try go_bits); refine (rmake_q (.slice p_h1 (digs B6 n).length c_h1) (.slice p_h2 (digs B6 d).length c_h2) s n d w' (hK.get m2) (hK.get m1) (by omega) (by omega)).mono ?_; rintro e w5 ⟨y0, rfl, u0, hb⟩; obtain ⟨rfl, rfl⟩ := hl1.out; have u0_0 := u0; obtain ⟨p_u0, c_u0, q_u0, d_u0, rfl, u0_1, u0_2⟩ := u0.slr; exact ⟨_, rfl, (⟨⟨p_u0, 0, c_u0⟩, ⟨q_u0, 0, d_u0⟩⟩ : Duo Sl Sl), (by rw [hz1.out]), hb, .cons (fun w2 h2 => u0_0.below h2) (.cons (fun w2 h2 => u0_1.below h2) (.cons (fun w2 h2 => u0_2.below h2) (Lasts.nil _)))⟩
  intro sv3
  simp only [Act.put, pA, pB, pC, pD, pE]
  iterate 3 (apply txF (wants0 rfl); (· intro w' hK; go_simp; (try go_bits); exact ⟨rfl, rfl⟩); simp only [Act.put, pA, pB, pC])
  apply txA (.cells #[.bool false, .slice none 0 0, .slice none 0 0] 36) (wants0 rfl)
  · intro w' hK; go_simp; rfl
  intro R4 q_R4
  have o_R1_R4 : R1 < R4 := q_R4 _ _ _ m3
  clear q_R4
  simp only [mkOf, Act.put, pA, pB, pC]
  apply txU 0 (Has w.heap.size R4 (.cells #[.bool (isN (ofS s n d)), .slice sv3.a.p (digs B6 (numQ (ofS s n d))).length sv3.a.c, .slice sv3.b.p (digs B6 (den0 (ofS s n d))).length sv3.b.c] 36)) (wants0 rfl)
  · intro l1 hl1 w' hK; have k_R4 := (hK.get m0); have ⟨c_R4_0, c_R4_1, c_R4_2⟩ := k_R4.c3; have f_R4 := k_R4.fz; have ni := noInt_of k_R4 nofun; go_simp; obtain rfl := hl1.out; exact ⟨rfl, ks_put (R := R4) hK k_R4.1 0 [.bool (isN (ofS s n d)), .slice sv3.a.p (digs B6 (numQ (ofS s n d))).length sv3.a.c, .slice sv3.b.p (digs B6 (den0 (ofS s n d))).length sv3.b.c] (al1 (fun _ => has_put k_R4 _ _) (al1 (spS ni (hK.get m1)) (al1 (spR ni (hK.get m2)) (al1 (spR ni (hK.get m3)) (al1 (spL o_R1_R4 (hK.get m4)) (al1 (spR ni (hK.get m5)) (al1 (spR ni (hK.get m6)) aN)))))))⟩
  simp only [Act.put, pB]
  apply txF (wants0 rfl); (· intro w' hK; go_simp; (try go_bits); exact ⟨rfl, rfl⟩); simp only [Act.put, pA, pB, pC]
  refine txEnd (fun W5 hK => ?_)
  go_upto_region 2 with (fail)
  refine wp_region_tx w hK ?_
  clear hK
  apply txF (wants0 rfl); (· intro w' hK; have k_R4 := (hK.get m0); have ⟨c_R4_0, c_R4_1, c_R4_2⟩ := k_R4.c3; go_simp; (try go_bits); exact ⟨rfl, rfl⟩); simp only [Act.put, pA, pB, pC]
  apply txU 4 (Has w.heap.size R1 (.cells #[.bool (isN (ofS s n d)), .slice sv3.a.p (digs B6 (numQ (ofS s n d))).length sv3.a.c, .slice sv3.b.p (digs B6 (den0 (ofS s n d))).length sv3.b.c] 36)) (wants0 rfl)
  · intro l1 hl1 w' hK; have k_R1 := (hK.get m4); have ⟨c_R1_0, c_R1_1, c_R1_2⟩ := k_R1.c3; have f_R1 := k_R1.fz; have ni := noInt_of k_R1 nofun; go_simp; obtain rfl := hl1.out; exact ⟨rfl, ks_put (R := R1) hK k_R1.1 0 [.bool (isN (ofS s n d)), .slice sv3.a.p (digs B6 (numQ (ofS s n d))).length sv3.a.c, .slice sv3.b.p (digs B6 (den0 (ofS s n d))).length sv3.b.c] (al1 (spG o_R1_R4 (hK.get m0)) (al1 (spS ni (hK.get m1)) (al1 (spR ni (hK.get m2)) (al1 (spR ni (hK.get m3)) (al1 (fun _ => has_put k_R1 _ _) (al1 (spR ni (hK.get m5)) (al1 (spR ni (hK.get m6)) aN)))))))⟩
  simp only [Act.put, pB, pC]
  refine txEnd (fun W6 hK => ?_)
  have k_R1 := (hK.get m4); have ⟨c_R1_0, c_R1_1, c_R1_2⟩ := k_R1.c3
  go_wp2
  exact bodyPost_ret (v := .agg #[.bool (isN (ofS s n d)), .slice sv3.a.p (digs B6 (numQ (ofS s n d))).length sv3.a.c, .slice sv3.b.p (digs B6 (den0 (ofS s n d))).length sv3.b.c]) (by simp [results, Tryz.results70, go_sem, c_R1_0, c_R1_1, c_R1_2]) rfl ((by obtain rfl := hQ0.out; exact ⟨_, rfl, (hK.get m1), hK.old⟩))
theorem radd_t {x y : Rat} (h : (isN x == isN y) = true) : ofS (isN x) (x.num.natAbs * y.den + y.num.natAbs * x.den) (x.den * y.den) = x + y := add_of (by
  have e : isN x = isN y := by simpa using h
  rw [← e]
  exact (sgn_add _ _ _).symm)
theorem cmpN_ge {n m : Nat} {z : Int} (hz : cmpN n m = z) (h : decide (0 ≤ z) = true) : m ≤ n := by
  have : 0 ≤ z := by simpa using h
  rw [← hz] at this
  unfold cmpN at this
  split at this <;> omega
theorem cmpN_lt' {n m : Nat} {z : Int} (hz : cmpN n m = z) (h : decide (0 ≤ z) = false) : n < m := by
  have : ¬ 0 ≤ z := by simpa using h
  rw [← hz] at this
  unfold cmpN at this
  split at this
  · assumption
  · split at this <;> omega
theorem not_of_beq {a b : Bool} (h : (a == b) = false) : b = !a := by revert h; cases a <;> cases b <;> decide
theorem radd_ft {x y : Rat} {z : Int} (h : (isN x == isN y) = false) (hz : cmpN (x.num.natAbs * y.den) (y.num.natAbs * x.den) = z) (h2 : decide (0 ≤ z) = true) : ofS (isN x) (x.num.natAbs * y.den - y.num.natAbs * x.den) (x.den * y.den) = x + y := add_of (by
  rw [not_of_beq h]
  exact (sgn_sub _ (cmpN_ge hz h2)).symm)
theorem radd_ff {x y : Rat} {z : Int} (h : (isN x == isN y) = false) (hz : cmpN (x.num.natAbs * y.den) (y.num.natAbs * x.den) = z) (h2 : decide (0 ≤ z) = false) : ofS (isN y) (y.num.natAbs * x.den - x.num.natAbs * y.den) (x.den * y.den) = x + y := add_of (by
  have e : isN x = !isN y := by rw [not_of_beq h]; simp
  rw [e, Int.add_comm]
  exact (sgn_sub _ (Nat.le_of_lt (cmpN_lt' hz h2))).symm)
theorem len6_lt {n : Nat} {b : Bool} (h : decide (0 < ((digs B6 n).length : Int)) = b) : (n = 0 ↔ b = false) := by
  rw [← h]
  constructor
  · intro e; rw [e, digs_zero]; rfl
  · intro e
    have : ¬ 0 < ((digs B6 n).length : Int) := by simpa using e
    exact (digs_eq_nil b6_2).1 (List.eq_nil_of_length_eq_zero (by omega))
set_option maxRecDepth 100000 in
theorem radd_q (v0 : Value) (v1 : Value) (x : Rat) (y : Rat) (w : World) (h0 : RefR w v0 x) (h1 : RefR w v1 y) {k : Nat} (hx : LmQ k x) (hy : LmQ k y) (hk : k ≤ 10000) :
    Calls Tryz.prog 32 #[v0, v1] w fun e w' => ∃ y0, e = .returned y0 ∧ RefR w' y0 (x + y) ∧ Below w.heap.size w w' := by
  have h0_0 := h0; obtain ⟨p_h0, c_h0, q_h0, d_h0, rfl, h0_1, h0_2⟩ := h0.slr
  have h1_0 := h1; obtain ⟨p_h1, c_h1, q_h1, d_h1, rfl, h1_1, h1_2⟩ := h1.slr
  have hK : KS w [fun w => RefR w (.agg #[.bool (isN y), .slice p_h1 (digs B6 (numQ y)).length c_h1, .slice q_h1 (digs B6 (den0 y)).length d_h1]) y, fun w => RefV w (.slice p_h1 (digs B6 (numQ y)).length c_h1) (numQ y), fun w => RefV w (.slice q_h1 (digs B6 (den0 y)).length d_h1) (den0 y), fun w => RefR w (.agg #[.bool (isN x), .slice p_h0 (digs B6 (numQ x)).length c_h0, .slice q_h0 (digs B6 (den0 x)).length d_h0]) x, fun w => RefV w (.slice p_h0 (digs B6 (numQ x)).length c_h0) (numQ x), fun w => RefV w (.slice q_h0 (digs B6 (den0 x)).length d_h0) (den0 x)] w := (KS.add (KS.add (KS.add (KS.add (KS.add (KS.add (KS.start w) (fun w' hb => h0_2.below hb)) (fun w' hb => h0_1.below hb)) (fun w' hb => h0_0.below hb)) (fun w' hb => h1_2.below hb)) (fun w' hb => h1_1.below hb)) (fun w' hb => h1_0.below hb))
  have e1 : (digs B6 (numQ x)).length ≤ 50000 := d6_of hx.n (by omega)
  have e2 := d6_of hx.d (by omega)
  have e3 : (digs B6 (numQ y)).length ≤ 50000 := d6_of hy.n (by omega)
  have e4 := d6_of hy.d (by omega)
  have e5 : (digs B6 (numQ x * y.den)).length ≤ 50000 := d6_of (hx.n.mul hy.d) (by omega)
  have e6 : (digs B6 (numQ y * x.den)).length ≤ 50000 := d6_of (hy.n.mul hx.d) (by omega)
  have e7 := d6_of (hx.d.mul hy.d) (by omega)
  have e8 : (digs B6 (numQ x * y.den + numQ y * x.den)).length ≤ 50000 := d6_of ((hx.n.mul hy.d).add (hy.n.mul hx.d)) (by omega)
  have e9 : (digs B6 (numQ x * y.den - numQ y * x.den)).length ≤ 50000 := d6_of (hx.n.mul hy.d).sub (by omega)
  have e10 : (digs B6 (numQ y * x.den - numQ x * y.den)).length ≤ 50000 := d6_of (hy.n.mul hx.d).sub (by omega)
  have e11 : (digs B6 (numQ x * numQ y)).length ≤ 50000 := d6_of (hx.n.mul hy.n) (by omega)
  have e12 : (digs B6 (x.den * numQ y)).length ≤ 50000 := d6_of (hx.d.mul hy.n) (by omega)
  refine Calls.hide (fun Q0 hQ0 => ?_)
  go_enter Tryz.func32, Tryz.ntmps32
  go_upto_region 0 with (fail)
  refine wp_region_tx w hK ?_
  clear hK
  apply txA (.cells #[.bool (isN x), .slice p_h0 (digs B6 (numQ x)).length c_h0, .slice q_h0 (digs B6 (den0 x)).length d_h0] 36) (wants0 rfl)
  · intro w' hK; go_simp; rfl
  intro R1 q_R1
  clear q_R1
  simp only [mkOf, Act.put, pA, pB, pC]
  apply txA (.cells #[.bool (isN y), .slice p_h1 (digs B6 (numQ y)).length c_h1, .slice q_h1 (digs B6 (den0 y)).length d_h1] 36) (wants0 rfl)
  · intro w' hK; go_simp; rfl
  intro R2 q_R2
  have o_R1_R2 : R1 < R2 := q_R2 _ _ _ m0
  clear q_R2
  simp only [mkOf, Act.put, pA, pB, pC]
  apply txA (.cells #[.bool false, .slice none 0 0, .slice none 0 0] 36) (wants0 rfl)
  · intro w' hK; go_simp; rfl
  intro R3 q_R3
  have o_R1_R3 : R1 < R3 := q_R3 _ _ _ m1
  have o_R2_R3 : R2 < R3 := q_R3 _ _ _ m0
  clear q_R3
  simp only [mkOf, Act.put, pA, pB, pC]
  refine txEnd (fun W4 hK => ?_)
  go_upto_region 1 with (fail)
  have hK0 := hK
  refine wp_region_float0 (w) _ _ [0, 0, 0, 2, 2, 0, 0, 0, 2, 2, 0, 0] (by kernel_rfl) (by kernel_rfl) (by kernel_rfl) (by kernel_rfl) (KS.drew hK0) (KS.drew hK) ?_
  clear hK hK0
  apply lxF0 (wants0 rfl); (· intro w' h0; go_simp; (try go_bits); exact ⟨rfl, rfl⟩); simp only [Act.put, pA, pB, pC]
  apply lxF0 (wants0 rfl); (· intro w' h0; have k_R1 := (h0.get m2); have c_R1_1 := k_R1.at 1 rfl; go_simp; (try go_bits); exact ⟨rfl, rfl⟩); simp only [Act.put, pA, pB, pC]
  apply lxF0 (wants0 rfl); (· intro w' h0; have k_R2 := (h0.get m1); have ⟨c_R2_0, c_R2_1, c_R2_2⟩ := k_R2.c3; go_simp; (try go_bits); exact ⟨rfl, rfl⟩); simp only [Act.put, pA, pB, pC]
  apply lxE1 (α := Sl) (fun sv => .slice sv.p (digs B6 y.den).length sv.c) (fun sv => [fun w => RefV w (.slice sv.p (digs B6 y.den).length sv.c) y.den]) (wants0 rfl)
  · intro f1 l1 hl1 w' h0 hK; go_simp; (try go_bits); refine (rone_q (.agg #[.bool (isN y), .slice p_h1 (digs B6 (numQ y)).length c_h1, .slice q_h1 (digs B6 (den0 y)).length d_h1]) y w' (hK.get m3) ).mono ?_; rintro e w5 ⟨y0, rfl, u0, hb⟩; obtain ⟨rfl, rfl⟩ := hl1.out; obtain ⟨p_u0, c_u0, rfl⟩ := u0.slr; exact ⟨_, rfl, (⟨p_u0, 0, c_u0⟩ : Sl), rfl, hb, .cons (fun w2 h2 => u0.below h2) (Lasts.nil _)⟩
  intro sv5
  simp only [Act.put, pA, pB, pC, pD, pE]
  apply lxE1 (α := Sl) (fun sv => .slice sv.p (digs B6 ((numQ x) * y.den)).length sv.c) (fun sv => [fun w => RefV w (.slice sv.p (digs B6 ((numQ x) * y.den)).length sv.c) ((numQ x) * y.den)]) (wants0 rfl)
  · intro f1 l1 hl1 w' h0 hK; go_simp; (try go_bits); refine (rmul_any (.slice p_h0 (digs B6 (numQ x)).length c_h0) (.slice sv5.p (digs B6 y.den).length sv5.c) (numQ x) y.den w' (hK.get m8) (hK.get m0) (by omega) (by omega)).mono ?_; rintro e w5 ⟨y0, rfl, u0, hb⟩; obtain ⟨rfl, rfl⟩ := hl1.out; obtain ⟨p_u0, c_u0, rfl⟩ := u0.slr; exact ⟨_, rfl, (⟨p_u0, 0, c_u0⟩ : Sl), rfl, hb, .cons (fun w2 h2 => u0.below h2) (Lasts.nil _)⟩
  intro sv6
  simp only [Act.put, pA, pB, pC, pD, pE]
  apply lxF0 (wants0 rfl); (· intro w' h0; go_simp; (try go_bits); exact ⟨rfl, rfl⟩); simp only [Act.put, pA, pB, pC]
  apply lxF0 (wants0 rfl); (· intro w' h0; have k_R2 := (h0.get m1); have c_R2_1 := k_R2.at 1 rfl; go_simp; (try go_bits); exact ⟨rfl, rfl⟩); simp only [Act.put, pA, pB, pC]
  apply lxF0 (wants0 rfl); (· intro w' h0; have k_R1 := (h0.get m2); have ⟨c_R1_0, c_R1_1, c_R1_2⟩ := k_R1.c3; go_simp; (try go_bits); exact ⟨rfl, rfl⟩); simp only [Act.put, pA, pB, pC]
  apply lxE1 (α := Sl) (fun sv => .slice sv.p (digs B6 x.den).length sv.c) (fun sv => [fun w => RefV w (.slice sv.p (digs B6 x.den).length sv.c) x.den]) (wants0 rfl)
  · intro f1 l1 hl1 w' h0 hK; go_simp; (try go_bits); refine (rone_q (.agg #[.bool (isN x), .slice p_h0 (digs B6 (numQ x)).length c_h0, .slice q_h0 (digs B6 (den0 x)).length d_h0]) x w' (hK.get m8) ).mono ?_; rintro e w5 ⟨y0, rfl, u0, hb⟩; obtain ⟨rfl, rfl⟩ := hl1.out; obtain ⟨p_u0, c_u0, rfl⟩ := u0.slr; exact ⟨_, rfl, (⟨p_u0, 0, c_u0⟩ : Sl), rfl, hb, .cons (fun w2 h2 => u0.below h2) (Lasts.nil _)⟩
  intro sv7
  simp only [Act.put, pA, pB, pC, pD, pE]
  apply lxE1 (α := Sl) (fun sv => .slice sv.p (digs B6 ((numQ y) * x.den)).length sv.c) (fun sv => [fun w => RefV w (.slice sv.p (digs B6 ((numQ y) * x.den)).length sv.c) ((numQ y) * x.den)]) (wants0 rfl)
  · intro f1 l1 hl1 w' h0 hK; go_simp; (try go_bits); refine (rmul_any (.slice p_h1 (digs B6 (numQ y)).length c_h1) (.slice sv7.p (digs B6 x.den).length sv7.c) (numQ y) x.den w' (hK.get m7) (hK.get m0) (by omega) (by omega)).mono ?_; rintro e w5 ⟨y0, rfl, u0, hb⟩; obtain ⟨rfl, rfl⟩ := hl1.out; obtain ⟨p_u0, c_u0, rfl⟩ := u0.slr; exact ⟨_, rfl, (⟨p_u0, 0, c_u0⟩ : Sl), rfl, hb, .cons (fun w2 h2 => u0.below h2) (Lasts.nil _)⟩
  intro sv8
  simp only [Act.put, pA, pB, pC, pD, pE]
  iterate 2 (apply lxF0 (wants0 rfl); (· intro w' h0; go_simp; (try go_bits); exact ⟨rfl, rfl⟩); simp only [Act.put, pA, pB, pC])
  refine lxEnd (fun W9 hK => ?_)
  go_upto_region 2 with (fail)
  have hK0 := hK
  refine wp_region_float0 (w) _ _ [0, 2, 0, 2, 2, 0] (by kernel_rfl) (by kernel_rfl) (by kernel_rfl) (by kernel_rfl) (KS.drew hK0) (KS.drew hK) ?_
  clear hK hK0
  apply lxF0 (wants0 rfl); (· intro w' h0; have k_R1 := (h0.get m6); have ⟨c_R1_0, c_R1_1, c_R1_2⟩ := k_R1.c3; go_simp; (try go_bits); exact ⟨rfl, rfl⟩); simp only [Act.put, pA, pB, pC]
  apply lxE1 (α := Sl) (fun sv => .slice sv.p (digs B6 x.den).length sv.c) (fun sv => [fun w => RefV w (.slice sv.p (digs B6 x.den).length sv.c) x.den]) (wants0 rfl)
  · intro f1 l1 hl1 w' h0 hK; go_simp; (try go_bits); refine (rone_q (.agg #[.bool (isN x), .slice p_h0 (digs B6 (numQ x)).length c_h0, .slice q_h0 (digs B6 (den0 x)).length d_h0]) x w' (hK.get m10) ).mono ?_; rintro e w5 ⟨y0, rfl, u0, hb⟩; obtain ⟨rfl, rfl⟩ := hl1.out; obtain ⟨p_u0, c_u0, rfl⟩ := u0.slr; exact ⟨_, rfl, (⟨p_u0, 0, c_u0⟩ : Sl), rfl, hb, .cons (fun w2 h2 => u0.below h2) (Lasts.nil _)⟩
  intro sv10
  simp only [Act.put, pA, pB, pC, pD, pE]
  apply lxF0 (wants0 rfl); (· intro w' h0; have k_R2 := (h0.get m5); have ⟨c_R2_0, c_R2_1, c_R2_2⟩ := k_R2.c3; go_simp; (try go_bits); exact ⟨rfl, rfl⟩); simp only [Act.put, pA, pB, pC]
  apply lxE1 (α := Sl) (fun sv => .slice sv.p (digs B6 y.den).length sv.c) (fun sv => [fun w => RefV w (.slice sv.p (digs B6 y.den).length sv.c) y.den]) (wants0 rfl)
  · intro f1 l1 hl1 w' h0 hK; go_simp; (try go_bits); refine (rone_q (.agg #[.bool (isN y), .slice p_h1 (digs B6 (numQ y)).length c_h1, .slice q_h1 (digs B6 (den0 y)).length d_h1]) y w' (hK.get m8) ).mono ?_; rintro e w5 ⟨y0, rfl, u0, hb⟩; obtain ⟨rfl, rfl⟩ := hl1.out; obtain ⟨p_u0, c_u0, rfl⟩ := u0.slr; exact ⟨_, rfl, (⟨p_u0, 0, c_u0⟩ : Sl), rfl, hb, .cons (fun w2 h2 => u0.below h2) (Lasts.nil _)⟩
  intro sv11
  simp only [Act.put, pA, pB, pC, pD, pE]
  apply lxE1 (α := Sl) (fun sv => .slice sv.p (digs B6 (x.den * y.den)).length sv.c) (fun sv => [fun w => RefV w (.slice sv.p (digs B6 (x.den * y.den)).length sv.c) (x.den * y.den)]) (wants0 rfl)
  · intro f1 l1 hl1 w' h0 hK; go_simp; (try go_bits); refine (rmul_any (.slice sv10.p (digs B6 x.den).length sv10.c) (.slice sv11.p (digs B6 y.den).length sv11.c) x.den y.den w' (hK.get m1) (hK.get m0) (by omega) (by omega)).mono ?_; rintro e w5 ⟨y0, rfl, u0, hb⟩; obtain ⟨rfl, rfl⟩ := hl1.out; obtain ⟨p_u0, c_u0, rfl⟩ := u0.slr; exact ⟨_, rfl, (⟨p_u0, 0, c_u0⟩ : Sl), rfl, hb, .cons (fun w2 h2 => u0.below h2) (Lasts.nil _)⟩
  intro sv12
  simp only [Act.put, pA, pB, pC, pD, pE]
  apply lxF0 (wants0 rfl); (· intro w' h0; go_simp; (try go_bits); exact ⟨rfl, rfl⟩); simp only [Act.put, pA, pB, pC]
  refine lxEnd (fun W13 hK => ?_)
  go_upto_region 3 with (fail)
  refine wp_region_tx w hK ?_
  clear hK
  apply txF (wants0 rfl); (· intro w' hK; go_simp; (try go_bits); exact ⟨rfl, rfl⟩); simp only [Act.put, pA, pB, pC]
  apply txF (wants0 rfl); (· intro w' hK; have k_R1 := (hK.get m9); have c_R1_0 := k_R1.at 0 rfl; go_simp; (try go_bits); exact ⟨rfl, rfl⟩); simp only [Act.put, pA, pB, pC]
  apply txF (wants0 rfl); (· intro w' hK; go_simp; (try go_bits); exact ⟨rfl, rfl⟩); simp only [Act.put, pA, pB, pC]
  apply txF (wants0 rfl); (· intro w' hK; have k_R2 := (hK.get m8); have c_R2_0 := k_R2.at 0 rfl; go_simp; (try go_bits); exact ⟨rfl, rfl⟩); simp only [Act.put, pA, pB, pC]
  obtain ⟨b1, hb1⟩ : ∃ b : Bool, RowKit.Hid ((((isN x)) == ((isN y))) = b) := ⟨_, hid rfl⟩
  apply txB b1 (wants0 rfl); (· intro w' hK; go_simp; (try go_bits); exact ⟨by have q := hb1.out; subst q; first | rfl | simp, rfl⟩); simp only [Act.put, pA, pB, pC]
  apply txF (wants0 rfl); (· intro w' hK; go_simp; (try go_bits); exact ⟨rfl, rfl⟩); simp only [Act.put, pA, pB, pC]
  refine txEnd (fun W14 hK => ?_)
  cases b1
  · --
   go_upto_region 5 with (fail)
   refine wp_region_tx w hK ?_
   clear hK
   iterate 2 (apply txF (wants0 rfl); (· intro w' hK; go_simp; (try go_bits); exact ⟨rfl, rfl⟩); simp only [Act.put, pA, pB, pC])
   obtain ⟨z1, hz1⟩ : ∃ b : Int, RowKit.Hid ((cmpN ((numQ x) * y.den) ((numQ y) * x.den)) = b) := ⟨_, hid rfl⟩
   apply txH (v := .int .i64 z1) (wants0 rfl)
   · intro v1 hv1 w' hK; go_simp; (try go_bits); refine (rcmp_any (.slice sv6.p (digs B6 ((numQ x) * y.den)).length sv6.c) (.slice sv8.p (digs B6 ((numQ y) * x.den)).length sv8.c) ((numQ x) * y.den) ((numQ y) * x.den) w' (hK.get m5) (hK.get m3) (by omega) (by omega)).mono ?_; rintro e w5 ⟨rfl, hb⟩; obtain rfl := hv1.out; exact ⟨_, rfl, (by rw [hz1.out]), hb⟩
   simp only [Act.put, pA, pB, pC]
   obtain ⟨b2, hb2⟩ : ∃ b : Bool, RowKit.Hid (decide (0 ≤ z1) = b) := ⟨_, hid rfl⟩
   apply txB b2 (wants0 rfl); (· intro w' hK; go_simp; (try go_bits); exact ⟨by have q := hb2.out; subst q; first | rfl | simp, rfl⟩); simp only [Act.put, pA, pB, pC]
   apply txF (wants0 rfl); (· intro w' hK; go_simp; (try go_bits); exact ⟨rfl, rfl⟩); simp only [Act.put, pA, pB, pC]
   refine txEnd (fun W15 hK => ?_)
   cases b2
   · --
    go_upto_region 8 with (fail)
    refine wp_region_tx w hK ?_
    clear hK
    iterate 2 (apply txF (wants0 rfl); (· intro w' hK; go_simp; (try go_bits); exact ⟨rfl, rfl⟩); simp only [Act.put, pA, pB, pC])
    obtain ⟨z2, hz2⟩ : ∃ b : Int, RowKit.Hid ((if ((numQ y) * x.den) < ((numQ x) * y.den) then 2 else 0) = b) := ⟨_, hid rfl⟩
    apply txE (α := Sl) (fun sv => .tuple #[.slice sv.p (digs B6 (((numQ y) * x.den) - ((numQ x) * y.den))).length sv.c, .int .i64 z2]) (fun sv => [fun w => RefV w (.slice sv.p (digs B6 (((numQ y) * x.den) - ((numQ x) * y.den))).length sv.c) (((numQ y) * x.den) - ((numQ x) * y.den))]) (wants0 rfl)
    · intro f1 l1 hl1 w' hK; go_simp; (try go_bits); refine (rsub_any (.slice sv8.p (digs B6 ((numQ y) * x.den)).length sv8.c) (.slice sv6.p (digs B6 ((numQ x) * y.den)).length sv6.c) ((numQ y) * x.den) ((numQ x) * y.den) w' (hK.get m3) (hK.get m5) (by omega) (by omega)).mono ?_; rintro e w5 ⟨y0, rfl, u0, hb⟩; obtain ⟨rfl, rfl⟩ := hl1.out; obtain ⟨p_u0, c_u0, rfl⟩ := u0.slr; exact ⟨_, rfl, (⟨p_u0, 0, c_u0⟩ : Sl), (by rw [hz2.out]), hb, .cons (fun w2 h2 => u0.below h2) (Lasts.nil _)⟩
    intro sv16
    simp only [Act.put, pA, pB, pC, pD, pE]
    iterate 5 (apply txF (wants0 rfl); (· intro w' hK; go_simp; (try go_bits); exact ⟨rfl, rfl⟩); simp only [Act.put, pA, pB, pC])
    refine txEnd (fun W17 hK => ?_)
    go_upto_region 9 with (fail)
    refine wp_region_tx w hK ?_
    clear hK
    apply txF (wants0 rfl); (· intro w' hK; go_simp; (try go_bits); exact ⟨rfl, rfl⟩); simp only [Act.put, pA, pB, pC]
    apply txF (wants0 rfl); (· intro w' hK; have k_R2 := (hK.get m9); have c_R2_0 := k_R2.at 0 rfl; go_simp; (try go_bits); exact ⟨rfl, rfl⟩); simp only [Act.put, pA, pB, pC]
    iterate 2 (apply txF (wants0 rfl); (· intro w' hK; go_simp; (try go_bits); exact ⟨rfl, rfl⟩); simp only [Act.put, pA, pB, pC])
    apply txE (α := Duo Sl Sl) (fun sv => .agg #[.bool (isN (ofS ((isN y)) (((numQ y) * x.den) - ((numQ x) * y.den)) (x.den * y.den))), .slice sv.a.p (digs B6 (numQ (ofS ((isN y)) (((numQ y) * x.den) - ((numQ x) * y.den)) (x.den * y.den)))).length sv.a.c, .slice sv.b.p (digs B6 (den0 (ofS ((isN y)) (((numQ y) * x.den) - ((numQ x) * y.den)) (x.den * y.den)))).length sv.b.c]) (fun sv => [fun w => RefR w (.agg #[.bool (isN (ofS ((isN y)) (((numQ y) * x.den) - ((numQ x) * y.den)) (x.den * y.den))), .slice sv.a.p (digs B6 (numQ (ofS ((isN y)) (((numQ y) * x.den) - ((numQ x) * y.den)) (x.den * y.den)))).length sv.a.c, .slice sv.b.p (digs B6 (den0 (ofS ((isN y)) (((numQ y) * x.den) - ((numQ x) * y.den)) (x.den * y.den)))).length sv.b.c]) (ofS ((isN y)) (((numQ y) * x.den) - ((numQ x) * y.den)) (x.den * y.den)), fun w => RefV w (.slice sv.a.p (digs B6 (numQ (ofS ((isN y)) (((numQ y) * x.den) - ((numQ x) * y.den)) (x.den * y.den)))).length sv.a.c) (numQ (ofS ((isN y)) (((numQ y) * x.den) - ((numQ x) * y.den)) (x.den * y.den))), fun w => RefV w (.slice sv.b.p (digs B6 (den0 (ofS ((isN y)) (((numQ y) * x.den) - ((numQ x) * y.den)) (x.den * y.den)))).length sv.b.c) (den0 (ofS ((isN y)) (((numQ y) * x.den) - ((numQ x) * y.den)) (x.den * y.den)))]) (wants0 rfl)
    · intro f1 l1 hl1 w' hK; go_simp; (try go_bits); refine (rmade_q (.slice sv16.p (digs B6 (((numQ y) * x.den) - ((numQ x) * y.den))).length sv16.c) (.slice sv12.p (digs B6 (x.den * y.den)).length sv12.c) ((isN y)) (((numQ y) * x.den) - ((numQ x) * y.den)) (x.den * y.den) w' (hK.get m0) (hK.get m1) (by omega) (by omega)).mono ?_; rintro e w5 ⟨y0, rfl, u0, hb⟩; obtain ⟨rfl, rfl⟩ := hl1.out; have u0_0 := u0; obtain ⟨p_u0, c_u0, q_u0, d_u0, rfl, u0_1, u0_2⟩ := u0.slr; exact ⟨_, rfl, (⟨⟨p_u0, 0, c_u0⟩, ⟨q_u0, 0, d_u0⟩⟩ : Duo Sl Sl), rfl, hb, .cons (fun w2 h2 => u0_0.below h2) (.cons (fun w2 h2 => u0_1.below h2) (.cons (fun w2 h2 => u0_2.below h2) (Lasts.nil _)))⟩
    intro sv18
    simp only [Act.put, pA, pB, pC, pD, pE]
    apply txU 11 (Has w.heap.size R3 (.cells #[.bool (isN (ofS ((isN y)) (((numQ y) * x.den) - ((numQ x) * y.den)) (x.den * y.den))), .slice sv18.a.p (digs B6 (numQ (ofS ((isN y)) (((numQ y) * x.den) - ((numQ x) * y.den)) (x.den * y.den)))).length sv18.a.c, .slice sv18.b.p (digs B6 (den0 (ofS ((isN y)) (((numQ y) * x.den) - ((numQ x) * y.den)) (x.den * y.den)))).length sv18.b.c] 36)) (wants0 rfl)
    · intro l1 hl1 w' hK; have k_R3 := (hK.get m11); have ⟨c_R3_0, c_R3_1, c_R3_2⟩ := k_R3.c3; have f_R3 := k_R3.fz; have ni := noInt_of k_R3 nofun; go_simp; obtain rfl := hl1.out; exact ⟨rfl, ks_put (R := R3) hK k_R3.1 0 [.bool (isN (ofS ((isN y)) (((numQ y) * x.den) - ((numQ x) * y.den)) (x.den * y.den))), .slice sv18.a.p (digs B6 (numQ (ofS ((isN y)) (((numQ y) * x.den) - ((numQ x) * y.den)) (x.den * y.den)))).length sv18.a.c, .slice sv18.b.p (digs B6 (den0 (ofS ((isN y)) (((numQ y) * x.den) - ((numQ x) * y.den)) (x.den * y.den)))).length sv18.b.c] (al1 (spS ni (hK.get m0)) (al1 (spR ni (hK.get m1)) (al1 (spR ni (hK.get m2)) (al1 (spR ni (hK.get m3)) (al1 (spR ni (hK.get m4)) (al1 (spR ni (hK.get m5)) (al1 (spR ni (hK.get m6)) (al1 (spR ni (hK.get m7)) (al1 (spR ni (hK.get m8)) (al1 (spR ni (hK.get m9)) (al1 (spR ni (hK.get m10)) (al1 (fun _ => has_put k_R3 _ _) (al1 (spL o_R2_R3 (hK.get m12)) (al1 (spL o_R1_R3 (hK.get m13)) (al1 (spS ni (hK.get m14)) (al1 (spR ni (hK.get m15)) (al1 (spR ni (hK.get m16)) (al1 (spS ni (hK.get m17)) (al1 (spR ni (hK.get m18)) (al1 (spR ni (hK.get m19)) aN))))))))))))))))))))⟩
    simp only [Act.put, pB, pC]
    refine txEnd (fun W19 hK => ?_)
    have k_R3 := (hK.get m11); have ⟨c_R3_0, c_R3_1, c_R3_2⟩ := k_R3.c3
    go_wp2
    exact bodyPost_ret (v := .agg #[.bool (isN (ofS ((isN y)) (((numQ y) * x.den) - ((numQ x) * y.den)) (x.den * y.den))), .slice sv18.a.p (digs B6 (numQ (ofS ((isN y)) (((numQ y) * x.den) - ((numQ x) * y.den)) (x.den * y.den)))).length sv18.a.c, .slice sv18.b.p (digs B6 (den0 (ofS ((isN y)) (((numQ y) * x.den) - ((numQ x) * y.den)) (x.den * y.den)))).length sv18.b.c]) (by simp [results, Tryz.results32, go_sem, c_R3_0, c_R3_1, c_R3_2]) rfl ((by obtain rfl := hQ0.out; exact ⟨_, rfl, (Eq.mp (congrArg (RefR _ _) (show ofS ((isN y)) (((numQ y) * x.den) - ((numQ x) * y.den)) (x.den * y.den) = x + y from (radd_ff hb1.out hz1.out hb2.out))) (hK.get m0)), hK.old⟩))
   · --
    go_upto_region 6 with (fail)
    refine wp_region_tx w hK ?_
    clear hK
    iterate 2 (apply txF (wants0 rfl); (· intro w' hK; go_simp; (try go_bits); exact ⟨rfl, rfl⟩); simp only [Act.put, pA, pB, pC])
    obtain ⟨z2, hz2⟩ : ∃ b : Int, RowKit.Hid ((if ((numQ x) * y.den) < ((numQ y) * x.den) then 2 else 0) = b) := ⟨_, hid rfl⟩
    apply txE (α := Sl) (fun sv => .tuple #[.slice sv.p (digs B6 (((numQ x) * y.den) - ((numQ y) * x.den))).length sv.c, .int .i64 z2]) (fun sv => [fun w => RefV w (.slice sv.p (digs B6 (((numQ x) * y.den) - ((numQ y) * x.den))).length sv.c) (((numQ x) * y.den) - ((numQ y) * x.den))]) (wants0 rfl)
    · intro f1 l1 hl1 w' hK; go_simp; (try go_bits); refine (rsub_any (.slice sv6.p (digs B6 ((numQ x) * y.den)).length sv6.c) (.slice sv8.p (digs B6 ((numQ y) * x.den)).length sv8.c) ((numQ x) * y.den) ((numQ y) * x.den) w' (hK.get m5) (hK.get m3) (by omega) (by omega)).mono ?_; rintro e w5 ⟨y0, rfl, u0, hb⟩; obtain ⟨rfl, rfl⟩ := hl1.out; obtain ⟨p_u0, c_u0, rfl⟩ := u0.slr; exact ⟨_, rfl, (⟨p_u0, 0, c_u0⟩ : Sl), (by rw [hz2.out]), hb, .cons (fun w2 h2 => u0.below h2) (Lasts.nil _)⟩
    intro sv20
    simp only [Act.put, pA, pB, pC, pD, pE]
    iterate 5 (apply txF (wants0 rfl); (· intro w' hK; go_simp; (try go_bits); exact ⟨rfl, rfl⟩); simp only [Act.put, pA, pB, pC])
    refine txEnd (fun W21 hK => ?_)
    go_upto_region 7 with (fail)
    refine wp_region_tx w hK ?_
    clear hK
    apply txF (wants0 rfl); (· intro w' hK; go_simp; (try go_bits); exact ⟨rfl, rfl⟩); simp only [Act.put, pA, pB, pC]
    apply txF (wants0 rfl); (· intro w' hK; have k_R1 := (hK.get m10); have c_R1_0 := k_R1.at 0 rfl; go_simp; (try go_bits); exact ⟨rfl, rfl⟩); simp only [Act.put, pA, pB, pC]
    iterate 2 (apply txF (wants0 rfl); (· intro w' hK; go_simp; (try go_bits); exact ⟨rfl, rfl⟩); simp only [Act.put, pA, pB, pC])
    apply txE (α := Duo Sl Sl) (fun sv => .agg #[.bool (isN (ofS ((isN x)) (((numQ x) * y.den) - ((numQ y) * x.den)) (x.den * y.den))), .slice sv.a.p (digs B6 (numQ (ofS ((isN x)) (((numQ x) * y.den) - ((numQ y) * x.den)) (x.den * y.den)))).length sv.a.c, .slice sv.b.p (digs B6 (den0 (ofS ((isN x)) (((numQ x) * y.den) - ((numQ y) * x.den)) (x.den * y.den)))).length sv.b.c]) (fun sv => [fun w => RefR w (.agg #[.bool (isN (ofS ((isN x)) (((numQ x) * y.den) - ((numQ y) * x.den)) (x.den * y.den))), .slice sv.a.p (digs B6 (numQ (ofS ((isN x)) (((numQ x) * y.den) - ((numQ y) * x.den)) (x.den * y.den)))).length sv.a.c, .slice sv.b.p (digs B6 (den0 (ofS ((isN x)) (((numQ x) * y.den) - ((numQ y) * x.den)) (x.den * y.den)))).length sv.b.c]) (ofS ((isN x)) (((numQ x) * y.den) - ((numQ y) * x.den)) (x.den * y.den)), fun w => RefV w (.slice sv.a.p (digs B6 (numQ (ofS ((isN x)) (((numQ x) * y.den) - ((numQ y) * x.den)) (x.den * y.den)))).length sv.a.c) (numQ (ofS ((isN x)) (((numQ x) * y.den) - ((numQ y) * x.den)) (x.den * y.den))), fun w => RefV w (.slice sv.b.p (digs B6 (den0 (ofS ((isN x)) (((numQ x) * y.den) - ((numQ y) * x.den)) (x.den * y.den)))).length sv.b.c) (den0 (ofS ((isN x)) (((numQ x) * y.den) - ((numQ y) * x.den)) (x.den * y.den)))]) (wants0 rfl)
    · intro f1 l1 hl1 w' hK; go_simp; (try go_bits); refine (rmade_q (.slice sv20.p (digs B6 (((numQ x) * y.den) - ((numQ y) * x.den))).length sv20.c) (.slice sv12.p (digs B6 (x.den * y.den)).length sv12.c) ((isN x)) (((numQ x) * y.den) - ((numQ y) * x.den)) (x.den * y.den) w' (hK.get m0) (hK.get m1) (by omega) (by omega)).mono ?_; rintro e w5 ⟨y0, rfl, u0, hb⟩; obtain ⟨rfl, rfl⟩ := hl1.out; have u0_0 := u0; obtain ⟨p_u0, c_u0, q_u0, d_u0, rfl, u0_1, u0_2⟩ := u0.slr; exact ⟨_, rfl, (⟨⟨p_u0, 0, c_u0⟩, ⟨q_u0, 0, d_u0⟩⟩ : Duo Sl Sl), rfl, hb, .cons (fun w2 h2 => u0_0.below h2) (.cons (fun w2 h2 => u0_1.below h2) (.cons (fun w2 h2 => u0_2.below h2) (Lasts.nil _)))⟩
    intro sv22
    simp only [Act.put, pA, pB, pC, pD, pE]
    apply txU 11 (Has w.heap.size R3 (.cells #[.bool (isN (ofS ((isN x)) (((numQ x) * y.den) - ((numQ y) * x.den)) (x.den * y.den))), .slice sv22.a.p (digs B6 (numQ (ofS ((isN x)) (((numQ x) * y.den) - ((numQ y) * x.den)) (x.den * y.den)))).length sv22.a.c, .slice sv22.b.p (digs B6 (den0 (ofS ((isN x)) (((numQ x) * y.den) - ((numQ y) * x.den)) (x.den * y.den)))).length sv22.b.c] 36)) (wants0 rfl)
    · intro l1 hl1 w' hK; have k_R3 := (hK.get m11); have ⟨c_R3_0, c_R3_1, c_R3_2⟩ := k_R3.c3; have f_R3 := k_R3.fz; have ni := noInt_of k_R3 nofun; go_simp; obtain rfl := hl1.out; exact ⟨rfl, ks_put (R := R3) hK k_R3.1 0 [.bool (isN (ofS ((isN x)) (((numQ x) * y.den) - ((numQ y) * x.den)) (x.den * y.den))), .slice sv22.a.p (digs B6 (numQ (ofS ((isN x)) (((numQ x) * y.den) - ((numQ y) * x.den)) (x.den * y.den)))).length sv22.a.c, .slice sv22.b.p (digs B6 (den0 (ofS ((isN x)) (((numQ x) * y.den) - ((numQ y) * x.den)) (x.den * y.den)))).length sv22.b.c] (al1 (spS ni (hK.get m0)) (al1 (spR ni (hK.get m1)) (al1 (spR ni (hK.get m2)) (al1 (spR ni (hK.get m3)) (al1 (spR ni (hK.get m4)) (al1 (spR ni (hK.get m5)) (al1 (spR ni (hK.get m6)) (al1 (spR ni (hK.get m7)) (al1 (spR ni (hK.get m8)) (al1 (spR ni (hK.get m9)) (al1 (spR ni (hK.get m10)) (al1 (fun _ => has_put k_R3 _ _) (al1 (spL o_R2_R3 (hK.get m12)) (al1 (spL o_R1_R3 (hK.get m13)) (al1 (spS ni (hK.get m14)) (al1 (spR ni (hK.get m15)) (al1 (spR ni (hK.get m16)) (al1 (spS ni (hK.get m17)) (al1 (spR ni (hK.get m18)) (al1 (spR ni (hK.get m19)) aN))))))))))))))))))))⟩
    simp only [Act.put, pB, pC]
    refine txEnd (fun W23 hK => ?_)
    have k_R3 := (hK.get m11); have ⟨c_R3_0, c_R3_1, c_R3_2⟩ := k_R3.c3
    go_wp2
    exact bodyPost_ret (v := .agg #[.bool (isN (ofS ((isN x)) (((numQ x) * y.den) - ((numQ y) * x.den)) (x.den * y.den))), .slice sv22.a.p (digs B6 (numQ (ofS ((isN x)) (((numQ x) * y.den) - ((numQ y) * x.den)) (x.den * y.den)))).length sv22.a.c, .slice sv22.b.p (digs B6 (den0 (ofS ((isN x)) (((numQ x) * y.den) - ((numQ y) * x.den)) (x.den * y.den)))).length sv22.b.c]) (by simp [results, Tryz.results32, go_sem, c_R3_0, c_R3_1, c_R3_2]) rfl ((by obtain rfl := hQ0.out; exact ⟨_, rfl, (Eq.mp (congrArg (RefR _ _) (show ofS ((isN x)) (((numQ x) * y.den) - ((numQ y) * x.den)) (x.den * y.den) = x + y from (radd_ft hb1.out hz1.out hb2.out))) (hK.get m0)), hK.old⟩))
  · --
   go_upto_region 4 with (fail)
   have hK0 := hK.subl (sK (sK (sK (sK (sK (sK (sK (sC (sK (sK (sK (sK (sK (sK (sK (sK sZ))))))))))))))))
   refine wp_region_float0 (w) _ _ [0, 0, 0, 0, 2, 0, 2, 4] (by kernel_rfl) (by kernel_rfl) (by kernel_rfl) (by kernel_rfl) (KS.drew hK0) (KS.drew hK) ?_
   clear hK hK0
   apply lxF0 (wants0 rfl); (· intro w' h0; go_simp; (try go_bits); exact ⟨rfl, rfl⟩); simp only [Act.put, pA, pB, pC]
   apply lxF0 (wants0 rfl); (· intro w' h0; have k_R1 := (h0.get m8); have c_R1_0 := k_R1.at 0 rfl; go_simp; (try go_bits); exact ⟨rfl, rfl⟩); simp only [Act.put, pA, pB, pC]
   iterate 2 (apply lxF0 (wants0 rfl); (· intro w' h0; go_simp; (try go_bits); exact ⟨rfl, rfl⟩); simp only [Act.put, pA, pB, pC])
   apply lxE1 (α := Sl) (fun sv => .slice sv.p (digs B6 (((numQ x) * y.den) + ((numQ y) * x.den))).length sv.c) (fun sv => [fun w => RefV w (.slice sv.p (digs B6 (((numQ x) * y.den) + ((numQ y) * x.den))).length sv.c) (((numQ x) * y.den) + ((numQ y) * x.den))]) (wants0 rfl)
   · intro f1 l1 hl1 w' h0 hK; go_simp; (try go_bits); refine (radd_any (.slice sv6.p (digs B6 ((numQ x) * y.den)).length sv6.c) (.slice sv8.p (digs B6 ((numQ y) * x.den)).length sv8.c) ((numQ x) * y.den) ((numQ y) * x.den) w' (hK.get m5) (hK.get m3) (by omega) (by omega)).mono ?_; rintro e w5 ⟨y0, rfl, u0, hb⟩; obtain ⟨rfl, rfl⟩ := hl1.out; obtain ⟨p_u0, c_u0, rfl⟩ := u0.slr; exact ⟨_, rfl, (⟨p_u0, 0, c_u0⟩ : Sl), rfl, hb, .cons (fun w2 h2 => u0.below h2) (Lasts.nil _)⟩
   intro sv24
   simp only [Act.put, pA, pB, pC, pD, pE]
   apply lxF0 (wants0 rfl); (· intro w' h0; go_simp; (try go_bits); exact ⟨rfl, rfl⟩); simp only [Act.put, pA, pB, pC]
   apply lxE1 (α := Duo Sl Sl) (fun sv => .agg #[.bool (isN (ofS ((isN x)) (((numQ x) * y.den) + ((numQ y) * x.den)) (x.den * y.den))), .slice sv.a.p (digs B6 (numQ (ofS ((isN x)) (((numQ x) * y.den) + ((numQ y) * x.den)) (x.den * y.den)))).length sv.a.c, .slice sv.b.p (digs B6 (den0 (ofS ((isN x)) (((numQ x) * y.den) + ((numQ y) * x.den)) (x.den * y.den)))).length sv.b.c]) (fun sv => [fun w => RefR w (.agg #[.bool (isN (ofS ((isN x)) (((numQ x) * y.den) + ((numQ y) * x.den)) (x.den * y.den))), .slice sv.a.p (digs B6 (numQ (ofS ((isN x)) (((numQ x) * y.den) + ((numQ y) * x.den)) (x.den * y.den)))).length sv.a.c, .slice sv.b.p (digs B6 (den0 (ofS ((isN x)) (((numQ x) * y.den) + ((numQ y) * x.den)) (x.den * y.den)))).length sv.b.c]) (ofS ((isN x)) (((numQ x) * y.den) + ((numQ y) * x.den)) (x.den * y.den)), fun w => RefV w (.slice sv.a.p (digs B6 (numQ (ofS ((isN x)) (((numQ x) * y.den) + ((numQ y) * x.den)) (x.den * y.den)))).length sv.a.c) (numQ (ofS ((isN x)) (((numQ x) * y.den) + ((numQ y) * x.den)) (x.den * y.den))), fun w => RefV w (.slice sv.b.p (digs B6 (den0 (ofS ((isN x)) (((numQ x) * y.den) + ((numQ y) * x.den)) (x.den * y.den)))).length sv.b.c) (den0 (ofS ((isN x)) (((numQ x) * y.den) + ((numQ y) * x.den)) (x.den * y.den)))]) (wants0 rfl)
   · intro f1 l1 hl1 w' h0 hK; go_simp; (try go_bits); refine (rmade_q (.slice sv24.p (digs B6 (((numQ x) * y.den) + ((numQ y) * x.den))).length sv24.c) (.slice sv12.p (digs B6 (x.den * y.den)).length sv12.c) ((isN x)) (((numQ x) * y.den) + ((numQ y) * x.den)) (x.den * y.den) w' (hK.get m0) (hK.get m1) (by omega) (by omega)).mono ?_; rintro e w5 ⟨y0, rfl, u0, hb⟩; obtain ⟨rfl, rfl⟩ := hl1.out; have u0_0 := u0; obtain ⟨p_u0, c_u0, q_u0, d_u0, rfl, u0_1, u0_2⟩ := u0.slr; exact ⟨_, rfl, (⟨⟨p_u0, 0, c_u0⟩, ⟨q_u0, 0, d_u0⟩⟩ : Duo Sl Sl), rfl, hb, .cons (fun w2 h2 => u0_0.below h2) (.cons (fun w2 h2 => u0_1.below h2) (.cons (fun w2 h2 => u0_2.below h2) (Lasts.nil _)))⟩
   intro sv25
   simp only [Act.put, pA, pB, pC, pD, pE]
   apply lxU1 11 (Has w.heap.size R3 (.cells #[.bool (isN (ofS ((isN x)) (((numQ x) * y.den) + ((numQ y) * x.den)) (x.den * y.den))), .slice sv25.a.p (digs B6 (numQ (ofS ((isN x)) (((numQ x) * y.den) + ((numQ y) * x.den)) (x.den * y.den)))).length sv25.a.c, .slice sv25.b.p (digs B6 (den0 (ofS ((isN x)) (((numQ x) * y.den) + ((numQ y) * x.den)) (x.den * y.den)))).length sv25.b.c] 36)) (wants0 rfl)
   · intro g0 l1 hl1 w' h0 hK; have k_R3 := (hK.get m11); have ⟨c_R3_0, c_R3_1, c_R3_2⟩ := k_R3.c3; have f_R3 := k_R3.fz; have ni := noInt_of k_R3 nofun; go_simp; obtain ⟨rfl, rfl⟩ := hl1.out; exact ⟨rfl, ks_put (R := R3) h0 k_R3.1 0 [.bool (isN (ofS ((isN x)) (((numQ x) * y.den) + ((numQ y) * x.den)) (x.den * y.den))), .slice sv25.a.p (digs B6 (numQ (ofS ((isN x)) (((numQ x) * y.den) + ((numQ y) * x.den)) (x.den * y.den)))).length sv25.a.c, .slice sv25.b.p (digs B6 (den0 (ofS ((isN x)) (((numQ x) * y.den) + ((numQ y) * x.den)) (x.den * y.den)))).length sv25.b.c] (al1 (spR ni (h0.get m0)) (al1 (spR ni (h0.get m1)) (al1 (spR ni (h0.get m2)) (al1 (spR ni (h0.get m3)) (al1 (spR ni (h0.get m4)) (al1 (spR ni (h0.get m5)) (al1 (spR ni (h0.get m6)) (al1 (spL o_R2_R3 (h0.get m7)) (al1 (spL o_R1_R3 (h0.get m8)) (al1 (spS ni (h0.get m9)) (al1 (spR ni (h0.get m10)) (al1 (spR ni (h0.get m11)) (al1 (spS ni (h0.get m12)) (al1 (spR ni (h0.get m13)) (al1 (spR ni (h0.get m14)) aN))))))))))))))), ks_put (R := R3) hK k_R3.1 0 [.bool (isN (ofS ((isN x)) (((numQ x) * y.den) + ((numQ y) * x.den)) (x.den * y.den))), .slice sv25.a.p (digs B6 (numQ (ofS ((isN x)) (((numQ x) * y.den) + ((numQ y) * x.den)) (x.den * y.den)))).length sv25.a.c, .slice sv25.b.p (digs B6 (den0 (ofS ((isN x)) (((numQ x) * y.den) + ((numQ y) * x.den)) (x.den * y.den)))).length sv25.b.c] (al1 (spS ni (hK.get m0)) (al1 (spR ni (hK.get m1)) (al1 (spR ni (hK.get m2)) (al1 (spR ni (hK.get m3)) (al1 (spR ni (hK.get m4)) (al1 (spR ni (hK.get m5)) (al1 (spR ni (hK.get m6)) (al1 (spR ni (hK.get m7)) (al1 (spR ni (hK.get m8)) (al1 (spR ni (hK.get m9)) (al1 (spR ni (hK.get m10)) (al1 (fun _ => has_put k_R3 _ _) (al1 (spL o_R2_R3 (hK.get m12)) (al1 (spL o_R1_R3 (hK.get m13)) (al1 (spS ni (hK.get m14)) (al1 (spR ni (hK.get m15)) (al1 (spR ni (hK.get m16)) (al1 (spS ni (hK.get m17)) (al1 (spR ni (hK.get m18)) (al1 (spR ni (hK.get m19)) aN))))))))))))))))))))⟩
   simp only [Act.put, pB, pC]
   refine lxEnd (fun W26 hK => ?_)
   have k_R3 := (hK.get m11); have ⟨c_R3_0, c_R3_1, c_R3_2⟩ := k_R3.c3
   go_wp2
   exact bodyPost_ret (v := .agg #[.bool (isN (ofS ((isN x)) (((numQ x) * y.den) + ((numQ y) * x.den)) (x.den * y.den))), .slice sv25.a.p (digs B6 (numQ (ofS ((isN x)) (((numQ x) * y.den) + ((numQ y) * x.den)) (x.den * y.den)))).length sv25.a.c, .slice sv25.b.p (digs B6 (den0 (ofS ((isN x)) (((numQ x) * y.den) + ((numQ y) * x.den)) (x.den * y.den)))).length sv25.b.c]) (by simp [results, Tryz.results32, go_sem, c_R3_0, c_R3_1, c_R3_2]) rfl ((by obtain rfl := hQ0.out; exact ⟨_, rfl, (Eq.mp (congrArg (RefR _ _) (show ofS ((isN x)) (((numQ x) * y.den) + ((numQ y) * x.den)) (x.den * y.den) = x + y from (radd_t hb1.out))) (hK.get m0)), hK.old⟩))
end Go.Proofs.YtiilkcdefpmimaaGreatDoor
