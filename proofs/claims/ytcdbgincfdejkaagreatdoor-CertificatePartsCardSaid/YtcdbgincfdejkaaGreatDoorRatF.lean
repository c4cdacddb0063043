/- Rational numbers of the reference. -/
import Derived.Test.YtcdbgincfdejkaaGreatDoorTz
import Derived.Test.YtcdbgincfdejkaaGreatDoorRatE
namespace Go.Proofs.YtcdbgincfdejkaaGreatDoor
open Go.RowKit
open Go.Lib (decDigits)
theorem d6_of {k n : Nat} (h : Lm k n) (hk : k ≤ 25000) : (digs B6 n).length ≤ 50000 := Nat.le_trans h.len6 (by omega)
theorem int_len6 {z : Int} (h0 : -9223372036854775808 ≤ z) (h1 : z ≤ 9223372036854775807) : (digs B6 z.natAbs).length ≤ 50000 := d6_of (k := 2) (by
  have : B32 ^ 2 = 18446744073709551616 := by decide
  show _ < _
  omega) (by decide)
theorem Lm.one : Lm 1 1 := by show _ < _; decide
theorem size_b {n : Int} (h : decide (n < 0) = false) : n = (n.natAbs : Int) := by
  have : ¬ n < 0 := by simpa using h
  omega
theorem size_c {n : Int} (h1 : n ≤ 9223372036854775807) (h : decide (n < 0) = false) : IntKind.u64.wrap n = (n.natAbs : Int) := by
  have := size_b h
  simp only [IntKind.wrap, IntKind.bits, IntKind.signed, Bool.false_and, Bool.false_eq_true, if_false]
  omega
theorem size_a {n : Int} (h0 : -9223372036854775808 ≤ n) (h : decide (n < 0) = true) : IntKind.u64.wrap (IntKind.u64.wrap (wrap64 (-wrap64 (n + 1))) + 1) = (n.natAbs : Int) := by
  have h2 : n < 0 := by simpa using h
  have e1 : wrap64 (n + 1) = n + 1 := by unfold wrap64; omega
  have e2 : wrap64 (-(n + 1)) = -(n + 1) := by unfold wrap64; omega
  rw [e1, e2]
  simp only [IntKind.wrap, IntKind.bits, IntKind.signed, Bool.false_and, Bool.false_eq_true, if_false]
  omega
theorem den_t {x : Rat} (h : (((digs B6 (den0 x)).length : Int) == 0) = true) : 1 = x.den := (( den0_zero x).1 (len6_zero h)).symm
theorem den_f {x : Rat} (h : (((digs B6 (den0 x)).length : Int) == 0) = false) : den0 x = x.den := by
  have := len6_pos h
  have h2 := one0_den0 x
  unfold one0 at h2
  rwa [if_neg this] at h2
set_option maxRecDepth 100000 in
theorem rone_q (v0 : Value) (x : Rat) (w : World) (h0 : RefR w v0 x)  :
    Calls Tryz.prog 101 #[v0] w fun e w' => ∃ y0, e = .returned y0 ∧ RefV w' y0 x.den ∧ Below w.heap.size w w' := by
  have h0_0 := h0; obtain ⟨p_h0, c_h0, q_h0, d_h0, rfl, h0_1, h0_2⟩ := h0.slr
  have hK := (((KS.start w).aF h0_2).aF h0_1).aR h0_0
  refine Calls.hide (fun Q0 hQ0 => ?_)
  go_enter Tryz.func101, Tryz.ntmps101
  go_upto_region 0 with (fail)
  refine wp_region_tx w hK ?_
  clear hK
  refine tA (.cells #[.bool (isN x), .slice p_h0 (digs B6 (numQ x)).length c_h0, .slice q_h0 (digs B6 (den0 x)).length d_h0] 41) (fun R1 q_R1 => ?_)
  clear q_R1
  refine tF ?_
  refine txEnd (fun W2 hK => ?_)
  go_upto_region 1 with (fail)
  refine wp_region_tx w hK ?_
  clear hK
  refine tF ?_
  refine tL m0 ?_
  refine tF ?_
  refine tB ((((digs B6 (den0 x)).length : Int)) == 0) (fun b1 hb1 => ?_)
  refine txEnd (fun W3 hK => ?_)
  cases b1
  · --
   go_upto_region 3 with (fail)
   refine wp_region_tx w hK ?_
   clear hK
   refine tF ?_
   refine tL m0 ?_
   refine tF ?_
   refine txEnd (fun W4 hK => ?_)
   go_wp2
   try go_ret
   show Q0 (.returned (.slice q_h0 (digs B6 (den0 x)).length d_h0)) _
   exact (by obtain rfl := hQ0.out; exact ⟨_, rfl, (Eq.mp (congrArg (RefV _ _) (show den0 x = x.den from (den_f hb1.out))) (hK.get m3)), hK.old⟩)
  · --
   go_upto_region 2 with (fail)
   refine wp_region_tx w hK ?_
   clear hK
   refine tEF (fun w' hK => rof_any  1 w'  (by omega)) (fun sv5 => ?_)
   refine tF ?_
   refine txEnd (fun W6 hK => ?_)
   go_wp2
   try go_ret
   show Q0 (.returned (.slice sv5.p (digs B6 1).length sv5.c)) _
   exact (by obtain rfl := hQ0.out; exact ⟨_, rfl, (Eq.mp (congrArg (RefV _ _) (show 1 = x.den from (den_t hb1.out))) (hK.get m0)), hK.old⟩)
theorem digs6_1 : digs B6 1 = [1] := by
  rw [digs_pos b6_2 (by decide), Nat.mod_eq_of_lt (by decide), Nat.div_eq_of_lt (by decide), digs_zero]
theorem beq1_t {a : Nat} (h : ((a : Int) == 1) = true) : a = 1 := by
  have : (a : Int) = 1 := by simpa using h
  omega
theorem beq1_f {a : Nat} (h : ((a : Int) == 1) = false) : a ≠ 1 := fun e => by subst e; cases h
theorem gcd6_len {n d : Nat} (h1 : (digs B6 n).length ≤ 50000) (h2 : (digs B6 d).length ≤ 50000) : (digs B6 (Nat.gcd n d)).length ≤ 50000 := by
  rcases Nat.eq_zero_or_pos d with h | h
  · rw [h, Nat.gcd_zero_right]; exact h1
  · exact digs6_mono (Nat.le_of_dvd h (Nat.gcd_dvd_right n d)) h2
theorem make_b0 (s : Bool) {n d : Nat} (_hd : d ≠ 0) (h : n / Nat.gcd n d = 0) : false = (s && decide (n ≠ 0)) := by
  have : n = 0 := by
    rcases Nat.eq_zero_or_pos n with h1 | h1
    · exact h1
    · have := Nat.div_pos (Nat.le_of_dvd h1 (Nat.gcd_dvd_left n d)) (Nat.gcd_pos_of_pos_left d h1)
      omega
  simp [this]
theorem make_b1 (s : Bool) {n g : Nat} (h : n / g ≠ 0) : s = (s && decide (n ≠ 0)) := by
  have : n ≠ 0 := fun e => h (by rw [e]; simp)
  simp [this]
theorem ofS_00 (s : Bool) (n : Nat) : ofS s n 0 = 0 := ofS_d0 s n
set_option maxRecDepth 100000 in
theorem rmake_q (v1 : Value) (v2 : Value) (s : Bool) (n : Nat) (d : Nat) (w : World) (h1 : RefV w v1 n) (h2 : RefV w v2 d) (l1 : (digs B6 n).length ≤ 50000) (l2 : (digs B6 d).length ≤ 50000) :
    Calls Tryz.prog 136 #[.bool s, v1, v2] w fun e w' => ∃ y0, e = .returned (.tuple #[y0, .int .i64 (if d = 0 then 10 else 0)]) ∧ RefR w' y0 (ofS s n d) ∧ Below w.heap.size w w' := by
  obtain ⟨p_h1, c_h1, rfl⟩ := h1.slr
  obtain ⟨p_h2, c_h2, rfl⟩ := h2.slr
  have hK := ((KS.start w).aF h1).aF h2
  have l3 : (digs B6 (Nat.gcd n d)).length ≤ 50000 := gcd6_len l1 l2
  refine Calls.hide (fun Q0 hQ0 => ?_)
  go_enter Tryz.func136, Tryz.ntmps136
  go_upto_region 0 with (fail)
  refine wp_region_tx w hK ?_
  clear hK
  refine tA (.cells #[.bool false, .slice none 0 0, .slice none 0 0] 41) (fun R1 q_R1 => ?_)
  clear q_R1
  refine tF ?_
  refine txEnd (fun W2 hK => ?_)
  go_upto_region 1 with (fail)
  refine wp_region_tx w hK ?_
  clear hK
  iterate 2 (refine tF ?_)
  refine tB ((((digs B6 d).length : Int)) == 0) (fun b1 hb1 => ?_)
  refine txEnd (fun W3 hK => ?_)
  cases b1
  · --
   go_upto_region 3 with (fail)
   refine wp_region_tx w hK ?_
   clear hK
   iterate 2 (refine tF ?_)
   refine tEF (fun w' hK => rgcd_any d n (.slice p_h1 (digs B6 n).length c_h1) (.slice p_h2 (digs B6 d).length c_h2) w' (hK.get m2) (hK.get m1) (by omega) (by omega)) (fun sv4 => ?_)
   refine tF ?_
   refine txEnd (fun W5 hK => ?_)
   go_upto_region 4 with (fail)
   refine wp_region_tx w hK ?_
   clear hK
   iterate 2 (refine tF ?_)
   obtain ⟨z1, hz1⟩ : ∃ b : Int, RowKit.Hid ((errD (Nat.gcd n d)) = b) := ⟨_, hid rfl⟩
   apply txE (α := Duo (Sl) (Sl)) (fun sv => .tuple #[.slice sv.a.p (digs B6 (n / (Nat.gcd n d))).length sv.a.c, .slice sv.b.p (digs B6 (rem0 n (Nat.gcd n d))).length sv.b.c, .int .i64 z1]) (fun sv => [fun w => RefV w (.slice sv.a.p (digs B6 (n / (Nat.gcd n d))).length sv.a.c) (n / (Nat.gcd n d)), fun w => RefV w (.slice sv.b.p (digs B6 (rem0 n (Nat.gcd n d))).length sv.b.c) (rem0 n (Nat.gcd n d))]) (wants0 rfl)
   · intro f1 l1 hl1 w' hK; go_simp; (try go_bits); refine (rdm_any (.slice p_h1 (digs B6 n).length c_h1) (.slice sv4.p (digs B6 (Nat.gcd n d)).length sv4.c) n (Nat.gcd n d) w' (hK.get m3) (hK.get m0) (by omega) (by omega)).mono ?_; rintro e w5 ⟨y0, y1, rfl, u0, u1, hb⟩; obtain ⟨rfl, rfl⟩ := hl1.out; obtain ⟨p_u0, c_u0, rfl⟩ := u0.slr; obtain ⟨p_u1, c_u1, rfl⟩ := u1.slr; exact ⟨_, rfl, (⟨(⟨p_u0, 0, c_u0⟩ : Sl), (⟨p_u1, 0, c_u1⟩ : Sl)⟩ : Duo (Sl) (Sl)), (by rw [hz1.out]), hb, .cons (fun w2 h2 => u0.below h2) (.cons (fun w2 h2 => u1.below h2) (Lasts.nil _))⟩
   intro sv6
   simp only [Act.put, pA, pB, pC, pD, pE]
   iterate 7 (refine tF ?_)
   refine txEnd (fun W7 hK => ?_)
   go_upto_region 5 with (fail)
   refine wp_region_tx w hK ?_
   clear hK
   iterate 2 (refine tF ?_)
   obtain ⟨z2, hz2⟩ : ∃ b : Int, RowKit.Hid ((errD (Nat.gcd n d)) = b) := ⟨_, hid rfl⟩
   apply txE (α := Duo (Sl) (Sl)) (fun sv => .tuple #[.slice sv.a.p (digs B6 (d / (Nat.gcd n d))).length sv.a.c, .slice sv.b.p (digs B6 (rem0 d (Nat.gcd n d))).length sv.b.c, .int .i64 z2]) (fun sv => [fun w => RefV w (.slice sv.a.p (digs B6 (d / (Nat.gcd n d))).length sv.a.c) (d / (Nat.gcd n d)), fun w => RefV w (.slice sv.b.p (digs B6 (rem0 d (Nat.gcd n d))).length sv.b.c) (rem0 d (Nat.gcd n d))]) (wants0 rfl)
   · intro f1 l1 hl1 w' hK; go_simp; (try go_bits); refine (rdm_any (.slice p_h2 (digs B6 d).length c_h2) (.slice sv4.p (digs B6 (Nat.gcd n d)).length sv4.c) d (Nat.gcd n d) w' (hK.get m4) (hK.get m2) (by omega) (by omega)).mono ?_; rintro e w5 ⟨y0, y1, rfl, u0, u1, hb⟩; obtain ⟨rfl, rfl⟩ := hl1.out; obtain ⟨p_u0, c_u0, rfl⟩ := u0.slr; obtain ⟨p_u1, c_u1, rfl⟩ := u1.slr; exact ⟨_, rfl, (⟨(⟨p_u0, 0, c_u0⟩ : Sl), (⟨p_u1, 0, c_u1⟩ : Sl)⟩ : Duo (Sl) (Sl)), (by rw [hz2.out]), hb, .cons (fun w2 h2 => u0.below h2) (.cons (fun w2 h2 => u1.below h2) (Lasts.nil _))⟩
   intro sv8
   simp only [Act.put, pA, pB, pC, pD, pE]
   iterate 7 (refine tF ?_)
   refine txEnd (fun W9 hK => ?_)
   go_upto_region 6 with (fail)
   refine wp_region_tx w hK ?_
   clear hK
   iterate 2 (refine tF ?_)
   refine tB ((((digs B6 (d / (Nat.gcd n d))).length : Int)) == 1) (fun b2 hb2 => ?_)
   refine tF ?_
   cases b2
   · --
    iterate 4 (refine tN ?_)
    refine tF ?_
    refine txEnd (fun W10 hK => ?_)
    go_upto_region 8 with (fail)
    refine wp_region_tx w hK ?_
    clear hK
    iterate 2 (refine tF ?_)
    refine tB ((((digs B6 (n / (Nat.gcd n d))).length : Int)) == 0) (fun b3 hb3 => ?_)
    refine txEnd (fun W11 hK => ?_)
    cases b3
    · --
     go_upto_region 10 with (fail)
     refine wp_region_tx w hK ?_
     clear hK
     iterate 4 (refine tF ?_)
     refine tS m5 0 [.bool s, .slice sv6.a.p (digs B6 (n / (Nat.gcd n d))).length sv6.a.c, .slice sv8.a.p (digs B6 (d / (Nat.gcd n d))).length sv8.a.c] (fun w' hK _ ni => kR ni (kR ni (kR ni (kR ni (kR ni (kP [.bool s, .slice sv6.a.p (digs B6 (n / (Nat.gcd n d))).length sv6.a.c, .slice sv8.a.p (digs B6 (d / (Nat.gcd n d))).length sv8.a.c] (kR ni (kR ni kZ)))))))) ?_
     refine tF ?_
     refine txEnd (fun W12 hK => ?_)
     have k_R1 := (hK.get m5); have ⟨c_R1_0, c_R1_1, c_R1_2⟩ := k_R1.c3
     have hd0 : d ≠ 0 := len6_pos hb1.out
     go_wp2
     exact bodyPost_ret (v := .tuple #[.agg #[.bool s, .slice sv6.a.p (digs B6 (n / (Nat.gcd n d))).length sv6.a.c, .slice sv8.a.p (digs B6 (d / (Nat.gcd n d))).length sv8.a.c], .int .i64 0]) (by simp [results, Tryz.results136, go_sem, c_R1_0, c_R1_1, c_R1_2]) rfl ((by obtain rfl := hQ0.out; exact ⟨.agg #[.bool s, .slice sv6.a.p (digs B6 (n / (Nat.gcd n d))).length sv6.a.c, .slice sv8.a.p (digs B6 (d / (Nat.gcd n d))).length sv8.a.c], (by rw [if_neg (len6_pos hb1.out)]), (RefR.make hd0 (make_b1 s (len6_pos hb3.out)) (rfl) ((if_neg (fun e => by have := hb2.out; rw [e, digs6_1] at this; cases this)).symm) (hK.get m2) (hK.get m0)), hK.old⟩))
    · --
     go_upto_region 10 with (fail)
     refine wp_region_tx w hK ?_
     clear hK
     iterate 4 (refine tF ?_)
     refine tS m5 0 [.bool false, .slice none 0 0, .slice sv8.a.p (digs B6 (d / (Nat.gcd n d))).length sv8.a.c] (fun w' hK _ ni => kR ni (kR ni (kR ni (kR ni (kR ni (kP [.bool false, .slice none 0 0, .slice sv8.a.p (digs B6 (d / (Nat.gcd n d))).length sv8.a.c] (kR ni (kR ni kZ)))))))) ?_
     refine tF ?_
     refine txEnd (fun W13 hK => ?_)
     have k_R1 := (hK.get m5); have ⟨c_R1_0, c_R1_1, c_R1_2⟩ := k_R1.c3
     have hd0 : d ≠ 0 := len6_pos hb1.out
     go_wp2
     exact bodyPost_ret (v := .tuple #[.agg #[.bool false, .slice none 0 0, .slice sv8.a.p (digs B6 (d / (Nat.gcd n d))).length sv8.a.c], .int .i64 0]) (by simp [results, Tryz.results136, go_sem, c_R1_0, c_R1_1, c_R1_2]) rfl ((by obtain rfl := hQ0.out; exact ⟨.agg #[.bool false, .slice none 0 0, .slice sv8.a.p (digs B6 (d / (Nat.gcd n d))).length sv8.a.c], (by rw [if_neg (len6_pos hb1.out)]), (RefR.make hd0 (make_b0 s hd0 (len6_zero hb3.out)) ((len6_zero hb3.out).symm) ((if_neg (fun e => by have := hb2.out; rw [e, digs6_1] at this; cases this)).symm) (RefV.zero _) (hK.get m0)), hK.old⟩))
   · --
    refine tF ?_
    refine Tx.know (fun w hK => RefV.one (hK.get m0) hb2.out) (fun hh => ?_)
    obtain ⟨g1, hp1⟩ := hh
    replace hp1 := hid hp1
    apply txF (wantsg (j := 3) (d := 39) (b := true) rfl rfl rfl rfl); (· intro w' hK; have hl1 := digs6_one hb2.out; have hp2 := hp1.out; go_simp; (try go_bits); exact ⟨rfl, rfl⟩); simp only [Act.put, pA, pB, pC]
    apply txF (wantsg (j := 3) (d := 39) (b := true) rfl rfl rfl rfl); (· intro w' hK; have q1 := (hK.get m0); rw [hp1.out] at q1; have q2 := RefV.cell1 q1 hb2.out; go_simp; (try go_bits); exact ⟨rfl, rfl⟩); simp only [Act.put, pA, pB, pC]
    refine tB (((((d / Nat.gcd n d : Nat)) : Int)) == 1) (fun b3 hb3 => ?_)
    refine tF ?_
    refine txEnd (fun W14 hK => ?_)
    cases b3
    · --
     go_upto_region 8 with (fail)
     refine wp_region_tx w hK ?_
     clear hK
     iterate 2 (refine tF ?_)
     refine tB ((((digs B6 (n / (Nat.gcd n d))).length : Int)) == 0) (fun b4 hb4 => ?_)
     refine txEnd (fun W15 hK => ?_)
     cases b4
     · --
      go_upto_region 10 with (fail)
      refine wp_region_tx w hK ?_
      clear hK
      iterate 4 (refine tF ?_)
      refine tS m5 0 [.bool s, .slice sv6.a.p (digs B6 (n / (Nat.gcd n d))).length sv6.a.c, .slice sv8.a.p (digs B6 (d / (Nat.gcd n d))).length sv8.a.c] (fun w' hK _ ni => kR ni (kR ni (kR ni (kR ni (kR ni (kP [.bool s, .slice sv6.a.p (digs B6 (n / (Nat.gcd n d))).length sv6.a.c, .slice sv8.a.p (digs B6 (d / (Nat.gcd n d))).length sv8.a.c] (kR ni (kR ni kZ)))))))) ?_
      refine tF ?_
      refine txEnd (fun W16 hK => ?_)
      have k_R1 := (hK.get m5); have ⟨c_R1_0, c_R1_1, c_R1_2⟩ := k_R1.c3
      have hd0 : d ≠ 0 := len6_pos hb1.out
      go_wp2
      exact bodyPost_ret (v := .tuple #[.agg #[.bool s, .slice sv6.a.p (digs B6 (n / (Nat.gcd n d))).length sv6.a.c, .slice sv8.a.p (digs B6 (d / (Nat.gcd n d))).length sv8.a.c], .int .i64 0]) (by simp [results, Tryz.results136, go_sem, c_R1_0, c_R1_1, c_R1_2]) rfl ((by obtain rfl := hQ0.out; exact ⟨.agg #[.bool s, .slice sv6.a.p (digs B6 (n / (Nat.gcd n d))).length sv6.a.c, .slice sv8.a.p (digs B6 (d / (Nat.gcd n d))).length sv8.a.c], (by rw [if_neg (len6_pos hb1.out)]), (RefR.make hd0 (make_b1 s (len6_pos hb4.out)) (rfl) ((if_neg (beq1_f hb3.out)).symm) (hK.get m2) (hK.get m0)), hK.old⟩))
     · --
      go_upto_region 10 with (fail)
      refine wp_region_tx w hK ?_
      clear hK
      iterate 4 (refine tF ?_)
      refine tS m5 0 [.bool false, .slice none 0 0, .slice sv8.a.p (digs B6 (d / (Nat.gcd n d))).length sv8.a.c] (fun w' hK _ ni => kR ni (kR ni (kR ni (kR ni (kR ni (kP [.bool false, .slice none 0 0, .slice sv8.a.p (digs B6 (d / (Nat.gcd n d))).length sv8.a.c] (kR ni (kR ni kZ)))))))) ?_
      refine tF ?_
      refine txEnd (fun W17 hK => ?_)
      have k_R1 := (hK.get m5); have ⟨c_R1_0, c_R1_1, c_R1_2⟩ := k_R1.c3
      have hd0 : d ≠ 0 := len6_pos hb1.out
      go_wp2
      exact bodyPost_ret (v := .tuple #[.agg #[.bool false, .slice none 0 0, .slice sv8.a.p (digs B6 (d / (Nat.gcd n d))).length sv8.a.c], .int .i64 0]) (by simp [results, Tryz.results136, go_sem, c_R1_0, c_R1_1, c_R1_2]) rfl ((by obtain rfl := hQ0.out; exact ⟨.agg #[.bool false, .slice none 0 0, .slice sv8.a.p (digs B6 (d / (Nat.gcd n d))).length sv8.a.c], (by rw [if_neg (len6_pos hb1.out)]), (RefR.make hd0 (make_b0 s hd0 (len6_zero hb4.out)) ((len6_zero hb4.out).symm) ((if_neg (beq1_f hb3.out)).symm) (RefV.zero _) (hK.get m0)), hK.old⟩))
    · --
     go_upto_region 8 with (fail)
     refine wp_region_tx w hK ?_
     clear hK
     iterate 2 (refine tF ?_)
     refine tB ((((digs B6 (n / (Nat.gcd n d))).length : Int)) == 0) (fun b4 hb4 => ?_)
     refine txEnd (fun W18 hK => ?_)
     cases b4
     · --
      go_upto_region 10 with (fail)
      refine wp_region_tx w hK ?_
      clear hK
      iterate 4 (refine tF ?_)
      refine tS m5 0 [.bool s, .slice sv6.a.p (digs B6 (n / (Nat.gcd n d))).length sv6.a.c, .slice none 0 0] (fun w' hK _ ni => kR ni (kR ni (kR ni (kR ni (kR ni (kP [.bool s, .slice sv6.a.p (digs B6 (n / (Nat.gcd n d))).length sv6.a.c, .slice none 0 0] (kR ni (kR ni kZ)))))))) ?_
      refine tF ?_
      refine txEnd (fun W19 hK => ?_)
      have k_R1 := (hK.get m5); have ⟨c_R1_0, c_R1_1, c_R1_2⟩ := k_R1.c3
      have hd0 : d ≠ 0 := len6_pos hb1.out
      go_wp2
      exact bodyPost_ret (v := .tuple #[.agg #[.bool s, .slice sv6.a.p (digs B6 (n / (Nat.gcd n d))).length sv6.a.c, .slice none 0 0], .int .i64 0]) (by simp [results, Tryz.results136, go_sem, c_R1_0, c_R1_1, c_R1_2]) rfl ((by obtain rfl := hQ0.out; exact ⟨.agg #[.bool s, .slice sv6.a.p (digs B6 (n / (Nat.gcd n d))).length sv6.a.c, .slice none 0 0], (by rw [if_neg (len6_pos hb1.out)]), (RefR.make hd0 (make_b1 s (len6_pos hb4.out)) (rfl) ((if_pos (beq1_t hb3.out)).symm) (hK.get m2) (RefV.zero _)), hK.old⟩))
     · --
      go_upto_region 10 with (fail)
      refine wp_region_tx w hK ?_
      clear hK
      iterate 4 (refine tF ?_)
      refine tS m5 0 [.bool false, .slice none 0 0, .slice none 0 0] (fun w' hK _ ni => kR ni (kR ni (kR ni (kR ni (kR ni (kP [.bool false, .slice none 0 0, .slice none 0 0] (kR ni (kR ni kZ)))))))) ?_
      refine tF ?_
      refine txEnd (fun W20 hK => ?_)
      have k_R1 := (hK.get m5); have ⟨c_R1_0, c_R1_1, c_R1_2⟩ := k_R1.c3
      have hd0 : d ≠ 0 := len6_pos hb1.out
      go_wp2
      exact bodyPost_ret (v := .tuple #[.agg #[.bool false, .slice none 0 0, .slice none 0 0], .int .i64 0]) (by simp [results, Tryz.results136, go_sem, c_R1_0, c_R1_1, c_R1_2]) rfl ((by obtain rfl := hQ0.out; exact ⟨.agg #[.bool false, .slice none 0 0, .slice none 0 0], (by rw [if_neg (len6_pos hb1.out)]), (RefR.make hd0 (make_b0 s hd0 (len6_zero hb4.out)) ((len6_zero hb4.out).symm) ((if_pos (beq1_t hb3.out)).symm) (RefV.zero _) (RefV.zero _)), hK.old⟩))
  · --
   go_upto_region 2 with (fail)
   refine wp_region_tx w hK ?_
   clear hK
   refine tF ?_
   refine tS m0 0 [.bool false, .slice none 0 0, .slice none 0 0] (fun w' hK _ ni => kP [.bool false, .slice none 0 0, .slice none 0 0] (kR ni (kR ni kZ))) ?_
   refine tF ?_
   refine txEnd (fun W21 hK => ?_)
   have k_R1 := (hK.get m0); have ⟨c_R1_0, c_R1_1, c_R1_2⟩ := k_R1.c3
   go_wp2
   exact bodyPost_ret (v := .tuple #[.agg #[.bool false, .slice none 0 0, .slice none 0 0], .int .i64 10]) (by simp [results, Tryz.results136, go_sem, c_R1_0, c_R1_1, c_R1_2]) rfl ((by obtain rfl := hQ0.out; exact ⟨.agg #[.bool false, .slice none 0 0, .slice none 0 0], (by rw [if_pos (len6_zero hb1.out)]), (by rw [len6_zero hb1.out, ofS_00]; exact RefR.zero _), hK.old⟩))
set_option maxRecDepth 100000 in
theorem rmade_q (v1 : Value) (v2 : Value) (s : Bool) (n : Nat) (d : Nat) (w : World) (h1 : RefV w v1 n) (h2 : RefV w v2 d) (l1 : (digs B6 n).length ≤ 50000) (l2 : (digs B6 d).length ≤ 50000) :
    Calls Tryz.prog 98 #[.bool s, v1, v2] w fun e w' => ∃ y0, e = .returned y0 ∧ RefR w' y0 (ofS s n d) ∧ Below w.heap.size w w' := by
  obtain ⟨p_h1, c_h1, rfl⟩ := h1.slr
  obtain ⟨p_h2, c_h2, rfl⟩ := h2.slr
  have hK := ((KS.start w).aF h1).aF h2
  refine Calls.hide (fun Q0 hQ0 => ?_)
  go_enter Tryz.func98, Tryz.ntmps98
  go_upto_region 0 with (fail)
  refine wp_region_tx w hK ?_
  clear hK
  refine tA (.cells #[.bool false, .slice none 0 0, .slice none 0 0] 41) (fun R1 q_R1 => ?_)
  clear q_R1
  refine txEnd (fun W2 hK => ?_)
  go_upto_region 1 with (fail)
  refine wp_region_tx w hK ?_
  clear hK
  iterate 3 (refine tF ?_)
  obtain ⟨z1, hz1⟩ : ∃ b : Int, RowKit.Hid ((if d = 0 then 10 else 0) = b) := ⟨_, hid rfl⟩
  refine tER (fun w' hK => rmake_q (.slice p_h1 (digs B6 n).length c_h1) (.slice p_h2 (digs B6 d).length c_h2) s n d w' (hK.get m2) (hK.get m1) (by omega) (by omega)) (fun sv3 => ?_) (g := fun y => .tuple #[y, .int .i64 z1]) (hv := fun _ => (by rw [hz1.out]))
  iterate 3 (refine tF ?_)
  refine tA (.cells #[.bool false, .slice none 0 0, .slice none 0 0] 41) (fun R4 q_R4 => ?_)
  have o_R1_R4 : R1 < R4 := q_R4 _ _ _ m3
  clear q_R4
  refine tS m0 0 [.bool (isN (ofS s n d)), .slice sv3.a.p (digs B6 (numQ (ofS s n d))).length sv3.a.c, .slice sv3.b.p (digs B6 (den0 (ofS s n d))).length sv3.b.c] (fun w' hK _ ni => kP [.bool (isN (ofS s n d)), .slice sv3.a.p (digs B6 (numQ (ofS s n d))).length sv3.a.c, .slice sv3.b.p (digs B6 (den0 (ofS s n d))).length sv3.b.c] (kS ni (kR ni (kR ni (kL o_R1_R4 (kR ni (kR ni kZ))))))) ?_
  refine tF ?_
  refine txEnd (fun W5 hK => ?_)
  go_upto_region 2 with (fail)
  refine wp_region_tx w hK ?_
  clear hK
  refine tL m0 ?_
  refine tS m4 0 [.bool (isN (ofS s n d)), .slice sv3.a.p (digs B6 (numQ (ofS s n d))).length sv3.a.c, .slice sv3.b.p (digs B6 (den0 (ofS s n d))).length sv3.b.c] (fun w' hK _ ni => kG o_R1_R4 (kS ni (kR ni (kR ni (kP [.bool (isN (ofS s n d)), .slice sv3.a.p (digs B6 (numQ (ofS s n d))).length sv3.a.c, .slice sv3.b.p (digs B6 (den0 (ofS s n d))).length sv3.b.c] (kR ni (kR ni kZ))))))) ?_
  refine txEnd (fun W6 hK => ?_)
  have k_R1 := (hK.get m4); have ⟨c_R1_0, c_R1_1, c_R1_2⟩ := k_R1.c3
  go_wp2
  exact bodyPost_ret (v := .agg #[.bool (isN (ofS s n d)), .slice sv3.a.p (digs B6 (numQ (ofS s n d))).length sv3.a.c, .slice sv3.b.p (digs B6 (den0 (ofS s n d))).length sv3.b.c]) (by simp [results, Tryz.results98, go_sem, c_R1_0, c_R1_1, c_R1_2]) rfl ((by obtain rfl := hQ0.out; exact ⟨_, rfl, (hK.get m1), hK.old⟩))
set_option maxRecDepth 100000 in
theorem rsize_q  (n : Int) (w : World)  (n0 : -9223372036854775808 ≤ n) (n1 : n ≤ 9223372036854775807) :
    Calls Tryz.prog 99 #[.int .i64 n] w fun e w' => ∃ y0, e = .returned y0 ∧ RefV w' y0 n.natAbs ∧ Below w.heap.size w w' := by
  have hK := (KS.start w)
  refine Calls.hide (fun Q0 hQ0 => ?_)
  go_enter Tryz.func99, Tryz.ntmps99
  go_upto_region 1 with (fail)
  refine wp_region_tx w hK ?_
  clear hK
  refine tF ?_
  refine tB (decide (n < 0)) (fun b1 hb1 => ?_)
  refine txEnd (fun W1 hK => ?_)
  cases b1
  · --
   go_upto_region 3 with (fail)
   refine wp_region_tx w hK ?_
   clear hK
   iterate 2 (refine tF ?_)
   apply txE (α := Sl) (fun sv => .slice sv.p (digs B6 n.natAbs).length sv.c) (fun sv => [fun w => RefV w (.slice sv.p (digs B6 n.natAbs).length sv.c) n.natAbs]) (wants0 rfl)
   · intro f1 l1 hl1 w' hK; go_simp; (try go_bits); rw [size_c n1 hb1.out]; refine (rof_any  n.natAbs w'  (by omega)).mono ?_; rintro e w5 ⟨y0, rfl, u0, hb⟩; obtain ⟨rfl, rfl⟩ := hl1.out; obtain ⟨p_u0, c_u0, rfl⟩ := u0.slr; exact ⟨_, rfl, (⟨p_u0, 0, c_u0⟩ : Sl), rfl, hb, .cons (fun w2 h2 => u0.below h2) (Lasts.nil _)⟩
   intro sv2
   simp only [Act.put, pA, pB, pC, pD, pE]
   refine tF ?_
   refine txEnd (fun W3 hK => ?_)
   go_wp2
   try go_ret
   show Q0 (.returned (.slice sv2.p (digs B6 n.natAbs).length sv2.c)) _
   exact (by obtain rfl := hQ0.out; exact ⟨_, rfl, (hK.get m0), hK.old⟩)
  · --
   go_upto_region 2 with (fail)
   refine wp_region_tx w hK ?_
   clear hK
   iterate 5 (refine tF ?_)
   apply txE (α := Sl) (fun sv => .slice sv.p (digs B6 n.natAbs).length sv.c) (fun sv => [fun w => RefV w (.slice sv.p (digs B6 n.natAbs).length sv.c) n.natAbs]) (wants0 rfl)
   · intro f1 l1 hl1 w' hK; go_simp; (try go_bits); rw [size_a n0 hb1.out]; refine (rof_any  n.natAbs w'  (by omega)).mono ?_; rintro e w5 ⟨y0, rfl, u0, hb⟩; obtain ⟨rfl, rfl⟩ := hl1.out; obtain ⟨p_u0, c_u0, rfl⟩ := u0.slr; exact ⟨_, rfl, (⟨p_u0, 0, c_u0⟩ : Sl), rfl, hb, .cons (fun w2 h2 => u0.below h2) (Lasts.nil _)⟩
   intro sv4
   simp only [Act.put, pA, pB, pC, pD, pE]
   refine tF ?_
   refine txEnd (fun W5 hK => ?_)
   go_wp2
   try go_ret
   show Q0 (.returned (.slice sv4.p (digs B6 n.natAbs).length sv4.c)) _
   exact (by obtain rfl := hQ0.out; exact ⟨_, rfl, (hK.get m0), hK.old⟩)
set_option maxRecDepth 100000 in
theorem rof_q  (n : Int) (d : Int) (w : World)  (n0 : -9223372036854775808 ≤ n) (n1 : n ≤ 9223372036854775807) (d0 : -9223372036854775808 ≤ d) (d1 : d ≤ 9223372036854775807) :
    Calls Tryz.prog 51 #[.int .i64 n, .int .i64 d] w fun e w' => ∃ y0, e = .returned y0 ∧ RefR w' y0 (((n : Int) : Rat) / ((d : Int) : Rat)) ∧ Below w.heap.size w w' := by
  have hK := (KS.start w)
  have l1 := int_len6 n0 n1
  have l2 := int_len6 d0 d1
  refine Calls.hide (fun Q0 hQ0 => ?_)
  go_enter Tryz.func51, Tryz.ntmps51
  go_upto_region 0 with (fail)
  refine wp_region_tx w hK ?_
  clear hK
  refine tA (.cells #[.bool false, .slice none 0 0, .slice none 0 0] 41) (fun R1 q_R1 => ?_)
  clear q_R1
  refine txEnd (fun W2 hK => ?_)
  go_upto_region 1 with (fail)
  refine wp_region_tx w hK ?_
  clear hK
  refine tF ?_
  refine tB (decide (n < 0)) (fun b1 hb1 => ?_)
  refine tF ?_
  refine tB (decide (d < 0)) (fun b2 hb2 => ?_)
  iterate 2 (refine tF ?_)
  refine tEF (fun w' hK => rsize_q  n w'  (by omega) (by omega)) (fun sv3 => ?_)
  refine tF ?_
  refine tEF (fun w' hK => rsize_q  d w'  (by omega) (by omega)) (fun sv4 => ?_)
  refine tER (fun w' hK => rmade_q (.slice sv3.p (digs B6 n.natAbs).length sv3.c) (.slice sv4.p (digs B6 d.natAbs).length sv4.c) ((b1 != b2)) n.natAbs d.natAbs w' (hK.get m1) (hK.get m0) (by omega) (by omega)) (fun sv5 => ?_)
  refine tS m5 0 [.bool (isN (ofS ((b1 != b2)) n.natAbs d.natAbs)), .slice sv5.a.p (digs B6 (numQ (ofS ((b1 != b2)) n.natAbs d.natAbs))).length sv5.a.c, .slice sv5.b.p (digs B6 (den0 (ofS ((b1 != b2)) n.natAbs d.natAbs))).length sv5.b.c] (fun w' hK _ ni => kS ni (kR ni (kR ni (kR ni (kR ni (kP [.bool (isN (ofS ((b1 != b2)) n.natAbs d.natAbs)), .slice sv5.a.p (digs B6 (numQ (ofS ((b1 != b2)) n.natAbs d.natAbs))).length sv5.a.c, .slice sv5.b.p (digs B6 (den0 (ofS ((b1 != b2)) n.natAbs d.natAbs))).length sv5.b.c] kZ)))))) ?_
  refine txEnd (fun W6 hK => ?_)
  have k_R1 := (hK.get m5); have ⟨c_R1_0, c_R1_1, c_R1_2⟩ := k_R1.c3
  go_wp2
  exact bodyPost_ret (v := .agg #[.bool (isN (ofS ((b1 != b2)) n.natAbs d.natAbs)), .slice sv5.a.p (digs B6 (numQ (ofS ((b1 != b2)) n.natAbs d.natAbs))).length sv5.a.c, .slice sv5.b.p (digs B6 (den0 (ofS ((b1 != b2)) n.natAbs d.natAbs))).length sv5.b.c]) (by simp [results, Tryz.results51, go_sem, c_R1_0, c_R1_1, c_R1_2]) rfl ((by obtain rfl := hQ0.out; exact ⟨_, rfl, (Eq.mp (congrArg (RefR _ _) (show ofS ((b1 != b2)) n.natAbs d.natAbs = ((n : Int) : Rat) / ((d : Int) : Rat) from (by rw [← hb1.out, ← hb2.out]; exact quo_ints n d))) (hK.get m0)), hK.old⟩))
set_option maxRecDepth 100000 in
theorem rint_q  (n : Int) (w : World)  (n0 : -9223372036854775808 ≤ n) (n1 : n ≤ 9223372036854775807) :
    Calls Tryz.prog 105 #[.int .i64 n] w fun e w' => ∃ y0, e = .returned y0 ∧ RefR w' y0 (((n : Int) : Rat)) ∧ Below w.heap.size w w' := by
  have hK := (KS.start w)
  refine Calls.hide (fun Q0 hQ0 => ?_)
  go_enter Tryz.func105, Tryz.ntmps105
  go_upto_region 0 with (fail)
  refine wp_region_tx w hK ?_
  clear hK
  refine tA (.cells #[.bool false, .slice none 0 0, .slice none 0 0] 41) (fun R1 q_R1 => ?_)
  clear q_R1
  refine txEnd (fun W2 hK => ?_)
  go_upto_region 1 with (fail)
  refine wp_region_tx w hK ?_
  clear hK
  refine tF ?_
  refine tER (fun w' hK => rof_q  n 1 w'  (by omega) (by omega) (by omega) (by omega)) (fun sv3 => ?_)
  refine tS m3 0 [.bool (isN (((n : Int) : Rat) / ((1 : Int) : Rat))), .slice sv3.a.p (digs B6 (numQ (((n : Int) : Rat) / ((1 : Int) : Rat)))).length sv3.a.c, .slice sv3.b.p (digs B6 (den0 (((n : Int) : Rat) / ((1 : Int) : Rat)))).length sv3.b.c] (fun w' hK _ ni => kS ni (kR ni (kR ni (kP [.bool (isN (((n : Int) : Rat) / ((1 : Int) : Rat))), .slice sv3.a.p (digs B6 (numQ (((n : Int) : Rat) / ((1 : Int) : Rat)))).length sv3.a.c, .slice sv3.b.p (digs B6 (den0 (((n : Int) : Rat) / ((1 : Int) : Rat)))).length sv3.b.c] kZ)))) ?_
  refine txEnd (fun W4 hK => ?_)
  have k_R1 := (hK.get m3); have ⟨c_R1_0, c_R1_1, c_R1_2⟩ := k_R1.c3
  go_wp2
  exact bodyPost_ret (v := .agg #[.bool (isN (((n : Int) : Rat) / ((1 : Int) : Rat))), .slice sv3.a.p (digs B6 (numQ (((n : Int) : Rat) / ((1 : Int) : Rat)))).length sv3.a.c, .slice sv3.b.p (digs B6 (den0 (((n : Int) : Rat) / ((1 : Int) : Rat)))).length sv3.b.c]) (by simp [results, Tryz.results105, go_sem, c_R1_0, c_R1_1, c_R1_2]) rfl ((by obtain rfl := hQ0.out; exact ⟨_, rfl, (Eq.mp (congrArg (RefR _ _) (show ((n : Int) : Rat) / ((1 : Int) : Rat) = ((n : Int) : Rat) from (by rw [← quo_ints n 1]; show ofS (decide (n < 0) != false) n.natAbs 1 = _; rw [Bool.bne_false]; exact int_of n))) (hK.get m0)), hK.old⟩))
set_option maxRecDepth 100000 in
theorem rneg_q (v0 : Value) (x : Rat) (w : World) (h0 : RefR w v0 x) {k : Nat} (hx : LmQ k x) (hk : k ≤ 10000) :
    Calls Tryz.prog 108 #[v0] w fun e w' => ∃ y0, e = .returned y0 ∧ RefR w' y0 (-x) ∧ Below w.heap.size w w' := by
  have h0_0 := h0; obtain ⟨p_h0, c_h0, q_h0, d_h0, rfl, h0_1, h0_2⟩ := h0.slr
  have hK := (((KS.start w).aF h0_2).aF h0_1).aR h0_0
  have e1 : (digs B6 (numQ x)).length ≤ 50000 := d6_of hx.n (by omega)
  have e2 := d6_of hx.d (by omega)
  refine Calls.hide (fun Q0 hQ0 => ?_)
  go_enter Tryz.func108, Tryz.ntmps108
  go_upto_region 0 with (fail)
  refine wp_region_tx w hK ?_
  clear hK
  refine tA (.cells #[.bool (isN x), .slice p_h0 (digs B6 (numQ x)).length c_h0, .slice q_h0 (digs B6 (den0 x)).length d_h0] 41) (fun R1 q_R1 => ?_)
  clear q_R1
  refine tA (.cells #[.bool false, .slice none 0 0, .slice none 0 0] 41) (fun R2 q_R2 => ?_)
  have o_R1_R2 : R1 < R2 := q_R2 _ _ _ m0
  clear q_R2
  refine txEnd (fun W3 hK => ?_)
  go_upto_region 1 with (fail)
  have hK0 := hK.subl (sC (sK (sK (sK (sK sZ)))))
  refine wp_region_float0 (w) _ _ [0, 0, 0, 0, 0, 0, 2, 2, 4] (by kernel_rfl) (by kernel_rfl) (by kernel_rfl) (by kernel_rfl) (KS.drew hK0) (KS.drew hK) ?_
  clear hK hK0
  refine lF ?_
  refine lL m0 ?_
  iterate 2 (refine lF ?_)
  refine lL m0 ?_
  refine lL m0 ?_
  refine lEF (fun w' h0 hK => rone_q (.agg #[.bool (isN x), .slice p_h0 (digs B6 (numQ x)).length c_h0, .slice q_h0 (digs B6 (den0 x)).length d_h0]) x w' (hK.get m2)) (fun sv4 => ?_)
  refine lER (fun w' h0 hK => rmade_q (.slice p_h0 (digs B6 (numQ x)).length c_h0) (.slice sv4.p (digs B6 x.den).length sv4.c) ((!(isN x))) (numQ x) x.den w' (hK.get m4) (hK.get m0) (by omega) (by omega)) (fun sv5 => ?_)
  refine lS m4 0 [.bool (isN (ofS ((!(isN x))) (numQ x) x.den)), .slice sv5.a.p (digs B6 (numQ (ofS ((!(isN x))) (numQ x) x.den))).length sv5.a.c, .slice sv5.b.p (digs B6 (den0 (ofS ((!(isN x))) (numQ x) x.den))).length sv5.b.c] (fun w' h0 hK _ ni => kL o_R1_R2 (kS ni (kR ni (kR ni kN)))) (fun w' h0 hK _ ni => kS ni (kR ni (kR ni (kR ni (kP [.bool (isN (ofS ((!(isN x))) (numQ x) x.den)), .slice sv5.a.p (digs B6 (numQ (ofS ((!(isN x))) (numQ x) x.den))).length sv5.a.c, .slice sv5.b.p (digs B6 (den0 (ofS ((!(isN x))) (numQ x) x.den))).length sv5.b.c] (kL o_R1_R2 (kS ni (kR ni (kR ni kZ))))))))) ?_
  refine lxEnd (fun W6 hK => ?_)
  have k_R2 := (hK.get m4); have ⟨c_R2_0, c_R2_1, c_R2_2⟩ := k_R2.c3
  go_wp2
  exact bodyPost_ret (v := .agg #[.bool (isN (ofS ((!(isN x))) (numQ x) x.den)), .slice sv5.a.p (digs B6 (numQ (ofS ((!(isN x))) (numQ x) x.den))).length sv5.a.c, .slice sv5.b.p (digs B6 (den0 (ofS ((!(isN x))) (numQ x) x.den))).length sv5.b.c]) (by simp [results, Tryz.results108, go_sem, c_R2_0, c_R2_1, c_R2_2]) rfl ((by obtain rfl := hQ0.out; exact ⟨_, rfl, (Eq.mp (congrArg (RefR _ _) (show ofS ((!(isN x))) (numQ x) x.den = -x from (by rw [← ofS_neg]; exact congrArg _ (ofS_self x)))) (hK.get m0)), hK.old⟩))
theorem radd_t {x y : Rat} (h : (isN x == isN y) = true) : ofS (isN x) (x.num.natAbs * y.den + y.num.natAbs * x.den) (x.den * y.den) = x + y := add_of (by
  have e : isN x = isN y := by simpa using h
  rw [← e]
  exact (sgn_add _ _ _).symm)
theorem cmpN_ge {n m : Nat} {z : Int} (hz : cmpN n m = z) (h : decide (0 ≤ z) = true) : m ≤ n := by
  have : 0 ≤ z := by simpa using h
  rw [← hz] at this
  unfold cmpN at this
  split at this <;> omega
theorem cmpN_lt' {n m : Nat} {z : Int} (hz : cmpN n m = z) (h : decide (0 ≤ z) = false) : n < m := by
  have : ¬ 0 ≤ z := by simpa using h
  rw [← hz] at this
  unfold cmpN at this
  split at this
  · assumption
  · split at this <;> omega
theorem not_of_beq {a b : Bool} (h : (a == b) = false) : b = !a := by revert h; cases a <;> cases b <;> decide
theorem radd_ft {x y : Rat} {z : Int} (h : (isN x == isN y) = false) (hz : cmpN (x.num.natAbs * y.den) (y.num.natAbs * x.den) = z) (h2 : decide (0 ≤ z) = true) : ofS (isN x) (x.num.natAbs * y.den - y.num.natAbs * x.den) (x.den * y.den) = x + y := add_of (by
  rw [not_of_beq h]
  exact (sgn_sub _ (cmpN_ge hz h2)).symm)
theorem radd_ff {x y : Rat} {z : Int} (h : (isN x == isN y) = false) (hz : cmpN (x.num.natAbs * y.den) (y.num.natAbs * x.den) = z) (h2 : decide (0 ≤ z) = false) : ofS (isN y) (y.num.natAbs * x.den - x.num.natAbs * y.den) (x.den * y.den) = x + y := add_of (by
  have e : isN x = !isN y := by rw [not_of_beq h]; simp
  rw [e, Int.add_comm]
  exact (sgn_sub _ (Nat.le_of_lt (cmpN_lt' hz h2))).symm)
theorem sgQ_n0 {x : Rat} (h : x.num.natAbs = 0) : sgQ x = 0 := by unfold sgQ; rw [if_pos h]
theorem sgQ_n1 {x : Rat} {b : Bool} (h : x.num.natAbs ≠ 0) (hb : isN x = b) : sgQ x = if b then -1 else 1 := by unfold sgQ; rw [if_neg h, hb]
theorem len6_lt {n : Nat} {b : Bool} (h : decide (0 < ((digs B6 n).length : Int)) = b) : (n = 0 ↔ b = false) := by
  rw [← h]
  constructor
  · intro e; rw [e, digs_zero]; rfl
  · intro e
    have : ¬ 0 < ((digs B6 n).length : Int) := by simpa using e
    exact (digs_eq_nil b6_2).1 (List.eq_nil_of_length_eq_zero (by omega))
set_option maxRecDepth 100000 in
theorem radd_q (v0 : Value) (v1 : Value) (x : Rat) (y : Rat) (w : World) (h0 : RefR w v0 x) (h1 : RefR w v1 y) {k : Nat} (hx : LmQ k x) (hy : LmQ k y) (hk : k ≤ 10000) :
    Calls Tryz.prog 57 #[v0, v1] w fun e w' => ∃ y0, e = .returned y0 ∧ RefR w' y0 (x + y) ∧ Below w.heap.size w w' := by
  have h0_0 := h0; obtain ⟨p_h0, c_h0, q_h0, d_h0, rfl, h0_1, h0_2⟩ := h0.slr
  have h1_0 := h1; obtain ⟨p_h1, c_h1, q_h1, d_h1, rfl, h1_1, h1_2⟩ := h1.slr
  have hK := ((((((KS.start w).aF h0_2).aF h0_1).aR h0_0).aF h1_2).aF h1_1).aR h1_0
  have e1 : (digs B6 (numQ x)).length ≤ 50000 := d6_of hx.n (by omega)
  have e2 := d6_of hx.d (by omega)
  have e3 : (digs B6 (numQ y)).length ≤ 50000 := d6_of hy.n (by omega)
  have e4 := d6_of hy.d (by omega)
  have e5 : (digs B6 (numQ x * y.den)).length ≤ 50000 := d6_of (hx.n.mul hy.d) (by omega)
  have e6 : (digs B6 (numQ y * x.den)).length ≤ 50000 := d6_of (hy.n.mul hx.d) (by omega)
  have e7 := d6_of (hx.d.mul hy.d) (by omega)
  have e8 : (digs B6 (numQ x * y.den + numQ y * x.den)).length ≤ 50000 := d6_of ((hx.n.mul hy.d).add (hy.n.mul hx.d)) (by omega)
  have e9 : (digs B6 (numQ x * y.den - numQ y * x.den)).length ≤ 50000 := d6_of (hx.n.mul hy.d).sub (by omega)
  have e10 : (digs B6 (numQ y * x.den - numQ x * y.den)).length ≤ 50000 := d6_of (hy.n.mul hx.d).sub (by omega)
  have e11 : (digs B6 (numQ x * numQ y)).length ≤ 50000 := d6_of (hx.n.mul hy.n) (by omega)
  have e12 : (digs B6 (x.den * numQ y)).length ≤ 50000 := d6_of (hx.d.mul hy.n) (by omega)
  refine Calls.hide (fun Q0 hQ0 => ?_)
  go_enter Tryz.func57, Tryz.ntmps57
  go_upto_region 0 with (fail)
  refine wp_region_tx w hK ?_
  clear hK
  refine tA (.cells #[.bool (isN x), .slice p_h0 (digs B6 (numQ x)).length c_h0, .slice q_h0 (digs B6 (den0 x)).length d_h0] 41) (fun R1 q_R1 => ?_)
  clear q_R1
  refine tA (.cells #[.bool (isN y), .slice p_h1 (digs B6 (numQ y)).length c_h1, .slice q_h1 (digs B6 (den0 y)).length d_h1] 41) (fun R2 q_R2 => ?_)
  have o_R1_R2 : R1 < R2 := q_R2 _ _ _ m0
  clear q_R2
  refine tA (.cells #[.bool false, .slice none 0 0, .slice none 0 0] 41) (fun R3 q_R3 => ?_)
  have o_R1_R3 : R1 < R3 := q_R3 _ _ _ m1
  have o_R2_R3 : R2 < R3 := q_R3 _ _ _ m0
  clear q_R3
  refine txEnd (fun W4 hK => ?_)
  go_upto_region 1 with (fail)
  have hK0 := hK
  refine wp_region_float0 (w) _ _ [0, 0, 0, 2, 2, 0, 0, 0, 2, 2, 0, 0] (by kernel_rfl) (by kernel_rfl) (by kernel_rfl) (by kernel_rfl) (KS.drew hK0) (KS.drew hK) ?_
  clear hK hK0
  refine lF ?_
  refine lL m2 ?_
  refine lL m1 ?_
  refine lEF (fun w' h0 hK => rone_q (.agg #[.bool (isN y), .slice p_h1 (digs B6 (numQ y)).length c_h1, .slice q_h1 (digs B6 (den0 y)).length d_h1]) y w' (hK.get m3)) (fun sv5 => ?_)
  refine lEF (fun w' h0 hK => rmul_any (.slice p_h0 (digs B6 (numQ x)).length c_h0) (.slice sv5.p (digs B6 y.den).length sv5.c) (numQ x) y.den w' (hK.get m8) (hK.get m0) (by omega) (by omega)) (fun sv6 => ?_)
  refine lF ?_
  refine lL m1 ?_
  refine lL m2 ?_
  refine lEF (fun w' h0 hK => rone_q (.agg #[.bool (isN x), .slice p_h0 (digs B6 (numQ x)).length c_h0, .slice q_h0 (digs B6 (den0 x)).length d_h0]) x w' (hK.get m8)) (fun sv7 => ?_)
  refine lEF (fun w' h0 hK => rmul_any (.slice p_h1 (digs B6 (numQ y)).length c_h1) (.slice sv7.p (digs B6 x.den).length sv7.c) (numQ y) x.den w' (hK.get m7) (hK.get m0) (by omega) (by omega)) (fun sv8 => ?_)
  iterate 2 (refine lF ?_)
  refine lxEnd (fun W9 hK => ?_)
  go_upto_region 2 with (fail)
  have hK0 := hK
  refine wp_region_float0 (w) _ _ [0, 2, 0, 2, 2, 0] (by kernel_rfl) (by kernel_rfl) (by kernel_rfl) (by kernel_rfl) (KS.drew hK0) (KS.drew hK) ?_
  clear hK hK0
  refine lL m6 ?_
  refine lEF (fun w' h0 hK => rone_q (.agg #[.bool (isN x), .slice p_h0 (digs B6 (numQ x)).length c_h0, .slice q_h0 (digs B6 (den0 x)).length d_h0]) x w' (hK.get m10)) (fun sv10 => ?_)
  refine lL m5 ?_
  refine lEF (fun w' h0 hK => rone_q (.agg #[.bool (isN y), .slice p_h1 (digs B6 (numQ y)).length c_h1, .slice q_h1 (digs B6 (den0 y)).length d_h1]) y w' (hK.get m8)) (fun sv11 => ?_)
  refine lEF (fun w' h0 hK => rmul_any (.slice sv10.p (digs B6 x.den).length sv10.c) (.slice sv11.p (digs B6 y.den).length sv11.c) x.den y.den w' (hK.get m1) (hK.get m0) (by omega) (by omega)) (fun sv12 => ?_)
  refine lF ?_
  refine lxEnd (fun W13 hK => ?_)
  go_upto_region 3 with (fail)
  refine wp_region_tx w hK ?_
  clear hK
  refine tF ?_
  refine tL m9 ?_
  refine tF ?_
  refine tL m8 ?_
  refine tB (((isN x)) == ((isN y))) (fun b1 hb1 => ?_)
  refine tF ?_
  refine txEnd (fun W14 hK => ?_)
  cases b1
  · --
   go_upto_region 5 with (fail)
   refine wp_region_tx w hK ?_
   clear hK
   iterate 2 (refine tF ?_)
   obtain ⟨z1, hz1⟩ : ∃ b : Int, RowKit.Hid ((cmpN ((numQ x) * y.den) ((numQ y) * x.den)) = b) := ⟨_, hid rfl⟩
   refine tH (fun w' hK => rcmp_any (.slice sv6.p (digs B6 ((numQ x) * y.den)).length sv6.c) (.slice sv8.p (digs B6 ((numQ y) * x.den)).length sv8.c) ((numQ x) * y.den) ((numQ y) * x.den) w' (hK.get m5) (hK.get m3) (by omega) (by omega)) ?_ (v := .int .i64 z1) (hv := (by rw [hz1.out]))
   refine tB (decide (0 ≤ z1)) (fun b2 hb2 => ?_)
   refine tF ?_
   refine txEnd (fun W15 hK => ?_)
   cases b2
   · --
    go_upto_region 8 with (fail)
    refine wp_region_tx w hK ?_
    clear hK
    iterate 2 (refine tF ?_)
    obtain ⟨z2, hz2⟩ : ∃ b : Int, RowKit.Hid ((if ((numQ y) * x.den) < ((numQ x) * y.den) then 2 else 0) = b) := ⟨_, hid rfl⟩
    refine tEF (fun w' hK => rsub_any (.slice sv8.p (digs B6 ((numQ y) * x.den)).length sv8.c) (.slice sv6.p (digs B6 ((numQ x) * y.den)).length sv6.c) ((numQ y) * x.den) ((numQ x) * y.den) w' (hK.get m3) (hK.get m5) (by omega) (by omega)) (fun sv16 => ?_) (g := fun y => .tuple #[y, .int .i64 z2]) (hv := fun _ => (by rw [hz2.out]))
    iterate 5 (refine tF ?_)
    refine txEnd (fun W17 hK => ?_)
    go_upto_region 9 with (fail)
    refine wp_region_tx w hK ?_
    clear hK
    refine tF ?_
    refine tL m9 ?_
    iterate 2 (refine tF ?_)
    refine tER (fun w' hK => rmade_q (.slice sv16.p (digs B6 (((numQ y) * x.den) - ((numQ x) * y.den))).length sv16.c) (.slice sv12.p (digs B6 (x.den * y.den)).length sv12.c) ((isN y)) (((numQ y) * x.den) - ((numQ x) * y.den)) (x.den * y.den) w' (hK.get m0) (hK.get m1) (by omega) (by omega)) (fun sv18 => ?_)
    refine tS m11 0 [.bool (isN (ofS ((isN y)) (((numQ y) * x.den) - ((numQ x) * y.den)) (x.den * y.den))), .slice sv18.a.p (digs B6 (numQ (ofS ((isN y)) (((numQ y) * x.den) - ((numQ x) * y.den)) (x.den * y.den)))).length sv18.a.c, .slice sv18.b.p (digs B6 (den0 (ofS ((isN y)) (((numQ y) * x.den) - ((numQ x) * y.den)) (x.den * y.den)))).length sv18.b.c] (fun w' hK _ ni => kS ni (kR ni (kR ni (kR ni (kR ni (kR ni (kR ni (kR ni (kR ni (kR ni (kR ni (kP [.bool (isN (ofS ((isN y)) (((numQ y) * x.den) - ((numQ x) * y.den)) (x.den * y.den))), .slice sv18.a.p (digs B6 (numQ (ofS ((isN y)) (((numQ y) * x.den) - ((numQ x) * y.den)) (x.den * y.den)))).length sv18.a.c, .slice sv18.b.p (digs B6 (den0 (ofS ((isN y)) (((numQ y) * x.den) - ((numQ x) * y.den)) (x.den * y.den)))).length sv18.b.c] (kL o_R2_R3 (kL o_R1_R3 (kS ni (kR ni (kR ni (kS ni (kR ni (kR ni kZ)))))))))))))))))))) ?_
    refine txEnd (fun W19 hK => ?_)
    have k_R3 := (hK.get m11); have ⟨c_R3_0, c_R3_1, c_R3_2⟩ := k_R3.c3
    go_wp2
    exact bodyPost_ret (v := .agg #[.bool (isN (ofS ((isN y)) (((numQ y) * x.den) - ((numQ x) * y.den)) (x.den * y.den))), .slice sv18.a.p (digs B6 (numQ (ofS ((isN y)) (((numQ y) * x.den) - ((numQ x) * y.den)) (x.den * y.den)))).length sv18.a.c, .slice sv18.b.p (digs B6 (den0 (ofS ((isN y)) (((numQ y) * x.den) - ((numQ x) * y.den)) (x.den * y.den)))).length sv18.b.c]) (by simp [results, Tryz.results57, go_sem, c_R3_0, c_R3_1, c_R3_2]) rfl ((by obtain rfl := hQ0.out; exact ⟨_, rfl, (Eq.mp (congrArg (RefR _ _) (show ofS ((isN y)) (((numQ y) * x.den) - ((numQ x) * y.den)) (x.den * y.den) = x + y from (radd_ff hb1.out hz1.out hb2.out))) (hK.get m0)), hK.old⟩))
   · --
    go_upto_region 6 with (fail)
    refine wp_region_tx w hK ?_
    clear hK
    iterate 2 (refine tF ?_)
    obtain ⟨z2, hz2⟩ : ∃ b : Int, RowKit.Hid ((if ((numQ x) * y.den) < ((numQ y) * x.den) then 2 else 0) = b) := ⟨_, hid rfl⟩
    refine tEF (fun w' hK => rsub_any (.slice sv6.p (digs B6 ((numQ x) * y.den)).length sv6.c) (.slice sv8.p (digs B6 ((numQ y) * x.den)).length sv8.c) ((numQ x) * y.den) ((numQ y) * x.den) w' (hK.get m5) (hK.get m3) (by omega) (by omega)) (fun sv20 => ?_) (g := fun y => .tuple #[y, .int .i64 z2]) (hv := fun _ => (by rw [hz2.out]))
    iterate 5 (refine tF ?_)
    refine txEnd (fun W21 hK => ?_)
    go_upto_region 7 with (fail)
    refine wp_region_tx w hK ?_
    clear hK
    refine tF ?_
    refine tL m10 ?_
    iterate 2 (refine tF ?_)
    refine tER (fun w' hK => rmade_q (.slice sv20.p (digs B6 (((numQ x) * y.den) - ((numQ y) * x.den))).length sv20.c) (.slice sv12.p (digs B6 (x.den * y.den)).length sv12.c) ((isN x)) (((numQ x) * y.den) - ((numQ y) * x.den)) (x.den * y.den) w' (hK.get m0) (hK.get m1) (by omega) (by omega)) (fun sv22 => ?_)
    refine tS m11 0 [.bool (isN (ofS ((isN x)) (((numQ x) * y.den) - ((numQ y) * x.den)) (x.den * y.den))), .slice sv22.a.p (digs B6 (numQ (ofS ((isN x)) (((numQ x) * y.den) - ((numQ y) * x.den)) (x.den * y.den)))).length sv22.a.c, .slice sv22.b.p (digs B6 (den0 (ofS ((isN x)) (((numQ x) * y.den) - ((numQ y) * x.den)) (x.den * y.den)))).length sv22.b.c] (fun w' hK _ ni => kS ni (kR ni (kR ni (kR ni (kR ni (kR ni (kR ni (kR ni (kR ni (kR ni (kR ni (kP [.bool (isN (ofS ((isN x)) (((numQ x) * y.den) - ((numQ y) * x.den)) (x.den * y.den))), .slice sv22.a.p (digs B6 (numQ (ofS ((isN x)) (((numQ x) * y.den) - ((numQ y) * x.den)) (x.den * y.den)))).length sv22.a.c, .slice sv22.b.p (digs B6 (den0 (ofS ((isN x)) (((numQ x) * y.den) - ((numQ y) * x.den)) (x.den * y.den)))).length sv22.b.c] (kL o_R2_R3 (kL o_R1_R3 (kS ni (kR ni (kR ni (kS ni (kR ni (kR ni kZ)))))))))))))))))))) ?_
    refine txEnd (fun W23 hK => ?_)
    have k_R3 := (hK.get m11); have ⟨c_R3_0, c_R3_1, c_R3_2⟩ := k_R3.c3
    go_wp2
    exact bodyPost_ret (v := .agg #[.bool (isN (ofS ((isN x)) (((numQ x) * y.den) - ((numQ y) * x.den)) (x.den * y.den))), .slice sv22.a.p (digs B6 (numQ (ofS ((isN x)) (((numQ x) * y.den) - ((numQ y) * x.den)) (x.den * y.den)))).length sv22.a.c, .slice sv22.b.p (digs B6 (den0 (ofS ((isN x)) (((numQ x) * y.den) - ((numQ y) * x.den)) (x.den * y.den)))).length sv22.b.c]) (by simp [results, Tryz.results57, go_sem, c_R3_0, c_R3_1, c_R3_2]) rfl ((by obtain rfl := hQ0.out; exact ⟨_, rfl, (Eq.mp (congrArg (RefR _ _) (show ofS ((isN x)) (((numQ x) * y.den) - ((numQ y) * x.den)) (x.den * y.den) = x + y from (radd_ft hb1.out hz1.out hb2.out))) (hK.get m0)), hK.old⟩))
  · --
   go_upto_region 4 with (fail)
   have hK0 := hK.subl (sK (sK (sK (sK (sK (sK (sK (sC (sK (sK (sK (sK (sK (sK (sK (sK sZ))))))))))))))))
   refine wp_region_float0 (w) _ _ [0, 0, 0, 0, 2, 0, 2, 4] (by kernel_rfl) (by kernel_rfl) (by kernel_rfl) (by kernel_rfl) (KS.drew hK0) (KS.drew hK) ?_
   clear hK hK0
   refine lF ?_
   refine lL m8 ?_
   iterate 2 (refine lF ?_)
   refine lEF (fun w' h0 hK => radd_any (.slice sv6.p (digs B6 ((numQ x) * y.den)).length sv6.c) (.slice sv8.p (digs B6 ((numQ y) * x.den)).length sv8.c) ((numQ x) * y.den) ((numQ y) * x.den) w' (hK.get m5) (hK.get m3) (by omega) (by omega)) (fun sv24 => ?_)
   refine lF ?_
   refine lER (fun w' h0 hK => rmade_q (.slice sv24.p (digs B6 (((numQ x) * y.den) + ((numQ y) * x.den))).length sv24.c) (.slice sv12.p (digs B6 (x.den * y.den)).length sv12.c) ((isN x)) (((numQ x) * y.den) + ((numQ y) * x.den)) (x.den * y.den) w' (hK.get m0) (hK.get m1) (by omega) (by omega)) (fun sv25 => ?_)
   refine lS m11 0 [.bool (isN (ofS ((isN x)) (((numQ x) * y.den) + ((numQ y) * x.den)) (x.den * y.den))), .slice sv25.a.p (digs B6 (numQ (ofS ((isN x)) (((numQ x) * y.den) + ((numQ y) * x.den)) (x.den * y.den)))).length sv25.a.c, .slice sv25.b.p (digs B6 (den0 (ofS ((isN x)) (((numQ x) * y.den) + ((numQ y) * x.den)) (x.den * y.den)))).length sv25.b.c] (fun w' h0 hK _ ni => kR ni (kR ni (kR ni (kR ni (kR ni (kR ni (kR ni (kL o_R2_R3 (kL o_R1_R3 (kS ni (kR ni (kR ni (kS ni (kR ni (kR ni kN))))))))))))))) (fun w' h0 hK _ ni => kS ni (kR ni (kR ni (kR ni (kR ni (kR ni (kR ni (kR ni (kR ni (kR ni (kR ni (kP [.bool (isN (ofS ((isN x)) (((numQ x) * y.den) + ((numQ y) * x.den)) (x.den * y.den))), .slice sv25.a.p (digs B6 (numQ (ofS ((isN x)) (((numQ x) * y.den) + ((numQ y) * x.den)) (x.den * y.den)))).length sv25.a.c, .slice sv25.b.p (digs B6 (den0 (ofS ((isN x)) (((numQ x) * y.den) + ((numQ y) * x.den)) (x.den * y.den)))).length sv25.b.c] (kL o_R2_R3 (kL o_R1_R3 (kS ni (kR ni (kR ni (kS ni (kR ni (kR ni kZ)))))))))))))))))))) ?_
   refine lxEnd (fun W26 hK => ?_)
   have k_R3 := (hK.get m11); have ⟨c_R3_0, c_R3_1, c_R3_2⟩ := k_R3.c3
   go_wp2
   exact bodyPost_ret (v := .agg #[.bool (isN (ofS ((isN x)) (((numQ x) * y.den) + ((numQ y) * x.den)) (x.den * y.den))), .slice sv25.a.p (digs B6 (numQ (ofS ((isN x)) (((numQ x) * y.den) + ((numQ y) * x.den)) (x.den * y.den)))).length sv25.a.c, .slice sv25.b.p (digs B6 (den0 (ofS ((isN x)) (((numQ x) * y.den) + ((numQ y) * x.den)) (x.den * y.den)))).length sv25.b.c]) (by simp [results, Tryz.results57, go_sem, c_R3_0, c_R3_1, c_R3_2]) rfl ((by obtain rfl := hQ0.out; exact ⟨_, rfl, (Eq.mp (congrArg (RefR _ _) (show ofS ((isN x)) (((numQ x) * y.den) + ((numQ y) * x.den)) (x.den * y.den) = x + y from (radd_t hb1.out))) (hK.get m0)), hK.old⟩))
set_option maxRecDepth 100000 in
theorem rsub_q (v0 : Value) (v1 : Value) (x : Rat) (y : Rat) (w : World) (h0 : RefR w v0 x) (h1 : RefR w v1 y) {k : Nat} (hx : LmQ k x) (hy : LmQ k y) (hk : k ≤ 10000) :
    Calls Tryz.prog 79 #[v0, v1] w fun e w' => ∃ y0, e = .returned y0 ∧ RefR w' y0 (x - y) ∧ Below w.heap.size w w' := by
  have h0_0 := h0; obtain ⟨p_h0, c_h0, q_h0, d_h0, rfl, h0_1, h0_2⟩ := h0.slr
  have h1_0 := h1; obtain ⟨p_h1, c_h1, q_h1, d_h1, rfl, h1_1, h1_2⟩ := h1.slr
  have hK := ((((((KS.start w).aF h0_2).aF h0_1).aR h0_0).aF h1_2).aF h1_1).aR h1_0
  refine Calls.hide (fun Q0 hQ0 => ?_)
  go_enter Tryz.func79, Tryz.ntmps79
  go_upto_region 0 with (fail)
  refine wp_region_tx w hK ?_
  clear hK
  refine tA (.cells #[.bool (isN x), .slice p_h0 (digs B6 (numQ x)).length c_h0, .slice q_h0 (digs B6 (den0 x)).length d_h0] 41) (fun R1 q_R1 => ?_)
  clear q_R1
  refine tA (.cells #[.bool (isN y), .slice p_h1 (digs B6 (numQ y)).length c_h1, .slice q_h1 (digs B6 (den0 y)).length d_h1] 41) (fun R2 q_R2 => ?_)
  have o_R1_R2 : R1 < R2 := q_R2 _ _ _ m0
  clear q_R2
  refine tA (.cells #[.bool false, .slice none 0 0, .slice none 0 0] 41) (fun R3 q_R3 => ?_)
  have o_R1_R3 : R1 < R3 := q_R3 _ _ _ m1
  have o_R2_R3 : R2 < R3 := q_R3 _ _ _ m0
  clear q_R3
  refine txEnd (fun W4 hK => ?_)
  go_upto_region 1 with (fail)
  have hK0 := hK.subl (sC (sK (sK (sK (sK (sK (sK (sK (sK sZ)))))))))
  refine wp_region_float0 (w) _ _ [0, 0, 2, 2, 4] (by kernel_rfl) (by kernel_rfl) (by kernel_rfl) (by kernel_rfl) (KS.drew hK0) (KS.drew hK) ?_
  clear hK hK0
  refine lL m1 ?_
  refine lL m0 ?_
  refine lER (fun w' h0 hK => rneg_q (.agg #[.bool (isN y), .slice p_h1 (digs B6 (numQ y)).length c_h1, .slice q_h1 (digs B6 (den0 y)).length d_h1]) y w' (hK.get m3) hy hk) (fun sv5 => ?_)
  refine lER (fun w' h0 hK => radd_q (.agg #[.bool (isN x), .slice p_h0 (digs B6 (numQ x)).length c_h0, .slice q_h0 (digs B6 (den0 x)).length d_h0]) (.agg #[.bool (isN (-y)), .slice sv5.a.p (digs B6 (numQ (-y))).length sv5.a.c, .slice sv5.b.p (digs B6 (den0 (-y))).length sv5.b.c]) x (-y) w' (hK.get m9) (hK.get m0) hx hy.neg hk) (fun sv6 => ?_)
  refine lS m6 0 [.bool (isN (x + (-y))), .slice sv6.a.p (digs B6 (numQ (x + (-y)))).length sv6.a.c, .slice sv6.b.p (digs B6 (den0 (x + (-y)))).length sv6.b.c] (fun w' h0 hK _ ni => kL o_R2_R3 (kL o_R1_R3 (kS ni (kR ni (kR ni (kS ni (kR ni (kR ni kN)))))))) (fun w' h0 hK _ ni => kS ni (kR ni (kR ni (kS ni (kR ni (kR ni (kP [.bool (isN (x + (-y))), .slice sv6.a.p (digs B6 (numQ (x + (-y)))).length sv6.a.c, .slice sv6.b.p (digs B6 (den0 (x + (-y)))).length sv6.b.c] (kL o_R2_R3 (kL o_R1_R3 (kS ni (kR ni (kR ni (kS ni (kR ni (kR ni kZ))))))))))))))) ?_
  refine lxEnd (fun W7 hK => ?_)
  have k_R3 := (hK.get m6); have ⟨c_R3_0, c_R3_1, c_R3_2⟩ := k_R3.c3
  go_wp2
  exact bodyPost_ret (v := .agg #[.bool (isN (x + (-y))), .slice sv6.a.p (digs B6 (numQ (x + (-y)))).length sv6.a.c, .slice sv6.b.p (digs B6 (den0 (x + (-y)))).length sv6.b.c]) (by simp [results, Tryz.results79, go_sem, c_R3_0, c_R3_1, c_R3_2]) rfl ((by obtain rfl := hQ0.out; exact ⟨_, rfl, (Eq.mp (congrArg (RefR _ _) (show x + (-y) = x - y from (Rat.sub_eq_add_neg x y).symm)) (hK.get m0)), hK.old⟩))
set_option maxRecDepth 100000 in
theorem rmul_q (v0 : Value) (v1 : Value) (x : Rat) (y : Rat) (w : World) (h0 : RefR w v0 x) (h1 : RefR w v1 y) {k : Nat} (hx : LmQ k x) (hy : LmQ k y) (hk : k ≤ 10000) :
    Calls Tryz.prog 56 #[v0, v1] w fun e w' => ∃ y0, e = .returned y0 ∧ RefR w' y0 (x * y) ∧ Below w.heap.size w w' := by
  have h0_0 := h0; obtain ⟨p_h0, c_h0, q_h0, d_h0, rfl, h0_1, h0_2⟩ := h0.slr
  have h1_0 := h1; obtain ⟨p_h1, c_h1, q_h1, d_h1, rfl, h1_1, h1_2⟩ := h1.slr
  have hK := ((((((KS.start w).aF h0_2).aF h0_1).aR h0_0).aF h1_2).aF h1_1).aR h1_0
  have e1 : (digs B6 (numQ x)).length ≤ 50000 := d6_of hx.n (by omega)
  have e2 := d6_of hx.d (by omega)
  have e3 : (digs B6 (numQ y)).length ≤ 50000 := d6_of hy.n (by omega)
  have e4 := d6_of hy.d (by omega)
  have e5 : (digs B6 (numQ x * y.den)).length ≤ 50000 := d6_of (hx.n.mul hy.d) (by omega)
  have e6 : (digs B6 (numQ y * x.den)).length ≤ 50000 := d6_of (hy.n.mul hx.d) (by omega)
  have e7 := d6_of (hx.d.mul hy.d) (by omega)
  have e8 : (digs B6 (numQ x * y.den + numQ y * x.den)).length ≤ 50000 := d6_of ((hx.n.mul hy.d).add (hy.n.mul hx.d)) (by omega)
  have e9 : (digs B6 (numQ x * y.den - numQ y * x.den)).length ≤ 50000 := d6_of (hx.n.mul hy.d).sub (by omega)
  have e10 : (digs B6 (numQ y * x.den - numQ x * y.den)).length ≤ 50000 := d6_of (hy.n.mul hx.d).sub (by omega)
  have e11 : (digs B6 (numQ x * numQ y)).length ≤ 50000 := d6_of (hx.n.mul hy.n) (by omega)
  have e12 : (digs B6 (x.den * numQ y)).length ≤ 50000 := d6_of (hx.d.mul hy.n) (by omega)
  refine Calls.hide (fun Q0 hQ0 => ?_)
  go_enter Tryz.func56, Tryz.ntmps56
  go_upto_region 0 with (fail)
  refine wp_region_tx w hK ?_
  clear hK
  refine tA (.cells #[.bool (isN x), .slice p_h0 (digs B6 (numQ x)).length c_h0, .slice q_h0 (digs B6 (den0 x)).length d_h0] 41) (fun R1 q_R1 => ?_)
  clear q_R1
  refine tA (.cells #[.bool (isN y), .slice p_h1 (digs B6 (numQ y)).length c_h1, .slice q_h1 (digs B6 (den0 y)).length d_h1] 41) (fun R2 q_R2 => ?_)
  have o_R1_R2 : R1 < R2 := q_R2 _ _ _ m0
  clear q_R2
  refine tA (.cells #[.bool false, .slice none 0 0, .slice none 0 0] 41) (fun R3 q_R3 => ?_)
  have o_R1_R3 : R1 < R3 := q_R3 _ _ _ m1
  have o_R2_R3 : R2 < R3 := q_R3 _ _ _ m0
  clear q_R3
  refine txEnd (fun W4 hK => ?_)
  go_upto_region 1 with (fail)
  have hK0 := hK.subl (sC (sK (sK (sK (sK (sK (sK (sK (sK sZ)))))))))
  refine wp_region_float0 (w) _ _ [0, 0, 0, 0, 0, 0, 0, 0, 0, 2, 0, 2, 0, 2, 2, 2, 4] (by kernel_rfl) (by kernel_rfl) (by kernel_rfl) (by kernel_rfl) (KS.drew hK0) (KS.drew hK) ?_
  clear hK hK0
  refine lF ?_
  refine lL m1 ?_
  refine lF ?_
  refine lL m0 ?_
  iterate 2 (refine lF ?_)
  refine lL m1 ?_
  refine lF ?_
  refine lL m0 ?_
  refine lEF (fun w' h0 hK => rmul_any (.slice p_h0 (digs B6 (numQ x)).length c_h0) (.slice p_h1 (digs B6 (numQ y)).length c_h1) (numQ x) (numQ y) w' (hK.get m7) (hK.get m4) (by omega) (by omega)) (fun sv5 => ?_)
  refine lL m1 ?_
  refine lEF (fun w' h0 hK => rone_q (.agg #[.bool (isN x), .slice p_h0 (digs B6 (numQ x)).length c_h0, .slice q_h0 (digs B6 (den0 x)).length d_h0]) x w' (hK.get m7)) (fun sv6 => ?_)
  refine lL m0 ?_
  refine lEF (fun w' h0 hK => rone_q (.agg #[.bool (isN y), .slice p_h1 (digs B6 (numQ y)).length c_h1, .slice q_h1 (digs B6 (den0 y)).length d_h1]) y w' (hK.get m5)) (fun sv7 => ?_)
  refine lEF (fun w' h0 hK => rmul_any (.slice sv6.p (digs B6 x.den).length sv6.c) (.slice sv7.p (digs B6 y.den).length sv7.c) x.den y.den w' (hK.get m1) (hK.get m0) (by omega) (by omega)) (fun sv8 => ?_)
  refine lER (fun w' h0 hK => rmade_q (.slice sv5.p (digs B6 ((numQ x) * (numQ y))).length sv5.c) (.slice sv8.p (digs B6 (x.den * y.den)).length sv8.c) ((((isN x)) != ((isN y)))) ((numQ x) * (numQ y)) (x.den * y.den) w' (hK.get m3) (hK.get m0) (by omega) (by omega)) (fun sv9 => ?_)
  refine lS m7 0 [.bool (isN (ofS ((((isN x)) != ((isN y)))) ((numQ x) * (numQ y)) (x.den * y.den))), .slice sv9.a.p (digs B6 (numQ (ofS ((((isN x)) != ((isN y)))) ((numQ x) * (numQ y)) (x.den * y.den)))).length sv9.a.c, .slice sv9.b.p (digs B6 (den0 (ofS ((((isN x)) != ((isN y)))) ((numQ x) * (numQ y)) (x.den * y.den)))).length sv9.b.c] (fun w' h0 hK _ ni => kL o_R2_R3 (kL o_R1_R3 (kS ni (kR ni (kR ni (kS ni (kR ni (kR ni kN)))))))) (fun w' h0 hK _ ni => kS ni (kR ni (kR ni (kR ni (kR ni (kR ni (kR ni (kP [.bool (isN (ofS ((((isN x)) != ((isN y)))) ((numQ x) * (numQ y)) (x.den * y.den))), .slice sv9.a.p (digs B6 (numQ (ofS ((((isN x)) != ((isN y)))) ((numQ x) * (numQ y)) (x.den * y.den)))).length sv9.a.c, .slice sv9.b.p (digs B6 (den0 (ofS ((((isN x)) != ((isN y)))) ((numQ x) * (numQ y)) (x.den * y.den)))).length sv9.b.c] (kL o_R2_R3 (kL o_R1_R3 (kS ni (kR ni (kR ni (kS ni (kR ni (kR ni kZ)))))))))))))))) ?_
  refine lxEnd (fun W10 hK => ?_)
  have k_R3 := (hK.get m7); have ⟨c_R3_0, c_R3_1, c_R3_2⟩ := k_R3.c3
  go_wp2
  exact bodyPost_ret (v := .agg #[.bool (isN (ofS ((((isN x)) != ((isN y)))) ((numQ x) * (numQ y)) (x.den * y.den))), .slice sv9.a.p (digs B6 (numQ (ofS ((((isN x)) != ((isN y)))) ((numQ x) * (numQ y)) (x.den * y.den)))).length sv9.a.c, .slice sv9.b.p (digs B6 (den0 (ofS ((((isN x)) != ((isN y)))) ((numQ x) * (numQ y)) (x.den * y.den)))).length sv9.b.c]) (by simp [results, Tryz.results56, go_sem, c_R3_0, c_R3_1, c_R3_2]) rfl ((by obtain rfl := hQ0.out; exact ⟨_, rfl, (Eq.mp (congrArg (RefR _ _) (show ofS ((((isN x)) != ((isN y)))) ((numQ x) * (numQ y)) (x.den * y.den) = x * y from (mul_of x y))) (hK.get m0)), hK.old⟩))
set_option maxRecDepth 100000 in
theorem rsign_q (v0 : Value) (x : Rat) (w : World) (h0 : RefR w v0 x)  :
    Calls Tryz.prog 61 #[v0] w fun e w' => e = .returned (.int .i64 (sgQ x)) ∧ Below w.heap.size w w' := by
  have h0_0 := h0; obtain ⟨p_h0, c_h0, q_h0, d_h0, rfl, h0_1, h0_2⟩ := h0.slr
  have hK := (((KS.start w).aF h0_2).aF h0_1).aR h0_0
  obtain ⟨b0, hb0⟩ : ∃ b, RowKit.Hid (isN x = b) := ⟨_, hid rfl⟩
  rw [show isN x = b0 from hb0.out] at hK ⊢
  refine Calls.hide (fun Q0 hQ0 => ?_)
  go_enter Tryz.func61, Tryz.ntmps61
  go_upto_region 0 with (fail)
  refine wp_region_tx w hK ?_
  clear hK
  refine tA (.cells #[.bool b0, .slice p_h0 (digs B6 (numQ x)).length c_h0, .slice q_h0 (digs B6 (den0 x)).length d_h0] 41) (fun R1 q_R1 => ?_)
  clear q_R1
  refine tF ?_
  refine txEnd (fun W2 hK => ?_)
  go_upto_region 1 with (fail)
  refine wp_region_tx w hK ?_
  clear hK
  refine tF ?_
  refine tL m0 ?_
  refine tF ?_
  refine tB ((((digs B6 (numQ x)).length : Int)) == 0) (fun b1 hb1 => ?_)
  refine tF ?_
  refine txEnd (fun W3 hK => ?_)
  cases b1
  · --
   go_upto_region 3 with (fail)
   refine wp_region_tx w hK ?_
   clear hK
   refine tF ?_
   refine tL m0 ?_
   refine tF ?_
   refine txEnd (fun W4 hK => ?_)
   cases b0
   · --
    go_wp2
    try go_ret
    show Q0 (.returned (.int .i64 1)) _
    exact (by obtain rfl := hQ0.out; exact ⟨(by rw [sgQ_n1 (len6_pos hb1.out) hb0.out]; rfl), hK.old⟩)
   · --
    go_wp2
    try go_ret
    show Q0 (.returned (.int .i64 (-1))) _
    exact (by obtain rfl := hQ0.out; exact ⟨(by rw [sgQ_n1 (len6_pos hb1.out) hb0.out]; rfl), hK.old⟩)
  · --
   go_wp2
   try go_ret
   show Q0 (.returned (.int .i64 0)) _
   exact (by obtain rfl := hQ0.out; exact ⟨(by rw [sgQ_n0 (len6_zero hb1.out)]), hK.old⟩)
set_option maxRecDepth 100000 in
theorem rcmp_q (v0 : Value) (v1 : Value) (x : Rat) (y : Rat) (w : World) (h0 : RefR w v0 x) (h1 : RefR w v1 y) {k : Nat} (hx : LmQ k x) (hy : LmQ k y) (hk : k ≤ 10000) :
    Calls Tryz.prog 53 #[v0, v1] w fun e w' => e = .returned (.int .i64 (sgQ (x - y))) ∧ Below w.heap.size w w' := by
  have h0_0 := h0; obtain ⟨p_h0, c_h0, q_h0, d_h0, rfl, h0_1, h0_2⟩ := h0.slr
  have h1_0 := h1; obtain ⟨p_h1, c_h1, q_h1, d_h1, rfl, h1_1, h1_2⟩ := h1.slr
  have hK := ((((((KS.start w).aF h0_2).aF h0_1).aR h0_0).aF h1_2).aF h1_1).aR h1_0
  refine Calls.hide (fun Q0 hQ0 => ?_)
  go_enter Tryz.func53, Tryz.ntmps53
  go_upto_region 0 with (fail)
  refine wp_region_tx w hK ?_
  clear hK
  refine tA (.cells #[.bool (isN x), .slice p_h0 (digs B6 (numQ x)).length c_h0, .slice q_h0 (digs B6 (den0 x)).length d_h0] 41) (fun R1 q_R1 => ?_)
  clear q_R1
  refine tA (.cells #[.bool (isN y), .slice p_h1 (digs B6 (numQ y)).length c_h1, .slice q_h1 (digs B6 (den0 y)).length d_h1] 41) (fun R2 q_R2 => ?_)
  have o_R1_R2 : R1 < R2 := q_R2 _ _ _ m0
  clear q_R2
  refine tF ?_
  refine txEnd (fun W3 hK => ?_)
  go_upto_region 1 with (fail)
  refine wp_region_tx w hK ?_
  clear hK
  refine tL m1 ?_
  refine tL m0 ?_
  refine tER (fun w' hK => rsub_q (.agg #[.bool (isN x), .slice p_h0 (digs B6 (numQ x)).length c_h0, .slice q_h0 (digs B6 (den0 x)).length d_h0]) (.agg #[.bool (isN y), .slice p_h1 (digs B6 (numQ y)).length c_h1, .slice q_h1 (digs B6 (den0 y)).length d_h1]) x y w' (hK.get m5) (hK.get m2) hx hy hk) (fun sv4 => ?_)
  obtain ⟨z1, hz1⟩ : ∃ b : Int, RowKit.Hid ((sgQ (x - y)) = b) := ⟨_, hid rfl⟩
  refine tH (fun w' hK => rsign_q (.agg #[.bool (isN (x - y)), .slice sv4.a.p (digs B6 (numQ (x - y))).length sv4.a.c, .slice sv4.b.p (digs B6 (den0 (x - y))).length sv4.b.c]) (x - y) w' (hK.get m0)) ?_ (v := .int .i64 z1) (hv := (by rw [hz1.out]))
  refine tF ?_
  refine txEnd (fun W5 hK => ?_)
  go_wp2
  try go_ret
  show Q0 (.returned (.int .i64 z1)) _
  exact (by obtain rfl := hQ0.out; exact ⟨(by rw [hz1.out]), hK.old⟩)
end Go.Proofs.YtcdbgincfdejkaaGreatDoor
