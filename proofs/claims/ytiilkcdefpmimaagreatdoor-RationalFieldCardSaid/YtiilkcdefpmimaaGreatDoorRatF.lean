/- Rational numbers of the reference. -/
import Derived.Test.YtiilkcdefpmimaaGreatDoorRatE
namespace Go.Proofs.YtiilkcdefpmimaaGreatDoor
open Go.RowKit
open Go.Lib (decDigits)
theorem d6_of {k n : Nat} (h : Lm k n) (hk : k ≤ 25000) : (digs B6 n).length ≤ 50000 := Nat.le_trans h.len6 (by omega)
theorem Lm.one : Lm 1 1 := by show _ < _; decide
theorem digs6_1 : digs B6 1 = [1] := by
  rw [digs_pos b6_2 (by decide), Nat.mod_eq_of_lt (by decide), Nat.div_eq_of_lt (by decide), digs_zero]
theorem beq1_t {a : Nat} (h : ((a : Int) == 1) = true) : a = 1 := by
  have : (a : Int) = 1 := by simpa using h
  omega
theorem beq1_f {a : Nat} (h : ((a : Int) == 1) = false) : a ≠ 1 := fun e => by subst e; cases h
theorem gcd6_len {n d : Nat} (h1 : (digs B6 n).length ≤ 50000) (h2 : (digs B6 d).length ≤ 50000) : (digs B6 (Nat.gcd n d)).length ≤ 50000 := by
  rcases Nat.eq_zero_or_pos d with h | h
  · rw [h, Nat.gcd_zero_right]; exact h1
  · exact digs6_mono (Nat.le_of_dvd h (Nat.gcd_dvd_right n d)) h2
theorem make_b0 (s : Bool) {n d : Nat} (_hd : d ≠ 0) (h : n / Nat.gcd n d = 0) : false = (s && decide (n ≠ 0)) := by
  have : n = 0 := by
    rcases Nat.eq_zero_or_pos n with h1 | h1
    · exact h1
    · have := Nat.div_pos (Nat.le_of_dvd h1 (Nat.gcd_dvd_left n d)) (Nat.gcd_pos_of_pos_left d h1)
      omega
  simp [this]
theorem make_b1 (s : Bool) {n g : Nat} (h : n / g ≠ 0) : s = (s && decide (n ≠ 0)) := by
  have : n ≠ 0 := fun e => h (by rw [e]; simp)
  simp [this]
theorem ofS_00 (s : Bool) (n : Nat) : ofS s n 0 = 0 := ofS_d0 s n
set_option maxRecDepth 100000 in
theorem rmake_q (v1 : Value) (v2 : Value) (s : Bool) (n : Nat) (d : Nat) (w : World) (h1 : RefV w v1 n) (h2 : RefV w v2 d) (l1 : (digs B6 n).length ≤ 50000) (l2 : (digs B6 d).length ≤ 50000) :
    Calls Tryz.prog 56 #[.bool s, v1, v2] w fun e w' => ∃ y0, e = .returned (.tuple #[y0, .int .i64 (if d = 0 then 10 else 0)]) ∧ RefR w' y0 (ofS s n d) ∧ Below w.heap.size w w' := by
  obtain ⟨p_h1, c_h1, rfl⟩ := h1.slr
  obtain ⟨p_h2, c_h2, rfl⟩ := h2.slr
  have hK : KS w [fun w => RefV w (.slice p_h2 (digs B6 d).length c_h2) d, fun w => RefV w (.slice p_h1 (digs B6 n).length c_h1) n] w := (KS.add (KS.add (KS.start w) (fun w' hb => h1.below hb)) (fun w' hb => h2.below hb))
  have l3 : (digs B6 (Nat.gcd n d)).length ≤ 50000 := gcd6_len l1 l2
  refine Calls.hide (fun Q0 hQ0 => ?_)
  go_enter Tryz.func56, Tryz.ntmps56
  go_upto_region 0 with (fail)
  refine wp_region_tx w hK ?_
  clear hK
  apply txA (.cells #[.bool false, .slice none 0 0, .slice none 0 0] 36) (wants0 rfl)
  · intro w' hK; go_simp; rfl
  intro R1 q_R1
  clear q_R1
  simp only [mkOf, Act.put, pA, pB, pC]
  apply txF (wants0 rfl); (· intro w' hK; go_simp; (try go_bits); exact ⟨rfl, rfl⟩); simp only [Act.put, pA, pB, pC]
  refine txEnd (fun W2 hK => ?_)
  go_upto_region 1 with (fail)
  refine wp_region_tx w hK ?_
  clear hK
  iterate 2 (apply txF (wants0 rfl); (· intro w' hK; go_simp; (try go_bits); exact ⟨rfl, rfl⟩); simp only [Act.put, pA, pB, pC])
  obtain ⟨b1, hb1⟩ : ∃ b : Bool, RowKit.Hid (((((digs B6 d).length : Int)) == 0) = b) := ⟨_, hid rfl⟩
  apply txB b1 (wants0 rfl); (· intro w' hK; go_simp; (try go_bits); exact ⟨by have q := hb1.out; subst q; first | rfl | simp, rfl⟩); simp only [Act.put, pA, pB, pC]
  refine txEnd (fun W3 hK => ?_)
  cases b1
  · --
   go_upto_region 3 with (fail)
   refine wp_region_tx w hK ?_
   clear hK
   iterate 2 (apply txF (wants0 rfl); (· intro w' hK; go_simp; (try go_bits); exact ⟨rfl, rfl⟩); simp only [Act.put, pA, pB, pC])
   apply txE (α := Sl) (fun sv => .slice sv.p (digs B6 (Nat.gcd n d)).length sv.c) (fun sv => [fun w => RefV w (.slice sv.p (digs B6 (Nat.gcd n d)).length sv.c) (Nat.gcd n d)]) (wants0 rfl)
   · intro f1 l1 hl1 w' hK; go_simp; (try go_bits); refine (rgcd_any d n (.slice p_h1 (digs B6 n).length c_h1) (.slice p_h2 (digs B6 d).length c_h2) w' (hK.get m2) (hK.get m1) (by omega) (by omega)).mono ?_; rintro e w5 ⟨y0, rfl, u0, hb⟩; obtain ⟨rfl, rfl⟩ := hl1.out; obtain ⟨p_u0, c_u0, rfl⟩ := u0.slr; exact ⟨_, rfl, (⟨p_u0, 0, c_u0⟩ : Sl), rfl, hb, .cons (fun w2 h2 => u0.below h2) (Lasts.nil _)⟩
   intro sv4
   simp only [Act.put, pA, pB, pC, pD, pE]
   apply txF (wants0 rfl); (· intro w' hK; go_simp; (try go_bits); exact ⟨rfl, rfl⟩); simp only [Act.put, pA, pB, pC]
   refine txEnd (fun W5 hK => ?_)
   go_upto_region 4 with (fail)
   refine wp_region_tx w hK ?_
   clear hK
   iterate 2 (apply txF (wants0 rfl); (· intro w' hK; go_simp; (try go_bits); exact ⟨rfl, rfl⟩); simp only [Act.put, pA, pB, pC])
   obtain ⟨z1, hz1⟩ : ∃ b : Int, RowKit.Hid ((errD (Nat.gcd n d)) = b) := ⟨_, hid rfl⟩
   apply txE (α := Duo (Sl) (Sl)) (fun sv => .tuple #[.slice sv.a.p (digs B6 (n / (Nat.gcd n d))).length sv.a.c, .slice sv.b.p (digs B6 (rem0 n (Nat.gcd n d))).length sv.b.c, .int .i64 z1]) (fun sv => [fun w => RefV w (.slice sv.a.p (digs B6 (n / (Nat.gcd n d))).length sv.a.c) (n / (Nat.gcd n d)), fun w => RefV w (.slice sv.b.p (digs B6 (rem0 n (Nat.gcd n d))).length sv.b.c) (rem0 n (Nat.gcd n d))]) (wants0 rfl)
   · intro f1 l1 hl1 w' hK; go_simp; (try go_bits); refine (rdm_any (.slice p_h1 (digs B6 n).length c_h1) (.slice sv4.p (digs B6 (Nat.gcd n d)).length sv4.c) n (Nat.gcd n d) w' (hK.get m3) (hK.get m0) (by omega) (by omega)).mono ?_; rintro e w5 ⟨y0, y1, rfl, u0, u1, hb⟩; obtain ⟨rfl, rfl⟩ := hl1.out; obtain ⟨p_u0, c_u0, rfl⟩ := u0.slr; obtain ⟨p_u1, c_u1, rfl⟩ := u1.slr; exact ⟨_, rfl, (⟨(⟨p_u0, 0, c_u0⟩ : Sl), (⟨p_u1, 0, c_u1⟩ : Sl)⟩ : Duo (Sl) (Sl)), (by rw [hz1.out]), hb, .cons (fun w2 h2 => u0.below h2) (.cons (fun w2 h2 => u1.below h2) (Lasts.nil _))⟩
   intro sv6
   simp only [Act.put, pA, pB, pC, pD, pE]
   iterate 7 (apply txF (wants0 rfl); (· intro w' hK; go_simp; (try go_bits); exact ⟨rfl, rfl⟩); simp only [Act.put, pA, pB, pC])
   refine txEnd (fun W7 hK => ?_)
   go_upto_region 5 with (fail)
   refine wp_region_tx w hK ?_
   clear hK
   iterate 2 (apply txF (wants0 rfl); (· intro w' hK; go_simp; (try go_bits); exact ⟨rfl, rfl⟩); simp only [Act.put, pA, pB, pC])
   obtain ⟨z2, hz2⟩ : ∃ b : Int, RowKit.Hid ((errD (Nat.gcd n d)) = b) := ⟨_, hid rfl⟩
   apply txE (α := Duo (Sl) (Sl)) (fun sv => .tuple #[.slice sv.a.p (digs B6 (d / (Nat.gcd n d))).length sv.a.c, .slice sv.b.p (digs B6 (rem0 d (Nat.gcd n d))).length sv.b.c, .int .i64 z2]) (fun sv => [fun w => RefV w (.slice sv.a.p (digs B6 (d / (Nat.gcd n d))).length sv.a.c) (d / (Nat.gcd n d)), fun w => RefV w (.slice sv.b.p (digs B6 (rem0 d (Nat.gcd n d))).length sv.b.c) (rem0 d (Nat.gcd n d))]) (wants0 rfl)
   · intro f1 l1 hl1 w' hK; go_simp; (try go_bits); refine (rdm_any (.slice p_h2 (digs B6 d).length c_h2) (.slice sv4.p (digs B6 (Nat.gcd n d)).length sv4.c) d (Nat.gcd n d) w' (hK.get m4) (hK.get m2) (by omega) (by omega)).mono ?_; rintro e w5 ⟨y0, y1, rfl, u0, u1, hb⟩; obtain ⟨rfl, rfl⟩ := hl1.out; obtain ⟨p_u0, c_u0, rfl⟩ := u0.slr; obtain ⟨p_u1, c_u1, rfl⟩ := u1.slr; exact ⟨_, rfl, (⟨(⟨p_u0, 0, c_u0⟩ : Sl), (⟨p_u1, 0, c_u1⟩ : Sl)⟩ : Duo (Sl) (Sl)), (by rw [hz2.out]), hb, .cons (fun w2 h2 => u0.below h2) (.cons (fun w2 h2 => u1.below h2) (Lasts.nil _))⟩
   intro sv8
   simp only [Act.put, pA, pB, pC, pD, pE]
   iterate 7 (apply txF (wants0 rfl); (· intro w' hK; go_simp; (try go_bits); exact ⟨rfl, rfl⟩); simp only [Act.put, pA, pB, pC])
   refine txEnd (fun W9 hK => ?_)
   go_upto_region 6 with (fail)
   refine wp_region_tx w hK ?_
   clear hK
   iterate 2 (apply txF (wants0 rfl); (· intro w' hK; go_simp; (try go_bits); exact ⟨rfl, rfl⟩); simp only [Act.put, pA, pB, pC])
   obtain ⟨b2, hb2⟩ : ∃ b : Bool, RowKit.Hid (((((digs B6 (d / (Nat.gcd n d))).length : Int)) == 1) = b) := ⟨_, hid rfl⟩
   apply txB b2 (wants0 rfl); (· intro w' hK; go_simp; (try go_bits); exact ⟨by have q := hb2.out; subst q; first | rfl | simp, rfl⟩); simp only [Act.put, pA, pB, pC]
   apply txF (wants0 rfl); (· intro w' hK; go_simp; (try go_bits); exact ⟨rfl, rfl⟩); simp only [Act.put, pA, pB, pC]
   cases b2
   · --
    iterate 4 (apply txN (j := 3) (d := 39) (b := true) rfl rfl rfl rfl; simp only [Act.put, pA, pB, pC])
    apply txF (wants0 rfl); (· intro w' hK; go_simp; (try go_bits); exact ⟨rfl, rfl⟩); simp only [Act.put, pA, pB, pC]
    refine txEnd (fun W10 hK => ?_)
    go_upto_region 8 with (fail)
    refine wp_region_tx w hK ?_
    clear hK
    iterate 2 (apply txF (wants0 rfl); (· intro w' hK; go_simp; (try go_bits); exact ⟨rfl, rfl⟩); simp only [Act.put, pA, pB, pC])
    obtain ⟨b3, hb3⟩ : ∃ b : Bool, RowKit.Hid (((((digs B6 (n / (Nat.gcd n d))).length : Int)) == 0) = b) := ⟨_, hid rfl⟩
    apply txB b3 (wants0 rfl); (· intro w' hK; go_simp; (try go_bits); exact ⟨by have q := hb3.out; subst q; first | rfl | simp, rfl⟩); simp only [Act.put, pA, pB, pC]
    refine txEnd (fun W11 hK => ?_)
    cases b3
    · --
     go_upto_region 10 with (fail)
     refine wp_region_tx w hK ?_
     clear hK
     iterate 4 (apply txF (wants0 rfl); (· intro w' hK; go_simp; (try go_bits); exact ⟨rfl, rfl⟩); simp only [Act.put, pA, pB, pC])
     apply txU 5 (Has w.heap.size R1 (.cells #[.bool s, .slice sv6.a.p (digs B6 (n / (Nat.gcd n d))).length sv6.a.c, .slice sv8.a.p (digs B6 (d / (Nat.gcd n d))).length sv8.a.c] 36)) (wants0 rfl)
     · intro l1 hl1 w' hK; have k_R1 := (hK.get m5); have ⟨c_R1_0, c_R1_1, c_R1_2⟩ := k_R1.c3; have f_R1 := k_R1.fz; have ni := noInt_of k_R1 nofun; go_simp; obtain rfl := hl1.out; exact ⟨rfl, ks_put (R := R1) hK k_R1.1 0 [.bool s, .slice sv6.a.p (digs B6 (n / (Nat.gcd n d))).length sv6.a.c, .slice sv8.a.p (digs B6 (d / (Nat.gcd n d))).length sv8.a.c] (al1 (spR ni (hK.get m0)) (al1 (spR ni (hK.get m1)) (al1 (spR ni (hK.get m2)) (al1 (spR ni (hK.get m3)) (al1 (spR ni (hK.get m4)) (al1 (fun _ => has_put k_R1 _ _) (al1 (spR ni (hK.get m6)) (al1 (spR ni (hK.get m7)) aN))))))))⟩
     simp only [Act.put, pB, pC]
     apply txF (wants0 rfl); (· intro w' hK; go_simp; (try go_bits); exact ⟨rfl, rfl⟩); simp only [Act.put, pA, pB, pC]
     refine txEnd (fun W12 hK => ?_)
     have k_R1 := (hK.get m5); have ⟨c_R1_0, c_R1_1, c_R1_2⟩ := k_R1.c3
     have hd0 : d ≠ 0 := len6_pos hb1.out
     go_wp2
     exact bodyPost_ret (v := .tuple #[.agg #[.bool s, .slice sv6.a.p (digs B6 (n / (Nat.gcd n d))).length sv6.a.c, .slice sv8.a.p (digs B6 (d / (Nat.gcd n d))).length sv8.a.c], .int .i64 0]) (by simp [results, Tryz.results56, go_sem, c_R1_0, c_R1_1, c_R1_2]) rfl ((by obtain rfl := hQ0.out; exact ⟨.agg #[.bool s, .slice sv6.a.p (digs B6 (n / (Nat.gcd n d))).length sv6.a.c, .slice sv8.a.p (digs B6 (d / (Nat.gcd n d))).length sv8.a.c], (by rw [if_neg (len6_pos hb1.out)]), (RefR.make hd0 (make_b1 s (len6_pos hb3.out)) (rfl) ((if_neg (fun e => by have := hb2.out; rw [e, digs6_1] at this; cases this)).symm) (hK.get m2) (hK.get m0)), hK.old⟩))
    · --
     go_upto_region 10 with (fail)
     refine wp_region_tx w hK ?_
     clear hK
     iterate 4 (apply txF (wants0 rfl); (· intro w' hK; go_simp; (try go_bits); exact ⟨rfl, rfl⟩); simp only [Act.put, pA, pB, pC])
     apply txU 5 (Has w.heap.size R1 (.cells #[.bool false, .slice none 0 0, .slice sv8.a.p (digs B6 (d / (Nat.gcd n d))).length sv8.a.c] 36)) (wants0 rfl)
     · intro l1 hl1 w' hK; have k_R1 := (hK.get m5); have ⟨c_R1_0, c_R1_1, c_R1_2⟩ := k_R1.c3; have f_R1 := k_R1.fz; have ni := noInt_of k_R1 nofun; go_simp; obtain rfl := hl1.out; exact ⟨rfl, ks_put (R := R1) hK k_R1.1 0 [.bool false, .slice none 0 0, .slice sv8.a.p (digs B6 (d / (Nat.gcd n d))).length sv8.a.c] (al1 (spR ni (hK.get m0)) (al1 (spR ni (hK.get m1)) (al1 (spR ni (hK.get m2)) (al1 (spR ni (hK.get m3)) (al1 (spR ni (hK.get m4)) (al1 (fun _ => has_put k_R1 _ _) (al1 (spR ni (hK.get m6)) (al1 (spR ni (hK.get m7)) aN))))))))⟩
     simp only [Act.put, pB, pC]
     apply txF (wants0 rfl); (· intro w' hK; go_simp; (try go_bits); exact ⟨rfl, rfl⟩); simp only [Act.put, pA, pB, pC]
     refine txEnd (fun W13 hK => ?_)
     have k_R1 := (hK.get m5); have ⟨c_R1_0, c_R1_1, c_R1_2⟩ := k_R1.c3
     have hd0 : d ≠ 0 := len6_pos hb1.out
     go_wp2
     exact bodyPost_ret (v := .tuple #[.agg #[.bool false, .slice none 0 0, .slice sv8.a.p (digs B6 (d / (Nat.gcd n d))).length sv8.a.c], .int .i64 0]) (by simp [results, Tryz.results56, go_sem, c_R1_0, c_R1_1, c_R1_2]) rfl ((by obtain rfl := hQ0.out; exact ⟨.agg #[.bool false, .slice none 0 0, .slice sv8.a.p (digs B6 (d / (Nat.gcd n d))).length sv8.a.c], (by rw [if_neg (len6_pos hb1.out)]), (RefR.make hd0 (make_b0 s hd0 (len6_zero hb3.out)) ((len6_zero hb3.out).symm) ((if_neg (fun e => by have := hb2.out; rw [e, digs6_1] at this; cases this)).symm) (RefV.zero _) (hK.get m0)), hK.old⟩))
   · --
    apply txF (wantsg (j := 3) (d := 39) (b := true) rfl rfl rfl rfl); (· intro w' hK; go_simp; (try go_bits); exact ⟨rfl, rfl⟩); simp only [Act.put, pA, pB, pC]
    refine Tx.know (fun w hK => RefV.one (hK.get m0) hb2.out) (fun hh => ?_)
    obtain ⟨g1, hp1⟩ := hh
    replace hp1 := hid hp1
    apply txF (wantsg (j := 3) (d := 39) (b := true) rfl rfl rfl rfl); (· intro w' hK; have hl1 := digs6_one hb2.out; have hp2 := hp1.out; go_simp; (try go_bits); exact ⟨rfl, rfl⟩); simp only [Act.put, pA, pB, pC]
    apply txF (wantsg (j := 3) (d := 39) (b := true) rfl rfl rfl rfl); (· intro w' hK; have q1 := (hK.get m0); rw [hp1.out] at q1; have q2 := RefV.cell1 q1 hb2.out; go_simp; (try go_bits); exact ⟨rfl, rfl⟩); simp only [Act.put, pA, pB, pC]
    obtain ⟨b3, hb3⟩ : ∃ b : Bool, RowKit.Hid ((((((d / Nat.gcd n d : Nat)) : Int)) == 1) = b) := ⟨_, hid rfl⟩
    apply txB b3 (wantsg (j := 3) (d := 39) (b := true) rfl rfl rfl rfl); (· intro w' hK; go_simp; (try go_bits); exact ⟨by have q := hb3.out; subst q; first | rfl | simp, rfl⟩); simp only [Act.put, pA, pB, pC]
    apply txF (wants0 rfl); (· intro w' hK; go_simp; (try go_bits); exact ⟨rfl, rfl⟩); simp only [Act.put, pA, pB, pC]
    refine txEnd (fun W14 hK => ?_)
    cases b3
    · --
     go_upto_region 8 with (fail)
     refine wp_region_tx w hK ?_
     clear hK
     iterate 2 (apply txF (wants0 rfl); (· intro w' hK; go_simp; (try go_bits); exact ⟨rfl, rfl⟩); simp only [Act.put, pA, pB, pC])
     obtain ⟨b4, hb4⟩ : ∃ b : Bool, RowKit.Hid (((((digs B6 (n / (Nat.gcd n d))).length : Int)) == 0) = b) := ⟨_, hid rfl⟩
     apply txB b4 (wants0 rfl); (· intro w' hK; go_simp; (try go_bits); exact ⟨by have q := hb4.out; subst q; first | rfl | simp, rfl⟩); simp only [Act.put, pA, pB, pC]
     refine txEnd (fun W15 hK => ?_)
     cases b4
     · --
      go_upto_region 10 with (fail)
      refine wp_region_tx w hK ?_
      clear hK
      iterate 4 (apply txF (wants0 rfl); (· intro w' hK; go_simp; (try go_bits); exact ⟨rfl, rfl⟩); simp only [Act.put, pA, pB, pC])
      apply txU 5 (Has w.heap.size R1 (.cells #[.bool s, .slice sv6.a.p (digs B6 (n / (Nat.gcd n d))).length sv6.a.c, .slice sv8.a.p (digs B6 (d / (Nat.gcd n d))).length sv8.a.c] 36)) (wants0 rfl)
      · intro l1 hl1 w' hK; have k_R1 := (hK.get m5); have ⟨c_R1_0, c_R1_1, c_R1_2⟩ := k_R1.c3; have f_R1 := k_R1.fz; have ni := noInt_of k_R1 nofun; go_simp; obtain rfl := hl1.out; exact ⟨rfl, ks_put (R := R1) hK k_R1.1 0 [.bool s, .slice sv6.a.p (digs B6 (n / (Nat.gcd n d))).length sv6.a.c, .slice sv8.a.p (digs B6 (d / (Nat.gcd n d))).length sv8.a.c] (al1 (spR ni (hK.get m0)) (al1 (spR ni (hK.get m1)) (al1 (spR ni (hK.get m2)) (al1 (spR ni (hK.get m3)) (al1 (spR ni (hK.get m4)) (al1 (fun _ => has_put k_R1 _ _) (al1 (spR ni (hK.get m6)) (al1 (spR ni (hK.get m7)) aN))))))))⟩
      simp only [Act.put, pB, pC]
      apply txF (wants0 rfl); (· intro w' hK; go_simp; (try go_bits); exact ⟨rfl, rfl⟩); simp only [Act.put, pA, pB, pC]
      refine txEnd (fun W16 hK => ?_)
      have k_R1 := (hK.get m5); have ⟨c_R1_0, c_R1_1, c_R1_2⟩ := k_R1.c3
      have hd0 : d ≠ 0 := len6_pos hb1.out
      go_wp2
      exact bodyPost_ret (v := .tuple #[.agg #[.bool s, .slice sv6.a.p (digs B6 (n / (Nat.gcd n d))).length sv6.a.c, .slice sv8.a.p (digs B6 (d / (Nat.gcd n d))).length sv8.a.c], .int .i64 0]) (by simp [results, Tryz.results56, go_sem, c_R1_0, c_R1_1, c_R1_2]) rfl ((by obtain rfl := hQ0.out; exact ⟨.agg #[.bool s, .slice sv6.a.p (digs B6 (n / (Nat.gcd n d))).length sv6.a.c, .slice sv8.a.p (digs B6 (d / (Nat.gcd n d))).length sv8.a.c], (by rw [if_neg (len6_pos hb1.out)]), (RefR.make hd0 (make_b1 s (len6_pos hb4.out)) (rfl) ((if_neg (beq1_f hb3.out)).symm) (hK.get m2) (hK.get m0)), hK.old⟩))
     · --
      go_upto_region 10 with (fail)
      refine wp_region_tx w hK ?_
      clear hK
      iterate 4 (apply txF (wants0 rfl); (· intro w' hK; go_simp; (try go_bits); exact ⟨rfl, rfl⟩); simp only [Act.put, pA, pB, pC])
      apply txU 5 (Has w.heap.size R1 (.cells #[.bool false, .slice none 0 0, .slice sv8.a.p (digs B6 (d / (Nat.gcd n d))).length sv8.a.c] 36)) (wants0 rfl)
      · intro l1 hl1 w' hK; have k_R1 := (hK.get m5); have ⟨c_R1_0, c_R1_1, c_R1_2⟩ := k_R1.c3; have f_R1 := k_R1.fz; have ni := noInt_of k_R1 nofun; go_simp; obtain rfl := hl1.out; exact ⟨rfl, ks_put (R := R1) hK k_R1.1 0 [.bool false, .slice none 0 0, .slice sv8.a.p (digs B6 (d / (Nat.gcd n d))).length sv8.a.c] (al1 (spR ni (hK.get m0)) (al1 (spR ni (hK.get m1)) (al1 (spR ni (hK.get m2)) (al1 (spR ni (hK.get m3)) (al1 (spR ni (hK.get m4)) (al1 (fun _ => has_put k_R1 _ _) (al1 (spR ni (hK.get m6)) (al1 (spR ni (hK.get m7)) aN))))))))⟩
      simp only [Act.put, pB, pC]
      apply txF (wants0 rfl); (· intro w' hK; go_simp; (try go_bits); exact ⟨rfl, rfl⟩); simp only [Act.put, pA, pB, pC]
      refine txEnd (fun W17 hK => ?_)
      have k_R1 := (hK.get m5); have ⟨c_R1_0, c_R1_1, c_R1_2⟩ := k_R1.c3
      have hd0 : d ≠ 0 := len6_pos hb1.out
      go_wp2
      exact bodyPost_ret (v := .tuple #[.agg #[.bool false, .slice none 0 0, .slice sv8.a.p (digs B6 (d / (Nat.gcd n d))).length sv8.a.c], .int .i64 0]) (by simp [results, Tryz.results56, go_sem, c_R1_0, c_R1_1, c_R1_2]) rfl ((by obtain rfl := hQ0.out; exact ⟨.agg #[.bool false, .slice none 0 0, .slice sv8.a.p (digs B6 (d / (Nat.gcd n d))).length sv8.a.c], (by rw [if_neg (len6_pos hb1.out)]), (RefR.make hd0 (make_b0 s hd0 (len6_zero hb4.out)) ((len6_zero hb4.out).symm) ((if_neg (beq1_f hb3.out)).symm) (RefV.zero _) (hK.get m0)), hK.old⟩))
    · --
     go_upto_region 8 with (fail)
     refine wp_region_tx w hK ?_
     clear hK
     iterate 2 (apply txF (wants0 rfl); (· intro w' hK; go_simp; (try go_bits); exact ⟨rfl, rfl⟩); simp only [Act.put, pA, pB, pC])
     obtain ⟨b4, hb4⟩ : ∃ b : Bool, RowKit.Hid (((((digs B6 (n / (Nat.gcd n d))).length : Int)) == 0) = b) := ⟨_, hid rfl⟩
     apply txB b4 (wants0 rfl); (· intro w' hK; go_simp; (try go_bits); exact ⟨by have q := hb4.out; subst q; first | rfl | simp, rfl⟩); simp only [Act.put, pA, pB, pC]
     refine txEnd (fun W18 hK => ?_)
     cases b4
     · --
      go_upto_region 10 with (fail)
      refine wp_region_tx w hK ?_
      clear hK
      iterate 4 (apply txF (wants0 rfl); (· intro w' hK; go_simp; (try go_bits); exact ⟨rfl, rfl⟩); simp only [Act.put, pA, pB, pC])
      apply txU 5 (Has w.heap.size R1 (.cells #[.bool s, .slice sv6.a.p (digs B6 (n / (Nat.gcd n d))).length sv6.a.c, .slice none 0 0] 36)) (wants0 rfl)
      · intro l1 hl1 w' hK; have k_R1 := (hK.get m5); have ⟨c_R1_0, c_R1_1, c_R1_2⟩ := k_R1.c3; have f_R1 := k_R1.fz; have ni := noInt_of k_R1 nofun; go_simp; obtain rfl := hl1.out; exact ⟨rfl, ks_put (R := R1) hK k_R1.1 0 [.bool s, .slice sv6.a.p (digs B6 (n / (Nat.gcd n d))).length sv6.a.c, .slice none 0 0] (al1 (spR ni (hK.get m0)) (al1 (spR ni (hK.get m1)) (al1 (spR ni (hK.get m2)) (al1 (spR ni (hK.get m3)) (al1 (spR ni (hK.get m4)) (al1 (fun _ => has_put k_R1 _ _) (al1 (spR ni (hK.get m6)) (al1 (spR ni (hK.get m7)) aN))))))))⟩
      simp only [Act.put, pB, pC]
      apply txF (wants0 rfl); (· intro w' hK; go_simp; (try go_bits); exact ⟨rfl, rfl⟩); simp only [Act.put, pA, pB, pC]
      refine txEnd (fun W19 hK => ?_)
      have k_R1 := (hK.get m5); have ⟨c_R1_0, c_R1_1, c_R1_2⟩ := k_R1.c3
      have hd0 : d ≠ 0 := len6_pos hb1.out
      go_wp2
      exact bodyPost_ret (v := .tuple #[.agg #[.bool s, .slice sv6.a.p (digs B6 (n / (Nat.gcd n d))).length sv6.a.c, .slice none 0 0], .int .i64 0]) (by simp [results, Tryz.results56, go_sem, c_R1_0, c_R1_1, c_R1_2]) rfl ((by obtain rfl := hQ0.out; exact ⟨.agg #[.bool s, .slice sv6.a.p (digs B6 (n / (Nat.gcd n d))).length sv6.a.c, .slice none 0 0], (by rw [if_neg (len6_pos hb1.out)]), (RefR.make hd0 (make_b1 s (len6_pos hb4.out)) (rfl) ((if_pos (beq1_t hb3.out)).symm) (hK.get m2) (RefV.zero _)), hK.old⟩))
     · --
      go_upto_region 10 with (fail)
      refine wp_region_tx w hK ?_
      clear hK
      iterate 4 (apply txF (wants0 rfl); (· intro w' hK; go_simp; (try go_bits); exact ⟨rfl, rfl⟩); simp only [Act.put, pA, pB, pC])
      apply txU 5 (Has w.heap.size R1 (.cells #[.bool false, .slice none 0 0, .slice none 0 0] 36)) (wants0 rfl)
      · intro l1 hl1 w' hK; have k_R1 := (hK.get m5); have ⟨c_R1_0, c_R1_1, c_R1_2⟩ := k_R1.c3; have f_R1 := k_R1.fz; have ni := noInt_of k_R1 nofun; go_simp; obtain rfl := hl1.out; exact ⟨rfl, ks_put (R := R1) hK k_R1.1 0 [.bool false, .slice none 0 0, .slice none 0 0] (al1 (spR ni (hK.get m0)) (al1 (spR ni (hK.get m1)) (al1 (spR ni (hK.get m2)) (al1 (spR ni (hK.get m3)) (al1 (spR ni (hK.get m4)) (al1 (fun _ => has_put k_R1 _ _) (al1 (spR ni (hK.get m6)) (al1 (spR ni (hK.get m7)) aN))))))))⟩
      simp only [Act.put, pB, pC]
      apply txF (wants0 rfl); (· intro w' hK; go_simp; (try go_bits); exact ⟨rfl, rfl⟩); simp only [Act.put, pA, pB, pC]
      refine txEnd (fun W20 hK => ?_)
      have k_R1 := (hK.get m5); have ⟨c_R1_0, c_R1_1, c_R1_2⟩ := k_R1.c3
      have hd0 : d ≠ 0 := len6_pos hb1.out
      go_wp2
      exact bodyPost_ret (v := .tuple #[.agg #[.bool false, .slice none 0 0, .slice none 0 0], .int .i64 0]) (by simp [results, Tryz.results56, go_sem, c_R1_0, c_R1_1, c_R1_2]) rfl ((by obtain rfl := hQ0.out; exact ⟨.agg #[.bool false, .slice none 0 0, .slice none 0 0], (by rw [if_neg (len6_pos hb1.out)]), (RefR.make hd0 (make_b0 s hd0 (len6_zero hb4.out)) ((len6_zero hb4.out).symm) ((if_pos (beq1_t hb3.out)).symm) (RefV.zero _) (RefV.zero _)), hK.old⟩))
  · --
   go_upto_region 2 with (fail)
   refine wp_region_tx w hK ?_
   clear hK
   apply txF (wants0 rfl); (· intro w' hK; go_simp; (try go_bits); exact ⟨rfl, rfl⟩); simp only [Act.put, pA, pB, pC]
   apply txU 0 (Has w.heap.size R1 (.cells #[.bool false, .slice none 0 0, .slice none 0 0] 36)) (wants0 rfl)
   · intro l1 hl1 w' hK; have k_R1 := (hK.get m0); have ⟨c_R1_0, c_R1_1, c_R1_2⟩ := k_R1.c3; have f_R1 := k_R1.fz; have ni := noInt_of k_R1 nofun; go_simp; obtain rfl := hl1.out; exact ⟨rfl, ks_put (R := R1) hK k_R1.1 0 [.bool false, .slice none 0 0, .slice none 0 0] (al1 (fun _ => has_put k_R1 _ _) (al1 (spR ni (hK.get m1)) (al1 (spR ni (hK.get m2)) aN)))⟩
   simp only [Act.put, pB]
   apply txF (wants0 rfl); (· intro w' hK; go_simp; (try go_bits); exact ⟨rfl, rfl⟩); simp only [Act.put, pA, pB, pC]
   refine txEnd (fun W21 hK => ?_)
   have k_R1 := (hK.get m0); have ⟨c_R1_0, c_R1_1, c_R1_2⟩ := k_R1.c3
   go_wp2
   exact bodyPost_ret (v := .tuple #[.agg #[.bool false, .slice none 0 0, .slice none 0 0], .int .i64 10]) (by simp [results, Tryz.results56, go_sem, c_R1_0, c_R1_1, c_R1_2]) rfl ((by obtain rfl := hQ0.out; exact ⟨.agg #[.bool false, .slice none 0 0, .slice none 0 0], (by rw [if_pos (len6_zero hb1.out)]), (by rw [len6_zero hb1.out, ofS_00]; exact RefR.zero _), hK.old⟩))
theorem len6_lt {n : Nat} {b : Bool} (h : decide (0 < ((digs B6 n).length : Int)) = b) : (n = 0 ↔ b = false) := by
  rw [← h]
  constructor
  · intro e; rw [e, digs_zero]; rfl
  · intro e
    have : ¬ 0 < ((digs B6 n).length : Int) := by simpa using e
    exact (digs_eq_nil b6_2).1 (List.eq_nil_of_length_eq_zero (by omega))
end Go.Proofs.YtiilkcdefpmimaaGreatDoor
