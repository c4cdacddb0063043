/- Check and Accepts walked. -/
import Derived.Test.YtcdbgincfdejkaaGreatDoorTz
import Derived.Test.YtcdbgincfdejkaaGreatDoorCerC
import Derived.Laws.EntriesVeiled
namespace Go.Proofs.YtcdbgincfdejkaaGreatDoor
open Go.RowKit
open Go.Lib (decDigits)
structure LmR (R : LpRes) : Prop where
  x : LmL 300 R.x
  y : LmL 300 R.y
  r : LmL 300 R.r
  z : LmQ 8000 R.z
  xl : R.x.length ≤ 100000
  yl : R.y.length ≤ 100000
  rl : R.r.length ≤ 100000
theorem zerosQ_at {n k : Nat} (h : k < n) : (zerosQ n)[k]? = some 0 := by simp [zerosQ, h]
theorem sg_ne0 {x : Rat} {z : Int} (h : sgQ x = z) (hz : z ≠ 0) : decide (x = 0) = false := decide_eq_false fun e => hz ((sg_z h).2 e)
theorem sg_is0 {x : Rat} {z : Int} (h : sgQ x = z) (hz : z = 0) : decide (x = 0) = true := decide_eq_true ((sg_z h).1 hz)
theorem cmp_b {x y : Rat} {z : Int} {b : Bool} (h : sgQ (x - y) = z) (hb : (z == 0) = b) : decide (x = y) = b := by
  rw [← hb, Bool.eq_iff_iff, decide_eq_true_eq, beq_iff_eq, sg_z h]; exact sub_z.symm
theorem sglt_b {x : Rat} {z : Int} {b : Bool} (h : sgQ x = z) (hb : decide (z < 0) = b) : decide (x < 0) = b := by rw [← hb, Bool.eq_iff_iff, decide_eq_true_eq, decide_eq_true_eq]; exact (sg_lt h).symm
theorem sggt_b {x : Rat} {z : Int} {b : Bool} (h : sgQ x = z) (hb : decide (0 < z) = b) : decide (0 < x) = b := by rw [← hb, Bool.eq_iff_iff, decide_eq_true_eq, decide_eq_true_eq]; exact (sg_gt h).symm
theorem len0_n {α : Type} {l : List α} {b : Bool} (h : decide (0 < (l.length : Int)) = b) : decide (l.length = 0) = !b := by rw [← h, Bool.eq_iff_iff, decide_eq_true_eq, Bool.not_eq_true', decide_eq_false_iff_not]; omega
theorem gap_b {z : Int} {a : Int} {b : Bool} (h : a = z) (hb : (z != 0) = b) : decide (a = 0) = !b := by subst h; rw [← hb, Bool.eq_iff_iff]; simp
set_option maxRecDepth 100000 in
set_option maxHeartbeats 1000000 in
theorem optimal_any (v0 : Value) (v1 : Value) (P : LPd) (R : LpRes) (w : World) (h0 : LpV w v0 P) (h1 : LrV w v1 R) (hL : LmP 300 P) (hR : LmR R) (hbl : P.b.length ≤ 100000) (hv : vldP P = true) :
    Calls Tryz.prog 68 #[v0, v1] w fun e w' => e = .returned (.bool (chk1 P R)) ∧ Below w.heap.size w w' := by
  have h0_0 := h0; obtain ⟨⟨p_h0, l_h0, c_h0⟩, ⟨q_h0, m_h0, d_h0⟩, ⟨r_h0, n_h0, e_h0⟩, rfl, h0_1, h0_2, h0_3⟩ := h0
  have h1_0 := h1; obtain ⟨⟨p_h1, l_h1, c_h1⟩, ⟨q_h1, m_h1, d_h1⟩, ⟨r_h1, n_h1, e_h1⟩, s_h1, ⟨u_h1, i_h1, v_h1⟩, ⟨w_h1, j_h1, x_h1⟩, rfl, h1_1, h1_2, h1_3, h1_4⟩ := h1
  have hK := (KS.start w)
  have hn12 := hL.n
  have hm12 := hL.m
  refine Calls.hide (fun Q0 hQ0 => ?_)
  go_enter Tryz.func68, Tryz.ntmps68
  go_upto_region 0 with (fail)
  refine wp_region_tx w hK ?_
  clear hK
  refine tA (.cells #[.slice p_h0 P.c.length c_h0, .slice q_h0 P.A.length d_h0, .slice r_h0 P.b.length e_h0] 49) (fun R1 q_R1 => ?_)
  clear q_R1
  refine tA (.cells #[.int .i64 R.k, .slice p_h1 R.x.length c_h1, .slice q_h1 R.y.length d_h1, .slice r_h1 R.r.length e_h1, .bool s_h1, .slice u_h1 i_h1 v_h1, .slice w_h1 j_h1 x_h1] 57) (fun R2 q_R2 => ?_)
  have o_R1_R2 : R1 < R2 := q_R2 _ _ _ m0
  clear q_R2
  refine tF ?_
  refine txEnd (fun W3 hK => ?_)
  go_upto_region 1 with (fail)
  refine wp_region_tx w hK ?_
  clear hK
  refine tL m1 ?_
  refine tF ?_
  refine tL m0 ?_
  refine tF ?_
  refine tL m0 ?_
  obtain ⟨z1, hz1⟩ : ∃ b : Int, RowKit.Hid ((gapE P R.x R.y) = b) := ⟨_, hid rfl⟩
  refine tEQ (fun w' hK => gap_any (.agg #[.slice p_h0 P.c.length c_h0, .slice q_h0 P.A.length d_h0, .slice r_h0 P.b.length e_h0]) (.slice p_h1 R.x.length c_h1) (.slice q_h1 R.y.length d_h1) P R.x R.y w' (h0_0.below hK.old) (h1_1.below hK.old) (h1_2.below hK.old) hL hR.x hR.y hR.xl hR.yl hbl) (fun sv4 => ?_) (g := fun y => .tuple #[y, .int .i64 z1]) (hv := fun _ => (by rw [hz1.out]))
  iterate 3 (refine tF ?_)
  refine tA (.cells #[.bool false, .slice none 0 0, .slice none 0 0] 55) (fun R5 q_R5 => ?_)
  have o_R1_R5 : R1 < R5 := q_R5 _ _ _ m4
  have o_R2_R5 : R2 < R5 := q_R5 _ _ _ m3
  clear q_R5
  refine tS m0 0 [.bool (isN (gapQ P R.x R.y)), .slice sv4.a.p sv4.a.l sv4.a.c, .slice sv4.b.p sv4.b.l sv4.b.c] (fun w' hK _ ni => kP [.bool (isN (gapQ P R.x R.y)), .slice sv4.a.p sv4.a.l sv4.a.c, .slice sv4.b.p sv4.b.l sv4.b.c] (kQ ni (kM ni (kM ni (kL o_R2_R5 (kL o_R1_R5 kZ)))))) ?_
  refine tF ?_
  refine txEnd (fun W6 hK => ?_)
  go_upto_region 2 with (fail)
  refine wp_region_tx w hK ?_
  clear hK
  refine tF ?_
  refine tB (z1 != 0) (fun b1 hb1 => ?_)
  refine tF ?_
  cases b1
  · --
   refine tL m0 ?_
   obtain ⟨z2, hz2⟩ : ∃ b : Int, RowKit.Hid ((sgQ (gapQ P R.x R.y)) = b) := ⟨_, hid rfl⟩
   refine tH (fun w' hK => sign_any (.agg #[.bool (isN (gapQ P R.x R.y)), .slice sv4.a.p sv4.a.l sv4.a.c, .slice sv4.b.p sv4.b.l sv4.b.c]) (gapQ P R.x R.y) w' (hK.get m1)) ?_ (v := .int .i64 z2) (hv := (by rw [hz2.out]))
   refine tB (z2 != 0) (fun b2 hb2 => ?_)
   iterate 2 (refine tF ?_)
   cases b2
   · --
    refine tF ?_
    refine tL m4 ?_
    refine tF ?_
    refine tB (decide (0 < ((R.r.length : Int)))) (fun b3 hb3 => ?_)
    refine tF ?_
    refine txEnd (fun W7 hK => ?_)
    cases b3
    · --
     have q_b3 : ((R.r.length : Int)) ≤ 0 := Int.not_lt.1 (of_decide_eq_false hb3.out)
     have hgz := hid (show gapE P R.x R.y = 0 from by have q := hz1.out; have q2 := hb1.out; simp at q2; omega)
     have hxl := hid (show R.x.length = P.c.length from (fea_iff.1 ((gap_ok hv).1 hgz.out).1).1)
     go_upto_region 4 with (fail)
     have hK0 := hK
     refine wp_region_float0 (w) _ _ [0, 0, 0, 0, 2, 0, 0, 1, 0, 0] (by kernel_rfl) (by kernel_rfl) (by kernel_rfl) (by kernel_rfl) (KS.drew hK0) (KS.drew hK) ?_
     clear hK hK0
     refine lF ?_
     refine lL m5 ?_
     refine lF ?_
     refine lL m4 ?_
     refine lEQ (fun w' h0 hK => dot_any (.slice p_h0 P.c.length c_h0) (.slice p_h1 R.x.length c_h1) P.c R.x w' (h0_1.below hK.old) (h1_1.below hK.old) (by omega) (by have := hxl.out; omega) hL.c hR.x) (fun sv8 => ?_)
     refine lF ?_
     refine lL m4 ?_
     obtain ⟨z3, hz3⟩ : ∃ b : Int, RowKit.Hid ((sgQ ((dotQ P.c R.x) - R.z)) = b) := ⟨_, hid rfl⟩
     apply lxH1 (v := .int .i64 z3) (wants0 rfl)
     · intro v1 hv1 w' h0 hK; go_simp; (try go_bits); refine (qcmp_any (.agg #[.bool (isN (dotQ P.c R.x)), .slice sv8.a.p sv8.a.l sv8.a.c, .slice sv8.b.p sv8.b.l sv8.b.c]) (.agg #[.bool s_h1, .slice u_h1 i_h1 v_h1, .slice w_h1 j_h1 x_h1]) (dotQ P.c R.x) R.z w' (hK.get m0) (h1_4.below hK.old) (dot_lmF (by omega) hL.c hR.x) hR.z (by decide)).mono ?_; rintro e w5 ⟨rfl, hb⟩; obtain rfl := hv1.out; exact ⟨_, rfl, (by rw [hz3.out]), hb⟩
     simp only [Act.put, pA, pB, pC]
     refine lB (z3 == 0) (fun b4 hb4 => ?_)
     refine lF ?_
     refine lxEnd (fun W9 hK => ?_)
     go_wp2
     try go_ret
     show Q0 (.returned (.bool b4)) _
     exact (by obtain rfl := hQ0.out; exact ⟨(ret_bool (by unfold chk1; simp only [(gap_b hz1.out hb1.out), (sg_is0 hz2.out (by have q := hb2.out; simpa using q)), (len0_n hb3.out), (cmp_b hz3.out hb4.out), Bool.true_and, Bool.and_true, Bool.not_false])), hK.old⟩)
    · --
     have q_b3 : 0 < ((R.r.length : Int)) := of_decide_eq_true hb3.out
     go_wp2
     try go_ret
     show Q0 (.returned (.bool false)) _
     exact (by obtain rfl := hQ0.out; exact ⟨(ret_bool (by unfold chk1; simp only [(gap_b hz1.out hb1.out), (sg_is0 hz2.out (by have q := hb2.out; simpa using q)), (len0_n hb3.out), Bool.and_true, Bool.false_and, Bool.and_false, Bool.not_true, Bool.not_false])), hK.old⟩)
   · --
    iterate 4 (refine tN ?_)
    refine tF ?_
    refine txEnd (fun W10 hK => ?_)
    go_wp2
    try go_ret
    show Q0 (.returned (.bool false)) _
    exact (by obtain rfl := hQ0.out; exact ⟨(ret_bool (by unfold chk1; simp only [(gap_b hz1.out hb1.out), (sg_ne0 hz2.out (by have q := hb2.out; simpa using q)), Bool.false_and, Bool.and_false, Bool.not_false])), hK.old⟩)
  · --
   iterate 3 (refine tN ?_)
   iterate 2 (refine tF ?_)
   iterate 4 (refine tN ?_)
   refine tF ?_
   refine txEnd (fun W11 hK => ?_)
   go_wp2
   try go_ret
   show Q0 (.returned (.bool false)) _
   exact (by obtain rfl := hQ0.out; exact ⟨(ret_bool (by unfold chk1; simp only [(gap_b hz1.out hb1.out), Bool.false_and, Bool.not_true])), hK.old⟩)
theorem natB_b {xs : List Rat} {n : Nat} {b : Bool} (h : natB xs (n : Int) = b) : (decide (xs.length = n) && nnB xs) = b := by
  rw [← h, Bool.eq_iff_iff, natB_iff, Bool.and_eq_true, decide_eq_true_eq]; exact And.comm
theorem cov0_step {P : LPd} {y : List Rat} {k : Nat} {z : Int} (ho : allN (covP P y (zerosQ P.c.length)) k = true) (hk : k < P.c.length) (hz : sgQ (colQ P y k) = z) (h : 0 ≤ z) : allN (covP P y (zerosQ P.c.length)) (k + 1) = true :=
  cov_step ho (zerosQ_at hk) (Rat.not_lt.1 fun e => by have := (sg_lt hz).2 e; omega)
theorem cov0_no {P : LPd} {y : List Rat} {k : Nat} {z : Int} (hk : k < P.c.length) (hz : sgQ (colQ P y k) = z) (h : z < 0) : allN (covP P y (zerosQ P.c.length)) P.c.length = false :=
  cov_no hk (zerosQ_at hk) (by have := (sg_lt hz).1 h; grind)
set_option maxRecDepth 100000 in
set_option maxHeartbeats 1000000 in
theorem infeasible_any (v0 : Value) (v1 : Value) (P : LPd) (R : LpRes) (w : World) (h0 : LpV w v0 P) (h1 : LrV w v1 R) (hL : LmP 300 P) (hR : LmR R) (_hbl : P.b.length ≤ 100000) (hok : P.Ok) :
    Calls Tryz.prog 69 #[v0, v1] w fun e w' => e = .returned (.bool (chk2 P R)) ∧ Below w.heap.size w w' := by
  have h0_0 := h0; obtain ⟨⟨p_h0, l_h0, c_h0⟩, ⟨q_h0, m_h0, d_h0⟩, ⟨r_h0, n_h0, e_h0⟩, rfl, h0_1, h0_2, h0_3⟩ := h0
  have h1_0 := h1; obtain ⟨⟨p_h1, l_h1, c_h1⟩, ⟨q_h1, m_h1, d_h1⟩, ⟨r_h1, n_h1, e_h1⟩, s_h1, ⟨u_h1, i_h1, v_h1⟩, ⟨w_h1, j_h1, x_h1⟩, rfl, h1_1, h1_2, h1_3, h1_4⟩ := h1
  have hK := (KS.start w)
  have hn12 := hL.n
  have hm12 := hL.m
  replace hok := hid hok
  refine Calls.hide (fun Q0 hQ0 => ?_)
  go_enter Tryz.func69, Tryz.ntmps69
  go_upto_region 0 with (fail)
  refine wp_region_tx w hK ?_
  clear hK
  refine tA (.cells #[.slice p_h0 P.c.length c_h0, .slice q_h0 P.A.length d_h0, .slice r_h0 P.b.length e_h0] 49) (fun R1 q_R1 => ?_)
  clear q_R1
  refine tA (.cells #[.int .i64 R.k, .slice p_h1 R.x.length c_h1, .slice q_h1 R.y.length d_h1, .slice r_h1 R.r.length e_h1, .bool s_h1, .slice u_h1 i_h1 v_h1, .slice w_h1 j_h1 x_h1] 57) (fun R2 q_R2 => ?_)
  have o_R1_R2 : R1 < R2 := q_R2 _ _ _ m0
  clear q_R2
  refine tF ?_
  refine txEnd (fun W3 hK => ?_)
  go_upto_region 1 with (fail)
  refine wp_region_tx w hK ?_
  clear hK
  refine tF ?_
  refine tL m0 ?_
  refine tF ?_
  refine tB (decide (0 < ((R.x.length : Int)))) (fun b1 hb1 => ?_)
  refine tF ?_
  cases b1
  · --
   have q_b1 : ((R.x.length : Int)) ≤ 0 := Int.not_lt.1 (of_decide_eq_false hb1.out)
   refine tF ?_
   refine tL m0 ?_
   refine tF ?_
   refine tB (decide (0 < ((R.r.length : Int)))) (fun b2 hb2 => ?_)
   iterate 2 (refine tF ?_)
   cases b2
   · --
    have q_b2 : ((R.r.length : Int)) ≤ 0 := Int.not_lt.1 (of_decide_eq_false hb2.out)
    refine tF ?_
    refine tL m0 ?_
    obtain ⟨z1, hz1⟩ : ∃ b : Int, RowKit.Hid ((sgQ R.z) = b) := ⟨_, hid rfl⟩
    refine tH (fun w' hK => sign_any (.agg #[.bool s_h1, .slice u_h1 i_h1 v_h1, .slice w_h1 j_h1 x_h1]) R.z w' (h1_4.below hK.old)) ?_ (v := .int .i64 z1) (hv := (by rw [hz1.out]))
    refine tB (z1 != 0) (fun b3 hb3 => ?_)
    iterate 2 (refine tF ?_)
    cases b3
    · --
     refine tF ?_
     refine tL m0 ?_
     refine tF ?_
     refine tL m1 ?_
     refine tF ?_
     obtain ⟨b4, hb4⟩ : ∃ b : Bool, RowKit.Hid ((natB R.y ((P.A.length : Int))) = b) := ⟨_, hid rfl⟩
     refine tH (fun w' hK => natural_any (.slice q_h1 R.y.length d_h1) R.y ((P.A.length : Int)) w' (h1_2.below hK.old) hR.yl) ?_ (v := .bool b4) (hv := (by rw [hb4.out]))
     iterate 2 (refine tF ?_)
     refine txEnd (fun W4 hK => ?_)
     cases b4
     · --
      go_wp2
      try go_ret
      show Q0 (.returned (.bool false)) _
      exact (by obtain rfl := hQ0.out; exact ⟨(ret_bool (by unfold chk2; simp only [(len0_n hb1.out), (len0_n hb2.out), (sg_is0 hz1.out (by have q := hb3.out; simpa using q)), (natB_b hb4.out), Bool.and_true, Bool.false_and, Bool.and_false, Bool.not_false])), hK.old⟩)
     · --
      have hyl := hid (natB_iff.1 hb4.out).2
      go_upto_region 3 with (fail)
      refine wp_region_tx w hK ?_
      clear hK
      refine tF ?_
      refine tL m1 ?_
      iterate 2 (refine tF ?_)
      refine txEnd (fun W5 hK => ?_)
      go_wp2_with fail
      go_loopw [34] (fun s34 wl => ∃ (k : Nat), s34 = .int .i64 (k : Int) ∧ (k ≤ P.c.length) ∧ RowKit.Hid (allN (covP P R.y (zerosQ P.c.length)) k = true) ∧ KS w [Has w.heap.size R2 (.cells #[.int .i64 R.k, .slice p_h1 R.x.length c_h1, .slice q_h1 R.y.length d_h1, .slice r_h1 R.r.length e_h1, .bool s_h1, .slice u_h1 i_h1 v_h1, .slice w_h1 j_h1 x_h1] 57), Has w.heap.size R1 (.cells #[.slice p_h0 P.c.length c_h0, .slice q_h0 P.A.length d_h0, .slice r_h0 P.b.length e_h0] 49)] wl) (fun s34 _ => P.c.length - (intOf s34).toNat)
      case atStart => exact ⟨0, rfl, (by omega), (hid rfl), ⟨hK.old, (al1 (hK.all _ m0) (al1 (hK.all _ m1) aN))⟩⟩
      case round =>
       clear hK
       obtain ⟨k, rfl, hk, ho, hK⟩ := hrel
       generalize wr = W6 at hK ⊢
       go_upto_region 4 with (fail)
       refine wp_region_tx w hK ?_
       clear hK
       refine tB (decide (((k : Int)) < ((P.c.length : Int)))) (fun b5 hb5 => ?_)
       refine txEnd (fun W7 hK => ?_)
       cases b5
       · --
        have q_b5 : ((P.c.length : Int)) ≤ ((k : Int)) := Int.not_lt.1 (of_decide_eq_false hb5.out)
        go_upto_region 9 with (fail)
        refine wp_region_tx w hK ?_
        clear hK
        refine tF ?_
        refine tL m0 ?_
        refine tF ?_
        refine tL m1 ?_
        refine tEQ (fun w' hK => dot_any (.slice q_h1 R.y.length d_h1) (.slice r_h0 P.b.length e_h0) R.y P.b w' (h1_2.below hK.old) (h0_3.below hK.old) (by have := hyl.out; omega) (by have := hyl.out; have := hok.out.hb; omega) hR.y hL.b) (fun sv8 => ?_)
        obtain ⟨z2, hz2⟩ : ∃ b : Int, RowKit.Hid ((sgQ (dotQ R.y P.b)) = b) := ⟨_, hid rfl⟩
        refine tH (fun w' hK => sign_any (.agg #[.bool (isN (dotQ R.y P.b)), .slice sv8.a.p sv8.a.l sv8.a.c, .slice sv8.b.p sv8.b.l sv8.b.c]) (dotQ R.y P.b) w' (hK.get m0)) ?_ (v := .int .i64 z2) (hv := (by rw [hz2.out]))
        refine tB (decide (z2 < 0)) (fun b6 hb6 => ?_)
        refine tF ?_
        refine txEnd (fun W9 hK => ?_)
        go_wp2
        try go_ret
        show Q0 (.returned (.bool b6)) _
        exact (by obtain rfl := hQ0.out; exact ⟨(ret_bool (by unfold chk2; simp only [(len0_n hb1.out), (len0_n hb2.out), (sg_is0 hz1.out (by have q := hb3.out; simpa using q)), (natB_b hb4.out), (allN_end ho.out (by omega) (by omega)), (sglt_b hz2.out hb6.out), Bool.true_and, Bool.and_true, Bool.not_false])), hK.old⟩)
       · --
        have q_b5 : ((k : Int)) < ((P.c.length : Int)) := of_decide_eq_true hb5.out
        go_upto_region 6 with (fail)
        refine wp_region_tx w hK ?_
        clear hK
        refine tL m1 ?_
        refine tF ?_
        refine tL m0 ?_
        refine tF ?_
        apply txE (α := Duo Sl Sl) (fun sv => .agg #[.bool (isN (colQ P R.y k)), .slice sv.a.p sv.a.l sv.a.c, .slice sv.b.p sv.b.l sv.b.c]) (fun sv => [fun w => RatV w (.agg #[.bool (isN (colQ P R.y k)), .slice sv.a.p sv.a.l sv.a.c, .slice sv.b.p sv.b.l sv.b.c]) (colQ P R.y k), fun w => NatV w (.agg #[.slice sv.a.p sv.a.l sv.a.c]) ((colQ P R.y k).num.natAbs), fun w => NatV w (.agg #[.slice sv.b.p sv.b.l sv.b.c]) (den0 (colQ P R.y k))]) (wants0 rfl)
        · intro f1 l1 hl1 w' hK; go_simp; (try go_bits); refine (column_any (.agg #[.slice p_h0 P.c.length c_h0, .slice q_h0 P.A.length d_h0, .slice r_h0 P.b.length e_h0]) (.slice q_h1 R.y.length d_h1) P R.y k w' (h0_0.below hK.old) (h1_2.below hK.old) (by have := hyl.out; omega) (fun a ha => by rw [hok.out.ha a ha]; omega) (by omega) hR.y hL.a).mono ?_; rintro e w5 ⟨y0, rfl, u0, hb⟩; obtain ⟨rfl, rfl⟩ := hl1.out; have u0_0 := u0; obtain ⟨p_u0, l_u0, c_u0, q_u0, m_u0, d_u0, rfl, u0_1, u0_2⟩ := u0; exact ⟨_, rfl, (⟨⟨p_u0, l_u0, c_u0⟩, ⟨q_u0, m_u0, d_u0⟩⟩ : Duo Sl Sl), rfl, hb, .cons (fun w2 h2 => u0_0.below h2) (.cons (fun w2 h2 => u0_1.below h2) (.cons (fun w2 h2 => u0_2.below h2) (Lasts.nil _)))⟩
        intro sv10
        simp only [Act.put, pA, pB, pC, pD, pE]
        obtain ⟨z2, hz2⟩ : ∃ b : Int, RowKit.Hid ((sgQ (colQ P R.y k)) = b) := ⟨_, hid rfl⟩
        refine tH (fun w' hK => sign_any (.agg #[.bool (isN (colQ P R.y k)), .slice sv10.a.p sv10.a.l sv10.a.c, .slice sv10.b.p sv10.b.l sv10.b.c]) (colQ P R.y k) w' (hK.get m0)) ?_ (v := .int .i64 z2) (hv := (by rw [hz2.out]))
        refine tB (decide (z2 < 0)) (fun b6 hb6 => ?_)
        refine txEnd (fun W11 hK => ?_)
        cases b6
        · --
         have q_b6 : 0 ≤ z2 := Int.not_lt.1 (of_decide_eq_false hb6.out)
         (try go_wp2)
         go_roundw
         case rel => exact ⟨k + 1, (by first | rfl | go_num), (by omega), (hid (cov0_step ho.out (by omega) hz2.out (by have a_b3 := hb3.out; simp at a_b3; omega))), ⟨hK.old, (al1 (hK.all _ m3) (al1 (hK.all _ m4) aN))⟩⟩
         case measure => simp [intOf]; omega
        · --
         have q_b6 : z2 < 0 := of_decide_eq_true hb6.out
         go_wp2
         try go_ret
         show Q0 (.returned (.bool false)) _
         exact (by obtain rfl := hQ0.out; exact ⟨(ret_bool (by unfold chk2; simp only [(len0_n hb1.out), (len0_n hb2.out), (sg_is0 hz1.out (by have q := hb3.out; simpa using q)), (natB_b hb4.out), (cov0_no (by omega) hz2.out (by have a_b3 := hb3.out; simp at a_b3; omega)), Bool.and_true, Bool.false_and, Bool.and_false, Bool.not_false])), hK.old⟩)
    · --
     iterate 7 (refine tN ?_)
     refine tF ?_
     refine txEnd (fun W12 hK => ?_)
     go_wp2
     try go_ret
     show Q0 (.returned (.bool false)) _
     exact (by obtain rfl := hQ0.out; exact ⟨(ret_bool (by unfold chk2; simp only [(len0_n hb1.out), (len0_n hb2.out), (sg_ne0 hz1.out (by have q := hb3.out; simpa using q)), Bool.and_true, Bool.false_and, Bool.and_false, Bool.not_false])), hK.old⟩)
   · --
    have q_b2 : 0 < ((R.r.length : Int)) := of_decide_eq_true hb2.out
    iterate 4 (refine tN ?_)
    iterate 2 (refine tF ?_)
    iterate 7 (refine tN ?_)
    refine tF ?_
    refine txEnd (fun W13 hK => ?_)
    go_wp2
    try go_ret
    show Q0 (.returned (.bool false)) _
    exact (by obtain rfl := hQ0.out; exact ⟨(ret_bool (by unfold chk2; simp only [(len0_n hb1.out), (len0_n hb2.out), Bool.false_and, Bool.and_false, Bool.not_true, Bool.not_false])), hK.old⟩)
  · --
   have q_b1 : 0 < ((R.x.length : Int)) := of_decide_eq_true hb1.out
   iterate 4 (refine tN ?_)
   iterate 2 (refine tF ?_)
   iterate 4 (refine tN ?_)
   iterate 2 (refine tF ?_)
   iterate 7 (refine tN ?_)
   refine tF ?_
   refine txEnd (fun W14 hK => ?_)
   go_wp2
   try go_ret
   show Q0 (.returned (.bool false)) _
   exact (by obtain rfl := hQ0.out; exact ⟨(ret_bool (by unfold chk2; simp only [(len0_n hb1.out), Bool.false_and, Bool.not_true])), hK.old⟩)
set_option maxRecDepth 100000 in
set_option maxHeartbeats 1000000 in
theorem unbounded_any (v0 : Value) (v1 : Value) (P : LPd) (R : LpRes) (w : World) (h0 : LpV w v0 P) (h1 : LrV w v1 R) (hL : LmP 300 P) (hR : LmR R) (hbl : P.b.length ≤ 100000) (hok : P.Ok) :
    Calls Tryz.prog 70 #[v0, v1] w fun e w' => e = .returned (.bool (chk3 P R)) ∧ Below w.heap.size w w' := by
  have h0_0 := h0; obtain ⟨⟨p_h0, l_h0, c_h0⟩, ⟨q_h0, m_h0, d_h0⟩, ⟨r_h0, n_h0, e_h0⟩, rfl, h0_1, h0_2, h0_3⟩ := h0
  have h1_0 := h1; obtain ⟨⟨p_h1, l_h1, c_h1⟩, ⟨q_h1, m_h1, d_h1⟩, ⟨r_h1, n_h1, e_h1⟩, s_h1, ⟨u_h1, i_h1, v_h1⟩, ⟨w_h1, j_h1, x_h1⟩, rfl, h1_1, h1_2, h1_3, h1_4⟩ := h1
  have hK := (KS.start w)
  have hn12 := hL.n
  have hm12 := hL.m
  replace hok := hid hok
  refine Calls.hide (fun Q0 hQ0 => ?_)
  go_enter Tryz.func70, Tryz.ntmps70
  go_upto_region 0 with (fail)
  refine wp_region_tx w hK ?_
  clear hK
  refine tA (.cells #[.slice p_h0 P.c.length c_h0, .slice q_h0 P.A.length d_h0, .slice r_h0 P.b.length e_h0] 49) (fun R1 q_R1 => ?_)
  clear q_R1
  refine tA (.cells #[.int .i64 R.k, .slice p_h1 R.x.length c_h1, .slice q_h1 R.y.length d_h1, .slice r_h1 R.r.length e_h1, .bool s_h1, .slice u_h1 i_h1 v_h1, .slice w_h1 j_h1 x_h1] 57) (fun R2 q_R2 => ?_)
  have o_R1_R2 : R1 < R2 := q_R2 _ _ _ m0
  clear q_R2
  refine tF ?_
  refine txEnd (fun W3 hK => ?_)
  go_upto_region 1 with (fail)
  refine wp_region_tx w hK ?_
  clear hK
  refine tF ?_
  refine tL m0 ?_
  refine tF ?_
  refine tB (decide (0 < ((R.y.length : Int)))) (fun b1 hb1 => ?_)
  refine tF ?_
  cases b1
  · --
   have q_b1 : ((R.y.length : Int)) ≤ 0 := Int.not_lt.1 (of_decide_eq_false hb1.out)
   refine tF ?_
   refine tL m0 ?_
   obtain ⟨z1, hz1⟩ : ∃ b : Int, RowKit.Hid ((sgQ R.z) = b) := ⟨_, hid rfl⟩
   refine tH (fun w' hK => sign_any (.agg #[.bool s_h1, .slice u_h1 i_h1 v_h1, .slice w_h1 j_h1 x_h1]) R.z w' (h1_4.below hK.old)) ?_ (v := .int .i64 z1) (hv := (by rw [hz1.out]))
   refine tB (z1 != 0) (fun b2 hb2 => ?_)
   iterate 2 (refine tF ?_)
   cases b2
   · --
    refine tL m1 ?_
    refine tF ?_
    refine tL m0 ?_
    obtain ⟨b3, hb3⟩ : ∃ b : Bool, RowKit.Hid ((vldP P && feaB P R.x) = b) := ⟨_, hid rfl⟩
    refine tH (fun w' hK => feasible_any (.agg #[.slice p_h0 P.c.length c_h0, .slice q_h0 P.A.length d_h0, .slice r_h0 P.b.length e_h0]) (.slice p_h1 R.x.length c_h1) P R.x w' (h0_0.below hK.old) (h1_1.below hK.old) hL hR.x hR.xl hbl) ?_ (v := .bool b3) (hv := (by rw [hb3.out]))
    refine tF ?_
    iterate 2 (refine tF ?_)
    cases b3
    · --
     iterate 7 (refine tN ?_)
     refine tF ?_
     refine txEnd (fun W4 hK => ?_)
     go_wp2
     try go_ret
     show Q0 (.returned (.bool false)) _
     exact (by obtain rfl := hQ0.out; exact ⟨(ret_bool (by unfold chk3; simp only [(len0_n hb1.out), (sg_is0 hz1.out (by have q := hb2.out; simpa using q)), hb3.out, Bool.and_true, Bool.false_and, Bool.and_false, Bool.not_false])), hK.old⟩)
    · --
     refine tF ?_
     refine tL m0 ?_
     refine tF ?_
     refine tL m1 ?_
     refine tF ?_
     obtain ⟨b4, hb4⟩ : ∃ b : Bool, RowKit.Hid ((natB R.r ((P.c.length : Int))) = b) := ⟨_, hid rfl⟩
     refine tH (fun w' hK => natural_any (.slice r_h1 R.r.length e_h1) R.r ((P.c.length : Int)) w' (h1_3.below hK.old) hR.rl) ?_ (v := .bool b4) (hv := (by rw [hb4.out]))
     iterate 2 (refine tF ?_)
     refine txEnd (fun W5 hK => ?_)
     cases b4
     · --
      go_wp2
      try go_ret
      show Q0 (.returned (.bool false)) _
      exact (by obtain rfl := hQ0.out; exact ⟨(ret_bool (by unfold chk3; simp only [(len0_n hb1.out), (sg_is0 hz1.out (by have q := hb2.out; simpa using q)), hb3.out, (natB_b hb4.out), Bool.and_true, Bool.false_and, Bool.and_false, Bool.not_false])), hK.old⟩)
     · --
      have hrl := hid (natB_iff.1 hb4.out).2
      go_upto_region 3 with (fail)
      refine wp_region_tx w hK ?_
      clear hK
      refine tF ?_
      refine tL m1 ?_
      iterate 2 (refine tF ?_)
      refine txEnd (fun W6 hK => ?_)
      go_wp2_with fail
      go_loopw [36] (fun s36 wl => ∃ (k : Nat), s36 = .int .i64 (k : Int) ∧ (k ≤ P.A.length) ∧ RowKit.Hid (allN (falP P R.r) k = true) ∧ KS w [Has w.heap.size R2 (.cells #[.int .i64 R.k, .slice p_h1 R.x.length c_h1, .slice q_h1 R.y.length d_h1, .slice r_h1 R.r.length e_h1, .bool s_h1, .slice u_h1 i_h1 v_h1, .slice w_h1 j_h1 x_h1] 57), Has w.heap.size R1 (.cells #[.slice p_h0 P.c.length c_h0, .slice q_h0 P.A.length d_h0, .slice r_h0 P.b.length e_h0] 49)] wl) (fun s36 _ => P.A.length - (intOf s36).toNat)
      case atStart => exact ⟨0, rfl, (by omega), (hid rfl), ⟨hK.old, (al1 (hK.all _ m0) (al1 (hK.all _ m1) aN))⟩⟩
      case round =>
       clear hK
       obtain ⟨k, rfl, hk, ho, hK⟩ := hrel
       generalize wr = W7 at hK ⊢
       go_upto_region 4 with (fail)
       refine wp_region_tx w hK ?_
       clear hK
       refine tB (decide (((k : Int)) < ((P.A.length : Int)))) (fun b5 hb5 => ?_)
       refine txEnd (fun W8 hK => ?_)
       cases b5
       · --
        have q_b5 : ((P.A.length : Int)) ≤ ((k : Int)) := Int.not_lt.1 (of_decide_eq_false hb5.out)
        go_upto_region 9 with (fail)
        refine wp_region_tx w hK ?_
        clear hK
        refine tF ?_
        refine tL m1 ?_
        refine tF ?_
        refine tL m0 ?_
        refine tEQ (fun w' hK => dot_any (.slice p_h0 P.c.length c_h0) (.slice r_h1 R.r.length e_h1) P.c R.r w' (h0_1.below hK.old) (h1_3.below hK.old) (by omega) (by have := hrl.out; omega) hL.c hR.r) (fun sv9 => ?_)
        obtain ⟨z2, hz2⟩ : ∃ b : Int, RowKit.Hid ((sgQ (dotQ P.c R.r)) = b) := ⟨_, hid rfl⟩
        refine tH (fun w' hK => sign_any (.agg #[.bool (isN (dotQ P.c R.r)), .slice sv9.a.p sv9.a.l sv9.a.c, .slice sv9.b.p sv9.b.l sv9.b.c]) (dotQ P.c R.r) w' (hK.get m0)) ?_ (v := .int .i64 z2) (hv := (by rw [hz2.out]))
        refine tB (decide (0 < z2)) (fun b6 hb6 => ?_)
        refine tF ?_
        refine txEnd (fun W10 hK => ?_)
        go_wp2
        try go_ret
        show Q0 (.returned (.bool b6)) _
        exact (by obtain rfl := hQ0.out; exact ⟨(ret_bool (by unfold chk3; simp only [(len0_n hb1.out), (sg_is0 hz1.out (by have q := hb2.out; simpa using q)), hb3.out, (natB_b hb4.out), (show falB P R.r = true from allN_end ho.out (by omega) (by omega)), (sggt_b hz2.out hb6.out), Bool.true_and, Bool.and_true, Bool.not_false])), hK.old⟩)
       · --
        have q_b5 : ((k : Int)) < ((P.A.length : Int)) := of_decide_eq_true hb5.out
        obtain ⟨ra, era⟩ : ∃ x, RowKit.Hid (P.A[k]? = some x) := ⟨_, hid (List.getElem?_eq_getElem (show k < P.A.length from (by omega)))⟩
        have i11 : k < P.A.length := by have q : k < P.A.length := (by omega); first | exact q | (simp at q; omega) | omega
        obtain ⟨g11, o11, q11, l11⟩ := (h0_2).ptr era.out
        subst q11
        obtain ⟨c11_0, hK⟩ := KS.atL hK (h0_2.below hK.old) era.out
        have hra := hid (row_len hok.out era.out)
        go_upto_region 5 with (fail)
        refine wp_region_tx w hK ?_
        clear hK
        refine tF ?_
        apply txF (wants0 rfl); (· intro w' hK; have c_CEL11_0 : w'.cell? ⟨g11, o11 + k, none⟩ = some (.slice c11_0.p ra.length c11_0.c) := (by have q := (hK.get m0).2 0 _ rfl; simpa using q); go_simp; (try go_bits); exact ⟨rfl, rfl⟩); simp only [Act.put, pA, pB, pC]
        refine tF ?_
        refine txEnd (fun W12 hK => ?_)
        go_upto_region 6 with (fail)
        refine wp_region_tx w hK ?_
        clear hK
        iterate 2 (refine tF ?_)
        refine tL m2 ?_
        refine tEQ (fun w' hK => dot_any (.slice c11_0.p ra.length c11_0.c) (.slice r_h1 R.r.length e_h1) ra R.r w' (hK.get m1) (h1_3.below hK.old) (by have := hra.out; omega) (by have := hra.out; have := hrl.out; omega) (hL.a _ (List.mem_of_getElem? era.out)) hR.r) (fun sv13 => ?_)
        obtain ⟨z2, hz2⟩ : ∃ b : Int, RowKit.Hid ((sgQ (dotQ ra R.r)) = b) := ⟨_, hid rfl⟩
        refine tH (fun w' hK => sign_any (.agg #[.bool (isN (dotQ ra R.r)), .slice sv13.a.p sv13.a.l sv13.a.c, .slice sv13.b.p sv13.b.l sv13.b.c]) (dotQ ra R.r) w' (hK.get m0)) ?_ (v := .int .i64 z2) (hv := (by rw [hz2.out]))
        refine tB (decide (0 < z2)) (fun b6 hb6 => ?_)
        refine txEnd (fun W14 hK => ?_)
        cases b6
        · --
         have q_b6 : z2 ≤ 0 := Int.not_lt.1 (of_decide_eq_false hb6.out)
         (try go_wp2)
         go_roundw
         case rel => exact ⟨k + 1, (by first | rfl | go_num), (by omega), (hid (fal_step ho.out era.out hz2.out (by have a_b2 := hb2.out; simp at a_b2; omega))), ⟨hK.old, (al1 (hK.all _ m5) (al1 (hK.all _ m6) aN))⟩⟩
         case measure => simp [intOf]; omega
        · --
         have q_b6 : 0 < z2 := of_decide_eq_true hb6.out
         go_wp2
         try go_ret
         show Q0 (.returned (.bool false)) _
         exact (by obtain rfl := hQ0.out; exact ⟨(ret_bool (by unfold chk3; simp only [(len0_n hb1.out), (sg_is0 hz1.out (by have q := hb2.out; simpa using q)), hb3.out, (natB_b hb4.out), (show falB P R.r = false from fal_no era.out hz2.out (by have a_b2 := hb2.out; simp at a_b2; omega)), Bool.and_true, Bool.false_and, Bool.and_false, Bool.not_false])), hK.old⟩)
   · --
    iterate 5 (refine tN ?_)
    iterate 2 (refine tF ?_)
    iterate 7 (refine tN ?_)
    refine tF ?_
    refine txEnd (fun W15 hK => ?_)
    go_wp2
    try go_ret
    show Q0 (.returned (.bool false)) _
    exact (by obtain rfl := hQ0.out; exact ⟨(ret_bool (by unfold chk3; simp only [(len0_n hb1.out), (sg_ne0 hz1.out (by have q := hb2.out; simpa using q)), Bool.false_and, Bool.and_false, Bool.not_false])), hK.old⟩)
  · --
   have q_b1 : 0 < ((R.y.length : Int)) := of_decide_eq_true hb1.out
   iterate 4 (refine tN ?_)
   iterate 2 (refine tF ?_)
   iterate 5 (refine tN ?_)
   iterate 2 (refine tF ?_)
   iterate 7 (refine tN ?_)
   refine tF ?_
   refine txEnd (fun W16 hK => ?_)
   go_wp2
   try go_ret
   show Q0 (.returned (.bool false)) _
   exact (by obtain rfl := hQ0.out; exact ⟨(ret_bool (by unfold chk3; simp only [(len0_n hb1.out), Bool.false_and, Bool.not_true])), hK.old⟩)
theorem LmR.k {R : LpRes} (h : LmR R) (k : Int) : LmR ⟨k, R.x, R.y, R.r, R.z⟩ := ⟨h.x, h.y, h.r, h.z, h.xl, h.yl, h.rl⟩
theorem chk_no {P : LPd} {R : LpRes} (h : vldP P = false ∨ R.k < 1 ∨ 3 < R.k) : chkB P R = false := by
  unfold chkB
  rcases h with h | h | h
  · rw [h]; rfl
  · rw [if_neg (by omega), if_neg (by omega), if_neg (by omega), Bool.and_false]
  · rw [if_neg (by omega), if_neg (by omega), if_neg (by omega), Bool.and_false]
theorem chk_1 {P : LPd} {R : LpRes} {b : Bool} (h : vldP P = true) (hk : R.k = 1) (hb : chk1 P ⟨1, R.x, R.y, R.r, R.z⟩ = b) : chkB P R = b := by unfold chkB; rw [h, if_pos hk, ← hb]; rfl
theorem chk_2 {P : LPd} {R : LpRes} {b : Bool} (h : vldP P = true) (hk : R.k = 2) (hb : chk2 P ⟨2, R.x, R.y, R.r, R.z⟩ = b) : chkB P R = b := by unfold chkB; rw [h, if_neg (by omega), if_pos hk, ← hb]; rfl
theorem chk_3 {P : LPd} {R : LpRes} {b : Bool} (h : vldP P = true) (hk : R.k = 3) (hb : chk3 P ⟨3, R.x, R.y, R.r, R.z⟩ = b) : chkB P R = b := by unfold chkB; rw [h, if_neg (by omega), if_neg (by omega), if_pos hk, ← hb]; rfl
set_option maxRecDepth 100000 in
set_option maxHeartbeats 1000000 in
theorem check_any (v0 : Value) (v1 : Value) (P : LPd) (R : LpRes) (w : World) (h0 : LpV w v0 P) (h1 : LrV w v1 R) (hL : LmP 300 P) (hR : LmR R) (hbl : P.b.length ≤ 100000) :
    Calls Tryz.prog 23 #[v0, v1] w fun e w' => e = .returned (.bool (chkB P R)) ∧ Below w.heap.size w w' := by
  have h0_0 := h0; obtain ⟨⟨p_h0, l_h0, c_h0⟩, ⟨q_h0, m_h0, d_h0⟩, ⟨r_h0, n_h0, e_h0⟩, rfl, h0_1, h0_2, h0_3⟩ := h0
  have h1_0 := h1; obtain ⟨⟨p_h1, l_h1, c_h1⟩, ⟨q_h1, m_h1, d_h1⟩, ⟨r_h1, n_h1, e_h1⟩, s_h1, ⟨u_h1, i_h1, v_h1⟩, ⟨w_h1, j_h1, x_h1⟩, rfl, h1_1, h1_2, h1_3, h1_4⟩ := h1
  have hK := (KS.start w)
  obtain ⟨kk, hkk⟩ : ∃ b, RowKit.Hid (R.k = b) := ⟨_, hid rfl⟩
  try rw [show R.k = kk from hkk.out] at hK
  try rw [show R.k = kk from hkk.out]
  have hn12 := hL.n
  have hm12 := hL.m
  refine Calls.hide (fun Q0 hQ0 => ?_)
  go_enter Tryz.func23, Tryz.ntmps23
  go_upto_region 0 with (fail)
  refine wp_region_tx w hK ?_
  clear hK
  refine tA (.cells #[.slice p_h0 P.c.length c_h0, .slice q_h0 P.A.length d_h0, .slice r_h0 P.b.length e_h0] 49) (fun R1 q_R1 => ?_)
  clear q_R1
  refine tA (.cells #[.int .i64 kk, .slice p_h1 R.x.length c_h1, .slice q_h1 R.y.length d_h1, .slice r_h1 R.r.length e_h1, .bool s_h1, .slice u_h1 i_h1 v_h1, .slice w_h1 j_h1 x_h1] 57) (fun R2 q_R2 => ?_)
  have o_R1_R2 : R1 < R2 := q_R2 _ _ _ m0
  clear q_R2
  refine tF ?_
  refine txEnd (fun W3 hK => ?_)
  go_upto_region 1 with (fail)
  refine wp_region_tx w hK ?_
  clear hK
  refine tF ?_
  refine tA (.cells #[.nilFunc, .nilFunc, .nilFunc, .nilFunc] 113) (fun R4 q_R4 => ?_)
  have o_R1_R4 : R1 < R4 := q_R4 _ _ _ m1
  have o_R2_R4 : R2 < R4 := q_R4 _ _ _ m0
  clear q_R4
  refine tS m0 0 [.nilFunc, .func (.func 68) #[] #[], .func (.func 69) #[] #[], .func (.func 70) #[] #[]] (fun w' hK _ ni => kP [.nilFunc, .func (.func 68) #[] #[], .func (.func 69) #[] #[], .func (.func 70) #[] #[]] (kL o_R2_R4 (kL o_R1_R4 kZ))) ?_
  refine txEnd (fun W5 hK => ?_)
  go_upto_region 2 with (fail)
  refine wp_region_tx w hK ?_
  clear hK
  refine tL m2 ?_
  obtain ⟨b1, hb1⟩ : ∃ b : Bool, RowKit.Hid ((vldP P) = b) := ⟨_, hid rfl⟩
  refine tH (fun w' hK => lvalid_any (.agg #[.slice p_h0 P.c.length c_h0, .slice q_h0 P.A.length d_h0, .slice r_h0 P.b.length e_h0]) P w' (h0_0.below hK.old) (by omega) (by omega) (by omega)) ?_ (v := .bool b1) (hv := (by rw [hb1.out]))
  iterate 2 (refine tF ?_)
  cases b1
  · --
   iterate 3 (refine tN ?_)
   iterate 2 (refine tF ?_)
   iterate 3 (refine tN ?_)
   refine tF ?_
   refine txEnd (fun W6 hK => ?_)
   go_wp2
   try go_ret
   show Q0 (.returned (.bool false)) _
   exact (by obtain rfl := hQ0.out; exact ⟨(ret_bool (chk_no (.inl hb1.out)).symm), hK.old⟩)
  · --
   refine tF ?_
   refine tL m1 ?_
   refine tB (decide (kk < 1)) (fun b2 hb2 => ?_)
   iterate 2 (refine tF ?_)
   cases b2
   · --
    have q_b2 : 1 ≤ kk := Int.not_lt.1 (of_decide_eq_false hb2.out)
    refine tF ?_
    refine tL m1 ?_
    refine tB (decide (3 < kk)) (fun b3 hb3 => ?_)
    refine tF ?_
    refine txEnd (fun W7 hK => ?_)
    cases b3
    · --
     have q_b3 : kk ≤ 3 := Int.not_lt.1 (of_decide_eq_false hb3.out)
     rcases (show kk = 1 ∨ kk = 2 ∨ kk = 3 by omega) with rfl | rfl | rfl
     · --
      have hv := hid (show vldP P = true from hb1.out)
      go_upto_region 4 with (fail)
      have hK0 := hK
      refine wp_region_float0 (w) _ _ [0, 0, 0, 0, 0, 0, 1, 0] (by kernel_rfl) (by kernel_rfl) (by kernel_rfl) (by kernel_rfl) (KS.drew hK0) (KS.drew hK) ?_
      clear hK hK0
      refine lF ?_
      refine lL m1 ?_
      refine lF ?_
      refine lL m0 ?_
      refine lL m2 ?_
      refine lL m1 ?_
      obtain ⟨b4, hb4⟩ : ∃ b : Bool, RowKit.Hid ((chk1 P (⟨1, R.x, R.y, R.r, R.z⟩)) = b) := ⟨_, hid rfl⟩
      refine lH (fun w' h0 hK => optimal_any (.agg #[.slice p_h0 P.c.length c_h0, .slice q_h0 P.A.length d_h0, .slice r_h0 P.b.length e_h0]) (.agg #[.int .i64 1, .slice p_h1 R.x.length c_h1, .slice q_h1 R.y.length d_h1, .slice r_h1 R.r.length e_h1, .bool s_h1, .slice u_h1 i_h1 v_h1, .slice w_h1 j_h1 x_h1]) P (⟨1, R.x, R.y, R.r, R.z⟩) w' (h0_0.below hK.old) (LrV.mk ((h1_1.below hK.old)) ((h1_2.below hK.old)) ((h1_3.below hK.old)) ((h1_4.below hK.old))) hL (hR.k _) hbl hv.out) ?_ (v := .bool b4) (hv := (by rw [hb4.out]))
      refine lF ?_
      refine lxEnd (fun W8 hK => ?_)
      go_wp2
      try go_ret
      show Q0 (.returned (.bool b4)) _
      exact (by obtain rfl := hQ0.out; exact ⟨(ret_bool (chk_1 hv.out hkk.out hb4.out).symm), hK.old⟩)
     · --
      have hv := hid (show vldP P = true from hb1.out)
      go_upto_region 4 with (fail)
      have hK0 := hK
      refine wp_region_float0 (w) _ _ [0, 0, 0, 0, 0, 0, 1, 0] (by kernel_rfl) (by kernel_rfl) (by kernel_rfl) (by kernel_rfl) (KS.drew hK0) (KS.drew hK) ?_
      clear hK hK0
      refine lF ?_
      refine lL m1 ?_
      refine lF ?_
      refine lL m0 ?_
      refine lL m2 ?_
      refine lL m1 ?_
      obtain ⟨b4, hb4⟩ : ∃ b : Bool, RowKit.Hid ((chk2 P (⟨2, R.x, R.y, R.r, R.z⟩)) = b) := ⟨_, hid rfl⟩
      refine lH (fun w' h0 hK => infeasible_any (.agg #[.slice p_h0 P.c.length c_h0, .slice q_h0 P.A.length d_h0, .slice r_h0 P.b.length e_h0]) (.agg #[.int .i64 2, .slice p_h1 R.x.length c_h1, .slice q_h1 R.y.length d_h1, .slice r_h1 R.r.length e_h1, .bool s_h1, .slice u_h1 i_h1 v_h1, .slice w_h1 j_h1 x_h1]) P (⟨2, R.x, R.y, R.r, R.z⟩) w' (h0_0.below hK.old) (LrV.mk ((h1_1.below hK.old)) ((h1_2.below hK.old)) ((h1_3.below hK.old)) ((h1_4.below hK.old))) hL (hR.k _) hbl (vld_ok hv.out)) ?_ (v := .bool b4) (hv := (by rw [hb4.out]))
      refine lF ?_
      refine lxEnd (fun W9 hK => ?_)
      go_wp2
      try go_ret
      show Q0 (.returned (.bool b4)) _
      exact (by obtain rfl := hQ0.out; exact ⟨(ret_bool (chk_2 hv.out hkk.out hb4.out).symm), hK.old⟩)
     · --
      have hv := hid (show vldP P = true from hb1.out)
      go_upto_region 4 with (fail)
      have hK0 := hK
      refine wp_region_float0 (w) _ _ [0, 0, 0, 0, 0, 0, 1, 0] (by kernel_rfl) (by kernel_rfl) (by kernel_rfl) (by kernel_rfl) (KS.drew hK0) (KS.drew hK) ?_
      clear hK hK0
      refine lF ?_
      refine lL m1 ?_
      refine lF ?_
      refine lL m0 ?_
      refine lL m2 ?_
      refine lL m1 ?_
      obtain ⟨b4, hb4⟩ : ∃ b : Bool, RowKit.Hid ((chk3 P (⟨3, R.x, R.y, R.r, R.z⟩)) = b) := ⟨_, hid rfl⟩
      refine lH (fun w' h0 hK => unbounded_any (.agg #[.slice p_h0 P.c.length c_h0, .slice q_h0 P.A.length d_h0, .slice r_h0 P.b.length e_h0]) (.agg #[.int .i64 3, .slice p_h1 R.x.length c_h1, .slice q_h1 R.y.length d_h1, .slice r_h1 R.r.length e_h1, .bool s_h1, .slice u_h1 i_h1 v_h1, .slice w_h1 j_h1 x_h1]) P (⟨3, R.x, R.y, R.r, R.z⟩) w' (h0_0.below hK.old) (LrV.mk ((h1_1.below hK.old)) ((h1_2.below hK.old)) ((h1_3.below hK.old)) ((h1_4.below hK.old))) hL (hR.k _) hbl (vld_ok hv.out)) ?_ (v := .bool b4) (hv := (by rw [hb4.out]))
      refine lF ?_
      refine lxEnd (fun W10 hK => ?_)
      go_wp2
      try go_ret
      show Q0 (.returned (.bool b4)) _
      exact (by obtain rfl := hQ0.out; exact ⟨(ret_bool (chk_3 hv.out hkk.out hb4.out).symm), hK.old⟩)
    · --
     have q_b3 : 3 < kk := of_decide_eq_true hb3.out
     go_wp2
     try go_ret
     show Q0 (.returned (.bool false)) _
     exact (by obtain rfl := hQ0.out; exact ⟨(ret_bool (chk_no (by have q := hkk.out; skip; omega)).symm), hK.old⟩)
   · --
    have q_b2 : kk < 1 := of_decide_eq_true hb2.out
    iterate 3 (refine tN ?_)
    refine tF ?_
    refine txEnd (fun W11 hK => ?_)
    go_wp2
    try go_ret
    show Q0 (.returned (.bool false)) _
    exact (by obtain rfl := hQ0.out; exact ⟨(ret_bool (chk_no (by have q := hkk.out; skip; omega)).symm), hK.old⟩)
end Go.Proofs.YtcdbgincfdejkaaGreatDoor
