/- Gap, Value, Bound of both; Check and Accepts walked. -/
import Derived.Test.YtcdbgincfdejkaaGreatDoorTz
import Derived.Test.YtcdbgincfdejkaaGreatDoorCerB
namespace Go.Proofs.YtcdbgincfdejkaaGreatDoor
open Go.RowKit
open Go.Lib (decDigits)
theorem gap1 {P : LPd} {x y : List Rat} (h : vldP P = false) : gapE P x y = 1 ∧ gapQ P x y = 0 := by
  have e : gapE P x y = 1 := by unfold gapE; rw [if_pos h]
  exact ⟨e, by unfold gapQ; rw [e]; rfl⟩
theorem gap13 {P : LPd} {x y : List Rat} (h : vldP P = true) (h2 : (vldP P && feaB P x) = false) : gapE P x y = 13 ∧ gapQ P x y = 0 := by
  rw [h, Bool.true_and] at h2
  have e : gapE P x y = 13 := by unfold gapE; rw [if_neg (by rw [h]; decide), if_pos h2]
  exact ⟨e, by unfold gapQ; rw [e]; rfl⟩
theorem gap7 {P : LPd} {x y : List Rat} (h : vldP P = true) (h2 : (vldP P && feaB P x) = true) (h3 : (vldP P && covB P y P.c) = false) : gapE P x y = 7 ∧ gapQ P x y = 0 := by
  rw [h, Bool.true_and] at h2 h3
  have e : gapE P x y = 7 := by unfold gapE; rw [if_neg (by rw [h]; decide), if_neg (by rw [h2]; decide), if_pos h3]
  exact ⟨e, by unfold gapQ; rw [e]; rfl⟩
theorem gap0 {P : LPd} {x y : List Rat} (h : vldP P = true) (h2 : (vldP P && feaB P x) = true) (h3 : (vldP P && covB P y P.c) = true) : gapE P x y = 0 ∧ gapQ P x y = dotQ y P.b - dotQ P.c x := by
  rw [h, Bool.true_and] at h2 h3
  have e : gapE P x y = 0 := by unfold gapE; rw [if_neg (by rw [h]; decide), if_neg (by rw [h2]; decide), if_neg (by rw [h3]; decide)]
  exact ⟨e, by unfold gapQ; rw [e]; rfl⟩
structure FitsP (P : LPd) (x y : List Rat) : Prop where
  ok : P.Ok
  x : x.length = P.c.length
  y : y.length = P.A.length
theorem fits {P : LPd} {x y : List Rat} (h : vldP P = true) (h2 : (vldP P && feaB P x) = true) (h3 : (vldP P && covB P y P.c) = true) : FitsP P x y := by
  rw [h, Bool.true_and] at h2 h3
  exact ⟨vld_ok h, (fea_iff.1 h2).1, (cov_iff.1 h3).1⟩
set_option maxRecDepth 100000 in
set_option maxHeartbeats 1000000 in
theorem gap_any (v0 : Value) (v1 : Value) (v2 : Value) (P : LPd) (xs : List Rat) (ys : List Rat) (w : World) (h0 : LpV w v0 P) (h1 : SlV ratK w v1 xs) (h2 : SlV ratK w v2 ys) (hL : LmP 300 P) (hx : LmL 300 xs) (hy : LmL 300 ys) (hl : xs.length ≤ 100000) (hm : ys.length ≤ 100000) (hbl : P.b.length ≤ 100000) :
    Calls Tryz.prog 29 #[v0, v1, v2] w fun e w' => ∃ y0, e = .returned (.tuple #[y0, .int .i64 (gapE P xs ys)]) ∧ RatV w' y0 (gapQ P xs ys) ∧ Below w.heap.size w w' := by
  have h0_0 := h0; obtain ⟨⟨p_h0, l_h0, c_h0⟩, ⟨q_h0, m_h0, d_h0⟩, ⟨r_h0, n_h0, e_h0⟩, rfl, h0_1, h0_2, h0_3⟩ := h0
  have h1_0 := h1; obtain ⟨p_h1, c_h1, rfl, n_h1⟩ := h1.sh
  have h2_0 := h2; obtain ⟨p_h2, c_h2, rfl, n_h2⟩ := h2.sh
  have hK := (KS.start w)
  have hn12 := hL.n
  have hm12 := hL.m
  refine Calls.hide (fun Q0 hQ0 => ?_)
  go_enter Tryz.func29, Tryz.ntmps29
  go_upto_region 0 with (fail)
  refine wp_region_tx w hK ?_
  clear hK
  refine tA (.cells #[.slice p_h0 P.c.length c_h0, .slice q_h0 P.A.length d_h0, .slice r_h0 P.b.length e_h0] 49) (fun R1 q_R1 => ?_)
  clear q_R1
  refine tA (.cells #[.bool false, .slice none 0 0, .slice none 0 0] 55) (fun R2 q_R2 => ?_)
  have o_R1_R2 : R1 < R2 := q_R2 _ _ _ m0
  clear q_R2
  refine tF ?_
  refine txEnd (fun W3 hK => ?_)
  go_upto_region 1 with (fail)
  refine wp_region_tx w hK ?_
  clear hK
  refine tL m1 ?_
  obtain ⟨b1, hb1⟩ : ∃ b : Bool, RowKit.Hid ((vldP P) = b) := ⟨_, hid rfl⟩
  refine tH (fun w' hK => lvalid_any (.agg #[.slice p_h0 P.c.length c_h0, .slice q_h0 P.A.length d_h0, .slice r_h0 P.b.length e_h0]) P w' (h0_0.below hK.old) (by omega) (by omega) (by omega)) ?_ (v := .bool b1) (hv := (by rw [hb1.out]))
  refine tF ?_
  refine txEnd (fun W4 hK => ?_)
  cases b1
  · --
   go_upto_region 2 with (fail)
   refine wp_region_tx w hK ?_
   clear hK
   refine tF ?_
   refine tS m0 0 [.bool false, .slice none 0 0, .slice none 0 0] (fun w' hK _ ni => kP [.bool false, .slice none 0 0, .slice none 0 0] (kL o_R1_R2 kZ)) ?_
   refine tF ?_
   refine txEnd (fun W5 hK => ?_)
   have k_R2 := (hK.get m0); have ⟨c_R2_0, c_R2_1, c_R2_2⟩ := k_R2.c3
   go_wp2
   exact bodyPost_ret (v := .tuple #[.agg #[.bool false, .slice none 0 0, .slice none 0 0], .int .i64 1]) (by simp [results, Tryz.results29, go_sem, c_R2_0, c_R2_1, c_R2_2]) rfl ((by obtain rfl := hQ0.out; exact ⟨.agg #[.bool false, .slice none 0 0, .slice none 0 0], (by rw [(gap1 hb1.out).1]), (by rw [(gap1 hb1.out).2]; exact RatV.zero _), hK.old⟩))
  · --
   go_upto_region 3 with (fail)
   refine wp_region_tx w hK ?_
   clear hK
   refine tL m1 ?_
   refine tF ?_
   obtain ⟨b2, hb2⟩ : ∃ b : Bool, RowKit.Hid ((vldP P && feaB P xs) = b) := ⟨_, hid rfl⟩
   refine tH (fun w' hK => feasible_any (.agg #[.slice p_h0 P.c.length c_h0, .slice q_h0 P.A.length d_h0, .slice r_h0 P.b.length e_h0]) (.slice p_h1 xs.length c_h1) P xs w' (h0_0.below hK.old) (h1_0.below hK.old) hL hx hl hbl) ?_ (v := .bool b2) (hv := (by rw [hb2.out]))
   refine tF ?_
   refine txEnd (fun W6 hK => ?_)
   cases b2
   · --
    go_upto_region 4 with (fail)
    refine wp_region_tx w hK ?_
    clear hK
    refine tF ?_
    refine tS m0 0 [.bool false, .slice none 0 0, .slice none 0 0] (fun w' hK _ ni => kP [.bool false, .slice none 0 0, .slice none 0 0] (kL o_R1_R2 kZ)) ?_
    refine tF ?_
    refine txEnd (fun W7 hK => ?_)
    have k_R2 := (hK.get m0); have ⟨c_R2_0, c_R2_1, c_R2_2⟩ := k_R2.c3
    go_wp2
    exact bodyPost_ret (v := .tuple #[.agg #[.bool false, .slice none 0 0, .slice none 0 0], .int .i64 13]) (by simp [results, Tryz.results29, go_sem, c_R2_0, c_R2_1, c_R2_2]) rfl ((by obtain rfl := hQ0.out; exact ⟨.agg #[.bool false, .slice none 0 0, .slice none 0 0], (by rw [(gap13 hb1.out hb2.out).1]), (by rw [(gap13 hb1.out hb2.out).2]; exact RatV.zero _), hK.old⟩))
   · --
    go_upto_region 5 with (fail)
    refine wp_region_tx w hK ?_
    clear hK
    refine tL m1 ?_
    refine tF ?_
    obtain ⟨b3, hb3⟩ : ∃ b : Bool, RowKit.Hid ((vldP P && covB P ys P.c) = b) := ⟨_, hid rfl⟩
    refine tH (fun w' hK => sufficient_any (.agg #[.slice p_h0 P.c.length c_h0, .slice q_h0 P.A.length d_h0, .slice r_h0 P.b.length e_h0]) (.slice p_h2 ys.length c_h2) P ys w' (h0_0.below hK.old) (h2_0.below hK.old) hL hy hm hbl) ?_ (v := .bool b3) (hv := (by rw [hb3.out]))
    refine tF ?_
    refine txEnd (fun W8 hK => ?_)
    cases b3
    · --
     go_upto_region 6 with (fail)
     refine wp_region_tx w hK ?_
     clear hK
     refine tF ?_
     refine tS m0 0 [.bool false, .slice none 0 0, .slice none 0 0] (fun w' hK _ ni => kP [.bool false, .slice none 0 0, .slice none 0 0] (kL o_R1_R2 kZ)) ?_
     refine tF ?_
     refine txEnd (fun W9 hK => ?_)
     have k_R2 := (hK.get m0); have ⟨c_R2_0, c_R2_1, c_R2_2⟩ := k_R2.c3
     go_wp2
     exact bodyPost_ret (v := .tuple #[.agg #[.bool false, .slice none 0 0, .slice none 0 0], .int .i64 7]) (by simp [results, Tryz.results29, go_sem, c_R2_0, c_R2_1, c_R2_2]) rfl ((by obtain rfl := hQ0.out; exact ⟨.agg #[.bool false, .slice none 0 0, .slice none 0 0], (by rw [(gap7 hb1.out hb2.out hb3.out).1]), (by rw [(gap7 hb1.out hb2.out hb3.out).2]; exact RatV.zero _), hK.old⟩))
    · --
     have hft := hid (fits hb1.out hb2.out hb3.out)
     go_upto_region 7 with (fail)
     have hK0 := hK.subl (sC (sK sZ))
     refine wp_region_float0 (w) _ _ [0, 0, 0, 2, 0, 0, 0, 2, 2, 4, 0] (by kernel_rfl) (by kernel_rfl) (by kernel_rfl) (by kernel_rfl) (KS.drew hK0) (KS.drew hK) ?_
     clear hK hK0
     iterate 2 (refine lF ?_)
     refine lL m0 ?_
     refine lEQ (fun w' h0 hK => dot_any (.slice p_h2 ys.length c_h2) (.slice r_h0 P.b.length e_h0) ys P.b w' (h2_0.below hK.old) (h0_3.below hK.old) (by have := hft.out.y; omega) (by have := hft.out.y; have := hft.out.ok.hb; omega) hy hL.b) (fun sv10 => ?_)
     refine lF ?_
     refine lL m0 ?_
     refine lF ?_
     refine lEQ (fun w' h0 hK => dot_any (.slice p_h0 P.c.length c_h0) (.slice p_h1 xs.length c_h1) P.c xs w' (h0_1.below hK.old) (h1_0.below hK.old) (by omega) (by have := hft.out.x; omega) hL.c hx) (fun sv11 => ?_)
     refine lEQ (fun w' h0 hK => qsub_any (.agg #[.bool (isN (dotQ ys P.b)), .slice sv10.a.p sv10.a.l sv10.a.c, .slice sv10.b.p sv10.b.l sv10.b.c]) (.agg #[.bool (isN (dotQ P.c xs)), .slice sv11.a.p sv11.a.l sv11.a.c, .slice sv11.b.p sv11.b.l sv11.b.c]) (dotQ ys P.b) (dotQ P.c xs) w' (hK.get m3) (hK.get m0) (dot_lmF (by have := hft.out.y; omega) hy hL.b) (dot_lmF (by omega) hL.c hx) (by decide)) (fun sv12 => ?_)
     refine lS m9 0 [.bool (isN ((dotQ ys P.b) - (dotQ P.c xs))), .slice sv12.a.p sv12.a.l sv12.a.c, .slice sv12.b.p sv12.b.l sv12.b.c] (fun w' h0 hK _ ni => kL o_R1_R2 kN) (fun w' h0 hK _ ni => kQ ni (kM ni (kM ni (kQ ni (kM ni (kM ni (kQ ni (kM ni (kM ni (kP [.bool (isN ((dotQ ys P.b) - (dotQ P.c xs))), .slice sv12.a.p sv12.a.l sv12.a.c, .slice sv12.b.p sv12.b.l sv12.b.c] (kL o_R1_R2 kZ))))))))))) ?_
     refine lF ?_
     refine lxEnd (fun W13 hK => ?_)
     have k_R2 := (hK.get m9); have ⟨c_R2_0, c_R2_1, c_R2_2⟩ := k_R2.c3
     go_wp2
     exact bodyPost_ret (v := .tuple #[.agg #[.bool (isN ((dotQ ys P.b) - (dotQ P.c xs))), .slice sv12.a.p sv12.a.l sv12.a.c, .slice sv12.b.p sv12.b.l sv12.b.c], .int .i64 0]) (by simp [results, Tryz.results29, go_sem, c_R2_0, c_R2_1, c_R2_2]) rfl ((by obtain rfl := hQ0.out; exact ⟨.agg #[.bool (isN ((dotQ ys P.b) - (dotQ P.c xs))), .slice sv12.a.p sv12.a.l sv12.a.c, .slice sv12.b.p sv12.b.l sv12.b.c], (by rw [(gap0 hb1.out hb2.out hb3.out).1]), (Eq.mp (congrArg (RatV _ _) (show (dotQ ys P.b) - (dotQ P.c xs) = gapQ P xs ys from (by rw [(gap0 hb1.out hb2.out hb3.out).2]))) (hK.get m0)), hK.old⟩))
set_option maxRecDepth 100000 in
set_option maxHeartbeats 1000000 in
theorem rgap_any (v0 : Value) (v1 : Value) (v2 : Value) (P : LPd) (xs : List Rat) (ys : List Rat) (w : World) (h0 : RpV w v0 P) (h1 : SlV refK w v1 xs) (h2 : SlV refK w v2 ys) (hL : LmP 300 P) (hx : LmL 300 xs) (hy : LmL 300 ys) (hl : xs.length ≤ 100000) (hm : ys.length ≤ 100000) (hbl : P.b.length ≤ 100000) :
    Calls Tryz.prog 35 #[v0, v1, v2] w fun e w' => ∃ y0, e = .returned (.tuple #[y0, .int .i64 (gapE P xs ys)]) ∧ RefR w' y0 (gapQ P xs ys) ∧ Below w.heap.size w w' := by
  have h0_0 := h0; obtain ⟨⟨p_h0, l_h0, c_h0⟩, ⟨q_h0, m_h0, d_h0⟩, ⟨r_h0, n_h0, e_h0⟩, rfl, h0_1, h0_2, h0_3⟩ := h0
  have h1_0 := h1; obtain ⟨p_h1, c_h1, rfl, n_h1⟩ := h1.sh
  have h2_0 := h2; obtain ⟨p_h2, c_h2, rfl, n_h2⟩ := h2.sh
  have hK := (KS.start w)
  have hn12 := hL.n
  have hm12 := hL.m
  refine Calls.hide (fun Q0 hQ0 => ?_)
  go_enter Tryz.func35, Tryz.ntmps35
  go_upto_region 0 with (fail)
  refine wp_region_tx w hK ?_
  clear hK
  refine tA (.cells #[.slice p_h0 P.c.length c_h0, .slice q_h0 P.A.length d_h0, .slice r_h0 P.b.length e_h0] 36) (fun R1 q_R1 => ?_)
  clear q_R1
  refine tA (.cells #[.bool false, .slice none 0 0, .slice none 0 0] 41) (fun R2 q_R2 => ?_)
  have o_R1_R2 : R1 < R2 := q_R2 _ _ _ m0
  clear q_R2
  refine tF ?_
  refine txEnd (fun W3 hK => ?_)
  go_upto_region 1 with (fail)
  refine wp_region_tx w hK ?_
  clear hK
  refine tL m1 ?_
  obtain ⟨b1, hb1⟩ : ∃ b : Bool, RowKit.Hid ((vldP P) = b) := ⟨_, hid rfl⟩
  refine tH (fun w' hK => rvalid_any (.agg #[.slice p_h0 P.c.length c_h0, .slice q_h0 P.A.length d_h0, .slice r_h0 P.b.length e_h0]) P w' (h0_0.below hK.old) (by omega) (by omega) (by omega)) ?_ (v := .bool b1) (hv := (by rw [hb1.out]))
  iterate 2 (refine tF ?_)
  refine txEnd (fun W4 hK => ?_)
  cases b1
  · --
   go_upto_region 2 with (fail)
   refine wp_region_tx w hK ?_
   clear hK
   refine tF ?_
   refine tS m0 0 [.bool false, .slice none 0 0, .slice none 0 0] (fun w' hK _ ni => kP [.bool false, .slice none 0 0, .slice none 0 0] (kL o_R1_R2 kZ)) ?_
   refine tF ?_
   refine txEnd (fun W5 hK => ?_)
   have k_R2 := (hK.get m0); have ⟨c_R2_0, c_R2_1, c_R2_2⟩ := k_R2.c3
   go_wp2
   exact bodyPost_ret (v := .tuple #[.agg #[.bool false, .slice none 0 0, .slice none 0 0], .int .i64 1]) (by simp [results, Tryz.results35, go_sem, c_R2_0, c_R2_1, c_R2_2]) rfl ((by obtain rfl := hQ0.out; exact ⟨.agg #[.bool false, .slice none 0 0, .slice none 0 0], (by rw [(gap1 hb1.out).1]), (by rw [(gap1 hb1.out).2]; exact RefR.zero _), hK.old⟩))
  · --
   go_upto_region 3 with (fail)
   refine wp_region_tx w hK ?_
   clear hK
   refine tL m1 ?_
   refine tF ?_
   obtain ⟨b2, hb2⟩ : ∃ b : Bool, RowKit.Hid ((vldP P && feaB P xs) = b) := ⟨_, hid rfl⟩
   refine tH (fun w' hK => rfeas5_any (.agg #[.slice p_h0 P.c.length c_h0, .slice q_h0 P.A.length d_h0, .slice r_h0 P.b.length e_h0]) (.slice p_h1 xs.length c_h1) P xs w' (h0_0.below hK.old) (h1_0.below hK.old) hL hx hl hbl) ?_ (v := .bool b2) (hv := (by rw [hb2.out]))
   iterate 2 (refine tF ?_)
   refine txEnd (fun W6 hK => ?_)
   cases b2
   · --
    go_upto_region 4 with (fail)
    refine wp_region_tx w hK ?_
    clear hK
    refine tF ?_
    refine tS m0 0 [.bool false, .slice none 0 0, .slice none 0 0] (fun w' hK _ ni => kP [.bool false, .slice none 0 0, .slice none 0 0] (kL o_R1_R2 kZ)) ?_
    refine tF ?_
    refine txEnd (fun W7 hK => ?_)
    have k_R2 := (hK.get m0); have ⟨c_R2_0, c_R2_1, c_R2_2⟩ := k_R2.c3
    go_wp2
    exact bodyPost_ret (v := .tuple #[.agg #[.bool false, .slice none 0 0, .slice none 0 0], .int .i64 13]) (by simp [results, Tryz.results35, go_sem, c_R2_0, c_R2_1, c_R2_2]) rfl ((by obtain rfl := hQ0.out; exact ⟨.agg #[.bool false, .slice none 0 0, .slice none 0 0], (by rw [(gap13 hb1.out hb2.out).1]), (by rw [(gap13 hb1.out hb2.out).2]; exact RefR.zero _), hK.old⟩))
   · --
    go_upto_region 5 with (fail)
    refine wp_region_tx w hK ?_
    clear hK
    refine tL m1 ?_
    refine tF ?_
    obtain ⟨b3, hb3⟩ : ∃ b : Bool, RowKit.Hid ((vldP P && covB P ys P.c) = b) := ⟨_, hid rfl⟩
    refine tH (fun w' hK => rsufficient_any (.agg #[.slice p_h0 P.c.length c_h0, .slice q_h0 P.A.length d_h0, .slice r_h0 P.b.length e_h0]) (.slice p_h2 ys.length c_h2) P ys w' (h0_0.below hK.old) (h2_0.below hK.old) hL hy hm hbl) ?_ (v := .bool b3) (hv := (by rw [hb3.out]))
    iterate 2 (refine tF ?_)
    refine txEnd (fun W8 hK => ?_)
    cases b3
    · --
     go_upto_region 6 with (fail)
     refine wp_region_tx w hK ?_
     clear hK
     refine tF ?_
     refine tS m0 0 [.bool false, .slice none 0 0, .slice none 0 0] (fun w' hK _ ni => kP [.bool false, .slice none 0 0, .slice none 0 0] (kL o_R1_R2 kZ)) ?_
     refine tF ?_
     refine txEnd (fun W9 hK => ?_)
     have k_R2 := (hK.get m0); have ⟨c_R2_0, c_R2_1, c_R2_2⟩ := k_R2.c3
     go_wp2
     exact bodyPost_ret (v := .tuple #[.agg #[.bool false, .slice none 0 0, .slice none 0 0], .int .i64 7]) (by simp [results, Tryz.results35, go_sem, c_R2_0, c_R2_1, c_R2_2]) rfl ((by obtain rfl := hQ0.out; exact ⟨.agg #[.bool false, .slice none 0 0, .slice none 0 0], (by rw [(gap7 hb1.out hb2.out hb3.out).1]), (by rw [(gap7 hb1.out hb2.out hb3.out).2]; exact RefR.zero _), hK.old⟩))
    · --
     have hft := hid (fits hb1.out hb2.out hb3.out)
     go_upto_region 7 with (fail)
     have hK0 := hK.subl (sC (sK sZ))
     refine wp_region_float0 (w) _ _ [0, 0, 0, 2, 0, 0, 0, 2, 2, 4, 0] (by kernel_rfl) (by kernel_rfl) (by kernel_rfl) (by kernel_rfl) (KS.drew hK0) (KS.drew hK) ?_
     clear hK hK0
     refine lF ?_
     refine lL m0 ?_
     refine lF ?_
     refine lER (fun w' h0 hK => rdot_any (.slice r_h0 P.b.length e_h0) (.slice p_h2 ys.length c_h2) P.b ys w' (h0_3.below hK.old) (h2_0.below hK.old) (by have := hft.out.ok.hb; omega) (by have := hft.out.y; have := hft.out.ok.hb; omega) hL.b hy) (fun sv10 => ?_)
     refine lF ?_
     refine lL m0 ?_
     refine lF ?_
     refine lER (fun w' h0 hK => rdot_any (.slice p_h0 P.c.length c_h0) (.slice p_h1 xs.length c_h1) P.c xs w' (h0_1.below hK.old) (h1_0.below hK.old) (by omega) (by have := hft.out.x; omega) hL.c hx) (fun sv11 => ?_)
     refine lER (fun w' h0 hK => rsub_q (.agg #[.bool (isN (dotQ P.b ys)), .slice sv10.a.p (digs B6 (numQ (dotQ P.b ys))).length sv10.a.c, .slice sv10.b.p (digs B6 (den0 (dotQ P.b ys))).length sv10.b.c]) (.agg #[.bool (isN (dotQ P.c xs)), .slice sv11.a.p (digs B6 (numQ (dotQ P.c xs))).length sv11.a.c, .slice sv11.b.p (digs B6 (den0 (dotQ P.c xs))).length sv11.b.c]) (dotQ P.b ys) (dotQ P.c xs) w' (hK.get m3) (hK.get m0) (dot_lmF (by have := hft.out.ok.hb; omega) hL.b hy) (dot_lmF (by omega) hL.c hx) (by decide)) (fun sv12 => ?_)
     refine lS m9 0 [.bool (isN ((dotQ P.b ys) - (dotQ P.c xs))), .slice sv12.a.p (digs B6 (numQ ((dotQ P.b ys) - (dotQ P.c xs)))).length sv12.a.c, .slice sv12.b.p (digs B6 (den0 ((dotQ P.b ys) - (dotQ P.c xs)))).length sv12.b.c] (fun w' h0 hK _ ni => kL o_R1_R2 kN) (fun w' h0 hK _ ni => kS ni (kR ni (kR ni (kS ni (kR ni (kR ni (kS ni (kR ni (kR ni (kP [.bool (isN ((dotQ P.b ys) - (dotQ P.c xs))), .slice sv12.a.p (digs B6 (numQ ((dotQ P.b ys) - (dotQ P.c xs)))).length sv12.a.c, .slice sv12.b.p (digs B6 (den0 ((dotQ P.b ys) - (dotQ P.c xs)))).length sv12.b.c] (kL o_R1_R2 kZ))))))))))) ?_
     refine lF ?_
     refine lxEnd (fun W13 hK => ?_)
     have k_R2 := (hK.get m9); have ⟨c_R2_0, c_R2_1, c_R2_2⟩ := k_R2.c3
     go_wp2
     exact bodyPost_ret (v := .tuple #[.agg #[.bool (isN ((dotQ P.b ys) - (dotQ P.c xs))), .slice sv12.a.p (digs B6 (numQ ((dotQ P.b ys) - (dotQ P.c xs)))).length sv12.a.c, .slice sv12.b.p (digs B6 (den0 ((dotQ P.b ys) - (dotQ P.c xs)))).length sv12.b.c], .int .i64 0]) (by simp [results, Tryz.results35, go_sem, c_R2_0, c_R2_1, c_R2_2]) rfl ((by obtain rfl := hQ0.out; exact ⟨.agg #[.bool (isN ((dotQ P.b ys) - (dotQ P.c xs))), .slice sv12.a.p (digs B6 (numQ ((dotQ P.b ys) - (dotQ P.c xs)))).length sv12.a.c, .slice sv12.b.p (digs B6 (den0 ((dotQ P.b ys) - (dotQ P.c xs)))).length sv12.b.c], (by rw [(gap0 hb1.out hb2.out hb3.out).1]), (Eq.mp (congrArg (RefR _ _) (show (dotQ P.b ys) - (dotQ P.c xs) = gapQ P xs ys from (by rw [(gap0 hb1.out hb2.out hb3.out).2, dotQ_comm ys]))) (hK.get m0)), hK.old⟩))
def valE (P : LPd) (x : List Rat) : Int := if vldP P = true ∧ x.length = P.c.length then 0 else 1
def valR (P : LPd) (x : List Rat) : Rat := if vldP P = true ∧ x.length = P.c.length then dotQ P.c x else 0
def bndE (P : LPd) (y : List Rat) : Int := if vldP P = true ∧ y.length = P.A.length then 0 else 1
def bndR (P : LPd) (y : List Rat) : Rat := if vldP P = true ∧ y.length = P.A.length then dotQ y P.b else 0
theorem val_no {P : LPd} {x : List Rat} (h : vldP P = false ∨ x.length ≠ P.c.length) : valE P x = 1 ∧ valR P x = 0 := by
  have : ¬ (vldP P = true ∧ x.length = P.c.length) := fun ⟨a, b⟩ => h.elim (fun h => by rw [h] at a; cases a) (fun h => h b)
  exact ⟨if_neg this, if_neg this⟩
theorem val_yes {P : LPd} {x : List Rat} (h : vldP P = true) (h2 : x.length = P.c.length) : valE P x = 0 ∧ valR P x = dotQ P.c x := ⟨if_pos ⟨h, h2⟩, if_pos ⟨h, h2⟩⟩
theorem bnd_no {P : LPd} {y : List Rat} (h : vldP P = false ∨ y.length ≠ P.A.length) : bndE P y = 1 ∧ bndR P y = 0 := by
  have : ¬ (vldP P = true ∧ y.length = P.A.length) := fun ⟨a, b⟩ => h.elim (fun h => by rw [h] at a; cases a) (fun h => h b)
  exact ⟨if_neg this, if_neg this⟩
theorem bnd_yes {P : LPd} {y : List Rat} (h : vldP P = true) (h2 : y.length = P.A.length) : bndE P y = 0 ∧ bndR P y = dotQ y P.b := ⟨if_pos ⟨h, h2⟩, if_pos ⟨h, h2⟩⟩
set_option maxRecDepth 100000 in
theorem value_any (v0 : Value) (v1 : Value) (P : LPd) (xs : List Rat) (w : World) (h0 : LpV w v0 P) (h1 : SlV ratK w v1 xs) (hL : LmP 300 P) (hx : LmL 300 xs) (_hl : xs.length ≤ 100000) (hbl : P.b.length ≤ 100000) :
    Calls Tryz.prog 31 #[v0, v1] w fun e w' => ∃ y0, e = .returned (.tuple #[y0, .int .i64 (valE P xs)]) ∧ RatV w' y0 (valR P xs) ∧ Below w.heap.size w w' := by
  have h0_0 := h0; obtain ⟨⟨p_h0, l_h0, c_h0⟩, ⟨q_h0, m_h0, d_h0⟩, ⟨r_h0, n_h0, e_h0⟩, rfl, h0_1, h0_2, h0_3⟩ := h0
  have h1_0 := h1; obtain ⟨p_h1, c_h1, rfl, n_h1⟩ := h1.sh
  have hK := (KS.start w)
  have hn12 := hL.n
  have hm12 := hL.m
  refine Calls.hide (fun Q0 hQ0 => ?_)
  go_enter Tryz.func31, Tryz.ntmps31
  go_upto_region 0 with (fail)
  refine wp_region_tx w hK ?_
  clear hK
  refine tA (.cells #[.slice p_h0 P.c.length c_h0, .slice q_h0 P.A.length d_h0, .slice r_h0 P.b.length e_h0] 49) (fun R1 q_R1 => ?_)
  clear q_R1
  refine tA (.cells #[.bool false, .slice none 0 0, .slice none 0 0] 55) (fun R2 q_R2 => ?_)
  have o_R1_R2 : R1 < R2 := q_R2 _ _ _ m0
  clear q_R2
  refine tF ?_
  refine txEnd (fun W3 hK => ?_)
  go_upto_region 1 with (fail)
  refine wp_region_tx w hK ?_
  clear hK
  refine tL m1 ?_
  obtain ⟨b1, hb1⟩ : ∃ b : Bool, RowKit.Hid ((vldP P) = b) := ⟨_, hid rfl⟩
  refine tH (fun w' hK => lvalid_any (.agg #[.slice p_h0 P.c.length c_h0, .slice q_h0 P.A.length d_h0, .slice r_h0 P.b.length e_h0]) P w' (h0_0.below hK.old) (by omega) (by omega) (by omega)) ?_ (v := .bool b1) (hv := (by rw [hb1.out]))
  iterate 2 (refine tF ?_)
  cases b1
  · --
   iterate 6 (refine tN ?_)
   refine tF ?_
   refine txEnd (fun W4 hK => ?_)
   go_upto_region 2 with (fail)
   refine wp_region_tx w hK ?_
   clear hK
   refine tF ?_
   refine tS m0 0 [.bool false, .slice none 0 0, .slice none 0 0] (fun w' hK _ ni => kP [.bool false, .slice none 0 0, .slice none 0 0] (kL o_R1_R2 kZ)) ?_
   refine tF ?_
   refine txEnd (fun W5 hK => ?_)
   have k_R2 := (hK.get m0); have ⟨c_R2_0, c_R2_1, c_R2_2⟩ := k_R2.c3
   go_wp2
   exact bodyPost_ret (v := .tuple #[.agg #[.bool false, .slice none 0 0, .slice none 0 0], .int .i64 1]) (by simp [results, Tryz.results31, go_sem, c_R2_0, c_R2_1, c_R2_2]) rfl ((by obtain rfl := hQ0.out; exact ⟨.agg #[.bool false, .slice none 0 0, .slice none 0 0], (by rw [(val_no (.inl hb1.out)).1]), (by rw [(val_no (.inl hb1.out)).2]; exact RatV.zero _), hK.old⟩))
  · --
   iterate 3 (refine tF ?_)
   refine tL m1 ?_
   refine tF ?_
   refine tB (((xs.length : Int)) != ((P.c.length : Int))) (fun b2 hb2 => ?_)
   refine tF ?_
   refine txEnd (fun W6 hK => ?_)
   cases b2
   · --
    have hxl := hid (show _ from (by have a_b2 := hb2.out; simp at a_b2; omega : xs.length = P.c.length)); have hok := hid (vld_ok hb1.out)
    go_upto_region 3 with (fail)
    refine wp_region_tx w hK ?_
    clear hK
    refine tF ?_
    refine tL m1 ?_
    refine tF ?_
    refine tEQ (fun w' hK => dot_any (.slice p_h0 P.c.length c_h0) (.slice p_h1 xs.length c_h1) P.c xs w' (h0_1.below hK.old) (h1_0.below hK.old) (by omega) (by have := hxl.out; omega) hL.c hx) (fun sv7 => ?_)
    refine tS m3 0 [.bool (isN (dotQ P.c xs)), .slice sv7.a.p sv7.a.l sv7.a.c, .slice sv7.b.p sv7.b.l sv7.b.c] (fun w' hK _ ni => kQ ni (kM ni (kM ni (kP [.bool (isN (dotQ P.c xs)), .slice sv7.a.p sv7.a.l sv7.a.c, .slice sv7.b.p sv7.b.l sv7.b.c] (kL o_R1_R2 kZ))))) ?_
    refine tF ?_
    refine txEnd (fun W8 hK => ?_)
    have k_R2 := (hK.get m3); have ⟨c_R2_0, c_R2_1, c_R2_2⟩ := k_R2.c3
    go_wp2
    exact bodyPost_ret (v := .tuple #[.agg #[.bool (isN (dotQ P.c xs)), .slice sv7.a.p sv7.a.l sv7.a.c, .slice sv7.b.p sv7.b.l sv7.b.c], .int .i64 0]) (by simp [results, Tryz.results31, go_sem, c_R2_0, c_R2_1, c_R2_2]) rfl ((by obtain rfl := hQ0.out; exact ⟨.agg #[.bool (isN (dotQ P.c xs)), .slice sv7.a.p sv7.a.l sv7.a.c, .slice sv7.b.p sv7.b.l sv7.b.c], (by rw [(val_yes hb1.out (by have a_b2 := hb2.out; simp at a_b2; omega)).1]), (Eq.mp (congrArg (RatV _ _) (show dotQ P.c xs = valR P xs from (by rw [(val_yes hb1.out (by have a_b2 := hb2.out; simp at a_b2; omega)).2]))) (hK.get m0)), hK.old⟩))
   · --
    go_upto_region 2 with (fail)
    refine wp_region_tx w hK ?_
    clear hK
    refine tF ?_
    refine tS m0 0 [.bool false, .slice none 0 0, .slice none 0 0] (fun w' hK _ ni => kP [.bool false, .slice none 0 0, .slice none 0 0] (kL o_R1_R2 kZ)) ?_
    refine tF ?_
    refine txEnd (fun W9 hK => ?_)
    have k_R2 := (hK.get m0); have ⟨c_R2_0, c_R2_1, c_R2_2⟩ := k_R2.c3
    go_wp2
    exact bodyPost_ret (v := .tuple #[.agg #[.bool false, .slice none 0 0, .slice none 0 0], .int .i64 1]) (by simp [results, Tryz.results31, go_sem, c_R2_0, c_R2_1, c_R2_2]) rfl ((by obtain rfl := hQ0.out; exact ⟨.agg #[.bool false, .slice none 0 0, .slice none 0 0], (by rw [(val_no (.inr (by have a_b2 := hb2.out; simp at a_b2; omega))).1]), (by rw [(val_no (.inr (by have a_b2 := hb2.out; simp at a_b2; omega))).2]; exact RatV.zero _), hK.old⟩))
set_option maxRecDepth 100000 in
theorem rvalue_any (v0 : Value) (v1 : Value) (P : LPd) (xs : List Rat) (w : World) (h0 : RpV w v0 P) (h1 : SlV refK w v1 xs) (hL : LmP 300 P) (hx : LmL 300 xs) (_hl : xs.length ≤ 100000) (hbl : P.b.length ≤ 100000) :
    Calls Tryz.prog 32 #[v0, v1] w fun e w' => ∃ y0, e = .returned (.tuple #[y0, .int .i64 (valE P xs)]) ∧ RefR w' y0 (valR P xs) ∧ Below w.heap.size w w' := by
  have h0_0 := h0; obtain ⟨⟨p_h0, l_h0, c_h0⟩, ⟨q_h0, m_h0, d_h0⟩, ⟨r_h0, n_h0, e_h0⟩, rfl, h0_1, h0_2, h0_3⟩ := h0
  have h1_0 := h1; obtain ⟨p_h1, c_h1, rfl, n_h1⟩ := h1.sh
  have hK := (KS.start w)
  have hn12 := hL.n
  have hm12 := hL.m
  refine Calls.hide (fun Q0 hQ0 => ?_)
  go_enter Tryz.func32, Tryz.ntmps32
  go_upto_region 0 with (fail)
  refine wp_region_tx w hK ?_
  clear hK
  refine tA (.cells #[.slice p_h0 P.c.length c_h0, .slice q_h0 P.A.length d_h0, .slice r_h0 P.b.length e_h0] 36) (fun R1 q_R1 => ?_)
  clear q_R1
  refine tA (.cells #[.bool false, .slice none 0 0, .slice none 0 0] 41) (fun R2 q_R2 => ?_)
  have o_R1_R2 : R1 < R2 := q_R2 _ _ _ m0
  clear q_R2
  refine tF ?_
  refine txEnd (fun W3 hK => ?_)
  go_upto_region 1 with (fail)
  refine wp_region_tx w hK ?_
  clear hK
  refine tL m1 ?_
  obtain ⟨b1, hb1⟩ : ∃ b : Bool, RowKit.Hid ((vldP P) = b) := ⟨_, hid rfl⟩
  refine tH (fun w' hK => rvalid_any (.agg #[.slice p_h0 P.c.length c_h0, .slice q_h0 P.A.length d_h0, .slice r_h0 P.b.length e_h0]) P w' (h0_0.below hK.old) (by omega) (by omega) (by omega)) ?_ (v := .bool b1) (hv := (by rw [hb1.out]))
  iterate 2 (refine tF ?_)
  cases b1
  · --
   iterate 6 (refine tN ?_)
   refine tF ?_
   refine txEnd (fun W4 hK => ?_)
   go_upto_region 2 with (fail)
   refine wp_region_tx w hK ?_
   clear hK
   refine tF ?_
   refine tS m0 0 [.bool false, .slice none 0 0, .slice none 0 0] (fun w' hK _ ni => kP [.bool false, .slice none 0 0, .slice none 0 0] (kL o_R1_R2 kZ)) ?_
   refine tF ?_
   refine txEnd (fun W5 hK => ?_)
   have k_R2 := (hK.get m0); have ⟨c_R2_0, c_R2_1, c_R2_2⟩ := k_R2.c3
   go_wp2
   exact bodyPost_ret (v := .tuple #[.agg #[.bool false, .slice none 0 0, .slice none 0 0], .int .i64 1]) (by simp [results, Tryz.results32, go_sem, c_R2_0, c_R2_1, c_R2_2]) rfl ((by obtain rfl := hQ0.out; exact ⟨.agg #[.bool false, .slice none 0 0, .slice none 0 0], (by rw [(val_no (.inl hb1.out)).1]), (by rw [(val_no (.inl hb1.out)).2]; exact RefR.zero _), hK.old⟩))
  · --
   iterate 3 (refine tF ?_)
   refine tL m1 ?_
   refine tF ?_
   refine tB (((xs.length : Int)) != ((P.c.length : Int))) (fun b2 hb2 => ?_)
   refine tF ?_
   refine txEnd (fun W6 hK => ?_)
   cases b2
   · --
    have hxl := hid (show _ from (by have a_b2 := hb2.out; simp at a_b2; omega : xs.length = P.c.length)); have hok := hid (vld_ok hb1.out)
    go_upto_region 3 with (fail)
    refine wp_region_tx w hK ?_
    clear hK
    refine tF ?_
    refine tL m1 ?_
    refine tF ?_
    refine tER (fun w' hK => rdot_any (.slice p_h0 P.c.length c_h0) (.slice p_h1 xs.length c_h1) P.c xs w' (h0_1.below hK.old) (h1_0.below hK.old) (by omega) (by have := hxl.out; omega) hL.c hx) (fun sv7 => ?_)
    refine tS m3 0 [.bool (isN (dotQ P.c xs)), .slice sv7.a.p (digs B6 (numQ (dotQ P.c xs))).length sv7.a.c, .slice sv7.b.p (digs B6 (den0 (dotQ P.c xs))).length sv7.b.c] (fun w' hK _ ni => kS ni (kR ni (kR ni (kP [.bool (isN (dotQ P.c xs)), .slice sv7.a.p (digs B6 (numQ (dotQ P.c xs))).length sv7.a.c, .slice sv7.b.p (digs B6 (den0 (dotQ P.c xs))).length sv7.b.c] (kL o_R1_R2 kZ))))) ?_
    refine tF ?_
    refine txEnd (fun W8 hK => ?_)
    have k_R2 := (hK.get m3); have ⟨c_R2_0, c_R2_1, c_R2_2⟩ := k_R2.c3
    go_wp2
    exact bodyPost_ret (v := .tuple #[.agg #[.bool (isN (dotQ P.c xs)), .slice sv7.a.p (digs B6 (numQ (dotQ P.c xs))).length sv7.a.c, .slice sv7.b.p (digs B6 (den0 (dotQ P.c xs))).length sv7.b.c], .int .i64 0]) (by simp [results, Tryz.results32, go_sem, c_R2_0, c_R2_1, c_R2_2]) rfl ((by obtain rfl := hQ0.out; exact ⟨.agg #[.bool (isN (dotQ P.c xs)), .slice sv7.a.p (digs B6 (numQ (dotQ P.c xs))).length sv7.a.c, .slice sv7.b.p (digs B6 (den0 (dotQ P.c xs))).length sv7.b.c], (by rw [(val_yes hb1.out (by have a_b2 := hb2.out; simp at a_b2; omega)).1]), (Eq.mp (congrArg (RefR _ _) (show dotQ P.c xs = valR P xs from (by rw [(val_yes hb1.out (by have a_b2 := hb2.out; simp at a_b2; omega)).2]))) (hK.get m0)), hK.old⟩))
   · --
    go_upto_region 2 with (fail)
    refine wp_region_tx w hK ?_
    clear hK
    refine tF ?_
    refine tS m0 0 [.bool false, .slice none 0 0, .slice none 0 0] (fun w' hK _ ni => kP [.bool false, .slice none 0 0, .slice none 0 0] (kL o_R1_R2 kZ)) ?_
    refine tF ?_
    refine txEnd (fun W9 hK => ?_)
    have k_R2 := (hK.get m0); have ⟨c_R2_0, c_R2_1, c_R2_2⟩ := k_R2.c3
    go_wp2
    exact bodyPost_ret (v := .tuple #[.agg #[.bool false, .slice none 0 0, .slice none 0 0], .int .i64 1]) (by simp [results, Tryz.results32, go_sem, c_R2_0, c_R2_1, c_R2_2]) rfl ((by obtain rfl := hQ0.out; exact ⟨.agg #[.bool false, .slice none 0 0, .slice none 0 0], (by rw [(val_no (.inr (by have a_b2 := hb2.out; simp at a_b2; omega))).1]), (by rw [(val_no (.inr (by have a_b2 := hb2.out; simp at a_b2; omega))).2]; exact RefR.zero _), hK.old⟩))
set_option maxRecDepth 100000 in
theorem bound_any (v0 : Value) (v1 : Value) (P : LPd) (xs : List Rat) (w : World) (h0 : LpV w v0 P) (h1 : SlV ratK w v1 xs) (hL : LmP 300 P) (hx : LmL 300 xs) (_hl : xs.length ≤ 100000) (hbl : P.b.length ≤ 100000) :
    Calls Tryz.prog 33 #[v0, v1] w fun e w' => ∃ y0, e = .returned (.tuple #[y0, .int .i64 (bndE P xs)]) ∧ RatV w' y0 (bndR P xs) ∧ Below w.heap.size w w' := by
  have h0_0 := h0; obtain ⟨⟨p_h0, l_h0, c_h0⟩, ⟨q_h0, m_h0, d_h0⟩, ⟨r_h0, n_h0, e_h0⟩, rfl, h0_1, h0_2, h0_3⟩ := h0
  have h1_0 := h1; obtain ⟨p_h1, c_h1, rfl, n_h1⟩ := h1.sh
  have hK := (KS.start w)
  have hn12 := hL.n
  have hm12 := hL.m
  refine Calls.hide (fun Q0 hQ0 => ?_)
  go_enter Tryz.func33, Tryz.ntmps33
  go_upto_region 0 with (fail)
  refine wp_region_tx w hK ?_
  clear hK
  refine tA (.cells #[.slice p_h0 P.c.length c_h0, .slice q_h0 P.A.length d_h0, .slice r_h0 P.b.length e_h0] 49) (fun R1 q_R1 => ?_)
  clear q_R1
  refine tA (.cells #[.bool false, .slice none 0 0, .slice none 0 0] 55) (fun R2 q_R2 => ?_)
  have o_R1_R2 : R1 < R2 := q_R2 _ _ _ m0
  clear q_R2
  refine tF ?_
  refine txEnd (fun W3 hK => ?_)
  go_upto_region 1 with (fail)
  refine wp_region_tx w hK ?_
  clear hK
  refine tL m1 ?_
  obtain ⟨b1, hb1⟩ : ∃ b : Bool, RowKit.Hid ((vldP P) = b) := ⟨_, hid rfl⟩
  refine tH (fun w' hK => lvalid_any (.agg #[.slice p_h0 P.c.length c_h0, .slice q_h0 P.A.length d_h0, .slice r_h0 P.b.length e_h0]) P w' (h0_0.below hK.old) (by omega) (by omega) (by omega)) ?_ (v := .bool b1) (hv := (by rw [hb1.out]))
  iterate 2 (refine tF ?_)
  cases b1
  · --
   iterate 6 (refine tN ?_)
   refine tF ?_
   refine txEnd (fun W4 hK => ?_)
   go_upto_region 2 with (fail)
   refine wp_region_tx w hK ?_
   clear hK
   refine tF ?_
   refine tS m0 0 [.bool false, .slice none 0 0, .slice none 0 0] (fun w' hK _ ni => kP [.bool false, .slice none 0 0, .slice none 0 0] (kL o_R1_R2 kZ)) ?_
   refine tF ?_
   refine txEnd (fun W5 hK => ?_)
   have k_R2 := (hK.get m0); have ⟨c_R2_0, c_R2_1, c_R2_2⟩ := k_R2.c3
   go_wp2
   exact bodyPost_ret (v := .tuple #[.agg #[.bool false, .slice none 0 0, .slice none 0 0], .int .i64 1]) (by simp [results, Tryz.results33, go_sem, c_R2_0, c_R2_1, c_R2_2]) rfl ((by obtain rfl := hQ0.out; exact ⟨.agg #[.bool false, .slice none 0 0, .slice none 0 0], (by rw [(bnd_no (.inl hb1.out)).1]), (by rw [(bnd_no (.inl hb1.out)).2]; exact RatV.zero _), hK.old⟩))
  · --
   iterate 3 (refine tF ?_)
   refine tL m1 ?_
   refine tF ?_
   refine tB (((xs.length : Int)) != ((P.A.length : Int))) (fun b2 hb2 => ?_)
   refine tF ?_
   refine txEnd (fun W6 hK => ?_)
   cases b2
   · --
    have hxl := hid (show _ from (by have a_b2 := hb2.out; simp at a_b2; omega : xs.length = P.A.length)); have hok := hid (vld_ok hb1.out)
    go_upto_region 3 with (fail)
    refine wp_region_tx w hK ?_
    clear hK
    iterate 2 (refine tF ?_)
    refine tL m1 ?_
    refine tEQ (fun w' hK => dot_any (.slice p_h1 xs.length c_h1) (.slice r_h0 P.b.length e_h0) xs P.b w' (h1_0.below hK.old) (h0_3.below hK.old) (by have := hxl.out; omega) (by have := hxl.out; have := hok.out.hb; omega) hx hL.b) (fun sv7 => ?_)
    refine tS m3 0 [.bool (isN (dotQ xs P.b)), .slice sv7.a.p sv7.a.l sv7.a.c, .slice sv7.b.p sv7.b.l sv7.b.c] (fun w' hK _ ni => kQ ni (kM ni (kM ni (kP [.bool (isN (dotQ xs P.b)), .slice sv7.a.p sv7.a.l sv7.a.c, .slice sv7.b.p sv7.b.l sv7.b.c] (kL o_R1_R2 kZ))))) ?_
    refine tF ?_
    refine txEnd (fun W8 hK => ?_)
    have k_R2 := (hK.get m3); have ⟨c_R2_0, c_R2_1, c_R2_2⟩ := k_R2.c3
    go_wp2
    exact bodyPost_ret (v := .tuple #[.agg #[.bool (isN (dotQ xs P.b)), .slice sv7.a.p sv7.a.l sv7.a.c, .slice sv7.b.p sv7.b.l sv7.b.c], .int .i64 0]) (by simp [results, Tryz.results33, go_sem, c_R2_0, c_R2_1, c_R2_2]) rfl ((by obtain rfl := hQ0.out; exact ⟨.agg #[.bool (isN (dotQ xs P.b)), .slice sv7.a.p sv7.a.l sv7.a.c, .slice sv7.b.p sv7.b.l sv7.b.c], (by rw [(bnd_yes hb1.out (by have a_b2 := hb2.out; simp at a_b2; omega)).1]), (Eq.mp (congrArg (RatV _ _) (show dotQ xs P.b = bndR P xs from (by rw [(bnd_yes hb1.out (by have a_b2 := hb2.out; simp at a_b2; omega)).2]))) (hK.get m0)), hK.old⟩))
   · --
    go_upto_region 2 with (fail)
    refine wp_region_tx w hK ?_
    clear hK
    refine tF ?_
    refine tS m0 0 [.bool false, .slice none 0 0, .slice none 0 0] (fun w' hK _ ni => kP [.bool false, .slice none 0 0, .slice none 0 0] (kL o_R1_R2 kZ)) ?_
    refine tF ?_
    refine txEnd (fun W9 hK => ?_)
    have k_R2 := (hK.get m0); have ⟨c_R2_0, c_R2_1, c_R2_2⟩ := k_R2.c3
    go_wp2
    exact bodyPost_ret (v := .tuple #[.agg #[.bool false, .slice none 0 0, .slice none 0 0], .int .i64 1]) (by simp [results, Tryz.results33, go_sem, c_R2_0, c_R2_1, c_R2_2]) rfl ((by obtain rfl := hQ0.out; exact ⟨.agg #[.bool false, .slice none 0 0, .slice none 0 0], (by rw [(bnd_no (.inr (by have a_b2 := hb2.out; simp at a_b2; omega))).1]), (by rw [(bnd_no (.inr (by have a_b2 := hb2.out; simp at a_b2; omega))).2]; exact RatV.zero _), hK.old⟩))
set_option maxRecDepth 100000 in
theorem rbound_any (v0 : Value) (v1 : Value) (P : LPd) (xs : List Rat) (w : World) (h0 : RpV w v0 P) (h1 : SlV refK w v1 xs) (hL : LmP 300 P) (hx : LmL 300 xs) (_hl : xs.length ≤ 100000) (hbl : P.b.length ≤ 100000) :
    Calls Tryz.prog 34 #[v0, v1] w fun e w' => ∃ y0, e = .returned (.tuple #[y0, .int .i64 (bndE P xs)]) ∧ RefR w' y0 (bndR P xs) ∧ Below w.heap.size w w' := by
  have h0_0 := h0; obtain ⟨⟨p_h0, l_h0, c_h0⟩, ⟨q_h0, m_h0, d_h0⟩, ⟨r_h0, n_h0, e_h0⟩, rfl, h0_1, h0_2, h0_3⟩ := h0
  have h1_0 := h1; obtain ⟨p_h1, c_h1, rfl, n_h1⟩ := h1.sh
  have hK := (KS.start w)
  have hn12 := hL.n
  have hm12 := hL.m
  refine Calls.hide (fun Q0 hQ0 => ?_)
  go_enter Tryz.func34, Tryz.ntmps34
  go_upto_region 0 with (fail)
  refine wp_region_tx w hK ?_
  clear hK
  refine tA (.cells #[.slice p_h0 P.c.length c_h0, .slice q_h0 P.A.length d_h0, .slice r_h0 P.b.length e_h0] 36) (fun R1 q_R1 => ?_)
  clear q_R1
  refine tA (.cells #[.bool false, .slice none 0 0, .slice none 0 0] 41) (fun R2 q_R2 => ?_)
  have o_R1_R2 : R1 < R2 := q_R2 _ _ _ m0
  clear q_R2
  refine tF ?_
  refine txEnd (fun W3 hK => ?_)
  go_upto_region 1 with (fail)
  refine wp_region_tx w hK ?_
  clear hK
  refine tL m1 ?_
  obtain ⟨b1, hb1⟩ : ∃ b : Bool, RowKit.Hid ((vldP P) = b) := ⟨_, hid rfl⟩
  refine tH (fun w' hK => rvalid_any (.agg #[.slice p_h0 P.c.length c_h0, .slice q_h0 P.A.length d_h0, .slice r_h0 P.b.length e_h0]) P w' (h0_0.below hK.old) (by omega) (by omega) (by omega)) ?_ (v := .bool b1) (hv := (by rw [hb1.out]))
  iterate 2 (refine tF ?_)
  cases b1
  · --
   iterate 6 (refine tN ?_)
   refine tF ?_
   refine txEnd (fun W4 hK => ?_)
   go_upto_region 2 with (fail)
   refine wp_region_tx w hK ?_
   clear hK
   refine tF ?_
   refine tS m0 0 [.bool false, .slice none 0 0, .slice none 0 0] (fun w' hK _ ni => kP [.bool false, .slice none 0 0, .slice none 0 0] (kL o_R1_R2 kZ)) ?_
   refine tF ?_
   refine txEnd (fun W5 hK => ?_)
   have k_R2 := (hK.get m0); have ⟨c_R2_0, c_R2_1, c_R2_2⟩ := k_R2.c3
   go_wp2
   exact bodyPost_ret (v := .tuple #[.agg #[.bool false, .slice none 0 0, .slice none 0 0], .int .i64 1]) (by simp [results, Tryz.results34, go_sem, c_R2_0, c_R2_1, c_R2_2]) rfl ((by obtain rfl := hQ0.out; exact ⟨.agg #[.bool false, .slice none 0 0, .slice none 0 0], (by rw [(bnd_no (.inl hb1.out)).1]), (by rw [(bnd_no (.inl hb1.out)).2]; exact RefR.zero _), hK.old⟩))
  · --
   iterate 3 (refine tF ?_)
   refine tL m1 ?_
   refine tF ?_
   refine tB (((xs.length : Int)) != ((P.A.length : Int))) (fun b2 hb2 => ?_)
   refine tF ?_
   refine txEnd (fun W6 hK => ?_)
   cases b2
   · --
    have hxl := hid (show _ from (by have a_b2 := hb2.out; simp at a_b2; omega : xs.length = P.A.length)); have hok := hid (vld_ok hb1.out)
    go_upto_region 3 with (fail)
    refine wp_region_tx w hK ?_
    clear hK
    refine tF ?_
    refine tL m1 ?_
    refine tF ?_
    refine tER (fun w' hK => rdot_any (.slice r_h0 P.b.length e_h0) (.slice p_h1 xs.length c_h1) P.b xs w' (h0_3.below hK.old) (h1_0.below hK.old) (by have := hok.out.hb; omega) (by have := hxl.out; have := hok.out.hb; omega) hL.b hx) (fun sv7 => ?_)
    refine tS m3 0 [.bool (isN (dotQ P.b xs)), .slice sv7.a.p (digs B6 (numQ (dotQ P.b xs))).length sv7.a.c, .slice sv7.b.p (digs B6 (den0 (dotQ P.b xs))).length sv7.b.c] (fun w' hK _ ni => kS ni (kR ni (kR ni (kP [.bool (isN (dotQ P.b xs)), .slice sv7.a.p (digs B6 (numQ (dotQ P.b xs))).length sv7.a.c, .slice sv7.b.p (digs B6 (den0 (dotQ P.b xs))).length sv7.b.c] (kL o_R1_R2 kZ))))) ?_
    refine tF ?_
    refine txEnd (fun W8 hK => ?_)
    have k_R2 := (hK.get m3); have ⟨c_R2_0, c_R2_1, c_R2_2⟩ := k_R2.c3
    go_wp2
    exact bodyPost_ret (v := .tuple #[.agg #[.bool (isN (dotQ P.b xs)), .slice sv7.a.p (digs B6 (numQ (dotQ P.b xs))).length sv7.a.c, .slice sv7.b.p (digs B6 (den0 (dotQ P.b xs))).length sv7.b.c], .int .i64 0]) (by simp [results, Tryz.results34, go_sem, c_R2_0, c_R2_1, c_R2_2]) rfl ((by obtain rfl := hQ0.out; exact ⟨.agg #[.bool (isN (dotQ P.b xs)), .slice sv7.a.p (digs B6 (numQ (dotQ P.b xs))).length sv7.a.c, .slice sv7.b.p (digs B6 (den0 (dotQ P.b xs))).length sv7.b.c], (by rw [(bnd_yes hb1.out (by have a_b2 := hb2.out; simp at a_b2; omega)).1]), (Eq.mp (congrArg (RefR _ _) (show dotQ P.b xs = bndR P xs from (by rw [(bnd_yes hb1.out (by have a_b2 := hb2.out; simp at a_b2; omega)).2, dotQ_comm xs]))) (hK.get m0)), hK.old⟩))
   · --
    go_upto_region 2 with (fail)
    refine wp_region_tx w hK ?_
    clear hK
    refine tF ?_
    refine tS m0 0 [.bool false, .slice none 0 0, .slice none 0 0] (fun w' hK _ ni => kP [.bool false, .slice none 0 0, .slice none 0 0] (kL o_R1_R2 kZ)) ?_
    refine tF ?_
    refine txEnd (fun W9 hK => ?_)
    have k_R2 := (hK.get m0); have ⟨c_R2_0, c_R2_1, c_R2_2⟩ := k_R2.c3
    go_wp2
    exact bodyPost_ret (v := .tuple #[.agg #[.bool false, .slice none 0 0, .slice none 0 0], .int .i64 1]) (by simp [results, Tryz.results34, go_sem, c_R2_0, c_R2_1, c_R2_2]) rfl ((by obtain rfl := hQ0.out; exact ⟨.agg #[.bool false, .slice none 0 0, .slice none 0 0], (by rw [(bnd_no (.inr (by have a_b2 := hb2.out; simp at a_b2; omega))).1]), (by rw [(bnd_no (.inr (by have a_b2 := hb2.out; simp at a_b2; omega))).2]; exact RefR.zero _), hK.old⟩))
end Go.Proofs.YtcdbgincfdejkaaGreatDoor
