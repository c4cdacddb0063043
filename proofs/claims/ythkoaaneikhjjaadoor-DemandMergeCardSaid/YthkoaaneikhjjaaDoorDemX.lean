/- The laws of merged lists. -/
import Derived.Test.YthkoaaneikhjjaaDoorDemW
namespace Go.Proofs.YthkoaaneikhjjaaDoor
open Go.RowKit
open Go.Lib (decDigits)
theorem same_of {v u : Value} {xs ys : List Dm} (w : World) (h : SlV demK w v xs) (h2 : SlV demK w u ys) (e : xs = ys) (hl : xs.length ≤ 100000) : Calls Tryd.prog 9 #[v, u] w fun e w' => e = .returned (.bool true) ∧ Below w.heap.size w w' := by
  have q := same_any v u xs ys w h h2 hl (by rw [← e]; exact hl)
  rw [decide_eq_true e] at q; exact q
set_option maxRecDepth 100000 in
theorem demandMerge_walk (v0 : Value) (xs : List Dm) (s d : Int) (w : World) (h0 : SlV demK w v0 xs) (hB0 : Tab w)  :
    Calls Tryd.prog 5 #[v0, .agg #[.int .i64 s, .int .i64 d]] w fun e w' => e = .returned (.bool true) ∧ Below w.heap.size w w' := by
  have h0_0 := h0; obtain ⟨p_h0, c_h0, rfl, n_h0⟩ := h0.sh
  have hK : KS w [] w := (KS.start w)
  have hml := mgD_len xs
  refine Calls.hide (fun Q0 hQ0 => ?_)
  go_enter Tryd.func5, Tryd.ntmps5
  go_upto_region 0 with (fail)
  refine wp_region_tx w hK ?_
  clear hK
  apply txA (.cells #[.int .i64 s, .int .i64 d] 29) (wants0 rfl)
  · intro w' hK; go_simp; rfl
  intro R1 q_R1
  clear q_R1
  simp only [mkOf, Act.put, pA, pB, pC]
  apply txF (wants0 rfl); (· intro w' hK; go_simp; (try go_bits); exact ⟨rfl, rfl⟩); simp only [Act.put, pA, pB, pC]
  refine txEnd (fun W2 hK => ?_)
  go_upto_region 1 with (fail)
  refine wp_region_tx w hK ?_
  clear hK
  apply txH (v := .bool true) (wants0 rfl)
  · intro v1 hv1 w' hK; go_simp; (try go_bits); refine (awake_any w' (hB0.below hK.old)).mono ?_; rintro e w5 ⟨rfl, hb⟩; obtain rfl := hv1.out; exact ⟨_, rfl, rfl, hb⟩
  simp only [Act.put, pA, pB, pC]
  apply txF (wants0 rfl); (· intro w' hK; go_simp; (try go_bits); exact ⟨rfl, rfl⟩); simp only [Act.put, pA, pB, pC]
  refine txEnd (fun W3 hK => ?_)
  go_upto_region 3 with (fail)
  refine wp_region_tx w hK ?_
  clear hK
  iterate 2 (apply txF (wants0 rfl); (· intro w' hK; go_simp; (try go_bits); exact ⟨rfl, rfl⟩); simp only [Act.put, pA, pB, pC])
  obtain ⟨b1, hb1⟩ : ∃ b : Bool, RowKit.Hid (decide (80 < ((xs.length : Int))) = b) := ⟨_, hid rfl⟩
  apply txB b1 (wants0 rfl); (· intro w' hK; go_simp; (try go_bits); exact ⟨by have q := hb1.out; subst q; first | rfl | simp, rfl⟩); simp only [Act.put, pA, pB, pC]
  refine txEnd (fun W4 hK => ?_)
  cases b1
  · --
   have q_b1 : ((xs.length : Int)) ≤ 80 := Int.not_lt.1 (of_decide_eq_false hb1.out)
   go_upto_region 5 with (fail)
   refine wp_region_tx w hK ?_
   clear hK
   apply txF (wants0 rfl); (· intro w' hK; go_simp; (try go_bits); exact ⟨rfl, rfl⟩); simp only [Act.put, pA, pB, pC]
   apply txE (α := Sl) (fun sv => .slice sv.p xs.length sv.c) (fun sv => [fun w1 => OwV demK 25 w.heap.size w1 (.slice sv.p xs.length sv.c) xs, fun _ => ob sv.p ≠ some R1]) (wants0 rfl)
   · intro f1 l1 hl1 w' hK; go_simp; (try go_bits); refine (copied_any (.slice p_h0 xs.length c_h0) xs w' (h0_0.below hK.old) (by omega)).mono ?_; rintro e w5 ⟨y0, rfl, u0, hb⟩; obtain ⟨rfl, rfl⟩ := hl1.out; have u0_0 := u0; obtain ⟨p_u0, c_u0, rfl, n_u0⟩ := u0.sh; exact ⟨_, rfl, (⟨p_u0, 0, c_u0⟩ : Sl), rfl, hb, .cons (fun w2 h2 => (u0_0.mono hK.old.size).below h2) (.cons (fun _ _ => fun e => absurd (u0_0.block e).1 (Nat.not_le.2 ((hK.get m0)).ltS)) (Lasts.nil _))⟩
   intro sv5
   simp only [Act.put, pA, pB, pC, pD, pE]
   refine Tx.know (Pr := ob sv5.p ≠ some R1) (fun w' hK => hK.get m1) (fun n6 => ?_)
   apply txF (wants0 rfl); (· intro w' hK; go_simp; (try go_bits); exact ⟨rfl, rfl⟩); simp only [Act.put, pA, pB, pC]
   refine txEnd (fun W7 hK => ?_)
   go_upto_region 6 with (fail)
   refine wp_region_tx w hK ?_
   clear hK
   apply txF (wants0 rfl); (· intro w' hK; go_simp; (try go_bits); exact ⟨rfl, rfl⟩); simp only [Act.put, pA, pB, pC]
   apply txE (α := Sl) (fun sv => .slice sv.p (mgD xs).length sv.c) (fun sv => [fun w1 => OwV demK 25 w.heap.size w1 (.slice sv.p (mgD xs).length sv.c) (mgD xs), fun _ => ob sv.p ≠ some R1, fun _ => ∀ g, ob sv.p = some g → ob sv5.p ≠ some g]) (wants0 rfl)
   · intro f1 l1 hl1 w' hK; go_simp; (try go_bits); refine (merge_any (.slice sv5.p xs.length sv5.c) xs w' (hK.get m0).slv (by omega)).mono ?_; rintro e w5 ⟨y0, rfl, u0, hb⟩; obtain ⟨rfl, rfl⟩ := hl1.out; have u0_0 := u0; obtain ⟨p_u0, c_u0, rfl, n_u0⟩ := u0.sh; exact ⟨_, rfl, (⟨p_u0, 0, c_u0⟩ : Sl), rfl, hb, .cons (fun w2 h2 => (u0_0.mono hK.old.size).below h2) (.cons (fun _ _ => fun e => absurd (u0_0.block e).1 (Nat.not_le.2 ((hK.get m2)).ltS)) (.cons (fun _ _ => fun _ e e2 => absurd (u0_0.block e).1 (Nat.not_le.2 (((hK.get m0)).block e2).2)) (Lasts.nil _)))⟩
   intro sv8
   simp only [Act.put, pA, pB, pC, pD, pE]
   refine Tx.know (Pr := ob sv8.p ≠ some R1) (fun w' hK => hK.get m1) (fun n9 => ?_)
   refine Tx.know (Pr := ∀ g, ob sv8.p = some g → ob sv5.p ≠ some g) (fun w' hK => hK.get m2) (fun n10 => ?_)
   apply txF (wants0 rfl); (· intro w' hK; go_simp; (try go_bits); exact ⟨rfl, rfl⟩); simp only [Act.put, pA, pB, pC]
   refine txEnd (fun W11 hK => ?_)
   go_upto_region 7 with (fail)
   refine wp_region_tx w hK ?_
   clear hK
   iterate 2 (apply txF (wants0 rfl); (· intro w' hK; go_simp; (try go_bits); exact ⟨rfl, rfl⟩); simp only [Act.put, pA, pB, pC])
   apply txE (α := Sl) (fun sv => .slice sv.p (mgD xs).length sv.c) (fun sv => [fun w1 => OwV demK 25 w.heap.size w1 (.slice sv.p (mgD xs).length sv.c) (mgD xs), fun _ => ob sv.p ≠ some R1, fun _ => ∀ g, ob sv.p = some g → ob sv8.p ≠ some g, fun _ => ∀ g, ob sv.p = some g → ob sv5.p ≠ some g]) (wants0 rfl)
   · intro f1 l1 hl1 w' hK; go_simp; (try go_bits); refine (rmerge_any (.slice p_h0 xs.length c_h0) xs w' (h0_0.below hK.old) (by omega)).mono ?_; rintro e w5 ⟨y0, rfl, u0, hb⟩; obtain ⟨rfl, rfl⟩ := hl1.out; have u0_0 := u0; obtain ⟨p_u0, c_u0, rfl, n_u0⟩ := u0.sh; exact ⟨_, rfl, (⟨p_u0, 0, c_u0⟩ : Sl), rfl, hb, .cons (fun w2 h2 => (u0_0.mono hK.old.size).below h2) (.cons (fun _ _ => fun e => absurd (u0_0.block e).1 (Nat.not_le.2 ((hK.get m5)).ltS)) (.cons (fun _ _ => fun _ e e2 => absurd (u0_0.block e).1 (Nat.not_le.2 (((hK.get m0)).block e2).2)) (.cons (fun _ _ => fun _ e e2 => absurd (u0_0.block e).1 (Nat.not_le.2 (((hK.get m3)).block e2).2)) (Lasts.nil _))))⟩
   intro sv12
   simp only [Act.put, pA, pB, pC, pD, pE]
   refine Tx.know (Pr := ob sv12.p ≠ some R1) (fun w' hK => hK.get m1) (fun n13 => ?_)
   refine Tx.know (Pr := ∀ g, ob sv12.p = some g → ob sv8.p ≠ some g) (fun w' hK => hK.get m2) (fun n14 => ?_)
   refine Tx.know (Pr := ∀ g, ob sv12.p = some g → ob sv5.p ≠ some g) (fun w' hK => hK.get m3) (fun n15 => ?_)
   apply txH (v := .bool true) (wants0 rfl)
   · intro v1 hv1 w' hK; go_simp; (try go_bits); refine (same_of w' (hK.get m4).slv (hK.get m0).slv rfl (by omega)).mono ?_; rintro e w5 ⟨rfl, hb⟩; obtain rfl := hv1.out; exact ⟨_, rfl, rfl, hb⟩
   simp only [Act.put, pA, pB, pC]
   iterate 2 (apply txF (wants0 rfl); (· intro w' hK; go_simp; (try go_bits); exact ⟨rfl, rfl⟩); simp only [Act.put, pA, pB, pC])
   iterate 2 (apply txF (wantsg (j := 5) (d := 21) (b := false) rfl rfl rfl rfl); (· intro w' hK; go_simp; (try go_bits); exact ⟨rfl, rfl⟩); simp only [Act.put, pA, pB, pC])
   apply txH (v := .bool true) (wantsg (j := 5) (d := 21) (b := false) rfl rfl rfl rfl)
   · intro v1 hv1 w' hK; go_simp; (try go_bits); refine (same_of w' (hK.get m7).slv (h0_0.below hK.old) rfl (by omega)).mono ?_; rintro e w5 ⟨rfl, hb⟩; obtain rfl := hv1.out; exact ⟨_, rfl, rfl, hb⟩
   simp only [Act.put, pA, pB, pC]
   apply txF (wantsg (j := 5) (d := 21) (b := false) rfl rfl rfl rfl); (· intro w' hK; go_simp; (try go_bits); exact ⟨rfl, rfl⟩); simp only [Act.put, pA, pB, pC]
   apply txF (wants0 rfl); (· intro w' hK; go_simp; (try go_bits); exact ⟨rfl, rfl⟩); simp only [Act.put, pA, pB, pC]
   refine txEnd (fun W16 hK => ?_)
   go_upto_region 9 with (fail)
   refine wp_region_tx w hK ?_
   clear hK
   apply txF (wants0 rfl); (· intro w' hK; go_simp; (try go_bits); exact ⟨rfl, rfl⟩); simp only [Act.put, pA, pB, pC]
   obtain ⟨b2, hb2⟩ : ∃ b : Bool, RowKit.Hid ((vldD 64 (mgD xs)) = b) := ⟨_, hid rfl⟩
   apply txH (v := .bool b2) (wants0 rfl)
   · intro v1 hv1 w' hK; go_simp; (try go_bits); refine (rvalid_any (.slice sv8.p (mgD xs).length sv8.c) 64 (mgD xs) w' (hK.get m4).slv (by omega)).mono ?_; rintro e w5 ⟨rfl, hb⟩; obtain rfl := hv1.out; exact ⟨_, rfl, (by rw [hb2.out]), hb⟩
   simp only [Act.put, pA, pB, pC]
   apply txF (wants0 rfl); (· intro w' hK; go_simp; (try go_bits); exact ⟨rfl, rfl⟩); simp only [Act.put, pA, pB, pC]
   refine txEnd (fun W17 hK => ?_)
   cases b2
   · --
    go_wp2
    try go_ret
    show Q0 (.returned (.bool true)) _
    exact (by obtain rfl := hQ0.out; exact ⟨rfl, hK.old⟩)
   · --
    have hvm := hid (show vldD 64 (mgD xs) = true from hb2.out); have hma := mgD_len (mgD xs)
    go_upto_region 11 with (fail)
    have hK0 := hK
    refine wp_region_float0 (w) _ _ [0, 1, 0, 1, 0, 0, 0, 0, 0, 0, 0, 1, 0, 0, 0, 0, 0, 1, 0, 0, 0, 0, 2, 0, 1, 0, 0] (by kernel_rfl) (by kernel_rfl) (by kernel_rfl) (by kernel_rfl) (KS.drew hK0) (KS.drew hK) ?_
    clear hK hK0
    apply lxF0 (wants0 rfl); (· intro w' h0; go_simp; (try go_bits); exact ⟨rfl, rfl⟩); simp only [Act.put, pA, pB, pC]
    obtain ⟨z1, hz1⟩ : ∃ b : Int, RowKit.Hid ((totD (cntA) (mgD xs)) = b) := ⟨_, hid rfl⟩
    apply lxH1 (v := .int .i64 z1) (wants0 rfl)
    · intro v1 hv1 w' h0 hK; go_simp; (try go_bits); refine (total_any (.slice sv8.p (mgD xs).length sv8.c) (mgD xs) w' (hK.get m4).slv (by omega)).mono ?_; rintro e w5 ⟨rfl, hb⟩; obtain rfl := hv1.out; exact ⟨_, rfl, (by rw [hz1.out]), hb⟩
    simp only [Act.put, pA, pB, pC]
    apply lxF0 (wants0 rfl); (· intro w' h0; go_simp; (try go_bits); exact ⟨rfl, rfl⟩); simp only [Act.put, pA, pB, pC]
    obtain ⟨z2, hz2⟩ : ∃ b : Int, RowKit.Hid ((totD (cntA) xs) = b) := ⟨_, hid rfl⟩
    apply lxH1 (v := .int .i64 z2) (wants0 rfl)
    · intro v1 hv1 w' h0 hK; go_simp; (try go_bits); refine (total_any (.slice p_h0 xs.length c_h0) xs w' (h0_0.below hK.old) (by omega)).mono ?_; rintro e w5 ⟨rfl, hb⟩; obtain rfl := hv1.out; exact ⟨_, rfl, (by rw [hz2.out]), hb⟩
    simp only [Act.put, pA, pB, pC]
    apply lxF0 (v := .bool true) (wants0 rfl); (· intro w' h0; go_simp; (try go_bits); exact ⟨congrArg Value.bool (by simp; rw [← hz1.out, ← hz2.out]; exact (totD_mg cntA_tri hvm.out)), rfl⟩); simp only [Act.put, pA, pB, pC]
    apply lxF0 (wants0 rfl); (· intro w' h0; go_simp; (try go_bits); exact ⟨rfl, rfl⟩); simp only [Act.put, pA, pB, pC]
    iterate 2 (apply lxF0 (wantsg (j := 5) (d := 35) (b := true) rfl rfl rfl rfl); (· intro w' h0; go_simp; (try go_bits); exact ⟨rfl, rfl⟩); simp only [Act.put, pA, pB, pC])
    apply lxF0 (wantsg (j := 5) (d := 35) (b := true) rfl rfl rfl rfl); (· intro w' h0; have k_R1 := (h0.get m9); have c_R1_0 := k_R1.at 0 rfl; go_simp; (try go_bits); exact ⟨rfl, rfl⟩); simp only [Act.put, pA, pB, pC]
    apply lxF0 (wantsg (j := 5) (d := 35) (b := true) rfl rfl rfl rfl); (· intro w' h0; go_simp; (try go_bits); exact ⟨rfl, rfl⟩); simp only [Act.put, pA, pB, pC]
    apply lxF0 (wantsg (j := 5) (d := 35) (b := true) rfl rfl rfl rfl); (· intro w' h0; have k_R1 := (h0.get m9); have c_R1_1 := k_R1.at 1 rfl; go_simp; (try go_bits); exact ⟨rfl, rfl⟩); simp only [Act.put, pA, pB, pC]
    obtain ⟨z3, hz3⟩ : ∃ b : Int, RowKit.Hid ((totD (cntB s d) (mgD xs)) = b) := ⟨_, hid rfl⟩
    apply lxH1 (v := .int .i64 z3) (wantsg (j := 5) (d := 35) (b := true) rfl rfl rfl rfl)
    · intro v1 hv1 w' h0 hK; go_simp; (try go_bits); refine (between_any (.slice sv8.p (mgD xs).length sv8.c) (mgD xs) s d w' (hK.get m4).slv (by omega)).mono ?_; rintro e w5 ⟨rfl, hb⟩; obtain rfl := hv1.out; exact ⟨_, rfl, (by rw [hz3.out]), hb⟩
    simp only [Act.put, pA, pB, pC]
    iterate 2 (apply lxF0 (wantsg (j := 5) (d := 35) (b := true) rfl rfl rfl rfl); (· intro w' h0; go_simp; (try go_bits); exact ⟨rfl, rfl⟩); simp only [Act.put, pA, pB, pC])
    apply lxF0 (wantsg (j := 5) (d := 35) (b := true) rfl rfl rfl rfl); (· intro w' h0; have k_R1 := (h0.get m9); have c_R1_0 := k_R1.at 0 rfl; go_simp; (try go_bits); exact ⟨rfl, rfl⟩); simp only [Act.put, pA, pB, pC]
    apply lxF0 (wantsg (j := 5) (d := 35) (b := true) rfl rfl rfl rfl); (· intro w' h0; go_simp; (try go_bits); exact ⟨rfl, rfl⟩); simp only [Act.put, pA, pB, pC]
    apply lxF0 (wantsg (j := 5) (d := 35) (b := true) rfl rfl rfl rfl); (· intro w' h0; have k_R1 := (h0.get m9); have c_R1_1 := k_R1.at 1 rfl; go_simp; (try go_bits); exact ⟨rfl, rfl⟩); simp only [Act.put, pA, pB, pC]
    obtain ⟨z4, hz4⟩ : ∃ b : Int, RowKit.Hid ((totD (cntB s d) xs) = b) := ⟨_, hid rfl⟩
    apply lxH1 (v := .int .i64 z4) (wantsg (j := 5) (d := 35) (b := true) rfl rfl rfl rfl)
    · intro v1 hv1 w' h0 hK; go_simp; (try go_bits); refine (between_any (.slice p_h0 xs.length c_h0) xs s d w' (h0_0.below hK.old) (by omega)).mono ?_; rintro e w5 ⟨rfl, hb⟩; obtain rfl := hv1.out; exact ⟨_, rfl, (by rw [hz4.out]), hb⟩
    simp only [Act.put, pA, pB, pC]
    apply lxF0 (v := .bool true) (wantsg (j := 5) (d := 35) (b := true) rfl rfl rfl rfl); (· intro w' h0; go_simp; (try go_bits); exact ⟨congrArg Value.bool (by simp; rw [← hz3.out, ← hz4.out]; exact (totD_mg (cntB_tri s d) hvm.out)), rfl⟩); simp only [Act.put, pA, pB, pC]
    iterate 2 (apply lxF0 (wants0 rfl); (· intro w' h0; go_simp; (try go_bits); exact ⟨rfl, rfl⟩); simp only [Act.put, pA, pB, pC])
    apply lxF0 (wantsg (j := 20) (d := 50) (b := true) rfl rfl rfl rfl); (· intro w' h0; go_simp; (try go_bits); exact ⟨rfl, rfl⟩); simp only [Act.put, pA, pB, pC]
    apply lxE1 (α := Sl) (fun sv => .slice sv.p (mgD (mgD xs)).length sv.c) (fun sv => [fun w1 => OwV demK 25 w.heap.size w1 (.slice sv.p (mgD (mgD xs)).length sv.c) (mgD (mgD xs)), fun _ => ob sv.p ≠ some R1, fun _ => ∀ g, ob sv.p = some g → ob sv12.p ≠ some g, fun _ => ∀ g, ob sv.p = some g → ob sv8.p ≠ some g, fun _ => ∀ g, ob sv.p = some g → ob sv5.p ≠ some g]) (wantsg (j := 20) (d := 50) (b := true) rfl rfl rfl rfl)
    · intro f1 l1 hl1 w' h0 hK; go_simp; (try go_bits); refine (merge_any (.slice sv8.p (mgD xs).length sv8.c) (mgD xs) w' (hK.get m4).slv (by omega)).mono ?_; rintro e w5 ⟨y0, rfl, u0, hb⟩; obtain ⟨rfl, rfl⟩ := hl1.out; have u0_0 := u0; obtain ⟨p_u0, c_u0, rfl, n_u0⟩ := u0.sh; exact ⟨_, rfl, (⟨p_u0, 0, c_u0⟩ : Sl), rfl, hb, .cons (fun w2 h2 => (u0_0.mono hK.old.size).below h2) (.cons (fun _ _ => fun e => absurd (u0_0.block e).1 (Nat.not_le.2 ((hK.get m9)).ltS)) (.cons (fun _ _ => fun _ e e2 => absurd (u0_0.block e).1 (Nat.not_le.2 (((hK.get m0)).block e2).2)) (.cons (fun _ _ => fun _ e e2 => absurd (u0_0.block e).1 (Nat.not_le.2 (((hK.get m4)).block e2).2)) (.cons (fun _ _ => fun _ e e2 => absurd (u0_0.block e).1 (Nat.not_le.2 (((hK.get m7)).block e2).2)) (Lasts.nil _)))))⟩
    intro sv18
    simp only [Act.put, pA, pB, pC, pD, pE]
    apply lxF0 (wantsg (j := 20) (d := 50) (b := true) rfl rfl rfl rfl); (· intro w' h0; go_simp; (try go_bits); exact ⟨rfl, rfl⟩); simp only [Act.put, pA, pB, pC]
    apply lxH1 (v := .bool true) (wantsg (j := 20) (d := 50) (b := true) rfl rfl rfl rfl)
    · intro v1 hv1 w' h0 hK; go_simp; (try go_bits); refine (same_of w' (hK.get m0).slv (hK.get m9).slv (mgD_again hvm.out) (by omega)).mono ?_; rintro e w5 ⟨rfl, hb⟩; obtain rfl := hv1.out; exact ⟨_, rfl, rfl, hb⟩
    simp only [Act.put, pA, pB, pC]
    iterate 2 (apply lxF0 (wants0 rfl); (· intro w' h0; go_simp; (try go_bits); exact ⟨rfl, rfl⟩); simp only [Act.put, pA, pB, pC])
    refine lxEnd (fun W23 hK => ?_)
    have n19 := hK.get m1
    have n20 := hK.get m2
    have n21 := hK.get m3
    have n22 := hK.get m4
    go_wp2
    try go_ret
    show Q0 (.returned (.bool true)) _
    exact (by obtain rfl := hQ0.out; exact ⟨rfl, hK.old⟩)
  · --
   have q_b1 : 80 < ((xs.length : Int)) := of_decide_eq_true hb1.out
   go_wp2
   try go_ret
   show Q0 (.returned (.bool true)) _
   exact (by obtain rfl := hQ0.out; exact ⟨rfl, hK.old⟩)
end Go.Proofs.YthkoaaneikhjjaaDoor
