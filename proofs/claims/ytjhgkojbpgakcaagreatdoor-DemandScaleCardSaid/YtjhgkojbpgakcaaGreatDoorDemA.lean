/- Valid lists and sums of demands walked. -/
import Derived.Test.YtjhgkojbpgakcaaGreatDoorDemK
namespace Go.Proofs.YtjhgkojbpgakcaaGreatDoor
open Go.RowKit
open Go.Lib (decDigits)
set_option maxRecDepth 100000 in
theorem within_any  (n : Int) (l : Int) (m : Int) (w : World)   :
    Calls Tryz.prog 41 #[.int .i64 n, .int .i64 l, .int .i64 m] w fun e w' => e = .returned (.bool (wthn n l m)) ∧ Below w.heap.size w w' := by
  have hK : KS w [] w := (KS.start w)
  refine Calls.hide (fun Q0 hQ0 => ?_)
  go_enter Tryz.func41, Tryz.ntmps41
  go_upto_region 1 with (fail)
  refine wp_region_tx w hK ?_
  clear hK
  iterate 2 (apply txF (wants0 rfl); (· intro w' hK; go_simp; (try go_bits); exact ⟨rfl, rfl⟩); simp only [Act.put, pA, pB, pC])
  obtain ⟨b1, hb1⟩ : ∃ b : Bool, RowKit.Hid (decide (l ≤ n) = b) := ⟨_, hid rfl⟩
  apply txB b1 (wants0 rfl); (· intro w' hK; go_simp; (try go_bits); exact ⟨by have q := hb1.out; subst q; first | rfl | simp, rfl⟩); simp only [Act.put, pA, pB, pC]
  apply txF (wants0 rfl); (· intro w' hK; go_simp; (try go_bits); exact ⟨rfl, rfl⟩); simp only [Act.put, pA, pB, pC]
  cases b1
  · --
   iterate 3 (apply txN (j := 3) (d := 10) (b := true) rfl rfl rfl rfl; simp only [Act.put, pA, pB, pC])
   iterate 2 (apply txF (wants0 rfl); (· intro w' hK; go_simp; (try go_bits); exact ⟨rfl, rfl⟩); simp only [Act.put, pA, pB, pC])
   refine txEnd (fun W1 hK => ?_)
   go_wp2
   try go_ret
   show Q0 (.returned (.bool false)) _
   exact (by obtain rfl := hQ0.out; exact ⟨(ret_bool (by have e := hb1.out; unfold wthn; simp at e ⊢; omega)), hK.old⟩)
  · --
   iterate 2 (apply txF (wantsg (j := 3) (d := 10) (b := true) rfl rfl rfl rfl); (· intro w' hK; go_simp; (try go_bits); exact ⟨rfl, rfl⟩); simp only [Act.put, pA, pB, pC])
   obtain ⟨b2, hb2⟩ : ∃ b : Bool, RowKit.Hid (decide (n ≤ m) = b) := ⟨_, hid rfl⟩
   apply txB b2 (wantsg (j := 3) (d := 10) (b := true) rfl rfl rfl rfl); (· intro w' hK; go_simp; (try go_bits); exact ⟨by have q := hb2.out; subst q; first | rfl | simp, rfl⟩); simp only [Act.put, pA, pB, pC]
   iterate 2 (apply txF (wants0 rfl); (· intro w' hK; go_simp; (try go_bits); exact ⟨rfl, rfl⟩); simp only [Act.put, pA, pB, pC])
   refine txEnd (fun W2 hK => ?_)
   go_wp2
   try go_ret
   show Q0 (.returned (.bool b2)) _
   exact (by obtain rfl := hQ0.out; exact ⟨(ret_bool (by have e1 := hb1.out; have e2 := hb2.out; unfold wthn; rw [e1, e2]; rfl)), hK.old⟩)
set_option maxRecDepth 100000 in
set_option maxHeartbeats 2000000 in
theorem valid_any (v1 : Value) (n : Int) (xs : List Dm) (w : World) (h1 : SlV demK w v1 xs) (hl : xs.length ≤ 100000) :
    Calls Tryz.prog 18 #[.int .i64 n, v1] w fun e w' => e = .returned (.bool (vldD n xs)) ∧ Below w.heap.size w w' := by
  have h1_0 := h1; obtain ⟨p_h1, c_h1, rfl, n_h1⟩ := h1.sh
  have hK : KS w [] w := (KS.start w)
  refine Calls.hide (fun Q0 hQ0 => ?_)
  go_enter Tryz.func18, Tryz.ntmps18
  go_upto_region 1 with (fail)
  refine wp_region_tx w hK ?_
  clear hK
  apply txF (wants0 rfl); (· intro w' hK; go_simp; (try go_bits); exact ⟨rfl, rfl⟩); simp only [Act.put, pA, pB, pC]
  obtain ⟨b1, hb1⟩ : ∃ b : Bool, RowKit.Hid ((wthn n 0 64) = b) := ⟨_, hid rfl⟩
  apply txH (v := .bool b1) (wants0 rfl)
  · intro v1 hv1 w' hK; go_simp; (try go_bits); refine (within_any  n 0 64 w'  ).mono ?_; rintro e w5 ⟨rfl, hb⟩; obtain rfl := hv1.out; exact ⟨_, rfl, (by rw [hb1.out]), hb⟩
  simp only [Act.put, pA, pB, pC]
  iterate 2 (apply txF (wants0 rfl); (· intro w' hK; go_simp; (try go_bits); exact ⟨rfl, rfl⟩); simp only [Act.put, pA, pB, pC])
  cases b1
  · --
   iterate 3 (apply txN (j := 3) (d := 10) (b := false) rfl rfl rfl rfl; simp only [Act.put, pA, pB, pC])
   apply txF (wants0 rfl); (· intro w' hK; go_simp; (try go_bits); exact ⟨rfl, rfl⟩); simp only [Act.put, pA, pB, pC]
   refine txEnd (fun W1 hK => ?_)
   go_wp2
   try go_ret
   show Q0 (.returned (.bool false)) _
   exact (by obtain rfl := hQ0.out; exact ⟨(ret_bool (vldD_head (by have a_b1 := wthn_f.1 hb1.out; omega)).symm), hK.old⟩)
  · --
   iterate 2 (apply txF (wantsg (j := 3) (d := 10) (b := false) rfl rfl rfl rfl); (· intro w' hK; go_simp; (try go_bits); exact ⟨rfl, rfl⟩); simp only [Act.put, pA, pB, pC])
   obtain ⟨b2, hb2⟩ : ∃ b : Bool, RowKit.Hid (decide (64 < ((xs.length : Int))) = b) := ⟨_, hid rfl⟩
   apply txB b2 (wantsg (j := 3) (d := 10) (b := false) rfl rfl rfl rfl); (· intro w' hK; go_simp; (try go_bits); exact ⟨by have q := hb2.out; subst q; first | rfl | simp, rfl⟩); simp only [Act.put, pA, pB, pC]
   apply txF (wants0 rfl); (· intro w' hK; go_simp; (try go_bits); exact ⟨rfl, rfl⟩); simp only [Act.put, pA, pB, pC]
   refine txEnd (fun W2 hK => ?_)
   cases b2
   · --
    have q_b2 : ((xs.length : Int)) ≤ 64 := Int.not_lt.1 (of_decide_eq_false hb2.out)
    have hn : 0 ≤ n ∧ n ≤ 64 ∧ xs.length ≤ 64 := by have a_b1 := wthn_t.1 hb1.out; omega
    go_upto_region 3 with (fail)
    refine wp_region_tx w hK ?_
    clear hK
    iterate 3 (apply txF (wants0 rfl); (· intro w' hK; go_simp; (try go_bits); exact ⟨rfl, rfl⟩); simp only [Act.put, pA, pB, pC])
    refine txEnd (fun W3 hK => ?_)
    go_wp2_with fail
    go_loopw [17] (fun s17 wl => ∃ (k : Nat), s17 = .int .i64 (k : Int) ∧ (k ≤ xs.length) ∧ RowKit.Hid (okL n (xs.take k) = true) ∧ KS w [] wl) (fun s17 _ => xs.length - (intOf s17).toNat)
    case atStart => exact ⟨0, rfl, (by omega), (hid rfl), ⟨hK.old, aN⟩⟩
    case round =>
     clear hK
     obtain ⟨k, rfl, hk, ho, hK⟩ := hrel
     generalize wr = W4 at hK ⊢
     go_upto_region 4 with (fail)
     refine wp_region_tx w hK ?_
     clear hK
     obtain ⟨b3, hb3⟩ : ∃ b : Bool, RowKit.Hid (decide (((k : Int)) < ((xs.length : Int))) = b) := ⟨_, hid rfl⟩
     apply txB b3 (wants0 rfl); (· intro w' hK; go_simp; (try go_bits); exact ⟨by have q := hb3.out; subst q; first | rfl | simp, rfl⟩); simp only [Act.put, pA, pB, pC]
     refine txEnd (fun W5 hK => ?_)
     cases b3
     · --
      have q_b3 : ((xs.length : Int)) ≤ ((k : Int)) := Int.not_lt.1 (of_decide_eq_false hb3.out)
      go_wp2
      try go_ret
      show Q0 (.returned (.bool true)) _
      exact (by obtain rfl := hQ0.out; exact ⟨(ret_bool (vldD_yes (by have a_b1 := wthn_t.1 hb1.out; omega) (by have q := ho.out; rwa [List.take_of_length_le (by omega)] at q)).symm), hK.old⟩)
     · --
      have q_b3 : ((k : Int)) < ((xs.length : Int)) := of_decide_eq_true hb3.out
      obtain ⟨x5, ex5⟩ : ∃ x, RowKit.Hid (xs[k]? = some x) := ⟨_, hid (List.getElem?_eq_getElem (show k < xs.length from (by omega)))⟩
      have i6 : k < xs.length := by have q : k < xs.length := (by omega); first | exact q | (simp at q; omega) | omega
      obtain ⟨g6, o6, q6, l6⟩ := (h1_0).ptr ex5.out
      subst q6
      replace hK := KS.atD hK (h1_0.below hK.old) ex5.out
      go_upto_region 5 with (fail)
      refine wp_region_tx w hK ?_
      clear hK
      apply txF (wants0 rfl); (· intro w' hK; go_simp; (try go_bits); exact ⟨rfl, rfl⟩); simp only [Act.put, pA, pB, pC]
      apply txF (wants0 rfl); (· intro w' hK; have c_CEL6_0 : w'.cell? ⟨g6, o6 + k * 4, none⟩ = some (.int .i64 x5.s) := (by have q := (hK.get m0).2 0 _ rfl; simpa using q); have c_CEL6_1 : w'.cell? ⟨g6, o6 + k * 4 + 1, none⟩ = some (.int .i64 x5.d) := (by have q := (hK.get m0).2 1 _ rfl; simpa using q); have c_CEL6_2 : w'.cell? ⟨g6, o6 + k * 4 + 2, none⟩ = some (.int .i64 x5.a) := (by have q := (hK.get m0).2 2 _ rfl; simpa using q); have c_CEL6_3 : w'.cell? ⟨g6, o6 + k * 4 + 3, none⟩ = some (.int .i64 x5.p) := (by have q := (hK.get m0).2 3 _ rfl; simpa using q); go_simp; (try go_bits); exact ⟨rfl, rfl⟩); simp only [Act.put, pA, pB, pC]
      apply txA (.cells #[.int .i64 0, .int .i64 0, .int .i64 0, .int .i64 0] 53) (wants0 rfl)
      · intro w' hK; go_simp; rfl
      intro R7 q_R7
      clear q_R7
      simp only [mkOf, Act.put, pA, pB, pC]
      apply txU 0 (Has w.heap.size R7 (.cells #[.int .i64 x5.s, .int .i64 x5.d, .int .i64 x5.a, .int .i64 x5.p] 53)) (wants0 rfl)
      · intro l1 hl1 w' hK; have k_R7 := (hK.get m0); have ⟨c_R7_0, c_R7_1, c_R7_2, c_R7_3⟩ := k_R7.c4; have f_R7 := k_R7.fz; go_simp; obtain rfl := hl1.out; exact ⟨rfl, ks_put (R := R7) hK k_R7.1 0 [.int .i64 x5.s, .int .i64 x5.d, .int .i64 x5.a, .int .i64 x5.p] (al1 (fun _ => has_put k_R7 _ _) (al1 (spC (Nat.ne_of_lt (Nat.lt_of_lt_of_le l6 k_R7.1)) (hK.get m1)) aN))⟩
      simp only [Act.put, pB]
      refine txEnd (fun W8 hK => ?_)
      go_upto_region 6 with (fail)
      refine wp_region_tx w hK ?_
      clear hK
      apply txF (wants0 rfl); (· intro w' hK; go_simp; (try go_bits); exact ⟨rfl, rfl⟩); simp only [Act.put, pA, pB, pC]
      apply txF (wants0 rfl); (· intro w' hK; have k_R7 := (hK.get m0); have c_R7_0 := k_R7.at 0 rfl; go_simp; (try go_bits); exact ⟨rfl, rfl⟩); simp only [Act.put, pA, pB, pC]
      apply txF (wants0 rfl); (· intro w' hK; go_simp; (try go_bits); exact ⟨rfl, rfl⟩); simp only [Act.put, pA, pB, pC]
      apply txF (wants0 rfl); (· intro w' hK; have k_R7 := (hK.get m0); have c_R7_1 := k_R7.at 1 rfl; go_simp; (try go_bits); exact ⟨rfl, rfl⟩); simp only [Act.put, pA, pB, pC]
      obtain ⟨b4, hb4⟩ : ∃ b : Bool, RowKit.Hid ((x5.s == x5.d) = b) := ⟨_, hid rfl⟩
      apply txB b4 (wants0 rfl); (· intro w' hK; go_simp; (try go_bits); exact ⟨by have q := hb4.out; subst q; first | rfl | simp, rfl⟩); simp only [Act.put, pA, pB, pC]
      apply txF (wants0 rfl); (· intro w' hK; go_simp; (try go_bits); exact ⟨rfl, rfl⟩); simp only [Act.put, pA, pB, pC]
      cases b4
      · --
       apply txF (wantsg (j := 5) (d := 26) (b := false) rfl rfl rfl rfl); (· intro w' hK; go_simp; (try go_bits); exact ⟨rfl, rfl⟩); simp only [Act.put, pA, pB, pC]
       apply txF (wantsg (j := 5) (d := 26) (b := false) rfl rfl rfl rfl); (· intro w' hK; have k_R7 := (hK.get m0); have c_R7_0 := k_R7.at 0 rfl; go_simp; (try go_bits); exact ⟨rfl, rfl⟩); simp only [Act.put, pA, pB, pC]
       apply txF (wantsg (j := 5) (d := 26) (b := false) rfl rfl rfl rfl); (· intro w' hK; go_simp; (try go_bits); exact ⟨rfl, rfl⟩); simp only [Act.put, pA, pB, pC]
       apply txF (v := .int .i64 (n - 1)) (wantsg (j := 5) (d := 26) (b := false) rfl rfl rfl rfl); (· intro w' hK; go_simp; (try go_bits); exact ⟨rfl, rfl⟩); simp only [Act.put, pA, pB, pC]
       obtain ⟨b5, hb5⟩ : ∃ b : Bool, RowKit.Hid ((wthn x5.s 0 ((n - 1))) = b) := ⟨_, hid rfl⟩
       apply txH (v := .bool b5) (wantsg (j := 5) (d := 26) (b := false) rfl rfl rfl rfl)
       · intro v1 hv1 w' hK; go_simp; (try go_bits); refine (within_any  x5.s 0 ((n - 1)) w'  ).mono ?_; rintro e w5 ⟨rfl, hb⟩; obtain rfl := hv1.out; exact ⟨_, rfl, (by rw [hb5.out]), hb⟩
       simp only [Act.put, pA, pB, pC]
       apply txF (wantsg (j := 5) (d := 26) (b := false) rfl rfl rfl rfl); (· intro w' hK; go_simp; (try go_bits); exact ⟨rfl, rfl⟩); simp only [Act.put, pA, pB, pC]
       iterate 2 (apply txF (wants0 rfl); (· intro w' hK; go_simp; (try go_bits); exact ⟨rfl, rfl⟩); simp only [Act.put, pA, pB, pC])
       cases b5
       · --
        iterate 6 (apply txN (j := 13) (d := 34) (b := false) rfl rfl rfl rfl; simp only [Act.put, pA, pB, pC])
        apply txF (wants0 rfl); (· intro w' hK; go_simp; (try go_bits); exact ⟨rfl, rfl⟩); simp only [Act.put, pA, pB, pC]
        refine txEnd (fun W9 hK => ?_)
        go_wp2
        try go_ret
        show Q0 (.returned (.bool false)) _
        exact (by obtain rfl := hQ0.out; exact ⟨(ret_bool (vldD_no ex5.out (by unfold OkD; have a_b1 := wthn_t.1 hb1.out; have a_b4 := hb4.out; simp at a_b4; have a_b5 := wthn_f.1 hb5.out; omega)).symm), hK.old⟩)
       · --
        apply txF (wantsg (j := 13) (d := 34) (b := false) rfl rfl rfl rfl); (· intro w' hK; go_simp; (try go_bits); exact ⟨rfl, rfl⟩); simp only [Act.put, pA, pB, pC]
        apply txF (wantsg (j := 13) (d := 34) (b := false) rfl rfl rfl rfl); (· intro w' hK; have k_R7 := (hK.get m0); have c_R7_1 := k_R7.at 1 rfl; go_simp; (try go_bits); exact ⟨rfl, rfl⟩); simp only [Act.put, pA, pB, pC]
        apply txF (wantsg (j := 13) (d := 34) (b := false) rfl rfl rfl rfl); (· intro w' hK; go_simp; (try go_bits); exact ⟨rfl, rfl⟩); simp only [Act.put, pA, pB, pC]
        apply txF (v := .int .i64 (n - 1)) (wantsg (j := 13) (d := 34) (b := false) rfl rfl rfl rfl); (· intro w' hK; go_simp; (try go_bits); exact ⟨rfl, rfl⟩); simp only [Act.put, pA, pB, pC]
        obtain ⟨b6, hb6⟩ : ∃ b : Bool, RowKit.Hid ((wthn x5.d 0 ((n - 1))) = b) := ⟨_, hid rfl⟩
        apply txH (v := .bool b6) (wantsg (j := 13) (d := 34) (b := false) rfl rfl rfl rfl)
        · intro v1 hv1 w' hK; go_simp; (try go_bits); refine (within_any  x5.d 0 ((n - 1)) w'  ).mono ?_; rintro e w5 ⟨rfl, hb⟩; obtain rfl := hv1.out; exact ⟨_, rfl, (by rw [hb6.out]), hb⟩
        simp only [Act.put, pA, pB, pC]
        apply txF (wantsg (j := 13) (d := 34) (b := false) rfl rfl rfl rfl); (· intro w' hK; go_simp; (try go_bits); exact ⟨rfl, rfl⟩); simp only [Act.put, pA, pB, pC]
        apply txF (wants0 rfl); (· intro w' hK; go_simp; (try go_bits); exact ⟨rfl, rfl⟩); simp only [Act.put, pA, pB, pC]
        refine txEnd (fun W10 hK => ?_)
        cases b6
        · --
         go_wp2
         try go_ret
         show Q0 (.returned (.bool false)) _
         exact (by obtain rfl := hQ0.out; exact ⟨(ret_bool (vldD_no ex5.out (by unfold OkD; have a_b1 := wthn_t.1 hb1.out; have a_b4 := hb4.out; simp at a_b4; have a_b5 := wthn_t.1 hb5.out; have a_b6 := wthn_f.1 hb6.out; omega)).symm), hK.old⟩)
        · --
         go_upto_region 8 with (fail)
         refine wp_region_tx w hK ?_
         clear hK
         apply txF (wants0 rfl); (· intro w' hK; go_simp; (try go_bits); exact ⟨rfl, rfl⟩); simp only [Act.put, pA, pB, pC]
         apply txF (wants0 rfl); (· intro w' hK; have k_R7 := (hK.get m0); have c_R7_2 := k_R7.at 2 rfl; go_simp; (try go_bits); exact ⟨rfl, rfl⟩); simp only [Act.put, pA, pB, pC]
         obtain ⟨b7, hb7⟩ : ∃ b : Bool, RowKit.Hid ((wthn x5.a 1 1048576) = b) := ⟨_, hid rfl⟩
         apply txH (v := .bool b7) (wants0 rfl)
         · intro v1 hv1 w' hK; go_simp; (try go_bits); refine (within_any  x5.a 1 1048576 w'  ).mono ?_; rintro e w5 ⟨rfl, hb⟩; obtain rfl := hv1.out; exact ⟨_, rfl, (by rw [hb7.out]), hb⟩
         simp only [Act.put, pA, pB, pC]
         iterate 2 (apply txF (wants0 rfl); (· intro w' hK; go_simp; (try go_bits); exact ⟨rfl, rfl⟩); simp only [Act.put, pA, pB, pC])
         cases b7
         · --
          iterate 4 (apply txN (j := 4) (d := 46) (b := false) rfl rfl rfl rfl; simp only [Act.put, pA, pB, pC])
          apply txF (wants0 rfl); (· intro w' hK; go_simp; (try go_bits); exact ⟨rfl, rfl⟩); simp only [Act.put, pA, pB, pC]
          refine txEnd (fun W11 hK => ?_)
          go_wp2
          try go_ret
          show Q0 (.returned (.bool false)) _
          exact (by obtain rfl := hQ0.out; exact ⟨(ret_bool (vldD_no ex5.out (by unfold OkD; have a_b1 := wthn_t.1 hb1.out; have a_b4 := hb4.out; simp at a_b4; have a_b5 := wthn_t.1 hb5.out; have a_b6 := wthn_t.1 hb6.out; have a_b7 := wthn_f.1 hb7.out; omega)).symm), hK.old⟩)
         · --
          apply txF (wantsg (j := 4) (d := 46) (b := false) rfl rfl rfl rfl); (· intro w' hK; go_simp; (try go_bits); exact ⟨rfl, rfl⟩); simp only [Act.put, pA, pB, pC]
          apply txF (wantsg (j := 4) (d := 46) (b := false) rfl rfl rfl rfl); (· intro w' hK; have k_R7 := (hK.get m0); have c_R7_3 := k_R7.at 3 rfl; go_simp; (try go_bits); exact ⟨rfl, rfl⟩); simp only [Act.put, pA, pB, pC]
          obtain ⟨b8, hb8⟩ : ∃ b : Bool, RowKit.Hid ((wthn x5.p 0 7) = b) := ⟨_, hid rfl⟩
          apply txH (v := .bool b8) (wantsg (j := 4) (d := 46) (b := false) rfl rfl rfl rfl)
          · intro v1 hv1 w' hK; go_simp; (try go_bits); refine (within_any  x5.p 0 7 w'  ).mono ?_; rintro e w5 ⟨rfl, hb⟩; obtain rfl := hv1.out; exact ⟨_, rfl, (by rw [hb8.out]), hb⟩
          simp only [Act.put, pA, pB, pC]
          apply txF (wantsg (j := 4) (d := 46) (b := false) rfl rfl rfl rfl); (· intro w' hK; go_simp; (try go_bits); exact ⟨rfl, rfl⟩); simp only [Act.put, pA, pB, pC]
          apply txF (wants0 rfl); (· intro w' hK; go_simp; (try go_bits); exact ⟨rfl, rfl⟩); simp only [Act.put, pA, pB, pC]
          refine txEnd (fun W12 hK => ?_)
          cases b8
          · --
           go_wp2
           try go_ret
           show Q0 (.returned (.bool false)) _
           exact (by obtain rfl := hQ0.out; exact ⟨(ret_bool (vldD_no ex5.out (by unfold OkD; have a_b1 := wthn_t.1 hb1.out; have a_b4 := hb4.out; simp at a_b4; have a_b5 := wthn_t.1 hb5.out; have a_b6 := wthn_t.1 hb6.out; have a_b7 := wthn_t.1 hb7.out; have a_b8 := wthn_f.1 hb8.out; omega)).symm), hK.old⟩)
          · --
           (try go_wp2)
           go_roundw
           case rel => exact ⟨k + 1, (by first | rfl | go_num), (by omega), (hid (okL_step ho.out ex5.out (by unfold OkD; have a_b1 := wthn_t.1 hb1.out; have a_b4 := hb4.out; simp at a_b4; have a_b5 := wthn_t.1 hb5.out; have a_b6 := wthn_t.1 hb6.out; have a_b7 := wthn_t.1 hb7.out; have a_b8 := wthn_t.1 hb8.out; omega))), ⟨hK.old, aN⟩⟩
           case measure => simp [intOf]; omega
      · --
       iterate 6 (apply txN (j := 5) (d := 26) (b := false) rfl rfl rfl rfl; simp only [Act.put, pA, pB, pC])
       iterate 2 (apply txF (wants0 rfl); (· intro w' hK; go_simp; (try go_bits); exact ⟨rfl, rfl⟩); simp only [Act.put, pA, pB, pC])
       iterate 6 (apply txN (j := 13) (d := 34) (b := false) rfl rfl rfl rfl; simp only [Act.put, pA, pB, pC])
       apply txF (wants0 rfl); (· intro w' hK; go_simp; (try go_bits); exact ⟨rfl, rfl⟩); simp only [Act.put, pA, pB, pC]
       refine txEnd (fun W13 hK => ?_)
       go_wp2
       try go_ret
       show Q0 (.returned (.bool false)) _
       exact (by obtain rfl := hQ0.out; exact ⟨(ret_bool (vldD_no ex5.out (by unfold OkD; have a_b1 := wthn_t.1 hb1.out; have a_b4 := hb4.out; simp at a_b4; omega)).symm), hK.old⟩)
   · --
    have q_b2 : 64 < ((xs.length : Int)) := of_decide_eq_true hb2.out
    go_wp2
    try go_ret
    show Q0 (.returned (.bool false)) _
    exact (by obtain rfl := hQ0.out; exact ⟨(ret_bool (vldD_head (by have a_b1 := wthn_t.1 hb1.out; omega)).symm), hK.old⟩)
set_option maxRecDepth 100000 in
set_option maxHeartbeats 2000000 in
theorem rvalid_any (v1 : Value) (n : Int) (xs : List Dm) (w : World) (h1 : SlV demK w v1 xs) (hl : xs.length ≤ 100000) :
    Calls Tryz.prog 12 #[.int .i64 n, v1] w fun e w' => e = .returned (.bool (vldD n xs)) ∧ Below w.heap.size w w' := by
  have h1_0 := h1; obtain ⟨p_h1, c_h1, rfl, n_h1⟩ := h1.sh
  have hK : KS w [] w := (KS.start w)
  refine Calls.hide (fun Q0 hQ0 => ?_)
  go_enter Tryz.func12, Tryz.ntmps12
  go_upto_region 1 with (fail)
  refine wp_region_tx w hK ?_
  clear hK
  apply txF (wants0 rfl); (· intro w' hK; go_simp; (try go_bits); exact ⟨rfl, rfl⟩); simp only [Act.put, pA, pB, pC]
  obtain ⟨b1, hb1⟩ : ∃ b : Bool, RowKit.Hid (decide (n < 0) = b) := ⟨_, hid rfl⟩
  apply txB b1 (wants0 rfl); (· intro w' hK; go_simp; (try go_bits); exact ⟨by have q := hb1.out; subst q; first | rfl | simp, rfl⟩); simp only [Act.put, pA, pB, pC]
  apply txF (wants0 rfl); (· intro w' hK; go_simp; (try go_bits); exact ⟨rfl, rfl⟩); simp only [Act.put, pA, pB, pC]
  cases b1
  · --
   have q_b1 : 0 ≤ n := Int.not_lt.1 (of_decide_eq_false hb1.out)
   apply txF (wantsg (j := 2) (d := 9) (b := false) rfl rfl rfl rfl); (· intro w' hK; go_simp; (try go_bits); exact ⟨rfl, rfl⟩); simp only [Act.put, pA, pB, pC]
   obtain ⟨b2, hb2⟩ : ∃ b : Bool, RowKit.Hid (decide (64 < n) = b) := ⟨_, hid rfl⟩
   apply txB b2 (wantsg (j := 2) (d := 9) (b := false) rfl rfl rfl rfl); (· intro w' hK; go_simp; (try go_bits); exact ⟨by have q := hb2.out; subst q; first | rfl | simp, rfl⟩); simp only [Act.put, pA, pB, pC]
   iterate 2 (apply txF (wants0 rfl); (· intro w' hK; go_simp; (try go_bits); exact ⟨rfl, rfl⟩); simp only [Act.put, pA, pB, pC])
   cases b2
   · --
    have q_b2 : n ≤ 64 := Int.not_lt.1 (of_decide_eq_false hb2.out)
    iterate 2 (apply txF (wantsg (j := 6) (d := 13) (b := false) rfl rfl rfl rfl); (· intro w' hK; go_simp; (try go_bits); exact ⟨rfl, rfl⟩); simp only [Act.put, pA, pB, pC])
    obtain ⟨b3, hb3⟩ : ∃ b : Bool, RowKit.Hid (decide (64 < ((xs.length : Int))) = b) := ⟨_, hid rfl⟩
    apply txB b3 (wantsg (j := 6) (d := 13) (b := false) rfl rfl rfl rfl); (· intro w' hK; go_simp; (try go_bits); exact ⟨by have q := hb3.out; subst q; first | rfl | simp, rfl⟩); simp only [Act.put, pA, pB, pC]
    apply txF (wants0 rfl); (· intro w' hK; go_simp; (try go_bits); exact ⟨rfl, rfl⟩); simp only [Act.put, pA, pB, pC]
    refine txEnd (fun W1 hK => ?_)
    cases b3
    · --
     have q_b3 : ((xs.length : Int)) ≤ 64 := Int.not_lt.1 (of_decide_eq_false hb3.out)
     have hn : 0 ≤ n ∧ n ≤ 64 ∧ xs.length ≤ 64 := by skip; omega
     go_upto_region 3 with (fail)
     refine wp_region_tx w hK ?_
     clear hK
     apply txF (wants0 rfl); (· intro w' hK; go_simp; (try go_bits); exact ⟨rfl, rfl⟩); simp only [Act.put, pA, pB, pC]
     refine txEnd (fun W2 hK => ?_)
     go_wp2_with fail
     go_loopw [5] (fun s5 wl => ∃ (k : Nat), s5 = .int .i64 (k : Int) ∧ (k ≤ xs.length) ∧ RowKit.Hid (okL n (xs.take k) = true) ∧ KS w [] wl) (fun s5 _ => xs.length - (intOf s5).toNat)
     case atStart => exact ⟨0, rfl, (by omega), (hid rfl), ⟨hK.old, aN⟩⟩
     case round =>
      clear hK
      obtain ⟨k, rfl, hk, ho, hK⟩ := hrel
      generalize wr = W3 at hK ⊢
      go_upto_region 4 with (fail)
      refine wp_region_tx w hK ?_
      clear hK
      iterate 3 (apply txF (wants0 rfl); (· intro w' hK; go_simp; (try go_bits); exact ⟨rfl, rfl⟩); simp only [Act.put, pA, pB, pC])
      obtain ⟨b4, hb4⟩ : ∃ b : Bool, RowKit.Hid (decide (((k : Int)) < ((xs.length : Int))) = b) := ⟨_, hid rfl⟩
      apply txB b4 (wants0 rfl); (· intro w' hK; go_simp; (try go_bits); exact ⟨by have q := hb4.out; subst q; first | rfl | simp, rfl⟩); simp only [Act.put, pA, pB, pC]
      refine txEnd (fun W4 hK => ?_)
      cases b4
      · --
       have q_b4 : ((xs.length : Int)) ≤ ((k : Int)) := Int.not_lt.1 (of_decide_eq_false hb4.out)
       go_wp2
       try go_ret
       show Q0 (.returned (.bool true)) _
       exact (by obtain rfl := hQ0.out; exact ⟨(ret_bool (vldD_yes (by skip; omega) (by have q := ho.out; rwa [List.take_of_length_le (by omega)] at q)).symm), hK.old⟩)
      · --
       have q_b4 : ((k : Int)) < ((xs.length : Int)) := of_decide_eq_true hb4.out
       obtain ⟨x5, ex5⟩ : ∃ x, RowKit.Hid (xs[k]? = some x) := ⟨_, hid (List.getElem?_eq_getElem (show k < xs.length from (by omega)))⟩
       have i5 : k < xs.length := by have q : k < xs.length := (by omega); first | exact q | (simp at q; omega) | omega
       obtain ⟨g5, o5, q5, l5⟩ := (h1_0).ptr ex5.out
       subst q5
       replace hK := KS.atD hK (h1_0.below hK.old) ex5.out
       go_upto_region 6 with (fail)
       refine wp_region_tx w hK ?_
       clear hK
       iterate 3 (apply txF (wants0 rfl); (· intro w' hK; go_simp; (try go_bits); exact ⟨rfl, rfl⟩); simp only [Act.put, pA, pB, pC])
       apply txF (wants0 rfl); (· intro w' hK; have c_CEL5_0 : w'.cell? ⟨g5, o5 + k * 4, none⟩ = some (.int .i64 x5.s) := (by have q := (hK.get m0).2 0 _ rfl; simpa using q); have c_CEL5_1 : w'.cell? ⟨g5, o5 + k * 4 + 1, none⟩ = some (.int .i64 x5.d) := (by have q := (hK.get m0).2 1 _ rfl; simpa using q); have c_CEL5_2 : w'.cell? ⟨g5, o5 + k * 4 + 2, none⟩ = some (.int .i64 x5.a) := (by have q := (hK.get m0).2 2 _ rfl; simpa using q); have c_CEL5_3 : w'.cell? ⟨g5, o5 + k * 4 + 3, none⟩ = some (.int .i64 x5.p) := (by have q := (hK.get m0).2 3 _ rfl; simpa using q); go_simp; (try go_bits); exact ⟨rfl, rfl⟩); simp only [Act.put, pA, pB, pC]
       apply txA (.cells #[.int .i64 0, .int .i64 0, .int .i64 0, .int .i64 0] 53) (wants0 rfl)
       · intro w' hK; go_simp; rfl
       intro R6 q_R6
       clear q_R6
       simp only [mkOf, Act.put, pA, pB, pC]
       apply txU 0 (Has w.heap.size R6 (.cells #[.int .i64 x5.s, .int .i64 x5.d, .int .i64 x5.a, .int .i64 x5.p] 53)) (wants0 rfl)
       · intro l1 hl1 w' hK; have k_R6 := (hK.get m0); have ⟨c_R6_0, c_R6_1, c_R6_2, c_R6_3⟩ := k_R6.c4; have f_R6 := k_R6.fz; go_simp; obtain rfl := hl1.out; exact ⟨rfl, ks_put (R := R6) hK k_R6.1 0 [.int .i64 x5.s, .int .i64 x5.d, .int .i64 x5.a, .int .i64 x5.p] (al1 (fun _ => has_put k_R6 _ _) (al1 (spC (Nat.ne_of_lt (Nat.lt_of_lt_of_le l5 k_R6.1)) (hK.get m1)) aN))⟩
       simp only [Act.put, pB]
       refine txEnd (fun W7 hK => ?_)
       go_upto_region 7 with (fail)
       refine wp_region_tx w hK ?_
       clear hK
       apply txF (wants0 rfl); (· intro w' hK; go_simp; (try go_bits); exact ⟨rfl, rfl⟩); simp only [Act.put, pA, pB, pC]
       apply txF (wants0 rfl); (· intro w' hK; have k_R6 := (hK.get m0); have c_R6_0 := k_R6.at 0 rfl; go_simp; (try go_bits); exact ⟨rfl, rfl⟩); simp only [Act.put, pA, pB, pC]
       obtain ⟨b5, hb5⟩ : ∃ b : Bool, RowKit.Hid (decide (x5.s < 0) = b) := ⟨_, hid rfl⟩
       apply txB b5 (wants0 rfl); (· intro w' hK; go_simp; (try go_bits); exact ⟨by have q := hb5.out; subst q; first | rfl | simp, rfl⟩); simp only [Act.put, pA, pB, pC]
       apply txF (wants0 rfl); (· intro w' hK; go_simp; (try go_bits); exact ⟨rfl, rfl⟩); simp only [Act.put, pA, pB, pC]
       cases b5
       · --
        have q_b5 : 0 ≤ x5.s := Int.not_lt.1 (of_decide_eq_false hb5.out)
        apply txF (wantsg (j := 3) (d := 31) (b := false) rfl rfl rfl rfl); (· intro w' hK; go_simp; (try go_bits); exact ⟨rfl, rfl⟩); simp only [Act.put, pA, pB, pC]
        apply txF (wantsg (j := 3) (d := 31) (b := false) rfl rfl rfl rfl); (· intro w' hK; have k_R6 := (hK.get m0); have c_R6_0 := k_R6.at 0 rfl; go_simp; (try go_bits); exact ⟨rfl, rfl⟩); simp only [Act.put, pA, pB, pC]
        apply txF (wantsg (j := 3) (d := 31) (b := false) rfl rfl rfl rfl); (· intro w' hK; go_simp; (try go_bits); exact ⟨rfl, rfl⟩); simp only [Act.put, pA, pB, pC]
        obtain ⟨b6, hb6⟩ : ∃ b : Bool, RowKit.Hid (decide (n ≤ x5.s) = b) := ⟨_, hid rfl⟩
        apply txB b6 (wantsg (j := 3) (d := 31) (b := false) rfl rfl rfl rfl); (· intro w' hK; go_simp; (try go_bits); exact ⟨by have q := hb6.out; subst q; first | rfl | simp, rfl⟩); simp only [Act.put, pA, pB, pC]
        iterate 2 (apply txF (wants0 rfl); (· intro w' hK; go_simp; (try go_bits); exact ⟨rfl, rfl⟩); simp only [Act.put, pA, pB, pC])
        cases b6
        · --
         have q_b6 : x5.s < n := Int.not_le.1 (of_decide_eq_false hb6.out)
         apply txF (wantsg (j := 9) (d := 37) (b := false) rfl rfl rfl rfl); (· intro w' hK; go_simp; (try go_bits); exact ⟨rfl, rfl⟩); simp only [Act.put, pA, pB, pC]
         apply txF (wantsg (j := 9) (d := 37) (b := false) rfl rfl rfl rfl); (· intro w' hK; have k_R6 := (hK.get m0); have c_R6_1 := k_R6.at 1 rfl; go_simp; (try go_bits); exact ⟨rfl, rfl⟩); simp only [Act.put, pA, pB, pC]
         obtain ⟨b7, hb7⟩ : ∃ b : Bool, RowKit.Hid (decide (x5.d < 0) = b) := ⟨_, hid rfl⟩
         apply txB b7 (wantsg (j := 9) (d := 37) (b := false) rfl rfl rfl rfl); (· intro w' hK; go_simp; (try go_bits); exact ⟨by have q := hb7.out; subst q; first | rfl | simp, rfl⟩); simp only [Act.put, pA, pB, pC]
         iterate 2 (apply txF (wants0 rfl); (· intro w' hK; go_simp; (try go_bits); exact ⟨rfl, rfl⟩); simp only [Act.put, pA, pB, pC])
         cases b7
         · --
          have q_b7 : 0 ≤ x5.d := Int.not_lt.1 (of_decide_eq_false hb7.out)
          apply txF (wantsg (j := 14) (d := 42) (b := false) rfl rfl rfl rfl); (· intro w' hK; go_simp; (try go_bits); exact ⟨rfl, rfl⟩); simp only [Act.put, pA, pB, pC]
          apply txF (wantsg (j := 14) (d := 42) (b := false) rfl rfl rfl rfl); (· intro w' hK; have k_R6 := (hK.get m0); have c_R6_1 := k_R6.at 1 rfl; go_simp; (try go_bits); exact ⟨rfl, rfl⟩); simp only [Act.put, pA, pB, pC]
          apply txF (wantsg (j := 14) (d := 42) (b := false) rfl rfl rfl rfl); (· intro w' hK; go_simp; (try go_bits); exact ⟨rfl, rfl⟩); simp only [Act.put, pA, pB, pC]
          obtain ⟨b8, hb8⟩ : ∃ b : Bool, RowKit.Hid (decide (n ≤ x5.d) = b) := ⟨_, hid rfl⟩
          apply txB b8 (wantsg (j := 14) (d := 42) (b := false) rfl rfl rfl rfl); (· intro w' hK; go_simp; (try go_bits); exact ⟨by have q := hb8.out; subst q; first | rfl | simp, rfl⟩); simp only [Act.put, pA, pB, pC]
          iterate 2 (apply txF (wants0 rfl); (· intro w' hK; go_simp; (try go_bits); exact ⟨rfl, rfl⟩); simp only [Act.put, pA, pB, pC])
          cases b8
          · --
           have q_b8 : x5.d < n := Int.not_le.1 (of_decide_eq_false hb8.out)
           apply txF (wantsg (j := 20) (d := 48) (b := false) rfl rfl rfl rfl); (· intro w' hK; go_simp; (try go_bits); exact ⟨rfl, rfl⟩); simp only [Act.put, pA, pB, pC]
           apply txF (wantsg (j := 20) (d := 48) (b := false) rfl rfl rfl rfl); (· intro w' hK; have k_R6 := (hK.get m0); have c_R6_0 := k_R6.at 0 rfl; go_simp; (try go_bits); exact ⟨rfl, rfl⟩); simp only [Act.put, pA, pB, pC]
           apply txF (wantsg (j := 20) (d := 48) (b := false) rfl rfl rfl rfl); (· intro w' hK; go_simp; (try go_bits); exact ⟨rfl, rfl⟩); simp only [Act.put, pA, pB, pC]
           apply txF (wantsg (j := 20) (d := 48) (b := false) rfl rfl rfl rfl); (· intro w' hK; have k_R6 := (hK.get m0); have c_R6_1 := k_R6.at 1 rfl; go_simp; (try go_bits); exact ⟨rfl, rfl⟩); simp only [Act.put, pA, pB, pC]
           obtain ⟨b9, hb9⟩ : ∃ b : Bool, RowKit.Hid ((x5.s == x5.d) = b) := ⟨_, hid rfl⟩
           apply txB b9 (wantsg (j := 20) (d := 48) (b := false) rfl rfl rfl rfl); (· intro w' hK; go_simp; (try go_bits); exact ⟨by have q := hb9.out; subst q; first | rfl | simp, rfl⟩); simp only [Act.put, pA, pB, pC]
           iterate 2 (apply txF (wants0 rfl); (· intro w' hK; go_simp; (try go_bits); exact ⟨rfl, rfl⟩); simp only [Act.put, pA, pB, pC])
           cases b9
           · --
            apply txF (wantsg (j := 27) (d := 55) (b := false) rfl rfl rfl rfl); (· intro w' hK; go_simp; (try go_bits); exact ⟨rfl, rfl⟩); simp only [Act.put, pA, pB, pC]
            apply txF (wantsg (j := 27) (d := 55) (b := false) rfl rfl rfl rfl); (· intro w' hK; have k_R6 := (hK.get m0); have c_R6_2 := k_R6.at 2 rfl; go_simp; (try go_bits); exact ⟨rfl, rfl⟩); simp only [Act.put, pA, pB, pC]
            obtain ⟨b10, hb10⟩ : ∃ b : Bool, RowKit.Hid (decide (x5.a < 1) = b) := ⟨_, hid rfl⟩
            apply txB b10 (wantsg (j := 27) (d := 55) (b := false) rfl rfl rfl rfl); (· intro w' hK; go_simp; (try go_bits); exact ⟨by have q := hb10.out; subst q; first | rfl | simp, rfl⟩); simp only [Act.put, pA, pB, pC]
            iterate 2 (apply txF (wants0 rfl); (· intro w' hK; go_simp; (try go_bits); exact ⟨rfl, rfl⟩); simp only [Act.put, pA, pB, pC])
            cases b10
            · --
             have q_b10 : 1 ≤ x5.a := Int.not_lt.1 (of_decide_eq_false hb10.out)
             apply txF (wantsg (j := 32) (d := 60) (b := false) rfl rfl rfl rfl); (· intro w' hK; go_simp; (try go_bits); exact ⟨rfl, rfl⟩); simp only [Act.put, pA, pB, pC]
             apply txF (wantsg (j := 32) (d := 60) (b := false) rfl rfl rfl rfl); (· intro w' hK; have k_R6 := (hK.get m0); have c_R6_2 := k_R6.at 2 rfl; go_simp; (try go_bits); exact ⟨rfl, rfl⟩); simp only [Act.put, pA, pB, pC]
             obtain ⟨b11, hb11⟩ : ∃ b : Bool, RowKit.Hid (decide (1048576 < x5.a) = b) := ⟨_, hid rfl⟩
             apply txB b11 (wantsg (j := 32) (d := 60) (b := false) rfl rfl rfl rfl); (· intro w' hK; go_simp; (try go_bits); exact ⟨by have q := hb11.out; subst q; first | rfl | simp, rfl⟩); simp only [Act.put, pA, pB, pC]
             iterate 2 (apply txF (wants0 rfl); (· intro w' hK; go_simp; (try go_bits); exact ⟨rfl, rfl⟩); simp only [Act.put, pA, pB, pC])
             cases b11
             · --
              have q_b11 : x5.a ≤ 1048576 := Int.not_lt.1 (of_decide_eq_false hb11.out)
              apply txF (wantsg (j := 37) (d := 65) (b := false) rfl rfl rfl rfl); (· intro w' hK; go_simp; (try go_bits); exact ⟨rfl, rfl⟩); simp only [Act.put, pA, pB, pC]
              apply txF (wantsg (j := 37) (d := 65) (b := false) rfl rfl rfl rfl); (· intro w' hK; have k_R6 := (hK.get m0); have c_R6_3 := k_R6.at 3 rfl; go_simp; (try go_bits); exact ⟨rfl, rfl⟩); simp only [Act.put, pA, pB, pC]
              obtain ⟨b12, hb12⟩ : ∃ b : Bool, RowKit.Hid (decide (x5.p < 0) = b) := ⟨_, hid rfl⟩
              apply txB b12 (wantsg (j := 37) (d := 65) (b := false) rfl rfl rfl rfl); (· intro w' hK; go_simp; (try go_bits); exact ⟨by have q := hb12.out; subst q; first | rfl | simp, rfl⟩); simp only [Act.put, pA, pB, pC]
              iterate 2 (apply txF (wants0 rfl); (· intro w' hK; go_simp; (try go_bits); exact ⟨rfl, rfl⟩); simp only [Act.put, pA, pB, pC])
              cases b12
              · --
               have q_b12 : 0 ≤ x5.p := Int.not_lt.1 (of_decide_eq_false hb12.out)
               apply txF (wantsg (j := 42) (d := 70) (b := false) rfl rfl rfl rfl); (· intro w' hK; go_simp; (try go_bits); exact ⟨rfl, rfl⟩); simp only [Act.put, pA, pB, pC]
               apply txF (wantsg (j := 42) (d := 70) (b := false) rfl rfl rfl rfl); (· intro w' hK; have k_R6 := (hK.get m0); have c_R6_3 := k_R6.at 3 rfl; go_simp; (try go_bits); exact ⟨rfl, rfl⟩); simp only [Act.put, pA, pB, pC]
               obtain ⟨b13, hb13⟩ : ∃ b : Bool, RowKit.Hid (decide (7 < x5.p) = b) := ⟨_, hid rfl⟩
               apply txB b13 (wantsg (j := 42) (d := 70) (b := false) rfl rfl rfl rfl); (· intro w' hK; go_simp; (try go_bits); exact ⟨by have q := hb13.out; subst q; first | rfl | simp, rfl⟩); simp only [Act.put, pA, pB, pC]
               apply txF (wants0 rfl); (· intro w' hK; go_simp; (try go_bits); exact ⟨rfl, rfl⟩); simp only [Act.put, pA, pB, pC]
               refine txEnd (fun W8 hK => ?_)
               cases b13
               · --
                have q_b13 : x5.p ≤ 7 := Int.not_lt.1 (of_decide_eq_false hb13.out)
                (try go_wp2)
                go_roundw
                case rel => exact ⟨k + 1, (by first | rfl | go_num), (by omega), (hid (okL_step ho.out ex5.out (by unfold OkD; have a_b9 := hb9.out; simp at a_b9; omega))), ⟨hK.old, aN⟩⟩
                case measure => simp [intOf]; omega
               · --
                have q_b13 : 7 < x5.p := of_decide_eq_true hb13.out
                go_wp2
                try go_ret
                show Q0 (.returned (.bool false)) _
                exact (by obtain rfl := hQ0.out; exact ⟨(ret_bool (vldD_no ex5.out (by unfold OkD; have a_b9 := hb9.out; simp at a_b9; omega)).symm), hK.old⟩)
              · --
               have q_b12 : x5.p < 0 := of_decide_eq_true hb12.out
               iterate 3 (apply txN (j := 42) (d := 70) (b := false) rfl rfl rfl rfl; simp only [Act.put, pA, pB, pC])
               apply txF (wants0 rfl); (· intro w' hK; go_simp; (try go_bits); exact ⟨rfl, rfl⟩); simp only [Act.put, pA, pB, pC]
               refine txEnd (fun W9 hK => ?_)
               go_wp2
               try go_ret
               show Q0 (.returned (.bool false)) _
               exact (by obtain rfl := hQ0.out; exact ⟨(ret_bool (vldD_no ex5.out (by unfold OkD; have a_b9 := hb9.out; simp at a_b9; omega)).symm), hK.old⟩)
             · --
              have q_b11 : 1048576 < x5.a := of_decide_eq_true hb11.out
              iterate 3 (apply txN (j := 37) (d := 65) (b := false) rfl rfl rfl rfl; simp only [Act.put, pA, pB, pC])
              iterate 2 (apply txF (wants0 rfl); (· intro w' hK; go_simp; (try go_bits); exact ⟨rfl, rfl⟩); simp only [Act.put, pA, pB, pC])
              iterate 3 (apply txN (j := 42) (d := 70) (b := false) rfl rfl rfl rfl; simp only [Act.put, pA, pB, pC])
              apply txF (wants0 rfl); (· intro w' hK; go_simp; (try go_bits); exact ⟨rfl, rfl⟩); simp only [Act.put, pA, pB, pC]
              refine txEnd (fun W10 hK => ?_)
              go_wp2
              try go_ret
              show Q0 (.returned (.bool false)) _
              exact (by obtain rfl := hQ0.out; exact ⟨(ret_bool (vldD_no ex5.out (by unfold OkD; have a_b9 := hb9.out; simp at a_b9; omega)).symm), hK.old⟩)
            · --
             have q_b10 : x5.a < 1 := of_decide_eq_true hb10.out
             iterate 3 (apply txN (j := 32) (d := 60) (b := false) rfl rfl rfl rfl; simp only [Act.put, pA, pB, pC])
             iterate 2 (apply txF (wants0 rfl); (· intro w' hK; go_simp; (try go_bits); exact ⟨rfl, rfl⟩); simp only [Act.put, pA, pB, pC])
             iterate 3 (apply txN (j := 37) (d := 65) (b := false) rfl rfl rfl rfl; simp only [Act.put, pA, pB, pC])
             iterate 2 (apply txF (wants0 rfl); (· intro w' hK; go_simp; (try go_bits); exact ⟨rfl, rfl⟩); simp only [Act.put, pA, pB, pC])
             iterate 3 (apply txN (j := 42) (d := 70) (b := false) rfl rfl rfl rfl; simp only [Act.put, pA, pB, pC])
             apply txF (wants0 rfl); (· intro w' hK; go_simp; (try go_bits); exact ⟨rfl, rfl⟩); simp only [Act.put, pA, pB, pC]
             refine txEnd (fun W11 hK => ?_)
             go_wp2
             try go_ret
             show Q0 (.returned (.bool false)) _
             exact (by obtain rfl := hQ0.out; exact ⟨(ret_bool (vldD_no ex5.out (by unfold OkD; have a_b9 := hb9.out; simp at a_b9; omega)).symm), hK.old⟩)
           · --
            iterate 3 (apply txN (j := 27) (d := 55) (b := false) rfl rfl rfl rfl; simp only [Act.put, pA, pB, pC])
            iterate 2 (apply txF (wants0 rfl); (· intro w' hK; go_simp; (try go_bits); exact ⟨rfl, rfl⟩); simp only [Act.put, pA, pB, pC])
            iterate 3 (apply txN (j := 32) (d := 60) (b := false) rfl rfl rfl rfl; simp only [Act.put, pA, pB, pC])
            iterate 2 (apply txF (wants0 rfl); (· intro w' hK; go_simp; (try go_bits); exact ⟨rfl, rfl⟩); simp only [Act.put, pA, pB, pC])
            iterate 3 (apply txN (j := 37) (d := 65) (b := false) rfl rfl rfl rfl; simp only [Act.put, pA, pB, pC])
            iterate 2 (apply txF (wants0 rfl); (· intro w' hK; go_simp; (try go_bits); exact ⟨rfl, rfl⟩); simp only [Act.put, pA, pB, pC])
            iterate 3 (apply txN (j := 42) (d := 70) (b := false) rfl rfl rfl rfl; simp only [Act.put, pA, pB, pC])
            apply txF (wants0 rfl); (· intro w' hK; go_simp; (try go_bits); exact ⟨rfl, rfl⟩); simp only [Act.put, pA, pB, pC]
            refine txEnd (fun W12 hK => ?_)
            go_wp2
            try go_ret
            show Q0 (.returned (.bool false)) _
            exact (by obtain rfl := hQ0.out; exact ⟨(ret_bool (vldD_no ex5.out (by unfold OkD; have a_b9 := hb9.out; simp at a_b9; omega)).symm), hK.old⟩)
          · --
           have q_b8 : n ≤ x5.d := of_decide_eq_true hb8.out
           iterate 5 (apply txN (j := 20) (d := 48) (b := false) rfl rfl rfl rfl; simp only [Act.put, pA, pB, pC])
           iterate 2 (apply txF (wants0 rfl); (· intro w' hK; go_simp; (try go_bits); exact ⟨rfl, rfl⟩); simp only [Act.put, pA, pB, pC])
           iterate 3 (apply txN (j := 27) (d := 55) (b := false) rfl rfl rfl rfl; simp only [Act.put, pA, pB, pC])
           iterate 2 (apply txF (wants0 rfl); (· intro w' hK; go_simp; (try go_bits); exact ⟨rfl, rfl⟩); simp only [Act.put, pA, pB, pC])
           iterate 3 (apply txN (j := 32) (d := 60) (b := false) rfl rfl rfl rfl; simp only [Act.put, pA, pB, pC])
           iterate 2 (apply txF (wants0 rfl); (· intro w' hK; go_simp; (try go_bits); exact ⟨rfl, rfl⟩); simp only [Act.put, pA, pB, pC])
           iterate 3 (apply txN (j := 37) (d := 65) (b := false) rfl rfl rfl rfl; simp only [Act.put, pA, pB, pC])
           iterate 2 (apply txF (wants0 rfl); (· intro w' hK; go_simp; (try go_bits); exact ⟨rfl, rfl⟩); simp only [Act.put, pA, pB, pC])
           iterate 3 (apply txN (j := 42) (d := 70) (b := false) rfl rfl rfl rfl; simp only [Act.put, pA, pB, pC])
           apply txF (wants0 rfl); (· intro w' hK; go_simp; (try go_bits); exact ⟨rfl, rfl⟩); simp only [Act.put, pA, pB, pC]
           refine txEnd (fun W13 hK => ?_)
           go_wp2
           try go_ret
           show Q0 (.returned (.bool false)) _
           exact (by obtain rfl := hQ0.out; exact ⟨(ret_bool (vldD_no ex5.out (by unfold OkD; skip; omega)).symm), hK.old⟩)
         · --
          have q_b7 : x5.d < 0 := of_decide_eq_true hb7.out
          iterate 4 (apply txN (j := 14) (d := 42) (b := false) rfl rfl rfl rfl; simp only [Act.put, pA, pB, pC])
          iterate 2 (apply txF (wants0 rfl); (· intro w' hK; go_simp; (try go_bits); exact ⟨rfl, rfl⟩); simp only [Act.put, pA, pB, pC])
          iterate 5 (apply txN (j := 20) (d := 48) (b := false) rfl rfl rfl rfl; simp only [Act.put, pA, pB, pC])
          iterate 2 (apply txF (wants0 rfl); (· intro w' hK; go_simp; (try go_bits); exact ⟨rfl, rfl⟩); simp only [Act.put, pA, pB, pC])
          iterate 3 (apply txN (j := 27) (d := 55) (b := false) rfl rfl rfl rfl; simp only [Act.put, pA, pB, pC])
          iterate 2 (apply txF (wants0 rfl); (· intro w' hK; go_simp; (try go_bits); exact ⟨rfl, rfl⟩); simp only [Act.put, pA, pB, pC])
          iterate 3 (apply txN (j := 32) (d := 60) (b := false) rfl rfl rfl rfl; simp only [Act.put, pA, pB, pC])
          iterate 2 (apply txF (wants0 rfl); (· intro w' hK; go_simp; (try go_bits); exact ⟨rfl, rfl⟩); simp only [Act.put, pA, pB, pC])
          iterate 3 (apply txN (j := 37) (d := 65) (b := false) rfl rfl rfl rfl; simp only [Act.put, pA, pB, pC])
          iterate 2 (apply txF (wants0 rfl); (· intro w' hK; go_simp; (try go_bits); exact ⟨rfl, rfl⟩); simp only [Act.put, pA, pB, pC])
          iterate 3 (apply txN (j := 42) (d := 70) (b := false) rfl rfl rfl rfl; simp only [Act.put, pA, pB, pC])
          apply txF (wants0 rfl); (· intro w' hK; go_simp; (try go_bits); exact ⟨rfl, rfl⟩); simp only [Act.put, pA, pB, pC]
          refine txEnd (fun W14 hK => ?_)
          go_wp2
          try go_ret
          show Q0 (.returned (.bool false)) _
          exact (by obtain rfl := hQ0.out; exact ⟨(ret_bool (vldD_no ex5.out (by unfold OkD; skip; omega)).symm), hK.old⟩)
        · --
         have q_b6 : n ≤ x5.s := of_decide_eq_true hb6.out
         iterate 3 (apply txN (j := 9) (d := 37) (b := false) rfl rfl rfl rfl; simp only [Act.put, pA, pB, pC])
         iterate 2 (apply txF (wants0 rfl); (· intro w' hK; go_simp; (try go_bits); exact ⟨rfl, rfl⟩); simp only [Act.put, pA, pB, pC])
         iterate 4 (apply txN (j := 14) (d := 42) (b := false) rfl rfl rfl rfl; simp only [Act.put, pA, pB, pC])
         iterate 2 (apply txF (wants0 rfl); (· intro w' hK; go_simp; (try go_bits); exact ⟨rfl, rfl⟩); simp only [Act.put, pA, pB, pC])
         iterate 5 (apply txN (j := 20) (d := 48) (b := false) rfl rfl rfl rfl; simp only [Act.put, pA, pB, pC])
         iterate 2 (apply txF (wants0 rfl); (· intro w' hK; go_simp; (try go_bits); exact ⟨rfl, rfl⟩); simp only [Act.put, pA, pB, pC])
         iterate 3 (apply txN (j := 27) (d := 55) (b := false) rfl rfl rfl rfl; simp only [Act.put, pA, pB, pC])
         iterate 2 (apply txF (wants0 rfl); (· intro w' hK; go_simp; (try go_bits); exact ⟨rfl, rfl⟩); simp only [Act.put, pA, pB, pC])
         iterate 3 (apply txN (j := 32) (d := 60) (b := false) rfl rfl rfl rfl; simp only [Act.put, pA, pB, pC])
         iterate 2 (apply txF (wants0 rfl); (· intro w' hK; go_simp; (try go_bits); exact ⟨rfl, rfl⟩); simp only [Act.put, pA, pB, pC])
         iterate 3 (apply txN (j := 37) (d := 65) (b := false) rfl rfl rfl rfl; simp only [Act.put, pA, pB, pC])
         iterate 2 (apply txF (wants0 rfl); (· intro w' hK; go_simp; (try go_bits); exact ⟨rfl, rfl⟩); simp only [Act.put, pA, pB, pC])
         iterate 3 (apply txN (j := 42) (d := 70) (b := false) rfl rfl rfl rfl; simp only [Act.put, pA, pB, pC])
         apply txF (wants0 rfl); (· intro w' hK; go_simp; (try go_bits); exact ⟨rfl, rfl⟩); simp only [Act.put, pA, pB, pC]
         refine txEnd (fun W15 hK => ?_)
         go_wp2
         try go_ret
         show Q0 (.returned (.bool false)) _
         exact (by obtain rfl := hQ0.out; exact ⟨(ret_bool (vldD_no ex5.out (by unfold OkD; skip; omega)).symm), hK.old⟩)
       · --
        have q_b5 : x5.s < 0 := of_decide_eq_true hb5.out
        iterate 4 (apply txN (j := 3) (d := 31) (b := false) rfl rfl rfl rfl; simp only [Act.put, pA, pB, pC])
        iterate 2 (apply txF (wants0 rfl); (· intro w' hK; go_simp; (try go_bits); exact ⟨rfl, rfl⟩); simp only [Act.put, pA, pB, pC])
        iterate 3 (apply txN (j := 9) (d := 37) (b := false) rfl rfl rfl rfl; simp only [Act.put, pA, pB, pC])
        iterate 2 (apply txF (wants0 rfl); (· intro w' hK; go_simp; (try go_bits); exact ⟨rfl, rfl⟩); simp only [Act.put, pA, pB, pC])
        iterate 4 (apply txN (j := 14) (d := 42) (b := false) rfl rfl rfl rfl; simp only [Act.put, pA, pB, pC])
        iterate 2 (apply txF (wants0 rfl); (· intro w' hK; go_simp; (try go_bits); exact ⟨rfl, rfl⟩); simp only [Act.put, pA, pB, pC])
        iterate 5 (apply txN (j := 20) (d := 48) (b := false) rfl rfl rfl rfl; simp only [Act.put, pA, pB, pC])
        iterate 2 (apply txF (wants0 rfl); (· intro w' hK; go_simp; (try go_bits); exact ⟨rfl, rfl⟩); simp only [Act.put, pA, pB, pC])
        iterate 3 (apply txN (j := 27) (d := 55) (b := false) rfl rfl rfl rfl; simp only [Act.put, pA, pB, pC])
        iterate 2 (apply txF (wants0 rfl); (· intro w' hK; go_simp; (try go_bits); exact ⟨rfl, rfl⟩); simp only [Act.put, pA, pB, pC])
        iterate 3 (apply txN (j := 32) (d := 60) (b := false) rfl rfl rfl rfl; simp only [Act.put, pA, pB, pC])
        iterate 2 (apply txF (wants0 rfl); (· intro w' hK; go_simp; (try go_bits); exact ⟨rfl, rfl⟩); simp only [Act.put, pA, pB, pC])
        iterate 3 (apply txN (j := 37) (d := 65) (b := false) rfl rfl rfl rfl; simp only [Act.put, pA, pB, pC])
        iterate 2 (apply txF (wants0 rfl); (· intro w' hK; go_simp; (try go_bits); exact ⟨rfl, rfl⟩); simp only [Act.put, pA, pB, pC])
        iterate 3 (apply txN (j := 42) (d := 70) (b := false) rfl rfl rfl rfl; simp only [Act.put, pA, pB, pC])
        apply txF (wants0 rfl); (· intro w' hK; go_simp; (try go_bits); exact ⟨rfl, rfl⟩); simp only [Act.put, pA, pB, pC]
        refine txEnd (fun W16 hK => ?_)
        go_wp2
        try go_ret
        show Q0 (.returned (.bool false)) _
        exact (by obtain rfl := hQ0.out; exact ⟨(ret_bool (vldD_no ex5.out (by unfold OkD; skip; omega)).symm), hK.old⟩)
    · --
     have q_b3 : 64 < ((xs.length : Int)) := of_decide_eq_true hb3.out
     go_wp2
     try go_ret
     show Q0 (.returned (.bool false)) _
     exact (by obtain rfl := hQ0.out; exact ⟨(ret_bool (vldD_head (by skip; omega)).symm), hK.old⟩)
   · --
    have q_b2 : 64 < n := of_decide_eq_true hb2.out
    iterate 3 (apply txN (j := 6) (d := 13) (b := false) rfl rfl rfl rfl; simp only [Act.put, pA, pB, pC])
    apply txF (wants0 rfl); (· intro w' hK; go_simp; (try go_bits); exact ⟨rfl, rfl⟩); simp only [Act.put, pA, pB, pC]
    refine txEnd (fun W17 hK => ?_)
    go_wp2
    try go_ret
    show Q0 (.returned (.bool false)) _
    exact (by obtain rfl := hQ0.out; exact ⟨(ret_bool (vldD_head (by skip; omega)).symm), hK.old⟩)
  · --
   have q_b1 : n < 0 := of_decide_eq_true hb1.out
   iterate 2 (apply txN (j := 2) (d := 9) (b := false) rfl rfl rfl rfl; simp only [Act.put, pA, pB, pC])
   iterate 2 (apply txF (wants0 rfl); (· intro w' hK; go_simp; (try go_bits); exact ⟨rfl, rfl⟩); simp only [Act.put, pA, pB, pC])
   iterate 3 (apply txN (j := 6) (d := 13) (b := false) rfl rfl rfl rfl; simp only [Act.put, pA, pB, pC])
   apply txF (wants0 rfl); (· intro w' hK; go_simp; (try go_bits); exact ⟨rfl, rfl⟩); simp only [Act.put, pA, pB, pC]
   refine txEnd (fun W18 hK => ?_)
   go_wp2
   try go_ret
   show Q0 (.returned (.bool false)) _
   exact (by obtain rfl := hQ0.out; exact ⟨(ret_bool (vldD_head (by skip; omega)).symm), hK.old⟩)
set_option maxRecDepth 100000 in
theorem total1_any  (x : Dm) (w : World)   :
    Calls Tryz.prog 40 #[.agg #[.int .i64 x.s, .int .i64 x.d, .int .i64 x.a, .int .i64 x.p]] w fun e w' => e = .returned (.bool (cntA x)) ∧ Below w.heap.size w w' := by
  have hK : KS w [] w := (KS.start w)
  refine Calls.hide (fun Q0 hQ0 => ?_)
  go_enter Tryz.func40, Tryz.ntmps40
  go_upto_region 0 with (fail)
  refine wp_region_tx w hK ?_
  clear hK
  apply txA (.cells #[.int .i64 x.s, .int .i64 x.d, .int .i64 x.a, .int .i64 x.p] 53) (wants0 rfl)
  · intro w' hK; go_simp; rfl
  intro R1 q_R1
  clear q_R1
  simp only [mkOf, Act.put, pA, pB, pC]
  apply txF (wants0 rfl); (· intro w' hK; go_simp; (try go_bits); exact ⟨rfl, rfl⟩); simp only [Act.put, pA, pB, pC]
  refine txEnd (fun W2 hK => ?_)
  go_wp2
  try go_ret
  show Q0 (.returned (.bool true)) _
  exact (by obtain rfl := hQ0.out; exact ⟨rfl, hK.old⟩)
set_option maxRecDepth 100000 in
theorem sum_total (v0 : Value) (xs : List Dm) (w : World) (h0 : SlV demK w v0 xs) (hl : xs.length ≤ 100000)  :
    Calls Tryz.prog 39 #[v0, .func (.func 40) #[] #[]] w fun e w' => e = .returned (.int .i64 (totD (cntA) xs)) ∧ Below w.heap.size w w' := by
  have h0_0 := h0; obtain ⟨p_h0, c_h0, rfl, n_h0⟩ := h0.sh
  have hK : KS w [] w := (KS.start w)
  refine Calls.hide (fun Q0 hQ0 => ?_)
  go_enter Tryz.func39, Tryz.ntmps39
  go_upto_region 2 with (fail)
  refine wp_region_tx w hK ?_
  clear hK
  apply txF (wants0 rfl); (· intro w' hK; go_simp; (try go_bits); exact ⟨rfl, rfl⟩); simp only [Act.put, pA, pB, pC]
  obtain ⟨b1, hb1⟩ : ∃ b : Bool, RowKit.Hid ((vldD 64 xs) = b) := ⟨_, hid rfl⟩
  apply txH (v := .bool b1) (wants0 rfl)
  · intro v1 hv1 w' hK; go_simp; (try go_bits); refine (valid_any (.slice p_h0 xs.length c_h0) 64 xs w' (h0_0.below hK.old) (by omega)).mono ?_; rintro e w5 ⟨rfl, hb⟩; obtain rfl := hv1.out; exact ⟨_, rfl, (by rw [hb1.out]), hb⟩
  simp only [Act.put, pA, pB, pC]
  apply txF (wants0 rfl); (· intro w' hK; go_simp; (try go_bits); exact ⟨rfl, rfl⟩); simp only [Act.put, pA, pB, pC]
  refine txEnd (fun W1 hK => ?_)
  cases b1
  · --
   go_wp2
   try go_ret
   show Q0 (.returned (.int .i64 0)) _
   exact (by obtain rfl := hQ0.out; exact ⟨(ret_int (totD_f hb1.out).symm), hK.old⟩)
  · --
   have hv := hb1.out
   go_upto_region 4 with (fail)
   refine wp_region_tx w hK ?_
   clear hK
   iterate 3 (apply txF (wants0 rfl); (· intro w' hK; go_simp; (try go_bits); exact ⟨rfl, rfl⟩); simp only [Act.put, pA, pB, pC])
   refine txEnd (fun W2 hK => ?_)
   go_wp2_with fail
   go_loopw [5, 14] (fun s5 s14 wl => ∃ (k : Nat) (acc : Int), s5 = .int .i64 acc ∧ s14 = .int .i64 (k : Int) ∧ (k ≤ xs.length) ∧ RowKit.Hid (acc = sumD (cntA) (xs.take k)) ∧ KS w [] wl) (fun s5 s14 _ => xs.length - (intOf s14).toNat)
   case atStart => exact ⟨0, 0, rfl, rfl, (by omega), (hid rfl), ⟨hK.old, aN⟩⟩
   case round =>
    clear hK
    obtain ⟨k, acc, rfl, rfl, hk, hs, hK⟩ := hrel
    generalize wr = W3 at hK ⊢
    go_upto_region 5 with (fail)
    refine wp_region_tx w hK ?_
    clear hK
    obtain ⟨b2, hb2⟩ : ∃ b : Bool, RowKit.Hid (decide (((k : Int)) < ((xs.length : Int))) = b) := ⟨_, hid rfl⟩
    apply txB b2 (wants0 rfl); (· intro w' hK; go_simp; (try go_bits); exact ⟨by have q := hb2.out; subst q; first | rfl | simp, rfl⟩); simp only [Act.put, pA, pB, pC]
    refine txEnd (fun W4 hK => ?_)
    cases b2
    · --
     have q_b2 : ((xs.length : Int)) ≤ ((k : Int)) := Int.not_lt.1 (of_decide_eq_false hb2.out)
     go_upto_region 10 with (fail)
     refine wp_region_tx w hK ?_
     clear hK
     iterate 2 (apply txF (wants0 rfl); (· intro w' hK; go_simp; (try go_bits); exact ⟨rfl, rfl⟩); simp only [Act.put, pA, pB, pC])
     refine txEnd (fun W5 hK => ?_)
     go_wp2
     try go_ret
     show Q0 (.returned (.int .i64 acc)) _
     exact (by obtain rfl := hQ0.out; exact ⟨(ret_int (by rw [totD_t hb1.out, hs.out, List.take_of_length_le (by omega)])), hK.old⟩)
    · --
     have q_b2 : ((k : Int)) < ((xs.length : Int)) := of_decide_eq_true hb2.out
     obtain ⟨x6, ex6⟩ : ∃ x, RowKit.Hid (xs[k]? = some x) := ⟨_, hid (List.getElem?_eq_getElem (show k < xs.length from (by omega)))⟩
     have i6 : k < xs.length := by have q : k < xs.length := (by omega); first | exact q | (simp at q; omega) | omega
     obtain ⟨g6, o6, q6, l6⟩ := (h0_0).ptr ex6.out
     subst q6
     replace hK := KS.atD hK (h0_0.below hK.old) ex6.out
     go_upto_region 6 with (fail)
     refine wp_region_tx w hK ?_
     clear hK
     apply txF (wants0 rfl); (· intro w' hK; go_simp; (try go_bits); exact ⟨rfl, rfl⟩); simp only [Act.put, pA, pB, pC]
     apply txF (wants0 rfl); (· intro w' hK; have c_CEL6_0 : w'.cell? ⟨g6, o6 + k * 4, none⟩ = some (.int .i64 x6.s) := (by have q := (hK.get m0).2 0 _ rfl; simpa using q); have c_CEL6_1 : w'.cell? ⟨g6, o6 + k * 4 + 1, none⟩ = some (.int .i64 x6.d) := (by have q := (hK.get m0).2 1 _ rfl; simpa using q); have c_CEL6_2 : w'.cell? ⟨g6, o6 + k * 4 + 2, none⟩ = some (.int .i64 x6.a) := (by have q := (hK.get m0).2 2 _ rfl; simpa using q); have c_CEL6_3 : w'.cell? ⟨g6, o6 + k * 4 + 3, none⟩ = some (.int .i64 x6.p) := (by have q := (hK.get m0).2 3 _ rfl; simpa using q); go_simp; (try go_bits); exact ⟨rfl, rfl⟩); simp only [Act.put, pA, pB, pC]
     apply txA (.cells #[.int .i64 0, .int .i64 0, .int .i64 0, .int .i64 0] 53) (wants0 rfl)
     · intro w' hK; go_simp; rfl
     intro R7 q_R7
     clear q_R7
     simp only [mkOf, Act.put, pA, pB, pC]
     apply txU 0 (Has w.heap.size R7 (.cells #[.int .i64 x6.s, .int .i64 x6.d, .int .i64 x6.a, .int .i64 x6.p] 53)) (wants0 rfl)
     · intro l1 hl1 w' hK; have k_R7 := (hK.get m0); have ⟨c_R7_0, c_R7_1, c_R7_2, c_R7_3⟩ := k_R7.c4; have f_R7 := k_R7.fz; go_simp; obtain rfl := hl1.out; exact ⟨rfl, ks_put (R := R7) hK k_R7.1 0 [.int .i64 x6.s, .int .i64 x6.d, .int .i64 x6.a, .int .i64 x6.p] (al1 (fun _ => has_put k_R7 _ _) (al1 (spC (Nat.ne_of_lt (Nat.lt_of_lt_of_le l6 k_R7.1)) (hK.get m1)) aN))⟩
     simp only [Act.put, pB]
     refine txEnd (fun W8 hK => ?_)
     go_upto_region 7 with (fail)
     refine wp_region_tx w hK ?_
     clear hK
     apply txF (wants0 rfl); (· intro w' hK; go_simp; (try go_bits); exact ⟨rfl, rfl⟩); simp only [Act.put, pA, pB, pC]
     apply txF (wants0 rfl); (· intro w' hK; have k_R7 := (hK.get m0); have ⟨c_R7_0, c_R7_1, c_R7_2, c_R7_3⟩ := k_R7.c4; go_simp; (try go_bits); exact ⟨rfl, rfl⟩); simp only [Act.put, pA, pB, pC]
     obtain ⟨b3, hb3⟩ : ∃ b : Bool, RowKit.Hid ((cntA x6) = b) := ⟨_, hid rfl⟩
     apply txH (v := .bool b3) (wants0 rfl)
     · intro v1 hv1 w' hK; go_simp; (try go_bits); refine (total1_any x6 w').mono ?_; rintro e w5 ⟨rfl, hb⟩; obtain rfl := hv1.out; exact ⟨_, rfl, (by rw [hb3.out]), hb⟩
     simp only [Act.put, pA, pB, pC]
     refine txEnd (fun W9 hK => ?_)
     cases b3
     · --
      (try go_wp2)
      go_roundw
      case rel => exact ⟨k + 1, acc, (by first | rfl | go_num), (by first | rfl | go_num), (by omega), (hid (by rw [sumD_step _ ex6.out, ← hs.out, hb3.out]; simp)), ⟨hK.old, aN⟩⟩
      case measure => simp [intOf]; omega
     · --
      have hbd := sumD_bt (cntA) hv k; rw [← hs.out] at hbd; have hok := (vldD_iff.1 hv).2.2.2 x6 (List.mem_of_getElem? ex6.out); unfold OkD at hok
      go_upto_region 8 with (fail)
      refine wp_region_tx w hK ?_
      clear hK
      iterate 2 (apply txF (wants0 rfl); (· intro w' hK; go_simp; (try go_bits); exact ⟨rfl, rfl⟩); simp only [Act.put, pA, pB, pC])
      apply txF (wants0 rfl); (· intro w' hK; have k_R7 := (hK.get m0); have c_R7_2 := k_R7.at 2 rfl; go_simp; (try go_bits); exact ⟨rfl, rfl⟩); simp only [Act.put, pA, pB, pC]
      apply txF (v := .int .i64 (acc + x6.a)) (wants0 rfl); (· intro w' hK; go_simp; (try go_bits); exact ⟨congrArg _ (by omega), rfl⟩); simp only [Act.put, pA, pB, pC]
      apply txF (wants0 rfl); (· intro w' hK; go_simp; (try go_bits); exact ⟨rfl, rfl⟩); simp only [Act.put, pA, pB, pC]
      refine txEnd (fun W10 hK => ?_)
      (try go_wp2)
      go_roundw
      case rel => exact ⟨k + 1, acc + x6.a, (by first | rfl | go_num), (by first | rfl | go_num), (by omega), (hid (by rw [sumD_step _ ex6.out, ← hs.out, hb3.out]; simp)), ⟨hK.old, aN⟩⟩
      case measure => simp [intOf]; omega
set_option maxRecDepth 100000 in
theorem total_any (v0 : Value) (xs : List Dm) (w : World) (h0 : SlV demK w v0 xs) (hl : xs.length ≤ 100000) :
    Calls Tryz.prog 17 #[v0] w fun e w' => e = .returned (.int .i64 (totD (cntA) xs)) ∧ Below w.heap.size w w' := by
  have h0_0 := h0; obtain ⟨p_h0, c_h0, rfl, n_h0⟩ := h0.sh
  have hK : KS w [] w := (KS.start w)
  refine Calls.hide (fun Q0 hQ0 => ?_)
  go_enter Tryz.func17, Tryz.ntmps17
  go_upto_region 1 with (fail)
  refine wp_region_tx w hK ?_
  clear hK
  apply txF (wants0 rfl); (· intro w' hK; go_simp; (try go_bits); exact ⟨rfl, rfl⟩); simp only [Act.put, pA, pB, pC]
  obtain ⟨z1, hz1⟩ : ∃ b : Int, RowKit.Hid ((totD cntA xs) = b) := ⟨_, hid rfl⟩
  apply txH (v := .int .i64 z1) (wants0 rfl)
  · intro v1 hv1 w' hK; go_simp; (try go_bits); refine (sum_total (.slice p_h0 xs.length c_h0) xs w' (h0_0.below hK.old) (by omega)).mono ?_; rintro e w5 ⟨rfl, hb⟩; obtain rfl := hv1.out; exact ⟨_, rfl, (by rw [hz1.out]), hb⟩
  simp only [Act.put, pA, pB, pC]
  apply txF (wants0 rfl); (· intro w' hK; go_simp; (try go_bits); exact ⟨rfl, rfl⟩); simp only [Act.put, pA, pB, pC]
  refine txEnd (fun W1 hK => ?_)
  go_wp2
  try go_ret
  show Q0 (.returned (.int .i64 z1)) _
  exact (by obtain rfl := hQ0.out; exact ⟨(ret_int hz1.out.symm), hK.old⟩)
end Go.Proofs.YtjhgkojbpgakcaaGreatDoor
