/- The law PrefixOrder walked. -/
import Derived.Test.YtbbjjjaclbkolaaDoorPfxR
namespace Go.Proofs.YtbbjjjaclbkolaaDoor
open Go.RowKit
open Go.Lib (decDigits)

set_option maxRecDepth 100000 in
set_option maxHeartbeats 1000000 in
theorem prefixOrder_walk (v0 : Value) (xs : List Pf) (f : Int) (w : World) (h0 : SlV pfxK w v0 xs) (hB0 : Bas w) (hw : ∀ p ∈ xs, W32 p.1) :
    Calls Tryd.prog 9 #[v0, .int .i64 f] w fun e w' => e = .returned (.bool true) ∧ Below w.heap.size w w' := by
  have h0_0 := h0; obtain ⟨p_h0, c_h0, rfl, n_h0⟩ := h0.sh
  have hK : KS w [] w := (KS.start w)
  refine Calls.hide (fun Q0 hQ0 => ?_)
  go_enter Tryd.func9, Tryd.ntmps9
  go_upto_region 1 with (fail)
  refine wp_region_tx w hK ?_
  clear hK
  apply txH (v := .bool true) (wants0 rfl)
  · intro v1 hv1 w' hK; go_simp; (try go_bits); refine (awake_any   w' (hB0.below hK.old) ).mono ?_; rintro e w5 ⟨rfl, hb⟩; obtain rfl := hv1.out; exact ⟨_, rfl, rfl, hb⟩
  simp only [Act.put, pA, pB, pC]
  iterate 2 (apply txF (wants0 rfl); (· intro w' hK; go_simp; (try go_bits); exact ⟨rfl, rfl⟩); simp only [Act.put, pA, pB, pC])
  apply txF (wantsg (j := 2) (d := 15) (b := false) rfl rfl rfl rfl); (· intro w' hK; go_simp; (try go_bits); exact ⟨rfl, rfl⟩); simp only [Act.put, pA, pB, pC]
  obtain ⟨b1, hb1⟩ : ∃ b : Bool, RowKit.Hid ((decide ((xs.length : Int) ≤ 30)) = b) := ⟨_, hid rfl⟩
  apply txH (v := .bool b1) (wantsg (j := 2) (d := 15) (b := false) rfl rfl rfl rfl)
  · intro v1 hv1 w' hK; go_simp; (try go_bits); refine (few_any (.slice p_h0 xs.length c_h0) xs w' (h0_0.below hK.old) ).mono ?_; rintro e w5 ⟨rfl, hb⟩; obtain rfl := hv1.out; exact ⟨_, rfl, (by rw [hb1.out]), hb⟩
  simp only [Act.put, pA, pB, pC]
  apply txF (wantsg (j := 2) (d := 15) (b := false) rfl rfl rfl rfl); (· intro w' hK; go_simp; (try go_bits); exact ⟨rfl, rfl⟩); simp only [Act.put, pA, pB, pC]
  iterate 2 (apply txF (wants0 rfl); (· intro w' hK; go_simp; (try go_bits); exact ⟨rfl, rfl⟩); simp only [Act.put, pA, pB, pC])
  cases b1
  · --
   have q_b1 : 30 < (xs.length : Int) := Int.not_le.1 (of_decide_eq_false hb1.out)
   iterate 2 (apply txN (j := 7) (d := 20) (b := false) rfl rfl rfl rfl; simp only [Act.put, pA, pB, pC])
   iterate 2 (apply txF (wants0 rfl); (· intro w' hK; go_simp; (try go_bits); exact ⟨rfl, rfl⟩); simp only [Act.put, pA, pB, pC])
   iterate 4 (apply txN (j := 11) (d := 24) (b := false) rfl rfl rfl rfl; simp only [Act.put, pA, pB, pC])
   apply txF (wants0 rfl); (· intro w' hK; go_simp; (try go_bits); exact ⟨rfl, rfl⟩); simp only [Act.put, pA, pB, pC]
   refine txEnd (fun W1 hK => ?_)
   go_upto_region 2 with (fail)
   refine wp_region_tx w hK ?_
   clear hK
   apply txH (v := .bool true) (wants0 rfl)
   · intro v1 hv1 w' hK; go_simp; (try go_bits); refine (awake_any   w' (hB0.below hK.old) ).mono ?_; rintro e w5 ⟨rfl, hb⟩; obtain rfl := hv1.out; exact ⟨_, rfl, rfl, hb⟩
   simp only [Act.put, pA, pB, pC]
   apply txF (wants0 rfl); (· intro w' hK; go_simp; (try go_bits); exact ⟨rfl, rfl⟩); simp only [Act.put, pA, pB, pC]
   refine txEnd (fun W2 hK => ?_)
   go_wp2
   try go_ret
   show Q0 (.returned (.bool true)) _
   exact (by obtain rfl := hQ0.out; exact ⟨rfl, hK.old⟩)
  · --
   have q_b1 : (xs.length : Int) ≤ 30 := of_decide_eq_true hb1.out
   apply txF (wantsg (j := 7) (d := 20) (b := false) rfl rfl rfl rfl); (· intro w' hK; go_simp; (try go_bits); exact ⟨rfl, rfl⟩); simp only [Act.put, pA, pB, pC]
   obtain ⟨b2, hb2⟩ : ∃ b : Bool, RowKit.Hid (decide (f < 0) = b) := ⟨_, hid rfl⟩
   apply txB b2 (wantsg (j := 7) (d := 20) (b := false) rfl rfl rfl rfl); (· intro w' hK; go_simp; (try go_bits); exact ⟨by have q := hb2.out; subst q; first | rfl | simp, rfl⟩); simp only [Act.put, pA, pB, pC]
   iterate 2 (apply txF (wants0 rfl); (· intro w' hK; go_simp; (try go_bits); exact ⟨rfl, rfl⟩); simp only [Act.put, pA, pB, pC])
   cases b2
   · --
    have q_b2 : 0 ≤ f := Int.not_lt.1 (of_decide_eq_false hb2.out)
    iterate 3 (apply txF (wantsg (j := 11) (d := 24) (b := false) rfl rfl rfl rfl); (· intro w' hK; go_simp; (try go_bits); exact ⟨rfl, rfl⟩); simp only [Act.put, pA, pB, pC])
    obtain ⟨b3, hb3⟩ : ∃ b : Bool, RowKit.Hid (decide (((xs.length : Int)) < f) = b) := ⟨_, hid rfl⟩
    apply txB b3 (wantsg (j := 11) (d := 24) (b := false) rfl rfl rfl rfl); (· intro w' hK; go_simp; (try go_bits); exact ⟨by have q := hb3.out; subst q; first | rfl | simp, rfl⟩); simp only [Act.put, pA, pB, pC]
    apply txF (wants0 rfl); (· intro w' hK; go_simp; (try go_bits); exact ⟨rfl, rfl⟩); simp only [Act.put, pA, pB, pC]
    refine txEnd (fun W3 hK => ?_)
    cases b3
    · --
     have q_b3 : f ≤ ((xs.length : Int)) := Int.not_lt.1 (of_decide_eq_false hb3.out)
     obtain ⟨m, rfl⟩ : ∃ m : Nat, f = (m : Int) := ⟨f.toNat, by omega⟩
     have hm : m ≤ xs.length := by omega
     go_upto_region 3 with (fail)
     refine wp_region_tx w hK ?_
     clear hK
     apply txF (wants0 rfl); (· intro w' hK; go_simp; (try go_bits); exact ⟨rfl, rfl⟩); simp only [Act.put, pA, pB, pC]
     obtain ⟨z1, hz1⟩ : ∃ b : Int, RowKit.Hid ((agE xs) = b) := ⟨_, hid rfl⟩
     apply txE (α := Sl) (fun sv => .tuple #[.slice sv.p (agF xs).length sv.c, .int .i64 z1]) (fun sv => [fun w1 => OwV pfxK 24 w.heap.size w1 (.slice sv.p (agF xs).length sv.c) (agF xs)]) (wants0 rfl)
     · intro f1 l1 hl1 w' hK; go_simp; (try go_bits); refine (aggregate_any (.slice p_h0 xs.length c_h0) xs w' (h0_0.below hK.old) (by assumption) (by omega)).mono ?_; rintro e w5 ⟨y0, rfl, u0, hb⟩; obtain ⟨rfl, rfl⟩ := hl1.out; have u0_0 := u0; obtain ⟨p_u0, c_u0, rfl, n_u0⟩ := u0.sh; exact ⟨_, rfl, (⟨p_u0, 0, c_u0⟩ : Sl), (by rw [hz1.out]), hb, .cons (fun w2 h2 => (u0_0.mono hK.old.size).below h2) (Lasts.nil _)⟩
     rintro ⟨sv4_p, sv4_l, sv4_c⟩
     simp only [Act.put, pA, pB, pC, pD, pE]
     iterate 5 (apply txF (wants0 rfl); (· intro w' hK; go_simp; (try go_bits); exact ⟨rfl, rfl⟩); simp only [Act.put, pA, pB, pC])
     refine txEnd (fun W5 hK => ?_)
     rcases three_ptr n_h0 with ⟨rfl, hnil⟩ | ⟨a0, rfl, hnil⟩ | ⟨g0, o0, rfl, hne, hc1, hc2⟩
     · --
      have hm0 := hid (show m = 0 from by have q := hnil.out; rw [q] at hm; simpa using hm)
      have hx0 := hid (show xs.length = 0 from by rw [hnil.out]; rfl)
      have hdr : SlV pfxK w (.slice none (xs.length - m) (c_h0 - m)) (xs.drop m) := by rw [hnil.out, hm0.out]; exact SlV.nil
      have htk : SlV pfxK w (.slice none m c_h0) (xs.take m) := by rw [hnil.out, hm0.out]; exact SlV.nil
      go_upto_region 4 with (fail)
      have v_W5 := hK.old.size
      have b6 : ∀ g, ob sv4_p = some g → g < W5.heap.size := fun g e => ((hK.get m0).block e).2
      have hK0 := hK.subl (sC sZ)
      replace hK0 := hK0.add (F := fun w1 => W5.heap.size ≤ w1.heap.size) (fun _ hb => hb.size)
      refine wp_region_floatB (w) (W5.heap.size) _ _ [3, 0, 0, 0, 6, 0, 0, 0, 6, 2, 0, 0, 0, 0, 0] (by kernel_rfl) (by kernel_rfl) (by kernel_rfl) (by kernel_rfl) (fun _ h0 => h0.get m0) (KS.drew hK0) (KS.drew hK) ?_
      clear hK hK0
      apply lxA0 (.cells #[] 24) (wants0 rfl)
      · intro w' h0; go_simp; rfl
      intro R7
      simp only [mkOf, Act.put, pA, pB, pC]
      iterate 2 (apply lxF0 (wants0 rfl); (· intro w' h0; go_simp; (try go_bits); exact ⟨rfl, rfl⟩); simp only [Act.put, pA, pB, pC])
      apply lxF0 (v := .slice none (xs.length - m) (c_h0 - m)) (wants0 rfl); (· intro w' h0; go_simp; (try go_bits); exact ⟨rfl, rfl⟩); simp only [Act.put, pA, pB, pC]
      refine lxApp6 (K := pfxK) (t := 24) (xs := ([] : List Pf)) (ys := xs.drop m) (.tmp 37) (.tmp 40) (wants0 rfl) (by rfl) Tryd.underlying39 Tryd.underlying39 infoPf rfl (by rfl) (by rfl) (by simp [maxLen]; omega) (by simp; omega) (fun r => [fun w1 => OwV pfxK 24 w.heap.size w1 (.slice sv4_p (agF xs).length sv4_c) (agF xs), fun _ => ∀ g, ob r = some g → ob sv4_p ≠ some g])  (fun w' h0 hK => ⟨((OwV.empty (hK.get m0)).mono v_W5), (fun _ _ => .inl pfxK_free), (hdr.below hK.old)⟩) (fun w' h0 hK => (al1 (gwL (h0.get m0)) aN)) (fun w' r h0 hK hr => (al1 (gwO (hK.get m1) (apLit ((hK.get m0)).1 b6) (fun _ _ => .inl pfxK_free)) (al1 (gwC (apr hr (apLit ((hK.get m0)).1 b6) (fun g e => (((hK.get m1)).block e).2))) aN))) ?_
      intro sv8
      rw [(List.nil_append (xs.drop m))]
      simp only [Act.put, pA, pB, pC]
      iterate 2 (apply lxF0 (wants0 rfl); (· intro w' h0; go_simp; (try go_bits); exact ⟨rfl, rfl⟩); simp only [Act.put, pA, pB, pC])
      apply lxF0 (v := .slice none m c_h0) (wants0 rfl); (· intro w' h0; go_simp; (try go_bits); first | exact ⟨rfl, rfl⟩ | (rw [if_pos (by omega)]; exact ⟨rfl, rfl⟩) | (rw [if_pos (by have := hm0.out; omega)]; exact ⟨rfl, rfl⟩)); simp only [Act.put, pA, pB, pC]
      refine lxApp6 (K := pfxK) (t := 24) (xs := xs.drop m) (ys := xs.take m) (.tmp 41) (.tmp 44) (wants0 rfl) (by rfl) Tryd.underlying39 Tryd.underlying39 infoPf rfl (by rfl) (by rfl) (by simp [maxLen]; omega) (by simp; omega) (fun r => [fun w1 => OwV pfxK 24 w.heap.size w1 (.slice sv4_p (agF xs).length sv4_c) (agF xs), fun _ => ∀ g, ob sv8.p = some g → ob sv4_p ≠ some g, fun _ => ∀ g, ob r = some g → ob sv4_p ≠ some g])  (fun w' h0 hK => ⟨(hK.get m0), (fun _ _ => .inl pfxK_free), (htk.below hK.old)⟩) (fun w' h0 hK => (al1 (gwL (h0.get m0)) aN)) (fun w' r h0 hK hr => (al1 (gwO (hK.get m1) ((hK.get m2)) (fun _ _ => .inl pfxK_free)) (al1 (gwC (hK.get m2)) (al1 (gwC (apr hr ((hK.get m2)) (fun g e => (((hK.get m1)).block e).2))) aN)))) ?_
      intro sv10
      rw [(show xs.drop m ++ xs.take m = rotS xs m from rfl)]
      simp only [Act.put, pA, pB, pC]
      obtain ⟨z2, hz2⟩ : ∃ b : Int, RowKit.Hid ((agE (rotS xs m)) = b) := ⟨_, hid rfl⟩
      apply lxE1 (α := Sl) (fun sv => .tuple #[.slice sv.p (agF (rotS xs m)).length sv.c, .int .i64 z2]) (fun sv => [fun w1 => OwV pfxK 24 w.heap.size w1 (.slice sv.p (agF (rotS xs m)).length sv.c) (agF (rotS xs m)), fun _ => ∀ g, ob sv.p = some g → ob sv10.p ≠ some g, fun _ => ∀ g, ob sv.p = some g → ob sv4_p ≠ some g]) (wants0 rfl)
      · intro f1 l1 hl1 w' h0 hK; go_simp; (try go_bits); refine (aggregate_any (.slice sv10.p (rotS xs m).length sv10.c) (rotS xs m) w' (hK.get m0).slv (rotS_w hw) (by rw [rotS_len]; omega)).mono ?_; rintro e w5 ⟨y0, rfl, u0, hb⟩; obtain ⟨rfl, rfl⟩ := hl1.out; have u0_0 := u0; obtain ⟨p_u0, c_u0, rfl, n_u0⟩ := u0.sh; exact ⟨_, rfl, (⟨p_u0, 0, c_u0⟩ : Sl), (by rw [hz2.out]), hb, .cons (fun w2 h2 => (u0_0.mono hK.old.size).below h2) (.cons (fun _ _ => fun _ e e2 => absurd (u0_0.block e).1 (Nat.not_le.2 (((hK.get m0)).block e2).2)) (.cons (fun _ _ => fun _ e e2 => absurd (u0_0.block e).1 (Nat.not_le.2 (((hK.get m1)).block e2).2)) (Lasts.nil _)))⟩
      rintro ⟨sv12_p, sv12_l, sv12_c⟩
      simp only [Act.put, pA, pB, pC, pD, pE]
      iterate 5 (apply lxF0 (wants0 rfl); (· intro w' h0; go_simp; (try go_bits); exact ⟨rfl, rfl⟩); simp only [Act.put, pA, pB, pC])
      refine lxEnd (fun W15 hK => ?_)
      have n9 := hK.get m5
      have n11 := hK.get m6
      have n13 := hK.get m1
      have n14 := hK.get m2
      go_upto_region 5 with (fail)
      refine wp_region_tx w hK ?_
      clear hK
      apply txF (wants0 rfl); (· intro w' hK; go_simp; (try go_bits); exact ⟨rfl, rfl⟩); simp only [Act.put, pA, pB, pC]
      obtain ⟨z3, hz3⟩ : ∃ b : Int, RowKit.Hid ((agE (agF xs)) = b) := ⟨_, hid rfl⟩
      apply txE (α := Sl) (fun sv => .tuple #[.slice sv.p (agF (agF xs)).length sv.c, .int .i64 z3]) (fun sv => [fun w1 => OwV pfxK 24 w.heap.size w1 (.slice sv.p (agF (agF xs)).length sv.c) (agF (agF xs)), fun _ => ∀ g, ob sv.p = some g → ob sv12_p ≠ some g, fun _ => ∀ g, ob sv.p = some g → ob sv10.p ≠ some g, fun _ => ∀ g, ob sv.p = some g → ob sv4_p ≠ some g]) (wants0 rfl)
      · intro f1 l1 hl1 w' hK; go_simp; (try go_bits); refine (aggregate_any (.slice sv4_p (agF xs).length sv4_c) (agF xs) w' (hK.get m4).slv (agF_w hw) (by have := agF_len hw; omega)).mono ?_; rintro e w5 ⟨y0, rfl, u0, hb⟩; obtain ⟨rfl, rfl⟩ := hl1.out; have u0_0 := u0; obtain ⟨p_u0, c_u0, rfl, n_u0⟩ := u0.sh; exact ⟨_, rfl, (⟨p_u0, 0, c_u0⟩ : Sl), (by rw [hz3.out]), hb, .cons (fun w2 h2 => (u0_0.mono hK.old.size).below h2) (.cons (fun _ _ => fun _ e e2 => absurd (u0_0.block e).1 (Nat.not_le.2 (((hK.get m0)).block e2).2)) (.cons (fun _ _ => fun _ e e2 => absurd (u0_0.block e).1 (Nat.not_le.2 (((hK.get m3)).block e2).2)) (.cons (fun _ _ => fun _ e e2 => absurd (u0_0.block e).1 (Nat.not_le.2 (((hK.get m4)).block e2).2)) (Lasts.nil _))))⟩
      rintro ⟨sv16_p, sv16_l, sv16_c⟩
      simp only [Act.put, pA, pB, pC, pD, pE]
      refine Tx.know (Pr := ∀ g, ob sv16_p = some g → ob sv12_p ≠ some g) (fun w' hK => hK.get m1) (fun n17 => ?_)
      refine Tx.know (Pr := ∀ g, ob sv16_p = some g → ob sv10.p ≠ some g) (fun w' hK => hK.get m2) (fun n18 => ?_)
      refine Tx.know (Pr := ∀ g, ob sv16_p = some g → ob sv4_p ≠ some g) (fun w' hK => hK.get m3) (fun n19 => ?_)
      iterate 5 (apply txF (wants0 rfl); (· intro w' hK; go_simp; (try go_bits); exact ⟨rfl, rfl⟩); simp only [Act.put, pA, pB, pC])
      refine txEnd (fun W20 hK => ?_)
      have l1 := agF_len hw; have l2 := agF_len (rotS_w (k := m) hw); have l3 := agF_len (agF_w hw); rw [rotS_len] at l2; have hpe := hid (agF_perm (rotS_perm xs m))
      go_upto_region 6 with (fail)
      refine wp_region_tx w hK ?_
      clear hK
      iterate 2 (apply txF (wants0 rfl); (· intro w' hK; go_simp; (try go_bits); exact ⟨rfl, rfl⟩); simp only [Act.put, pA, pB, pC])
      obtain ⟨b4, hb4⟩ : ∃ b : Bool, RowKit.Hid ((z1 != z2) = b) := ⟨_, hid rfl⟩
      apply txB b4 (wants0 rfl); (· intro w' hK; go_simp; (try go_bits); exact ⟨by have q := hb4.out; subst q; first | rfl | simp, rfl⟩); simp only [Act.put, pA, pB, pC]
      apply txF (wants0 rfl); (· intro w' hK; go_simp; (try go_bits); exact ⟨rfl, rfl⟩); simp only [Act.put, pA, pB, pC]
      cases b4
      · --
       apply txF (wantsg (j := 3) (d := 57) (b := false) rfl rfl rfl rfl); (· intro w' hK; go_simp; (try go_bits); exact ⟨rfl, rfl⟩); simp only [Act.put, pA, pB, pC]
       obtain ⟨b5, hb5⟩ : ∃ b : Bool, RowKit.Hid ((z1 != 0) = b) := ⟨_, hid rfl⟩
       apply txB b5 (wantsg (j := 3) (d := 57) (b := false) rfl rfl rfl rfl); (· intro w' hK; go_simp; (try go_bits); exact ⟨by have q := hb5.out; subst q; first | rfl | simp, rfl⟩); simp only [Act.put, pA, pB, pC]
       apply txF (wants0 rfl); (· intro w' hK; go_simp; (try go_bits); exact ⟨rfl, rfl⟩); simp only [Act.put, pA, pB, pC]
       refine txEnd (fun W21 hK => ?_)
       cases b5
       · --
        have hok := okB_all (agE_zero (by have q := hb5.out; rw [← hz1.out] at q; simpa using q)) hw; have haw := agF_w hw; have hag := hid (ag_ok (okB_of hok)); have hag2 := hid (agF_again hok); have hnr := (agg_facts hok).1
        go_upto_region 8 with (fail)
        refine wp_region_tx w hK ?_
        clear hK
        apply txF (wants0 rfl); (· intro w' hK; go_simp; (try go_bits); exact ⟨rfl, rfl⟩); simp only [Act.put, pA, pB, pC]
        refine txEnd (fun W22 hK => ?_)
        go_wp2_with fail
        go_loopw [11] (fun s11 wl => ∃ (i : Nat), s11 = .int .i64 (i : Int) ∧ (i ≤ (agF xs).length) ∧ KS w [fun w1 => OwV pfxK 24 w.heap.size w1 (.slice sv16_p (agF (agF xs)).length sv16_c) (agF (agF xs)), fun w1 => OwV pfxK 24 w.heap.size w1 (.slice sv12_p (agF (rotS xs m)).length sv12_c) (agF (rotS xs m)), fun w1 => OwV pfxK 24 w.heap.size w1 (.slice sv10.p (rotS xs m).length sv10.c) (rotS xs m), fun w1 => OwV pfxK 24 w.heap.size w1 (.slice sv4_p (agF xs).length sv4_c) (agF xs)] wl) (fun s11 _ => (agF xs).length - (intOf s11).toNat)
        case atStart => exact ⟨0, rfl, (by omega), ⟨hK.old, (al1 (hK.all _ m0) (al1 (hK.all _ m4) (al1 (hK.all _ m7) (al1 (hK.all _ m8) aN))))⟩⟩
        case round =>
         clear hK
         obtain ⟨i, rfl, hi, hK⟩ := hrel
         generalize wr = W23 at hK ⊢
         go_upto_region 9 with (fail)
         refine wp_region_tx w hK ?_
         clear hK
         iterate 3 (apply txF (wants0 rfl); (· intro w' hK; go_simp; (try go_bits); exact ⟨rfl, rfl⟩); simp only [Act.put, pA, pB, pC])
         obtain ⟨b6, hb6⟩ : ∃ b : Bool, RowKit.Hid (decide (((i : Int)) < (((agF xs).length : Int))) = b) := ⟨_, hid rfl⟩
         apply txB b6 (wants0 rfl); (· intro w' hK; go_simp; (try go_bits); exact ⟨by have q := hb6.out; subst q; first | rfl | simp, rfl⟩); simp only [Act.put, pA, pB, pC]
         refine txEnd (fun W24 hK => ?_)
         cases b6
         · --
          have q_b6 : (((agF xs).length : Int)) ≤ ((i : Int)) := Int.not_lt.1 (of_decide_eq_false hb6.out)
          go_upto_region 16 with (fail)
          refine wp_region_tx w hK ?_
          clear hK
          apply txF (wants0 rfl); (· intro w' hK; go_simp; (try go_bits); exact ⟨rfl, rfl⟩); simp only [Act.put, pA, pB, pC]
          obtain ⟨b7, hb7⟩ : ∃ b : Bool, RowKit.Hid ((z3 == 0) = b) := ⟨_, hid rfl⟩
          apply txB b7 (wants0 rfl); (· intro w' hK; go_simp; (try go_bits); exact ⟨by have q := hb7.out; subst q; first | rfl | simp, rfl⟩); simp only [Act.put, pA, pB, pC]
          apply txF (wants0 rfl); (· intro w' hK; go_simp; (try go_bits); exact ⟨rfl, rfl⟩); simp only [Act.put, pA, pB, pC]
          cases b7
          · --
           iterate 3 (apply txN (j := 2) (d := 92) (b := true) rfl rfl rfl rfl; simp only [Act.put, pA, pB, pC])
           iterate 2 (apply txF (wants0 rfl); (· intro w' hK; go_simp; (try go_bits); exact ⟨rfl, rfl⟩); simp only [Act.put, pA, pB, pC])
           iterate 3 (apply txN (j := 7) (d := 97) (b := true) rfl rfl rfl rfl; simp only [Act.put, pA, pB, pC])
           iterate 2 (apply txF (wants0 rfl); (· intro w' hK; go_simp; (try go_bits); exact ⟨rfl, rfl⟩); simp only [Act.put, pA, pB, pC])
           refine txEnd (fun W25 hK => ?_)
           go_wp2
           try go_ret
           show Q0 (.returned (.bool false)) _
           exact (by obtain rfl := hQ0.out; exact ⟨(ret_bool (by have f1 := hpe.out.1; have f3 := hag2.out.1; have f4 := hag2.out.2; have f0 := hag.out.1; have e3 := hz3.out; rw [f0, f4] at e3; have e_b7 := hb7.out; rw [f1, f0] at *; simp_all)), hK.old⟩)
          · --
           iterate 2 (apply txF (wantsg (j := 2) (d := 92) (b := true) rfl rfl rfl rfl); (· intro w' hK; go_simp; (try go_bits); exact ⟨rfl, rfl⟩); simp only [Act.put, pA, pB, pC])
           obtain ⟨b8, hb8⟩ : ∃ b : Bool, RowKit.Hid ((decide ((agF xs) = (agF (rotS xs m)))) = b) := ⟨_, hid rfl⟩
           apply txH (v := .bool b8) (wantsg (j := 2) (d := 92) (b := true) rfl rfl rfl rfl)
           · intro v1 hv1 w' hK; go_simp; (try go_bits); refine (same_any (.slice sv4_p (agF xs).length sv4_c) (.slice sv12_p (agF (rotS xs m)).length sv12_c) (agF xs) (agF (rotS xs m)) w' (hK.get m3).slv (hK.get m1).slv (by omega) (by omega)).mono ?_; rintro e w5 ⟨rfl, hb⟩; obtain rfl := hv1.out; exact ⟨_, rfl, (by rw [hb8.out]), hb⟩
           simp only [Act.put, pA, pB, pC]
           iterate 2 (apply txF (wants0 rfl); (· intro w' hK; go_simp; (try go_bits); exact ⟨rfl, rfl⟩); simp only [Act.put, pA, pB, pC])
           cases b8
           · --
            iterate 3 (apply txN (j := 7) (d := 97) (b := true) rfl rfl rfl rfl; simp only [Act.put, pA, pB, pC])
            iterate 2 (apply txF (wants0 rfl); (· intro w' hK; go_simp; (try go_bits); exact ⟨rfl, rfl⟩); simp only [Act.put, pA, pB, pC])
            refine txEnd (fun W26 hK => ?_)
            go_wp2
            try go_ret
            show Q0 (.returned (.bool false)) _
            exact (by obtain rfl := hQ0.out; exact ⟨(ret_bool (by have f1 := hpe.out.1; have f3 := hag2.out.1; have f4 := hag2.out.2; have f0 := hag.out.1; have e3 := hz3.out; rw [f0, f4] at e3; have e_b7 := hb7.out; have e_b8 := hb8.out; rw [f1, f0] at *; simp_all)), hK.old⟩)
           · --
            iterate 2 (apply txF (wantsg (j := 7) (d := 97) (b := true) rfl rfl rfl rfl); (· intro w' hK; go_simp; (try go_bits); exact ⟨rfl, rfl⟩); simp only [Act.put, pA, pB, pC])
            obtain ⟨b9, hb9⟩ : ∃ b : Bool, RowKit.Hid ((decide ((agF xs) = (agF (agF xs)))) = b) := ⟨_, hid rfl⟩
            apply txH (v := .bool b9) (wantsg (j := 7) (d := 97) (b := true) rfl rfl rfl rfl)
            · intro v1 hv1 w' hK; go_simp; (try go_bits); refine (same_any (.slice sv4_p (agF xs).length sv4_c) (.slice sv16_p (agF (agF xs)).length sv16_c) (agF xs) (agF (agF xs)) w' (hK.get m3).slv (hK.get m0).slv (by omega) (by omega)).mono ?_; rintro e w5 ⟨rfl, hb⟩; obtain rfl := hv1.out; exact ⟨_, rfl, (by rw [hb9.out]), hb⟩
            simp only [Act.put, pA, pB, pC]
            iterate 2 (apply txF (wants0 rfl); (· intro w' hK; go_simp; (try go_bits); exact ⟨rfl, rfl⟩); simp only [Act.put, pA, pB, pC])
            refine txEnd (fun W27 hK => ?_)
            go_wp2
            try go_ret
            show Q0 (.returned (.bool b9)) _
            exact (by obtain rfl := hQ0.out; exact ⟨(ret_bool (by have f1 := hpe.out.1; have f3 := hag2.out.1; have f4 := hag2.out.2; have f0 := hag.out.1; have e3 := hz3.out; rw [f0, f4] at e3; have e_b7 := hb7.out; have e_b8 := hb8.out; have e_b9 := hb9.out; rw [f1, f0] at *; simp_all)), hK.old⟩)
         · --
          have q_b6 : ((i : Int)) < (((agF xs).length : Int)) := of_decide_eq_true hb6.out
          go_wp2_with fail
          go_loopw [12] (fun s12 wl => ∃ (j : Nat), s12 = .int .i64 (j : Int) ∧ (j ≤ (agF xs).length) ∧ KS w [fun w1 => OwV pfxK 24 w.heap.size w1 (.slice sv16_p (agF (agF xs)).length sv16_c) (agF (agF xs)), fun w1 => OwV pfxK 24 w.heap.size w1 (.slice sv12_p (agF (rotS xs m)).length sv12_c) (agF (rotS xs m)), fun w1 => OwV pfxK 24 w.heap.size w1 (.slice sv10.p (rotS xs m).length sv10.c) (rotS xs m), fun w1 => OwV pfxK 24 w.heap.size w1 (.slice sv4_p (agF xs).length sv4_c) (agF xs)] wl) (fun s12 _ => (agF xs).length - (intOf s12).toNat)
          case atStart => exact ⟨0, rfl, (by omega), ⟨hK.old, (al1 (hK.all _ m0) (al1 (hK.all _ m1) (al1 (hK.all _ m2) (al1 (hK.all _ m3) aN))))⟩⟩
          case round =>
           clear hK
           obtain ⟨j, rfl, hj, hK⟩ := hrel
           generalize wr = W28 at hK ⊢
           go_upto_region 12 with (fail)
           refine wp_region_tx w hK ?_
           clear hK
           iterate 3 (apply txF (wants0 rfl); (· intro w' hK; go_simp; (try go_bits); exact ⟨rfl, rfl⟩); simp only [Act.put, pA, pB, pC])
           obtain ⟨b7, hb7⟩ : ∃ b : Bool, RowKit.Hid (decide (((j : Int)) < (((agF xs).length : Int))) = b) := ⟨_, hid rfl⟩
           apply txB b7 (wants0 rfl); (· intro w' hK; go_simp; (try go_bits); exact ⟨by have q := hb7.out; subst q; first | rfl | simp, rfl⟩); simp only [Act.put, pA, pB, pC]
           refine txEnd (fun W29 hK => ?_)
           cases b7
           · --
            have q_b7 : (((agF xs).length : Int)) ≤ ((j : Int)) := Int.not_lt.1 (of_decide_eq_false hb7.out)
            (try go_wp2)
            go_roundw
            case rel => exact ⟨i + 1, (by first | rfl | go_num), (by omega), ⟨hK.old, (al1 (hK.all _ m0) (al1 (hK.all _ m1) (al1 (hK.all _ m2) (al1 (hK.all _ m3) aN))))⟩⟩
            case measure => simp [intOf]; omega
           · --
            have q_b7 : ((j : Int)) < (((agF xs).length : Int)) := of_decide_eq_true hb7.out
            obtain ⟨xi, exi⟩ : ∃ x, RowKit.Hid ((agF xs)[i]? = some x) := ⟨_, hid (List.getElem?_eq_getElem (show i < (agF xs).length from (by omega)))⟩
            have i30 : i < (agF xs).length := by have q : i < (agF xs).length := (by omega); first | exact q | (simp at q; omega) | omega
            obtain ⟨g30, o30, q30, l30⟩ := ((hK.get m3).slv).ptr exi.out
            obtain rfl : o30 = 0 := ((hK.get m3)).off q30
            subst q30
            replace hK := KS.atP hK (hK.get m3).slv exi.out
            obtain ⟨xj, exj⟩ : ∃ x, RowKit.Hid ((agF xs)[j]? = some x) := ⟨_, hid (List.getElem?_eq_getElem (show j < (agF xs).length from (by omega)))⟩
            have i31 : j < (agF xs).length := by have q : j < (agF xs).length := (by omega); first | exact q | (simp at q; omega) | omega
            replace hK := KS.atP hK (hK.get m4).slv exj.out
            have wxi := haw _ (List.mem_of_getElem? exi.out); have wxj := haw _ (List.mem_of_getElem? exj.out)
            go_upto_region 14 with (fail)
            have hK0 := hK
            refine wp_region_float0 (w) _ _ [0, 0, 0, 0, 0, 0, 0, 0, 0, 0, 0, 0, 1, 0] (by kernel_rfl) (by kernel_rfl) (by kernel_rfl) (by kernel_rfl) (KS.drew hK0) (KS.drew hK) ?_
            clear hK hK0
            iterate 2 (apply lxF0 (wants0 rfl); (· intro w' h0; go_simp; (try go_bits); exact ⟨rfl, rfl⟩); simp only [Act.put, pA, pB, pC])
            obtain ⟨b8, hb8⟩ : ∃ b : Bool, RowKit.Hid ((((i : Int)) != ((j : Int))) = b) := ⟨_, hid rfl⟩
            apply lxB0 b8 (wants0 rfl); (· intro w' h0; go_simp; (try go_bits); exact ⟨by have q := hb8.out; subst q; first | rfl | simp, rfl⟩); simp only [Act.put, pA, pB, pC]
            apply lxF0 (wants0 rfl); (· intro w' h0; go_simp; (try go_bits); exact ⟨rfl, rfl⟩); simp only [Act.put, pA, pB, pC]
            cases b8
            · --
             iterate 9 (apply lxN (j := 3) (d := 79) (b := true) rfl rfl rfl rfl; simp only [Act.put, pA, pB, pC])
             apply lxF0 (wants0 rfl); (· intro w' h0; go_simp; (try go_bits); exact ⟨rfl, rfl⟩); simp only [Act.put, pA, pB, pC]
             refine lxEnd (fun W32 hK => ?_)
             (try go_wp2)
             go_roundw
             case rel => exact ⟨j + 1, (by first | rfl | go_num), (by omega), ⟨hK.old, (al1 (hK.all _ m2) (al1 (hK.all _ m3) (al1 (hK.all _ m4) (al1 (hK.all _ m5) aN))))⟩⟩
             case measure => simp [intOf]; omega
            · --
             iterate 3 (apply lxF0 (wantsg (j := 3) (d := 79) (b := true) rfl rfl rfl rfl); (· intro w' h0; go_simp; (try go_bits); exact ⟨rfl, rfl⟩); simp only [Act.put, pA, pB, pC])
             apply lxF0 (wantsg (j := 3) (d := 79) (b := true) rfl rfl rfl rfl); (· intro w' h0; have c_CEL30_0 : w'.cell? ⟨g30, i * 2, none⟩ = some (.int .u32 (xi.1 : Int)) := (by have q := (h0.get m1).2 0 _ rfl; simpa using q); have c_CEL30_1 : w'.cell? ⟨g30, i * 2 + 1, none⟩ = some (.int .i64 xi.2) := (by have q := (h0.get m1).2 1 _ rfl; simpa using q); go_simp; (try go_bits); exact ⟨rfl, rfl⟩); simp only [Act.put, pA, pB, pC]
             iterate 3 (apply lxF0 (wantsg (j := 3) (d := 79) (b := true) rfl rfl rfl rfl); (· intro w' h0; go_simp; (try go_bits); exact ⟨rfl, rfl⟩); simp only [Act.put, pA, pB, pC])
             apply lxF0 (wantsg (j := 3) (d := 79) (b := true) rfl rfl rfl rfl); (· intro w' h0; have c_CEL31_0 : w'.cell? ⟨g30, j * 2, none⟩ = some (.int .u32 (xj.1 : Int)) := (by have q := (h0.get m0).2 0 _ rfl; simpa using q); have c_CEL31_1 : w'.cell? ⟨g30, j * 2 + 1, none⟩ = some (.int .i64 xj.2) := (by have q := (h0.get m0).2 1 _ rfl; simpa using q); go_simp; (try go_bits); exact ⟨rfl, rfl⟩); simp only [Act.put, pA, pB, pC]
             obtain ⟨b9, hb9⟩ : ∃ b : Bool, RowKit.Hid ((cvr xi.1 xi.2 xj.1 xj.2) = b) := ⟨_, hid rfl⟩
             apply lxH1 (v := .bool b9) (wantsg (j := 3) (d := 79) (b := true) rfl rfl rfl rfl)
             · intro v1 hv1 w' h0 hK; go_simp; (try go_bits); refine (rcovers_any xi.1 xi.2 xj.1 xj.2 w' (by first | assumption | omega | exact W32.zero) (by first | assumption | omega | exact W32.zero)).mono ?_; rintro e w5 ⟨rfl, hb⟩; obtain rfl := hv1.out; exact ⟨_, rfl, (by rw [hb9.out]), hb⟩
             simp only [Act.put, pA, pB, pC]
             apply lxF0 (wants0 rfl); (· intro w' h0; go_simp; (try go_bits); exact ⟨rfl, rfl⟩); simp only [Act.put, pA, pB, pC]
             refine lxEnd (fun W33 hK => ?_)
             cases b9
             · --
              (try go_wp2)
              go_roundw
              case rel => exact ⟨j + 1, (by first | rfl | go_num), (by omega), ⟨hK.old, (al1 (hK.all _ m2) (al1 (hK.all _ m3) (al1 (hK.all _ m4) (al1 (hK.all _ m5) aN))))⟩⟩
              case measure => simp [intOf]; omega
             · --
              go_wp2
              try go_ret
              show Q0 (.returned (.bool false)) _
              exact (by obtain rfl := hQ0.out; exact ⟨(absurd (hnr.apart (by have q := exi.out; rwa [hag.out.1] at q) (by have q := exj.out; rwa [hag.out.1] at q) (by have q := hb8.out; simp at q; omega)) (by rw [show cvp xi xj = true from hb9.out]; decide)), hK.old⟩)
       · --
        go_upto_region 7 with (fail)
        refine wp_region_tx w hK ?_
        clear hK
        iterate 2 (apply txF (wants0 rfl); (· intro w' hK; go_simp; (try go_bits); exact ⟨rfl, rfl⟩); simp only [Act.put, pA, pB, pC])
        obtain ⟨b6, hb6⟩ : ∃ b : Bool, RowKit.Hid ((z1 == z2) = b) := ⟨_, hid rfl⟩
        apply txB b6 (wants0 rfl); (· intro w' hK; go_simp; (try go_bits); exact ⟨by have q := hb6.out; subst q; first | rfl | simp, rfl⟩); simp only [Act.put, pA, pB, pC]
        apply txF (wants0 rfl); (· intro w' hK; go_simp; (try go_bits); exact ⟨rfl, rfl⟩); simp only [Act.put, pA, pB, pC]
        refine txEnd (fun W34 hK => ?_)
        go_wp2
        try go_ret
        show Q0 (.returned (.bool b6)) _
        exact (by obtain rfl := hQ0.out; exact ⟨(ret_bool (by rw [← hb6.out, ← hz1.out, ← hz2.out, hpe.out.2]; simp)), hK.old⟩)
      · --
       iterate 2 (apply txN (j := 3) (d := 57) (b := false) rfl rfl rfl rfl; simp only [Act.put, pA, pB, pC])
       apply txF (wants0 rfl); (· intro w' hK; go_simp; (try go_bits); exact ⟨rfl, rfl⟩); simp only [Act.put, pA, pB, pC]
       refine txEnd (fun W35 hK => ?_)
       go_upto_region 7 with (fail)
       refine wp_region_tx w hK ?_
       clear hK
       iterate 2 (apply txF (wants0 rfl); (· intro w' hK; go_simp; (try go_bits); exact ⟨rfl, rfl⟩); simp only [Act.put, pA, pB, pC])
       obtain ⟨b5, hb5⟩ : ∃ b : Bool, RowKit.Hid ((z1 == z2) = b) := ⟨_, hid rfl⟩
       apply txB b5 (wants0 rfl); (· intro w' hK; go_simp; (try go_bits); exact ⟨by have q := hb5.out; subst q; first | rfl | simp, rfl⟩); simp only [Act.put, pA, pB, pC]
       apply txF (wants0 rfl); (· intro w' hK; go_simp; (try go_bits); exact ⟨rfl, rfl⟩); simp only [Act.put, pA, pB, pC]
       refine txEnd (fun W36 hK => ?_)
       go_wp2
       try go_ret
       show Q0 (.returned (.bool b5)) _
       exact (by obtain rfl := hQ0.out; exact ⟨(ret_bool (by rw [← hb5.out, ← hz1.out, ← hz2.out, hpe.out.2]; simp)), hK.old⟩)
     · --
      have hm0 := hid (show m = 0 from by have q := hnil.out; rw [q] at hm; simpa using hm)
      have hx0 := hid (show xs.length = 0 from by rw [hnil.out]; rfl)
      obtain ⟨q, hq⟩ : ∃ q : Option Addr, RowKit.Hid ((if c_h0 = m then some a0 else some (a0.add (m * 2))) = q) := ⟨_, hid rfl⟩
      have hdr : SlV pfxK w (.slice q (xs.length - m) (c_h0 - m)) (xs.drop m) := by rw [hnil.out, hm0.out]; exact SlV.nil
      have htk : SlV pfxK w (.slice (some a0) m c_h0) (xs.take m) := by rw [hnil.out, hm0.out]; exact SlV.nil
      go_upto_region 4 with (fail)
      have v_W5 := hK.old.size
      have b37 : ∀ g, ob sv4_p = some g → g < W5.heap.size := fun g e => ((hK.get m0).block e).2
      have hK0 := hK.subl (sC sZ)
      replace hK0 := hK0.add (F := fun w1 => W5.heap.size ≤ w1.heap.size) (fun _ hb => hb.size)
      refine wp_region_floatB (w) (W5.heap.size) _ _ [3, 0, 0, 0, 6, 0, 0, 0, 6, 2, 0, 0, 0, 0, 0] (by kernel_rfl) (by kernel_rfl) (by kernel_rfl) (by kernel_rfl) (fun _ h0 => h0.get m0) (KS.drew hK0) (KS.drew hK) ?_
      clear hK hK0
      apply lxA0 (.cells #[] 24) (wants0 rfl)
      · intro w' h0; go_simp; rfl
      intro R38
      simp only [mkOf, Act.put, pA, pB, pC]
      iterate 2 (apply lxF0 (wants0 rfl); (· intro w' h0; go_simp; (try go_bits); exact ⟨rfl, rfl⟩); simp only [Act.put, pA, pB, pC])
      apply lxF0 (v := .slice q (xs.length - m) (c_h0 - m)) (wants0 rfl); (· intro w' h0; go_simp; (try go_bits); first | exact ⟨rfl, rfl⟩ | (rw [hq.out]; exact ⟨rfl, rfl⟩) | (rw [show (if c_h0 = m then _ else _) = q from hq.out]; exact ⟨rfl, rfl⟩)); simp only [Act.put, pA, pB, pC]
      refine lxApp6 (K := pfxK) (t := 24) (xs := ([] : List Pf)) (ys := xs.drop m) (.tmp 37) (.tmp 40) (wants0 rfl) (by rfl) Tryd.underlying39 Tryd.underlying39 infoPf rfl (by rfl) (by rfl) (by simp [maxLen]; omega) (by simp; omega) (fun r => [fun w1 => OwV pfxK 24 w.heap.size w1 (.slice sv4_p (agF xs).length sv4_c) (agF xs), fun _ => ∀ g, ob r = some g → ob sv4_p ≠ some g])  (fun w' h0 hK => ⟨((OwV.empty (hK.get m0)).mono v_W5), (fun _ _ => .inl pfxK_free), (hdr.below hK.old)⟩) (fun w' h0 hK => (al1 (gwL (h0.get m0)) aN)) (fun w' r h0 hK hr => (al1 (gwO (hK.get m1) (apLit ((hK.get m0)).1 b37) (fun _ _ => .inl pfxK_free)) (al1 (gwC (apr hr (apLit ((hK.get m0)).1 b37) (fun g e => (((hK.get m1)).block e).2))) aN))) ?_
      intro sv39
      rw [(List.nil_append (xs.drop m))]
      simp only [Act.put, pA, pB, pC]
      iterate 2 (apply lxF0 (wants0 rfl); (· intro w' h0; go_simp; (try go_bits); exact ⟨rfl, rfl⟩); simp only [Act.put, pA, pB, pC])
      apply lxF0 (v := .slice (some a0) m c_h0) (wants0 rfl); (· intro w' h0; go_simp; (try go_bits); first | exact ⟨rfl, rfl⟩ | (rw [if_pos (by omega)]; exact ⟨rfl, rfl⟩) | (rw [if_pos (by have := hm0.out; omega)]; exact ⟨rfl, rfl⟩)); simp only [Act.put, pA, pB, pC]
      refine lxApp6 (K := pfxK) (t := 24) (xs := xs.drop m) (ys := xs.take m) (.tmp 41) (.tmp 44) (wants0 rfl) (by rfl) Tryd.underlying39 Tryd.underlying39 infoPf rfl (by rfl) (by rfl) (by simp [maxLen]; omega) (by simp; omega) (fun r => [fun w1 => OwV pfxK 24 w.heap.size w1 (.slice sv4_p (agF xs).length sv4_c) (agF xs), fun _ => ∀ g, ob sv39.p = some g → ob sv4_p ≠ some g, fun _ => ∀ g, ob r = some g → ob sv4_p ≠ some g])  (fun w' h0 hK => ⟨(hK.get m0), (fun _ _ => .inl pfxK_free), (htk.below hK.old)⟩) (fun w' h0 hK => (al1 (gwL (h0.get m0)) aN)) (fun w' r h0 hK hr => (al1 (gwO (hK.get m1) ((hK.get m2)) (fun _ _ => .inl pfxK_free)) (al1 (gwC (hK.get m2)) (al1 (gwC (apr hr ((hK.get m2)) (fun g e => (((hK.get m1)).block e).2))) aN)))) ?_
      intro sv41
      rw [(show xs.drop m ++ xs.take m = rotS xs m from rfl)]
      simp only [Act.put, pA, pB, pC]
      obtain ⟨z2, hz2⟩ : ∃ b : Int, RowKit.Hid ((agE (rotS xs m)) = b) := ⟨_, hid rfl⟩
      apply lxE1 (α := Sl) (fun sv => .tuple #[.slice sv.p (agF (rotS xs m)).length sv.c, .int .i64 z2]) (fun sv => [fun w1 => OwV pfxK 24 w.heap.size w1 (.slice sv.p (agF (rotS xs m)).length sv.c) (agF (rotS xs m)), fun _ => ∀ g, ob sv.p = some g → ob sv41.p ≠ some g, fun _ => ∀ g, ob sv.p = some g → ob sv4_p ≠ some g]) (wants0 rfl)
      · intro f1 l1 hl1 w' h0 hK; go_simp; (try go_bits); refine (aggregate_any (.slice sv41.p (rotS xs m).length sv41.c) (rotS xs m) w' (hK.get m0).slv (rotS_w hw) (by rw [rotS_len]; omega)).mono ?_; rintro e w5 ⟨y0, rfl, u0, hb⟩; obtain ⟨rfl, rfl⟩ := hl1.out; have u0_0 := u0; obtain ⟨p_u0, c_u0, rfl, n_u0⟩ := u0.sh; exact ⟨_, rfl, (⟨p_u0, 0, c_u0⟩ : Sl), (by rw [hz2.out]), hb, .cons (fun w2 h2 => (u0_0.mono hK.old.size).below h2) (.cons (fun _ _ => fun _ e e2 => absurd (u0_0.block e).1 (Nat.not_le.2 (((hK.get m0)).block e2).2)) (.cons (fun _ _ => fun _ e e2 => absurd (u0_0.block e).1 (Nat.not_le.2 (((hK.get m1)).block e2).2)) (Lasts.nil _)))⟩
      rintro ⟨sv43_p, sv43_l, sv43_c⟩
      simp only [Act.put, pA, pB, pC, pD, pE]
      iterate 5 (apply lxF0 (wants0 rfl); (· intro w' h0; go_simp; (try go_bits); exact ⟨rfl, rfl⟩); simp only [Act.put, pA, pB, pC])
      refine lxEnd (fun W46 hK => ?_)
      have n40 := hK.get m5
      have n42 := hK.get m6
      have n44 := hK.get m1
      have n45 := hK.get m2
      go_upto_region 5 with (fail)
      refine wp_region_tx w hK ?_
      clear hK
      apply txF (wants0 rfl); (· intro w' hK; go_simp; (try go_bits); exact ⟨rfl, rfl⟩); simp only [Act.put, pA, pB, pC]
      obtain ⟨z3, hz3⟩ : ∃ b : Int, RowKit.Hid ((agE (agF xs)) = b) := ⟨_, hid rfl⟩
      apply txE (α := Sl) (fun sv => .tuple #[.slice sv.p (agF (agF xs)).length sv.c, .int .i64 z3]) (fun sv => [fun w1 => OwV pfxK 24 w.heap.size w1 (.slice sv.p (agF (agF xs)).length sv.c) (agF (agF xs)), fun _ => ∀ g, ob sv.p = some g → ob sv43_p ≠ some g, fun _ => ∀ g, ob sv.p = some g → ob sv41.p ≠ some g, fun _ => ∀ g, ob sv.p = some g → ob sv4_p ≠ some g]) (wants0 rfl)
      · intro f1 l1 hl1 w' hK; go_simp; (try go_bits); refine (aggregate_any (.slice sv4_p (agF xs).length sv4_c) (agF xs) w' (hK.get m4).slv (agF_w hw) (by have := agF_len hw; omega)).mono ?_; rintro e w5 ⟨y0, rfl, u0, hb⟩; obtain ⟨rfl, rfl⟩ := hl1.out; have u0_0 := u0; obtain ⟨p_u0, c_u0, rfl, n_u0⟩ := u0.sh; exact ⟨_, rfl, (⟨p_u0, 0, c_u0⟩ : Sl), (by rw [hz3.out]), hb, .cons (fun w2 h2 => (u0_0.mono hK.old.size).below h2) (.cons (fun _ _ => fun _ e e2 => absurd (u0_0.block e).1 (Nat.not_le.2 (((hK.get m0)).block e2).2)) (.cons (fun _ _ => fun _ e e2 => absurd (u0_0.block e).1 (Nat.not_le.2 (((hK.get m3)).block e2).2)) (.cons (fun _ _ => fun _ e e2 => absurd (u0_0.block e).1 (Nat.not_le.2 (((hK.get m4)).block e2).2)) (Lasts.nil _))))⟩
      rintro ⟨sv47_p, sv47_l, sv47_c⟩
      simp only [Act.put, pA, pB, pC, pD, pE]
      refine Tx.know (Pr := ∀ g, ob sv47_p = some g → ob sv43_p ≠ some g) (fun w' hK => hK.get m1) (fun n48 => ?_)
      refine Tx.know (Pr := ∀ g, ob sv47_p = some g → ob sv41.p ≠ some g) (fun w' hK => hK.get m2) (fun n49 => ?_)
      refine Tx.know (Pr := ∀ g, ob sv47_p = some g → ob sv4_p ≠ some g) (fun w' hK => hK.get m3) (fun n50 => ?_)
      iterate 5 (apply txF (wants0 rfl); (· intro w' hK; go_simp; (try go_bits); exact ⟨rfl, rfl⟩); simp only [Act.put, pA, pB, pC])
      refine txEnd (fun W51 hK => ?_)
      have l1 := agF_len hw; have l2 := agF_len (rotS_w (k := m) hw); have l3 := agF_len (agF_w hw); rw [rotS_len] at l2; have hpe := hid (agF_perm (rotS_perm xs m))
      go_upto_region 6 with (fail)
      refine wp_region_tx w hK ?_
      clear hK
      iterate 2 (apply txF (wants0 rfl); (· intro w' hK; go_simp; (try go_bits); exact ⟨rfl, rfl⟩); simp only [Act.put, pA, pB, pC])
      obtain ⟨b4, hb4⟩ : ∃ b : Bool, RowKit.Hid ((z1 != z2) = b) := ⟨_, hid rfl⟩
      apply txB b4 (wants0 rfl); (· intro w' hK; go_simp; (try go_bits); exact ⟨by have q := hb4.out; subst q; first | rfl | simp, rfl⟩); simp only [Act.put, pA, pB, pC]
      apply txF (wants0 rfl); (· intro w' hK; go_simp; (try go_bits); exact ⟨rfl, rfl⟩); simp only [Act.put, pA, pB, pC]
      cases b4
      · --
       apply txF (wantsg (j := 3) (d := 57) (b := false) rfl rfl rfl rfl); (· intro w' hK; go_simp; (try go_bits); exact ⟨rfl, rfl⟩); simp only [Act.put, pA, pB, pC]
       obtain ⟨b5, hb5⟩ : ∃ b : Bool, RowKit.Hid ((z1 != 0) = b) := ⟨_, hid rfl⟩
       apply txB b5 (wantsg (j := 3) (d := 57) (b := false) rfl rfl rfl rfl); (· intro w' hK; go_simp; (try go_bits); exact ⟨by have q := hb5.out; subst q; first | rfl | simp, rfl⟩); simp only [Act.put, pA, pB, pC]
       apply txF (wants0 rfl); (· intro w' hK; go_simp; (try go_bits); exact ⟨rfl, rfl⟩); simp only [Act.put, pA, pB, pC]
       refine txEnd (fun W52 hK => ?_)
       cases b5
       · --
        have hok := okB_all (agE_zero (by have q := hb5.out; rw [← hz1.out] at q; simpa using q)) hw; have haw := agF_w hw; have hag := hid (ag_ok (okB_of hok)); have hag2 := hid (agF_again hok); have hnr := (agg_facts hok).1
        go_upto_region 8 with (fail)
        refine wp_region_tx w hK ?_
        clear hK
        apply txF (wants0 rfl); (· intro w' hK; go_simp; (try go_bits); exact ⟨rfl, rfl⟩); simp only [Act.put, pA, pB, pC]
        refine txEnd (fun W53 hK => ?_)
        go_wp2_with fail
        go_loopw [11] (fun s11 wl => ∃ (i : Nat), s11 = .int .i64 (i : Int) ∧ (i ≤ (agF xs).length) ∧ KS w [fun w1 => OwV pfxK 24 w.heap.size w1 (.slice sv47_p (agF (agF xs)).length sv47_c) (agF (agF xs)), fun w1 => OwV pfxK 24 w.heap.size w1 (.slice sv43_p (agF (rotS xs m)).length sv43_c) (agF (rotS xs m)), fun w1 => OwV pfxK 24 w.heap.size w1 (.slice sv41.p (rotS xs m).length sv41.c) (rotS xs m), fun w1 => OwV pfxK 24 w.heap.size w1 (.slice sv4_p (agF xs).length sv4_c) (agF xs)] wl) (fun s11 _ => (agF xs).length - (intOf s11).toNat)
        case atStart => exact ⟨0, rfl, (by omega), ⟨hK.old, (al1 (hK.all _ m0) (al1 (hK.all _ m4) (al1 (hK.all _ m7) (al1 (hK.all _ m8) aN))))⟩⟩
        case round =>
         clear hK
         obtain ⟨i, rfl, hi, hK⟩ := hrel
         generalize wr = W54 at hK ⊢
         go_upto_region 9 with (fail)
         refine wp_region_tx w hK ?_
         clear hK
         iterate 3 (apply txF (wants0 rfl); (· intro w' hK; go_simp; (try go_bits); exact ⟨rfl, rfl⟩); simp only [Act.put, pA, pB, pC])
         obtain ⟨b6, hb6⟩ : ∃ b : Bool, RowKit.Hid (decide (((i : Int)) < (((agF xs).length : Int))) = b) := ⟨_, hid rfl⟩
         apply txB b6 (wants0 rfl); (· intro w' hK; go_simp; (try go_bits); exact ⟨by have q := hb6.out; subst q; first | rfl | simp, rfl⟩); simp only [Act.put, pA, pB, pC]
         refine txEnd (fun W55 hK => ?_)
         cases b6
         · --
          have q_b6 : (((agF xs).length : Int)) ≤ ((i : Int)) := Int.not_lt.1 (of_decide_eq_false hb6.out)
          go_upto_region 16 with (fail)
          refine wp_region_tx w hK ?_
          clear hK
          apply txF (wants0 rfl); (· intro w' hK; go_simp; (try go_bits); exact ⟨rfl, rfl⟩); simp only [Act.put, pA, pB, pC]
          obtain ⟨b7, hb7⟩ : ∃ b : Bool, RowKit.Hid ((z3 == 0) = b) := ⟨_, hid rfl⟩
          apply txB b7 (wants0 rfl); (· intro w' hK; go_simp; (try go_bits); exact ⟨by have q := hb7.out; subst q; first | rfl | simp, rfl⟩); simp only [Act.put, pA, pB, pC]
          apply txF (wants0 rfl); (· intro w' hK; go_simp; (try go_bits); exact ⟨rfl, rfl⟩); simp only [Act.put, pA, pB, pC]
          cases b7
          · --
           iterate 3 (apply txN (j := 2) (d := 92) (b := true) rfl rfl rfl rfl; simp only [Act.put, pA, pB, pC])
           iterate 2 (apply txF (wants0 rfl); (· intro w' hK; go_simp; (try go_bits); exact ⟨rfl, rfl⟩); simp only [Act.put, pA, pB, pC])
           iterate 3 (apply txN (j := 7) (d := 97) (b := true) rfl rfl rfl rfl; simp only [Act.put, pA, pB, pC])
           iterate 2 (apply txF (wants0 rfl); (· intro w' hK; go_simp; (try go_bits); exact ⟨rfl, rfl⟩); simp only [Act.put, pA, pB, pC])
           refine txEnd (fun W56 hK => ?_)
           go_wp2
           try go_ret
           show Q0 (.returned (.bool false)) _
           exact (by obtain rfl := hQ0.out; exact ⟨(ret_bool (by have f1 := hpe.out.1; have f3 := hag2.out.1; have f4 := hag2.out.2; have f0 := hag.out.1; have e3 := hz3.out; rw [f0, f4] at e3; have e_b7 := hb7.out; rw [f1, f0] at *; simp_all)), hK.old⟩)
          · --
           iterate 2 (apply txF (wantsg (j := 2) (d := 92) (b := true) rfl rfl rfl rfl); (· intro w' hK; go_simp; (try go_bits); exact ⟨rfl, rfl⟩); simp only [Act.put, pA, pB, pC])
           obtain ⟨b8, hb8⟩ : ∃ b : Bool, RowKit.Hid ((decide ((agF xs) = (agF (rotS xs m)))) = b) := ⟨_, hid rfl⟩
           apply txH (v := .bool b8) (wantsg (j := 2) (d := 92) (b := true) rfl rfl rfl rfl)
           · intro v1 hv1 w' hK; go_simp; (try go_bits); refine (same_any (.slice sv4_p (agF xs).length sv4_c) (.slice sv43_p (agF (rotS xs m)).length sv43_c) (agF xs) (agF (rotS xs m)) w' (hK.get m3).slv (hK.get m1).slv (by omega) (by omega)).mono ?_; rintro e w5 ⟨rfl, hb⟩; obtain rfl := hv1.out; exact ⟨_, rfl, (by rw [hb8.out]), hb⟩
           simp only [Act.put, pA, pB, pC]
           iterate 2 (apply txF (wants0 rfl); (· intro w' hK; go_simp; (try go_bits); exact ⟨rfl, rfl⟩); simp only [Act.put, pA, pB, pC])
           cases b8
           · --
            iterate 3 (apply txN (j := 7) (d := 97) (b := true) rfl rfl rfl rfl; simp only [Act.put, pA, pB, pC])
            iterate 2 (apply txF (wants0 rfl); (· intro w' hK; go_simp; (try go_bits); exact ⟨rfl, rfl⟩); simp only [Act.put, pA, pB, pC])
            refine txEnd (fun W57 hK => ?_)
            go_wp2
            try go_ret
            show Q0 (.returned (.bool false)) _
            exact (by obtain rfl := hQ0.out; exact ⟨(ret_bool (by have f1 := hpe.out.1; have f3 := hag2.out.1; have f4 := hag2.out.2; have f0 := hag.out.1; have e3 := hz3.out; rw [f0, f4] at e3; have e_b7 := hb7.out; have e_b8 := hb8.out; rw [f1, f0] at *; simp_all)), hK.old⟩)
           · --
            iterate 2 (apply txF (wantsg (j := 7) (d := 97) (b := true) rfl rfl rfl rfl); (· intro w' hK; go_simp; (try go_bits); exact ⟨rfl, rfl⟩); simp only [Act.put, pA, pB, pC])
            obtain ⟨b9, hb9⟩ : ∃ b : Bool, RowKit.Hid ((decide ((agF xs) = (agF (agF xs)))) = b) := ⟨_, hid rfl⟩
            apply txH (v := .bool b9) (wantsg (j := 7) (d := 97) (b := true) rfl rfl rfl rfl)
            · intro v1 hv1 w' hK; go_simp; (try go_bits); refine (same_any (.slice sv4_p (agF xs).length sv4_c) (.slice sv47_p (agF (agF xs)).length sv47_c) (agF xs) (agF (agF xs)) w' (hK.get m3).slv (hK.get m0).slv (by omega) (by omega)).mono ?_; rintro e w5 ⟨rfl, hb⟩; obtain rfl := hv1.out; exact ⟨_, rfl, (by rw [hb9.out]), hb⟩
            simp only [Act.put, pA, pB, pC]
            iterate 2 (apply txF (wants0 rfl); (· intro w' hK; go_simp; (try go_bits); exact ⟨rfl, rfl⟩); simp only [Act.put, pA, pB, pC])
            refine txEnd (fun W58 hK => ?_)
            go_wp2
            try go_ret
            show Q0 (.returned (.bool b9)) _
            exact (by obtain rfl := hQ0.out; exact ⟨(ret_bool (by have f1 := hpe.out.1; have f3 := hag2.out.1; have f4 := hag2.out.2; have f0 := hag.out.1; have e3 := hz3.out; rw [f0, f4] at e3; have e_b7 := hb7.out; have e_b8 := hb8.out; have e_b9 := hb9.out; rw [f1, f0] at *; simp_all)), hK.old⟩)
         · --
          have q_b6 : ((i : Int)) < (((agF xs).length : Int)) := of_decide_eq_true hb6.out
          go_wp2_with fail
          go_loopw [12] (fun s12 wl => ∃ (j : Nat), s12 = .int .i64 (j : Int) ∧ (j ≤ (agF xs).length) ∧ KS w [fun w1 => OwV pfxK 24 w.heap.size w1 (.slice sv47_p (agF (agF xs)).length sv47_c) (agF (agF xs)), fun w1 => OwV pfxK 24 w.heap.size w1 (.slice sv43_p (agF (rotS xs m)).length sv43_c) (agF (rotS xs m)), fun w1 => OwV pfxK 24 w.heap.size w1 (.slice sv41.p (rotS xs m).length sv41.c) (rotS xs m), fun w1 => OwV pfxK 24 w.heap.size w1 (.slice sv4_p (agF xs).length sv4_c) (agF xs)] wl) (fun s12 _ => (agF xs).length - (intOf s12).toNat)
          case atStart => exact ⟨0, rfl, (by omega), ⟨hK.old, (al1 (hK.all _ m0) (al1 (hK.all _ m1) (al1 (hK.all _ m2) (al1 (hK.all _ m3) aN))))⟩⟩
          case round =>
           clear hK
           obtain ⟨j, rfl, hj, hK⟩ := hrel
           generalize wr = W59 at hK ⊢
           go_upto_region 12 with (fail)
           refine wp_region_tx w hK ?_
           clear hK
           iterate 3 (apply txF (wants0 rfl); (· intro w' hK; go_simp; (try go_bits); exact ⟨rfl, rfl⟩); simp only [Act.put, pA, pB, pC])
           obtain ⟨b7, hb7⟩ : ∃ b : Bool, RowKit.Hid (decide (((j : Int)) < (((agF xs).length : Int))) = b) := ⟨_, hid rfl⟩
           apply txB b7 (wants0 rfl); (· intro w' hK; go_simp; (try go_bits); exact ⟨by have q := hb7.out; subst q; first | rfl | simp, rfl⟩); simp only [Act.put, pA, pB, pC]
           refine txEnd (fun W60 hK => ?_)
           cases b7
           · --
            have q_b7 : (((agF xs).length : Int)) ≤ ((j : Int)) := Int.not_lt.1 (of_decide_eq_false hb7.out)
            (try go_wp2)
            go_roundw
            case rel => exact ⟨i + 1, (by first | rfl | go_num), (by omega), ⟨hK.old, (al1 (hK.all _ m0) (al1 (hK.all _ m1) (al1 (hK.all _ m2) (al1 (hK.all _ m3) aN))))⟩⟩
            case measure => simp [intOf]; omega
           · --
            have q_b7 : ((j : Int)) < (((agF xs).length : Int)) := of_decide_eq_true hb7.out
            obtain ⟨xi, exi⟩ : ∃ x, RowKit.Hid ((agF xs)[i]? = some x) := ⟨_, hid (List.getElem?_eq_getElem (show i < (agF xs).length from (by omega)))⟩
            have i61 : i < (agF xs).length := by have q : i < (agF xs).length := (by omega); first | exact q | (simp at q; omega) | omega
            obtain ⟨g61, o61, q61, l61⟩ := ((hK.get m3).slv).ptr exi.out
            obtain rfl : o61 = 0 := ((hK.get m3)).off q61
            subst q61
            replace hK := KS.atP hK (hK.get m3).slv exi.out
            obtain ⟨xj, exj⟩ : ∃ x, RowKit.Hid ((agF xs)[j]? = some x) := ⟨_, hid (List.getElem?_eq_getElem (show j < (agF xs).length from (by omega)))⟩
            have i62 : j < (agF xs).length := by have q : j < (agF xs).length := (by omega); first | exact q | (simp at q; omega) | omega
            replace hK := KS.atP hK (hK.get m4).slv exj.out
            have wxi := haw _ (List.mem_of_getElem? exi.out); have wxj := haw _ (List.mem_of_getElem? exj.out)
            go_upto_region 14 with (fail)
            have hK0 := hK
            refine wp_region_float0 (w) _ _ [0, 0, 0, 0, 0, 0, 0, 0, 0, 0, 0, 0, 1, 0] (by kernel_rfl) (by kernel_rfl) (by kernel_rfl) (by kernel_rfl) (KS.drew hK0) (KS.drew hK) ?_
            clear hK hK0
            iterate 2 (apply lxF0 (wants0 rfl); (· intro w' h0; go_simp; (try go_bits); exact ⟨rfl, rfl⟩); simp only [Act.put, pA, pB, pC])
            obtain ⟨b8, hb8⟩ : ∃ b : Bool, RowKit.Hid ((((i : Int)) != ((j : Int))) = b) := ⟨_, hid rfl⟩
            apply lxB0 b8 (wants0 rfl); (· intro w' h0; go_simp; (try go_bits); exact ⟨by have q := hb8.out; subst q; first | rfl | simp, rfl⟩); simp only [Act.put, pA, pB, pC]
            apply lxF0 (wants0 rfl); (· intro w' h0; go_simp; (try go_bits); exact ⟨rfl, rfl⟩); simp only [Act.put, pA, pB, pC]
            cases b8
            · --
             iterate 9 (apply lxN (j := 3) (d := 79) (b := true) rfl rfl rfl rfl; simp only [Act.put, pA, pB, pC])
             apply lxF0 (wants0 rfl); (· intro w' h0; go_simp; (try go_bits); exact ⟨rfl, rfl⟩); simp only [Act.put, pA, pB, pC]
             refine lxEnd (fun W63 hK => ?_)
             (try go_wp2)
             go_roundw
             case rel => exact ⟨j + 1, (by first | rfl | go_num), (by omega), ⟨hK.old, (al1 (hK.all _ m2) (al1 (hK.all _ m3) (al1 (hK.all _ m4) (al1 (hK.all _ m5) aN))))⟩⟩
             case measure => simp [intOf]; omega
            · --
             iterate 3 (apply lxF0 (wantsg (j := 3) (d := 79) (b := true) rfl rfl rfl rfl); (· intro w' h0; go_simp; (try go_bits); exact ⟨rfl, rfl⟩); simp only [Act.put, pA, pB, pC])
             apply lxF0 (wantsg (j := 3) (d := 79) (b := true) rfl rfl rfl rfl); (· intro w' h0; have c_CEL61_0 : w'.cell? ⟨g61, i * 2, none⟩ = some (.int .u32 (xi.1 : Int)) := (by have q := (h0.get m1).2 0 _ rfl; simpa using q); have c_CEL61_1 : w'.cell? ⟨g61, i * 2 + 1, none⟩ = some (.int .i64 xi.2) := (by have q := (h0.get m1).2 1 _ rfl; simpa using q); go_simp; (try go_bits); exact ⟨rfl, rfl⟩); simp only [Act.put, pA, pB, pC]
             iterate 3 (apply lxF0 (wantsg (j := 3) (d := 79) (b := true) rfl rfl rfl rfl); (· intro w' h0; go_simp; (try go_bits); exact ⟨rfl, rfl⟩); simp only [Act.put, pA, pB, pC])
             apply lxF0 (wantsg (j := 3) (d := 79) (b := true) rfl rfl rfl rfl); (· intro w' h0; have c_CEL62_0 : w'.cell? ⟨g61, j * 2, none⟩ = some (.int .u32 (xj.1 : Int)) := (by have q := (h0.get m0).2 0 _ rfl; simpa using q); have c_CEL62_1 : w'.cell? ⟨g61, j * 2 + 1, none⟩ = some (.int .i64 xj.2) := (by have q := (h0.get m0).2 1 _ rfl; simpa using q); go_simp; (try go_bits); exact ⟨rfl, rfl⟩); simp only [Act.put, pA, pB, pC]
             obtain ⟨b9, hb9⟩ : ∃ b : Bool, RowKit.Hid ((cvr xi.1 xi.2 xj.1 xj.2) = b) := ⟨_, hid rfl⟩
             apply lxH1 (v := .bool b9) (wantsg (j := 3) (d := 79) (b := true) rfl rfl rfl rfl)
             · intro v1 hv1 w' h0 hK; go_simp; (try go_bits); refine (rcovers_any xi.1 xi.2 xj.1 xj.2 w' (by first | assumption | omega | exact W32.zero) (by first | assumption | omega | exact W32.zero)).mono ?_; rintro e w5 ⟨rfl, hb⟩; obtain rfl := hv1.out; exact ⟨_, rfl, (by rw [hb9.out]), hb⟩
             simp only [Act.put, pA, pB, pC]
             apply lxF0 (wants0 rfl); (· intro w' h0; go_simp; (try go_bits); exact ⟨rfl, rfl⟩); simp only [Act.put, pA, pB, pC]
             refine lxEnd (fun W64 hK => ?_)
             cases b9
             · --
              (try go_wp2)
              go_roundw
              case rel => exact ⟨j + 1, (by first | rfl | go_num), (by omega), ⟨hK.old, (al1 (hK.all _ m2) (al1 (hK.all _ m3) (al1 (hK.all _ m4) (al1 (hK.all _ m5) aN))))⟩⟩
              case measure => simp [intOf]; omega
             · --
              go_wp2
              try go_ret
              show Q0 (.returned (.bool false)) _
              exact (by obtain rfl := hQ0.out; exact ⟨(absurd (hnr.apart (by have q := exi.out; rwa [hag.out.1] at q) (by have q := exj.out; rwa [hag.out.1] at q) (by have q := hb8.out; simp at q; omega)) (by rw [show cvp xi xj = true from hb9.out]; decide)), hK.old⟩)
       · --
        go_upto_region 7 with (fail)
        refine wp_region_tx w hK ?_
        clear hK
        iterate 2 (apply txF (wants0 rfl); (· intro w' hK; go_simp; (try go_bits); exact ⟨rfl, rfl⟩); simp only [Act.put, pA, pB, pC])
        obtain ⟨b6, hb6⟩ : ∃ b : Bool, RowKit.Hid ((z1 == z2) = b) := ⟨_, hid rfl⟩
        apply txB b6 (wants0 rfl); (· intro w' hK; go_simp; (try go_bits); exact ⟨by have q := hb6.out; subst q; first | rfl | simp, rfl⟩); simp only [Act.put, pA, pB, pC]
        apply txF (wants0 rfl); (· intro w' hK; go_simp; (try go_bits); exact ⟨rfl, rfl⟩); simp only [Act.put, pA, pB, pC]
        refine txEnd (fun W65 hK => ?_)
        go_wp2
        try go_ret
        show Q0 (.returned (.bool b6)) _
        exact (by obtain rfl := hQ0.out; exact ⟨(ret_bool (by rw [← hb6.out, ← hz1.out, ← hz2.out, hpe.out.2]; simp)), hK.old⟩)
      · --
       iterate 2 (apply txN (j := 3) (d := 57) (b := false) rfl rfl rfl rfl; simp only [Act.put, pA, pB, pC])
       apply txF (wants0 rfl); (· intro w' hK; go_simp; (try go_bits); exact ⟨rfl, rfl⟩); simp only [Act.put, pA, pB, pC]
       refine txEnd (fun W66 hK => ?_)
       go_upto_region 7 with (fail)
       refine wp_region_tx w hK ?_
       clear hK
       iterate 2 (apply txF (wants0 rfl); (· intro w' hK; go_simp; (try go_bits); exact ⟨rfl, rfl⟩); simp only [Act.put, pA, pB, pC])
       obtain ⟨b5, hb5⟩ : ∃ b : Bool, RowKit.Hid ((z1 == z2) = b) := ⟨_, hid rfl⟩
       apply txB b5 (wants0 rfl); (· intro w' hK; go_simp; (try go_bits); exact ⟨by have q := hb5.out; subst q; first | rfl | simp, rfl⟩); simp only [Act.put, pA, pB, pC]
       apply txF (wants0 rfl); (· intro w' hK; go_simp; (try go_bits); exact ⟨rfl, rfl⟩); simp only [Act.put, pA, pB, pC]
       refine txEnd (fun W67 hK => ?_)
       go_wp2
       try go_ret
       show Q0 (.returned (.bool b5)) _
       exact (by obtain rfl := hQ0.out; exact ⟨(ret_bool (by rw [← hb5.out, ← hz1.out, ← hz2.out, hpe.out.2]; simp)), hK.old⟩)
     · --
      have hq1 : (m : Int) ≤ (xs.length : Int) := by omega
      obtain ⟨q, hq⟩ : ∃ q : Option Addr, RowKit.Hid ((if c_h0 = m then some ⟨g0, o0, none⟩ else some ⟨g0, o0 + m * 2, none⟩) = q) := ⟨_, hid rfl⟩
      have hdr : SlV pfxK w (.slice q (xs.length - m) (c_h0 - m)) (xs.drop m) := by have h : SlV pfxK w (.slice (if c_h0 = m then some ⟨g0, o0, none⟩ else some ⟨g0, o0 + m * 2, none⟩) (xs.length - m) (c_h0 - m)) (xs.drop m) := h0_0.dropIf hm (by omega); rw [hq.out] at h; exact h
      have htk : SlV pfxK w (.slice (some ⟨g0, o0, none⟩) m c_h0) (xs.take m) := h0_0.take hm
      go_upto_region 4 with (fail)
      have v_W5 := hK.old.size
      have b68 : ∀ g, ob sv4_p = some g → g < W5.heap.size := fun g e => ((hK.get m0).block e).2
      have hK0 := hK.subl (sC sZ)
      replace hK0 := hK0.add (F := fun w1 => W5.heap.size ≤ w1.heap.size) (fun _ hb => hb.size)
      refine wp_region_floatB (w) (W5.heap.size) _ _ [3, 0, 0, 0, 6, 0, 0, 0, 6, 2, 0, 0, 0, 0, 0] (by kernel_rfl) (by kernel_rfl) (by kernel_rfl) (by kernel_rfl) (fun _ h0 => h0.get m0) (KS.drew hK0) (KS.drew hK) ?_
      clear hK hK0
      apply lxA0 (.cells #[] 24) (wants0 rfl)
      · intro w' h0; go_simp; rfl
      intro R69
      simp only [mkOf, Act.put, pA, pB, pC]
      iterate 2 (apply lxF0 (wants0 rfl); (· intro w' h0; go_simp; (try go_bits); exact ⟨rfl, rfl⟩); simp only [Act.put, pA, pB, pC])
      apply lxF0 (v := .slice q (xs.length - m) (c_h0 - m)) (wants0 rfl); (· intro w' h0; go_simp; (try go_bits); first | exact ⟨rfl, rfl⟩ | (rw [hq.out]; exact ⟨rfl, rfl⟩) | (rw [show (if c_h0 = m then _ else _) = q from hq.out]; exact ⟨rfl, rfl⟩)); simp only [Act.put, pA, pB, pC]
      refine lxApp6 (K := pfxK) (t := 24) (xs := ([] : List Pf)) (ys := xs.drop m) (.tmp 37) (.tmp 40) (wants0 rfl) (by rfl) Tryd.underlying39 Tryd.underlying39 infoPf rfl (by rfl) (by rfl) (by simp [maxLen]; omega) (by simp; omega) (fun r => [fun w1 => OwV pfxK 24 w.heap.size w1 (.slice sv4_p (agF xs).length sv4_c) (agF xs), fun _ => ∀ g, ob r = some g → ob sv4_p ≠ some g])  (fun w' h0 hK => ⟨((OwV.empty (hK.get m0)).mono v_W5), (fun _ _ => .inl pfxK_free), (hdr.below hK.old)⟩) (fun w' h0 hK => (al1 (gwL (h0.get m0)) aN)) (fun w' r h0 hK hr => (al1 (gwO (hK.get m1) (apLit ((hK.get m0)).1 b68) (fun _ _ => .inl pfxK_free)) (al1 (gwC (apr hr (apLit ((hK.get m0)).1 b68) (fun g e => (((hK.get m1)).block e).2))) aN))) ?_
      intro sv70
      rw [(List.nil_append (xs.drop m))]
      simp only [Act.put, pA, pB, pC]
      iterate 2 (apply lxF0 (wants0 rfl); (· intro w' h0; go_simp; (try go_bits); exact ⟨rfl, rfl⟩); simp only [Act.put, pA, pB, pC])
      apply lxF0 (v := .slice (some ⟨g0, o0, none⟩) m c_h0) (wants0 rfl); (· intro w' h0; go_simp; (try go_bits); first | exact ⟨rfl, rfl⟩ | (rw [if_pos (by omega)]; exact ⟨rfl, rfl⟩) | (rw [if_pos (by have := hm0.out; omega)]; exact ⟨rfl, rfl⟩)); simp only [Act.put, pA, pB, pC]
      refine lxApp6 (K := pfxK) (t := 24) (xs := xs.drop m) (ys := xs.take m) (.tmp 41) (.tmp 44) (wants0 rfl) (by rfl) Tryd.underlying39 Tryd.underlying39 infoPf rfl (by rfl) (by rfl) (by simp [maxLen]; omega) (by simp; omega) (fun r => [fun w1 => OwV pfxK 24 w.heap.size w1 (.slice sv4_p (agF xs).length sv4_c) (agF xs), fun _ => ∀ g, ob sv70.p = some g → ob sv4_p ≠ some g, fun _ => ∀ g, ob r = some g → ob sv4_p ≠ some g])  (fun w' h0 hK => ⟨(hK.get m0), (fun _ _ => .inl pfxK_free), (htk.below hK.old)⟩) (fun w' h0 hK => (al1 (gwL (h0.get m0)) aN)) (fun w' r h0 hK hr => (al1 (gwO (hK.get m1) ((hK.get m2)) (fun _ _ => .inl pfxK_free)) (al1 (gwC (hK.get m2)) (al1 (gwC (apr hr ((hK.get m2)) (fun g e => (((hK.get m1)).block e).2))) aN)))) ?_
      intro sv72
      rw [(show xs.drop m ++ xs.take m = rotS xs m from rfl)]
      simp only [Act.put, pA, pB, pC]
      obtain ⟨z2, hz2⟩ : ∃ b : Int, RowKit.Hid ((agE (rotS xs m)) = b) := ⟨_, hid rfl⟩
      apply lxE1 (α := Sl) (fun sv => .tuple #[.slice sv.p (agF (rotS xs m)).length sv.c, .int .i64 z2]) (fun sv => [fun w1 => OwV pfxK 24 w.heap.size w1 (.slice sv.p (agF (rotS xs m)).length sv.c) (agF (rotS xs m)), fun _ => ∀ g, ob sv.p = some g → ob sv72.p ≠ some g, fun _ => ∀ g, ob sv.p = some g → ob sv4_p ≠ some g]) (wants0 rfl)
      · intro f1 l1 hl1 w' h0 hK; go_simp; (try go_bits); refine (aggregate_any (.slice sv72.p (rotS xs m).length sv72.c) (rotS xs m) w' (hK.get m0).slv (rotS_w hw) (by rw [rotS_len]; omega)).mono ?_; rintro e w5 ⟨y0, rfl, u0, hb⟩; obtain ⟨rfl, rfl⟩ := hl1.out; have u0_0 := u0; obtain ⟨p_u0, c_u0, rfl, n_u0⟩ := u0.sh; exact ⟨_, rfl, (⟨p_u0, 0, c_u0⟩ : Sl), (by rw [hz2.out]), hb, .cons (fun w2 h2 => (u0_0.mono hK.old.size).below h2) (.cons (fun _ _ => fun _ e e2 => absurd (u0_0.block e).1 (Nat.not_le.2 (((hK.get m0)).block e2).2)) (.cons (fun _ _ => fun _ e e2 => absurd (u0_0.block e).1 (Nat.not_le.2 (((hK.get m1)).block e2).2)) (Lasts.nil _)))⟩
      rintro ⟨sv74_p, sv74_l, sv74_c⟩
      simp only [Act.put, pA, pB, pC, pD, pE]
      iterate 5 (apply lxF0 (wants0 rfl); (· intro w' h0; go_simp; (try go_bits); exact ⟨rfl, rfl⟩); simp only [Act.put, pA, pB, pC])
      refine lxEnd (fun W77 hK => ?_)
      have n71 := hK.get m5
      have n73 := hK.get m6
      have n75 := hK.get m1
      have n76 := hK.get m2
      go_upto_region 5 with (fail)
      refine wp_region_tx w hK ?_
      clear hK
      apply txF (wants0 rfl); (· intro w' hK; go_simp; (try go_bits); exact ⟨rfl, rfl⟩); simp only [Act.put, pA, pB, pC]
      obtain ⟨z3, hz3⟩ : ∃ b : Int, RowKit.Hid ((agE (agF xs)) = b) := ⟨_, hid rfl⟩
      apply txE (α := Sl) (fun sv => .tuple #[.slice sv.p (agF (agF xs)).length sv.c, .int .i64 z3]) (fun sv => [fun w1 => OwV pfxK 24 w.heap.size w1 (.slice sv.p (agF (agF xs)).length sv.c) (agF (agF xs)), fun _ => ∀ g, ob sv.p = some g → ob sv74_p ≠ some g, fun _ => ∀ g, ob sv.p = some g → ob sv72.p ≠ some g, fun _ => ∀ g, ob sv.p = some g → ob sv4_p ≠ some g]) (wants0 rfl)
      · intro f1 l1 hl1 w' hK; go_simp; (try go_bits); refine (aggregate_any (.slice sv4_p (agF xs).length sv4_c) (agF xs) w' (hK.get m4).slv (agF_w hw) (by have := agF_len hw; omega)).mono ?_; rintro e w5 ⟨y0, rfl, u0, hb⟩; obtain ⟨rfl, rfl⟩ := hl1.out; have u0_0 := u0; obtain ⟨p_u0, c_u0, rfl, n_u0⟩ := u0.sh; exact ⟨_, rfl, (⟨p_u0, 0, c_u0⟩ : Sl), (by rw [hz3.out]), hb, .cons (fun w2 h2 => (u0_0.mono hK.old.size).below h2) (.cons (fun _ _ => fun _ e e2 => absurd (u0_0.block e).1 (Nat.not_le.2 (((hK.get m0)).block e2).2)) (.cons (fun _ _ => fun _ e e2 => absurd (u0_0.block e).1 (Nat.not_le.2 (((hK.get m3)).block e2).2)) (.cons (fun _ _ => fun _ e e2 => absurd (u0_0.block e).1 (Nat.not_le.2 (((hK.get m4)).block e2).2)) (Lasts.nil _))))⟩
      rintro ⟨sv78_p, sv78_l, sv78_c⟩
      simp only [Act.put, pA, pB, pC, pD, pE]
      refine Tx.know (Pr := ∀ g, ob sv78_p = some g → ob sv74_p ≠ some g) (fun w' hK => hK.get m1) (fun n79 => ?_)
      refine Tx.know (Pr := ∀ g, ob sv78_p = some g → ob sv72.p ≠ some g) (fun w' hK => hK.get m2) (fun n80 => ?_)
      refine Tx.know (Pr := ∀ g, ob sv78_p = some g → ob sv4_p ≠ some g) (fun w' hK => hK.get m3) (fun n81 => ?_)
      iterate 5 (apply txF (wants0 rfl); (· intro w' hK; go_simp; (try go_bits); exact ⟨rfl, rfl⟩); simp only [Act.put, pA, pB, pC])
      refine txEnd (fun W82 hK => ?_)
      have l1 := agF_len hw; have l2 := agF_len (rotS_w (k := m) hw); have l3 := agF_len (agF_w hw); rw [rotS_len] at l2; have hpe := hid (agF_perm (rotS_perm xs m))
      go_upto_region 6 with (fail)
      refine wp_region_tx w hK ?_
      clear hK
      iterate 2 (apply txF (wants0 rfl); (· intro w' hK; go_simp; (try go_bits); exact ⟨rfl, rfl⟩); simp only [Act.put, pA, pB, pC])
      obtain ⟨b4, hb4⟩ : ∃ b : Bool, RowKit.Hid ((z1 != z2) = b) := ⟨_, hid rfl⟩
      apply txB b4 (wants0 rfl); (· intro w' hK; go_simp; (try go_bits); exact ⟨by have q := hb4.out; subst q; first | rfl | simp, rfl⟩); simp only [Act.put, pA, pB, pC]
      apply txF (wants0 rfl); (· intro w' hK; go_simp; (try go_bits); exact ⟨rfl, rfl⟩); simp only [Act.put, pA, pB, pC]
      cases b4
      · --
       apply txF (wantsg (j := 3) (d := 57) (b := false) rfl rfl rfl rfl); (· intro w' hK; go_simp; (try go_bits); exact ⟨rfl, rfl⟩); simp only [Act.put, pA, pB, pC]
       obtain ⟨b5, hb5⟩ : ∃ b : Bool, RowKit.Hid ((z1 != 0) = b) := ⟨_, hid rfl⟩
       apply txB b5 (wantsg (j := 3) (d := 57) (b := false) rfl rfl rfl rfl); (· intro w' hK; go_simp; (try go_bits); exact ⟨by have q := hb5.out; subst q; first | rfl | simp, rfl⟩); simp only [Act.put, pA, pB, pC]
       apply txF (wants0 rfl); (· intro w' hK; go_simp; (try go_bits); exact ⟨rfl, rfl⟩); simp only [Act.put, pA, pB, pC]
       refine txEnd (fun W83 hK => ?_)
       cases b5
       · --
        have hok := okB_all (agE_zero (by have q := hb5.out; rw [← hz1.out] at q; simpa using q)) hw; have haw := agF_w hw; have hag := hid (ag_ok (okB_of hok)); have hag2 := hid (agF_again hok); have hnr := (agg_facts hok).1
        go_upto_region 8 with (fail)
        refine wp_region_tx w hK ?_
        clear hK
        apply txF (wants0 rfl); (· intro w' hK; go_simp; (try go_bits); exact ⟨rfl, rfl⟩); simp only [Act.put, pA, pB, pC]
        refine txEnd (fun W84 hK => ?_)
        go_wp2_with fail
        go_loopw [11] (fun s11 wl => ∃ (i : Nat), s11 = .int .i64 (i : Int) ∧ (i ≤ (agF xs).length) ∧ KS w [fun w1 => OwV pfxK 24 w.heap.size w1 (.slice sv78_p (agF (agF xs)).length sv78_c) (agF (agF xs)), fun w1 => OwV pfxK 24 w.heap.size w1 (.slice sv74_p (agF (rotS xs m)).length sv74_c) (agF (rotS xs m)), fun w1 => OwV pfxK 24 w.heap.size w1 (.slice sv72.p (rotS xs m).length sv72.c) (rotS xs m), fun w1 => OwV pfxK 24 w.heap.size w1 (.slice sv4_p (agF xs).length sv4_c) (agF xs)] wl) (fun s11 _ => (agF xs).length - (intOf s11).toNat)
        case atStart => exact ⟨0, rfl, (by omega), ⟨hK.old, (al1 (hK.all _ m0) (al1 (hK.all _ m4) (al1 (hK.all _ m7) (al1 (hK.all _ m8) aN))))⟩⟩
        case round =>
         clear hK
         obtain ⟨i, rfl, hi, hK⟩ := hrel
         generalize wr = W85 at hK ⊢
         go_upto_region 9 with (fail)
         refine wp_region_tx w hK ?_
         clear hK
         iterate 3 (apply txF (wants0 rfl); (· intro w' hK; go_simp; (try go_bits); exact ⟨rfl, rfl⟩); simp only [Act.put, pA, pB, pC])
         obtain ⟨b6, hb6⟩ : ∃ b : Bool, RowKit.Hid (decide (((i : Int)) < (((agF xs).length : Int))) = b) := ⟨_, hid rfl⟩
         apply txB b6 (wants0 rfl); (· intro w' hK; go_simp; (try go_bits); exact ⟨by have q := hb6.out; subst q; first | rfl | simp, rfl⟩); simp only [Act.put, pA, pB, pC]
         refine txEnd (fun W86 hK => ?_)
         cases b6
         · --
          have q_b6 : (((agF xs).length : Int)) ≤ ((i : Int)) := Int.not_lt.1 (of_decide_eq_false hb6.out)
          go_upto_region 16 with (fail)
          refine wp_region_tx w hK ?_
          clear hK
          apply txF (wants0 rfl); (· intro w' hK; go_simp; (try go_bits); exact ⟨rfl, rfl⟩); simp only [Act.put, pA, pB, pC]
          obtain ⟨b7, hb7⟩ : ∃ b : Bool, RowKit.Hid ((z3 == 0) = b) := ⟨_, hid rfl⟩
          apply txB b7 (wants0 rfl); (· intro w' hK; go_simp; (try go_bits); exact ⟨by have q := hb7.out; subst q; first | rfl | simp, rfl⟩); simp only [Act.put, pA, pB, pC]
          apply txF (wants0 rfl); (· intro w' hK; go_simp; (try go_bits); exact ⟨rfl, rfl⟩); simp only [Act.put, pA, pB, pC]
          cases b7
          · --
           iterate 3 (apply txN (j := 2) (d := 92) (b := true) rfl rfl rfl rfl; simp only [Act.put, pA, pB, pC])
           iterate 2 (apply txF (wants0 rfl); (· intro w' hK; go_simp; (try go_bits); exact ⟨rfl, rfl⟩); simp only [Act.put, pA, pB, pC])
           iterate 3 (apply txN (j := 7) (d := 97) (b := true) rfl rfl rfl rfl; simp only [Act.put, pA, pB, pC])
           iterate 2 (apply txF (wants0 rfl); (· intro w' hK; go_simp; (try go_bits); exact ⟨rfl, rfl⟩); simp only [Act.put, pA, pB, pC])
           refine txEnd (fun W87 hK => ?_)
           go_wp2
           try go_ret
           show Q0 (.returned (.bool false)) _
           exact (by obtain rfl := hQ0.out; exact ⟨(ret_bool (by have f1 := hpe.out.1; have f3 := hag2.out.1; have f4 := hag2.out.2; have f0 := hag.out.1; have e3 := hz3.out; rw [f0, f4] at e3; have e_b7 := hb7.out; rw [f1, f0] at *; simp_all)), hK.old⟩)
          · --
           iterate 2 (apply txF (wantsg (j := 2) (d := 92) (b := true) rfl rfl rfl rfl); (· intro w' hK; go_simp; (try go_bits); exact ⟨rfl, rfl⟩); simp only [Act.put, pA, pB, pC])
           obtain ⟨b8, hb8⟩ : ∃ b : Bool, RowKit.Hid ((decide ((agF xs) = (agF (rotS xs m)))) = b) := ⟨_, hid rfl⟩
           apply txH (v := .bool b8) (wantsg (j := 2) (d := 92) (b := true) rfl rfl rfl rfl)
           · intro v1 hv1 w' hK; go_simp; (try go_bits); refine (same_any (.slice sv4_p (agF xs).length sv4_c) (.slice sv74_p (agF (rotS xs m)).length sv74_c) (agF xs) (agF (rotS xs m)) w' (hK.get m3).slv (hK.get m1).slv (by omega) (by omega)).mono ?_; rintro e w5 ⟨rfl, hb⟩; obtain rfl := hv1.out; exact ⟨_, rfl, (by rw [hb8.out]), hb⟩
           simp only [Act.put, pA, pB, pC]
           iterate 2 (apply txF (wants0 rfl); (· intro w' hK; go_simp; (try go_bits); exact ⟨rfl, rfl⟩); simp only [Act.put, pA, pB, pC])
           cases b8
           · --
            iterate 3 (apply txN (j := 7) (d := 97) (b := true) rfl rfl rfl rfl; simp only [Act.put, pA, pB, pC])
            iterate 2 (apply txF (wants0 rfl); (· intro w' hK; go_simp; (try go_bits); exact ⟨rfl, rfl⟩); simp only [Act.put, pA, pB, pC])
            refine txEnd (fun W88 hK => ?_)
            go_wp2
            try go_ret
            show Q0 (.returned (.bool false)) _
            exact (by obtain rfl := hQ0.out; exact ⟨(ret_bool (by have f1 := hpe.out.1; have f3 := hag2.out.1; have f4 := hag2.out.2; have f0 := hag.out.1; have e3 := hz3.out; rw [f0, f4] at e3; have e_b7 := hb7.out; have e_b8 := hb8.out; rw [f1, f0] at *; simp_all)), hK.old⟩)
           · --
            iterate 2 (apply txF (wantsg (j := 7) (d := 97) (b := true) rfl rfl rfl rfl); (· intro w' hK; go_simp; (try go_bits); exact ⟨rfl, rfl⟩); simp only [Act.put, pA, pB, pC])
            obtain ⟨b9, hb9⟩ : ∃ b : Bool, RowKit.Hid ((decide ((agF xs) = (agF (agF xs)))) = b) := ⟨_, hid rfl⟩
            apply txH (v := .bool b9) (wantsg (j := 7) (d := 97) (b := true) rfl rfl rfl rfl)
            · intro v1 hv1 w' hK; go_simp; (try go_bits); refine (same_any (.slice sv4_p (agF xs).length sv4_c) (.slice sv78_p (agF (agF xs)).length sv78_c) (agF xs) (agF (agF xs)) w' (hK.get m3).slv (hK.get m0).slv (by omega) (by omega)).mono ?_; rintro e w5 ⟨rfl, hb⟩; obtain rfl := hv1.out; exact ⟨_, rfl, (by rw [hb9.out]), hb⟩
            simp only [Act.put, pA, pB, pC]
            iterate 2 (apply txF (wants0 rfl); (· intro w' hK; go_simp; (try go_bits); exact ⟨rfl, rfl⟩); simp only [Act.put, pA, pB, pC])
            refine txEnd (fun W89 hK => ?_)
            go_wp2
            try go_ret
            show Q0 (.returned (.bool b9)) _
            exact (by obtain rfl := hQ0.out; exact ⟨(ret_bool (by have f1 := hpe.out.1; have f3 := hag2.out.1; have f4 := hag2.out.2; have f0 := hag.out.1; have e3 := hz3.out; rw [f0, f4] at e3; have e_b7 := hb7.out; have e_b8 := hb8.out; have e_b9 := hb9.out; rw [f1, f0] at *; simp_all)), hK.old⟩)
         · --
          have q_b6 : ((i : Int)) < (((agF xs).length : Int)) := of_decide_eq_true hb6.out
          go_wp2_with fail
          go_loopw [12] (fun s12 wl => ∃ (j : Nat), s12 = .int .i64 (j : Int) ∧ (j ≤ (agF xs).length) ∧ KS w [fun w1 => OwV pfxK 24 w.heap.size w1 (.slice sv78_p (agF (agF xs)).length sv78_c) (agF (agF xs)), fun w1 => OwV pfxK 24 w.heap.size w1 (.slice sv74_p (agF (rotS xs m)).length sv74_c) (agF (rotS xs m)), fun w1 => OwV pfxK 24 w.heap.size w1 (.slice sv72.p (rotS xs m).length sv72.c) (rotS xs m), fun w1 => OwV pfxK 24 w.heap.size w1 (.slice sv4_p (agF xs).length sv4_c) (agF xs)] wl) (fun s12 _ => (agF xs).length - (intOf s12).toNat)
          case atStart => exact ⟨0, rfl, (by omega), ⟨hK.old, (al1 (hK.all _ m0) (al1 (hK.all _ m1) (al1 (hK.all _ m2) (al1 (hK.all _ m3) aN))))⟩⟩
          case round =>
           clear hK
           obtain ⟨j, rfl, hj, hK⟩ := hrel
           generalize wr = W90 at hK ⊢
           go_upto_region 12 with (fail)
           refine wp_region_tx w hK ?_
           clear hK
           iterate 3 (apply txF (wants0 rfl); (· intro w' hK; go_simp; (try go_bits); exact ⟨rfl, rfl⟩); simp only [Act.put, pA, pB, pC])
           obtain ⟨b7, hb7⟩ : ∃ b : Bool, RowKit.Hid (decide (((j : Int)) < (((agF xs).length : Int))) = b) := ⟨_, hid rfl⟩
           apply txB b7 (wants0 rfl); (· intro w' hK; go_simp; (try go_bits); exact ⟨by have q := hb7.out; subst q; first | rfl | simp, rfl⟩); simp only [Act.put, pA, pB, pC]
           refine txEnd (fun W91 hK => ?_)
           cases b7
           · --
            have q_b7 : (((agF xs).length : Int)) ≤ ((j : Int)) := Int.not_lt.1 (of_decide_eq_false hb7.out)
            (try go_wp2)
            go_roundw
            case rel => exact ⟨i + 1, (by first | rfl | go_num), (by omega), ⟨hK.old, (al1 (hK.all _ m0) (al1 (hK.all _ m1) (al1 (hK.all _ m2) (al1 (hK.all _ m3) aN))))⟩⟩
            case measure => simp [intOf]; omega
           · --
            have q_b7 : ((j : Int)) < (((agF xs).length : Int)) := of_decide_eq_true hb7.out
            obtain ⟨xi, exi⟩ : ∃ x, RowKit.Hid ((agF xs)[i]? = some x) := ⟨_, hid (List.getElem?_eq_getElem (show i < (agF xs).length from (by omega)))⟩
            have i92 : i < (agF xs).length := by have q : i < (agF xs).length := (by omega); first | exact q | (simp at q; omega) | omega
            obtain ⟨g92, o92, q92, l92⟩ := ((hK.get m3).slv).ptr exi.out
            obtain rfl : o92 = 0 := ((hK.get m3)).off q92
            subst q92
            replace hK := KS.atP hK (hK.get m3).slv exi.out
            obtain ⟨xj, exj⟩ : ∃ x, RowKit.Hid ((agF xs)[j]? = some x) := ⟨_, hid (List.getElem?_eq_getElem (show j < (agF xs).length from (by omega)))⟩
            have i93 : j < (agF xs).length := by have q : j < (agF xs).length := (by omega); first | exact q | (simp at q; omega) | omega
            replace hK := KS.atP hK (hK.get m4).slv exj.out
            have wxi := haw _ (List.mem_of_getElem? exi.out); have wxj := haw _ (List.mem_of_getElem? exj.out)
            go_upto_region 14 with (fail)
            have hK0 := hK
            refine wp_region_float0 (w) _ _ [0, 0, 0, 0, 0, 0, 0, 0, 0, 0, 0, 0, 1, 0] (by kernel_rfl) (by kernel_rfl) (by kernel_rfl) (by kernel_rfl) (KS.drew hK0) (KS.drew hK) ?_
            clear hK hK0
            iterate 2 (apply lxF0 (wants0 rfl); (· intro w' h0; go_simp; (try go_bits); exact ⟨rfl, rfl⟩); simp only [Act.put, pA, pB, pC])
            obtain ⟨b8, hb8⟩ : ∃ b : Bool, RowKit.Hid ((((i : Int)) != ((j : Int))) = b) := ⟨_, hid rfl⟩
            apply lxB0 b8 (wants0 rfl); (· intro w' h0; go_simp; (try go_bits); exact ⟨by have q := hb8.out; subst q; first | rfl | simp, rfl⟩); simp only [Act.put, pA, pB, pC]
            apply lxF0 (wants0 rfl); (· intro w' h0; go_simp; (try go_bits); exact ⟨rfl, rfl⟩); simp only [Act.put, pA, pB, pC]
            cases b8
            · --
             iterate 9 (apply lxN (j := 3) (d := 79) (b := true) rfl rfl rfl rfl; simp only [Act.put, pA, pB, pC])
             apply lxF0 (wants0 rfl); (· intro w' h0; go_simp; (try go_bits); exact ⟨rfl, rfl⟩); simp only [Act.put, pA, pB, pC]
             refine lxEnd (fun W94 hK => ?_)
             (try go_wp2)
             go_roundw
             case rel => exact ⟨j + 1, (by first | rfl | go_num), (by omega), ⟨hK.old, (al1 (hK.all _ m2) (al1 (hK.all _ m3) (al1 (hK.all _ m4) (al1 (hK.all _ m5) aN))))⟩⟩
             case measure => simp [intOf]; omega
            · --
             iterate 3 (apply lxF0 (wantsg (j := 3) (d := 79) (b := true) rfl rfl rfl rfl); (· intro w' h0; go_simp; (try go_bits); exact ⟨rfl, rfl⟩); simp only [Act.put, pA, pB, pC])
             apply lxF0 (wantsg (j := 3) (d := 79) (b := true) rfl rfl rfl rfl); (· intro w' h0; have c_CEL92_0 : w'.cell? ⟨g92, i * 2, none⟩ = some (.int .u32 (xi.1 : Int)) := (by have q := (h0.get m1).2 0 _ rfl; simpa using q); have c_CEL92_1 : w'.cell? ⟨g92, i * 2 + 1, none⟩ = some (.int .i64 xi.2) := (by have q := (h0.get m1).2 1 _ rfl; simpa using q); go_simp; (try go_bits); exact ⟨rfl, rfl⟩); simp only [Act.put, pA, pB, pC]
             iterate 3 (apply lxF0 (wantsg (j := 3) (d := 79) (b := true) rfl rfl rfl rfl); (· intro w' h0; go_simp; (try go_bits); exact ⟨rfl, rfl⟩); simp only [Act.put, pA, pB, pC])
             apply lxF0 (wantsg (j := 3) (d := 79) (b := true) rfl rfl rfl rfl); (· intro w' h0; have c_CEL93_0 : w'.cell? ⟨g92, j * 2, none⟩ = some (.int .u32 (xj.1 : Int)) := (by have q := (h0.get m0).2 0 _ rfl; simpa using q); have c_CEL93_1 : w'.cell? ⟨g92, j * 2 + 1, none⟩ = some (.int .i64 xj.2) := (by have q := (h0.get m0).2 1 _ rfl; simpa using q); go_simp; (try go_bits); exact ⟨rfl, rfl⟩); simp only [Act.put, pA, pB, pC]
             obtain ⟨b9, hb9⟩ : ∃ b : Bool, RowKit.Hid ((cvr xi.1 xi.2 xj.1 xj.2) = b) := ⟨_, hid rfl⟩
             apply lxH1 (v := .bool b9) (wantsg (j := 3) (d := 79) (b := true) rfl rfl rfl rfl)
             · intro v1 hv1 w' h0 hK; go_simp; (try go_bits); refine (rcovers_any xi.1 xi.2 xj.1 xj.2 w' (by first | assumption | omega | exact W32.zero) (by first | assumption | omega | exact W32.zero)).mono ?_; rintro e w5 ⟨rfl, hb⟩; obtain rfl := hv1.out; exact ⟨_, rfl, (by rw [hb9.out]), hb⟩
             simp only [Act.put, pA, pB, pC]
             apply lxF0 (wants0 rfl); (· intro w' h0; go_simp; (try go_bits); exact ⟨rfl, rfl⟩); simp only [Act.put, pA, pB, pC]
             refine lxEnd (fun W95 hK => ?_)
             cases b9
             · --
              (try go_wp2)
              go_roundw
              case rel => exact ⟨j + 1, (by first | rfl | go_num), (by omega), ⟨hK.old, (al1 (hK.all _ m2) (al1 (hK.all _ m3) (al1 (hK.all _ m4) (al1 (hK.all _ m5) aN))))⟩⟩
              case measure => simp [intOf]; omega
             · --
              go_wp2
              try go_ret
              show Q0 (.returned (.bool false)) _
              exact (by obtain rfl := hQ0.out; exact ⟨(absurd (hnr.apart (by have q := exi.out; rwa [hag.out.1] at q) (by have q := exj.out; rwa [hag.out.1] at q) (by have q := hb8.out; simp at q; omega)) (by rw [show cvp xi xj = true from hb9.out]; decide)), hK.old⟩)
       · --
        go_upto_region 7 with (fail)
        refine wp_region_tx w hK ?_
        clear hK
        iterate 2 (apply txF (wants0 rfl); (· intro w' hK; go_simp; (try go_bits); exact ⟨rfl, rfl⟩); simp only [Act.put, pA, pB, pC])
        obtain ⟨b6, hb6⟩ : ∃ b : Bool, RowKit.Hid ((z1 == z2) = b) := ⟨_, hid rfl⟩
        apply txB b6 (wants0 rfl); (· intro w' hK; go_simp; (try go_bits); exact ⟨by have q := hb6.out; subst q; first | rfl | simp, rfl⟩); simp only [Act.put, pA, pB, pC]
        apply txF (wants0 rfl); (· intro w' hK; go_simp; (try go_bits); exact ⟨rfl, rfl⟩); simp only [Act.put, pA, pB, pC]
        refine txEnd (fun W96 hK => ?_)
        go_wp2
        try go_ret
        show Q0 (.returned (.bool b6)) _
        exact (by obtain rfl := hQ0.out; exact ⟨(ret_bool (by rw [← hb6.out, ← hz1.out, ← hz2.out, hpe.out.2]; simp)), hK.old⟩)
      · --
       iterate 2 (apply txN (j := 3) (d := 57) (b := false) rfl rfl rfl rfl; simp only [Act.put, pA, pB, pC])
       apply txF (wants0 rfl); (· intro w' hK; go_simp; (try go_bits); exact ⟨rfl, rfl⟩); simp only [Act.put, pA, pB, pC]
       refine txEnd (fun W97 hK => ?_)
       go_upto_region 7 with (fail)
       refine wp_region_tx w hK ?_
       clear hK
       iterate 2 (apply txF (wants0 rfl); (· intro w' hK; go_simp; (try go_bits); exact ⟨rfl, rfl⟩); simp only [Act.put, pA, pB, pC])
       obtain ⟨b5, hb5⟩ : ∃ b : Bool, RowKit.Hid ((z1 == z2) = b) := ⟨_, hid rfl⟩
       apply txB b5 (wants0 rfl); (· intro w' hK; go_simp; (try go_bits); exact ⟨by have q := hb5.out; subst q; first | rfl | simp, rfl⟩); simp only [Act.put, pA, pB, pC]
       apply txF (wants0 rfl); (· intro w' hK; go_simp; (try go_bits); exact ⟨rfl, rfl⟩); simp only [Act.put, pA, pB, pC]
       refine txEnd (fun W98 hK => ?_)
       go_wp2
       try go_ret
       show Q0 (.returned (.bool b5)) _
       exact (by obtain rfl := hQ0.out; exact ⟨(ret_bool (by rw [← hb5.out, ← hz1.out, ← hz2.out, hpe.out.2]; simp)), hK.old⟩)
    · --
     have q_b3 : ((xs.length : Int)) < f := of_decide_eq_true hb3.out
     go_upto_region 2 with (fail)
     refine wp_region_tx w hK ?_
     clear hK
     apply txH (v := .bool true) (wants0 rfl)
     · intro v1 hv1 w' hK; go_simp; (try go_bits); refine (awake_any   w' (hB0.below hK.old) ).mono ?_; rintro e w5 ⟨rfl, hb⟩; obtain rfl := hv1.out; exact ⟨_, rfl, rfl, hb⟩
     simp only [Act.put, pA, pB, pC]
     apply txF (wants0 rfl); (· intro w' hK; go_simp; (try go_bits); exact ⟨rfl, rfl⟩); simp only [Act.put, pA, pB, pC]
     refine txEnd (fun W99 hK => ?_)
     go_wp2
     try go_ret
     show Q0 (.returned (.bool true)) _
     exact (by obtain rfl := hQ0.out; exact ⟨rfl, hK.old⟩)
   · --
    have q_b2 : f < 0 := of_decide_eq_true hb2.out
    iterate 4 (apply txN (j := 11) (d := 24) (b := false) rfl rfl rfl rfl; simp only [Act.put, pA, pB, pC])
    apply txF (wants0 rfl); (· intro w' hK; go_simp; (try go_bits); exact ⟨rfl, rfl⟩); simp only [Act.put, pA, pB, pC]
    refine txEnd (fun W100 hK => ?_)
    go_upto_region 2 with (fail)
    refine wp_region_tx w hK ?_
    clear hK
    apply txH (v := .bool true) (wants0 rfl)
    · intro v1 hv1 w' hK; go_simp; (try go_bits); refine (awake_any   w' (hB0.below hK.old) ).mono ?_; rintro e w5 ⟨rfl, hb⟩; obtain rfl := hv1.out; exact ⟨_, rfl, rfl, hb⟩
    simp only [Act.put, pA, pB, pC]
    apply txF (wants0 rfl); (· intro w' hK; go_simp; (try go_bits); exact ⟨rfl, rfl⟩); simp only [Act.put, pA, pB, pC]
    refine txEnd (fun W101 hK => ?_)
    go_wp2
    try go_ret
    show Q0 (.returned (.bool true)) _
    exact (by obtain rfl := hQ0.out; exact ⟨rfl, hK.old⟩)
end Go.Proofs.YtbbjjjaclbkolaaDoor
