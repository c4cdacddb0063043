/- The reference's sums, Same, copied, key walked. -/
import Derived.Test.YthkoaaneikhjjaaDoorDemA
namespace Go.Proofs.YthkoaaneikhjjaaDoor
open Go.RowKit
open Go.Lib (decDigits)
theorem tot_end {c : Dm → Bool} {xs : List Dm} {k : Nat} {acc : Int} (hs : acc = sumD c (xs.take k)) (hv : k = 0 ∨ vldD 64 xs = true) (h : (xs.length : Int) ≤ (k : Int) ∨ vldD 64 xs = false) : acc = totD c xs := by
  cases hb : vldD 64 xs with
  | true =>
    have hk : xs.length ≤ k := by
      rcases h with h | h
      · omega
      · rw [hb] at h; cases h
    rw [totD_t hb, hs, List.take_of_length_le hk]
  | false =>
    have hk : k = 0 := by
      rcases hv with h | h
      · exact h
      · rw [hb] at h; cases h
    subst hk
    rw [totD_f hb, hs]; rfl
set_option maxRecDepth 100000 in
theorem rtotal_any (v0 : Value) (xs : List Dm) (w : World) (h0 : SlV demK w v0 xs) (hl : xs.length ≤ 100000) :
    Calls Tryd.prog 14 #[v0] w fun e w' => e = .returned (.int .i64 (totD (cntA) xs)) ∧ Below w.heap.size w w' := by
  have h0_0 := h0; obtain ⟨p_h0, c_h0, rfl, n_h0⟩ := h0.sh
  have hK : KS w [] w := (KS.start w)
  refine Calls.hide (fun Q0 hQ0 => ?_)
  go_enter Tryd.func14, Tryd.ntmps14
  go_wp2_with fail
  go_loopw [3, 4] (fun s3 s4 wl => ∃ (k : Nat) (acc : Int), s3 = .int .i64 acc ∧ s4 = .int .i64 (k : Int) ∧ (k ≤ xs.length) ∧ RowKit.Hid (acc = sumD (cntA) (xs.take k)) ∧ RowKit.Hid (k = 0 ∨ vldD 64 xs = true) ∧ KS w [] wl) (fun s3 s4 _ => xs.length - (intOf s4).toNat)
  case atStart => exact ⟨0, 0, rfl, rfl, (by omega), (hid rfl), (hid (.inl rfl)), ⟨hK.old, aN⟩⟩
  case round =>
   clear hK
   obtain ⟨k, acc, rfl, rfl, hk, hs, hv, hK⟩ := hrel
   generalize wr = W1 at hK ⊢
   go_upto_region 3 with (fail)
   refine wp_region_tx w hK ?_
   clear hK
   iterate 3 (apply txF (wants0 rfl); (· intro w' hK; go_simp; (try go_bits); exact ⟨rfl, rfl⟩); simp only [Act.put, pA, pB, pC])
   obtain ⟨b1, hb1⟩ : ∃ b : Bool, RowKit.Hid (decide (((k : Int)) < ((xs.length : Int))) = b) := ⟨_, hid rfl⟩
   apply txB b1 (wants0 rfl); (· intro w' hK; go_simp; (try go_bits); exact ⟨by have q := hb1.out; subst q; first | rfl | simp, rfl⟩); simp only [Act.put, pA, pB, pC]
   apply txF (wants0 rfl); (· intro w' hK; go_simp; (try go_bits); exact ⟨rfl, rfl⟩); simp only [Act.put, pA, pB, pC]
   cases b1
   · --
    have q_b1 : ((xs.length : Int)) ≤ ((k : Int)) := Int.not_lt.1 (of_decide_eq_false hb1.out)
    iterate 2 (apply txN (j := 4) (d := 9) (b := true) rfl rfl rfl rfl; simp only [Act.put, pA, pB, pC])
    apply txF (wants0 rfl); (· intro w' hK; go_simp; (try go_bits); exact ⟨rfl, rfl⟩); simp only [Act.put, pA, pB, pC]
    refine txEnd (fun W2 hK => ?_)
    go_upto_region 6 with (fail)
    refine wp_region_tx w hK ?_
    clear hK
    iterate 2 (apply txF (wants0 rfl); (· intro w' hK; go_simp; (try go_bits); exact ⟨rfl, rfl⟩); simp only [Act.put, pA, pB, pC])
    refine txEnd (fun W3 hK => ?_)
    go_wp2
    try go_ret
    show Q0 (.returned (.int .i64 acc)) _
    exact (by obtain rfl := hQ0.out; exact ⟨(ret_int (tot_end hs.out hv.out (.inl (by omega)))), hK.old⟩)
   · --
    have q_b1 : ((k : Int)) < ((xs.length : Int)) := of_decide_eq_true hb1.out
    apply txF (wantsg (j := 4) (d := 9) (b := true) rfl rfl rfl rfl); (· intro w' hK; go_simp; (try go_bits); exact ⟨rfl, rfl⟩); simp only [Act.put, pA, pB, pC]
    obtain ⟨b2, hb2⟩ : ∃ b : Bool, RowKit.Hid ((vldD 64 xs) = b) := ⟨_, hid rfl⟩
    apply txH (v := .bool b2) (wantsg (j := 4) (d := 9) (b := true) rfl rfl rfl rfl)
    · intro v1 hv1 w' hK; go_simp; (try go_bits); refine (rvalid_any (.slice p_h0 xs.length c_h0) 64 xs w' (h0_0.below hK.old) (by omega)).mono ?_; rintro e w5 ⟨rfl, hb⟩; obtain rfl := hv1.out; exact ⟨_, rfl, (by rw [hb2.out]), hb⟩
    simp only [Act.put, pA, pB, pC]
    apply txF (wants0 rfl); (· intro w' hK; go_simp; (try go_bits); exact ⟨rfl, rfl⟩); simp only [Act.put, pA, pB, pC]
    refine txEnd (fun W4 hK => ?_)
    cases b2
    · --
     go_upto_region 6 with (fail)
     refine wp_region_tx w hK ?_
     clear hK
     iterate 2 (apply txF (wants0 rfl); (· intro w' hK; go_simp; (try go_bits); exact ⟨rfl, rfl⟩); simp only [Act.put, pA, pB, pC])
     refine txEnd (fun W5 hK => ?_)
     go_wp2
     try go_ret
     show Q0 (.returned (.int .i64 acc)) _
     exact (by obtain rfl := hQ0.out; exact ⟨(ret_int (tot_end hs.out hv.out (.inr hb2.out))), hK.old⟩)
    · --
     obtain ⟨x5, ex5⟩ : ∃ x, RowKit.Hid (xs[k]? = some x) := ⟨_, hid (List.getElem?_eq_getElem (show k < xs.length from (by omega)))⟩
     have i6 : k < xs.length := by have q : k < xs.length := (by omega); first | exact q | (simp at q; omega) | omega
     obtain ⟨g6, o6, q6, l6⟩ := (h0_0).ptr ex5.out
     subst q6
     replace hK := KS.atD hK (h0_0.below hK.old) ex5.out
     have hbd := sumD_bt (cntA) hb2.out k; rw [← hs.out] at hbd; have hok := (vldD_iff.1 hb2.out).2.2.2 x5 (List.mem_of_getElem? ex5.out); unfold OkD at hok
     go_upto_region 5 with (fail)
     refine wp_region_tx w hK ?_
     clear hK
     iterate 5 (apply txF (wants0 rfl); (· intro w' hK; go_simp; (try go_bits); exact ⟨rfl, rfl⟩); simp only [Act.put, pA, pB, pC])
     apply txF (wants0 rfl); (· intro w' hK; have c_CEL6_2 : w'.cell? ⟨g6, o6 + k * 4 + 2, none⟩ = some (.int .i64 x5.a) := (by have q := (hK.get m0).2 2 _ rfl; simpa using q); go_simp; (try go_bits); exact ⟨rfl, rfl⟩); simp only [Act.put, pA, pB, pC]
     apply txF (v := .int .i64 (acc + x5.a)) (wants0 rfl); (· intro w' hK; go_simp; (try go_bits); exact ⟨congrArg _ (by omega), rfl⟩); simp only [Act.put, pA, pB, pC]
     apply txF (wants0 rfl); (· intro w' hK; go_simp; (try go_bits); exact ⟨rfl, rfl⟩); simp only [Act.put, pA, pB, pC]
     refine txEnd (fun W7 hK => ?_)
     (try go_wp2)
     go_roundw
     case rel => exact ⟨k + 1, acc + x5.a, (by first | rfl | go_num), (by first | rfl | go_num), (by omega), (hid (by rw [sumD_step _ ex5.out, ← hs.out]; simp [cntA])), (hid (.inr hb2.out)), ⟨hK.old, aN⟩⟩
     case measure => simp [intOf]; omega
set_option maxRecDepth 100000 in
theorem rbetween_any (v0 : Value) (xs : List Dm) (s : Int) (d : Int) (w : World) (h0 : SlV demK w v0 xs) (hl : xs.length ≤ 100000) :
    Calls Tryd.prog 16 #[v0, .int .i64 s, .int .i64 d] w fun e w' => e = .returned (.int .i64 (totD (cntB s d) xs)) ∧ Below w.heap.size w w' := by
  have h0_0 := h0; obtain ⟨p_h0, c_h0, rfl, n_h0⟩ := h0.sh
  have hK : KS w [] w := (KS.start w)
  refine Calls.hide (fun Q0 hQ0 => ?_)
  go_enter Tryd.func16, Tryd.ntmps16
  go_wp2_with fail
  go_loopw [7, 8] (fun s7 s8 wl => ∃ (k : Nat) (acc : Int), s7 = .int .i64 acc ∧ s8 = .int .i64 (k : Int) ∧ (k ≤ xs.length) ∧ RowKit.Hid (acc = sumD (cntB s d) (xs.take k)) ∧ RowKit.Hid (k = 0 ∨ vldD 64 xs = true) ∧ KS w [] wl) (fun s7 s8 _ => xs.length - (intOf s8).toNat)
  case atStart => exact ⟨0, 0, rfl, rfl, (by omega), (hid rfl), (hid (.inl rfl)), ⟨hK.old, aN⟩⟩
  case round =>
   clear hK
   obtain ⟨k, acc, rfl, rfl, hk, hs, hv, hK⟩ := hrel
   generalize wr = W1 at hK ⊢
   go_upto_region 3 with (fail)
   refine wp_region_tx w hK ?_
   clear hK
   iterate 3 (apply txF (wants0 rfl); (· intro w' hK; go_simp; (try go_bits); exact ⟨rfl, rfl⟩); simp only [Act.put, pA, pB, pC])
   obtain ⟨b1, hb1⟩ : ∃ b : Bool, RowKit.Hid (decide (((k : Int)) < ((xs.length : Int))) = b) := ⟨_, hid rfl⟩
   apply txB b1 (wants0 rfl); (· intro w' hK; go_simp; (try go_bits); exact ⟨by have q := hb1.out; subst q; first | rfl | simp, rfl⟩); simp only [Act.put, pA, pB, pC]
   apply txF (wants0 rfl); (· intro w' hK; go_simp; (try go_bits); exact ⟨rfl, rfl⟩); simp only [Act.put, pA, pB, pC]
   cases b1
   · --
    have q_b1 : ((xs.length : Int)) ≤ ((k : Int)) := Int.not_lt.1 (of_decide_eq_false hb1.out)
    iterate 2 (apply txN (j := 4) (d := 13) (b := true) rfl rfl rfl rfl; simp only [Act.put, pA, pB, pC])
    apply txF (wants0 rfl); (· intro w' hK; go_simp; (try go_bits); exact ⟨rfl, rfl⟩); simp only [Act.put, pA, pB, pC]
    refine txEnd (fun W2 hK => ?_)
    go_upto_region 7 with (fail)
    refine wp_region_tx w hK ?_
    clear hK
    iterate 2 (apply txF (wants0 rfl); (· intro w' hK; go_simp; (try go_bits); exact ⟨rfl, rfl⟩); simp only [Act.put, pA, pB, pC])
    refine txEnd (fun W3 hK => ?_)
    go_wp2
    try go_ret
    show Q0 (.returned (.int .i64 acc)) _
    exact (by obtain rfl := hQ0.out; exact ⟨(ret_int (tot_end hs.out hv.out (.inl (by omega)))), hK.old⟩)
   · --
    have q_b1 : ((k : Int)) < ((xs.length : Int)) := of_decide_eq_true hb1.out
    apply txF (wantsg (j := 4) (d := 13) (b := true) rfl rfl rfl rfl); (· intro w' hK; go_simp; (try go_bits); exact ⟨rfl, rfl⟩); simp only [Act.put, pA, pB, pC]
    obtain ⟨b2, hb2⟩ : ∃ b : Bool, RowKit.Hid ((vldD 64 xs) = b) := ⟨_, hid rfl⟩
    apply txH (v := .bool b2) (wantsg (j := 4) (d := 13) (b := true) rfl rfl rfl rfl)
    · intro v1 hv1 w' hK; go_simp; (try go_bits); refine (rvalid_any (.slice p_h0 xs.length c_h0) 64 xs w' (h0_0.below hK.old) (by omega)).mono ?_; rintro e w5 ⟨rfl, hb⟩; obtain rfl := hv1.out; exact ⟨_, rfl, (by rw [hb2.out]), hb⟩
    simp only [Act.put, pA, pB, pC]
    apply txF (wants0 rfl); (· intro w' hK; go_simp; (try go_bits); exact ⟨rfl, rfl⟩); simp only [Act.put, pA, pB, pC]
    refine txEnd (fun W4 hK => ?_)
    cases b2
    · --
     go_upto_region 7 with (fail)
     refine wp_region_tx w hK ?_
     clear hK
     iterate 2 (apply txF (wants0 rfl); (· intro w' hK; go_simp; (try go_bits); exact ⟨rfl, rfl⟩); simp only [Act.put, pA, pB, pC])
     refine txEnd (fun W5 hK => ?_)
     go_wp2
     try go_ret
     show Q0 (.returned (.int .i64 acc)) _
     exact (by obtain rfl := hQ0.out; exact ⟨(ret_int (tot_end hs.out hv.out (.inr hb2.out))), hK.old⟩)
    · --
     obtain ⟨x5, ex5⟩ : ∃ x, RowKit.Hid (xs[k]? = some x) := ⟨_, hid (List.getElem?_eq_getElem (show k < xs.length from (by omega)))⟩
     have i6 : k < xs.length := by have q : k < xs.length := (by omega); first | exact q | (simp at q; omega) | omega
     obtain ⟨g6, o6, q6, l6⟩ := (h0_0).ptr ex5.out
     subst q6
     replace hK := KS.atD hK (h0_0.below hK.old) ex5.out
     have hbd := sumD_bt (cntB s d) hb2.out k; rw [← hs.out] at hbd; have hok := (vldD_iff.1 hb2.out).2.2.2 x5 (List.mem_of_getElem? ex5.out); unfold OkD at hok
     go_upto_region 5 with (fail)
     refine wp_region_tx w hK ?_
     clear hK
     iterate 4 (apply txF (wants0 rfl); (· intro w' hK; go_simp; (try go_bits); exact ⟨rfl, rfl⟩); simp only [Act.put, pA, pB, pC])
     apply txF (wants0 rfl); (· intro w' hK; have c_CEL6_0 : w'.cell? ⟨g6, o6 + k * 4, none⟩ = some (.int .i64 x5.s) := (by have q := (hK.get m0).2 0 _ rfl; simpa using q); go_simp; (try go_bits); exact ⟨rfl, rfl⟩); simp only [Act.put, pA, pB, pC]
     apply txF (wants0 rfl); (· intro w' hK; go_simp; (try go_bits); exact ⟨rfl, rfl⟩); simp only [Act.put, pA, pB, pC]
     obtain ⟨b3, hb3⟩ : ∃ b : Bool, RowKit.Hid ((x5.s == s) = b) := ⟨_, hid rfl⟩
     apply txB b3 (wants0 rfl); (· intro w' hK; go_simp; (try go_bits); exact ⟨by have q := hb3.out; subst q; first | rfl | simp, rfl⟩); simp only [Act.put, pA, pB, pC]
     apply txF (wants0 rfl); (· intro w' hK; go_simp; (try go_bits); exact ⟨rfl, rfl⟩); simp only [Act.put, pA, pB, pC]
     cases b3
     · --
      iterate 7 (apply txN (j := 7) (d := 26) (b := true) rfl rfl rfl rfl; simp only [Act.put, pA, pB, pC])
      apply txF (wants0 rfl); (· intro w' hK; go_simp; (try go_bits); exact ⟨rfl, rfl⟩); simp only [Act.put, pA, pB, pC]
      refine txEnd (fun W7 hK => ?_)
      (try go_wp2)
      go_roundw
      case rel => exact ⟨k + 1, acc, (by first | rfl | go_num), (by first | rfl | go_num), (by omega), (hid (by rw [sumD_step _ ex5.out, ← hs.out, show cntB s d x5 = false from (by unfold cntB; have a_b3 := hb3.out; simp at a_b3; simp_all)]; simp)), (hid (.inr hb2.out)), ⟨hK.old, aN⟩⟩
      case measure => simp [intOf]; omega
     · --
      iterate 4 (apply txF (wantsg (j := 7) (d := 26) (b := true) rfl rfl rfl rfl); (· intro w' hK; go_simp; (try go_bits); exact ⟨rfl, rfl⟩); simp only [Act.put, pA, pB, pC])
      apply txF (wantsg (j := 7) (d := 26) (b := true) rfl rfl rfl rfl); (· intro w' hK; have c_CEL6_1 : w'.cell? ⟨g6, o6 + k * 4 + 1, none⟩ = some (.int .i64 x5.d) := (by have q := (hK.get m0).2 1 _ rfl; simpa using q); go_simp; (try go_bits); exact ⟨rfl, rfl⟩); simp only [Act.put, pA, pB, pC]
      apply txF (wantsg (j := 7) (d := 26) (b := true) rfl rfl rfl rfl); (· intro w' hK; go_simp; (try go_bits); exact ⟨rfl, rfl⟩); simp only [Act.put, pA, pB, pC]
      obtain ⟨b4, hb4⟩ : ∃ b : Bool, RowKit.Hid ((x5.d == d) = b) := ⟨_, hid rfl⟩
      apply txB b4 (wantsg (j := 7) (d := 26) (b := true) rfl rfl rfl rfl); (· intro w' hK; go_simp; (try go_bits); exact ⟨by have q := hb4.out; subst q; first | rfl | simp, rfl⟩); simp only [Act.put, pA, pB, pC]
      apply txF (wants0 rfl); (· intro w' hK; go_simp; (try go_bits); exact ⟨rfl, rfl⟩); simp only [Act.put, pA, pB, pC]
      refine txEnd (fun W8 hK => ?_)
      cases b4
      · --
       (try go_wp2)
       go_roundw
       case rel => exact ⟨k + 1, acc, (by first | rfl | go_num), (by first | rfl | go_num), (by omega), (hid (by rw [sumD_step _ ex5.out, ← hs.out, show cntB s d x5 = false from (by unfold cntB; have a_b3 := hb3.out; simp at a_b3; have a_b4 := hb4.out; simp at a_b4; simp_all)]; simp)), (hid (.inr hb2.out)), ⟨hK.old, aN⟩⟩
       case measure => simp [intOf]; omega
      · --
       go_upto_region 6 with (fail)
       refine wp_region_tx w hK ?_
       clear hK
       iterate 5 (apply txF (wants0 rfl); (· intro w' hK; go_simp; (try go_bits); exact ⟨rfl, rfl⟩); simp only [Act.put, pA, pB, pC])
       apply txF (wants0 rfl); (· intro w' hK; have c_CEL6_2 : w'.cell? ⟨g6, o6 + k * 4 + 2, none⟩ = some (.int .i64 x5.a) := (by have q := (hK.get m0).2 2 _ rfl; simpa using q); go_simp; (try go_bits); exact ⟨rfl, rfl⟩); simp only [Act.put, pA, pB, pC]
       apply txF (v := .int .i64 (acc + x5.a)) (wants0 rfl); (· intro w' hK; go_simp; (try go_bits); exact ⟨congrArg _ (by omega), rfl⟩); simp only [Act.put, pA, pB, pC]
       apply txF (wants0 rfl); (· intro w' hK; go_simp; (try go_bits); exact ⟨rfl, rfl⟩); simp only [Act.put, pA, pB, pC]
       refine txEnd (fun W9 hK => ?_)
       (try go_wp2)
       go_roundw
       case rel => exact ⟨k + 1, acc + x5.a, (by first | rfl | go_num), (by first | rfl | go_num), (by omega), (hid (by rw [sumD_step _ ex5.out, ← hs.out, show cntB s d x5 = true from (by unfold cntB; have a_b3 := hb3.out; simp at a_b3; have a_b4 := hb4.out; simp at a_b4; simp_all)]; simp)), (hid (.inr hb2.out)), ⟨hK.old, aN⟩⟩
       case measure => simp [intOf]; omega
set_option maxRecDepth 100000 in
theorem key_any  (x : Dm) (w : World)  (hx : KeyOk x) :
    Calls Tryd.prog 31 #[.agg #[.int .i64 x.s, .int .i64 x.d, .int .i64 x.a, .int .i64 x.p]] w fun e w' => e = .returned (.int .i64 (keyD x)) ∧ Below w.heap.size w w' := by
  have hK : KS w [] w := (KS.start w)
  unfold KeyOk at hx
  refine Calls.hide (fun Q0 hQ0 => ?_)
  go_enter Tryd.func31, Tryd.ntmps31
  go_upto_region 0 with (fail)
  refine wp_region_tx w hK ?_
  clear hK
  apply txA (.cells #[.int .i64 x.s, .int .i64 x.d, .int .i64 x.a, .int .i64 x.p] 25) (wants0 rfl)
  · intro w' hK; go_simp; rfl
  intro R1 q_R1
  clear q_R1
  simp only [mkOf, Act.put, pA, pB, pC]
  apply txF (wants0 rfl); (· intro w' hK; go_simp; (try go_bits); exact ⟨rfl, rfl⟩); simp only [Act.put, pA, pB, pC]
  refine txEnd (fun W2 hK => ?_)
  go_upto_region 1 with (fail)
  refine wp_region_tx w hK ?_
  clear hK
  apply txF (wants0 rfl); (· intro w' hK; go_simp; (try go_bits); exact ⟨rfl, rfl⟩); simp only [Act.put, pA, pB, pC]
  apply txF (wants0 rfl); (· intro w' hK; have k_R1 := (hK.get m0); have c_R1_0 := k_R1.at 0 rfl; go_simp; (try go_bits); exact ⟨rfl, rfl⟩); simp only [Act.put, pA, pB, pC]
  apply txF (v := .int .i64 (x.s * 64)) (wants0 rfl); (· intro w' hK; go_simp; (try go_bits); exact ⟨congrArg _ (by omega), rfl⟩); simp only [Act.put, pA, pB, pC]
  apply txF (wants0 rfl); (· intro w' hK; go_simp; (try go_bits); exact ⟨rfl, rfl⟩); simp only [Act.put, pA, pB, pC]
  apply txF (wants0 rfl); (· intro w' hK; have k_R1 := (hK.get m0); have c_R1_1 := k_R1.at 1 rfl; go_simp; (try go_bits); exact ⟨rfl, rfl⟩); simp only [Act.put, pA, pB, pC]
  apply txF (v := .int .i64 (x.s * 64 + x.d)) (wants0 rfl); (· intro w' hK; go_simp; (try go_bits); exact ⟨congrArg _ (by omega), rfl⟩); simp only [Act.put, pA, pB, pC]
  apply txF (v := .int .i64 ((x.s * 64 + x.d) * 8)) (wants0 rfl); (· intro w' hK; go_simp; (try go_bits); exact ⟨congrArg _ (by omega), rfl⟩); simp only [Act.put, pA, pB, pC]
  apply txF (wants0 rfl); (· intro w' hK; go_simp; (try go_bits); exact ⟨rfl, rfl⟩); simp only [Act.put, pA, pB, pC]
  apply txF (wants0 rfl); (· intro w' hK; have k_R1 := (hK.get m0); have c_R1_3 := k_R1.at 3 rfl; go_simp; (try go_bits); exact ⟨rfl, rfl⟩); simp only [Act.put, pA, pB, pC]
  apply txF (v := .int .i64 (keyD x)) (wants0 rfl); (· intro w' hK; go_simp; (try go_bits); exact ⟨congrArg _ (by unfold keyD; omega), rfl⟩); simp only [Act.put, pA, pB, pC]
  apply txF (wants0 rfl); (· intro w' hK; go_simp; (try go_bits); exact ⟨rfl, rfl⟩); simp only [Act.put, pA, pB, pC]
  refine txEnd (fun W3 hK => ?_)
  go_wp2
  try go_ret
  show Q0 (.returned (.int .i64 (keyD x))) _
  exact (by obtain rfl := hQ0.out; exact ⟨rfl, hK.old⟩)
set_option maxRecDepth 100000 in
theorem same_any (v0 : Value) (v1 : Value) (xs : List Dm) (ys : List Dm) (w : World) (h0 : SlV demK w v0 xs) (h1 : SlV demK w v1 ys) (hl : xs.length ≤ 100000) (hm : ys.length ≤ 100000) :
    Calls Tryd.prog 9 #[v0, v1] w fun e w' => e = .returned (.bool (decide (xs = ys))) ∧ Below w.heap.size w w' := by
  have h0_0 := h0; obtain ⟨p_h0, c_h0, rfl, n_h0⟩ := h0.sh
  have h1_0 := h1; obtain ⟨p_h1, c_h1, rfl, n_h1⟩ := h1.sh
  have hK : KS w [] w := (KS.start w)
  refine Calls.hide (fun Q0 hQ0 => ?_)
  go_enter Tryd.func9, Tryd.ntmps9
  go_upto_region 1 with (fail)
  refine wp_region_tx w hK ?_
  clear hK
  iterate 4 (apply txF (wants0 rfl); (· intro w' hK; go_simp; (try go_bits); exact ⟨rfl, rfl⟩); simp only [Act.put, pA, pB, pC])
  obtain ⟨b1, hb1⟩ : ∃ b : Bool, RowKit.Hid ((((xs.length : Int)) != ((ys.length : Int))) = b) := ⟨_, hid rfl⟩
  apply txB b1 (wants0 rfl); (· intro w' hK; go_simp; (try go_bits); exact ⟨by have q := hb1.out; subst q; first | rfl | simp, rfl⟩); simp only [Act.put, pA, pB, pC]
  refine txEnd (fun W1 hK => ?_)
  cases b1
  · --
   have hlen := hid (show xs.length = ys.length from by have q := hb1.out; simp at q; omega)
   go_upto_region 3 with (fail)
   refine wp_region_tx w hK ?_
   clear hK
   apply txF (wants0 rfl); (· intro w' hK; go_simp; (try go_bits); exact ⟨rfl, rfl⟩); simp only [Act.put, pA, pB, pC]
   refine txEnd (fun W2 hK => ?_)
   go_wp2_with fail
   go_loopw [5] (fun s5 wl => ∃ (i : Nat), s5 = .int .i64 (i : Int) ∧ (i ≤ xs.length) ∧ RowKit.Hid (xs.take i = ys.take i) ∧ KS w [] wl) (fun s5 _ => xs.length - (intOf s5).toNat)
   case atStart => exact ⟨0, rfl, (by omega), (hid rfl), ⟨hK.old, aN⟩⟩
   case round =>
    clear hK
    obtain ⟨i, rfl, hi, ht, hK⟩ := hrel
    generalize wr = W3 at hK ⊢
    go_upto_region 4 with (fail)
    refine wp_region_tx w hK ?_
    clear hK
    iterate 3 (apply txF (wants0 rfl); (· intro w' hK; go_simp; (try go_bits); exact ⟨rfl, rfl⟩); simp only [Act.put, pA, pB, pC])
    obtain ⟨b2, hb2⟩ : ∃ b : Bool, RowKit.Hid (decide (((i : Int)) < ((xs.length : Int))) = b) := ⟨_, hid rfl⟩
    apply txB b2 (wants0 rfl); (· intro w' hK; go_simp; (try go_bits); exact ⟨by have q := hb2.out; subst q; first | rfl | simp, rfl⟩); simp only [Act.put, pA, pB, pC]
    refine txEnd (fun W4 hK => ?_)
    cases b2
    · --
     have q_b2 : ((xs.length : Int)) ≤ ((i : Int)) := Int.not_lt.1 (of_decide_eq_false hb2.out)
     go_wp2
     try go_ret
     show Q0 (.returned (.bool true)) _
     exact (by obtain rfl := hQ0.out; exact ⟨(ret_bool (decide_eq_true (by have q := ht.out; have := hlen.out; rwa [List.take_of_length_le (by omega), List.take_of_length_le (by omega)] at q)).symm), hK.old⟩)
    · --
     have q_b2 : ((i : Int)) < ((xs.length : Int)) := of_decide_eq_true hb2.out
     obtain ⟨x6, ex6⟩ : ∃ x, RowKit.Hid (xs[i]? = some x) := ⟨_, hid (List.getElem?_eq_getElem (show i < xs.length from (by omega)))⟩
     have i5 : i < xs.length := by have q : i < xs.length := (by omega); first | exact q | (simp at q; omega) | omega
     obtain ⟨g5, o5, q5, l5⟩ := (h0_0).ptr ex6.out
     subst q5
     replace hK := KS.atD hK (h0_0.below hK.old) ex6.out
     obtain ⟨y6, ey6⟩ : ∃ x, RowKit.Hid (ys[i]? = some x) := ⟨_, hid (List.getElem?_eq_getElem (show i < ys.length from (by have := hlen.out; omega)))⟩
     have i6 : i < ys.length := by have q : i < ys.length := (by have := hlen.out; omega); first | exact q | (simp at q; omega) | omega
     obtain ⟨g6, o6, q6, l6⟩ := (h1_0).ptr ey6.out
     subst q6
     replace hK := KS.atD hK (h1_0.below hK.old) ey6.out
     go_upto_region 6 with (fail)
     have hK0 := hK
     refine wp_region_float0 (w) _ _ [0, 0, 0, 0, 0, 0, 0, 0, 0] (by kernel_rfl) (by kernel_rfl) (by kernel_rfl) (by kernel_rfl) (KS.drew hK0) (KS.drew hK) ?_
     clear hK hK0
     iterate 3 (apply lxF0 (wants0 rfl); (· intro w' h0; go_simp; (try go_bits); exact ⟨rfl, rfl⟩); simp only [Act.put, pA, pB, pC])
     apply lxF0 (wants0 rfl); (· intro w' h0; have c_CEL5_0 : w'.cell? ⟨g5, o5 + i * 4, none⟩ = some (.int .i64 x6.s) := (by have q := (h0.get m1).2 0 _ rfl; simpa using q); have c_CEL5_1 : w'.cell? ⟨g5, o5 + i * 4 + 1, none⟩ = some (.int .i64 x6.d) := (by have q := (h0.get m1).2 1 _ rfl; simpa using q); have c_CEL5_2 : w'.cell? ⟨g5, o5 + i * 4 + 2, none⟩ = some (.int .i64 x6.a) := (by have q := (h0.get m1).2 2 _ rfl; simpa using q); have c_CEL5_3 : w'.cell? ⟨g5, o5 + i * 4 + 3, none⟩ = some (.int .i64 x6.p) := (by have q := (h0.get m1).2 3 _ rfl; simpa using q); go_simp; (try go_bits); exact ⟨rfl, rfl⟩); simp only [Act.put, pA, pB, pC]
     iterate 3 (apply lxF0 (wants0 rfl); (· intro w' h0; go_simp; (try go_bits); exact ⟨rfl, rfl⟩); simp only [Act.put, pA, pB, pC])
     apply lxF0 (wants0 rfl); (· intro w' h0; have c_CEL6_0 : w'.cell? ⟨g6, o6 + i * 4, none⟩ = some (.int .i64 y6.s) := (by have q := (h0.get m0).2 0 _ rfl; simpa using q); have c_CEL6_1 : w'.cell? ⟨g6, o6 + i * 4 + 1, none⟩ = some (.int .i64 y6.d) := (by have q := (h0.get m0).2 1 _ rfl; simpa using q); have c_CEL6_2 : w'.cell? ⟨g6, o6 + i * 4 + 2, none⟩ = some (.int .i64 y6.a) := (by have q := (h0.get m0).2 2 _ rfl; simpa using q); have c_CEL6_3 : w'.cell? ⟨g6, o6 + i * 4 + 3, none⟩ = some (.int .i64 y6.p) := (by have q := (h0.get m0).2 3 _ rfl; simpa using q); go_simp; (try go_bits); exact ⟨rfl, rfl⟩); simp only [Act.put, pA, pB, pC]
     obtain ⟨b3, hb3⟩ : ∃ b : Bool, RowKit.Hid ((!(decide (x6.s = y6.s) && decide (x6.d = y6.d) && decide (x6.a = y6.a) && decide (x6.p = y6.p))) = b) := ⟨_, hid rfl⟩
     apply lxB0 b3 (wants0 rfl); (· intro w' h0; go_simp; (try go_bits); have q := hb3.out; subst q; (repeat' split) <;> exact ⟨congrArg Value.bool (by simp_all), rfl⟩); simp only [Act.put, pA, pB, pC]
     refine lxEnd (fun W7 hK => ?_)
     cases b3
     · --
      (try go_wp2)
      go_roundw
      case rel => exact ⟨i + 1, (by first | rfl | go_num), (by omega), (hid (by have q := hb3.out; simp at q; rw [List.take_add_one, List.take_add_one, ht.out, ex6.out, ey6.out, show x6 = y6 from Dm.eq q.1.1.1 q.1.1.2 q.1.2 q.2])), ⟨hK.old, aN⟩⟩
      case measure => simp [intOf]; omega
     · --
      go_wp2
      try go_ret
      show Q0 (.returned (.bool false)) _
      exact (by obtain rfl := hQ0.out; exact ⟨(ret_bool (decide_eq_false (fun e => by have q := hb3.out; have e2 := ex6.out.symm.trans ((congrArg (fun l => l[i]?) e).trans ey6.out); obtain rfl := Option.some.inj e2; simp at q)).symm), hK.old⟩)
  · --
   go_wp2
   try go_ret
   show Q0 (.returned (.bool false)) _
   exact (by obtain rfl := hQ0.out; exact ⟨(ret_bool (decide_eq_false (fun e => by have q := hb1.out; rw [e] at q; simp at q)).symm), hK.old⟩)
set_option maxRecDepth 100000 in
theorem copied_any (v0 : Value) (xs : List Dm) (w : World) (h0 : SlV demK w v0 xs) (hl : xs.length ≤ 100000) :
    Calls Tryd.prog 17 #[v0] w fun e w' => ∃ y0, e = .returned y0 ∧ OwV demK 25 w.heap.size w' y0 xs ∧ Below w.heap.size w w' := by
  have h0_0 := h0; obtain ⟨p_h0, c_h0, rfl, n_h0⟩ := h0.sh
  have hK : KS w [] w := (KS.start w)
  refine Calls.hide (fun Q0 hQ0 => ?_)
  go_enter Tryd.func17, Tryd.ntmps17
  go_upto_region 1 with (fail)
  refine wp_region_tx w hK ?_
  clear hK
  apply txA (.cells #[] 25) (wants0 rfl)
  · intro w' hK; go_simp; rfl
  intro R1 q_R1
  clear q_R1
  simp only [mkOf, Act.put, pA, pB, pC]
  apply txF (wants0 rfl); (· intro w' hK; go_simp; (try go_bits); exact ⟨rfl, rfl⟩); simp only [Act.put, pA, pB, pC]
  refine txApp (K := demK) (t := 25) (xs := ([] : List Dm)) (ys := xs) (.tmp 3) (.tmp 4) (wants0 rfl) (by rfl) Tryd.underlying22 Tryd.underlying22 infoDm rfl (by rfl) (by rfl) (by simp [maxLen]; omega) (by simp; omega) (fun r => []) (fun w' hK => ⟨(OwV.empty (hK.get m0)), (fun _ _ => .inl demK_free), (h0_0.below hK.old)⟩) (fun w' r hK hr => aN) ?_
  intro sv2
  rw [List.nil_append]
  simp only [Act.put, pA, pB, pC]
  apply txF (wants0 rfl); (· intro w' hK; go_simp; (try go_bits); exact ⟨rfl, rfl⟩); simp only [Act.put, pA, pB, pC]
  refine txEnd (fun W3 hK => ?_)
  go_wp2
  try go_ret
  show Q0 (.returned (.slice sv2.p xs.length sv2.c)) _
  exact (by obtain rfl := hQ0.out; exact ⟨_, rfl, (hK.get m0), hK.old⟩)
end Go.Proofs.YthkoaaneikhjjaaDoor
