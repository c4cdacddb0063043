/- Text of the program walked. -/
import Derived.Test.YtjhgkojbpgakcaaGreatDoorDemA
import Derived.Test.YtjhgkojbpgakcaaGreatDoorDemT
import Derived.Test.YtjhgkojbpgakcaaGreatDoorNrG
import Derived.Test.YtjhgkojbpgakcaaGreatDoorBldK
namespace Go.Proofs.YtjhgkojbpgakcaaGreatDoor
open Go.RowKit
open Go.Lib (decDigits)
theorem ditoa_t (n : Int) (w : World) (h0 : 0 ≤ n) (h1 : n ≤ 9223372036854775807) (ht : Tab w) :
    Calls Tryz.prog 48 #[.int .i64 n] w fun e w' => e = .returned (.string ⟨(decDigits n.toNat).toArray⟩) ∧ Below w.heap.size w w' := by
  obtain ⟨m, rfl⟩ : ∃ m : Nat, n = (m : Int) := ⟨n.toNat, by omega⟩
  exact itoa_any m w (by omega) ht
set_option maxRecDepth 100000 in
set_option maxHeartbeats 2000000 in
theorem dtext_any (v0 : Value) (xs : List Dm) (w : World) (h0 : SlV demK w v0 xs) (hB0 : Tab w) (hl : xs.length ≤ 100000) :
    Calls Tryz.prog 21 #[v0] w fun e w' => e = .returned (.string ⟨(textD xs).toArray⟩) ∧ Below w.heap.size w w' := by
  have h0_0 := h0; obtain ⟨p_h0, c_h0, rfl, n_h0⟩ := h0.sh
  have hK : KS w [] w := (KS.start w)
  refine Calls.hide (fun Q0 hQ0 => ?_)
  go_enter Tryz.func21, Tryz.ntmps21
  go_upto_region 1 with (fail)
  refine wp_region_tx w hK ?_
  clear hK
  apply txF (wants0 rfl); (· intro w' hK; go_simp; (try go_bits); exact ⟨rfl, rfl⟩); simp only [Act.put, pA, pB, pC]
  obtain ⟨b1, hb1⟩ : ∃ b : Bool, RowKit.Hid ((vldD 64 xs) = b) := ⟨_, hid rfl⟩
  apply txH (v := .bool b1) (wants0 rfl)
  · intro v1 hv1 w' hK; go_simp; (try go_bits); refine (valid_any (.slice p_h0 xs.length c_h0) 64 xs w' (h0_0.below hK.old) (by omega)).mono ?_; rintro e w5 ⟨rfl, hb⟩; obtain rfl := hv1.out; exact ⟨_, rfl, (by rw [hb1.out]), hb⟩
  simp only [Act.put, pA, pB, pC]
  apply txF (wants0 rfl); (· intro w' hK; go_simp; (try go_bits); exact ⟨rfl, rfl⟩); simp only [Act.put, pA, pB, pC]
  refine txEnd (fun W1 hK => ?_)
  cases b1
  · --
   go_wp2
   try go_ret
   show Q0 (.returned (.string { data := #[] })) _
   exact (by obtain rfl := hQ0.out; exact ⟨(by rw [textD_f hb1.out]), hK.old⟩)
  · --
   go_upto_region 3 with (fail)
   refine wp_region_tx w hK ?_
   clear hK
   apply txA (.cells #[.pointer none, .slice none 0 0] 85) (wants0 rfl)
   · intro w' hK; go_simp; rfl
   intro R2 q_R2
   clear q_R2
   simp only [mkOf, Act.put, pA, pB, pC]
   refine txEnd (fun W3 hK => ?_)
   go_wp2_with fail
   go_loopw [13] (fun s13 wl => ∃ (k : Nat), s13 = .int .i64 (k : Int) ∧ (k ≤ xs.length) ∧ KS w [BdK w.heap.size R2 (lnsD (xs.take k))] wl) (fun s13 _ => xs.length - (intOf s13).toNat)
   case atStart => exact ⟨0, rfl, (by omega), ⟨hK.old, (al1 (fun w' hb => BdK.new (hK.all _ m0 w' hb)) aN)⟩⟩
   case round =>
    clear hK
    obtain ⟨k, rfl, hk, hK⟩ := hrel
    generalize wr = W4 at hK ⊢
    go_upto_region 5 with (fail)
    refine wp_region_tx w hK ?_
    clear hK
    obtain ⟨b2, hb2⟩ : ∃ b : Bool, RowKit.Hid (decide (((k : Int)) < ((xs.length : Int))) = b) := ⟨_, hid rfl⟩
    apply txB b2 (wants0 rfl); (· intro w' hK; go_simp; (try go_bits); exact ⟨by have q := hb2.out; subst q; first | rfl | simp, rfl⟩); simp only [Act.put, pA, pB, pC]
    refine txEnd (fun W5 hK => ?_)
    cases b2
    · --
     have q_b2 : ((xs.length : Int)) ≤ ((k : Int)) := Int.not_lt.1 (of_decide_eq_false hb2.out)
     go_upto_region 16 with (fail)
     refine wp_region_tx w hK ?_
     clear hK
     refine txBdK R2 (.string ⟨(lnsD (xs.take k)).toArray⟩) (fun _ => True) [] (wants0 rfl) (fun w' hK => (hK.get m0).1) (fun w' hK => aN) ?_ ?_
     · intro v1 F1 hv1 w' hK; go_simp; (try go_bits); refine (bk_get w' (hK.get m0)).mono ?_; rintro e w5 ⟨rfl, h2⟩; obtain ⟨rfl, rfl⟩ := hv1.out; exact ⟨_, rfl, rfl, h2, fun _ _ => trivial⟩
     simp only [Act.put, pA, pB, pC]
     apply txF (wants0 rfl); (· intro w' hK; go_simp; (try go_bits); exact ⟨rfl, rfl⟩); simp only [Act.put, pA, pB, pC]
     refine txEnd (fun W6 hK => ?_)
     go_wp2
     try go_ret
     show Q0 (.returned (.string ⟨(lnsD (xs.take k)).toArray⟩)) _
     exact (by obtain rfl := hQ0.out; exact ⟨(by rw [textD_t hb1.out, show xs.take k = xs from List.take_of_length_le (by omega)]), hK.old⟩)
    · --
     have q_b2 : ((k : Int)) < ((xs.length : Int)) := of_decide_eq_true hb2.out
     obtain ⟨x6, ex6⟩ : ∃ x, RowKit.Hid (xs[k]? = some x) := ⟨_, hid (List.getElem?_eq_getElem (show k < xs.length from (by omega)))⟩
     have i7 : k < xs.length := by have q : k < xs.length := (by omega); first | exact q | (simp at q; omega) | omega
     obtain ⟨g7, o7, q7, l7⟩ := (h0_0).ptr ex6.out
     subst q7
     replace hK := KS.atD hK (h0_0.below hK.old) ex6.out
     have hok := (vldD_iff.1 hb1.out).2.2.2 x6 (List.mem_of_getElem? ex6.out); have hok2 := hid hok; unfold OkD at hok; have hlb := lns_bd hb1.out k
     go_upto_region 6 with (fail)
     refine wp_region_tx w hK ?_
     clear hK
     apply txF (wants0 rfl); (· intro w' hK; go_simp; (try go_bits); exact ⟨rfl, rfl⟩); simp only [Act.put, pA, pB, pC]
     apply txF (wants0 rfl); (· intro w' hK; have c_CEL7_0 : w'.cell? ⟨g7, o7 + k * 4, none⟩ = some (.int .i64 x6.s) := (by have q := (hK.get m0).2 0 _ rfl; simpa using q); have c_CEL7_1 : w'.cell? ⟨g7, o7 + k * 4 + 1, none⟩ = some (.int .i64 x6.d) := (by have q := (hK.get m0).2 1 _ rfl; simpa using q); have c_CEL7_2 : w'.cell? ⟨g7, o7 + k * 4 + 2, none⟩ = some (.int .i64 x6.a) := (by have q := (hK.get m0).2 2 _ rfl; simpa using q); have c_CEL7_3 : w'.cell? ⟨g7, o7 + k * 4 + 3, none⟩ = some (.int .i64 x6.p) := (by have q := (hK.get m0).2 3 _ rfl; simpa using q); go_simp; (try go_bits); exact ⟨rfl, rfl⟩); simp only [Act.put, pA, pB, pC]
     apply txA2 (.cells #[.int .i64 0, .int .i64 0, .int .i64 0, .int .i64 0] 53) (wants0 rfl)
     · intro w' hK; go_simp; rfl
     intro R8 q_R8
     have o_R2_R8 : R2 < R8 := q_R8.bdk m1
     clear q_R8
     simp only [mkOf, Act.put, pA, pB, pC]
     apply txU 0 (Has w.heap.size R8 (.cells #[.int .i64 x6.s, .int .i64 x6.d, .int .i64 x6.a, .int .i64 x6.p] 53)) (wants0 rfl)
     · intro l1 hl1 w' hK; have k_R8 := (hK.get m0); have ⟨c_R8_0, c_R8_1, c_R8_2, c_R8_3⟩ := k_R8.c4; have f_R8 := k_R8.fz; go_simp; obtain rfl := hl1.out; exact ⟨rfl, ks_put (R := R8) hK k_R8.1 0 [.int .i64 x6.s, .int .i64 x6.d, .int .i64 x6.a, .int .i64 x6.p] (al1 (fun _ => has_put k_R8 _ _) (al1 (spC (Nat.ne_of_lt (Nat.lt_of_lt_of_le l7 k_R8.1)) (hK.get m1)) (al1 (spBK k_R8 (by decide) (Nat.ne_of_lt o_R2_R8) (hK.get m2)) aN)))⟩
     simp only [Act.put, pB]
     refine txEnd (fun W9 hK => ?_)
     go_upto_region 7 with (fail)
     refine wp_region_tx w hK ?_
     clear hK
     refine txBdK R2 (.tuple #[.int .i64 ((([100, 101, 109, 97, 110, 100] : List UInt8)).length : Int), .nilIface]) (BdK w.heap.size R2 (preD (lnsD (xs.take k)) x6 0)) [Has w.heap.size R8 (.cells #[.int .i64 x6.s, .int .i64 x6.d, .int .i64 x6.a, .int .i64 x6.p] 53)] (wants0 rfl) (fun w' hK => (hK.get m2).1) (fun w' hK => (al1 (lkG (hK.get m0) o_R2_R8 (by decide)) aN)) ?_ ?_
     · intro v1 F1 hv1 w' hK; go_simp; (try go_bits); refine (bk_str (([100, 101, 109, 97, 110, 100] : List UInt8)) w' (hK.get m2) (by simp; omega)).mono ?_; rintro e w5 ⟨rfl, h1, h2⟩; obtain ⟨rfl, rfl⟩ := hv1.out; rw [pre_zero] at h1; exact ⟨_, rfl, rfl, h2, fun w2 hb => h1.below hb⟩
     simp only [Act.put, pA, pB, pC]
     refine txEnd (fun W10 hK => ?_)
     go_upto_region 8 with (fail)
     refine wp_region_tx w hK ?_
     clear hK
     apply txF (wants0 rfl); (· intro w' hK; go_simp; (try go_bits); exact ⟨rfl, rfl⟩); simp only [Act.put, pA, pB, pC]
     apply txF (wants0 rfl); (· intro w' hK; have k_R8 := (hK.get m1); have c_R8_0 := k_R8.at 0 rfl; go_simp; (try go_bits); exact ⟨rfl, rfl⟩); simp only [Act.put, pA, pB, pC]
     apply txF (wants0 rfl); (· intro w' hK; go_simp; (try go_bits); exact ⟨rfl, rfl⟩); simp only [Act.put, pA, pB, pC]
     apply txF (wants0 rfl); (· intro w' hK; have k_R8 := (hK.get m1); have c_R8_1 := k_R8.at 1 rfl; go_simp; (try go_bits); exact ⟨rfl, rfl⟩); simp only [Act.put, pA, pB, pC]
     apply txF (wants0 rfl); (· intro w' hK; go_simp; (try go_bits); exact ⟨rfl, rfl⟩); simp only [Act.put, pA, pB, pC]
     apply txF (wants0 rfl); (· intro w' hK; have k_R8 := (hK.get m1); have c_R8_2 := k_R8.at 2 rfl; go_simp; (try go_bits); exact ⟨rfl, rfl⟩); simp only [Act.put, pA, pB, pC]
     apply txF (wants0 rfl); (· intro w' hK; go_simp; (try go_bits); exact ⟨rfl, rfl⟩); simp only [Act.put, pA, pB, pC]
     apply txF (wants0 rfl); (· intro w' hK; have k_R8 := (hK.get m1); have c_R8_3 := k_R8.at 3 rfl; go_simp; (try go_bits); exact ⟨rfl, rfl⟩); simp only [Act.put, pA, pB, pC]
     iterate 2 (apply txF (wants0 rfl); (· intro w' hK; go_simp; (try go_bits); exact ⟨rfl, rfl⟩); simp only [Act.put, pA, pB, pC])
     refine txEnd (fun W11 hK => ?_)
     go_wp2_with fail
     go_loopw [27] (fun s27 wl => ∃ (j : Nat), s27 = .int .i64 (j : Int) ∧ (j ≤ 4) ∧ KS w [BdK w.heap.size R2 (preD (lnsD (xs.take k)) x6 j)] wl) (fun s27 _ => 4 - (intOf s27).toNat)
     case atStart => exact ⟨0, rfl, (by omega), ⟨hK.old, (al1 (hK.all _ m0) aN)⟩⟩
     case round =>
      clear hK
      obtain ⟨j, rfl, hj, hK⟩ := hrel
      generalize wr = W12 at hK ⊢
      go_upto_region 9 with (fail)
      refine wp_region_tx w hK ?_
      clear hK
      obtain ⟨b3, hb3⟩ : ∃ b : Bool, RowKit.Hid (decide (((j : Int)) < 4) = b) := ⟨_, hid rfl⟩
      apply txB b3 (wants0 rfl); (· intro w' hK; go_simp; (try go_bits); exact ⟨by have q := hb3.out; subst q; first | rfl | simp, rfl⟩); simp only [Act.put, pA, pB, pC]
      refine txEnd (fun W13 hK => ?_)
      cases b3
      · --
       have q_b3 : 4 ≤ ((j : Int)) := Int.not_lt.1 (of_decide_eq_false hb3.out)
       go_upto_region 14 with (fail)
       refine wp_region_tx w hK ?_
       clear hK
       refine txBdK R2 (.nilIface) (BdK w.heap.size R2 (lnsD (xs.take (k + 1)))) [] (wants0 rfl) (fun w' hK => (hK.get m0).1) (fun w' hK => aN) ?_ ?_
       · intro v1 F1 hv1 w' hK; go_simp; (try go_bits); refine (bk_byte 10 w' (hK.get m0) (by have := pre_len (L := lnsD (xs.take k)) hok2.out (j := j) hj; omega)).mono ?_; rintro e w5 ⟨rfl, h1, h2⟩; obtain ⟨rfl, rfl⟩ := hv1.out; rw [pre_end ex6.out (show j = 4 by omega)] at h1; exact ⟨_, rfl, rfl, h2, fun w2 hb => h1.below hb⟩
       simp only [Act.put, pA, pB, pC]
       refine txEnd (fun W14 hK => ?_)
       (try go_wp2)
       go_roundw
       case rel => exact ⟨k + 1, (by first | rfl | go_num), (by omega), ⟨hK.old, (al1 (hK.all _ m0) aN)⟩⟩
       case measure => simp [intOf]; omega
      · --
       have q_b3 : ((j : Int)) < 4 := of_decide_eq_true hb3.out
       rcases (show j = 0 ∨ j = 1 ∨ j = 2 ∨ j = 3 by omega) with rfl | rfl | rfl | rfl
       · --
        have hpl := pre_len (L := lnsD (xs.take k)) hok2.out (j := 0) (by omega)
        have hfl := fld_len hok2.out 0; unfold fldD at hfl
        try simp only [] at hfl
        go_upto_region 10 with (fail)
        refine wp_region_tx w hK ?_
        clear hK
        apply txF (v := .int .i64 x6.s) (wants0 rfl); (· intro w' hK; go_simp; (try go_bits); exact ⟨rfl, rfl⟩); simp only [Act.put, pA, pB, pC]
        apply txF (wants0 rfl); (· intro w' hK; go_simp; (try go_bits); exact ⟨rfl, rfl⟩); simp only [Act.put, pA, pB, pC]
        refine txEnd (fun W15 hK => ?_)
        go_upto_region 11 with (fail)
        refine wp_region_tx w hK ?_
        clear hK
        refine txBdK R2 (.nilIface) (BdK w.heap.size R2 ((preD (lnsD (xs.take k)) x6 0) ++ [32])) [] (wants0 rfl) (fun w' hK => (hK.get m0).1) (fun w' hK => aN) ?_ ?_
        · intro v1 F1 hv1 w' hK; go_simp; (try go_bits); refine (bk_byte 32 w' (hK.get m0) (by omega)).mono ?_; rintro e w5 ⟨rfl, h1, h2⟩; obtain ⟨rfl, rfl⟩ := hv1.out; exact ⟨_, rfl, rfl, h2, fun w2 hb => h1.below hb⟩
        simp only [Act.put, pA, pB, pC]
        refine txEnd (fun W16 hK => ?_)
        go_upto_region 12 with (fail)
        refine wp_region_tx w hK ?_
        clear hK
        apply txF (wants0 rfl); (· intro w' hK; go_simp; (try go_bits); exact ⟨rfl, rfl⟩); simp only [Act.put, pA, pB, pC]
        apply txH (v := .string ⟨(decDigits (x6.s).toNat).toArray⟩) (wants0 rfl)
        · intro v1 hv1 w' hK; go_simp; (try go_bits); refine (ditoa_t x6.s w' (by omega) (by omega) (hB0.below hK.old)).mono ?_; rintro e w5 ⟨rfl, hb⟩; obtain rfl := hv1.out; exact ⟨_, rfl, rfl, hb⟩
        simp only [Act.put, pA, pB, pC]
        refine txBdK R2 (.tuple #[.int .i64 ((decDigits (x6.s).toNat).length : Int), .nilIface]) (BdK w.heap.size R2 (preD (lnsD (xs.take k)) x6 1)) [] (wants0 rfl) (fun w' hK => (hK.get m0).1) (fun w' hK => aN) ?_ ?_
        · intro v1 F1 hv1 w' hK; go_simp; (try go_bits); refine (bk_str (decDigits (x6.s).toNat) w' (hK.get m0) (by simp; omega)).mono ?_; rintro e w5 ⟨rfl, h1, h2⟩; obtain ⟨rfl, rfl⟩ := hv1.out; rw [show preD (lnsD (xs.take k)) x6 0 ++ [32] ++ decDigits (x6.s).toNat = preD (lnsD (xs.take k)) x6 1 from pre_step _ _ 0] at h1; exact ⟨_, rfl, rfl, h2, fun w2 hb => h1.below hb⟩
        simp only [Act.put, pA, pB, pC]
        refine txEnd (fun W17 hK => ?_)
        (try go_wp2)
        go_roundw
        case rel => exact ⟨1, (by first | rfl | go_num), (by omega), ⟨hK.old, (al1 (hK.all _ m0) aN)⟩⟩
        case measure => simp [intOf] <;> omega
       · --
        have hpl := pre_len (L := lnsD (xs.take k)) hok2.out (j := 1) (by omega)
        have hfl := fld_len hok2.out 1; unfold fldD at hfl
        try simp only [] at hfl
        go_upto_region 10 with (fail)
        refine wp_region_tx w hK ?_
        clear hK
        apply txF (v := .int .i64 x6.d) (wants0 rfl); (· intro w' hK; go_simp; (try go_bits); exact ⟨rfl, rfl⟩); simp only [Act.put, pA, pB, pC]
        apply txF (wants0 rfl); (· intro w' hK; go_simp; (try go_bits); exact ⟨rfl, rfl⟩); simp only [Act.put, pA, pB, pC]
        refine txEnd (fun W18 hK => ?_)
        go_upto_region 11 with (fail)
        refine wp_region_tx w hK ?_
        clear hK
        refine txBdK R2 (.nilIface) (BdK w.heap.size R2 ((preD (lnsD (xs.take k)) x6 1) ++ [32])) [] (wants0 rfl) (fun w' hK => (hK.get m0).1) (fun w' hK => aN) ?_ ?_
        · intro v1 F1 hv1 w' hK; go_simp; (try go_bits); refine (bk_byte 32 w' (hK.get m0) (by omega)).mono ?_; rintro e w5 ⟨rfl, h1, h2⟩; obtain ⟨rfl, rfl⟩ := hv1.out; exact ⟨_, rfl, rfl, h2, fun w2 hb => h1.below hb⟩
        simp only [Act.put, pA, pB, pC]
        refine txEnd (fun W19 hK => ?_)
        go_upto_region 12 with (fail)
        refine wp_region_tx w hK ?_
        clear hK
        apply txF (wants0 rfl); (· intro w' hK; go_simp; (try go_bits); exact ⟨rfl, rfl⟩); simp only [Act.put, pA, pB, pC]
        apply txH (v := .string ⟨(decDigits (x6.d).toNat).toArray⟩) (wants0 rfl)
        · intro v1 hv1 w' hK; go_simp; (try go_bits); refine (ditoa_t x6.d w' (by omega) (by omega) (hB0.below hK.old)).mono ?_; rintro e w5 ⟨rfl, hb⟩; obtain rfl := hv1.out; exact ⟨_, rfl, rfl, hb⟩
        simp only [Act.put, pA, pB, pC]
        refine txBdK R2 (.tuple #[.int .i64 ((decDigits (x6.d).toNat).length : Int), .nilIface]) (BdK w.heap.size R2 (preD (lnsD (xs.take k)) x6 2)) [] (wants0 rfl) (fun w' hK => (hK.get m0).1) (fun w' hK => aN) ?_ ?_
        · intro v1 F1 hv1 w' hK; go_simp; (try go_bits); refine (bk_str (decDigits (x6.d).toNat) w' (hK.get m0) (by simp; omega)).mono ?_; rintro e w5 ⟨rfl, h1, h2⟩; obtain ⟨rfl, rfl⟩ := hv1.out; rw [show preD (lnsD (xs.take k)) x6 1 ++ [32] ++ decDigits (x6.d).toNat = preD (lnsD (xs.take k)) x6 2 from pre_step _ _ 1] at h1; exact ⟨_, rfl, rfl, h2, fun w2 hb => h1.below hb⟩
        simp only [Act.put, pA, pB, pC]
        refine txEnd (fun W20 hK => ?_)
        (try go_wp2)
        go_roundw
        case rel => exact ⟨2, (by first | rfl | go_num), (by omega), ⟨hK.old, (al1 (hK.all _ m0) aN)⟩⟩
        case measure => simp [intOf] <;> omega
       · --
        have hpl := pre_len (L := lnsD (xs.take k)) hok2.out (j := 2) (by omega)
        have hfl := fld_len hok2.out 2; unfold fldD at hfl
        try simp only [] at hfl
        go_upto_region 10 with (fail)
        refine wp_region_tx w hK ?_
        clear hK
        apply txF (v := .int .i64 x6.a) (wants0 rfl); (· intro w' hK; go_simp; (try go_bits); exact ⟨rfl, rfl⟩); simp only [Act.put, pA, pB, pC]
        apply txF (wants0 rfl); (· intro w' hK; go_simp; (try go_bits); exact ⟨rfl, rfl⟩); simp only [Act.put, pA, pB, pC]
        refine txEnd (fun W21 hK => ?_)
        go_upto_region 11 with (fail)
        refine wp_region_tx w hK ?_
        clear hK
        refine txBdK R2 (.nilIface) (BdK w.heap.size R2 ((preD (lnsD (xs.take k)) x6 2) ++ [32])) [] (wants0 rfl) (fun w' hK => (hK.get m0).1) (fun w' hK => aN) ?_ ?_
        · intro v1 F1 hv1 w' hK; go_simp; (try go_bits); refine (bk_byte 32 w' (hK.get m0) (by omega)).mono ?_; rintro e w5 ⟨rfl, h1, h2⟩; obtain ⟨rfl, rfl⟩ := hv1.out; exact ⟨_, rfl, rfl, h2, fun w2 hb => h1.below hb⟩
        simp only [Act.put, pA, pB, pC]
        refine txEnd (fun W22 hK => ?_)
        go_upto_region 12 with (fail)
        refine wp_region_tx w hK ?_
        clear hK
        apply txF (wants0 rfl); (· intro w' hK; go_simp; (try go_bits); exact ⟨rfl, rfl⟩); simp only [Act.put, pA, pB, pC]
        apply txH (v := .string ⟨(decDigits (x6.a).toNat).toArray⟩) (wants0 rfl)
        · intro v1 hv1 w' hK; go_simp; (try go_bits); refine (ditoa_t x6.a w' (by omega) (by omega) (hB0.below hK.old)).mono ?_; rintro e w5 ⟨rfl, hb⟩; obtain rfl := hv1.out; exact ⟨_, rfl, rfl, hb⟩
        simp only [Act.put, pA, pB, pC]
        refine txBdK R2 (.tuple #[.int .i64 ((decDigits (x6.a).toNat).length : Int), .nilIface]) (BdK w.heap.size R2 (preD (lnsD (xs.take k)) x6 3)) [] (wants0 rfl) (fun w' hK => (hK.get m0).1) (fun w' hK => aN) ?_ ?_
        · intro v1 F1 hv1 w' hK; go_simp; (try go_bits); refine (bk_str (decDigits (x6.a).toNat) w' (hK.get m0) (by simp; omega)).mono ?_; rintro e w5 ⟨rfl, h1, h2⟩; obtain ⟨rfl, rfl⟩ := hv1.out; rw [show preD (lnsD (xs.take k)) x6 2 ++ [32] ++ decDigits (x6.a).toNat = preD (lnsD (xs.take k)) x6 3 from pre_step _ _ 2] at h1; exact ⟨_, rfl, rfl, h2, fun w2 hb => h1.below hb⟩
        simp only [Act.put, pA, pB, pC]
        refine txEnd (fun W23 hK => ?_)
        (try go_wp2)
        go_roundw
        case rel => exact ⟨3, (by first | rfl | go_num), (by omega), ⟨hK.old, (al1 (hK.all _ m0) aN)⟩⟩
        case measure => simp [intOf] <;> omega
       · --
        have hpl := pre_len (L := lnsD (xs.take k)) hok2.out (j := 3) (by omega)
        have hfl := fld_len hok2.out 3; unfold fldD at hfl
        try simp only [] at hfl
        go_upto_region 10 with (fail)
        refine wp_region_tx w hK ?_
        clear hK
        apply txF (v := .int .i64 x6.p) (wants0 rfl); (· intro w' hK; go_simp; (try go_bits); exact ⟨rfl, rfl⟩); simp only [Act.put, pA, pB, pC]
        apply txF (wants0 rfl); (· intro w' hK; go_simp; (try go_bits); exact ⟨rfl, rfl⟩); simp only [Act.put, pA, pB, pC]
        refine txEnd (fun W24 hK => ?_)
        go_upto_region 11 with (fail)
        refine wp_region_tx w hK ?_
        clear hK
        refine txBdK R2 (.nilIface) (BdK w.heap.size R2 ((preD (lnsD (xs.take k)) x6 3) ++ [32])) [] (wants0 rfl) (fun w' hK => (hK.get m0).1) (fun w' hK => aN) ?_ ?_
        · intro v1 F1 hv1 w' hK; go_simp; (try go_bits); refine (bk_byte 32 w' (hK.get m0) (by omega)).mono ?_; rintro e w5 ⟨rfl, h1, h2⟩; obtain ⟨rfl, rfl⟩ := hv1.out; exact ⟨_, rfl, rfl, h2, fun w2 hb => h1.below hb⟩
        simp only [Act.put, pA, pB, pC]
        refine txEnd (fun W25 hK => ?_)
        go_upto_region 12 with (fail)
        refine wp_region_tx w hK ?_
        clear hK
        apply txF (wants0 rfl); (· intro w' hK; go_simp; (try go_bits); exact ⟨rfl, rfl⟩); simp only [Act.put, pA, pB, pC]
        apply txH (v := .string ⟨(decDigits (x6.p).toNat).toArray⟩) (wants0 rfl)
        · intro v1 hv1 w' hK; go_simp; (try go_bits); refine (ditoa_t x6.p w' (by omega) (by omega) (hB0.below hK.old)).mono ?_; rintro e w5 ⟨rfl, hb⟩; obtain rfl := hv1.out; exact ⟨_, rfl, rfl, hb⟩
        simp only [Act.put, pA, pB, pC]
        refine txBdK R2 (.tuple #[.int .i64 ((decDigits (x6.p).toNat).length : Int), .nilIface]) (BdK w.heap.size R2 (preD (lnsD (xs.take k)) x6 4)) [] (wants0 rfl) (fun w' hK => (hK.get m0).1) (fun w' hK => aN) ?_ ?_
        · intro v1 F1 hv1 w' hK; go_simp; (try go_bits); refine (bk_str (decDigits (x6.p).toNat) w' (hK.get m0) (by simp; omega)).mono ?_; rintro e w5 ⟨rfl, h1, h2⟩; obtain ⟨rfl, rfl⟩ := hv1.out; rw [show preD (lnsD (xs.take k)) x6 3 ++ [32] ++ decDigits (x6.p).toNat = preD (lnsD (xs.take k)) x6 4 from pre_step _ _ 3] at h1; exact ⟨_, rfl, rfl, h2, fun w2 hb => h1.below hb⟩
        simp only [Act.put, pA, pB, pC]
        refine txEnd (fun W26 hK => ?_)
        (try go_wp2)
        go_roundw
        case rel => exact ⟨4, (by first | rfl | go_num), (by omega), ⟨hK.old, (al1 (hK.all _ m0) aN)⟩⟩
        case measure => simp [intOf] <;> omega
end Go.Proofs.YtjhgkojbpgakcaaGreatDoor
