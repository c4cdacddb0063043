/- Texts of prefixes walked. -/
import Derived.Test.YtbbjjjaclbkolaaGreatDoorPfxC
import Derived.Test.YtbbjjjaclbkolaaGreatDoorPfxT
import Derived.Test.YtbbjjjaclbkolaaGreatDoorBasP
import Derived.Test.YtbbjjjaclbkolaaGreatDoorBld
namespace Go.Proofs.YtbbjjjaclbkolaaGreatDoor
open Go.RowKit
open Go.Lib (decDigits)
theorem shr_byt (a k : Nat) (hk : k < 4) : ((a : Int) / 2 ^ (24 - 8 * (k : Int)).toNat) = ((a / 2 ^ (24 - 8 * k) : Nat) : Int) := by
  rw [show (24 - 8 * (k : Int)).toNat = 24 - 8 * k by omega]
  rw [Int.natCast_ediv, Int.natCast_pow]; rfl
theorem and_byt (a k : Nat) (ha : W32 a) : bits BinOp.and IntKind.u32 ((a / 2 ^ (24 - 8 * k) : Nat) : Int) 255 = ((byt a k : Nat) : Int) := by
  have h := Go.u32_and_nat (a / 2 ^ (24 - 8 * k)) 255 (Nat.lt_of_le_of_lt (Nat.div_le_self _ _) ha) (by decide)
  rw [show (255 : Int) = ((255 : Nat) : Int) from rfl, h, show (255 : Nat) = 2 ^ 8 - 1 from rfl, Nat.and_two_pow_sub_one_eq_mod]; rfl
theorem wrap_byt (a k : Nat) : wrap64 (byt a k : Int) = (byt a k : Int) := by
  have := byt_lt a k
  unfold wrap64; omega
theorem text_end {a k : Nat} {n : Int} (h : vld a n = true) (hk : k = 4) : accP a k ++ [47] ++ decDigits n.toNat = textP a n := by
  rw [hk, textP_ok h]; simp
theorem acc_t {a k : Nat} (h : k ≠ 0) : accP a k ++ [46] ++ decDigits (byt a k) = accP a (k + 1) := by
  rw [accP, if_neg h, List.append_assoc]
theorem acc_f {a k : Nat} (h : k = 0) : accP a k ++ decDigits (byt a k) = accP a (k + 1) := by
  rw [accP, if_pos h]; rfl
theorem byt_i (a k : Nat) : byt a k ≤ 9223372036854775807 := by have := byt_lt a k; omega
theorem acc_b (a k : Nat) (hk : k ≤ 4) : (accP a k).length ≤ 16 := by have := accP_len a k; omega
theorem dec_b {n : Nat} (h : n < 1000) : (decDigits n).length ≤ 3 := dec_len3 h
set_option maxRecDepth 100000 in
theorem text_any  (a : Nat) (n : Int) (w : World)  (hB0 : Bas w) (ha : W32 a) :
    Calls Tryz.prog 12 #[.agg #[.int .u32 (a : Int), .int .i64 n]] w fun e w' => e = .returned (.string ⟨(textP a n).toArray⟩) ∧ Below w.heap.size w w' := by
  have hK : KS w [] w := (KS.start w)
  refine Calls.hide (fun Q0 hQ0 => ?_)
  go_enter Tryz.func12, Tryz.ntmps12
  go_upto_region 0 with (fail)
  refine wp_region_tx w hK ?_
  clear hK
  apply txA (.cells #[.int .u32 (a : Int), .int .i64 n] 31) (wants0 rfl)
  · intro w' hK; go_simp; rfl
  intro R1 q_R1
  clear q_R1
  simp only [mkOf, Act.put, pA, pB, pC]
  apply txF (wants0 rfl); (· intro w' hK; go_simp; (try go_bits); exact ⟨rfl, rfl⟩); simp only [Act.put, pA, pB, pC]
  refine txEnd (fun W2 hK => ?_)
  go_upto_region 1 with (fail)
  refine wp_region_tx w hK ?_
  clear hK
  apply txF (wants0 rfl); (· intro w' hK; have k_R1 := (hK.get m0); have ⟨c_R1_0, c_R1_1⟩ := k_R1.c2; go_simp; (try go_bits); exact ⟨rfl, rfl⟩); simp only [Act.put, pA, pB, pC]
  obtain ⟨b1, hb1⟩ : ∃ b : Bool, RowKit.Hid ((vld a n) = b) := ⟨_, hid rfl⟩
  apply txH (v := .bool b1) (wants0 rfl)
  · intro v1 hv1 w' hK; go_simp; (try go_bits); refine (valid_any a n w' (by first | assumption | omega | exact W32.zero)).mono ?_; rintro e w5 ⟨rfl, hb⟩; obtain rfl := hv1.out; exact ⟨_, rfl, (by rw [hb1.out]), hb⟩
  simp only [Act.put, pA, pB, pC]
  apply txF (wants0 rfl); (· intro w' hK; go_simp; (try go_bits); exact ⟨rfl, rfl⟩); simp only [Act.put, pA, pB, pC]
  refine txEnd (fun W3 hK => ?_)
  cases b1
  · --
   go_wp2
   try go_ret
   show Q0 (.returned (.string { data := #[] })) _
   exact (by obtain rfl := hQ0.out; exact ⟨(by rw [textP_bad hb1.out]), hK.old⟩)
  · --
   go_upto_region 3 with (fail)
   refine wp_region_tx w hK ?_
   clear hK
   apply txA (.cells #[.pointer none, .slice none 0 0] 57) (wants0 rfl)
   · intro w' hK; go_simp; rfl
   intro R4 q_R4
   have o_R1_R4 : R1 < R4 := q_R4 _ _ _ m0
   clear q_R4
   simp only [mkOf, Act.put, pA, pB, pC]
   refine txEnd (fun W5 hK => ?_)
   go_wp2_with fail
   go_loopw [8] (fun s8 wl => ∃ (k : Nat), s8 = .int .i64 (k : Int) ∧ (k ≤ 4) ∧ KS w [Has w.heap.size R1 (.cells #[.int .u32 (a : Int), .int .i64 n] 31), BdV w.heap.size R4 (accP a k)] wl) (fun s8 _ => 4 - (intOf s8).toNat)
   case atStart => exact ⟨0, rfl, (by omega), ⟨hK.old, (al1 (hK.all _ m1) (al1 (fun w' hb => BdV.new (hK.all _ m0 w' hb)) aN))⟩⟩
   case round =>
    clear hK
    obtain ⟨k, rfl, hk, hK⟩ := hrel
    generalize wr = W6 at hK ⊢
    go_upto_region 5 with (fail)
    refine wp_region_tx w hK ?_
    clear hK
    obtain ⟨b2, hb2⟩ : ∃ b : Bool, RowKit.Hid (decide (((k : Int)) < 4) = b) := ⟨_, hid rfl⟩
    apply txB b2 (wants0 rfl); (· intro w' hK; go_simp; (try go_bits); exact ⟨by have q := hb2.out; subst q; first | rfl | simp, rfl⟩); simp only [Act.put, pA, pB, pC]
    refine txEnd (fun W7 hK => ?_)
    cases b2
    · --
     have q_b2 : 4 ≤ ((k : Int)) := Int.not_lt.1 (of_decide_eq_false hb2.out)
     go_upto_region 11 with (fail)
     refine wp_region_tx w hK ?_
     clear hK
     refine txBld R4 (.nilIface) (BdV w.heap.size R4 ((accP a k) ++ [47])) [Has w.heap.size R1 (.cells #[.int .u32 (a : Int), .int .i64 n] 31)] (wants0 rfl) (fun w' hK => (hK.get m1).1) (fun w' hK => (al1 (lowH (hK.get m0) o_R1_R4) aN)) ?_ ?_
     · intro v1 F1 hv1 w' hK; go_simp; (try go_bits); refine (bd_byte 47 w' (hK.get m1) (by have := acc_b a k hk; omega)).mono ?_; rintro e w5 ⟨rfl, h1, h2⟩; obtain ⟨rfl, rfl⟩ := hv1.out; exact ⟨_, rfl, rfl, h2, fun w2 hb => h1.below hb⟩
     simp only [Act.put, pA, pB, pC]
     refine txEnd (fun W8 hK => ?_)
     go_upto_region 12 with (fail)
     refine wp_region_tx w hK ?_
     clear hK
     apply txF (wants0 rfl); (· intro w' hK; go_simp; (try go_bits); exact ⟨rfl, rfl⟩); simp only [Act.put, pA, pB, pC]
     apply txF (wants0 rfl); (· intro w' hK; have k_R1 := (hK.get m1); have c_R1_1 := k_R1.at 1 rfl; go_simp; (try go_bits); exact ⟨rfl, rfl⟩); simp only [Act.put, pA, pB, pC]
     apply txH (v := .string ⟨(decDigits (n).toNat).toArray⟩) (wants0 rfl)
     · intro v1 hv1 w' hK; go_simp; (try go_bits); refine (itoa_z n w' (vld_lo hb1.out) (by have := vld_hi hb1.out; omega) (hB0.below hK.old)).mono ?_; rintro e w5 ⟨rfl, hb⟩; obtain rfl := hv1.out; exact ⟨_, rfl, rfl, hb⟩
     simp only [Act.put, pA, pB, pC]
     refine txBld R4 (.tuple #[.int .i64 ((decDigits (n).toNat).length : Int), .nilIface]) (BdV w.heap.size R4 (textP a n)) [Has w.heap.size R1 (.cells #[.int .u32 (a : Int), .int .i64 n] 31)] (wants0 rfl) (fun w' hK => (hK.get m0).1) (fun w' hK => (al1 (lowH (hK.get m1) o_R1_R4) aN)) ?_ ?_
     · intro v1 F1 hv1 w' hK; go_simp; (try go_bits); refine (bd_str (decDigits (n).toNat) w' (hK.get m0) (by have := acc_b a k hk; have := dec_b (n := n.toNat) (by have := vld_hi hb1.out; omega); simp; omega)).mono ?_; rintro e w5 ⟨rfl, h1, h2⟩; obtain ⟨rfl, rfl⟩ := hv1.out; rw [(text_end hb1.out (by omega))] at h1; exact ⟨_, rfl, rfl, h2, fun w2 hb => h1.below hb⟩
     simp only [Act.put, pA, pB, pC]
     refine txEnd (fun W9 hK => ?_)
     go_upto_region 13 with (fail)
     refine wp_region_tx w hK ?_
     clear hK
     refine txBld R4 (.string ⟨(textP a n).toArray⟩) (fun _ => True) [Has w.heap.size R1 (.cells #[.int .u32 (a : Int), .int .i64 n] 31)] (wants0 rfl) (fun w' hK => (hK.get m0).1) (fun w' hK => (al1 (lowH (hK.get m1) o_R1_R4) aN)) ?_ ?_
     · intro v1 F1 hv1 w' hK; go_simp; (try go_bits); refine (bd_get w' (hK.get m0)).mono ?_; rintro e w5 ⟨rfl, h2⟩; obtain ⟨rfl, rfl⟩ := hv1.out; exact ⟨_, rfl, rfl, h2, fun _ _ => trivial⟩
     simp only [Act.put, pA, pB, pC]
     apply txF (wants0 rfl); (· intro w' hK; go_simp; (try go_bits); exact ⟨rfl, rfl⟩); simp only [Act.put, pA, pB, pC]
     refine txEnd (fun W10 hK => ?_)
     go_wp2
     try go_ret
     show Q0 (.returned (.string ⟨(textP a n).toArray⟩)) _
     exact (by obtain rfl := hQ0.out; exact ⟨rfl, hK.old⟩)
    · --
     have q_b2 : ((k : Int)) < 4 := of_decide_eq_true hb2.out
     go_upto_region 7 with (fail)
     refine wp_region_tx w hK ?_
     clear hK
     apply txF (wants0 rfl); (· intro w' hK; go_simp; (try go_bits); exact ⟨rfl, rfl⟩); simp only [Act.put, pA, pB, pC]
     obtain ⟨b3, hb3⟩ : ∃ b : Bool, RowKit.Hid (decide (0 < ((k : Int))) = b) := ⟨_, hid rfl⟩
     apply txB b3 (wants0 rfl); (· intro w' hK; go_simp; (try go_bits); exact ⟨by have q := hb3.out; subst q; first | rfl | simp, rfl⟩); simp only [Act.put, pA, pB, pC]
     refine txEnd (fun W11 hK => ?_)
     cases b3
     · --
      have q_b3 : ((k : Int)) ≤ 0 := Int.not_lt.1 (of_decide_eq_false hb3.out)
      go_upto_region 9 with (fail)
      refine wp_region_tx w hK ?_
      clear hK
      apply txF (wants0 rfl); (· intro w' hK; go_simp; (try go_bits); exact ⟨rfl, rfl⟩); simp only [Act.put, pA, pB, pC]
      apply txF (wants0 rfl); (· intro w' hK; have k_R1 := (hK.get m0); have c_R1_0 := k_R1.at 0 rfl; go_simp; (try go_bits); exact ⟨rfl, rfl⟩); simp only [Act.put, pA, pB, pC]
      apply txF (wants0 rfl); (· intro w' hK; go_simp; (try go_bits); exact ⟨rfl, rfl⟩); simp only [Act.put, pA, pB, pC]
      apply txF (v := .int .i64 (8 * (k : Int))) (wants0 rfl); (· intro w' hK; go_simp; (try go_bits); exact ⟨rfl, rfl⟩); simp only [Act.put, pA, pB, pC]
      apply txF (v := .int .i64 (24 - 8 * (k : Int))) (wants0 rfl); (· intro w' hK; go_simp; (try go_bits); exact ⟨rfl, rfl⟩); simp only [Act.put, pA, pB, pC]
      apply txF (v := .int .u32 ((a / 2 ^ (24 - 8 * k) : Nat) : Int)) (wants0 rfl); (· intro w' hK; go_simp; (try go_bits); first | exact ⟨rfl, rfl⟩ | exact ⟨congrArg _ (shr_byt a k (by omega)), rfl⟩); simp only [Act.put, pA, pB, pC]
      apply txF (v := .int .u32 (byt a k : Int)) (wants0 rfl); (· intro w' hK; go_simp; (try go_bits); exact ⟨congrArg _ (and_byt a k ha), rfl⟩); simp only [Act.put, pA, pB, pC]
      apply txF (v := .int .i64 (byt a k : Int)) (wants0 rfl); (· intro w' hK; go_simp; (try go_bits); exact ⟨congrArg _ (wrap_byt a k), rfl⟩); simp only [Act.put, pA, pB, pC]
      apply txH (v := .string ⟨(decDigits (byt a k)).toArray⟩) (wants0 rfl)
      · intro v1 hv1 w' hK; go_simp; (try go_bits); refine (itoa_b (byt a k) w' (byt_i a k) (hB0.below hK.old)).mono ?_; rintro e w5 ⟨rfl, hb⟩; obtain rfl := hv1.out; exact ⟨_, rfl, rfl, hb⟩
      simp only [Act.put, pA, pB, pC]
      refine txBld R4 (.tuple #[.int .i64 ((decDigits (byt a k)).length : Int), .nilIface]) (BdV w.heap.size R4 (accP a (k + 1))) [Has w.heap.size R1 (.cells #[.int .u32 (a : Int), .int .i64 n] 31)] (wants0 rfl) (fun w' hK => (hK.get m1).1) (fun w' hK => (al1 (lowH (hK.get m0) o_R1_R4) aN)) ?_ ?_
      · intro v1 F1 hv1 w' hK; go_simp; (try go_bits); refine (bd_str (decDigits (byt a k)) w' (hK.get m1) (by have := acc_b a k hk; have := dec_b (n := byt a k) (by have := byt_lt a k; omega); simp; omega)).mono ?_; rintro e w5 ⟨rfl, h1, h2⟩; obtain ⟨rfl, rfl⟩ := hv1.out; rw [acc_f (by omega)] at h1; exact ⟨_, rfl, rfl, h2, fun w2 hb => h1.below hb⟩
      simp only [Act.put, pA, pB, pC]
      refine txEnd (fun W12 hK => ?_)
      (try go_wp2)
      go_roundw
      case rel => exact ⟨k + 1, (by first | rfl | go_num), (by omega), ⟨hK.old, (al1 (hK.all _ m1) (al1 (hK.all _ m0) aN))⟩⟩
      case measure => simp [intOf]; omega
     · --
      have q_b3 : 0 < ((k : Int)) := of_decide_eq_true hb3.out
      go_upto_region 8 with (fail)
      refine wp_region_tx w hK ?_
      clear hK
      refine txBld R4 (.nilIface) (BdV w.heap.size R4 ((accP a k) ++ [46])) [Has w.heap.size R1 (.cells #[.int .u32 (a : Int), .int .i64 n] 31)] (wants0 rfl) (fun w' hK => (hK.get m1).1) (fun w' hK => (al1 (lowH (hK.get m0) o_R1_R4) aN)) ?_ ?_
      · intro v1 F1 hv1 w' hK; go_simp; (try go_bits); refine (bd_byte 46 w' (hK.get m1) (by have := acc_b a k hk; simp; omega)).mono ?_; rintro e w5 ⟨rfl, h1, h2⟩; obtain ⟨rfl, rfl⟩ := hv1.out; exact ⟨_, rfl, rfl, h2, fun w2 hb => h1.below hb⟩
      simp only [Act.put, pA, pB, pC]
      refine txEnd (fun W13 hK => ?_)
      go_upto_region 9 with (fail)
      refine wp_region_tx w hK ?_
      clear hK
      apply txF (wants0 rfl); (· intro w' hK; go_simp; (try go_bits); exact ⟨rfl, rfl⟩); simp only [Act.put, pA, pB, pC]
      apply txF (wants0 rfl); (· intro w' hK; have k_R1 := (hK.get m1); have c_R1_0 := k_R1.at 0 rfl; go_simp; (try go_bits); exact ⟨rfl, rfl⟩); simp only [Act.put, pA, pB, pC]
      apply txF (wants0 rfl); (· intro w' hK; go_simp; (try go_bits); exact ⟨rfl, rfl⟩); simp only [Act.put, pA, pB, pC]
      apply txF (v := .int .i64 (8 * (k : Int))) (wants0 rfl); (· intro w' hK; go_simp; (try go_bits); exact ⟨rfl, rfl⟩); simp only [Act.put, pA, pB, pC]
      apply txF (v := .int .i64 (24 - 8 * (k : Int))) (wants0 rfl); (· intro w' hK; go_simp; (try go_bits); exact ⟨rfl, rfl⟩); simp only [Act.put, pA, pB, pC]
      apply txF (v := .int .u32 ((a / 2 ^ (24 - 8 * k) : Nat) : Int)) (wants0 rfl); (· intro w' hK; go_simp; (try go_bits); first | exact ⟨rfl, rfl⟩ | exact ⟨congrArg _ (shr_byt a k (by omega)), rfl⟩); simp only [Act.put, pA, pB, pC]
      apply txF (v := .int .u32 (byt a k : Int)) (wants0 rfl); (· intro w' hK; go_simp; (try go_bits); exact ⟨congrArg _ (and_byt a k ha), rfl⟩); simp only [Act.put, pA, pB, pC]
      apply txF (v := .int .i64 (byt a k : Int)) (wants0 rfl); (· intro w' hK; go_simp; (try go_bits); exact ⟨congrArg _ (wrap_byt a k), rfl⟩); simp only [Act.put, pA, pB, pC]
      apply txH (v := .string ⟨(decDigits (byt a k)).toArray⟩) (wants0 rfl)
      · intro v1 hv1 w' hK; go_simp; (try go_bits); refine (itoa_b (byt a k) w' (byt_i a k) (hB0.below hK.old)).mono ?_; rintro e w5 ⟨rfl, hb⟩; obtain rfl := hv1.out; exact ⟨_, rfl, rfl, hb⟩
      simp only [Act.put, pA, pB, pC]
      refine txBld R4 (.tuple #[.int .i64 ((decDigits (byt a k)).length : Int), .nilIface]) (BdV w.heap.size R4 (accP a (k + 1))) [Has w.heap.size R1 (.cells #[.int .u32 (a : Int), .int .i64 n] 31)] (wants0 rfl) (fun w' hK => (hK.get m0).1) (fun w' hK => (al1 (lowH (hK.get m1) o_R1_R4) aN)) ?_ ?_
      · intro v1 F1 hv1 w' hK; go_simp; (try go_bits); refine (bd_str (decDigits (byt a k)) w' (hK.get m0) (by have := acc_b a k hk; have := dec_b (n := byt a k) (by have := byt_lt a k; omega); simp; omega)).mono ?_; rintro e w5 ⟨rfl, h1, h2⟩; obtain ⟨rfl, rfl⟩ := hv1.out; rw [acc_t (by omega)] at h1; exact ⟨_, rfl, rfl, h2, fun w2 hb => h1.below hb⟩
      simp only [Act.put, pA, pB, pC]
      refine txEnd (fun W14 hK => ?_)
      (try go_wp2)
      go_roundw
      case rel => exact ⟨k + 1, (by first | rfl | go_num), (by omega), ⟨hK.old, (al1 (hK.all _ m1) (al1 (hK.all _ m0) aN))⟩⟩
      case measure => simp [intOf]; omega
end Go.Proofs.YtbbjjjaclbkolaaGreatDoor
