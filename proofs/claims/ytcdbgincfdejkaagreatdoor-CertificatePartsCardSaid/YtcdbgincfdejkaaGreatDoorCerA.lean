/- Checks of linear programs walked: valid programs, lists without negative numbers, sums of products. -/
import Derived.Test.YtcdbgincfdejkaaGreatDoorTz
import Derived.Test.YtcdbgincfdejkaaGreatDoorLpK
namespace Go.Proofs.YtcdbgincfdejkaaGreatDoor
open Go.RowKit
open Go.Lib (decDigits)
theorem vldH_of {P : LPd} (h : 1 ≤ P.c.length ∧ P.c.length ≤ 1024 ∧ P.A.length ≤ 1024 ∧ P.b.length = P.A.length) : vldH P = true := by
  unfold vldH; simp only [Bool.and_eq_true, decide_eq_true_eq]; omega
theorem vld_head {P : LPd} (h : ¬(1 ≤ P.c.length ∧ P.c.length ≤ 1024 ∧ P.A.length ≤ 1024 ∧ P.b.length = P.A.length)) : vldP P = false := by
  unfold vldP vldH
  rw [Bool.eq_false_iff]
  simp only [ne_eq, Bool.and_eq_true, decide_eq_true_eq]
  omega
theorem vld_yes {P : LPd} (h : vldH P = true) (h' : allN (rowP P) P.A.length = true) : vldP P = true := by unfold vldP; rw [h, h']; rfl
theorem vld_no {P : LPd} {i : Nat} (hi : i < P.A.length) (h : (P.A.getD i []).length ≠ P.c.length) : vldP P = false := by
  unfold vldP
  rw [allN_no hi (by unfold rowP; simpa using h)]
  simp
set_option maxRecDepth 100000 in
set_option maxHeartbeats 1000000 in
theorem lvalid_any (v0 : Value) (P : LPd) (w : World) (h0 : LpV w v0 P) (hn : P.c.length ≤ 100000) (hm : P.A.length ≤ 100000) (_hbl : P.b.length ≤ 100000) :
    Calls Tryz.prog 46 #[v0] w fun e w' => e = .returned (.bool (vldP P)) ∧ Below w.heap.size w w' := by
  have h0_0 := h0; obtain ⟨⟨p_h0, l_h0, c_h0⟩, ⟨q_h0, m_h0, d_h0⟩, ⟨r_h0, n_h0, e_h0⟩, rfl, h0_1, h0_2, h0_3⟩ := h0
  have hK := (KS.start w)
  refine Calls.hide (fun Q0 hQ0 => ?_)
  go_enter Tryz.func46, Tryz.ntmps46
  go_upto_region 0 with (fail)
  refine wp_region_tx w hK ?_
  clear hK
  refine tA (.cells #[.slice p_h0 P.c.length c_h0, .slice q_h0 P.A.length d_h0, .slice r_h0 P.b.length e_h0] 49) (fun R1 q_R1 => ?_)
  clear q_R1
  refine tF ?_
  refine txEnd (fun W2 hK => ?_)
  go_upto_region 1 with (fail)
  refine wp_region_tx w hK ?_
  clear hK
  refine tF ?_
  refine tL m0 ?_
  refine tF ?_
  refine tB (decide (((P.c.length : Int)) < 1)) (fun b1 hb1 => ?_)
  refine tF ?_
  cases b1
  · --
   have q_b1 : 1 ≤ ((P.c.length : Int)) := Int.not_lt.1 (of_decide_eq_false hb1.out)
   refine tF ?_
   refine tL m0 ?_
   refine tF ?_
   refine tB (decide (1024 < ((P.c.length : Int)))) (fun b2 hb2 => ?_)
   iterate 2 (refine tF ?_)
   cases b2
   · --
    have q_b2 : ((P.c.length : Int)) ≤ 1024 := Int.not_lt.1 (of_decide_eq_false hb2.out)
    refine tF ?_
    refine tL m0 ?_
    refine tF ?_
    refine tB (decide (1024 < ((P.A.length : Int)))) (fun b3 hb3 => ?_)
    iterate 2 (refine tF ?_)
    cases b3
    · --
     have q_b3 : ((P.A.length : Int)) ≤ 1024 := Int.not_lt.1 (of_decide_eq_false hb3.out)
     refine tF ?_
     refine tL m0 ?_
     iterate 2 (refine tF ?_)
     refine tL m0 ?_
     refine tF ?_
     refine tB (((P.b.length : Int)) != ((P.A.length : Int))) (fun b4 hb4 => ?_)
     refine tF ?_
     refine txEnd (fun W3 hK => ?_)
     cases b4
     · --
      have hvh := hid (show vldH P = true from vldH_of (by have a_b4 := hb4.out; simp at a_b4; omega))
      have h1024 : P.c.length ≤ 1024 ∧ P.A.length ≤ 1024 := by have a_b4 := hb4.out; simp at a_b4; omega
      go_upto_region 3 with (fail)
      refine wp_region_tx w hK ?_
      clear hK
      refine tF ?_
      refine tL m0 ?_
      iterate 2 (refine tF ?_)
      refine txEnd (fun W4 hK => ?_)
      go_wp2_with fail
      go_loopw [33] (fun s33 wl => ∃ (k : Nat), s33 = .int .i64 (k : Int) ∧ (k ≤ P.A.length) ∧ RowKit.Hid (allN (rowP P) k = true) ∧ KS w [Has w.heap.size R1 (.cells #[.slice p_h0 P.c.length c_h0, .slice q_h0 P.A.length d_h0, .slice r_h0 P.b.length e_h0] 49)] wl) (fun s33 _ => P.A.length - (intOf s33).toNat)
      case atStart => exact ⟨0, rfl, (by omega), (hid rfl), ⟨hK.old, (al1 (hK.all _ m0) aN)⟩⟩
      case round =>
       clear hK
       obtain ⟨k, rfl, hk, ho, hK⟩ := hrel
       generalize wr = W5 at hK ⊢
       go_upto_region 4 with (fail)
       refine wp_region_tx w hK ?_
       clear hK
       refine tB (decide (((k : Int)) < ((P.A.length : Int)))) (fun b5 hb5 => ?_)
       refine txEnd (fun W6 hK => ?_)
       cases b5
       · --
        have q_b5 : ((P.A.length : Int)) ≤ ((k : Int)) := Int.not_lt.1 (of_decide_eq_false hb5.out)
        go_wp2
        try go_ret
        show Q0 (.returned (.bool true)) _
        exact (by obtain rfl := hQ0.out; exact ⟨(ret_bool (vld_yes hvh.out (allN_end ho.out (by omega) (by omega))).symm), hK.old⟩)
       · --
        have q_b5 : ((k : Int)) < ((P.A.length : Int)) := of_decide_eq_true hb5.out
        obtain ⟨xk, exk⟩ : ∃ x, RowKit.Hid (P.A[k]? = some x) := ⟨_, hid (List.getElem?_eq_getElem (show k < P.A.length from (by omega)))⟩
        have i7 : k < P.A.length := by have q : k < P.A.length := (by omega); first | exact q | (simp at q; omega) | omega
        obtain ⟨g7, o7, q7, l7⟩ := (h0_2).ptr exk.out
        subst q7
        obtain ⟨c7_0, hK⟩ := KS.atL hK (h0_2.below hK.old) exk.out
        go_upto_region 5 with (fail)
        refine wp_region_tx w hK ?_
        clear hK
        refine tF ?_
        apply txF (wants0 rfl); (· intro w' hK; have c_CEL7_0 : w'.cell? ⟨g7, o7 + k, none⟩ = some (.slice c7_0.p xk.length c7_0.c) := (by have q := (hK.get m0).2 0 _ rfl; simpa using q); go_simp; (try go_bits); exact ⟨rfl, rfl⟩); simp only [Act.put, pA, pB, pC]
        refine tF ?_
        refine txEnd (fun W8 hK => ?_)
        go_upto_region 6 with (fail)
        refine wp_region_tx w hK ?_
        clear hK
        iterate 3 (refine tF ?_)
        refine tL m2 ?_
        refine tF ?_
        refine tB (((xk.length : Int)) != ((P.c.length : Int))) (fun b6 hb6 => ?_)
        refine txEnd (fun W9 hK => ?_)
        cases b6
        · --
         (try go_wp2)
         go_roundw
         case rel => exact ⟨k + 1, (by first | rfl | go_num), (by omega), (hid (allN_step ho.out (by unfold rowP; rw [getD_of exk.out]; have a_b4 := hb4.out; simp at a_b4; have a_b6 := hb6.out; simp at a_b6; simp; omega))), ⟨hK.old, (al1 (hK.all _ m2) aN)⟩⟩
         case measure => simp [intOf]; omega
        · --
         go_wp2
         try go_ret
         show Q0 (.returned (.bool false)) _
         exact (by obtain rfl := hQ0.out; exact ⟨(ret_bool (vld_no (i := k) (by omega) (by rw [getD_of exk.out]; have a_b4 := hb4.out; simp at a_b4; have a_b6 := hb6.out; simp at a_b6; omega)).symm), hK.old⟩)
     · --
      go_wp2
      try go_ret
      show Q0 (.returned (.bool false)) _
      exact (by obtain rfl := hQ0.out; exact ⟨(ret_bool (vld_head (by have a_b4 := hb4.out; simp at a_b4; omega)).symm), hK.old⟩)
    · --
     have q_b3 : 1024 < ((P.A.length : Int)) := of_decide_eq_true hb3.out
     iterate 7 (refine tN ?_)
     refine tF ?_
     refine txEnd (fun W10 hK => ?_)
     go_wp2
     try go_ret
     show Q0 (.returned (.bool false)) _
     exact (by obtain rfl := hQ0.out; exact ⟨(ret_bool (vld_head (by skip; omega)).symm), hK.old⟩)
   · --
    have q_b2 : 1024 < ((P.c.length : Int)) := of_decide_eq_true hb2.out
    iterate 4 (refine tN ?_)
    iterate 2 (refine tF ?_)
    iterate 7 (refine tN ?_)
    refine tF ?_
    refine txEnd (fun W11 hK => ?_)
    go_wp2
    try go_ret
    show Q0 (.returned (.bool false)) _
    exact (by obtain rfl := hQ0.out; exact ⟨(ret_bool (vld_head (by skip; omega)).symm), hK.old⟩)
  · --
   have q_b1 : ((P.c.length : Int)) < 1 := of_decide_eq_true hb1.out
   iterate 4 (refine tN ?_)
   iterate 2 (refine tF ?_)
   iterate 4 (refine tN ?_)
   iterate 2 (refine tF ?_)
   iterate 7 (refine tN ?_)
   refine tF ?_
   refine txEnd (fun W12 hK => ?_)
   go_wp2
   try go_ret
   show Q0 (.returned (.bool false)) _
   exact (by obtain rfl := hQ0.out; exact ⟨(ret_bool (vld_head (by skip; omega)).symm), hK.old⟩)
set_option maxRecDepth 100000 in
set_option maxHeartbeats 1000000 in
theorem rvalid_any (v0 : Value) (P : LPd) (w : World) (h0 : RpV w v0 P) (hn : P.c.length ≤ 100000) (hm : P.A.length ≤ 100000) (_hbl : P.b.length ≤ 100000) :
    Calls Tryz.prog 71 #[v0] w fun e w' => e = .returned (.bool (vldP P)) ∧ Below w.heap.size w w' := by
  have h0_0 := h0; obtain ⟨⟨p_h0, l_h0, c_h0⟩, ⟨q_h0, m_h0, d_h0⟩, ⟨r_h0, n_h0, e_h0⟩, rfl, h0_1, h0_2, h0_3⟩ := h0
  have hK := (KS.start w)
  refine Calls.hide (fun Q0 hQ0 => ?_)
  go_enter Tryz.func71, Tryz.ntmps71
  go_upto_region 0 with (fail)
  refine wp_region_tx w hK ?_
  clear hK
  refine tA (.cells #[.slice p_h0 P.c.length c_h0, .slice q_h0 P.A.length d_h0, .slice r_h0 P.b.length e_h0] 36) (fun R1 q_R1 => ?_)
  clear q_R1
  refine tF ?_
  refine txEnd (fun W2 hK => ?_)
  go_upto_region 1 with (fail)
  refine wp_region_tx w hK ?_
  clear hK
  refine tF ?_
  refine tL m0 ?_
  refine tF ?_
  refine tB (decide (((P.c.length : Int)) < 1)) (fun b1 hb1 => ?_)
  refine tF ?_
  cases b1
  · --
   have q_b1 : 1 ≤ ((P.c.length : Int)) := Int.not_lt.1 (of_decide_eq_false hb1.out)
   refine tF ?_
   refine tL m0 ?_
   refine tF ?_
   refine tB (decide (1024 < ((P.c.length : Int)))) (fun b2 hb2 => ?_)
   iterate 2 (refine tF ?_)
   cases b2
   · --
    have q_b2 : ((P.c.length : Int)) ≤ 1024 := Int.not_lt.1 (of_decide_eq_false hb2.out)
    refine tF ?_
    refine tL m0 ?_
    refine tF ?_
    refine tB (decide (1024 < ((P.A.length : Int)))) (fun b3 hb3 => ?_)
    iterate 2 (refine tF ?_)
    cases b3
    · --
     have q_b3 : ((P.A.length : Int)) ≤ 1024 := Int.not_lt.1 (of_decide_eq_false hb3.out)
     refine tF ?_
     refine tL m0 ?_
     iterate 2 (refine tF ?_)
     refine tL m0 ?_
     refine tF ?_
     refine tB (((P.b.length : Int)) != ((P.A.length : Int))) (fun b4 hb4 => ?_)
     refine tF ?_
     refine txEnd (fun W3 hK => ?_)
     cases b4
     · --
      have hvh := hid (show vldH P = true from vldH_of (by have a_b4 := hb4.out; simp at a_b4; omega))
      have h1024 : P.c.length ≤ 1024 ∧ P.A.length ≤ 1024 := by have a_b4 := hb4.out; simp at a_b4; omega
      go_upto_region 3 with (fail)
      refine wp_region_tx w hK ?_
      clear hK
      refine tF ?_
      refine txEnd (fun W4 hK => ?_)
      go_wp2_with fail
      go_loopw [3] (fun s3 wl => ∃ (k : Nat), s3 = .int .i64 (k : Int) ∧ (k ≤ P.A.length) ∧ RowKit.Hid (allN (rowP P) k = true) ∧ KS w [Has w.heap.size R1 (.cells #[.slice p_h0 P.c.length c_h0, .slice q_h0 P.A.length d_h0, .slice r_h0 P.b.length e_h0] 36)] wl) (fun s3 _ => P.A.length - (intOf s3).toNat)
      case atStart => exact ⟨0, rfl, (by omega), (hid rfl), ⟨hK.old, (al1 (hK.all _ m0) aN)⟩⟩
      case round =>
       clear hK
       obtain ⟨k, rfl, hk, ho, hK⟩ := hrel
       generalize wr = W5 at hK ⊢
       go_upto_region 4 with (fail)
       refine wp_region_tx w hK ?_
       clear hK
       iterate 2 (refine tF ?_)
       refine tL m0 ?_
       refine tF ?_
       refine tB (decide (((k : Int)) < ((P.A.length : Int)))) (fun b5 hb5 => ?_)
       refine txEnd (fun W6 hK => ?_)
       cases b5
       · --
        have q_b5 : ((P.A.length : Int)) ≤ ((k : Int)) := Int.not_lt.1 (of_decide_eq_false hb5.out)
        go_wp2
        try go_ret
        show Q0 (.returned (.bool true)) _
        exact (by obtain rfl := hQ0.out; exact ⟨(ret_bool (vld_yes hvh.out (allN_end ho.out (by omega) (by omega))).symm), hK.old⟩)
       · --
        have q_b5 : ((k : Int)) < ((P.A.length : Int)) := of_decide_eq_true hb5.out
        obtain ⟨xk, exk⟩ : ∃ x, RowKit.Hid (P.A[k]? = some x) := ⟨_, hid (List.getElem?_eq_getElem (show k < P.A.length from (by omega)))⟩
        have i7 : k < P.A.length := by have q : k < P.A.length := (by omega); first | exact q | (simp at q; omega) | omega
        obtain ⟨g7, o7, q7, l7⟩ := (h0_2).ptr exk.out
        subst q7
        obtain ⟨c7_0, hK⟩ := KS.atL hK (h0_2.below hK.old) exk.out
        go_upto_region 6 with (fail)
        have hK0 := hK
        refine wp_region_float0 (w) _ _ [0, 0, 0, 0, 0, 0, 0, 0, 0, 0] (by kernel_rfl) (by kernel_rfl) (by kernel_rfl) (by kernel_rfl) (KS.drew hK0) (KS.drew hK) ?_
        clear hK hK0
        refine lF ?_
        refine lL m2 ?_
        iterate 2 (refine lF ?_)
        apply lxF0 (wants0 rfl); (· intro w' h0; have c_CEL7_0 : w'.cell? ⟨g7, o7 + k, none⟩ = some (.slice c7_0.p xk.length c7_0.c) := (by have q := (h0.get m0).2 0 _ rfl; simpa using q); go_simp; (try go_bits); exact ⟨rfl, rfl⟩); simp only [Act.put, pA, pB, pC]
        iterate 2 (refine lF ?_)
        refine lL m2 ?_
        refine lF ?_
        refine lB (((xk.length : Int)) != ((P.c.length : Int))) (fun b6 hb6 => ?_)
        refine lxEnd (fun W8 hK => ?_)
        cases b6
        · --
         (try go_wp2)
         go_roundw
         case rel => exact ⟨k + 1, (by first | rfl | go_num), (by omega), (hid (allN_step ho.out (by unfold rowP; rw [getD_of exk.out]; have a_b4 := hb4.out; simp at a_b4; have a_b6 := hb6.out; simp at a_b6; simp; omega))), ⟨hK.old, (al1 (hK.all _ m2) aN)⟩⟩
         case measure => simp [intOf]; omega
        · --
         go_wp2
         try go_ret
         show Q0 (.returned (.bool false)) _
         exact (by obtain rfl := hQ0.out; exact ⟨(ret_bool (vld_no (i := k) (by omega) (by rw [getD_of exk.out]; have a_b4 := hb4.out; simp at a_b4; have a_b6 := hb6.out; simp at a_b6; omega)).symm), hK.old⟩)
     · --
      go_wp2
      try go_ret
      show Q0 (.returned (.bool false)) _
      exact (by obtain rfl := hQ0.out; exact ⟨(ret_bool (vld_head (by have a_b4 := hb4.out; simp at a_b4; omega)).symm), hK.old⟩)
    · --
     have q_b3 : 1024 < ((P.A.length : Int)) := of_decide_eq_true hb3.out
     iterate 7 (refine tN ?_)
     refine tF ?_
     refine txEnd (fun W9 hK => ?_)
     go_wp2
     try go_ret
     show Q0 (.returned (.bool false)) _
     exact (by obtain rfl := hQ0.out; exact ⟨(ret_bool (vld_head (by skip; omega)).symm), hK.old⟩)
   · --
    have q_b2 : 1024 < ((P.c.length : Int)) := of_decide_eq_true hb2.out
    iterate 4 (refine tN ?_)
    iterate 2 (refine tF ?_)
    iterate 7 (refine tN ?_)
    refine tF ?_
    refine txEnd (fun W10 hK => ?_)
    go_wp2
    try go_ret
    show Q0 (.returned (.bool false)) _
    exact (by obtain rfl := hQ0.out; exact ⟨(ret_bool (vld_head (by skip; omega)).symm), hK.old⟩)
  · --
   have q_b1 : ((P.c.length : Int)) < 1 := of_decide_eq_true hb1.out
   iterate 4 (refine tN ?_)
   iterate 2 (refine tF ?_)
   iterate 4 (refine tN ?_)
   iterate 2 (refine tF ?_)
   iterate 7 (refine tN ?_)
   refine tF ?_
   refine txEnd (fun W11 hK => ?_)
   go_wp2
   try go_ret
   show Q0 (.returned (.bool false)) _
   exact (by obtain rfl := hQ0.out; exact ⟨(ret_bool (vld_head (by skip; omega)).symm), hK.old⟩)
theorem sg_lt {x : Rat} {z : Int} (h : sgQ x = z) : z < 0 ↔ x < 0 := by
  subst h
  rcases sgQ_range x with e | e | e
  · rw [e]; have := sgQ_zero.1 e; subst this; decide
  · rw [e]; exact ⟨fun _ => sgQ_neg.1 e, fun _ => by decide⟩
  · rw [e]; have := sgQ_pos.1 e; exact ⟨fun h => absurd h (by decide), fun h => by grind⟩
theorem sg_gt {x : Rat} {z : Int} (h : sgQ x = z) : 0 < z ↔ 0 < x := by
  subst h
  rcases sgQ_range x with e | e | e
  · rw [e]; have := sgQ_zero.1 e; subst this; decide
  · rw [e]; have := sgQ_neg.1 e; exact ⟨fun h => absurd h (by decide), fun h => by grind⟩
  · rw [e]; exact ⟨fun _ => sgQ_pos.1 e, fun _ => by decide⟩
theorem sg_z {x : Rat} {z : Int} (h : sgQ x = z) : z = 0 ↔ x = 0 := by subst h; exact sgQ_zero
theorem sub_lt {x y : Rat} : x - y < 0 ↔ x < y := by constructor <;> intro h <;> grind
theorem sub_gt {x y : Rat} : 0 < x - y ↔ y < x := by constructor <;> intro h <;> grind
theorem sub_z {x y : Rat} : x - y = 0 ↔ x = y := by constructor <;> intro h <;> grind
theorem nn_step {xs : List Rat} {k : Nat} {x : Rat} {z : Int} (ho : allN (nnP xs) k = true) (hx : xs[k]? = some x) (hz : sgQ x = z) (h : 0 ≤ z) : allN (nnP xs) (k + 1) = true := allN_step ho (by
  unfold nnP; rw [getD_of hx]
  refine decide_eq_true (Rat.not_lt.1 fun e => ?_)
  have := (sg_lt hz).2 e
  omega)
theorem nn_no {xs : List Rat} {k : Nat} {x : Rat} {z : Int} (hx : xs[k]? = some x) (hz : sgQ x = z) (h : z < 0) : nnB xs = false := allN_no (List.getElem?_eq_some_iff.1 hx).1 (by
  unfold nnP; rw [getD_of hx]
  exact decide_eq_false (Rat.not_le.2 ((sg_lt hz).1 h)))
def natB (xs : List Rat) (n : Int) : Bool := nnB xs && decide ((xs.length : Int) = n)
theorem natB_eq {xs : List Rat} {n : Int} {b : Bool} (h : nnB xs = true) (hb : ((xs.length : Int) == n) = b) : natB xs n = b := by
  unfold natB; rw [h, ← hb, Bool.true_and, Bool.eq_iff_iff]; simp
theorem natB_no {xs : List Rat} {n : Int} (h : nnB xs = false) : natB xs n = false := by unfold natB; rw [h]; rfl
set_option maxRecDepth 100000 in
theorem natural_any (v0 : Value) (xs : List Rat) (n : Int) (w : World) (h0 : SlV ratK w v0 xs) (hl : xs.length ≤ 100000) :
    Calls Tryz.prog 80 #[v0, .int .i64 n] w fun e w' => e = .returned (.bool (natB xs n)) ∧ Below w.heap.size w w' := by
  have h0_0 := h0; obtain ⟨p_h0, c_h0, rfl, n_h0⟩ := h0.sh
  have hK := (KS.start w)
  refine Calls.hide (fun Q0 hQ0 => ?_)
  go_enter Tryz.func80, Tryz.ntmps80
  go_wp2_with fail
  go_loopw [9] (fun s9 wl => ∃ (k : Nat), s9 = .int .i64 (k : Int) ∧ (k ≤ xs.length) ∧ RowKit.Hid (allN (nnP xs) k = true) ∧ KS w [] wl) (fun s9 _ => xs.length - (intOf s9).toNat)
  case atStart => exact ⟨0, rfl, (by omega), (hid rfl), ⟨hK.old, aN⟩⟩
  case round =>
   clear hK
   obtain ⟨k, rfl, hk, ho, hK⟩ := hrel
   generalize wr = W1 at hK ⊢
   go_upto_region 2 with (fail)
   refine wp_region_tx w hK ?_
   clear hK
   refine tB (decide (((k : Int)) < ((xs.length : Int)))) (fun b1 hb1 => ?_)
   refine txEnd (fun W2 hK => ?_)
   cases b1
   · --
    have q_b1 : ((xs.length : Int)) ≤ ((k : Int)) := Int.not_lt.1 (of_decide_eq_false hb1.out)
    go_upto_region 7 with (fail)
    refine wp_region_tx w hK ?_
    clear hK
    iterate 3 (refine tF ?_)
    refine tB (((xs.length : Int)) == n) (fun b2 hb2 => ?_)
    refine tF ?_
    refine txEnd (fun W3 hK => ?_)
    go_wp2
    try go_ret
    show Q0 (.returned (.bool b2)) _
    exact (by obtain rfl := hQ0.out; exact ⟨(ret_bool (natB_eq (allN_end ho.out (by omega) (by omega)) hb2.out).symm), hK.old⟩)
   · --
    have q_b1 : ((k : Int)) < ((xs.length : Int)) := of_decide_eq_true hb1.out
    obtain ⟨xk, exk⟩ : ∃ x, RowKit.Hid (xs[k]? = some x) := ⟨_, hid (List.getElem?_eq_getElem (show k < xs.length from (by omega)))⟩
    have i4 : k < xs.length := by have q : k < xs.length := (by omega); first | exact q | (simp at q; omega) | omega
    obtain ⟨g4, o4, q4, l4⟩ := (h0_0).ptr exk.out
    subst q4
    obtain ⟨c4_0, c4_1, c4_2, hK⟩ := KS.atQ hK (h0_0.below hK.old) exk.out
    go_upto_region 3 with (fail)
    refine wp_region_tx w hK ?_
    clear hK
    refine tF ?_
    apply txF (wants0 rfl); (· intro w' hK; have c_CEL4_0 : w'.cell? ⟨g4, o4 + k * 3, none⟩ = some (.bool c4_0) := (by have q := (hK.get m0).2 0 _ rfl; simpa using q); have c_CEL4_1 : w'.cell? ⟨g4, o4 + k * 3 + 1, none⟩ = some (.slice c4_1.p c4_1.l c4_1.c) := (by have q := (hK.get m0).2 1 _ rfl; simpa using q); have c_CEL4_2 : w'.cell? ⟨g4, o4 + k * 3 + 2, none⟩ = some (.slice c4_2.p c4_2.l c4_2.c) := (by have q := (hK.get m0).2 2 _ rfl; simpa using q); go_simp; (try go_bits); exact ⟨rfl, rfl⟩); simp only [Act.put, pA, pB, pC]
    refine tA (.cells #[.bool false, .slice none 0 0, .slice none 0 0] 55) (fun R5 q_R5 => ?_)
    clear q_R5
    refine tS m0 0 [.bool c4_0, .slice c4_1.p c4_1.l c4_1.c, .slice c4_2.p c4_2.l c4_2.c] (fun w' hK k_R5 ni => kP [.bool c4_0, .slice c4_1.p c4_1.l c4_1.c, .slice c4_2.p c4_2.l c4_2.c] (kK (spC (Nat.ne_of_lt (Nat.lt_of_lt_of_le l4 k_R5.1))) (kQ ni kZ))) ?_
    refine txEnd (fun W6 hK => ?_)
    go_upto_region 4 with (fail)
    refine wp_region_tx w hK ?_
    clear hK
    refine tL m0 ?_
    obtain ⟨z1, hz1⟩ : ∃ b : Int, RowKit.Hid ((sgQ xk) = b) := ⟨_, hid rfl⟩
    refine tH (fun w' hK => sign_any (.agg #[.bool c4_0, .slice c4_1.p c4_1.l c4_1.c, .slice c4_2.p c4_2.l c4_2.c]) xk w' (hK.get m2)) ?_ (v := .int .i64 z1) (hv := (by rw [hz1.out]))
    refine tB (decide (z1 < 0)) (fun b2 hb2 => ?_)
    refine txEnd (fun W7 hK => ?_)
    cases b2
    · --
     have q_b2 : 0 ≤ z1 := Int.not_lt.1 (of_decide_eq_false hb2.out)
     (try go_wp2)
     go_roundw
     case rel => exact ⟨k + 1, (by first | rfl | go_num), (by omega), (hid (nn_step ho.out exk.out hz1.out (by skip; omega))), ⟨hK.old, aN⟩⟩
     case measure => simp [intOf]; omega
    · --
     have q_b2 : z1 < 0 := of_decide_eq_true hb2.out
     go_wp2
     try go_ret
     show Q0 (.returned (.bool false)) _
     exact (by obtain rfl := hQ0.out; exact ⟨(ret_bool (natB_no (nn_no exk.out hz1.out (by skip; omega))).symm), hK.old⟩)
set_option maxRecDepth 100000 in
theorem positive_any (v0 : Value) (xs : List Rat) (w : World) (h0 : SlV refK w v0 xs) (hl : xs.length ≤ 100000) :
    Calls Tryz.prog 73 #[v0] w fun e w' => e = .returned (.bool (nnB xs)) ∧ Below w.heap.size w w' := by
  have h0_0 := h0; obtain ⟨p_h0, c_h0, rfl, n_h0⟩ := h0.sh
  have hK := (KS.start w)
  refine Calls.hide (fun Q0 hQ0 => ?_)
  go_enter Tryz.func73, Tryz.ntmps73
  go_wp2_with fail
  go_loopw [3] (fun s3 wl => ∃ (k : Nat), s3 = .int .i64 (k : Int) ∧ (k ≤ xs.length) ∧ RowKit.Hid (allN (nnP xs) k = true) ∧ KS w [] wl) (fun s3 _ => xs.length - (intOf s3).toNat)
  case atStart => exact ⟨0, rfl, (by omega), (hid rfl), ⟨hK.old, aN⟩⟩
  case round =>
   clear hK
   obtain ⟨k, rfl, hk, ho, hK⟩ := hrel
   generalize wr = W1 at hK ⊢
   go_upto_region 2 with (fail)
   refine wp_region_tx w hK ?_
   clear hK
   iterate 3 (refine tF ?_)
   refine tB (decide (((k : Int)) < ((xs.length : Int)))) (fun b1 hb1 => ?_)
   refine txEnd (fun W2 hK => ?_)
   cases b1
   · --
    have q_b1 : ((xs.length : Int)) ≤ ((k : Int)) := Int.not_lt.1 (of_decide_eq_false hb1.out)
    go_wp2
    try go_ret
    show Q0 (.returned (.bool true)) _
    exact (by obtain rfl := hQ0.out; exact ⟨(ret_bool (allN_end (p := nnP xs) ho.out (by omega) (by omega)).symm), hK.old⟩)
   · --
    have q_b1 : ((k : Int)) < ((xs.length : Int)) := of_decide_eq_true hb1.out
    obtain ⟨xk, exk⟩ : ∃ x, RowKit.Hid (xs[k]? = some x) := ⟨_, hid (List.getElem?_eq_getElem (show k < xs.length from (by omega)))⟩
    have i3 : k < xs.length := by have q : k < xs.length := (by omega); first | exact q | (simp at q; omega) | omega
    obtain ⟨g3, o3, q3, l3⟩ := (h0_0).ptr exk.out
    subst q3
    obtain ⟨c3_0, c3_1, c3_2, hK⟩ := KS.atR hK (h0_0.below hK.old) exk.out
    go_upto_region 4 with (fail)
    refine wp_region_tx w hK ?_
    clear hK
    iterate 3 (refine tF ?_)
    apply txF (wants0 rfl); (· intro w' hK; have c_CEL3_0 : w'.cell? ⟨g3, o3 + k * 3, none⟩ = some (.bool c3_0) := (by have q := (hK.get m0).2 0 _ rfl; simpa using q); have c_CEL3_1 : w'.cell? ⟨g3, o3 + k * 3 + 1, none⟩ = some (.slice c3_1.p c3_1.l c3_1.c) := (by have q := (hK.get m0).2 1 _ rfl; simpa using q); have c_CEL3_2 : w'.cell? ⟨g3, o3 + k * 3 + 2, none⟩ = some (.slice c3_2.p c3_2.l c3_2.c) := (by have q := (hK.get m0).2 2 _ rfl; simpa using q); go_simp; (try go_bits); exact ⟨rfl, rfl⟩); simp only [Act.put, pA, pB, pC]
    obtain ⟨z1, hz1⟩ : ∃ b : Int, RowKit.Hid ((sgQ xk) = b) := ⟨_, hid rfl⟩
    refine tH (fun w' hK => rsign_q (.agg #[.bool c3_0, .slice c3_1.p c3_1.l c3_1.c, .slice c3_2.p c3_2.l c3_2.c]) xk w' (hK.get m1)) ?_ (v := .int .i64 z1) (hv := (by rw [hz1.out]))
    refine tB (decide (z1 < 0)) (fun b2 hb2 => ?_)
    refine txEnd (fun W4 hK => ?_)
    cases b2
    · --
     have q_b2 : 0 ≤ z1 := Int.not_lt.1 (of_decide_eq_false hb2.out)
     (try go_wp2)
     go_roundw
     case rel => exact ⟨k + 1, (by first | rfl | go_num), (by omega), (hid (nn_step ho.out exk.out hz1.out (by skip; omega))), ⟨hK.old, aN⟩⟩
     case measure => simp [intOf]; omega
    · --
     have q_b2 : z1 < 0 := of_decide_eq_true hb2.out
     go_wp2
     try go_ret
     show Q0 (.returned (.bool false)) _
     exact (by obtain rfl := hQ0.out; exact ⟨(ret_bool (nn_no exk.out hz1.out (by skip; omega)).symm), hK.old⟩)
theorem dot_lm300 {xs ys : List Rat} (hl : xs.length ≤ 12) (hx : LmL 300 xs) (hy : LmL 300 ys) (k : Nat) : LmQ 8000 (dotQ (xs.take k) (ys.take k)) := by
  refine (dotQ_lm (k := 300) (fun x h => hx x (List.mem_of_mem_take h)) (fun x h => hy x (List.mem_of_mem_take h))).up ?_
  have : (xs.take k).length ≤ 12 := by rw [List.length_take]; omega
  omega
theorem prod_lm {xs ys : List Rat} {k : Nat} {x y : Rat} (hx : LmL 300 xs) (hy : LmL 300 ys) (h : xs[k]? = some x) (h' : ys[k]? = some y) : LmQ 8000 (x * y) := (LmQ.mul (hx x (List.mem_of_getElem? h)) (hy y (List.mem_of_getElem? h'))).up (by decide)
set_option maxRecDepth 100000 in
theorem rdot_any (v0 : Value) (v1 : Value) (xs : List Rat) (ys : List Rat) (w : World) (h0 : SlV refK w v0 xs) (h1 : SlV refK w v1 ys) (hl : xs.length ≤ 12) (he : xs.length = ys.length) (hx : LmL 300 xs) (hy : LmL 300 ys) :
    Calls Tryz.prog 54 #[v0, v1] w fun e w' => ∃ y0, e = .returned y0 ∧ RefR w' y0 (dotQ xs ys) ∧ Below w.heap.size w w' := by
  have h0_0 := h0; obtain ⟨p_h0, c_h0, rfl, n_h0⟩ := h0.sh
  have h1_0 := h1; obtain ⟨p_h1, c_h1, rfl, n_h1⟩ := h1.sh
  have hK := (KS.start w)
  have he1 : xs.length ≤ ys.length := by omega
  have he2 : ys.length ≤ xs.length := by omega
  replace he := hid he
  refine Calls.hide (fun Q0 hQ0 => ?_)
  go_enter Tryz.func54, Tryz.ntmps54
  go_upto_region 0 with (fail)
  refine wp_region_tx w hK ?_
  clear hK
  refine tA (.cells #[.bool false, .slice none 0 0, .slice none 0 0] 41) (fun R1 q_R1 => ?_)
  clear q_R1
  refine txEnd (fun W2 hK => ?_)
  go_upto_region 1 with (fail)
  refine wp_region_tx w hK ?_
  clear hK
  refine tF ?_
  refine tA (.cells #[.bool false, .slice none 0 0, .slice none 0 0] 41) (fun R3 q_R3 => ?_)
  have o_R1_R3 : R1 < R3 := q_R3 _ _ _ m0
  clear q_R3
  refine tS m0 0 [.bool false, .slice none 0 0, .slice none 0 0] (fun w' hK _ ni => kP [.bool false, .slice none 0 0, .slice none 0 0] (kL o_R1_R3 kZ)) ?_
  refine txEnd (fun W4 hK => ?_)
  go_wp2_with fail
  go_loopw [6] (fun s6 wl => ∃ (k : Nat) (s : Bool) (bp : Option Addr) (bl : Nat) (bc : Nat) (dp : Option Addr) (dl : Nat) (dc : Nat), s6 = .int .i64 (k : Int) ∧ (k ≤ xs.length) ∧ KS w [Has w.heap.size R3 (.cells #[.bool s, .slice bp bl bc, .slice dp dl dc] 41), fun w => RefR w (.agg #[.bool s, .slice bp bl bc, .slice dp dl dc]) (dotQ (xs.take k) (ys.take k)), Has w.heap.size R1 (.cells #[.bool false, .slice none 0 0, .slice none 0 0] 41)] wl) (fun s6 _ => xs.length - (intOf s6).toNat)
  case atStart => exact ⟨0, false, none, 0, 0, none, 0, 0, rfl, (by omega), ⟨hK.old, (al1 (hK.all _ m0) (al1 (fun w' _ => RefR.zero w') (al1 (hK.all _ m1) aN)))⟩⟩
  case round =>
   clear hK
   obtain ⟨k, s, bp, bl, bc, dp, dl, dc, rfl, hk, hK⟩ := hrel
   generalize wr = W5 at hK ⊢
   go_upto_region 3 with (fail)
   refine wp_region_tx w hK ?_
   clear hK
   iterate 3 (refine tF ?_)
   refine tB (decide (((k : Int)) < ((xs.length : Int)))) (fun b1 hb1 => ?_)
   refine tF ?_
   cases b1
   · --
    have q_b1 : ((xs.length : Int)) ≤ ((k : Int)) := Int.not_lt.1 (of_decide_eq_false hb1.out)
    iterate 4 (refine tN ?_)
    refine tF ?_
    refine txEnd (fun W6 hK => ?_)
    go_upto_region 6 with (fail)
    refine wp_region_tx w hK ?_
    clear hK
    refine tL m0 ?_
    refine tS m2 0 [.bool s, .slice bp bl bc, .slice dp dl dc] (fun w' hK _ ni => kG o_R1_R3 (kS ni (kP [.bool s, .slice bp bl bc, .slice dp dl dc] kZ))) ?_
    refine txEnd (fun W7 hK => ?_)
    have k_R1 := (hK.get m2); have ⟨c_R1_0, c_R1_1, c_R1_2⟩ := k_R1.c3
    go_wp2
    exact bodyPost_ret (v := .agg #[.bool s, .slice bp bl bc, .slice dp dl dc]) (by simp [results, Tryz.results54, go_sem, c_R1_0, c_R1_1, c_R1_2]) rfl ((by obtain rfl := hQ0.out; exact ⟨_, rfl, (Eq.mp (congrArg (RefR _ _) (show dotQ (xs.take k) (ys.take k) = dotQ xs ys from (by rw [List.take_of_length_le (by omega), List.take_of_length_le (by omega)]))) (hK.get m1)), hK.old⟩))
   · --
    have q_b1 : ((k : Int)) < ((xs.length : Int)) := of_decide_eq_true hb1.out
    iterate 3 (refine tF ?_)
    refine tB (decide (((k : Int)) < ((ys.length : Int)))) (fun b2 hb2 => ?_)
    refine tF ?_
    refine txEnd (fun W8 hK => ?_)
    cases b2
    · --
     have q_b2 : ((ys.length : Int)) ≤ ((k : Int)) := Int.not_lt.1 (of_decide_eq_false hb2.out)
     go_upto_region 6 with (fail)
     refine wp_region_tx w hK ?_
     clear hK
     refine tL m0 ?_
     refine tS m2 0 [.bool s, .slice bp bl bc, .slice dp dl dc] (fun w' hK _ ni => kG o_R1_R3 (kS ni (kP [.bool s, .slice bp bl bc, .slice dp dl dc] kZ))) ?_
     refine txEnd (fun W9 hK => ?_)
     have k_R1 := (hK.get m2); have ⟨c_R1_0, c_R1_1, c_R1_2⟩ := k_R1.c3
     go_wp2
     exact bodyPost_ret (v := .agg #[.bool s, .slice bp bl bc, .slice dp dl dc]) (by simp [results, Tryz.results54, go_sem, c_R1_0, c_R1_1, c_R1_2]) rfl ((by obtain rfl := hQ0.out; exact ⟨_, rfl, (Eq.mp (congrArg (RefR _ _) (show dotQ (xs.take k) (ys.take k) = dotQ xs ys from (by rw [List.take_of_length_le (by omega), List.take_of_length_le (by omega)]))) (hK.get m1)), hK.old⟩))
    · --
     have q_b2 : ((k : Int)) < ((ys.length : Int)) := of_decide_eq_true hb2.out
     obtain ⟨xk, exk⟩ : ∃ x, RowKit.Hid (xs[k]? = some x) := ⟨_, hid (List.getElem?_eq_getElem (show k < xs.length from (by omega)))⟩
     have i10 : k < xs.length := by have q : k < xs.length := (by omega); first | exact q | (simp at q; omega) | omega
     obtain ⟨g10, o10, q10, l10⟩ := (h0_0).ptr exk.out
     subst q10
     obtain ⟨c10_0, c10_1, c10_2, hK⟩ := KS.atR hK (h0_0.below hK.old) exk.out
     obtain ⟨yk, eyk⟩ : ∃ x, RowKit.Hid (ys[k]? = some x) := ⟨_, hid (List.getElem?_eq_getElem (show k < ys.length from (by omega)))⟩
     have i11 : k < ys.length := by have q : k < ys.length := (by omega); first | exact q | (simp at q; omega) | omega
     obtain ⟨g11, o11, q11, l11⟩ := (h1_0).ptr eyk.out
     subst q11
     obtain ⟨c11_0, c11_1, c11_2, hK⟩ := KS.atR hK (h1_0.below hK.old) eyk.out
     go_upto_region 5 with (fail)
     have hK0 := hK.subl (sK (sK (sK (sK (sC (sK (sK sZ)))))))
     refine wp_region_float0 (w) _ _ [1, 0, 0, 0, 0, 0, 0, 0, 0, 2, 2, 4] (by kernel_rfl) (by kernel_rfl) (by kernel_rfl) (by kernel_rfl) (KS.drew hK0) (KS.drew hK) ?_
     clear hK hK0
     refine lR m4 ?_
     iterate 3 (refine lF ?_)
     apply lxF0 (wants0 rfl); (· intro w' h0; have c_CEL10_0 : w'.cell? ⟨g10, o10 + k * 3, none⟩ = some (.bool c10_0) := (by have q := (h0.get m2).2 0 _ rfl; simpa using q); have c_CEL10_1 : w'.cell? ⟨g10, o10 + k * 3 + 1, none⟩ = some (.slice c10_1.p c10_1.l c10_1.c) := (by have q := (h0.get m2).2 1 _ rfl; simpa using q); have c_CEL10_2 : w'.cell? ⟨g10, o10 + k * 3 + 2, none⟩ = some (.slice c10_2.p c10_2.l c10_2.c) := (by have q := (h0.get m2).2 2 _ rfl; simpa using q); go_simp; (try go_bits); exact ⟨rfl, rfl⟩); simp only [Act.put, pA, pB, pC]
     iterate 3 (refine lF ?_)
     apply lxF0 (wants0 rfl); (· intro w' h0; have c_CEL11_0 : w'.cell? ⟨g11, o11 + k * 3, none⟩ = some (.bool c11_0) := (by have q := (h0.get m0).2 0 _ rfl; simpa using q); have c_CEL11_1 : w'.cell? ⟨g11, o11 + k * 3 + 1, none⟩ = some (.slice c11_1.p c11_1.l c11_1.c) := (by have q := (h0.get m0).2 1 _ rfl; simpa using q); have c_CEL11_2 : w'.cell? ⟨g11, o11 + k * 3 + 2, none⟩ = some (.slice c11_2.p c11_2.l c11_2.c) := (by have q := (h0.get m0).2 2 _ rfl; simpa using q); go_simp; (try go_bits); exact ⟨rfl, rfl⟩); simp only [Act.put, pA, pB, pC]
     refine lER (fun w' h0 hK => rmul_q (.agg #[.bool c10_0, .slice c10_1.p c10_1.l c10_1.c, .slice c10_2.p c10_2.l c10_2.c]) (.agg #[.bool c11_0, .slice c11_1.p c11_1.l c11_1.c, .slice c11_2.p c11_2.l c11_2.c]) xk yk w' (hK.get m3) (hK.get m1) (hx _ (List.mem_of_getElem? exk.out)) (hy _ (List.mem_of_getElem? eyk.out)) (by decide)) (fun sv12 => ?_)
     refine lER (fun w' h0 hK => radd_q (.agg #[.bool s, .slice bp bl bc, .slice dp dl dc]) (.agg #[.bool (isN (xk * yk)), .slice sv12.a.p (digs B6 (numQ (xk * yk))).length sv12.a.c, .slice sv12.b.p (digs B6 (den0 (xk * yk))).length sv12.b.c]) (dotQ (xs.take k) (ys.take k)) (xk * yk) w' (hK.get m8) (hK.get m0) (dot_lm300 hl hx hy k) (prod_lm hx hy exk.out eyk.out) (by decide)) (fun sv13 => ?_)
     refine lS m10 0 [.bool (isN ((dotQ (xs.take k) (ys.take k)) + (xk * yk))), .slice sv13.a.p (digs B6 (numQ ((dotQ (xs.take k) (ys.take k)) + (xk * yk)))).length sv13.a.c, .slice sv13.b.p (digs B6 (den0 ((dotQ (xs.take k) (ys.take k)) + (xk * yk)))).length sv13.b.c] (fun w' h0 hK k_R3 ni => kK (spC (Nat.ne_of_lt (Nat.lt_of_lt_of_le l11 k_R3.1))) (kS ni (kK (spC (Nat.ne_of_lt (Nat.lt_of_lt_of_le l10 k_R3.1))) (kS ni (kS ni (kL o_R1_R3 kN)))))) (fun w' h0 hK k_R3 ni => kS ni (kR ni (kR ni (kS ni (kR ni (kR ni (kK (spC (Nat.ne_of_lt (Nat.lt_of_lt_of_le l11 k_R3.1))) (kS ni (kK (spC (Nat.ne_of_lt (Nat.lt_of_lt_of_le l10 k_R3.1))) (kS ni (kP [.bool (isN ((dotQ (xs.take k) (ys.take k)) + (xk * yk))), .slice sv13.a.p (digs B6 (numQ ((dotQ (xs.take k) (ys.take k)) + (xk * yk)))).length sv13.a.c, .slice sv13.b.p (digs B6 (den0 ((dotQ (xs.take k) (ys.take k)) + (xk * yk)))).length sv13.b.c] (kS ni (kL o_R1_R3 kZ))))))))))))) ?_
     refine lxEnd (fun W14 hK => ?_)
     (try go_wp2)
     go_roundw
     case rel => exact ⟨k + 1, (isN ((dotQ (xs.take k) (ys.take k)) + (xk * yk))), sv13.a.p, (digs B6 (numQ ((dotQ (xs.take k) (ys.take k)) + (xk * yk)))).length, sv13.a.c, sv13.b.p, (digs B6 (den0 ((dotQ (xs.take k) (ys.take k)) + (xk * yk)))).length, sv13.b.c, (by first | rfl | go_num), (by omega), ⟨hK.old, (al1 (hK.all _ m10) (al1 (fun w' hb => Eq.mp (congrArg (RefR w' (.agg #[.bool (isN ((dotQ (xs.take k) (ys.take k)) + (xk * yk))), .slice sv13.a.p (digs B6 (numQ ((dotQ (xs.take k) (ys.take k)) + (xk * yk)))).length sv13.a.c, .slice sv13.b.p (digs B6 (den0 ((dotQ (xs.take k) (ys.take k)) + (xk * yk)))).length sv13.b.c])) (show (dotQ (xs.take k) (ys.take k)) + (xk * yk) = dotQ (xs.take (k + 1)) (ys.take (k + 1)) from (dotQ_take exk.out eyk.out).symm)) (hK.all _ m0 w' hb)) (al1 (hK.all _ m12) aN)))⟩⟩
     case measure => simp [intOf]; omega
def sumN (F : Nat → Rat) : Nat → Rat
  | 0 => 0
  | k + 1 => sumN F k + F k
theorem sumN_dot {xs ys : List Rat} (he : xs.length = ys.length) : ∀ k, k ≤ xs.length → sumN (fun j => xs.getD j 0 * ys.getD j 0) k = dotQ (xs.take k) (ys.take k)
  | 0, _ => by rw [List.take_zero, List.take_zero]; rfl
  | k + 1, h => by
    have hx : xs[k]? = some xs[k] := List.getElem?_eq_getElem h
    have hy : ys[k]? = some (ys[k]'(by omega)) := List.getElem?_eq_getElem (by omega)
    rw [dotQ_take hx hy, sumN, sumN_dot he k (by omega), getD_of hx, getD_of hy]
theorem sumN_all {xs ys : List Rat} (he : xs.length = ys.length) : sumN (fun j => xs.getD j 0 * ys.getD j 0) xs.length = dotQ xs ys := by
  rw [sumN_dot he _ (Nat.le_refl _), List.take_length, he, List.take_length]
theorem getD_lm {xs : List Rat} {k : Nat} (h : LmL k xs) (hk : 1 ≤ k) (j : Nat) : LmQ k (xs.getD j 0) := by
  cases e : xs[j]? with
  | none => rw [List.getD, e]; exact LmQ.zero.up hk
  | some x => rw [getD_of e]; exact h x (List.mem_of_getElem? e)
set_option maxRecDepth 100000 in
theorem dot1_any  (j : Nat) (B1 b1 : Nat) (B2 b2 : Nat) (p1 p2 : Option Addr) (c1 c2 : Nat) (xs ys : List Rat) (w : World)  (hB1 : Has b1 B1 (.cells #[.slice p1 xs.length c1] 46) w) (hB2 : Has b2 B2 (.cells #[.slice p2 ys.length c2] 46) w) (hS1 : SlV ratK w (.slice p1 xs.length c1) xs) (hS2 : SlV ratK w (.slice p2 ys.length c2) ys) (he : xs.length = ys.length) (hj : j < xs.length) (hx : LmL 300 xs) (hy : LmL 300 ys) :
    Calls Tryz.prog 118 #[.int .i64 (j : Int), .pointer (some ⟨B1, 0, none⟩), .pointer (some ⟨B2, 0, none⟩)] w fun e w' => ∃ y0, e = .returned y0 ∧ RatV w' y0 (xs.getD j 0 * ys.getD j 0) ∧ Below w.heap.size w w' := by
  have hK : KS w [fun w => SlV ratK w (.slice p2 ys.length c2) ys, fun w => SlV ratK w (.slice p1 xs.length c1) xs, Has b2 B2 (.cells #[.slice p2 ys.length c2] 46), Has b1 B1 (.cells #[.slice p1 xs.length c1] 46)] w := (KS.add (KS.add (KS.add (KS.add (KS.start w) (fun w' hb => hB1.below hb)) (fun w' hb => hB2.below hb)) (fun w' hb => hS1.below hb)) (fun w' hb => hS2.below hb))
  have he1 : xs.length ≤ ys.length := by omega
  have he2 : ys.length ≤ xs.length := by omega
  replace he := hid he
  refine Calls.hide (fun Q0 hQ0 => ?_)
  go_enter Tryz.func118, Tryz.ntmps118
  go_upto_region 0 with (fail)
  refine wp_region_tx w hK ?_
  clear hK
  refine tA (.cells #[.bool false, .slice none 0 0, .slice none 0 0] 55) (fun R1 q_R1 => ?_)
  have o_B1_R1 : B1 < R1 := q_R1 _ _ _ m3
  have o_B2_R1 : B2 < R1 := q_R1 _ _ _ m2
  clear q_R1
  refine txEnd (fun W2 hK => ?_)
  obtain ⟨xk, exk⟩ : ∃ x, RowKit.Hid (xs[j]? = some x) := ⟨_, hid (List.getElem?_eq_getElem (show j < xs.length from (by omega)))⟩
  have i3 : j < xs.length := by have q : j < xs.length := (by omega); first | exact q | (simp at q; omega) | omega
  obtain ⟨g3, o3, q3, l3⟩ := ((hK.get m2)).ptr exk.out
  subst q3
  obtain ⟨c3_0, c3_1, c3_2, hK⟩ := KS.atQ hK (hK.get m2) exk.out
  obtain ⟨yk, eyk⟩ : ∃ x, RowKit.Hid (ys[j]? = some x) := ⟨_, hid (List.getElem?_eq_getElem (show j < ys.length from (by omega)))⟩
  have i4 : j < ys.length := by have q : j < ys.length := (by omega); first | exact q | (simp at q; omega) | omega
  obtain ⟨g4, o4, q4, l4⟩ := ((hK.get m3)).ptr eyk.out
  subst q4
  obtain ⟨c4_0, c4_1, c4_2, hK⟩ := KS.atQ hK (hK.get m3) eyk.out
  go_upto_region 1 with (fail)
  have hK0 := hK.subl (sC (sK (sC (sK (sC (sC (sC (sK (sK sZ)))))))))
  refine wp_region_float0 (w) _ _ [0, 0, 0, 1, 0, 0, 0, 1, 2, 4] (by kernel_rfl) (by kernel_rfl) (by kernel_rfl) (by kernel_rfl) (KS.drew hK0) (KS.drew hK) ?_
  clear hK hK0
  refine lL m3 ?_
  iterate 2 (refine lF ?_)
  apply lxR0 (wants0 rfl); (· intro w' h0 hK; have c_CEL3_0 : w'.cell? ⟨g3, o3 + j * 3, none⟩ = some (.bool c3_0) := (by have q := (hK.get m2).2 0 _ rfl; simpa using q); have c_CEL3_1 : w'.cell? ⟨g3, o3 + j * 3 + 1, none⟩ = some (.slice c3_1.p c3_1.l c3_1.c) := (by have q := (hK.get m2).2 1 _ rfl; simpa using q); have c_CEL3_2 : w'.cell? ⟨g3, o3 + j * 3 + 2, none⟩ = some (.slice c3_2.p c3_2.l c3_2.c) := (by have q := (hK.get m2).2 2 _ rfl; simpa using q); go_simp; (try go_bits); exact ⟨rfl, rfl⟩); simp only [Act.put, pA, pB, pC]
  refine lL m2 ?_
  iterate 2 (refine lF ?_)
  apply lxR0 (wants0 rfl); (· intro w' h0 hK; have c_CEL4_0 : w'.cell? ⟨g4, o4 + j * 3, none⟩ = some (.bool c4_0) := (by have q := (hK.get m0).2 0 _ rfl; simpa using q); have c_CEL4_1 : w'.cell? ⟨g4, o4 + j * 3 + 1, none⟩ = some (.slice c4_1.p c4_1.l c4_1.c) := (by have q := (hK.get m0).2 1 _ rfl; simpa using q); have c_CEL4_2 : w'.cell? ⟨g4, o4 + j * 3 + 2, none⟩ = some (.slice c4_2.p c4_2.l c4_2.c) := (by have q := (hK.get m0).2 2 _ rfl; simpa using q); go_simp; (try go_bits); exact ⟨rfl, rfl⟩); simp only [Act.put, pA, pB, pC]
  refine lEQ (fun w' h0 hK => qmul_any (.agg #[.bool c3_0, .slice c3_1.p c3_1.l c3_1.c, .slice c3_2.p c3_2.l c3_2.c]) (.agg #[.bool c4_0, .slice c4_1.p c4_1.l c4_1.c, .slice c4_2.p c4_2.l c4_2.c]) xk yk w' (hK.get m3) (hK.get m1) (hx _ (List.mem_of_getElem? exk.out)) (hy _ (List.mem_of_getElem? eyk.out)) (by decide)) (fun sv5 => ?_)
  refine lS m7 0 [.bool (isN (xk * yk)), .slice sv5.a.p sv5.a.l sv5.a.c, .slice sv5.b.p sv5.b.l sv5.b.c] (fun w' h0 hK _ ni => kQ ni (kQ ni (kL o_B2_R1 (kL o_B1_R1 kN)))) (fun w' h0 hK _ ni => kQ ni (kM ni (kM ni (kX (kQ ni (kX (kQ ni (kP [.bool (isN (xk * yk)), .slice sv5.a.p sv5.a.l sv5.a.c, .slice sv5.b.p sv5.b.l sv5.b.c] (kX (kX (kL o_B2_R1 (kL o_B1_R1 kZ)))))))))))) ?_
  refine lxEnd (fun W6 hK => ?_)
  have k_R1 := (hK.get m5); have ⟨c_R1_0, c_R1_1, c_R1_2⟩ := k_R1.c3
  go_wp2
  exact bodyPost_ret (v := .agg #[.bool (isN (xk * yk)), .slice sv5.a.p sv5.a.l sv5.a.c, .slice sv5.b.p sv5.b.l sv5.b.c]) (by simp [results, Tryz.results118, go_sem, c_R1_0, c_R1_1, c_R1_2]) rfl ((by obtain rfl := hQ0.out; exact ⟨_, rfl, (Eq.mp (congrArg (RatV _ _) (show xk * yk = xs.getD j 0 * ys.getD j 0 from (by rw [getD_of exk.out, getD_of eyk.out]))) (hK.get m0)), hK.old⟩))
set_option maxRecDepth 100000 in
theorem sum_dot  (n : Nat) (B1 B2 : Nat) (F : Nat → Rat) (w : World)  (hc : ∀ (j : Nat) (w1 : World), j < n → Below w.heap.size w w1 → Calls Tryz.prog 118 #[.int .i64 (j : Int), .pointer (some ⟨B1, 0, none⟩), .pointer (some ⟨B2, 0, none⟩)] w1 fun e w2 => ∃ y, e = .returned y ∧ RatV w2 y (F j) ∧ Below w1.heap.size w1 w2) (hs : ∀ j, j < n → LmQ 8000 (sumN F j)) (hf : ∀ j, j < n → LmQ 8000 (F j)) (hn : n ≤ 100000) :
    Calls Tryz.prog 117 #[.int .i64 (n : Int), .func (.func 118) #[] #[.pointer (some ⟨B1, 0, none⟩), .pointer (some ⟨B2, 0, none⟩)]] w fun e w' => ∃ y0, e = .returned y0 ∧ RatV w' y0 (sumN F n) ∧ Below w.heap.size w w' := by
  have hK := (KS.start w)
  refine Calls.hide (fun Q0 hQ0 => ?_)
  go_enter Tryz.func117, Tryz.ntmps117
  go_upto_region 0 with (fail)
  refine wp_region_tx w hK ?_
  clear hK
  refine tA (.cells #[.bool false, .slice none 0 0, .slice none 0 0] 55) (fun R1 q_R1 => ?_)
  clear q_R1
  refine txEnd (fun W2 hK => ?_)
  go_upto_region 1 with (fail)
  refine wp_region_tx w hK ?_
  clear hK
  refine tA (.cells #[.bool false, .slice none 0 0, .slice none 0 0] 55) (fun R3 q_R3 => ?_)
  have o_R1_R3 : R1 < R3 := q_R3 _ _ _ m0
  clear q_R3
  refine txEnd (fun W4 hK => ?_)
  go_wp2_with fail
  go_loopw [8] (fun s8 wl => ∃ (k : Nat) (s : Bool) (bp : Option Addr) (bl : Nat) (bc : Nat) (dp : Option Addr) (dl : Nat) (dc : Nat), s8 = .int .i64 (k : Int) ∧ (k ≤ n) ∧ KS w [Has w.heap.size R3 (.cells #[.bool s, .slice bp bl bc, .slice dp dl dc] 55), fun w => RatV w (.agg #[.bool s, .slice bp bl bc, .slice dp dl dc]) (sumN F k), Has w.heap.size R1 (.cells #[.bool false, .slice none 0 0, .slice none 0 0] 55)] wl) (fun s8 _ => n - (intOf s8).toNat)
  case atStart => exact ⟨0, false, none, 0, 0, none, 0, 0, rfl, (by omega), ⟨hK.old, (al1 (hK.all _ m0) (al1 (fun w' _ => RatV.zero w') (al1 (hK.all _ m1) aN)))⟩⟩
  case round =>
   clear hK
   obtain ⟨k, s, bp, bl, bc, dp, dl, dc, rfl, hk, hK⟩ := hrel
   generalize wr = W5 at hK ⊢
   go_upto_region 3 with (fail)
   refine wp_region_tx w hK ?_
   clear hK
   refine tB (decide (((k : Int)) < ((n : Int)))) (fun b1 hb1 => ?_)
   refine txEnd (fun W6 hK => ?_)
   cases b1
   · --
    have q_b1 : ((n : Int)) ≤ ((k : Int)) := Int.not_lt.1 (of_decide_eq_false hb1.out)
    go_upto_region 7 with (fail)
    refine wp_region_tx w hK ?_
    clear hK
    refine tL m0 ?_
    refine tS m2 0 [.bool s, .slice bp bl bc, .slice dp dl dc] (fun w' hK _ ni => kG o_R1_R3 (kQ ni (kP [.bool s, .slice bp bl bc, .slice dp dl dc] kZ))) ?_
    refine txEnd (fun W7 hK => ?_)
    have k_R1 := (hK.get m2); have ⟨c_R1_0, c_R1_1, c_R1_2⟩ := k_R1.c3
    go_wp2
    exact bodyPost_ret (v := .agg #[.bool s, .slice bp bl bc, .slice dp dl dc]) (by simp [results, Tryz.results117, go_sem, c_R1_0, c_R1_1, c_R1_2]) rfl ((by obtain rfl := hQ0.out; exact ⟨_, rfl, (Eq.mp (congrArg (RatV _ _) (show sumN F k = sumN F n from (by rw [show k = n from by omega]))) (hK.get m1)), hK.old⟩))
   · --
    have q_b1 : ((k : Int)) < ((n : Int)) := of_decide_eq_true hb1.out
    go_upto_region 5 with (fail)
    have hK0 := hK.subl (sC (sK (sK sZ)))
    refine wp_region_float0 (w) _ _ [1, 0, 0, 2, 2, 4] (by kernel_rfl) (by kernel_rfl) (by kernel_rfl) (by kernel_rfl) (KS.drew hK0) (KS.drew hK) ?_
    clear hK hK0
    refine lR m0 ?_
    iterate 2 (refine lF ?_)
    refine lEQ (fun w' h0 hK => hc k w' (by omega) hK.old) (fun sv8 => ?_)
    refine lEQ (fun w' h0 hK => qadd_any (.agg #[.bool s, .slice bp bl bc, .slice dp dl dc]) (.agg #[.bool (isN (F k)), .slice sv8.a.p sv8.a.l sv8.a.c, .slice sv8.b.p sv8.b.l sv8.b.c]) (sumN F k) (F k) w' (hK.get m4) (hK.get m0) (hs k (by omega)) (hf k (by omega)) (by decide)) (fun sv9 => ?_)
    refine lS m6 0 [.bool (isN ((sumN F k) + (F k))), .slice sv9.a.p sv9.a.l sv9.a.c, .slice sv9.b.p sv9.b.l sv9.b.c] (fun w' h0 hK _ ni => kQ ni (kL o_R1_R3 kN)) (fun w' h0 hK _ ni => kQ ni (kM ni (kM ni (kQ ni (kM ni (kM ni (kP [.bool (isN ((sumN F k) + (F k))), .slice sv9.a.p sv9.a.l sv9.a.c, .slice sv9.b.p sv9.b.l sv9.b.c] (kQ ni (kL o_R1_R3 kZ))))))))) ?_
    refine lxEnd (fun W10 hK => ?_)
    (try go_wp2)
    go_roundw
    case rel => exact ⟨k + 1, (isN ((sumN F k) + (F k))), sv9.a.p, sv9.a.l, sv9.a.c, sv9.b.p, sv9.b.l, sv9.b.c, (by first | rfl | go_num), (by omega), ⟨hK.old, (al1 (hK.all _ m6) (al1 (fun w' hb => Eq.mp (congrArg (RatV w' (.agg #[.bool (isN ((sumN F k) + (F k))), .slice sv9.a.p sv9.a.l sv9.a.c, .slice sv9.b.p sv9.b.l sv9.b.c])) (show (sumN F k) + (F k) = sumN F (k + 1) from rfl)) (hK.all _ m0 w' hb)) (al1 (hK.all _ m8) aN)))⟩⟩
    case measure => simp [intOf]; omega
set_option maxRecDepth 100000 in
theorem sum_col  (n : Nat) (B1 B2 B3 : Nat) (F : Nat → Rat) (w : World)  (hc : ∀ (j : Nat) (w1 : World), j < n → Below w.heap.size w w1 → Calls Tryz.prog 122 #[.int .i64 (j : Int), .pointer (some ⟨B1, 0, none⟩), .pointer (some ⟨B2, 0, none⟩), .pointer (some ⟨B3, 0, none⟩)] w1 fun e w2 => ∃ y, e = .returned y ∧ RatV w2 y (F j) ∧ Below w1.heap.size w1 w2) (hs : ∀ j, j < n → LmQ 8000 (sumN F j)) (hf : ∀ j, j < n → LmQ 8000 (F j)) (hn : n ≤ 100000) :
    Calls Tryz.prog 117 #[.int .i64 (n : Int), .func (.func 122) #[] #[.pointer (some ⟨B1, 0, none⟩), .pointer (some ⟨B2, 0, none⟩), .pointer (some ⟨B3, 0, none⟩)]] w fun e w' => ∃ y0, e = .returned y0 ∧ RatV w' y0 (sumN F n) ∧ Below w.heap.size w w' := by
  have hK := (KS.start w)
  refine Calls.hide (fun Q0 hQ0 => ?_)
  go_enter Tryz.func117, Tryz.ntmps117
  go_upto_region 0 with (fail)
  refine wp_region_tx w hK ?_
  clear hK
  refine tA (.cells #[.bool false, .slice none 0 0, .slice none 0 0] 55) (fun R1 q_R1 => ?_)
  clear q_R1
  refine txEnd (fun W2 hK => ?_)
  go_upto_region 1 with (fail)
  refine wp_region_tx w hK ?_
  clear hK
  refine tA (.cells #[.bool false, .slice none 0 0, .slice none 0 0] 55) (fun R3 q_R3 => ?_)
  have o_R1_R3 : R1 < R3 := q_R3 _ _ _ m0
  clear q_R3
  refine txEnd (fun W4 hK => ?_)
  go_wp2_with fail
  go_loopw [8] (fun s8 wl => ∃ (k : Nat) (s : Bool) (bp : Option Addr) (bl : Nat) (bc : Nat) (dp : Option Addr) (dl : Nat) (dc : Nat), s8 = .int .i64 (k : Int) ∧ (k ≤ n) ∧ KS w [Has w.heap.size R3 (.cells #[.bool s, .slice bp bl bc, .slice dp dl dc] 55), fun w => RatV w (.agg #[.bool s, .slice bp bl bc, .slice dp dl dc]) (sumN F k), Has w.heap.size R1 (.cells #[.bool false, .slice none 0 0, .slice none 0 0] 55)] wl) (fun s8 _ => n - (intOf s8).toNat)
  case atStart => exact ⟨0, false, none, 0, 0, none, 0, 0, rfl, (by omega), ⟨hK.old, (al1 (hK.all _ m0) (al1 (fun w' _ => RatV.zero w') (al1 (hK.all _ m1) aN)))⟩⟩
  case round =>
   clear hK
   obtain ⟨k, s, bp, bl, bc, dp, dl, dc, rfl, hk, hK⟩ := hrel
   generalize wr = W5 at hK ⊢
   go_upto_region 3 with (fail)
   refine wp_region_tx w hK ?_
   clear hK
   refine tB (decide (((k : Int)) < ((n : Int)))) (fun b1 hb1 => ?_)
   refine txEnd (fun W6 hK => ?_)
   cases b1
   · --
    have q_b1 : ((n : Int)) ≤ ((k : Int)) := Int.not_lt.1 (of_decide_eq_false hb1.out)
    go_upto_region 7 with (fail)
    refine wp_region_tx w hK ?_
    clear hK
    refine tL m0 ?_
    refine tS m2 0 [.bool s, .slice bp bl bc, .slice dp dl dc] (fun w' hK _ ni => kG o_R1_R3 (kQ ni (kP [.bool s, .slice bp bl bc, .slice dp dl dc] kZ))) ?_
    refine txEnd (fun W7 hK => ?_)
    have k_R1 := (hK.get m2); have ⟨c_R1_0, c_R1_1, c_R1_2⟩ := k_R1.c3
    go_wp2
    exact bodyPost_ret (v := .agg #[.bool s, .slice bp bl bc, .slice dp dl dc]) (by simp [results, Tryz.results117, go_sem, c_R1_0, c_R1_1, c_R1_2]) rfl ((by obtain rfl := hQ0.out; exact ⟨_, rfl, (Eq.mp (congrArg (RatV _ _) (show sumN F k = sumN F n from (by rw [show k = n from by omega]))) (hK.get m1)), hK.old⟩))
   · --
    have q_b1 : ((k : Int)) < ((n : Int)) := of_decide_eq_true hb1.out
    go_upto_region 5 with (fail)
    have hK0 := hK.subl (sC (sK (sK sZ)))
    refine wp_region_float0 (w) _ _ [1, 0, 0, 2, 2, 4] (by kernel_rfl) (by kernel_rfl) (by kernel_rfl) (by kernel_rfl) (KS.drew hK0) (KS.drew hK) ?_
    clear hK hK0
    refine lR m0 ?_
    iterate 2 (refine lF ?_)
    refine lEQ (fun w' h0 hK => hc k w' (by omega) hK.old) (fun sv8 => ?_)
    refine lEQ (fun w' h0 hK => qadd_any (.agg #[.bool s, .slice bp bl bc, .slice dp dl dc]) (.agg #[.bool (isN (F k)), .slice sv8.a.p sv8.a.l sv8.a.c, .slice sv8.b.p sv8.b.l sv8.b.c]) (sumN F k) (F k) w' (hK.get m4) (hK.get m0) (hs k (by omega)) (hf k (by omega)) (by decide)) (fun sv9 => ?_)
    refine lS m6 0 [.bool (isN ((sumN F k) + (F k))), .slice sv9.a.p sv9.a.l sv9.a.c, .slice sv9.b.p sv9.b.l sv9.b.c] (fun w' h0 hK _ ni => kQ ni (kL o_R1_R3 kN)) (fun w' h0 hK _ ni => kQ ni (kM ni (kM ni (kQ ni (kM ni (kM ni (kP [.bool (isN ((sumN F k) + (F k))), .slice sv9.a.p sv9.a.l sv9.a.c, .slice sv9.b.p sv9.b.l sv9.b.c] (kQ ni (kL o_R1_R3 kZ))))))))) ?_
    refine lxEnd (fun W10 hK => ?_)
    (try go_wp2)
    go_roundw
    case rel => exact ⟨k + 1, (isN ((sumN F k) + (F k))), sv9.a.p, sv9.a.l, sv9.a.c, sv9.b.p, sv9.b.l, sv9.b.c, (by first | rfl | go_num), (by omega), ⟨hK.old, (al1 (hK.all _ m6) (al1 (fun w' hb => Eq.mp (congrArg (RatV w' (.agg #[.bool (isN ((sumN F k) + (F k))), .slice sv9.a.p sv9.a.l sv9.a.c, .slice sv9.b.p sv9.b.l sv9.b.c])) (show (sumN F k) + (F k) = sumN F (k + 1) from rfl)) (hK.all _ m0 w' hb)) (al1 (hK.all _ m8) aN)))⟩⟩
    case measure => simp [intOf]; omega
theorem dot_sum {xs ys : List Rat} {p1 p2 : Option Addr} {c1 c2 B1 B2 b1 b2 : Nat} (w : World) (he : xs.length = ys.length) (hl : xs.length ≤ 12) (hx : LmL 300 xs) (hy : LmL 300 ys) (hB1 : Has b1 B1 (.cells #[.slice p1 xs.length c1] 46) w) (hB2 : Has b2 B2 (.cells #[.slice p2 ys.length c2] 46) w) (hS1 : SlV ratK w (.slice p1 xs.length c1) xs) (hS2 : SlV ratK w (.slice p2 ys.length c2) ys) :
    Calls Tryz.prog 117 #[.int .i64 (xs.length : Int), .func (.func 118) #[] #[.pointer (some ⟨B1, 0, none⟩), .pointer (some ⟨B2, 0, none⟩)]] w fun e w' => ∃ y0, e = .returned y0 ∧ RatV w' y0 (dotQ xs ys) ∧ Below w.heap.size w w' := by
  rw [← sumN_all he]
  refine sum_dot xs.length B1 B2 (fun j => xs.getD j 0 * ys.getD j 0) w (fun j w1 hj hb => dot1_any j B1 b1 B2 b2 p1 p2 c1 c2 xs ys w1 (hB1.below hb) (hB2.below hb) (hS1.below hb) (hS2.below hb) he hj hx hy) (fun j hj => ?_) (fun j _ => ((getD_lm hx (by decide) j).mul (getD_lm hy (by decide) j)).up (by decide)) (by omega)
  rw [sumN_dot he j (by omega)]
  exact dot_lm300 hl hx hy j
set_option maxRecDepth 100000 in
theorem dot_any (v0 : Value) (v1 : Value) (xs : List Rat) (ys : List Rat) (w : World) (h0 : SlV ratK w v0 xs) (h1 : SlV ratK w v1 ys) (hl : xs.length ≤ 12) (he : xs.length = ys.length) (hx : LmL 300 xs) (hy : LmL 300 ys) :
    Calls Tryz.prog 77 #[v0, v1] w fun e w' => ∃ y0, e = .returned y0 ∧ RatV w' y0 (dotQ xs ys) ∧ Below w.heap.size w w' := by
  have h0_0 := h0; obtain ⟨p_h0, c_h0, rfl, n_h0⟩ := h0.sh
  have h1_0 := h1; obtain ⟨p_h1, c_h1, rfl, n_h1⟩ := h1.sh
  have hK := (KS.start w)
  replace he := hid he
  refine Calls.hide (fun Q0 hQ0 => ?_)
  go_enter Tryz.func77, Tryz.ntmps77
  go_upto_region 0 with (fail)
  refine wp_region_tx w hK ?_
  clear hK
  refine tA (.cells #[.slice p_h0 xs.length c_h0] 46) (fun R1 q_R1 => ?_)
  clear q_R1
  refine tA (.cells #[.slice p_h1 ys.length c_h1] 46) (fun R2 q_R2 => ?_)
  have o_R1_R2 : R1 < R2 := q_R2 _ _ _ m0
  clear q_R2
  refine tA (.cells #[.bool false, .slice none 0 0, .slice none 0 0] 55) (fun R3 q_R3 => ?_)
  have o_R1_R3 : R1 < R3 := q_R3 _ _ _ m1
  have o_R2_R3 : R2 < R3 := q_R3 _ _ _ m0
  clear q_R3
  refine txEnd (fun W4 hK => ?_)
  go_upto_region 1 with (fail)
  refine wp_region_tx w hK ?_
  clear hK
  refine tL m2 ?_
  iterate 2 (refine tF ?_)
  refine tEQ (fun w' hK => dot_sum w' he.out hl hx hy (hK.get m2) (hK.get m1) (h0_0.below hK.old) (h1_0.below hK.old)) (fun sv5 => ?_)
  refine tS m3 0 [.bool (isN (dotQ xs ys)), .slice sv5.a.p sv5.a.l sv5.a.c, .slice sv5.b.p sv5.b.l sv5.b.c] (fun w' hK _ ni => kQ ni (kM ni (kM ni (kP [.bool (isN (dotQ xs ys)), .slice sv5.a.p sv5.a.l sv5.a.c, .slice sv5.b.p sv5.b.l sv5.b.c] (kL o_R2_R3 (kL o_R1_R3 kZ)))))) ?_
  refine txEnd (fun W6 hK => ?_)
  have k_R3 := (hK.get m3); have ⟨c_R3_0, c_R3_1, c_R3_2⟩ := k_R3.c3
  go_wp2
  exact bodyPost_ret (v := .agg #[.bool (isN (dotQ xs ys)), .slice sv5.a.p sv5.a.l sv5.a.c, .slice sv5.b.p sv5.b.l sv5.b.c]) (by simp [results, Tryz.results77, go_sem, c_R3_0, c_R3_1, c_R3_2]) rfl ((by obtain rfl := hQ0.out; exact ⟨_, rfl, (hK.get m0), hK.old⟩))
def colL (P : LPd) (c : Nat) : List Rat := P.A.map fun a => a.getD c 0
theorem colL_len (P : LPd) (c : Nat) : (colL P c).length = P.A.length := by simp [colL]
theorem colL_at {P : LPd} {c j : Nat} {a : List Rat} {y : Rat} (h : P.A[j]? = some a) (hy : a[c]? = some y) : (colL P c)[j]? = some y := by
  unfold colL; rw [List.getElem?_map, h, Option.map_some, getD_of hy]
theorem colL_lm {P : LPd} (ha : ∀ a ∈ P.A, LmL 300 a) (c : Nat) : LmL 300 (colL P c) := fun x hx => by
  obtain ⟨a, h1, rfl⟩ := List.mem_map.1 hx
  exact getD_lm (ha a h1) (by decide) c
theorem colL_mul {P : LPd} {c j : Nat} {y : List Rat} {x z : Rat} {a : List Rat} (hx : y[j]? = some x) (h : P.A[j]? = some a) (hz : a[c]? = some z) : x * z = y.getD j 0 * (colL P c).getD j 0 := by
  rw [getD_of hx, getD_of (colL_at h hz)]
set_option maxRecDepth 100000 in
theorem col1_any  (j : Nat) (B1 b1 : Nat) (B2 b2 : Nat) (B3 b3 : Nat) (py pc pa pb : Option Addr) (dy dc da db : Nat) (y : List Rat) (P : LPd) (c : Nat) (w : World)  (hB1 : Has b1 B1 (.cells #[.slice py y.length dy] 46) w) (hB2 : Has b2 B2 (.cells #[.slice pc P.c.length dc, .slice pa P.A.length da, .slice pb P.b.length db] 49) w) (hB3 : Has b3 B3 (.cells #[.int .i64 (c : Int)] 3) w) (hS1 : SlV ratK w (.slice py y.length dy) y) (hS2 : SlV rrK w (.slice pa P.A.length da) P.A) (hj : j < P.A.length) (he : y.length = P.A.length) (hr : ∀ a ∈ P.A, c < a.length) (_hl : P.A.length ≤ 12) (hy : LmL 300 y) (ha : ∀ a ∈ P.A, LmL 300 a) :
    Calls Tryz.prog 122 #[.int .i64 (j : Int), .pointer (some ⟨B1, 0, none⟩), .pointer (some ⟨B2, 0, none⟩), .pointer (some ⟨B3, 0, none⟩)] w fun e w' => ∃ y0, e = .returned y0 ∧ RatV w' y0 (y.getD j 0 * (colL P c).getD j 0) ∧ Below w.heap.size w w' := by
  have hK : KS w [fun w => SlV rrK w (.slice pa P.A.length da) P.A, fun w => SlV ratK w (.slice py y.length dy) y, Has b3 B3 (.cells #[.int .i64 (c : Int)] 3), Has b2 B2 (.cells #[.slice pc P.c.length dc, .slice pa P.A.length da, .slice pb P.b.length db] 49), Has b1 B1 (.cells #[.slice py y.length dy] 46)] w := (KS.add (KS.add (KS.add (KS.add (KS.add (KS.start w) (fun w' hb => hB1.below hb)) (fun w' hb => hB2.below hb)) (fun w' hb => hB3.below hb)) (fun w' hb => hS1.below hb)) (fun w' hb => hS2.below hb))
  have he1 : y.length ≤ P.A.length := by omega
  have he2 : P.A.length ≤ y.length := by omega
  replace he := hid he
  refine Calls.hide (fun Q0 hQ0 => ?_)
  go_enter Tryz.func122, Tryz.ntmps122
  go_upto_region 0 with (fail)
  refine wp_region_tx w hK ?_
  clear hK
  refine tA (.cells #[.bool false, .slice none 0 0, .slice none 0 0] 55) (fun R1 q_R1 => ?_)
  have o_B1_R1 : B1 < R1 := q_R1 _ _ _ m4
  have o_B2_R1 : B2 < R1 := q_R1 _ _ _ m3
  have o_B3_R1 : B3 < R1 := q_R1 _ _ _ m2
  clear q_R1
  refine txEnd (fun W2 hK => ?_)
  obtain ⟨xk, exk⟩ : ∃ x, RowKit.Hid (y[j]? = some x) := ⟨_, hid (List.getElem?_eq_getElem (show j < y.length from (by omega)))⟩
  have i3 : j < y.length := by have q : j < y.length := (by omega); first | exact q | (simp at q; omega) | omega
  obtain ⟨g3, o3, q3, l3⟩ := ((hK.get m2)).ptr exk.out
  subst q3
  obtain ⟨c3_0, c3_1, c3_2, hK⟩ := KS.atQ hK (hK.get m2) exk.out
  obtain ⟨ra, era⟩ : ∃ x, RowKit.Hid (P.A[j]? = some x) := ⟨_, hid (List.getElem?_eq_getElem (show j < P.A.length from (by omega)))⟩
  have i4 : j < P.A.length := by have q : j < P.A.length := (by omega); first | exact q | (simp at q; omega) | omega
  obtain ⟨g4, o4, q4, l4⟩ := ((hK.get m3)).ptr era.out
  subst q4
  obtain ⟨c4_0, hK⟩ := KS.atL hK (hK.get m3) era.out
  obtain ⟨yk, eyk⟩ : ∃ x, RowKit.Hid (ra[c]? = some x) := ⟨_, hid (List.getElem?_eq_getElem (show c < ra.length from (hr _ (List.mem_of_getElem? era.out))))⟩
  have i5 : c < ra.length := by have q : c < ra.length := (hr _ (List.mem_of_getElem? era.out)); first | exact q | (simp at q; omega) | omega
  obtain ⟨g5, o5, q5, l5⟩ := ((hK.get m1)).ptr eyk.out
  rw [q5] at hK; (try rw [q5])
  obtain ⟨c5_0, c5_1, c5_2, hK⟩ := KS.atQ hK (hK.get m1) eyk.out
  go_upto_region 1 with (fail)
  have hK0 := hK.subl (sC (sK (sC (sC (sC (sK (sC (sC (sC (sK (sK (sK sZ))))))))))))
  refine wp_region_float0 (w) _ _ [0, 0, 0, 1, 0, 0, 0, 0, 1, 0, 0, 1, 2, 4] (by kernel_rfl) (by kernel_rfl) (by kernel_rfl) (by kernel_rfl) (KS.drew hK0) (KS.drew hK) ?_
  clear hK hK0
  refine lL m4 ?_
  iterate 2 (refine lF ?_)
  apply lxR0 (wants0 rfl); (· intro w' h0 hK; have c_CEL3_0 : w'.cell? ⟨g3, o3 + j * 3, none⟩ = some (.bool c3_0) := (by have q := (hK.get m4).2 0 _ rfl; simpa using q); have c_CEL3_1 : w'.cell? ⟨g3, o3 + j * 3 + 1, none⟩ = some (.slice c3_1.p c3_1.l c3_1.c) := (by have q := (hK.get m4).2 1 _ rfl; simpa using q); have c_CEL3_2 : w'.cell? ⟨g3, o3 + j * 3 + 2, none⟩ = some (.slice c3_2.p c3_2.l c3_2.c) := (by have q := (hK.get m4).2 2 _ rfl; simpa using q); go_simp; (try go_bits); exact ⟨rfl, rfl⟩); simp only [Act.put, pA, pB, pC]
  refine lF ?_
  refine lL m3 ?_
  iterate 2 (refine lF ?_)
  apply lxR0 (wants0 rfl); (· intro w' h0 hK; have c_CEL4_0 : w'.cell? ⟨g4, o4 + j, none⟩ = some (.slice (some ⟨g5, o5, none⟩) ra.length c4_0.c) := (by have q := (hK.get m2).2 0 _ rfl; simpa using q); go_simp; (try go_bits); exact ⟨rfl, rfl⟩); simp only [Act.put, pA, pB, pC]
  refine lL m2 ?_
  refine lF ?_
  apply lxR0 (wants0 rfl); (· intro w' h0 hK; have c_CEL5_0 : w'.cell? ⟨g5, o5 + c * 3, none⟩ = some (.bool c5_0) := (by have q := (hK.get m0).2 0 _ rfl; simpa using q); have c_CEL5_1 : w'.cell? ⟨g5, o5 + c * 3 + 1, none⟩ = some (.slice c5_1.p c5_1.l c5_1.c) := (by have q := (hK.get m0).2 1 _ rfl; simpa using q); have c_CEL5_2 : w'.cell? ⟨g5, o5 + c * 3 + 2, none⟩ = some (.slice c5_2.p c5_2.l c5_2.c) := (by have q := (hK.get m0).2 2 _ rfl; simpa using q); go_simp; (try go_bits); exact ⟨rfl, rfl⟩); simp only [Act.put, pA, pB, pC]
  refine lEQ (fun w' h0 hK => qmul_any (.agg #[.bool c3_0, .slice c3_1.p c3_1.l c3_1.c, .slice c3_2.p c3_2.l c3_2.c]) (.agg #[.bool c5_0, .slice c5_1.p c5_1.l c5_1.c, .slice c5_2.p c5_2.l c5_2.c]) xk yk w' (hK.get m5) (hK.get m1) (hy _ (List.mem_of_getElem? exk.out)) (ha _ (List.mem_of_getElem? era.out) _ (List.mem_of_getElem? eyk.out)) (by decide)) (fun sv6 => ?_)
  refine lS m9 0 [.bool (isN (xk * yk)), .slice sv6.a.p sv6.a.l sv6.a.c, .slice sv6.b.p sv6.b.l sv6.b.c] (fun w' h0 hK _ ni => kQ ni (kQ ni (kL o_B3_R1 (kL o_B2_R1 (kL o_B1_R1 kN))))) (fun w' h0 hK _ ni => kQ ni (kM ni (kM ni (kX (kQ ni (kX (kX (kX (kQ ni (kP [.bool (isN (xk * yk)), .slice sv6.a.p sv6.a.l sv6.a.c, .slice sv6.b.p sv6.b.l sv6.b.c] (kX (kX (kL o_B3_R1 (kL o_B2_R1 (kL o_B1_R1 kZ))))))))))))))) ?_
  refine lxEnd (fun W7 hK => ?_)
  have k_R1 := (hK.get m5); have ⟨c_R1_0, c_R1_1, c_R1_2⟩ := k_R1.c3
  go_wp2
  exact bodyPost_ret (v := .agg #[.bool (isN (xk * yk)), .slice sv6.a.p sv6.a.l sv6.a.c, .slice sv6.b.p sv6.b.l sv6.b.c]) (by simp [results, Tryz.results122, go_sem, c_R1_0, c_R1_1, c_R1_2]) rfl ((by obtain rfl := hQ0.out; exact ⟨_, rfl, (Eq.mp (congrArg (RatV _ _) (show xk * yk = y.getD j 0 * (colL P c).getD j 0 from (colL_mul exk.out era.out eyk.out))) (hK.get m0)), hK.old⟩))
theorem col_sum {y : List Rat} {P : LPd} {c : Nat} {py pc pa pb : Option Addr} {dy dc da db B1 B2 B3 b1 b2 b3 : Nat} (w : World) (he : y.length = P.A.length) (hr : ∀ a ∈ P.A, c < a.length) (hl : P.A.length ≤ 12) (hy : LmL 300 y) (ha : ∀ a ∈ P.A, LmL 300 a) (hB1 : Has b1 B1 (.cells #[.slice py y.length dy] 46) w) (hB2 : Has b2 B2 (.cells #[.slice pc P.c.length dc, .slice pa P.A.length da, .slice pb P.b.length db] 49) w) (hB3 : Has b3 B3 (.cells #[.int .i64 (c : Int)] 3) w) (hS1 : SlV ratK w (.slice py y.length dy) y) (hS2 : SlV rrK w (.slice pa P.A.length da) P.A) :
    Calls Tryz.prog 117 #[.int .i64 (P.A.length : Int), .func (.func 122) #[] #[.pointer (some ⟨B1, 0, none⟩), .pointer (some ⟨B2, 0, none⟩), .pointer (some ⟨B3, 0, none⟩)]] w fun e w' => ∃ y0, e = .returned y0 ∧ RatV w' y0 (colQ P y c) ∧ Below w.heap.size w w' := by
  have hc : y.length = (colL P c).length := by rw [he, colL_len]
  rw [show colQ P y c = dotQ y (colL P c) from rfl, ← sumN_all hc, he]
  refine sum_col P.A.length B1 B2 B3 (fun j => y.getD j 0 * (colL P c).getD j 0) w (fun j w1 hj hb => col1_any j B1 b1 B2 b2 B3 b3 py pc pa pb dy dc da db y P c w1 (hB1.below hb) (hB2.below hb) (hB3.below hb) (hS1.below hb) (hS2.below hb) hj he hr hl hy ha) (fun j hj => ?_) (fun j _ => ((getD_lm hy (by decide) j).mul (getD_lm (colL_lm ha c) (by decide) j)).up (by decide)) (by omega)
  rw [sumN_dot hc j (by omega)]
  exact dot_lm300 (by omega) hy (colL_lm ha c) j
set_option maxRecDepth 100000 in
theorem column_any (v0 : Value) (v1 : Value) (P : LPd) (y : List Rat) (c : Nat) (w : World) (h0 : LpV w v0 P) (h1 : SlV ratK w v1 y) (he : y.length = P.A.length) (hr : ∀ a ∈ P.A, c < a.length) (hl : P.A.length ≤ 12) (hy : LmL 300 y) (ha : ∀ a ∈ P.A, LmL 300 a) :
    Calls Tryz.prog 82 #[v0, v1, .int .i64 (c : Int)] w fun e w' => ∃ y0, e = .returned y0 ∧ RatV w' y0 (colQ P y c) ∧ Below w.heap.size w w' := by
  have h0_0 := h0; obtain ⟨⟨p_h0, l_h0, c_h0⟩, ⟨q_h0, m_h0, d_h0⟩, ⟨r_h0, n_h0, e_h0⟩, rfl, h0_1, h0_2, h0_3⟩ := h0
  have h1_0 := h1; obtain ⟨p_h1, c_h1, rfl, n_h1⟩ := h1.sh
  have hK := (KS.start w)
  replace he := hid he
  refine Calls.hide (fun Q0 hQ0 => ?_)
  go_enter Tryz.func82, Tryz.ntmps82
  go_upto_region 0 with (fail)
  refine wp_region_tx w hK ?_
  clear hK
  refine tA (.cells #[.slice p_h0 P.c.length c_h0, .slice q_h0 P.A.length d_h0, .slice r_h0 P.b.length e_h0] 49) (fun R1 q_R1 => ?_)
  clear q_R1
  refine tA (.cells #[.slice p_h1 y.length c_h1] 46) (fun R2 q_R2 => ?_)
  have o_R1_R2 : R1 < R2 := q_R2 _ _ _ m0
  clear q_R2
  refine tA (.cells #[.int .i64 (c : Int)] 3) (fun R3 q_R3 => ?_)
  have o_R1_R3 : R1 < R3 := q_R3 _ _ _ m1
  have o_R2_R3 : R2 < R3 := q_R3 _ _ _ m0
  clear q_R3
  refine tA (.cells #[.bool false, .slice none 0 0, .slice none 0 0] 55) (fun R4 q_R4 => ?_)
  have o_R1_R4 : R1 < R4 := q_R4 _ _ _ m2
  have o_R2_R4 : R2 < R4 := q_R4 _ _ _ m1
  have o_R3_R4 : R3 < R4 := q_R4 _ _ _ m0
  clear q_R4
  refine txEnd (fun W5 hK => ?_)
  go_upto_region 1 with (fail)
  refine wp_region_tx w hK ?_
  clear hK
  refine tF ?_
  refine tL m3 ?_
  iterate 2 (refine tF ?_)
  refine tEQ (fun w' hK => col_sum w' he.out hr hl hy ha (hK.get m2) (hK.get m3) (hK.get m1) (h1_0.below hK.old) (h0_2.below hK.old)) (fun sv6 => ?_)
  refine tS m3 0 [.bool (isN (colQ P y c)), .slice sv6.a.p sv6.a.l sv6.a.c, .slice sv6.b.p sv6.b.l sv6.b.c] (fun w' hK _ ni => kQ ni (kM ni (kM ni (kP [.bool (isN (colQ P y c)), .slice sv6.a.p sv6.a.l sv6.a.c, .slice sv6.b.p sv6.b.l sv6.b.c] (kL o_R3_R4 (kL o_R2_R4 (kL o_R1_R4 kZ))))))) ?_
  refine txEnd (fun W7 hK => ?_)
  have k_R4 := (hK.get m3); have ⟨c_R4_0, c_R4_1, c_R4_2⟩ := k_R4.c3
  go_wp2
  exact bodyPost_ret (v := .agg #[.bool (isN (colQ P y c)), .slice sv6.a.p sv6.a.l sv6.a.c, .slice sv6.b.p sv6.b.l sv6.b.c]) (by simp [results, Tryz.results82, go_sem, c_R4_0, c_R4_1, c_R4_2]) rfl ((by obtain rfl := hQ0.out; exact ⟨_, rfl, (hK.get m0), hK.old⟩))
set_option maxRecDepth 100000 in
theorem rcolumn_any (v0 : Value) (v1 : Value) (P : LPd) (y : List Rat) (c : Nat) (w : World) (h0 : RpV w v0 P) (h1 : SlV refK w v1 y) (he : y.length = P.A.length) (hr : ∀ a ∈ P.A, c < a.length) (hl : P.A.length ≤ 12) (hy : LmL 300 y) (ha : ∀ a ∈ P.A, LmL 300 a) :
    Calls Tryz.prog 83 #[v0, v1, .int .i64 (c : Int)] w fun e w' => ∃ y0, e = .returned y0 ∧ RefR w' y0 (colQ P y c) ∧ Below w.heap.size w w' := by
  have h0_0 := h0; obtain ⟨⟨p_h0, l_h0, c_h0⟩, ⟨q_h0, m_h0, d_h0⟩, ⟨r_h0, n_h0, e_h0⟩, rfl, h0_1, h0_2, h0_3⟩ := h0
  have h1_0 := h1; obtain ⟨p_h1, c_h1, rfl, n_h1⟩ := h1.sh
  have hK := (KS.start w)
  have he1 : y.length ≤ P.A.length := by omega
  have he2 : P.A.length ≤ y.length := by omega
  replace he := hid he
  refine Calls.hide (fun Q0 hQ0 => ?_)
  go_enter Tryz.func83, Tryz.ntmps83
  go_upto_region 0 with (fail)
  refine wp_region_tx w hK ?_
  clear hK
  refine tA (.cells #[.slice p_h0 P.c.length c_h0, .slice q_h0 P.A.length d_h0, .slice r_h0 P.b.length e_h0] 36) (fun R1 q_R1 => ?_)
  clear q_R1
  refine tA (.cells #[.bool false, .slice none 0 0, .slice none 0 0] 41) (fun R2 q_R2 => ?_)
  have o_R1_R2 : R1 < R2 := q_R2 _ _ _ m0
  clear q_R2
  refine txEnd (fun W3 hK => ?_)
  go_upto_region 1 with (fail)
  refine wp_region_tx w hK ?_
  clear hK
  refine tF ?_
  refine tA (.cells #[.bool false, .slice none 0 0, .slice none 0 0] 41) (fun R4 q_R4 => ?_)
  have o_R1_R4 : R1 < R4 := q_R4 _ _ _ m1
  have o_R2_R4 : R2 < R4 := q_R4 _ _ _ m0
  clear q_R4
  refine tS m0 0 [.bool false, .slice none 0 0, .slice none 0 0] (fun w' hK _ ni => kP [.bool false, .slice none 0 0, .slice none 0 0] (kL o_R2_R4 (kL o_R1_R4 kZ))) ?_
  refine txEnd (fun W5 hK => ?_)
  go_wp2_with fail
  go_loopw [8] (fun s8 wl => ∃ (k : Nat) (s : Bool) (bp : Option Addr) (bl : Nat) (bc : Nat) (dp : Option Addr) (dl : Nat) (dc : Nat), s8 = .int .i64 (k : Int) ∧ (k ≤ P.A.length) ∧ KS w [Has w.heap.size R4 (.cells #[.bool s, .slice bp bl bc, .slice dp dl dc] 41), fun w => RefR w (.agg #[.bool s, .slice bp bl bc, .slice dp dl dc]) (dotQ (y.take k) ((colL P c).take k)), Has w.heap.size R2 (.cells #[.bool false, .slice none 0 0, .slice none 0 0] 41), Has w.heap.size R1 (.cells #[.slice p_h0 P.c.length c_h0, .slice q_h0 P.A.length d_h0, .slice r_h0 P.b.length e_h0] 36)] wl) (fun s8 _ => P.A.length - (intOf s8).toNat)
  case atStart => exact ⟨0, false, none, 0, 0, none, 0, 0, rfl, (by omega), ⟨hK.old, (al1 (hK.all _ m0) (al1 (fun w' _ => RefR.zero w') (al1 (hK.all _ m1) (al1 (hK.all _ m2) aN))))⟩⟩
  case round =>
   clear hK
   obtain ⟨k, s, bp, bl, bc, dp, dl, dc, rfl, hk, hK⟩ := hrel
   generalize wr = W6 at hK ⊢
   go_upto_region 3 with (fail)
   refine wp_region_tx w hK ?_
   clear hK
   iterate 2 (refine tF ?_)
   refine tL m3 ?_
   refine tF ?_
   refine tB (decide (((k : Int)) < ((P.A.length : Int)))) (fun b1 hb1 => ?_)
   refine txEnd (fun W7 hK => ?_)
   cases b1
   · --
    have q_b1 : ((P.A.length : Int)) ≤ ((k : Int)) := Int.not_lt.1 (of_decide_eq_false hb1.out)
    go_upto_region 6 with (fail)
    refine wp_region_tx w hK ?_
    clear hK
    refine tL m0 ?_
    refine tS m2 0 [.bool s, .slice bp bl bc, .slice dp dl dc] (fun w' hK _ ni => kG o_R2_R4 (kS ni (kP [.bool s, .slice bp bl bc, .slice dp dl dc] (kL o_R1_R2 kZ)))) ?_
    refine txEnd (fun W8 hK => ?_)
    have k_R2 := (hK.get m2); have ⟨c_R2_0, c_R2_1, c_R2_2⟩ := k_R2.c3
    go_wp2
    exact bodyPost_ret (v := .agg #[.bool s, .slice bp bl bc, .slice dp dl dc]) (by simp [results, Tryz.results83, go_sem, c_R2_0, c_R2_1, c_R2_2]) rfl ((by obtain rfl := hQ0.out; exact ⟨_, rfl, (Eq.mp (congrArg (RefR _ _) (show dotQ (y.take k) ((colL P c).take k) = colQ P y c from (by rw [List.take_of_length_le (by omega), List.take_of_length_le (by rw [colL_len]; omega)]; rfl))) (hK.get m1)), hK.old⟩))
   · --
    have q_b1 : ((k : Int)) < ((P.A.length : Int)) := of_decide_eq_true hb1.out
    obtain ⟨xk, exk⟩ : ∃ x, RowKit.Hid (y[k]? = some x) := ⟨_, hid (List.getElem?_eq_getElem (show k < y.length from (by omega)))⟩
    have i9 : k < y.length := by have q : k < y.length := (by omega); first | exact q | (simp at q; omega) | omega
    obtain ⟨g9, o9, q9, l9⟩ := (h1_0).ptr exk.out
    subst q9
    obtain ⟨c9_0, c9_1, c9_2, hK⟩ := KS.atR hK (h1_0.below hK.old) exk.out
    obtain ⟨ra, era⟩ : ∃ x, RowKit.Hid (P.A[k]? = some x) := ⟨_, hid (List.getElem?_eq_getElem (show k < P.A.length from (by omega)))⟩
    have i10 : k < P.A.length := by have q : k < P.A.length := (by omega); first | exact q | (simp at q; omega) | omega
    obtain ⟨g10, o10, q10, l10⟩ := (h0_2).ptr era.out
    subst q10
    obtain ⟨c10_0, hK⟩ := KS.atL hK (h0_2.below hK.old) era.out
    obtain ⟨yk, eyk⟩ : ∃ x, RowKit.Hid (ra[c]? = some x) := ⟨_, hid (List.getElem?_eq_getElem (show c < ra.length from (hr _ (List.mem_of_getElem? era.out))))⟩
    have i11 : c < ra.length := by have q : c < ra.length := (hr _ (List.mem_of_getElem? era.out)); first | exact q | (simp at q; omega) | omega
    obtain ⟨g11, o11, q11, l11⟩ := ((hK.get m1)).ptr eyk.out
    rw [q11] at hK; (try rw [q11])
    obtain ⟨c11_0, c11_1, c11_2, hK⟩ := KS.atR hK (hK.get m1) eyk.out
    go_upto_region 5 with (fail)
    have hK0 := hK.subl (sC (sK (sK (sC (sK (sK (sC (sK (sK (sK sZ))))))))))
    refine wp_region_float0 (w) _ _ [1, 0, 0, 0, 0, 0, 0, 0, 0, 0, 0, 0, 1, 2, 2, 4] (by kernel_rfl) (by kernel_rfl) (by kernel_rfl) (by kernel_rfl) (KS.drew hK0) (KS.drew hK) ?_
    clear hK hK0
    refine lR m6 ?_
    iterate 3 (refine lF ?_)
    apply lxF0 (wants0 rfl); (· intro w' h0; have c_CEL9_0 : w'.cell? ⟨g9, o9 + k * 3, none⟩ = some (.bool c9_0) := (by have q := (h0.get m2).2 0 _ rfl; simpa using q); have c_CEL9_1 : w'.cell? ⟨g9, o9 + k * 3 + 1, none⟩ = some (.slice c9_1.p c9_1.l c9_1.c) := (by have q := (h0.get m2).2 1 _ rfl; simpa using q); have c_CEL9_2 : w'.cell? ⟨g9, o9 + k * 3 + 2, none⟩ = some (.slice c9_2.p c9_2.l c9_2.c) := (by have q := (h0.get m2).2 2 _ rfl; simpa using q); go_simp; (try go_bits); exact ⟨rfl, rfl⟩); simp only [Act.put, pA, pB, pC]
    refine lF ?_
    refine lL m6 ?_
    iterate 2 (refine lF ?_)
    apply lxF0 (wants0 rfl); (· intro w' h0; have c_CEL10_0 : w'.cell? ⟨g10, o10 + k, none⟩ = some (.slice (some ⟨g11, o11, none⟩) ra.length c10_0.c) := (by have q := (h0.get m1).2 0 _ rfl; simpa using q); go_simp; (try go_bits); exact ⟨rfl, rfl⟩); simp only [Act.put, pA, pB, pC]
    iterate 2 (refine lF ?_)
    apply lxR0 (wants0 rfl); (· intro w' h0 hK; have c_CEL11_0 : w'.cell? ⟨g11, o11 + c * 3, none⟩ = some (.bool c11_0) := (by have q := (hK.get m0).2 0 _ rfl; simpa using q); have c_CEL11_1 : w'.cell? ⟨g11, o11 + c * 3 + 1, none⟩ = some (.slice c11_1.p c11_1.l c11_1.c) := (by have q := (hK.get m0).2 1 _ rfl; simpa using q); have c_CEL11_2 : w'.cell? ⟨g11, o11 + c * 3 + 2, none⟩ = some (.slice c11_2.p c11_2.l c11_2.c) := (by have q := (hK.get m0).2 2 _ rfl; simpa using q); go_simp; (try go_bits); exact ⟨rfl, rfl⟩); simp only [Act.put, pA, pB, pC]
    refine lER (fun w' h0 hK => rmul_q (.agg #[.bool c9_0, .slice c9_1.p c9_1.l c9_1.c, .slice c9_2.p c9_2.l c9_2.c]) (.agg #[.bool c11_0, .slice c11_1.p c11_1.l c11_1.c, .slice c11_2.p c11_2.l c11_2.c]) xk yk w' (hK.get m5) (hK.get m1) (hy _ (List.mem_of_getElem? exk.out)) (ha _ (List.mem_of_getElem? era.out) _ (List.mem_of_getElem? eyk.out)) (by decide)) (fun sv12 => ?_)
    refine lER (fun w' h0 hK => radd_q (.agg #[.bool s, .slice bp bl bc, .slice dp dl dc]) (.agg #[.bool (isN (xk * yk)), .slice sv12.a.p (digs B6 (numQ (xk * yk))).length sv12.a.c, .slice sv12.b.p (digs B6 (den0 (xk * yk))).length sv12.b.c]) (dotQ (y.take k) ((colL P c).take k)) (xk * yk) w' (hK.get m10) (hK.get m0) (dot_lm300 (ys := colL P c) (by omega) hy (colL_lm ha c) k) (prod_lm hy (colL_lm ha c) exk.out (colL_at era.out eyk.out)) (by decide)) (fun sv13 => ?_)
    refine lS m12 0 [.bool (isN ((dotQ (y.take k) ((colL P c).take k)) + (xk * yk))), .slice sv13.a.p (digs B6 (numQ ((dotQ (y.take k) ((colL P c).take k)) + (xk * yk)))).length sv13.a.c, .slice sv13.b.p (digs B6 (den0 ((dotQ (y.take k) ((colL P c).take k)) + (xk * yk)))).length sv13.b.c] (fun w' h0 hK k_R4 ni => kS ni (kK (spC (Nat.ne_of_lt (Nat.lt_of_lt_of_le l10 k_R4.1))) (kK (spC (Nat.ne_of_lt (Nat.lt_of_lt_of_le l9 k_R4.1))) (kS ni (kS ni (kL o_R2_R4 (kL o_R1_R4 kN))))))) (fun w' h0 hK k_R4 ni => kS ni (kR ni (kR ni (kS ni (kR ni (kR ni (kX (kS ni (kK (spC (Nat.ne_of_lt (Nat.lt_of_lt_of_le l10 k_R4.1))) (kX (kK (spC (Nat.ne_of_lt (Nat.lt_of_lt_of_le l9 k_R4.1))) (kS ni (kP [.bool (isN ((dotQ (y.take k) ((colL P c).take k)) + (xk * yk))), .slice sv13.a.p (digs B6 (numQ ((dotQ (y.take k) ((colL P c).take k)) + (xk * yk)))).length sv13.a.c, .slice sv13.b.p (digs B6 (den0 ((dotQ (y.take k) ((colL P c).take k)) + (xk * yk)))).length sv13.b.c] (kS ni (kL o_R2_R4 (kL o_R1_R4 kZ)))))))))))))))) ?_
    refine lxEnd (fun W14 hK => ?_)
    (try go_wp2)
    go_roundw
    case rel => exact ⟨k + 1, (isN ((dotQ (y.take k) ((colL P c).take k)) + (xk * yk))), sv13.a.p, (digs B6 (numQ ((dotQ (y.take k) ((colL P c).take k)) + (xk * yk)))).length, sv13.a.c, sv13.b.p, (digs B6 (den0 ((dotQ (y.take k) ((colL P c).take k)) + (xk * yk)))).length, sv13.b.c, (by first | rfl | go_num), (by omega), ⟨hK.old, (al1 (hK.all _ m10) (al1 (fun w' hb => Eq.mp (congrArg (RefR w' (.agg #[.bool (isN ((dotQ (y.take k) ((colL P c).take k)) + (xk * yk))), .slice sv13.a.p (digs B6 (numQ ((dotQ (y.take k) ((colL P c).take k)) + (xk * yk)))).length sv13.a.c, .slice sv13.b.p (digs B6 (den0 ((dotQ (y.take k) ((colL P c).take k)) + (xk * yk)))).length sv13.b.c])) (show (dotQ (y.take k) ((colL P c).take k)) + (xk * yk) = dotQ (y.take (k + 1)) ((colL P c).take (k + 1)) from (dotQ_take exk.out (colL_at era.out eyk.out)).symm)) (hK.all _ m0 w' hb)) (al1 (hK.all _ m12) (al1 (hK.all _ m13) aN))))⟩⟩
    case measure => simp [intOf]; omega
end Go.Proofs.YtcdbgincfdejkaaGreatDoor
