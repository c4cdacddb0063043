/- Checks of results of linear programs walked. -/
import Derived.Test.YtcdbgincfdejkaaGreatDoorTz
import Derived.Test.YtcdbgincfdejkaaGreatDoorCerA
namespace Go.Proofs.YtcdbgincfdejkaaGreatDoor
open Go.RowKit
open Go.Lib (decDigits)
theorem dot_lmF {xs ys : List Rat} (hl : xs.length ≤ 12) (hx : LmL 300 xs) (hy : LmL 300 ys) : LmQ 8000 (dotQ xs ys) := by
  refine (dotQ_lm (k := 300) hx hy).up ?_
  omega
theorem col_lmF {P : LPd} {y : List Rat} (he : y.length = P.A.length) (hP : LmP 300 P) (hy : LmL 300 y) (c : Nat) : LmQ 8000 (colQ P y c) := by
  have := hP.m
  exact dot_lmF (by omega) hy (colL_lm hP.a c)
theorem natB_iff {xs : List Rat} {n : Nat} : natB xs (n : Int) = true ↔ nnB xs = true ∧ xs.length = n := by
  unfold natB; rw [Bool.and_eq_true, decide_eq_true_eq]; exact and_congr_right fun _ => by omega
theorem fea_of {P : LPd} {x : List Rat} (h : nnB x = true) (hl : x.length = P.c.length) : feaB P x = allN (feaP P x) P.A.length := by unfold feaB; rw [h, hl]; simp
theorem fea_no1 {P : LPd} {x : List Rat} (h : nnB x = false ∨ x.length ≠ P.c.length) : feaB P x = false := by
  unfold feaB
  rcases h with h | h
  · rw [h]; simp
  · rw [decide_eq_false h]; rfl
theorem nat_no {x : List Rat} {n : Nat} (h : natB x (n : Int) = false) : nnB x = false ∨ x.length ≠ n := by
  cases e : nnB x with
  | false => exact .inl rfl
  | true =>
    refine .inr fun hl => ?_
    rw [natB_iff.2 ⟨e, hl⟩] at h; cases h
theorem cov_of {P : LPd} {y l : List Rat} (h : nnB y = true) (hl : y.length = P.A.length) : covB P y l = allN (covP P y l) P.c.length := by unfold covB; rw [h, hl]; simp
theorem cov_no1 {P : LPd} {y l : List Rat} (h : nnB y = false ∨ y.length ≠ P.A.length) : covB P y l = false := by
  unfold covB
  rcases h with h | h
  · rw [h]; simp
  · rw [decide_eq_false h]; rfl
theorem le_of_sg {x y : Rat} {z : Int} (h : sgQ (x - y) = z) (hz : z ≤ 0) : x ≤ y := Rat.not_lt.1 fun e => by
  have := (sg_gt h).2 (sub_gt.2 e); omega
theorem gt_of_sg {x y : Rat} {z : Int} (h : sgQ (x - y) = z) (hz : 0 < z) : ¬ x ≤ y := fun e => by
  have := sub_gt.1 ((sg_gt h).1 hz); grind
theorem ge_of_sg {x y : Rat} {z : Int} (h : sgQ (x - y) = z) (hz : 0 ≤ z) : y ≤ x := Rat.not_lt.1 fun e => by
  have := (sg_lt h).2 (sub_lt.2 e); omega
theorem lt_of_sg {x y : Rat} {z : Int} (h : sgQ (x - y) = z) (hz : z < 0) : ¬ y ≤ x := fun e => by
  have := sub_lt.1 ((sg_lt h).1 hz); grind
theorem fea_step {P : LPd} {x a : List Rat} {k : Nat} {b : Rat} (ho : allN (feaP P x) k = true) (ha : P.A[k]? = some a) (hb : P.b[k]? = some b) (h : dotQ a x ≤ b) : allN (feaP P x) (k + 1) = true := allN_step ho (by unfold feaP; rw [getD_of ha, getD_of hb]; exact decide_eq_true h)
theorem fea_no {P : LPd} {x a : List Rat} {k : Nat} {b : Rat} (ha : P.A[k]? = some a) (hb : P.b[k]? = some b) (h : ¬ dotQ a x ≤ b) : allN (feaP P x) P.A.length = false := allN_no (List.getElem?_eq_some_iff.1 ha).1 (by unfold feaP; rw [getD_of ha, getD_of hb]; exact decide_eq_false h)
theorem cov_step {P : LPd} {y l : List Rat} {k : Nat} {b : Rat} (ho : allN (covP P y l) k = true) (hb : l[k]? = some b) (h : b ≤ colQ P y k) : allN (covP P y l) (k + 1) = true := allN_step ho (by unfold covP; rw [getD_of hb]; exact decide_eq_true h)
theorem cov_no {P : LPd} {y l : List Rat} {k : Nat} {b : Rat} (hk : k < P.c.length) (hb : l[k]? = some b) (h : ¬ b ≤ colQ P y k) : allN (covP P y l) P.c.length = false := allN_no hk (by unfold covP; rw [getD_of hb]; exact decide_eq_false h)
theorem fal_step {P : LPd} {x a : List Rat} {k : Nat} {z : Int} (ho : allN (falP P x) k = true) (ha : P.A[k]? = some a) (hz : sgQ (dotQ a x) = z) (h : z ≤ 0) : allN (falP P x) (k + 1) = true := allN_step ho (by
  unfold falP; rw [getD_of ha]
  refine decide_eq_true (Rat.not_lt.1 fun e => ?_)
  have := (sg_gt hz).2 e; omega)
theorem fal_no {P : LPd} {x a : List Rat} {k : Nat} {z : Int} (ha : P.A[k]? = some a) (hz : sgQ (dotQ a x) = z) (h : 0 < z) : allN (falP P x) P.A.length = false := allN_no (List.getElem?_eq_some_iff.1 ha).1 (by
  unfold falP; rw [getD_of ha]
  have := (sg_gt hz).1 h
  exact decide_eq_false (by grind))
theorem row_len {P : LPd} (h : P.Ok) {k : Nat} {a : List Rat} (ha : P.A[k]? = some a) : a.length = P.c.length := h.ha a (List.mem_of_getElem? ha)
set_option maxRecDepth 100000 in
set_option maxHeartbeats 1000000 in
theorem feasible_any (v0 : Value) (v1 : Value) (P : LPd) (xs : List Rat) (w : World) (h0 : LpV w v0 P) (h1 : SlV ratK w v1 xs) (hL : LmP 300 P) (hx : LmL 300 xs) (hl : xs.length ≤ 100000) (hbl : P.b.length ≤ 100000) :
    Calls Tryz.prog 37 #[v0, v1] w fun e w' => e = .returned (.bool (vldP P && feaB P xs)) ∧ Below w.heap.size w w' := by
  have h0_0 := h0; obtain ⟨⟨p_h0, l_h0, c_h0⟩, ⟨q_h0, m_h0, d_h0⟩, ⟨r_h0, n_h0, e_h0⟩, rfl, h0_1, h0_2, h0_3⟩ := h0
  have h1_0 := h1; obtain ⟨p_h1, c_h1, rfl, n_h1⟩ := h1.sh
  have hK := (KS.start w)
  have hn12 := hL.n
  have hm12 := hL.m
  refine Calls.hide (fun Q0 hQ0 => ?_)
  go_enter Tryz.func37, Tryz.ntmps37
  go_upto_region 0 with (fail)
  refine wp_region_tx w hK ?_
  clear hK
  refine tA (.cells #[.slice p_h0 P.c.length c_h0, .slice q_h0 P.A.length d_h0, .slice r_h0 P.b.length e_h0] 49) (fun R1 q_R1 => ?_)
  clear q_R1
  refine tF ?_
  refine txEnd (fun W2 hK => ?_)
  go_upto_region 1 with (fail)
  refine wp_region_tx w hK ?_
  clear hK
  refine tL m0 ?_
  obtain ⟨b1, hb1⟩ : ∃ b : Bool, RowKit.Hid ((vldP P) = b) := ⟨_, hid rfl⟩
  refine tH (fun w' hK => lvalid_any (.agg #[.slice p_h0 P.c.length c_h0, .slice q_h0 P.A.length d_h0, .slice r_h0 P.b.length e_h0]) P w' (h0_0.below hK.old) (by omega) (by omega) (by omega)) ?_ (v := .bool b1) (hv := (by rw [hb1.out]))
  iterate 2 (refine tF ?_)
  cases b1
  · --
   iterate 6 (refine tN ?_)
   refine tF ?_
   refine txEnd (fun W3 hK => ?_)
   go_wp2
   try go_ret
   show Q0 (.returned (.bool false)) _
   exact (by obtain rfl := hQ0.out; exact ⟨(ret_bool (by rw [hb1.out]; rfl)), hK.old⟩)
  · --
   iterate 2 (refine tF ?_)
   refine tL m0 ?_
   refine tF ?_
   obtain ⟨b2, hb2⟩ : ∃ b : Bool, RowKit.Hid ((natB xs ((P.c.length : Int))) = b) := ⟨_, hid rfl⟩
   refine tH (fun w' hK => natural_any (.slice p_h1 xs.length c_h1) xs ((P.c.length : Int)) w' (h1_0.below hK.old) (by omega)) ?_ (v := .bool b2) (hv := (by rw [hb2.out]))
   iterate 2 (refine tF ?_)
   refine txEnd (fun W4 hK => ?_)
   cases b2
   · --
    go_wp2
    try go_ret
    show Q0 (.returned (.bool false)) _
    exact (by obtain rfl := hQ0.out; exact ⟨(ret_bool (by rw [fea_no1 (nat_no hb2.out)]; simp)), hK.old⟩)
   · --
    have hok := hid (vld_ok hb1.out); have hnb := hid (natB_iff.1 hb2.out); have hxl := hid hnb.out.2
    go_upto_region 3 with (fail)
    refine wp_region_tx w hK ?_
    clear hK
    refine tF ?_
    refine tL m0 ?_
    iterate 2 (refine tF ?_)
    refine txEnd (fun W5 hK => ?_)
    go_wp2_with fail
    go_loopw [21] (fun s21 wl => ∃ (k : Nat), s21 = .int .i64 (k : Int) ∧ (k ≤ P.A.length) ∧ RowKit.Hid (allN (feaP P xs) k = true) ∧ KS w [Has w.heap.size R1 (.cells #[.slice p_h0 P.c.length c_h0, .slice q_h0 P.A.length d_h0, .slice r_h0 P.b.length e_h0] 49)] wl) (fun s21 _ => P.A.length - (intOf s21).toNat)
    case atStart => exact ⟨0, rfl, (by omega), (hid rfl), ⟨hK.old, (al1 (hK.all _ m0) aN)⟩⟩
    case round =>
     clear hK
     obtain ⟨k, rfl, hk, ho, hK⟩ := hrel
     generalize wr = W6 at hK ⊢
     go_upto_region 4 with (fail)
     refine wp_region_tx w hK ?_
     clear hK
     refine tB (decide (((k : Int)) < ((P.A.length : Int)))) (fun b3 hb3 => ?_)
     refine txEnd (fun W7 hK => ?_)
     cases b3
     · --
      have q_b3 : ((P.A.length : Int)) ≤ ((k : Int)) := Int.not_lt.1 (of_decide_eq_false hb3.out)
      go_wp2
      try go_ret
      show Q0 (.returned (.bool true)) _
      exact (by obtain rfl := hQ0.out; exact ⟨(ret_bool (by rw [hb1.out, fea_of hnb.out.1 hxl.out, allN_end ho.out (by omega) (by omega)]; rfl)), hK.old⟩)
     · --
      have q_b3 : ((k : Int)) < ((P.A.length : Int)) := of_decide_eq_true hb3.out
      obtain ⟨ra, era⟩ : ∃ x, RowKit.Hid (P.A[k]? = some x) := ⟨_, hid (List.getElem?_eq_getElem (show k < P.A.length from (by omega)))⟩
      have i8 : k < P.A.length := by have q : k < P.A.length := (by omega); first | exact q | (simp at q; omega) | omega
      obtain ⟨g8, o8, q8, l8⟩ := (h0_2).ptr era.out
      subst q8
      obtain ⟨c8_0, hK⟩ := KS.atL hK (h0_2.below hK.old) era.out
      have hra := hid (row_len hok.out era.out)
      go_upto_region 5 with (fail)
      refine wp_region_tx w hK ?_
      clear hK
      iterate 2 (refine tF ?_)
      apply txF (wants0 rfl); (· intro w' hK; have c_CEL8_0 : w'.cell? ⟨g8, o8 + k, none⟩ = some (.slice c8_0.p ra.length c8_0.c) := (by have q := (hK.get m0).2 0 _ rfl; simpa using q); go_simp; (try go_bits); exact ⟨rfl, rfl⟩); simp only [Act.put, pA, pB, pC]
      iterate 2 (refine tF ?_)
      refine txEnd (fun W9 hK => ?_)
      obtain ⟨bk, ebk⟩ : ∃ x, RowKit.Hid (P.b[k]? = some x) := ⟨_, hid (List.getElem?_eq_getElem (show k < P.b.length from (by have := hok.out.hb; omega)))⟩
      have i10 : k < P.b.length := by have q : k < P.b.length := (by have := hok.out.hb; omega); first | exact q | (simp at q; omega) | omega
      obtain ⟨g10, o10, q10, l10⟩ := (h0_3).ptr ebk.out
      subst q10
      obtain ⟨c10_0, c10_1, c10_2, hK⟩ := KS.atQ hK (h0_3.below hK.old) ebk.out
      go_upto_region 6 with (fail)
      have hK0 := hK
      refine wp_region_float0 (w) _ _ [0, 0, 2, 0, 0, 0, 0, 0, 1, 0] (by kernel_rfl) (by kernel_rfl) (by kernel_rfl) (by kernel_rfl) (KS.drew hK0) (KS.drew hK) ?_
      clear hK hK0
      iterate 2 (refine lF ?_)
      refine lEQ (fun w' h0 hK => dot_any (.slice c8_0.p ra.length c8_0.c) (.slice p_h1 xs.length c_h1) ra xs w' (hK.get m3) (h1_0.below hK.old) (by have := hra.out; omega) (by have := hra.out; have := hxl.out; omega) (hL.a _ (List.mem_of_getElem? era.out)) hx) (fun sv11 => ?_)
      refine lF ?_
      refine lL m4 ?_
      iterate 2 (refine lF ?_)
      apply lxF0 (wants0 rfl); (· intro w' h0; have c_CEL10_0 : w'.cell? ⟨g10, o10 + k * 3, none⟩ = some (.bool c10_0) := (by have q := (h0.get m0).2 0 _ rfl; simpa using q); have c_CEL10_1 : w'.cell? ⟨g10, o10 + k * 3 + 1, none⟩ = some (.slice c10_1.p c10_1.l c10_1.c) := (by have q := (h0.get m0).2 1 _ rfl; simpa using q); have c_CEL10_2 : w'.cell? ⟨g10, o10 + k * 3 + 2, none⟩ = some (.slice c10_2.p c10_2.l c10_2.c) := (by have q := (h0.get m0).2 2 _ rfl; simpa using q); go_simp; (try go_bits); exact ⟨rfl, rfl⟩); simp only [Act.put, pA, pB, pC]
      obtain ⟨z1, hz1⟩ : ∃ b : Int, RowKit.Hid ((sgQ ((dotQ ra xs) - bk)) = b) := ⟨_, hid rfl⟩
      refine lH (fun w' h0 hK => qcmp_any (.agg #[.bool (isN (dotQ ra xs)), .slice sv11.a.p sv11.a.l sv11.a.c, .slice sv11.b.p sv11.b.l sv11.b.c]) (.agg #[.bool c10_0, .slice c10_1.p c10_1.l c10_1.c, .slice c10_2.p c10_2.l c10_2.c]) (dotQ ra xs) bk w' (hK.get m0) (hK.get m4) (dot_lmF (by have := hra.out; omega) (hL.a _ (List.mem_of_getElem? era.out)) hx) ((hL.b _ (List.mem_of_getElem? ebk.out)).up (by decide)) (by decide)) ?_ (v := .int .i64 z1) (hv := (by rw [hz1.out]))
      refine lB (decide (0 < z1)) (fun b4 hb4 => ?_)
      refine lxEnd (fun W12 hK => ?_)
      cases b4
      · --
       have q_b4 : z1 ≤ 0 := Int.not_lt.1 (of_decide_eq_false hb4.out)
       (try go_wp2)
       go_roundw
       case rel => exact ⟨k + 1, (by first | rfl | go_num), (by omega), (hid (fea_step ho.out era.out ebk.out (le_of_sg hz1.out (by skip; omega)))), ⟨hK.old, (al1 (hK.all _ m7) aN)⟩⟩
       case measure => simp [intOf]; omega
      · --
       have q_b4 : 0 < z1 := of_decide_eq_true hb4.out
       go_wp2
       try go_ret
       show Q0 (.returned (.bool false)) _
       exact (by obtain rfl := hQ0.out; exact ⟨(ret_bool (by rw [hb1.out, fea_of hnb.out.1 hxl.out, fea_no era.out ebk.out (gt_of_sg hz1.out (by skip; omega))]; rfl)), hK.old⟩)
set_option maxRecDepth 100000 in
set_option maxHeartbeats 1000000 in
theorem rfeasible_any (v0 : Value) (v1 : Value) (P : LPd) (xs : List Rat) (w : World) (h0 : RpV w v0 P) (h1 : SlV refK w v1 xs) (hok : P.Ok) (hL : LmP 300 P) (hx : LmL 300 xs) (hl : xs.length ≤ 100000) :
    Calls Tryz.prog 52 #[v0, v1] w fun e w' => e = .returned (.bool (feaB P xs)) ∧ Below w.heap.size w w' := by
  have h0_0 := h0; obtain ⟨⟨p_h0, l_h0, c_h0⟩, ⟨q_h0, m_h0, d_h0⟩, ⟨r_h0, n_h0, e_h0⟩, rfl, h0_1, h0_2, h0_3⟩ := h0
  have h1_0 := h1; obtain ⟨p_h1, c_h1, rfl, n_h1⟩ := h1.sh
  have hK := (KS.start w)
  have hn12 := hL.n
  have hm12 := hL.m
  replace hok := hid hok
  refine Calls.hide (fun Q0 hQ0 => ?_)
  go_enter Tryz.func52, Tryz.ntmps52
  go_upto_region 0 with (fail)
  refine wp_region_tx w hK ?_
  clear hK
  refine tA (.cells #[.slice p_h0 P.c.length c_h0, .slice q_h0 P.A.length d_h0, .slice r_h0 P.b.length e_h0] 36) (fun R1 q_R1 => ?_)
  clear q_R1
  refine tF ?_
  refine txEnd (fun W2 hK => ?_)
  go_upto_region 1 with (fail)
  refine wp_region_tx w hK ?_
  clear hK
  iterate 3 (refine tF ?_)
  refine tL m0 ?_
  refine tF ?_
  refine tB (((xs.length : Int)) != ((P.c.length : Int))) (fun b1 hb1 => ?_)
  refine tF ?_
  cases b1
  · --
   refine tF ?_
   obtain ⟨b2, hb2⟩ : ∃ b : Bool, RowKit.Hid ((nnB xs) = b) := ⟨_, hid rfl⟩
   refine tH (fun w' hK => positive_any (.slice p_h1 xs.length c_h1) xs w' (h1_0.below hK.old) (by omega)) ?_ (v := .bool b2) (hv := (by rw [hb2.out]))
   iterate 2 (refine tF ?_)
   refine txEnd (fun W3 hK => ?_)
   cases b2
   · --
    go_wp2
    try go_ret
    show Q0 (.returned (.bool false)) _
    exact (by obtain rfl := hQ0.out; exact ⟨(ret_bool (fea_no1 (.inl hb2.out)).symm), hK.old⟩)
   · --
    have hnb := hid (show nnB xs = true from hb2.out); have hxl := hid (show xs.length = P.c.length from by have a_b1 := hb1.out; simp at a_b1; omega)
    go_upto_region 3 with (fail)
    refine wp_region_tx w hK ?_
    clear hK
    refine tF ?_
    refine txEnd (fun W4 hK => ?_)
    go_wp2_with fail
    go_loopw [5] (fun s5 wl => ∃ (k : Nat), s5 = .int .i64 (k : Int) ∧ (k ≤ P.A.length) ∧ RowKit.Hid (allN (feaP P xs) k = true) ∧ KS w [Has w.heap.size R1 (.cells #[.slice p_h0 P.c.length c_h0, .slice q_h0 P.A.length d_h0, .slice r_h0 P.b.length e_h0] 36)] wl) (fun s5 _ => P.A.length - (intOf s5).toNat)
    case atStart => exact ⟨0, rfl, (by omega), (hid rfl), ⟨hK.old, (al1 (hK.all _ m0) aN)⟩⟩
    case round =>
     clear hK
     obtain ⟨k, rfl, hk, ho, hK⟩ := hrel
     generalize wr = W5 at hK ⊢
     go_upto_region 4 with (fail)
     refine wp_region_tx w hK ?_
     clear hK
     iterate 2 (refine tF ?_)
     refine tL m0 ?_
     refine tF ?_
     refine tB (decide (((k : Int)) < ((P.A.length : Int)))) (fun b3 hb3 => ?_)
     refine txEnd (fun W6 hK => ?_)
     cases b3
     · --
      have q_b3 : ((P.A.length : Int)) ≤ ((k : Int)) := Int.not_lt.1 (of_decide_eq_false hb3.out)
      go_wp2
      try go_ret
      show Q0 (.returned (.bool true)) _
      exact (by obtain rfl := hQ0.out; exact ⟨(ret_bool (by rw [fea_of hnb.out hxl.out, allN_end ho.out (by omega) (by omega)])), hK.old⟩)
     · --
      have q_b3 : ((k : Int)) < ((P.A.length : Int)) := of_decide_eq_true hb3.out
      obtain ⟨ra, era⟩ : ∃ x, RowKit.Hid (P.A[k]? = some x) := ⟨_, hid (List.getElem?_eq_getElem (show k < P.A.length from (by omega)))⟩
      have i7 : k < P.A.length := by have q : k < P.A.length := (by omega); first | exact q | (simp at q; omega) | omega
      obtain ⟨g7, o7, q7, l7⟩ := (h0_2).ptr era.out
      subst q7
      obtain ⟨c7_0, hK⟩ := KS.atL hK (h0_2.below hK.old) era.out
      have hra := hid (row_len hok.out era.out)
      obtain ⟨bk, ebk⟩ : ∃ x, RowKit.Hid (P.b[k]? = some x) := ⟨_, hid (List.getElem?_eq_getElem (show k < P.b.length from (by have := hok.out.hb; omega)))⟩
      have i8 : k < P.b.length := by have q : k < P.b.length := (by have := hok.out.hb; omega); first | exact q | (simp at q; omega) | omega
      obtain ⟨g8, o8, q8, l8⟩ := (h0_3).ptr ebk.out
      subst q8
      obtain ⟨c8_0, c8_1, c8_2, hK⟩ := KS.atR hK (h0_3.below hK.old) ebk.out
      go_upto_region 6 with (fail)
      have hK0 := hK
      refine wp_region_float0 (w) _ _ [0, 0, 0, 0, 0, 0, 2, 0, 0, 0, 0, 0, 1, 0] (by kernel_rfl) (by kernel_rfl) (by kernel_rfl) (by kernel_rfl) (KS.drew hK0) (KS.drew hK) ?_
      clear hK hK0
      refine lF ?_
      refine lL m4 ?_
      iterate 2 (refine lF ?_)
      apply lxF0 (wants0 rfl); (· intro w' h0; have c_CEL7_0 : w'.cell? ⟨g7, o7 + k, none⟩ = some (.slice c7_0.p ra.length c7_0.c) := (by have q := (h0.get m2).2 0 _ rfl; simpa using q); go_simp; (try go_bits); exact ⟨rfl, rfl⟩); simp only [Act.put, pA, pB, pC]
      refine lF ?_
      refine lER (fun w' h0 hK => rdot_any (.slice c7_0.p ra.length c7_0.c) (.slice p_h1 xs.length c_h1) ra xs w' (hK.get m3) (h1_0.below hK.old) (by have := hra.out; omega) (by have := hra.out; have := hxl.out; omega) (hL.a _ (List.mem_of_getElem? era.out)) hx) (fun sv9 => ?_)
      refine lF ?_
      refine lL m4 ?_
      iterate 2 (refine lF ?_)
      apply lxF0 (wants0 rfl); (· intro w' h0; have c_CEL8_0 : w'.cell? ⟨g8, o8 + k * 3, none⟩ = some (.bool c8_0) := (by have q := (h0.get m0).2 0 _ rfl; simpa using q); have c_CEL8_1 : w'.cell? ⟨g8, o8 + k * 3 + 1, none⟩ = some (.slice c8_1.p c8_1.l c8_1.c) := (by have q := (h0.get m0).2 1 _ rfl; simpa using q); have c_CEL8_2 : w'.cell? ⟨g8, o8 + k * 3 + 2, none⟩ = some (.slice c8_2.p c8_2.l c8_2.c) := (by have q := (h0.get m0).2 2 _ rfl; simpa using q); go_simp; (try go_bits); exact ⟨rfl, rfl⟩); simp only [Act.put, pA, pB, pC]
      obtain ⟨z1, hz1⟩ : ∃ b : Int, RowKit.Hid ((sgQ ((dotQ ra xs) - bk)) = b) := ⟨_, hid rfl⟩
      refine lH (fun w' h0 hK => rcmp_q (.agg #[.bool (isN (dotQ ra xs)), .slice sv9.a.p (digs B6 (numQ (dotQ ra xs))).length sv9.a.c, .slice sv9.b.p (digs B6 (den0 (dotQ ra xs))).length sv9.b.c]) (.agg #[.bool c8_0, .slice c8_1.p c8_1.l c8_1.c, .slice c8_2.p c8_2.l c8_2.c]) (dotQ ra xs) bk w' (hK.get m0) (hK.get m4) (dot_lmF (by have := hra.out; omega) (hL.a _ (List.mem_of_getElem? era.out)) hx) ((hL.b _ (List.mem_of_getElem? ebk.out)).up (by decide)) (by decide)) ?_ (v := .int .i64 z1) (hv := (by rw [hz1.out]))
      refine lB (decide (0 < z1)) (fun b4 hb4 => ?_)
      refine lxEnd (fun W10 hK => ?_)
      cases b4
      · --
       have q_b4 : z1 ≤ 0 := Int.not_lt.1 (of_decide_eq_false hb4.out)
       (try go_wp2)
       go_roundw
       case rel => exact ⟨k + 1, (by first | rfl | go_num), (by omega), (hid (fea_step ho.out era.out ebk.out (le_of_sg hz1.out (by have a_b1 := hb1.out; simp at a_b1; omega)))), ⟨hK.old, (al1 (hK.all _ m7) aN)⟩⟩
       case measure => simp [intOf]; omega
      · --
       have q_b4 : 0 < z1 := of_decide_eq_true hb4.out
       go_wp2
       try go_ret
       show Q0 (.returned (.bool false)) _
       exact (by obtain rfl := hQ0.out; exact ⟨(ret_bool (by rw [fea_of hnb.out hxl.out, fea_no era.out ebk.out (gt_of_sg hz1.out (by have a_b1 := hb1.out; simp at a_b1; omega))])), hK.old⟩)
  · --
   iterate 3 (refine tN ?_)
   refine tF ?_
   refine txEnd (fun W11 hK => ?_)
   go_wp2
   try go_ret
   show Q0 (.returned (.bool false)) _
   exact (by obtain rfl := hQ0.out; exact ⟨(ret_bool (fea_no1 (.inr (by have a_b1 := hb1.out; simp at a_b1; omega))).symm), hK.old⟩)
set_option maxRecDepth 100000 in
set_option maxHeartbeats 1000000 in
theorem sufficient_any (v0 : Value) (v1 : Value) (P : LPd) (xs : List Rat) (w : World) (h0 : LpV w v0 P) (h1 : SlV ratK w v1 xs) (hL : LmP 300 P) (hx : LmL 300 xs) (hl : xs.length ≤ 100000) (hbl : P.b.length ≤ 100000) :
    Calls Tryz.prog 39 #[v0, v1] w fun e w' => e = .returned (.bool (vldP P && covB P xs P.c)) ∧ Below w.heap.size w w' := by
  have h0_0 := h0; obtain ⟨⟨p_h0, l_h0, c_h0⟩, ⟨q_h0, m_h0, d_h0⟩, ⟨r_h0, n_h0, e_h0⟩, rfl, h0_1, h0_2, h0_3⟩ := h0
  have h1_0 := h1; obtain ⟨p_h1, c_h1, rfl, n_h1⟩ := h1.sh
  have hK := (KS.start w)
  have hn12 := hL.n
  have hm12 := hL.m
  refine Calls.hide (fun Q0 hQ0 => ?_)
  go_enter Tryz.func39, Tryz.ntmps39
  go_upto_region 0 with (fail)
  refine wp_region_tx w hK ?_
  clear hK
  refine tA (.cells #[.slice p_h0 P.c.length c_h0, .slice q_h0 P.A.length d_h0, .slice r_h0 P.b.length e_h0] 49) (fun R1 q_R1 => ?_)
  clear q_R1
  refine tF ?_
  refine txEnd (fun W2 hK => ?_)
  go_upto_region 1 with (fail)
  refine wp_region_tx w hK ?_
  clear hK
  refine tL m0 ?_
  obtain ⟨b1, hb1⟩ : ∃ b : Bool, RowKit.Hid ((vldP P) = b) := ⟨_, hid rfl⟩
  refine tH (fun w' hK => lvalid_any (.agg #[.slice p_h0 P.c.length c_h0, .slice q_h0 P.A.length d_h0, .slice r_h0 P.b.length e_h0]) P w' (h0_0.below hK.old) (by omega) (by omega) (by omega)) ?_ (v := .bool b1) (hv := (by rw [hb1.out]))
  iterate 2 (refine tF ?_)
  cases b1
  · --
   iterate 6 (refine tN ?_)
   refine tF ?_
   refine txEnd (fun W3 hK => ?_)
   go_wp2
   try go_ret
   show Q0 (.returned (.bool false)) _
   exact (by obtain rfl := hQ0.out; exact ⟨(ret_bool (by rw [hb1.out]; rfl)), hK.old⟩)
  · --
   iterate 2 (refine tF ?_)
   refine tL m0 ?_
   refine tF ?_
   obtain ⟨b2, hb2⟩ : ∃ b : Bool, RowKit.Hid ((natB xs ((P.A.length : Int))) = b) := ⟨_, hid rfl⟩
   refine tH (fun w' hK => natural_any (.slice p_h1 xs.length c_h1) xs ((P.A.length : Int)) w' (h1_0.below hK.old) (by omega)) ?_ (v := .bool b2) (hv := (by rw [hb2.out]))
   iterate 2 (refine tF ?_)
   refine txEnd (fun W4 hK => ?_)
   cases b2
   · --
    go_wp2
    try go_ret
    show Q0 (.returned (.bool false)) _
    exact (by obtain rfl := hQ0.out; exact ⟨(ret_bool (by rw [cov_no1 (nat_no hb2.out)]; simp)), hK.old⟩)
   · --
    have hok := hid (vld_ok hb1.out); have hnb := hid (natB_iff.1 hb2.out); have hyl := hid hnb.out.2
    go_upto_region 3 with (fail)
    refine wp_region_tx w hK ?_
    clear hK
    refine tF ?_
    refine tL m0 ?_
    iterate 2 (refine tF ?_)
    refine txEnd (fun W5 hK => ?_)
    go_wp2_with fail
    go_loopw [21] (fun s21 wl => ∃ (k : Nat), s21 = .int .i64 (k : Int) ∧ (k ≤ P.c.length) ∧ RowKit.Hid (allN (covP P xs P.c) k = true) ∧ KS w [Has w.heap.size R1 (.cells #[.slice p_h0 P.c.length c_h0, .slice q_h0 P.A.length d_h0, .slice r_h0 P.b.length e_h0] 49)] wl) (fun s21 _ => P.c.length - (intOf s21).toNat)
    case atStart => exact ⟨0, rfl, (by omega), (hid rfl), ⟨hK.old, (al1 (hK.all _ m0) aN)⟩⟩
    case round =>
     clear hK
     obtain ⟨k, rfl, hk, ho, hK⟩ := hrel
     generalize wr = W6 at hK ⊢
     go_upto_region 4 with (fail)
     refine wp_region_tx w hK ?_
     clear hK
     refine tB (decide (((k : Int)) < ((P.c.length : Int)))) (fun b3 hb3 => ?_)
     refine txEnd (fun W7 hK => ?_)
     cases b3
     · --
      have q_b3 : ((P.c.length : Int)) ≤ ((k : Int)) := Int.not_lt.1 (of_decide_eq_false hb3.out)
      go_wp2
      try go_ret
      show Q0 (.returned (.bool true)) _
      exact (by obtain rfl := hQ0.out; exact ⟨(ret_bool (by rw [hb1.out, cov_of hnb.out.1 hyl.out, allN_end ho.out (by omega) (by omega)]; rfl)), hK.old⟩)
     · --
      have q_b3 : ((k : Int)) < ((P.c.length : Int)) := of_decide_eq_true hb3.out
      obtain ⟨ck, eck⟩ : ∃ x, RowKit.Hid (P.c[k]? = some x) := ⟨_, hid (List.getElem?_eq_getElem (show k < P.c.length from (by omega)))⟩
      have i8 : k < P.c.length := by have q : k < P.c.length := (by omega); first | exact q | (simp at q; omega) | omega
      obtain ⟨g8, o8, q8, l8⟩ := (h0_1).ptr eck.out
      subst q8
      obtain ⟨c8_0, c8_1, c8_2, hK⟩ := KS.atQ hK (h0_1.below hK.old) eck.out
      go_upto_region 5 with (fail)
      refine wp_region_tx w hK ?_
      clear hK
      iterate 2 (refine tF ?_)
      apply txF (wants0 rfl); (· intro w' hK; have c_CEL8_0 : w'.cell? ⟨g8, o8 + k * 3, none⟩ = some (.bool c8_0) := (by have q := (hK.get m0).2 0 _ rfl; simpa using q); have c_CEL8_1 : w'.cell? ⟨g8, o8 + k * 3 + 1, none⟩ = some (.slice c8_1.p c8_1.l c8_1.c) := (by have q := (hK.get m0).2 1 _ rfl; simpa using q); have c_CEL8_2 : w'.cell? ⟨g8, o8 + k * 3 + 2, none⟩ = some (.slice c8_2.p c8_2.l c8_2.c) := (by have q := (hK.get m0).2 2 _ rfl; simpa using q); go_simp; (try go_bits); exact ⟨rfl, rfl⟩); simp only [Act.put, pA, pB, pC]
      refine tA (.cells #[.bool false, .slice none 0 0, .slice none 0 0] 55) (fun R9 q_R9 => ?_)
      have o_R1_R9 : R1 < R9 := q_R9 _ _ _ m2
      clear q_R9
      refine tF ?_
      refine tS m0 0 [.bool c8_0, .slice c8_1.p c8_1.l c8_1.c, .slice c8_2.p c8_2.l c8_2.c] (fun w' hK k_R9 ni => kP [.bool c8_0, .slice c8_1.p c8_1.l c8_1.c, .slice c8_2.p c8_2.l c8_2.c] (kK (spC (Nat.ne_of_lt (Nat.lt_of_lt_of_le l8 k_R9.1))) (kQ ni (kL o_R1_R9 kZ)))) ?_
      refine txEnd (fun W10 hK => ?_)
      go_upto_region 6 with (fail)
      have hK0 := hK
      refine wp_region_float0 (w) _ _ [0, 0, 0, 2, 0, 1, 0] (by kernel_rfl) (by kernel_rfl) (by kernel_rfl) (by kernel_rfl) (KS.drew hK0) (KS.drew hK) ?_
      clear hK hK0
      refine lL m3 ?_
      iterate 2 (refine lF ?_)
      refine lEQ (fun w' h0 hK => column_any (.agg #[.slice (some ⟨g8, o8, none⟩) P.c.length c_h0, .slice q_h0 P.A.length d_h0, .slice r_h0 P.b.length e_h0]) (.slice p_h1 xs.length c_h1) P xs k w' (h0_0.below hK.old) (h1_0.below hK.old) (by have := hyl.out; omega) (fun a ha => by rw [hok.out.ha a ha]; omega) (by omega) hx hL.a) (fun sv11 => ?_)
      refine lL m0 ?_
      obtain ⟨z1, hz1⟩ : ∃ b : Int, RowKit.Hid ((sgQ ((colQ P xs k) - ck)) = b) := ⟨_, hid rfl⟩
      refine lH (fun w' h0 hK => qcmp_any (.agg #[.bool (isN (colQ P xs k)), .slice sv11.a.p sv11.a.l sv11.a.c, .slice sv11.b.p sv11.b.l sv11.b.c]) (.agg #[.bool c8_0, .slice c8_1.p c8_1.l c8_1.c, .slice c8_2.p c8_2.l c8_2.c]) (colQ P xs k) ck w' (hK.get m0) (hK.get m5) (col_lmF hyl.out hL hx k) ((hL.c _ (List.mem_of_getElem? eck.out)).up (by decide)) (by decide)) ?_ (v := .int .i64 z1) (hv := (by rw [hz1.out]))
      refine lB (decide (z1 < 0)) (fun b4 hb4 => ?_)
      refine lxEnd (fun W12 hK => ?_)
      cases b4
      · --
       have q_b4 : 0 ≤ z1 := Int.not_lt.1 (of_decide_eq_false hb4.out)
       (try go_wp2)
       go_roundw
       case rel => exact ⟨k + 1, (by first | rfl | go_num), (by omega), (hid (cov_step ho.out eck.out (ge_of_sg hz1.out (by skip; omega)))), ⟨hK.old, (al1 (hK.all _ m6) aN)⟩⟩
       case measure => simp [intOf]; omega
      · --
       have q_b4 : z1 < 0 := of_decide_eq_true hb4.out
       go_wp2
       try go_ret
       show Q0 (.returned (.bool false)) _
       exact (by obtain rfl := hQ0.out; exact ⟨(ret_bool (by rw [hb1.out, cov_of hnb.out.1 hyl.out, cov_no (by omega) eck.out (lt_of_sg hz1.out (by skip; omega))]; rfl)), hK.old⟩)
set_option maxRecDepth 100000 in
set_option maxHeartbeats 1000000 in
theorem rsufficient_any (v0 : Value) (v1 : Value) (P : LPd) (xs : List Rat) (w : World) (h0 : RpV w v0 P) (h1 : SlV refK w v1 xs) (hL : LmP 300 P) (hx : LmL 300 xs) (hl : xs.length ≤ 100000) (hbl : P.b.length ≤ 100000) :
    Calls Tryz.prog 40 #[v0, v1] w fun e w' => e = .returned (.bool (vldP P && covB P xs P.c)) ∧ Below w.heap.size w w' := by
  have h0_0 := h0; obtain ⟨⟨p_h0, l_h0, c_h0⟩, ⟨q_h0, m_h0, d_h0⟩, ⟨r_h0, n_h0, e_h0⟩, rfl, h0_1, h0_2, h0_3⟩ := h0
  have h1_0 := h1; obtain ⟨p_h1, c_h1, rfl, n_h1⟩ := h1.sh
  have hK := (KS.start w)
  have hn12 := hL.n
  have hm12 := hL.m
  refine Calls.hide (fun Q0 hQ0 => ?_)
  go_enter Tryz.func40, Tryz.ntmps40
  go_upto_region 0 with (fail)
  refine wp_region_tx w hK ?_
  clear hK
  refine tA (.cells #[.slice p_h0 P.c.length c_h0, .slice q_h0 P.A.length d_h0, .slice r_h0 P.b.length e_h0] 36) (fun R1 q_R1 => ?_)
  clear q_R1
  refine tF ?_
  refine txEnd (fun W2 hK => ?_)
  go_upto_region 1 with (fail)
  refine wp_region_tx w hK ?_
  clear hK
  refine tL m0 ?_
  obtain ⟨b1, hb1⟩ : ∃ b : Bool, RowKit.Hid ((vldP P) = b) := ⟨_, hid rfl⟩
  refine tH (fun w' hK => rvalid_any (.agg #[.slice p_h0 P.c.length c_h0, .slice q_h0 P.A.length d_h0, .slice r_h0 P.b.length e_h0]) P w' (h0_0.below hK.old) (by omega) (by omega) (by omega)) ?_ (v := .bool b1) (hv := (by rw [hb1.out]))
  iterate 2 (refine tF ?_)
  cases b1
  · --
   iterate 6 (refine tN ?_)
   iterate 2 (refine tF ?_)
   iterate 3 (refine tN ?_)
   refine tF ?_
   refine txEnd (fun W3 hK => ?_)
   go_wp2
   try go_ret
   show Q0 (.returned (.bool false)) _
   exact (by obtain rfl := hQ0.out; exact ⟨(ret_bool (by rw [hb1.out]; rfl)), hK.old⟩)
  · --
   iterate 3 (refine tF ?_)
   refine tL m0 ?_
   refine tF ?_
   refine tB (((xs.length : Int)) != ((P.A.length : Int))) (fun b2 hb2 => ?_)
   iterate 2 (refine tF ?_)
   cases b2
   · --
    refine tF ?_
    obtain ⟨b3, hb3⟩ : ∃ b : Bool, RowKit.Hid ((nnB xs) = b) := ⟨_, hid rfl⟩
    refine tH (fun w' hK => positive_any (.slice p_h1 xs.length c_h1) xs w' (h1_0.below hK.old) (by omega)) ?_ (v := .bool b3) (hv := (by rw [hb3.out]))
    iterate 2 (refine tF ?_)
    refine txEnd (fun W4 hK => ?_)
    cases b3
    · --
     go_wp2
     try go_ret
     show Q0 (.returned (.bool false)) _
     exact (by obtain rfl := hQ0.out; exact ⟨(ret_bool (by rw [cov_no1 (.inl hb3.out)]; simp)), hK.old⟩)
    · --
     have hok := hid (vld_ok hb1.out)
     have hnb := hid (show nnB xs = true from hb3.out); have hyl := hid (show xs.length = P.A.length from by have a_b2 := hb2.out; simp at a_b2; omega)
     go_upto_region 3 with (fail)
     refine wp_region_tx w hK ?_
     clear hK
     refine tF ?_
     refine txEnd (fun W5 hK => ?_)
     go_wp2_with fail
     go_loopw [5] (fun s5 wl => ∃ (k : Nat), s5 = .int .i64 (k : Int) ∧ (k ≤ P.c.length) ∧ RowKit.Hid (allN (covP P xs P.c) k = true) ∧ KS w [Has w.heap.size R1 (.cells #[.slice p_h0 P.c.length c_h0, .slice q_h0 P.A.length d_h0, .slice r_h0 P.b.length e_h0] 36)] wl) (fun s5 _ => P.c.length - (intOf s5).toNat)
     case atStart => exact ⟨0, rfl, (by omega), (hid rfl), ⟨hK.old, (al1 (hK.all _ m0) aN)⟩⟩
     case round =>
      clear hK
      obtain ⟨k, rfl, hk, ho, hK⟩ := hrel
      generalize wr = W6 at hK ⊢
      go_upto_region 4 with (fail)
      refine wp_region_tx w hK ?_
      clear hK
      iterate 2 (refine tF ?_)
      refine tL m0 ?_
      refine tF ?_
      refine tB (decide (((k : Int)) < ((P.c.length : Int)))) (fun b4 hb4 => ?_)
      refine txEnd (fun W7 hK => ?_)
      cases b4
      · --
       have q_b4 : ((P.c.length : Int)) ≤ ((k : Int)) := Int.not_lt.1 (of_decide_eq_false hb4.out)
       go_wp2
       try go_ret
       show Q0 (.returned (.bool true)) _
       exact (by obtain rfl := hQ0.out; exact ⟨(ret_bool (by rw [hb1.out, cov_of hnb.out hyl.out, allN_end ho.out (by omega) (by omega)]; rfl)), hK.old⟩)
      · --
       have q_b4 : ((k : Int)) < ((P.c.length : Int)) := of_decide_eq_true hb4.out
       obtain ⟨ck, eck⟩ : ∃ x, RowKit.Hid (P.c[k]? = some x) := ⟨_, hid (List.getElem?_eq_getElem (show k < P.c.length from (by omega)))⟩
       have i8 : k < P.c.length := by have q : k < P.c.length := (by omega); first | exact q | (simp at q; omega) | omega
       obtain ⟨g8, o8, q8, l8⟩ := (h0_1).ptr eck.out
       subst q8
       obtain ⟨c8_0, c8_1, c8_2, hK⟩ := KS.atR hK (h0_1.below hK.old) eck.out
       go_upto_region 6 with (fail)
       have hK0 := hK
       refine wp_region_float0 (w) _ _ [0, 0, 0, 2, 0, 0, 0, 0, 0, 1, 0] (by kernel_rfl) (by kernel_rfl) (by kernel_rfl) (by kernel_rfl) (KS.drew hK0) (KS.drew hK) ?_
       clear hK hK0
       refine lL m2 ?_
       iterate 2 (refine lF ?_)
       refine lER (fun w' h0 hK => rcolumn_any (.agg #[.slice (some ⟨g8, o8, none⟩) P.c.length c_h0, .slice q_h0 P.A.length d_h0, .slice r_h0 P.b.length e_h0]) (.slice p_h1 xs.length c_h1) P xs k w' (h0_0.below hK.old) (h1_0.below hK.old) (by have := hyl.out; omega) (fun a ha => by rw [hok.out.ha a ha]; omega) (by omega) hx hL.a) (fun sv9 => ?_)
       refine lF ?_
       refine lL m2 ?_
       iterate 2 (refine lF ?_)
       apply lxF0 (wants0 rfl); (· intro w' h0; have c_CEL8_0 : w'.cell? ⟨g8, o8 + k * 3, none⟩ = some (.bool c8_0) := (by have q := (h0.get m0).2 0 _ rfl; simpa using q); have c_CEL8_1 : w'.cell? ⟨g8, o8 + k * 3 + 1, none⟩ = some (.slice c8_1.p c8_1.l c8_1.c) := (by have q := (h0.get m0).2 1 _ rfl; simpa using q); have c_CEL8_2 : w'.cell? ⟨g8, o8 + k * 3 + 2, none⟩ = some (.slice c8_2.p c8_2.l c8_2.c) := (by have q := (h0.get m0).2 2 _ rfl; simpa using q); go_simp; (try go_bits); exact ⟨rfl, rfl⟩); simp only [Act.put, pA, pB, pC]
       obtain ⟨z1, hz1⟩ : ∃ b : Int, RowKit.Hid ((sgQ ((colQ P xs k) - ck)) = b) := ⟨_, hid rfl⟩
       refine lH (fun w' h0 hK => rcmp_q (.agg #[.bool (isN (colQ P xs k)), .slice sv9.a.p (digs B6 (numQ (colQ P xs k))).length sv9.a.c, .slice sv9.b.p (digs B6 (den0 (colQ P xs k))).length sv9.b.c]) (.agg #[.bool c8_0, .slice c8_1.p c8_1.l c8_1.c, .slice c8_2.p c8_2.l c8_2.c]) (colQ P xs k) ck w' (hK.get m0) (hK.get m4) (col_lmF hyl.out hL hx k) ((hL.c _ (List.mem_of_getElem? eck.out)).up (by decide)) (by decide)) ?_ (v := .int .i64 z1) (hv := (by rw [hz1.out]))
       refine lB (decide (z1 < 0)) (fun b5 hb5 => ?_)
       refine lxEnd (fun W10 hK => ?_)
       cases b5
       · --
        have q_b5 : 0 ≤ z1 := Int.not_lt.1 (of_decide_eq_false hb5.out)
        (try go_wp2)
        go_roundw
        case rel => exact ⟨k + 1, (by first | rfl | go_num), (by omega), (hid (cov_step ho.out eck.out (ge_of_sg hz1.out (by have a_b2 := hb2.out; simp at a_b2; omega)))), ⟨hK.old, (al1 (hK.all _ m5) aN)⟩⟩
        case measure => simp [intOf]; omega
       · --
        have q_b5 : z1 < 0 := of_decide_eq_true hb5.out
        go_wp2
        try go_ret
        show Q0 (.returned (.bool false)) _
        exact (by obtain rfl := hQ0.out; exact ⟨(ret_bool (by rw [hb1.out, cov_of hnb.out hyl.out, cov_no (by omega) eck.out (lt_of_sg hz1.out (by have a_b2 := hb2.out; simp at a_b2; omega))]; rfl)), hK.old⟩)
   · --
    iterate 3 (refine tN ?_)
    refine tF ?_
    refine txEnd (fun W11 hK => ?_)
    go_wp2
    try go_ret
    show Q0 (.returned (.bool false)) _
    exact (by obtain rfl := hQ0.out; exact ⟨(ret_bool (by rw [cov_no1 (.inr (by have a_b2 := hb2.out; simp at a_b2; omega))]; simp)), hK.old⟩)
set_option maxRecDepth 100000 in
theorem rfeas5_any (v0 : Value) (v1 : Value) (P : LPd) (xs : List Rat) (w : World) (h0 : RpV w v0 P) (h1 : SlV refK w v1 xs) (hL : LmP 300 P) (hx : LmL 300 xs) (hl : xs.length ≤ 100000) (hbl : P.b.length ≤ 100000) :
    Calls Tryz.prog 38 #[v0, v1] w fun e w' => e = .returned (.bool (vldP P && feaB P xs)) ∧ Below w.heap.size w w' := by
  have h0_0 := h0; obtain ⟨⟨p_h0, l_h0, c_h0⟩, ⟨q_h0, m_h0, d_h0⟩, ⟨r_h0, n_h0, e_h0⟩, rfl, h0_1, h0_2, h0_3⟩ := h0
  have h1_0 := h1; obtain ⟨p_h1, c_h1, rfl, n_h1⟩ := h1.sh
  have hK := (KS.start w)
  have hn12 := hL.n
  have hm12 := hL.m
  refine Calls.hide (fun Q0 hQ0 => ?_)
  go_enter Tryz.func38, Tryz.ntmps38
  go_upto_region 0 with (fail)
  refine wp_region_tx w hK ?_
  clear hK
  refine tA (.cells #[.slice p_h0 P.c.length c_h0, .slice q_h0 P.A.length d_h0, .slice r_h0 P.b.length e_h0] 36) (fun R1 q_R1 => ?_)
  clear q_R1
  refine tF ?_
  refine txEnd (fun W2 hK => ?_)
  go_upto_region 1 with (fail)
  refine wp_region_tx w hK ?_
  clear hK
  refine tL m0 ?_
  obtain ⟨b1, hb1⟩ : ∃ b : Bool, RowKit.Hid ((vldP P) = b) := ⟨_, hid rfl⟩
  refine tH (fun w' hK => rvalid_any (.agg #[.slice p_h0 P.c.length c_h0, .slice q_h0 P.A.length d_h0, .slice r_h0 P.b.length e_h0]) P w' (h0_0.below hK.old) (by omega) (by omega) (by omega)) ?_ (v := .bool b1) (hv := (by rw [hb1.out]))
  refine tF ?_
  cases b1
  · --
   iterate 3 (refine tN ?_)
   iterate 2 (refine tF ?_)
   refine txEnd (fun W3 hK => ?_)
   go_wp2
   try go_ret
   show Q0 (.returned (.bool false)) _
   exact (by obtain rfl := hQ0.out; exact ⟨(ret_bool (by rw [hb1.out]; first | rfl | (rw [hb2.out]; rfl))), hK.old⟩)
  · --
   refine tL m0 ?_
   refine tF ?_
   obtain ⟨b2, hb2⟩ : ∃ b : Bool, RowKit.Hid ((feaB P xs) = b) := ⟨_, hid rfl⟩
   refine tH (fun w' hK => rfeasible_any (.agg #[.slice p_h0 P.c.length c_h0, .slice q_h0 P.A.length d_h0, .slice r_h0 P.b.length e_h0]) (.slice p_h1 xs.length c_h1) P xs w' (h0_0.below hK.old) (h1_0.below hK.old) (vld_ok hb1.out) hL hx hl) ?_ (v := .bool b2) (hv := (by rw [hb2.out]))
   iterate 2 (refine tF ?_)
   refine txEnd (fun W4 hK => ?_)
   go_wp2
   try go_ret
   show Q0 (.returned (.bool b2)) _
   exact (by obtain rfl := hQ0.out; exact ⟨(ret_bool (by rw [hb1.out]; first | rfl | (rw [hb2.out]; rfl))), hK.old⟩)
end Go.Proofs.YtcdbgincfdejkaaGreatDoor
