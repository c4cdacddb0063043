/- The laws of aggregates walked. -/
import Derived.Test.YtbbjjjaclbkolaaDoorPfxO
namespace Go.Proofs.YtbbjjjaclbkolaaDoor
open Go.RowKit
open Go.Lib (decDigits)

set_option maxRecDepth 100000 in
theorem same_any (v0 : Value) (v1 : Value) (xs : List Pf) (ys : List Pf) (w : World) (h0 : SlV pfxK w v0 xs) (h1 : SlV pfxK w v1 ys) (hl : xs.length ≤ 100000) (hm : ys.length ≤ 100000) :
    Calls Tryd.prog 29 #[v0, v1] w fun e w' => e = .returned (.bool (decide (xs = ys))) ∧ Below w.heap.size w w' := by
  have h0_0 := h0; obtain ⟨p_h0, c_h0, rfl, n_h0⟩ := h0.sh
  have h1_0 := h1; obtain ⟨p_h1, c_h1, rfl, n_h1⟩ := h1.sh
  have hK : KS w [] w := (KS.start w)
  refine Calls.hide (fun Q0 hQ0 => ?_)
  go_enter Tryd.func29, Tryd.ntmps29
  go_upto_region 1 with (fail)
  refine wp_region_tx w hK ?_
  clear hK
  iterate 4 (apply txF (wants0 rfl); (· intro w' hK; go_simp; (try go_bits); exact ⟨rfl, rfl⟩); simp only [Act.put, pA, pB, pC])
  obtain ⟨b1, hb1⟩ : ∃ b : Bool, RowKit.Hid ((((xs.length : Int)) != ((ys.length : Int))) = b) := ⟨_, hid rfl⟩
  apply txB b1 (wants0 rfl); (· intro w' hK; go_simp; (try go_bits); exact ⟨by have q := hb1.out; subst q; first | rfl | simp, rfl⟩); simp only [Act.put, pA, pB, pC]
  refine txEnd (fun W1 hK => ?_)
  cases b1
  · --
   have hlen := hid (show xs.length = ys.length from by have q := hb1.out; simp at q; omega)
   go_upto_region 3 with (fail)
   refine wp_region_tx w hK ?_
   clear hK
   apply txF (wants0 rfl); (· intro w' hK; go_simp; (try go_bits); exact ⟨rfl, rfl⟩); simp only [Act.put, pA, pB, pC]
   refine txEnd (fun W2 hK => ?_)
   go_wp2_with fail
   go_loopw [5] (fun s5 wl => ∃ (i : Nat), s5 = .int .i64 (i : Int) ∧ (i ≤ xs.length) ∧ RowKit.Hid (xs.take i = ys.take i) ∧ KS w [] wl) (fun s5 _ => xs.length - (intOf s5).toNat)
   case atStart => exact ⟨0, rfl, (by omega), (hid rfl), ⟨hK.old, aN⟩⟩
   case round =>
    clear hK
    obtain ⟨i, rfl, hi, ht, hK⟩ := hrel
    generalize wr = W3 at hK ⊢
    go_upto_region 4 with (fail)
    refine wp_region_tx w hK ?_
    clear hK
    iterate 3 (apply txF (wants0 rfl); (· intro w' hK; go_simp; (try go_bits); exact ⟨rfl, rfl⟩); simp only [Act.put, pA, pB, pC])
    obtain ⟨b2, hb2⟩ : ∃ b : Bool, RowKit.Hid (decide (((i : Int)) < ((xs.length : Int))) = b) := ⟨_, hid rfl⟩
    apply txB b2 (wants0 rfl); (· intro w' hK; go_simp; (try go_bits); exact ⟨by have q := hb2.out; subst q; first | rfl | simp, rfl⟩); simp only [Act.put, pA, pB, pC]
    refine txEnd (fun W4 hK => ?_)
    cases b2
    · --
     have q_b2 : ((xs.length : Int)) ≤ ((i : Int)) := Int.not_lt.1 (of_decide_eq_false hb2.out)
     go_wp2
     try go_ret
     show Q0 (.returned (.bool true)) _
     exact (by obtain rfl := hQ0.out; exact ⟨(ret_bool (decide_eq_true (by have q := ht.out; have := hlen.out; rwa [List.take_of_length_le (by omega), List.take_of_length_le (by omega)] at q)).symm), hK.old⟩)
    · --
     have q_b2 : ((i : Int)) < ((xs.length : Int)) := of_decide_eq_true hb2.out
     obtain ⟨x6, ex6⟩ : ∃ x, RowKit.Hid (xs[i]? = some x) := ⟨_, hid (List.getElem?_eq_getElem (show i < xs.length from (by omega)))⟩
     have i5 : i < xs.length := by have q : i < xs.length := (by omega); first | exact q | (simp at q; omega) | omega
     obtain ⟨g5, o5, q5, l5⟩ := (h0_0).ptr ex6.out
     subst q5
     replace hK := KS.atP hK (h0_0.below hK.old) ex6.out
     obtain ⟨y6, ey6⟩ : ∃ x, RowKit.Hid (ys[i]? = some x) := ⟨_, hid (List.getElem?_eq_getElem (show i < ys.length from (by have := hlen.out; omega)))⟩
     have i6 : i < ys.length := by have q : i < ys.length := (by have := hlen.out; omega); first | exact q | (simp at q; omega) | omega
     obtain ⟨g6, o6, q6, l6⟩ := (h1_0).ptr ey6.out
     subst q6
     replace hK := KS.atP hK (h1_0.below hK.old) ey6.out
     go_upto_region 6 with (fail)
     have hK0 := hK
     refine wp_region_float0 (w) _ _ [0, 0, 0, 0, 0, 0, 0, 0, 0] (by kernel_rfl) (by kernel_rfl) (by kernel_rfl) (by kernel_rfl) (KS.drew hK0) (KS.drew hK) ?_
     clear hK hK0
     iterate 3 (apply lxF0 (wants0 rfl); (· intro w' h0; go_simp; (try go_bits); exact ⟨rfl, rfl⟩); simp only [Act.put, pA, pB, pC])
     apply lxF0 (wants0 rfl); (· intro w' h0; have c_CEL5_0 : w'.cell? ⟨g5, o5 + i * 2, none⟩ = some (.int .u32 (x6.1 : Int)) := (by have q := (h0.get m1).2 0 _ rfl; simpa using q); have c_CEL5_1 : w'.cell? ⟨g5, o5 + i * 2 + 1, none⟩ = some (.int .i64 x6.2) := (by have q := (h0.get m1).2 1 _ rfl; simpa using q); go_simp; (try go_bits); exact ⟨rfl, rfl⟩); simp only [Act.put, pA, pB, pC]
     iterate 3 (apply lxF0 (wants0 rfl); (· intro w' h0; go_simp; (try go_bits); exact ⟨rfl, rfl⟩); simp only [Act.put, pA, pB, pC])
     apply lxF0 (wants0 rfl); (· intro w' h0; have c_CEL6_0 : w'.cell? ⟨g6, o6 + i * 2, none⟩ = some (.int .u32 (y6.1 : Int)) := (by have q := (h0.get m0).2 0 _ rfl; simpa using q); have c_CEL6_1 : w'.cell? ⟨g6, o6 + i * 2 + 1, none⟩ = some (.int .i64 y6.2) := (by have q := (h0.get m0).2 1 _ rfl; simpa using q); go_simp; (try go_bits); exact ⟨rfl, rfl⟩); simp only [Act.put, pA, pB, pC]
     obtain ⟨b3, hb3⟩ : ∃ b : Bool, RowKit.Hid ((!(decide (((x6.1 : Int)) = ((y6.1 : Int))) && decide (x6.2 = y6.2))) = b) := ⟨_, hid rfl⟩
     apply lxB0 b3 (wants0 rfl); (· intro w' h0; go_simp; (try go_bits); have q := hb3.out; subst q; (repeat' split) <;> exact ⟨congrArg Value.bool (by simp_all), rfl⟩); simp only [Act.put, pA, pB, pC]
     refine lxEnd (fun W7 hK => ?_)
     cases b3
     · --
      (try go_wp2)
      go_roundw
      case rel => exact ⟨i + 1, (by first | rfl | go_num), (by omega), (hid (by rw [List.take_add_one, List.take_add_one, ht.out, ex6.out, ey6.out, show x6 = y6 from Prod.ext (by have q := hb3.out; simp at q; omega) (by have q := hb3.out; simp at q; omega)])), ⟨hK.old, aN⟩⟩
      case measure => simp [intOf]; omega
     · --
      go_wp2
      try go_ret
      show Q0 (.returned (.bool false)) _
      exact (by obtain rfl := hQ0.out; exact ⟨(ret_bool (decide_eq_false (fun e => by have q := hb3.out; have e2 := ex6.out.symm.trans ((congrArg (fun l => l[i]?) e).trans ey6.out); obtain rfl := Option.some.inj e2; simp at q)).symm), hK.old⟩)
  · --
   go_wp2
   try go_ret
   show Q0 (.returned (.bool false)) _
   exact (by obtain rfl := hQ0.out; exact ⟨(ret_bool (decide_eq_false (fun e => by have q := hb1.out; rw [e] at q; simp at q)).symm), hK.old⟩)

set_option maxRecDepth 100000 in
theorem few_any (v0 : Value) (xs : List Pf) (w : World) (h0 : SlV pfxK w v0 xs)  :
    Calls Tryd.prog 27 #[v0] w fun e w' => e = .returned (.bool (decide ((xs.length : Int) ≤ 30))) ∧ Below w.heap.size w w' := by
  have h0_0 := h0; obtain ⟨p_h0, c_h0, rfl, n_h0⟩ := h0.sh
  have hK : KS w [] w := (KS.start w)
  refine Calls.hide (fun Q0 hQ0 => ?_)
  go_enter Tryd.func27, Tryd.ntmps27
  go_upto_region 1 with (fail)
  refine wp_region_tx w hK ?_
  clear hK
  iterate 2 (apply txF (wants0 rfl); (· intro w' hK; go_simp; (try go_bits); exact ⟨rfl, rfl⟩); simp only [Act.put, pA, pB, pC])
  apply txF (v := .bool (decide ((xs.length : Int) ≤ 30))) (wants0 rfl); (· intro w' hK; go_simp; (try go_bits); first | exact ⟨rfl, rfl⟩ | exact ⟨congrArg Value.bool (by simp), rfl⟩); simp only [Act.put, pA, pB, pC]
  apply txF (wants0 rfl); (· intro w' hK; go_simp; (try go_bits); exact ⟨rfl, rfl⟩); simp only [Act.put, pA, pB, pC]
  refine txEnd (fun W1 hK => ?_)
  go_wp2
  try go_ret
  show Q0 (.returned (.bool (decide ((xs.length : Int) ≤ 30)))) _
  exact (by obtain rfl := hQ0.out; exact ⟨rfl, hK.old⟩)

set_option maxRecDepth 100000 in
set_option maxHeartbeats 1000000 in
theorem prefixSame_walk (v0 : Value) (xs : List Pf) (x : Nat) (w : World) (h0 : SlV pfxK w v0 xs) (hB0 : Bas w) (hw : ∀ p ∈ xs, W32 p.1) (hx : W32 x) :
    Calls Tryd.prog 8 #[v0, .int .u32 (x : Int)] w fun e w' => e = .returned (.bool true) ∧ Below w.heap.size w w' := by
  have h0_0 := h0; obtain ⟨p_h0, c_h0, rfl, n_h0⟩ := h0.sh
  have hK : KS w [] w := (KS.start w)
  refine Calls.hide (fun Q0 hQ0 => ?_)
  go_enter Tryd.func8, Tryd.ntmps8
  go_upto_region 1 with (fail)
  refine wp_region_tx w hK ?_
  clear hK
  apply txH (v := .bool true) (wants0 rfl)
  · intro v1 hv1 w' hK; go_simp; (try go_bits); refine (awake_any   w' (hB0.below hK.old) ).mono ?_; rintro e w5 ⟨rfl, hb⟩; obtain rfl := hv1.out; exact ⟨_, rfl, rfl, hb⟩
  simp only [Act.put, pA, pB, pC]
  iterate 2 (apply txF (wants0 rfl); (· intro w' hK; go_simp; (try go_bits); exact ⟨rfl, rfl⟩); simp only [Act.put, pA, pB, pC])
  apply txF (wantsg (j := 2) (d := 13) (b := false) rfl rfl rfl rfl); (· intro w' hK; go_simp; (try go_bits); exact ⟨rfl, rfl⟩); simp only [Act.put, pA, pB, pC]
  obtain ⟨b1, hb1⟩ : ∃ b : Bool, RowKit.Hid ((decide ((xs.length : Int) ≤ 30)) = b) := ⟨_, hid rfl⟩
  apply txH (v := .bool b1) (wantsg (j := 2) (d := 13) (b := false) rfl rfl rfl rfl)
  · intro v1 hv1 w' hK; go_simp; (try go_bits); refine (few_any (.slice p_h0 xs.length c_h0) xs w' (h0_0.below hK.old) ).mono ?_; rintro e w5 ⟨rfl, hb⟩; obtain rfl := hv1.out; exact ⟨_, rfl, (by rw [hb1.out]), hb⟩
  simp only [Act.put, pA, pB, pC]
  apply txF (wantsg (j := 2) (d := 13) (b := false) rfl rfl rfl rfl); (· intro w' hK; go_simp; (try go_bits); exact ⟨rfl, rfl⟩); simp only [Act.put, pA, pB, pC]
  apply txF (wants0 rfl); (· intro w' hK; go_simp; (try go_bits); exact ⟨rfl, rfl⟩); simp only [Act.put, pA, pB, pC]
  refine txEnd (fun W1 hK => ?_)
  cases b1
  · --
   have q_b1 : 30 < (xs.length : Int) := Int.not_le.1 (of_decide_eq_false hb1.out)
   go_upto_region 2 with (fail)
   refine wp_region_tx w hK ?_
   clear hK
   apply txH (v := .bool true) (wants0 rfl)
   · intro v1 hv1 w' hK; go_simp; (try go_bits); refine (awake_any   w' (hB0.below hK.old) ).mono ?_; rintro e w5 ⟨rfl, hb⟩; obtain rfl := hv1.out; exact ⟨_, rfl, rfl, hb⟩
   simp only [Act.put, pA, pB, pC]
   apply txF (wants0 rfl); (· intro w' hK; go_simp; (try go_bits); exact ⟨rfl, rfl⟩); simp only [Act.put, pA, pB, pC]
   refine txEnd (fun W2 hK => ?_)
   go_wp2
   try go_ret
   show Q0 (.returned (.bool true)) _
   exact (by obtain rfl := hQ0.out; exact ⟨rfl, hK.old⟩)
  · --
   have q_b1 : (xs.length : Int) ≤ 30 := of_decide_eq_true hb1.out
   go_upto_region 3 with (fail)
   refine wp_region_tx w hK ?_
   clear hK
   apply txF (wants0 rfl); (· intro w' hK; go_simp; (try go_bits); exact ⟨rfl, rfl⟩); simp only [Act.put, pA, pB, pC]
   obtain ⟨z1, hz1⟩ : ∃ b : Int, RowKit.Hid ((agE xs) = b) := ⟨_, hid rfl⟩
   apply txE (α := Sl) (fun sv => .tuple #[.slice sv.p (agF xs).length sv.c, .int .i64 z1]) (fun sv => [fun w1 => OwV pfxK 24 w.heap.size w1 (.slice sv.p (agF xs).length sv.c) (agF xs)]) (wants0 rfl)
   · intro f1 l1 hl1 w' hK; go_simp; (try go_bits); refine (aggregate_any (.slice p_h0 xs.length c_h0) xs w' (h0_0.below hK.old) (by assumption) (by omega)).mono ?_; rintro e w5 ⟨y0, rfl, u0, hb⟩; obtain ⟨rfl, rfl⟩ := hl1.out; have u0_0 := u0; obtain ⟨p_u0, c_u0, rfl, n_u0⟩ := u0.sh; exact ⟨_, rfl, (⟨p_u0, 0, c_u0⟩ : Sl), (by rw [hz1.out]), hb, .cons (fun w2 h2 => (u0_0.mono hK.old.size).below h2) (Lasts.nil _)⟩
   rintro ⟨sv3_p, sv3_l, sv3_c⟩
   simp only [Act.put, pA, pB, pC, pD, pE]
   iterate 5 (apply txF (wants0 rfl); (· intro w' hK; go_simp; (try go_bits); exact ⟨rfl, rfl⟩); simp only [Act.put, pA, pB, pC])
   refine txEnd (fun W4 hK => ?_)
   go_upto_region 4 with (fail)
   refine wp_region_tx w hK ?_
   clear hK
   apply txF (wants0 rfl); (· intro w' hK; go_simp; (try go_bits); exact ⟨rfl, rfl⟩); simp only [Act.put, pA, pB, pC]
   obtain ⟨b2, hb2⟩ : ∃ b : Bool, RowKit.Hid ((z1 != 0) = b) := ⟨_, hid rfl⟩
   apply txB b2 (wants0 rfl); (· intro w' hK; go_simp; (try go_bits); exact ⟨by have q := hb2.out; subst q; first | rfl | simp, rfl⟩); simp only [Act.put, pA, pB, pC]
   refine txEnd (fun W5 hK => ?_)
   cases b2
   · --
    have hz0 : agE xs = 0 := by have q := hb2.out; rw [← hz1.out] at q; simpa using q
    have hok := hid (agE_zero hz0); replace hz0 := hid hz0; have haw := agF_w hw; have hal := agF_len hw
    go_upto_region 7 with (fail)
    refine wp_region_tx w hK ?_
    clear hK
    apply txF (wants0 rfl); (· intro w' hK; go_simp; (try go_bits); exact ⟨rfl, rfl⟩); simp only [Act.put, pA, pB, pC]
    refine txEnd (fun W6 hK => ?_)
    go_wp2_with fail
    go_loopw [7, 9] (fun s7 s9 wl => ∃ (ia : Nat) (bx : Bool), s7 = .bool bx ∧ s9 = .int .i64 (ia : Int) ∧ (ia ≤ (xs).length) ∧ RowKit.Hid (anyH ((xs).take ia) x = bx) ∧ KS w [fun w1 => OwV pfxK 24 w.heap.size w1 (.slice sv3_p (agF xs).length sv3_c) (agF xs)] wl) (fun s7 s9 _ => (xs).length - (intOf s9).toNat)
    case atStart => exact ⟨0, false, rfl, rfl, (by omega), (hid rfl), ⟨hK.old, (al1 (hK.all _ m0) aN)⟩⟩
    case round =>
     clear hK
     obtain ⟨ia, bx, rfl, rfl, lia, hbx, hK⟩ := hrel
     generalize wr = W7 at hK ⊢
     go_upto_region 8 with (fail)
     refine wp_region_tx w hK ?_
     clear hK
     iterate 3 (apply txF (wants0 rfl); (· intro w' hK; go_simp; (try go_bits); exact ⟨rfl, rfl⟩); simp only [Act.put, pA, pB, pC])
     obtain ⟨b3, hb3⟩ : ∃ b : Bool, RowKit.Hid (decide (((ia : Int)) < ((xs.length : Int))) = b) := ⟨_, hid rfl⟩
     apply txB b3 (wants0 rfl); (· intro w' hK; go_simp; (try go_bits); exact ⟨by have q := hb3.out; subst q; first | rfl | simp, rfl⟩); simp only [Act.put, pA, pB, pC]
     refine txEnd (fun W8 hK => ?_)
     cases b3
     · --
      have q_b3 : ((xs.length : Int)) ≤ ((ia : Int)) := Int.not_lt.1 (of_decide_eq_false hb3.out)
      go_wp2_with fail
      go_loopw [8, 10] (fun s8 s10 wl => ∃ (ic : Nat) (by1 : Bool), s8 = .bool by1 ∧ s10 = .int .i64 (ic : Int) ∧ (ic ≤ (agF xs).length) ∧ RowKit.Hid (anyH ((agF xs).take ic) x = by1) ∧ KS w [fun w1 => OwV pfxK 24 w.heap.size w1 (.slice sv3_p (agF xs).length sv3_c) (agF xs)] wl) (fun s8 s10 _ => (agF xs).length - (intOf s10).toNat)
      case atStart => exact ⟨0, false, rfl, rfl, (by omega), (hid rfl), ⟨hK.old, (al1 (hK.all _ m0) aN)⟩⟩
      case round =>
       clear hK
       obtain ⟨ic, by1, rfl, rfl, lic, hby, hK⟩ := hrel
       generalize wr = W9 at hK ⊢
       go_upto_region 12 with (fail)
       refine wp_region_tx w hK ?_
       clear hK
       iterate 3 (apply txF (wants0 rfl); (· intro w' hK; go_simp; (try go_bits); exact ⟨rfl, rfl⟩); simp only [Act.put, pA, pB, pC])
       obtain ⟨b4, hb4⟩ : ∃ b : Bool, RowKit.Hid (decide (((ic : Int)) < (((agF xs).length : Int))) = b) := ⟨_, hid rfl⟩
       apply txB b4 (wants0 rfl); (· intro w' hK; go_simp; (try go_bits); exact ⟨by have q := hb4.out; subst q; first | rfl | simp, rfl⟩); simp only [Act.put, pA, pB, pC]
       refine txEnd (fun W10 hK => ?_)
       cases b4
       · --
        have q_b4 : (((agF xs).length : Int)) ≤ ((ic : Int)) := Int.not_lt.1 (of_decide_eq_false hb4.out)
        go_upto_region 15 with (fail)
        refine wp_region_tx w hK ?_
        clear hK
        iterate 2 (apply txF (wants0 rfl); (· intro w' hK; go_simp; (try go_bits); exact ⟨rfl, rfl⟩); simp only [Act.put, pA, pB, pC])
        obtain ⟨b5, hb5⟩ : ∃ b : Bool, RowKit.Hid ((bx == by1) = b) := ⟨_, hid rfl⟩
        apply txB b5 (wants0 rfl); (· intro w' hK; go_simp; (try go_bits); exact ⟨by have q := hb5.out; subst q; first | rfl | simp, rfl⟩); simp only [Act.put, pA, pB, pC]
        apply txF (wants0 rfl); (· intro w' hK; go_simp; (try go_bits); exact ⟨rfl, rfl⟩); simp only [Act.put, pA, pB, pC]
        refine txEnd (fun W11 hK => ?_)
        go_wp2
        try go_ret
        show Q0 (.returned (.bool b5)) _
        exact (by obtain rfl := hQ0.out; exact ⟨(ret_bool (by rw [← hb5.out]; have e1 := hbx.out; have e2 := hby.out; rw [List.take_of_length_le (by omega)] at e1 e2; rw [(ag_ok hok.out).1] at e2; rw [← e1, ← e2, any_same (okB_all hok.out hw) x]; simp)), hK.old⟩)
       · --
        have q_b4 : ((ic : Int)) < (((agF xs).length : Int)) := of_decide_eq_true hb4.out
        obtain ⟨x14, ex14⟩ : ∃ x, RowKit.Hid ((agF xs)[ic]? = some x) := ⟨_, hid (List.getElem?_eq_getElem (show ic < (agF xs).length from (by omega)))⟩
        have i12 : ic < (agF xs).length := by have q : ic < (agF xs).length := (by omega); first | exact q | (simp at q; omega) | omega
        obtain ⟨g12, o12, q12, l12⟩ := ((hK.get m0).slv).ptr ex14.out
        obtain rfl : o12 = 0 := ((hK.get m0)).off q12
        subst q12
        replace hK := KS.atP hK (hK.get m0).slv ex14.out
        have wx14 := haw _ (List.mem_of_getElem? ex14.out)
        go_upto_region 14 with (fail)
        refine wp_region_tx w hK ?_
        clear hK
        iterate 2 (apply txF (wants0 rfl); (· intro w' hK; go_simp; (try go_bits); exact ⟨rfl, rfl⟩); simp only [Act.put, pA, pB, pC])
        cases by1
        · --
         iterate 3 (apply txF (wantsg (j := 1) (d := 50) (b := false) rfl rfl rfl rfl); (· intro w' hK; go_simp; (try go_bits); exact ⟨rfl, rfl⟩); simp only [Act.put, pA, pB, pC])
         apply txF (wantsg (j := 1) (d := 50) (b := false) rfl rfl rfl rfl); (· intro w' hK; have c_CEL12_0 : w'.cell? ⟨g12, ic * 2, none⟩ = some (.int .u32 (x14.1 : Int)) := (by have q := (hK.get m0).2 0 _ rfl; simpa using q); have c_CEL12_1 : w'.cell? ⟨g12, ic * 2 + 1, none⟩ = some (.int .i64 x14.2) := (by have q := (hK.get m0).2 1 _ rfl; simpa using q); go_simp; (try go_bits); exact ⟨rfl, rfl⟩); simp only [Act.put, pA, pB, pC]
         apply txF (wantsg (j := 1) (d := 50) (b := false) rfl rfl rfl rfl); (· intro w' hK; go_simp; (try go_bits); exact ⟨rfl, rfl⟩); simp only [Act.put, pA, pB, pC]
         obtain ⟨b5, hb5⟩ : ∃ b : Bool, RowKit.Hid ((cts x14.1 x14.2 x) = b) := ⟨_, hid rfl⟩
         apply txH (v := .bool b5) (wantsg (j := 1) (d := 50) (b := false) rfl rfl rfl rfl)
         · intro v1 hv1 w' hK; go_simp; (try go_bits); refine (rcontains_any x14.1 x14.2 x w' (by first | assumption | omega | exact W32.zero) (by first | assumption | omega | exact W32.zero)).mono ?_; rintro e w5 ⟨rfl, hb⟩; obtain rfl := hv1.out; exact ⟨_, rfl, (by rw [hb5.out]), hb⟩
         simp only [Act.put, pA, pB, pC]
         iterate 2 (apply txF (wants0 rfl); (· intro w' hK; go_simp; (try go_bits); exact ⟨rfl, rfl⟩); simp only [Act.put, pA, pB, pC])
         refine txEnd (fun W13 hK => ?_)
         (try go_wp2)
         go_roundw
         case rel => exact ⟨ic + 1, b5, (by first | rfl | go_num), (by first | rfl | go_num), (by omega), (hid (anyH_f ex14.out hby.out hb5.out)), ⟨hK.old, (al1 (hK.all _ m1) aN)⟩⟩
         case measure => simp [intOf]; omega
        · --
         iterate 6 (apply txN (j := 1) (d := 50) (b := false) rfl rfl rfl rfl; simp only [Act.put, pA, pB, pC])
         iterate 2 (apply txF (wants0 rfl); (· intro w' hK; go_simp; (try go_bits); exact ⟨rfl, rfl⟩); simp only [Act.put, pA, pB, pC])
         refine txEnd (fun W14 hK => ?_)
         (try go_wp2)
         go_roundw
         case rel => exact ⟨ic + 1, true, (by first | rfl | go_num), (by first | rfl | go_num), (by omega), (hid (anyH_t ex14.out hby.out)), ⟨hK.old, (al1 (hK.all _ m1) aN)⟩⟩
         case measure => simp [intOf]; omega
     · --
      have q_b3 : ((ia : Int)) < ((xs.length : Int)) := of_decide_eq_true hb3.out
      obtain ⟨x10, ex10⟩ : ∃ x, RowKit.Hid (xs[ia]? = some x) := ⟨_, hid (List.getElem?_eq_getElem (show ia < xs.length from (by omega)))⟩
      have i15 : ia < xs.length := by have q : ia < xs.length := (by omega); first | exact q | (simp at q; omega) | omega
      obtain ⟨g15, o15, q15, l15⟩ := (h0_0).ptr ex10.out
      subst q15
      replace hK := KS.atP hK (h0_0.below hK.old) ex10.out
      have wx10 := hw _ (List.mem_of_getElem? ex10.out)
      go_upto_region 10 with (fail)
      refine wp_region_tx w hK ?_
      clear hK
      iterate 2 (apply txF (wants0 rfl); (· intro w' hK; go_simp; (try go_bits); exact ⟨rfl, rfl⟩); simp only [Act.put, pA, pB, pC])
      cases bx
      · --
       iterate 3 (apply txF (wantsg (j := 1) (d := 35) (b := false) rfl rfl rfl rfl); (· intro w' hK; go_simp; (try go_bits); exact ⟨rfl, rfl⟩); simp only [Act.put, pA, pB, pC])
       apply txF (wantsg (j := 1) (d := 35) (b := false) rfl rfl rfl rfl); (· intro w' hK; have c_CEL15_0 : w'.cell? ⟨g15, o15 + ia * 2, none⟩ = some (.int .u32 (x10.1 : Int)) := (by have q := (hK.get m0).2 0 _ rfl; simpa using q); have c_CEL15_1 : w'.cell? ⟨g15, o15 + ia * 2 + 1, none⟩ = some (.int .i64 x10.2) := (by have q := (hK.get m0).2 1 _ rfl; simpa using q); go_simp; (try go_bits); exact ⟨rfl, rfl⟩); simp only [Act.put, pA, pB, pC]
       apply txF (wantsg (j := 1) (d := 35) (b := false) rfl rfl rfl rfl); (· intro w' hK; go_simp; (try go_bits); exact ⟨rfl, rfl⟩); simp only [Act.put, pA, pB, pC]
       obtain ⟨b4, hb4⟩ : ∃ b : Bool, RowKit.Hid ((cts x10.1 x10.2 x) = b) := ⟨_, hid rfl⟩
       apply txH (v := .bool b4) (wantsg (j := 1) (d := 35) (b := false) rfl rfl rfl rfl)
       · intro v1 hv1 w' hK; go_simp; (try go_bits); refine (rcontains_any x10.1 x10.2 x w' (by first | assumption | omega | exact W32.zero) (by first | assumption | omega | exact W32.zero)).mono ?_; rintro e w5 ⟨rfl, hb⟩; obtain rfl := hv1.out; exact ⟨_, rfl, (by rw [hb4.out]), hb⟩
       simp only [Act.put, pA, pB, pC]
       iterate 2 (apply txF (wants0 rfl); (· intro w' hK; go_simp; (try go_bits); exact ⟨rfl, rfl⟩); simp only [Act.put, pA, pB, pC])
       refine txEnd (fun W16 hK => ?_)
       (try go_wp2)
       go_roundw
       case rel => exact ⟨ia + 1, b4, (by first | rfl | go_num), (by first | rfl | go_num), (by omega), (hid (anyH_f ex10.out hbx.out hb4.out)), ⟨hK.old, (al1 (hK.all _ m1) aN)⟩⟩
       case measure => simp [intOf]; omega
      · --
       iterate 6 (apply txN (j := 1) (d := 35) (b := false) rfl rfl rfl rfl; simp only [Act.put, pA, pB, pC])
       iterate 2 (apply txF (wants0 rfl); (· intro w' hK; go_simp; (try go_bits); exact ⟨rfl, rfl⟩); simp only [Act.put, pA, pB, pC])
       refine txEnd (fun W17 hK => ?_)
       (try go_wp2)
       go_roundw
       case rel => exact ⟨ia + 1, true, (by first | rfl | go_num), (by first | rfl | go_num), (by omega), (hid (anyH_t ex10.out hbx.out)), ⟨hK.old, (al1 (hK.all _ m1) aN)⟩⟩
       case measure => simp [intOf]; omega
   · --
    go_upto_region 5 with (fail)
    refine wp_region_tx w hK ?_
    clear hK
    apply txF (wants0 rfl); (· intro w' hK; go_simp; (try go_bits); exact ⟨rfl, rfl⟩); simp only [Act.put, pA, pB, pC]
    obtain ⟨b3, hb3⟩ : ∃ b : Bool, RowKit.Hid ((z1 == 1) = b) := ⟨_, hid rfl⟩
    apply txB b3 (wants0 rfl); (· intro w' hK; go_simp; (try go_bits); exact ⟨by have q := hb3.out; subst q; first | rfl | simp, rfl⟩); simp only [Act.put, pA, pB, pC]
    apply txF (wants0 rfl); (· intro w' hK; go_simp; (try go_bits); exact ⟨rfl, rfl⟩); simp only [Act.put, pA, pB, pC]
    refine txEnd (fun W18 hK => ?_)
    go_wp2
    try go_ret
    show Q0 (.returned (.bool b3)) _
    exact (by obtain rfl := hQ0.out; exact ⟨(ret_bool (by rw [← hb3.out, ← hz1.out, agE_one (by have q := hb2.out; rw [← hz1.out] at q; simpa using q)]; rfl)), hK.old⟩)
end Go.Proofs.YtbbjjjaclbkolaaDoor
