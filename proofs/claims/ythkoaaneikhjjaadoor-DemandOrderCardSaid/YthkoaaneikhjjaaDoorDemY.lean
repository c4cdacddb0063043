/- The law of the order. -/
import Derived.Test.YthkoaaneikhjjaaDoorDemX
namespace Go.Proofs.YthkoaaneikhjjaaDoor
open Go.RowKit
open Go.Lib (decDigits)
set_option maxRecDepth 100000 in
theorem demandOrder_walk (v0 : Value) (xs : List Dm) (b : Nat) (w : World) (h0 : SlV demK w v0 xs) (hB0 : Tab w) (hb : b < 256) :
    Calls Tryd.prog 3 #[v0, .int .u8 (b : Int)] w fun e w' => e = .returned (.bool true) ∧ Below w.heap.size w w' := by
  have h0_0 := h0; obtain ⟨p_h0, c_h0, rfl, n_h0⟩ := h0.sh
  have hK : KS w [] w := (KS.start w)
  refine Calls.hide (fun Q0 hQ0 => ?_)
  go_enter Tryd.func3, Tryd.ntmps3
  go_upto_region 1 with (fail)
  refine wp_region_tx w hK ?_
  clear hK
  apply txH (v := .bool true) (wants0 rfl)
  · intro v1 hv1 w' hK; go_simp; (try go_bits); refine (awake_any w' (hB0.below hK.old)).mono ?_; rintro e w5 ⟨rfl, hb⟩; obtain rfl := hv1.out; exact ⟨_, rfl, rfl, hb⟩
  simp only [Act.put, pA, pB, pC]
  apply txF (wants0 rfl); (· intro w' hK; go_simp; (try go_bits); exact ⟨rfl, rfl⟩); simp only [Act.put, pA, pB, pC]
  refine txEnd (fun W1 hK => ?_)
  go_upto_region 3 with (fail)
  refine wp_region_tx w hK ?_
  clear hK
  iterate 2 (apply txF (wants0 rfl); (· intro w' hK; go_simp; (try go_bits); exact ⟨rfl, rfl⟩); simp only [Act.put, pA, pB, pC])
  obtain ⟨b1, hb1⟩ : ∃ b : Bool, RowKit.Hid ((((xs.length : Int)) == 0) = b) := ⟨_, hid rfl⟩
  apply txB b1 (wants0 rfl); (· intro w' hK; go_simp; (try go_bits); exact ⟨by have q := hb1.out; subst q; first | rfl | simp, rfl⟩); simp only [Act.put, pA, pB, pC]
  apply txF (wants0 rfl); (· intro w' hK; go_simp; (try go_bits); exact ⟨rfl, rfl⟩); simp only [Act.put, pA, pB, pC]
  cases b1
  · --
   iterate 2 (apply txF (wantsg (j := 3) (d := 12) (b := false) rfl rfl rfl rfl); (· intro w' hK; go_simp; (try go_bits); exact ⟨rfl, rfl⟩); simp only [Act.put, pA, pB, pC])
   obtain ⟨b2, hb2⟩ : ∃ b : Bool, RowKit.Hid (decide (80 < ((xs.length : Int))) = b) := ⟨_, hid rfl⟩
   apply txB b2 (wantsg (j := 3) (d := 12) (b := false) rfl rfl rfl rfl); (· intro w' hK; go_simp; (try go_bits); exact ⟨by have q := hb2.out; subst q; first | rfl | simp, rfl⟩); simp only [Act.put, pA, pB, pC]
   apply txF (wants0 rfl); (· intro w' hK; go_simp; (try go_bits); exact ⟨rfl, rfl⟩); simp only [Act.put, pA, pB, pC]
   refine txEnd (fun W2 hK => ?_)
   cases b2
   · --
    have q_b2 : ((xs.length : Int)) ≤ 80 := Int.not_lt.1 (of_decide_eq_false hb2.out)
    go_wp2_with fail
    go_loopw [5, 6] (fun s5 s6 wl => ∃ (k : Nat) (p : Option Addr) (c : Nat) (ys : List Dm), s5 = .slice p ys.length c ∧ s6 = .int .i64 (k : Int) ∧ (k ≤ xs.length) ∧ RowKit.Hid (ys = bakD xs b k) ∧ (ys.length ≤ k) ∧ KS w [fun w1 => OwV demK 25 w.heap.size w1 (.slice p ys.length c) ys] wl) (fun s5 s6 _ => xs.length - (intOf s6).toNat)
    case atStart => exact ⟨0, none, 0, [], rfl, rfl, (by omega), (hid rfl), (Nat.le_refl _), ⟨hK.old, (al1 (fun w' _ => OwV.nil) aN)⟩⟩
    case round =>
     clear hK
     obtain ⟨k, p, c, ys, rfl, rfl, hk, hys, hyl, hK⟩ := hrel
     generalize wr = W3 at hK ⊢
     go_upto_region 7 with (fail)
     refine wp_region_tx w hK ?_
     clear hK
     iterate 3 (apply txF (wants0 rfl); (· intro w' hK; go_simp; (try go_bits); exact ⟨rfl, rfl⟩); simp only [Act.put, pA, pB, pC])
     obtain ⟨b3, hb3⟩ : ∃ b : Bool, RowKit.Hid (decide (((k : Int)) < ((xs.length : Int))) = b) := ⟨_, hid rfl⟩
     apply txB b3 (wants0 rfl); (· intro w' hK; go_simp; (try go_bits); exact ⟨by have q := hb3.out; subst q; first | rfl | simp, rfl⟩); simp only [Act.put, pA, pB, pC]
     refine txEnd (fun W4 hK => ?_)
     cases b3
     · --
      have q_b3 : ((xs.length : Int)) ≤ ((k : Int)) := Int.not_lt.1 (of_decide_eq_false hb3.out)
      have hbk := hid (show ys = bakD xs b xs.length from by rw [hys.out, show k = xs.length from by omega])
      have hml := mgD_len ys; have hml2 := mgD_len xs
      go_upto_region 10 with (fail)
      refine wp_region_tx w hK ?_
      clear hK
      apply txF (wants0 rfl); (· intro w' hK; go_simp; (try go_bits); exact ⟨rfl, rfl⟩); simp only [Act.put, pA, pB, pC]
      apply txE (α := Sl) (fun sv => .slice sv.p (mgD ys).length sv.c) (fun sv => [fun w1 => OwV demK 25 w.heap.size w1 (.slice sv.p (mgD ys).length sv.c) (mgD ys), fun _ => ∀ g, ob sv.p = some g → ob p ≠ some g]) (wants0 rfl)
      · intro f1 l1 hl1 w' hK; go_simp; (try go_bits); refine (merge_any (.slice p ys.length c) ys w' (hK.get m0).slv (by omega)).mono ?_; rintro e w5 ⟨y0, rfl, u0, hb⟩; obtain ⟨rfl, rfl⟩ := hl1.out; have u0_0 := u0; obtain ⟨p_u0, c_u0, rfl, n_u0⟩ := u0.sh; exact ⟨_, rfl, (⟨p_u0, 0, c_u0⟩ : Sl), rfl, hb, .cons (fun w2 h2 => (u0_0.mono hK.old.size).below h2) (.cons (fun _ _ => fun _ e e2 => absurd (u0_0.block e).1 (Nat.not_le.2 (((hK.get m0)).block e2).2)) (Lasts.nil _))⟩
      intro sv5
      simp only [Act.put, pA, pB, pC, pD, pE]
      refine Tx.know (Pr := ∀ g, ob sv5.p = some g → ob p ≠ some g) (fun w' hK => hK.get m1) (fun n6 => ?_)
      apply txF (wants0 rfl); (· intro w' hK; go_simp; (try go_bits); exact ⟨rfl, rfl⟩); simp only [Act.put, pA, pB, pC]
      apply txE (α := Sl) (fun sv => .slice sv.p (mgD xs).length sv.c) (fun sv => [fun w1 => OwV demK 25 w.heap.size w1 (.slice sv.p (mgD xs).length sv.c) (mgD xs), fun _ => ∀ g, ob sv.p = some g → ob sv5.p ≠ some g, fun _ => ∀ g, ob sv.p = some g → ob p ≠ some g]) (wants0 rfl)
      · intro f1 l1 hl1 w' hK; go_simp; (try go_bits); refine (merge_any (.slice p_h0 xs.length c_h0) xs w' (h0_0.below hK.old) (by omega)).mono ?_; rintro e w5 ⟨y0, rfl, u0, hb⟩; obtain ⟨rfl, rfl⟩ := hl1.out; have u0_0 := u0; obtain ⟨p_u0, c_u0, rfl, n_u0⟩ := u0.sh; exact ⟨_, rfl, (⟨p_u0, 0, c_u0⟩ : Sl), rfl, hb, .cons (fun w2 h2 => (u0_0.mono hK.old.size).below h2) (.cons (fun _ _ => fun _ e e2 => absurd (u0_0.block e).1 (Nat.not_le.2 (((hK.get m0)).block e2).2)) (.cons (fun _ _ => fun _ e e2 => absurd (u0_0.block e).1 (Nat.not_le.2 (((hK.get m2)).block e2).2)) (Lasts.nil _)))⟩
      intro sv7
      simp only [Act.put, pA, pB, pC, pD, pE]
      refine Tx.know (Pr := ∀ g, ob sv7.p = some g → ob sv5.p ≠ some g) (fun w' hK => hK.get m1) (fun n8 => ?_)
      refine Tx.know (Pr := ∀ g, ob sv7.p = some g → ob p ≠ some g) (fun w' hK => hK.get m2) (fun n9 => ?_)
      apply txH (v := .bool true) (wants0 rfl)
      · intro v1 hv1 w' hK; go_simp; (try go_bits); refine (same_of w' (hK.get m3).slv (hK.get m0).slv (mgD_perm (by rw [hbk.out]; exact bakD_perm xs b)) (by omega)).mono ?_; rintro e w5 ⟨rfl, hb⟩; obtain rfl := hv1.out; exact ⟨_, rfl, rfl, hb⟩
      simp only [Act.put, pA, pB, pC]
      apply txF (wants0 rfl); (· intro w' hK; go_simp; (try go_bits); exact ⟨rfl, rfl⟩); simp only [Act.put, pA, pB, pC]
      refine txEnd (fun W10 hK => ?_)
      go_wp2
      try go_ret
      show Q0 (.returned (.bool true)) _
      exact (by obtain rfl := hQ0.out; exact ⟨rfl, hK.old⟩)
     · --
      have q_b3 : ((k : Int)) < ((xs.length : Int)) := of_decide_eq_true hb3.out
      have hlt : k < xs.length := by omega
      have hsl := sgm_lt (n := xs.length) (b := b) (i := k) (by omega)
      obtain ⟨jj, hjj⟩ : ∃ j : Nat, RowKit.Hid (sgm xs.length b k = j) := ⟨_, hid rfl⟩
      rw [hjj.out] at hsl
      obtain ⟨x9, ex9⟩ : ∃ x, RowKit.Hid (xs[jj]? = some x) := ⟨_, hid (List.getElem?_eq_getElem (show jj < xs.length from hsl))⟩
      have i11 : jj < xs.length := by have q : jj < xs.length := hsl; first | exact q | (simp at q; omega) | omega
      obtain ⟨g11, o11, q11, l11⟩ := (h0_0).ptr ex9.out
      subst q11
      replace hK := KS.atD hK (h0_0.below hK.old) ex9.out
      have ex9k := hid (show xs[sgm xs.length b k]? = some x9 from by rw [hjj.out]; exact ex9.out)
      go_upto_region 9 with (fail)
      refine wp_region_tx w hK ?_
      clear hK
      iterate 4 (apply txF (wants0 rfl); (· intro w' hK; go_simp; (try go_bits); exact ⟨rfl, rfl⟩); simp only [Act.put, pA, pB, pC])
      apply txF (v := .int .i64 ((xs.length : Int) - 1)) (wants0 rfl); (· intro w' hK; go_simp; (try go_bits); exact ⟨congrArg _ (by omega), rfl⟩); simp only [Act.put, pA, pB, pC]
      apply txF (wants0 rfl); (· intro w' hK; go_simp; (try go_bits); exact ⟨rfl, rfl⟩); simp only [Act.put, pA, pB, pC]
      apply txF (v := .int .i64 ((xs.length : Int) - 1 - (k : Int))) (wants0 rfl); (· intro w' hK; go_simp; (try go_bits); exact ⟨congrArg _ (by omega), rfl⟩); simp only [Act.put, pA, pB, pC]
      apply txF (wants0 rfl); (· intro w' hK; go_simp; (try go_bits); exact ⟨rfl, rfl⟩); simp only [Act.put, pA, pB, pC]
      apply txF (v := .int .i64 (b : Int)) (wants0 rfl); (· intro w' hK; go_simp; (try go_bits); exact ⟨congrArg _ (by omega), rfl⟩); simp only [Act.put, pA, pB, pC]
      apply txF (v := .int .i64 ((xs.length : Int) - 1 - (k : Int) + (b : Int))) (wants0 rfl); (· intro w' hK; go_simp; (try go_bits); exact ⟨congrArg _ (by omega), rfl⟩); simp only [Act.put, pA, pB, pC]
      iterate 2 (apply txF (wants0 rfl); (· intro w' hK; go_simp; (try go_bits); exact ⟨rfl, rfl⟩); simp only [Act.put, pA, pB, pC])
      apply txF (v := .int .i64 (jj : Int)) (wants0 rfl); (· intro w' hK; go_simp; (try go_bits); rw [if_neg (fun e => by rw [e] at hlt; exact absurd hlt (Nat.not_lt_zero _))]; exact ⟨congrArg _ (by rw [← hjj.out]; exact sgm_i hlt), rfl⟩); simp only [Act.put, pA, pB, pC]
      apply txF (wants0 rfl); (· intro w' hK; go_simp; (try go_bits); exact ⟨rfl, rfl⟩); simp only [Act.put, pA, pB, pC]
      apply txF (wants0 rfl); (· intro w' hK; have c_CEL11_0 : w'.cell? ⟨g11, o11 + jj * 4, none⟩ = some (.int .i64 x9.s) := (by have q := (hK.get m0).2 0 _ rfl; simpa using q); have c_CEL11_1 : w'.cell? ⟨g11, o11 + jj * 4 + 1, none⟩ = some (.int .i64 x9.d) := (by have q := (hK.get m0).2 1 _ rfl; simpa using q); have c_CEL11_2 : w'.cell? ⟨g11, o11 + jj * 4 + 2, none⟩ = some (.int .i64 x9.a) := (by have q := (hK.get m0).2 2 _ rfl; simpa using q); have c_CEL11_3 : w'.cell? ⟨g11, o11 + jj * 4 + 3, none⟩ = some (.int .i64 x9.p) := (by have q := (hK.get m0).2 3 _ rfl; simpa using q); go_simp; (try go_bits); exact ⟨rfl, rfl⟩); simp only [Act.put, pA, pB, pC]
      apply txA2 (.cells #[.int .i64 x9.s, .int .i64 x9.d, .int .i64 x9.a, .int .i64 x9.p] 25) (wants0 rfl)
      · intro w' hK; go_simp; rfl
      intro R12 q_R12
      have n13 : ob p ≠ some R12 := q_R12.row m1
      clear q_R12
      simp only [mkOf, Act.put, pA, pB, pC]
      refine txApp (K := demK) (t := 25) (xs := ys) (ys := [x9]) (.tmp 23) (.tmp 38) (wants0 rfl) (by rfl) Tryd.underlying22 Tryd.underlying22 infoDm rfl (by rfl) (by rfl) (by simp [maxLen]; omega) (by simp; omega) (fun r => [Has w.heap.size R12 (.cells #[.int .i64 x9.s, .int .i64 x9.d, .int .i64 x9.a, .int .i64 x9.p] 25), fun _ => ob r ≠ some R12]) (fun w' hK => ⟨(hK.get m2), (fun _ _ => .inl demK_free), (SlV.one (hK.get m0) rfl (Nat.le_refl 1) (by decide))⟩) (fun w' r hK hr => (al1 (gwH (hK.get m0) n13) (al1 (gwC (apb hr n13 ((hK.get m0)).ltS)) aN))) ?_
      intro sv14
      rw [(show ys ++ [x9] = snocD ys x9 from rfl)]
      simp only [Act.put, pA, pB, pC]
      refine Tx.know (Pr := ob sv14.p ≠ some R12) (fun w' hK => hK.get m2) (fun n15 => ?_)
      apply txF (wants0 rfl); (· intro w' hK; go_simp; (try go_bits); exact ⟨rfl, rfl⟩); simp only [Act.put, pA, pB, pC]
      refine txEnd (fun W16 hK => ?_)
      (try go_wp2)
      go_roundw
      case rel => exact ⟨k + 1, sv14.p, sv14.c, (snocD ys x9), (by first | rfl | go_num), (by first | rfl | go_num), (by omega), (hid (by rw [← bakD_step ex9k.out, ← hys.out]; rfl)), (by rw [snocD_len]; omega), ⟨hK.old, (al1 (hK.all _ m0) aN)⟩⟩
      case measure => simp [intOf]; omega
   · --
    have q_b2 : 80 < ((xs.length : Int)) := of_decide_eq_true hb2.out
    go_wp2
    try go_ret
    show Q0 (.returned (.bool true)) _
    exact (by obtain rfl := hQ0.out; exact ⟨rfl, hK.old⟩)
  · --
   iterate 3 (apply txN (j := 3) (d := 12) (b := false) rfl rfl rfl rfl; simp only [Act.put, pA, pB, pC])
   apply txF (wants0 rfl); (· intro w' hK; go_simp; (try go_bits); exact ⟨rfl, rfl⟩); simp only [Act.put, pA, pB, pC]
   refine txEnd (fun W17 hK => ?_)
   go_wp2
   try go_ret
   show Q0 (.returned (.bool true)) _
   exact (by obtain rfl := hQ0.out; exact ⟨rfl, hK.old⟩)
end Go.Proofs.YthkoaaneikhjjaaDoor
