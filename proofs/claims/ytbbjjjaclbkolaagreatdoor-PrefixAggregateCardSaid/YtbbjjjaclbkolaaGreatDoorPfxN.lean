/- Aggregate of the program walked. -/
import Derived.Test.YtbbjjjaclbkolaaGreatDoorPfxM
import Derived.Test.YtbbjjjaclbkolaaGreatDoorPfxS
namespace Go.Proofs.YtbbjjjaclbkolaaGreatDoor
open Go.RowKit
open Go.Lib (decDigits)
set_option maxRecDepth 100000 in
theorem clone_any (v0 : Value) (xs : List Pf) (w : World) (h0 : SlV pfxK w v0 xs) (hl : xs.length ≤ 1000) :
    Calls Tryz.prog 14 #[v0] w fun e w' => ∃ y0, e = .returned y0 ∧ OwV pfxK 31 w.heap.size w' y0 xs ∧ Below w.heap.size w w' := by
  have h0_0 := h0; obtain ⟨p_h0, c_h0, rfl, n_h0⟩ := h0.sh
  have hK : KS w [] w := (KS.start w)
  refine Calls.hide (fun Q0 hQ0 => ?_)
  go_enter Tryz.func14, Tryz.ntmps14
  cases p_h0
  · --
   have hnil : xs = [] := Classical.byContradiction fun h => by obtain ⟨g, o, e, _⟩ := n_h0 h; cases e
   go_upto_region 1 with (fail)
   refine wp_region_tx w hK ?_
   clear hK
   apply txF (wants0 rfl); (· intro w' hK; go_simp; (try go_bits); exact ⟨rfl, rfl⟩); simp only [Act.put, pA, pB, pC]
   apply txF (v := .bool true) (wants0 rfl); (· intro w' hK; go_simp; (try go_bits); exact ⟨rfl, rfl⟩); simp only [Act.put, pA, pB, pC]
   refine txEnd (fun W1 hK => ?_)
   go_wp2
   try go_ret
   show Q0 (.returned (.slice none 0 0)) _
   exact (by obtain rfl := hQ0.out; exact ⟨_, rfl, (by obtain rfl := hnil; exact OwV.nil), hK.old⟩)
  · --
   rename_i a0
   go_upto_region 1 with (fail)
   refine wp_region_tx w hK ?_
   clear hK
   apply txF (wants0 rfl); (· intro w' hK; go_simp; (try go_bits); exact ⟨rfl, rfl⟩); simp only [Act.put, pA, pB, pC]
   apply txF (v := .bool false) (wants0 rfl); (· intro w' hK; go_simp; (try go_bits); exact ⟨rfl, rfl⟩); simp only [Act.put, pA, pB, pC]
   refine txEnd (fun W2 hK => ?_)
   go_upto_region 3 with (fail)
   refine wp_region_tx w hK ?_
   clear hK
   apply txA (.cells #[] 31) (wants0 rfl)
   · intro w' hK; go_simp; rfl
   intro R3 q_R3
   clear q_R3
   simp only [mkOf, Act.put, pA, pB, pC]
   apply txF (wants0 rfl); (· intro w' hK; go_simp; (try go_bits); exact ⟨rfl, rfl⟩); simp only [Act.put, pA, pB, pC]
   refine txApp (K := pfxK) (t := 31) (xs := ([] : List Pf)) (ys := xs) (.tmp 5) (.tmp 6) (wants0 rfl) (by rfl) Tryz.underlying22 Tryz.underlying22 infoPf rfl (by rfl) (by rfl) (by simp [maxLen]; omega) (by simp; omega) (fun r => []) (fun w' hK => ⟨(OwV.empty (hK.get m0)), (fun _ _ => .inl pfxK_free), (h0_0.below hK.old)⟩) (fun w' r hK hr => aN) ?_
   intro sv4
   rw [List.nil_append]
   simp only [Act.put, pA, pB, pC]
   apply txF (wants0 rfl); (· intro w' hK; go_simp; (try go_bits); exact ⟨rfl, rfl⟩); simp only [Act.put, pA, pB, pC]
   refine txEnd (fun W5 hK => ?_)
   go_wp2
   try go_ret
   show Q0 (.returned (.slice sv4.p xs.length sv4.c)) _
   exact (by obtain rfl := hQ0.out; exact ⟨_, rfl, (hK.get m0), hK.old⟩)
set_option maxRecDepth 100000 in
set_option maxHeartbeats 1000000 in
theorem aggregate_any (v0 : Value) (xs : List Pf) (w : World) (h0 : SlV pfxK w v0 xs) (hw : ∀ p ∈ xs, W32 p.1) (hl : xs.length ≤ 100) :
    Calls Tryz.prog 6 #[v0] w fun e w' => ∃ y0, e = .returned (.tuple #[y0, .int .i64 (agE xs)]) ∧ OwV pfxK 31 w.heap.size w' y0 (agF xs) ∧ Below w.heap.size w w' := by
  have h0_0 := h0; obtain ⟨p_h0, c_h0, rfl, n_h0⟩ := h0.sh
  have hK : KS w [] w := (KS.start w)
  refine Calls.hide (fun Q0 hQ0 => ?_)
  go_enter Tryz.func6, Tryz.ntmps6
  go_wp2_with fail
  go_loopw [13] (fun s13 wl => ∃ (j : Nat), s13 = .int .i64 (j : Int) ∧ (j ≤ xs.length) ∧ RowKit.Hid (okB (xs.take j) = true) ∧ KS w [] wl) (fun s13 _ => xs.length - (intOf s13).toNat)
  case atStart => exact ⟨0, rfl, (by omega), (hid rfl), ⟨hK.old, aN⟩⟩
  case round =>
   clear hK
   obtain ⟨j, rfl, hj, ho, hK⟩ := hrel
   generalize wr = W1 at hK ⊢
   go_upto_region 2 with (fail)
   refine wp_region_tx w hK ?_
   clear hK
   obtain ⟨b1, hb1⟩ : ∃ b : Bool, RowKit.Hid (decide (((j : Int)) < ((xs.length : Int))) = b) := ⟨_, hid rfl⟩
   apply txB b1 (wants0 rfl); (· intro w' hK; go_simp; (try go_bits); exact ⟨by have q := hb1.out; subst q; first | rfl | simp, rfl⟩); simp only [Act.put, pA, pB, pC]
   refine txEnd (fun W2 hK => ?_)
   cases b1
   · --
    have q_b1 : ((xs.length : Int)) ≤ ((j : Int)) := Int.not_lt.1 (of_decide_eq_false hb1.out)
    have hall := hid (show okB xs = true from by have q := ho.out; rwa [show j = xs.length from by omega, List.take_length] at q)
    have hok := okB_all hall.out hw
    go_upto_region 7 with (fail)
    refine wp_region_tx w hK ?_
    clear hK
    apply txF (wants0 rfl); (· intro w' hK; go_simp; (try go_bits); exact ⟨rfl, rfl⟩); simp only [Act.put, pA, pB, pC]
    apply txE (α := Sl) (fun sv => .slice sv.p xs.length sv.c) (fun sv => [fun w1 => OwV pfxK 31 w.heap.size w1 (.slice sv.p xs.length sv.c) xs]) (wants0 rfl)
    · intro f1 l1 hl1 w' hK; go_simp; (try go_bits); refine (clone_any (.slice p_h0 xs.length c_h0) xs w' (h0_0.below hK.old) (by omega)).mono ?_; rintro e w5 ⟨y0, rfl, u0, hb⟩; obtain ⟨rfl, rfl⟩ := hl1.out; have u0_0 := u0; obtain ⟨p_u0, c_u0, rfl, n_u0⟩ := u0.sh; exact ⟨_, rfl, (⟨p_u0, 0, c_u0⟩ : Sl), rfl, hb, .cons (fun w2 h2 => (u0_0.mono hK.old.size).below h2) (Lasts.nil _)⟩
    rintro ⟨sv3_p, sv3_l, sv3_c⟩
    simp only [Act.put, pA, pB, pC, pD, pE]
    apply txF (wants0 rfl); (· intro w' hK; go_simp; (try go_bits); exact ⟨rfl, rfl⟩); simp only [Act.put, pA, pB, pC]
    refine txEnd (fun W4 hK => ?_)
    go_upto_region 8 with (fail)
    refine wp_region_tx w hK ?_
    clear hK
    apply txF (wants0 rfl); (· intro w' hK; go_simp; (try go_bits); exact ⟨rfl, rfl⟩); simp only [Act.put, pA, pB, pC]
    refine txTurn (K := pfxK) (t := 31) sv3_p xs.length sv3_c (.tuple #[]) (sortP xs) [] (wants0 rfl) (fun w' hK g hg => (((hK.get m0)).block hg).1) (fun w' hK => aN) ?_ ?_
    · intro u zz hz w' hK; go_simp; (try go_bits); refine (sort_pfx (hK.get m0) (by omega)).mono ?_; rintro e w5 ⟨rfl, c1, c2⟩; obtain ⟨rfl, rfl⟩ := hz.out; exact ⟨_, rfl, rfl, c1, c2⟩
    simp only [Act.put, pA, pB, pC]
    refine txEnd (fun W5 hK => ?_)
    go_wp2_with fail
    go_loopw [7, 27] (fun s7 s27 wl => ∃ (k : Nat) (p : Option Addr) (c : Nat) (ys : List Pf), s7 = .slice p ys.length c ∧ s27 = .int .i64 (k : Int) ∧ (k ≤ xs.length) ∧ RowKit.Hid (ys = progS ((sortP xs).take k)) ∧ RowKit.Hid (∀ g, ob p = some g → ob sv3_p ≠ some g) ∧ KS w [fun w1 => OwV pfxK 31 w.heap.size w1 (.slice sv3_p xs.length sv3_c) (sortP xs), fun w1 => OwV pfxK 31 w.heap.size w1 (.slice p ys.length c) ys] wl) (fun s7 s27 _ => xs.length - (intOf s27).toNat)
    case atStart => exact ⟨0, none, 0, [], rfl, rfl, (by omega), (hid rfl), (hid (fun g e => by cases e)), ⟨hK.old, (al1 (hK.all _ m0) (al1 (fun w' _ => OwV.nil) aN))⟩⟩
    case round =>
     clear hK
     obtain ⟨k, p, c, ys, rfl, rfl, hk, hys, hap, hK⟩ := hrel
     generalize wr = W6 at hK ⊢
     go_upto_region 11 with (fail)
     refine wp_region_tx w hK ?_
     clear hK
     obtain ⟨b2, hb2⟩ : ∃ b : Bool, RowKit.Hid (decide (((k : Int)) < ((xs.length : Int))) = b) := ⟨_, hid rfl⟩
     apply txB b2 (wants0 rfl); (· intro w' hK; go_simp; (try go_bits); exact ⟨by have q := hb2.out; subst q; first | rfl | simp, rfl⟩); simp only [Act.put, pA, pB, pC]
     refine txEnd (fun W7 hK => ?_)
     cases b2
     · --
      have q_b2 : ((xs.length : Int)) ≤ ((k : Int)) := Int.not_lt.1 (of_decide_eq_false hb2.out)
      go_wp2
      try go_ret
      show Q0 (.returned (.tuple #[.slice p ys.length c, .int .i64 0])) _
      exact (by obtain rfl := hQ0.out; exact ⟨.slice p ys.length c, (by rw [(ag_ok hall.out).2]), (Eq.mp (congrArg (OwV pfxK 31 w.heap.size _ _) (show ys = agF xs from (by rw [(ag_ok hall.out).1, hys.out, show k = (sortP xs).length from by rw [sortP_len]; omega, List.take_length, prog_end hok]))) (hK.get m1)), hK.old⟩)
     · --
      have q_b2 : ((k : Int)) < ((xs.length : Int)) := of_decide_eq_true hb2.out
      obtain ⟨x12, ex12⟩ : ∃ x, RowKit.Hid ((sortP xs)[k]? = some x) := ⟨_, hid (List.getElem?_eq_getElem (show k < (sortP xs).length from (by rw [sortP_len]; omega)))⟩
      have i8 : k < xs.length := by have q : k < (sortP xs).length := (by rw [sortP_len]; omega); first | exact q | (simp at q; omega) | omega
      obtain ⟨g8, o8, q8, l8⟩ := ((hK.get m0).slv).ptr ex12.out
      obtain rfl : o8 = 0 := ((hK.get m0)).off q8
      subst q8
      replace hK := KS.atP hK (hK.get m0).slv ex12.out
      have okx := (allok_sort hok).at ex12.out; have wx := okx.w
      have hyl : ys.length ≤ 100 := by have q := progS_len ((sortP xs).take k); rw [← hys.out] at q; have q2 := List.length_take_le k (sortP xs); have q3 := sortP_len xs; omega
      have hoky : AllOk ys := by rw [hys.out]; exact allok_prog hok (by have := sortP_len xs; omega)
      go_upto_region 12 with (fail)
      refine wp_region_tx w hK ?_
      clear hK
      apply txF (wants0 rfl); (· intro w' hK; go_simp; (try go_bits); exact ⟨rfl, rfl⟩); simp only [Act.put, pA, pB, pC]
      apply txF (wants0 rfl); (· intro w' hK; have c_CEL8_0 : w'.cell? ⟨g8, k * 2, none⟩ = some (.int .u32 (x12.1 : Int)) := (by have q := (hK.get m0).2 0 _ rfl; simpa using q); have c_CEL8_1 : w'.cell? ⟨g8, k * 2 + 1, none⟩ = some (.int .i64 x12.2) := (by have q := (hK.get m0).2 1 _ rfl; simpa using q); go_simp; (try go_bits); exact ⟨rfl, rfl⟩); simp only [Act.put, pA, pB, pC]
      apply txA2 (.cells #[.int .u32 0, .int .i64 0] 31) (wants0 rfl)
      · intro w' hK; go_simp; rfl
      intro R9 q_R9
      have n10 : ob ((some ⟨g8, 0, none⟩)) ≠ some R9 := q_R9.row m1
      have n11 : ob p ≠ some R9 := q_R9.row m2
      clear q_R9
      simp only [mkOf, Act.put, pA, pB, pC]
      apply txU 0 (Has w.heap.size R9 (.cells #[.int .u32 (x12.1 : Int), .int .i64 x12.2] 31)) (wants0 rfl)
      · intro l1 hl1 w' hK; have k_R9 := (hK.get m0); have ⟨c_R9_0, c_R9_1⟩ := k_R9.c2; have f_R9 := k_R9.fz; go_simp; obtain rfl := hl1.out; exact ⟨rfl, ks_put (R := R9) hK k_R9.1 0 [.int .u32 (x12.1 : Int), .int .i64 x12.2] (al1 (fun _ => has_put k_R9 _ _) (al1 (spC (fun e => n10 (congrArg some e)) (hK.get m1)) (al1 (spO n10 (.inl pfxK_free) (hK.get m2)) (al1 (spO n11 (.inl pfxK_free) (hK.get m3)) aN))))⟩
      simp only [Act.put, pB]
      refine txEnd (fun W12 hK => ?_)
      rcases Nat.eq_zero_or_pos ys.length with hy0 | hy0
      · --
       have ey0 := hid (List.eq_nil_of_length_eq_zero hy0); replace hy0 := hid hy0
       go_upto_region 14 with (fail)
       have hK0 := hK
       refine wp_region_float0 (w) _ _ [0, 0, 0, 0, 0, 0, 0, 0, 0, 0, 0] (by kernel_rfl) (by kernel_rfl) (by kernel_rfl) (by kernel_rfl) (KS.drew hK0) (KS.drew hK) ?_
       clear hK hK0
       apply lxF0 (wants0 rfl); (· intro w' h0; go_simp; (try go_bits); exact ⟨rfl, rfl⟩); simp only [Act.put, pA, pB, pC]
       apply lxF0 (v := .bool false) (wants0 rfl); (· intro w' h0; go_simp; (try go_bits); exact ⟨congrArg Value.bool (by simp [hy0.out]), rfl⟩); simp only [Act.put, pA, pB, pC]
       apply lxF0 (wants0 rfl); (· intro w' h0; go_simp; (try go_bits); exact ⟨rfl, rfl⟩); simp only [Act.put, pA, pB, pC]
       iterate 7 (apply lxN (j := 2) (d := 35) (b := true) rfl rfl rfl rfl; simp only [Act.put, pA, pB, pC])
       apply lxF0 (wants0 rfl); (· intro w' h0; go_simp; (try go_bits); exact ⟨rfl, rfl⟩); simp only [Act.put, pA, pB, pC]
       refine lxEnd (fun W13 hK => ?_)
       have hmk : AllOk (addP ys x12) := fun r hr => (List.mem_append.1 hr).elim (hoky r) (fun h => by rw [List.mem_singleton.1 h]; exact okx)
       go_upto_region 15 with (fail)
       refine wp_region_tx w hK ?_
       clear hK
       apply txF (wants0 rfl); (· intro w' hK; go_simp; (try go_bits); exact ⟨rfl, rfl⟩); simp only [Act.put, pA, pB, pC]
       apply txF (wants0 rfl); (· intro w' hK; have k_R9 := (hK.get m0); have ⟨c_R9_0, c_R9_1⟩ := k_R9.c2; go_simp; (try go_bits); exact ⟨rfl, rfl⟩); simp only [Act.put, pA, pB, pC]
       apply txA2 (.cells #[.int .u32 (x12.1 : Int), .int .i64 x12.2] 31) (wants0 rfl)
       · intro w' hK; go_simp; rfl
       intro R14 q_R14
       have o_R9_R14 : R9 < R14 := q_R14.box m0
       have n15 : ob ((some ⟨g8, 0, none⟩)) ≠ some R14 := q_R14.row m2
       have n16 : ob p ≠ some R14 := q_R14.row m3
       clear q_R14
       simp only [mkOf, Act.put, pA, pB, pC]
       refine txApp (K := pfxK) (t := 31) (xs := ys) (ys := [x12]) (.tmp 44) (.tmp 46) (wants0 rfl) (by rfl) Tryz.underlying22 Tryz.underlying22 infoPf rfl (by rfl) (by rfl) (by simp [maxLen]; omega) (by simp; omega) (fun r => [Has w.heap.size R14 (.cells #[.int .u32 (x12.1 : Int), .int .i64 x12.2] 31), Has w.heap.size R9 (.cells #[.int .u32 (x12.1 : Int), .int .i64 x12.2] 31), fun w1 => OwV pfxK 31 w.heap.size w1 (.slice (some ⟨g8, 0, none⟩) xs.length sv3_c) (sortP xs), fun _ => ob r ≠ some R14, fun _ => ob r ≠ some R9, fun _ => ∀ g, ob r = some g → ob ((some ⟨g8, 0, none⟩)) ≠ some g]) (fun w' hK => ⟨(hK.get m4), (fun _ _ => .inl pfxK_free), (SlV.one (hK.get m0) rfl (Nat.le_refl 1) (by decide))⟩) (fun w' r hK hr => (al1 (gwH (hK.get m0) n16) (al1 (gwH (hK.get m1) n11) (al1 (gwO (hK.get m3) hap.out (fun _ _ => .inl pfxK_free)) (al1 (gwC (apb hr n16 ((hK.get m0)).ltS)) (al1 (gwC (apb hr n11 ((hK.get m1)).ltS)) (al1 (gwC (apr hr hap.out (fun g e => (((hK.get m3)).block e).2))) aN))))))) ?_
       intro sv17
       rw [(show ys ++ [x12] = addP ys x12 from rfl)]
       simp only [Act.put, pA, pB, pC]
       refine Tx.know (Pr := ob sv17.p ≠ some R14) (fun w' hK => hK.get m4) (fun n18 => ?_)
       refine Tx.know (Pr := ob sv17.p ≠ some R9) (fun w' hK => hK.get m5) (fun n19 => ?_)
       refine Tx.know (Pr := ∀ g, ob sv17.p = some g → ob ((some ⟨g8, 0, none⟩)) ≠ some g) (fun w' hK => hK.get m6) (fun n20 => ?_)
       refine txRow (K := pfxK) (t := 31) sv17.p (addP ys x12).length sv17.c (mergeS (addP ys x12)) (fun r => [Has w.heap.size R14 (.cells #[.int .u32 (x12.1 : Int), .int .i64 x12.2] 31), Has w.heap.size R9 (.cells #[.int .u32 (x12.1 : Int), .int .i64 x12.2] 31), fun w1 => OwV pfxK 31 w.heap.size w1 (.slice (some ⟨g8, 0, none⟩) xs.length sv3_c) (sortP xs), fun _ => ob sv17.p ≠ some R14, fun _ => ob sv17.p ≠ some R9, fun _ => ∀ g, ob sv17.p = some g → ob ((some ⟨g8, 0, none⟩)) ≠ some g, fun _ => ob r ≠ some R14, fun _ => ob r ≠ some R9, fun _ => ∀ g, ob r = some g → ob ((some ⟨g8, 0, none⟩)) ≠ some g]) (wants0 rfl) (fun w' hK g hg => (((hK.get m0)).block hg).1) (fun w' r hK hl => (al1 (gwH (hK.get m1) n18) (al1 (gwH (hK.get m2) n19) (al1 (gwO (hK.get m3) n20 (fun _ _ => .inl pfxK_free)) (al1 (gwC (hK.get m4)) (al1 (gwC (hK.get m5)) (al1 (gwC (hK.get m6)) (al1 (gwC (hl.box n18 ((hK.get m1)).ltS)) (al1 (gwC (hl.box n19 ((hK.get m2)).ltS)) (al1 (gwC (hl.row n20 (fun g e => (((hK.get m3)).block e).2))) aN)))))))))) ?_ ?_
       · intro zz hz w' hK; go_simp; (try go_bits); refine (merge_any (.slice sv17.p (addP ys x12).length sv17.c) (addP ys x12) w w' (hK.get m0) hK.old hmk (by rw [addP_len]; omega)).mono ?_; rintro e w5 ⟨y0, rfl, ⟨c1, c2, c3⟩, c4⟩; obtain rfl := hz.out; rw [ob_eq] at c2 c3; exact ⟨_, rfl, c1, c2, c3⟩
       intro sv21
       simp only [Act.put, pA, pB, pC]
       refine Tx.know (Pr := ob sv21.p ≠ some R14) (fun w' hK => hK.get m7) (fun n22 => ?_)
       refine Tx.know (Pr := ob sv21.p ≠ some R9) (fun w' hK => hK.get m8) (fun n23 => ?_)
       refine Tx.know (Pr := ∀ g, ob sv21.p = some g → ob ((some ⟨g8, 0, none⟩)) ≠ some g) (fun w' hK => hK.get m9) (fun n24 => ?_)
       apply txF (wants0 rfl); (· intro w' hK; go_simp; (try go_bits); exact ⟨rfl, rfl⟩); simp only [Act.put, pA, pB, pC]
       refine txEnd (fun W25 hK => ?_)
       (try go_wp2)
       go_roundw
       case rel => exact ⟨k + 1, sv21.p, sv21.c, (mergeS (addP ys x12)), (by first | rfl | go_num), (by first | rfl | go_num), (by omega), (hid (show _ = progS ((sortP xs).take (k + 1)) from by rw [progS_step ex12.out, ← hys.out]; exact (stepS_nil _ ey0.out).symm)), (hid (fun g e e2 => n24 g e e2)), ⟨hK.old, (al1 (hK.all _ m3) (al1 (hK.all _ m0) aN))⟩⟩
       case measure => simp [intOf]; omega
      · --
       obtain ⟨xt, ext⟩ : ∃ x, RowKit.Hid (ys[ys.length - 1]? = some x) := ⟨_, hid (List.getElem?_eq_getElem (show ys.length - 1 < ys.length from (by omega)))⟩
       have i26 : ys.length - 1 < ys.length := by have q : ys.length - 1 < ys.length := (by omega); first | exact q | (simp at q; omega) | omega
       obtain ⟨g26, o26, q26, l26⟩ := ((hK.get m3).slv).ptr ext.out
       obtain rfl : o26 = 0 := ((hK.get m3)).off q26
       subst q26
       replace hK := KS.atP hK (hK.get m3).slv ext.out
       have okt := hoky.at ext.out; have wt := okt.w
       go_upto_region 14 with (fail)
       have hK0 := hK
       refine wp_region_float0 (w) _ _ [0, 0, 0, 0, 0, 0, 0, 0, 0, 1, 0] (by kernel_rfl) (by kernel_rfl) (by kernel_rfl) (by kernel_rfl) (KS.drew hK0) (KS.drew hK) ?_
       clear hK hK0
       apply lxF0 (wants0 rfl); (· intro w' h0; go_simp; (try go_bits); exact ⟨rfl, rfl⟩); simp only [Act.put, pA, pB, pC]
       apply lxF0 (v := .bool true) (wants0 rfl); (· intro w' h0; go_simp; (try go_bits); exact ⟨congrArg Value.bool (by simp <;> omega), rfl⟩); simp only [Act.put, pA, pB, pC]
       apply lxF0 (wants0 rfl); (· intro w' h0; go_simp; (try go_bits); exact ⟨rfl, rfl⟩); simp only [Act.put, pA, pB, pC]
       iterate 2 (apply lxF0 (wantsg (j := 2) (d := 35) (b := true) rfl rfl rfl rfl); (· intro w' h0; go_simp; (try go_bits); exact ⟨rfl, rfl⟩); simp only [Act.put, pA, pB, pC])
       apply lxF0 (v := .int .i64 ((ys.length - 1 : Nat) : Int)) (wantsg (j := 2) (d := 35) (b := true) rfl rfl rfl rfl); (· intro w' h0; go_simp; (try go_bits); exact ⟨congrArg _ (by omega), rfl⟩); simp only [Act.put, pA, pB, pC]
       apply lxF0 (wantsg (j := 2) (d := 35) (b := true) rfl rfl rfl rfl); (· intro w' h0; go_simp; (try go_bits); exact ⟨rfl, rfl⟩); simp only [Act.put, pA, pB, pC]
       apply lxF0 (wantsg (j := 2) (d := 35) (b := true) rfl rfl rfl rfl); (· intro w' h0; have c_CEL26_0 : w'.cell? ⟨g26, (ys.length - 1) * 2, none⟩ = some (.int .u32 (xt.1 : Int)) := (by have q := (h0.get m0).2 0 _ rfl; simpa using q); have c_CEL26_1 : w'.cell? ⟨g26, (ys.length - 1) * 2 + 1, none⟩ = some (.int .i64 xt.2) := (by have q := (h0.get m0).2 1 _ rfl; simpa using q); go_simp; (try go_bits); exact ⟨rfl, rfl⟩); simp only [Act.put, pA, pB, pC]
       apply lxF0 (wantsg (j := 2) (d := 35) (b := true) rfl rfl rfl rfl); (· intro w' h0; have k_R9 := (h0.get m1); have ⟨c_R9_0, c_R9_1⟩ := k_R9.c2; go_simp; (try go_bits); exact ⟨rfl, rfl⟩); simp only [Act.put, pA, pB, pC]
       obtain ⟨b3, hb3⟩ : ∃ b : Bool, RowKit.Hid ((cvr xt.1 xt.2 x12.1 x12.2) = b) := ⟨_, hid rfl⟩
       apply lxH1 (v := .bool b3) (wantsg (j := 2) (d := 35) (b := true) rfl rfl rfl rfl)
       · intro v1 hv1 w' h0 hK; go_simp; (try go_bits); refine (covers_any xt.1 xt.2 x12.1 x12.2 w' (by first | assumption | omega | exact W32.zero) (by first | assumption | omega | exact W32.zero)).mono ?_; rintro e w5 ⟨rfl, hb⟩; obtain rfl := hv1.out; exact ⟨_, rfl, (by rw [hb3.out]), hb⟩
       simp only [Act.put, pA, pB, pC]
       apply lxF0 (wants0 rfl); (· intro w' h0; go_simp; (try go_bits); exact ⟨rfl, rfl⟩); simp only [Act.put, pA, pB, pC]
       refine lxEnd (fun W27 hK => ?_)
       cases b3
       · --
        have hmk : AllOk (addP ys x12) := fun r hr => (List.mem_append.1 hr).elim (hoky r) (fun h => by rw [List.mem_singleton.1 h]; exact okx)
        go_upto_region 15 with (fail)
        refine wp_region_tx w hK ?_
        clear hK
        apply txF (wants0 rfl); (· intro w' hK; go_simp; (try go_bits); exact ⟨rfl, rfl⟩); simp only [Act.put, pA, pB, pC]
        apply txF (wants0 rfl); (· intro w' hK; have k_R9 := (hK.get m1); have ⟨c_R9_0, c_R9_1⟩ := k_R9.c2; go_simp; (try go_bits); exact ⟨rfl, rfl⟩); simp only [Act.put, pA, pB, pC]
        apply txA2 (.cells #[.int .u32 (x12.1 : Int), .int .i64 x12.2] 31) (wants0 rfl)
        · intro w' hK; go_simp; rfl
        intro R28 q_R28
        have o_R9_R28 : R9 < R28 := q_R28.box m1
        have n29 : ob ((some ⟨g8, 0, none⟩)) ≠ some R28 := q_R28.row m3
        have n30 : ob ((some ⟨g26, 0, none⟩)) ≠ some R28 := q_R28.row m4
        clear q_R28
        simp only [mkOf, Act.put, pA, pB, pC]
        refine txApp (K := pfxK) (t := 31) (xs := ys) (ys := [x12]) (.tmp 44) (.tmp 46) (wants0 rfl) (by rfl) Tryz.underlying22 Tryz.underlying22 infoPf rfl (by rfl) (by rfl) (by simp [maxLen]; omega) (by simp; omega) (fun r => [Has w.heap.size R28 (.cells #[.int .u32 (x12.1 : Int), .int .i64 x12.2] 31), Has w.heap.size R9 (.cells #[.int .u32 (x12.1 : Int), .int .i64 x12.2] 31), fun w1 => OwV pfxK 31 w.heap.size w1 (.slice (some ⟨g8, 0, none⟩) xs.length sv3_c) (sortP xs), fun _ => ob r ≠ some R28, fun _ => ob r ≠ some R9, fun _ => ∀ g, ob r = some g → ob ((some ⟨g8, 0, none⟩)) ≠ some g]) (fun w' hK => ⟨(hK.get m5), (fun _ _ => .inl pfxK_free), (SlV.one (hK.get m0) rfl (Nat.le_refl 1) (by decide))⟩) (fun w' r hK hr => (al1 (gwH (hK.get m0) n30) (al1 (gwH (hK.get m2) n11) (al1 (gwO (hK.get m4) hap.out (fun _ _ => .inl pfxK_free)) (al1 (gwC (apb hr n30 ((hK.get m0)).ltS)) (al1 (gwC (apb hr n11 ((hK.get m2)).ltS)) (al1 (gwC (apr hr hap.out (fun g e => (((hK.get m4)).block e).2))) aN))))))) ?_
        intro sv31
        rw [(show ys ++ [x12] = addP ys x12 from rfl)]
        simp only [Act.put, pA, pB, pC]
        refine Tx.know (Pr := ob sv31.p ≠ some R28) (fun w' hK => hK.get m4) (fun n32 => ?_)
        refine Tx.know (Pr := ob sv31.p ≠ some R9) (fun w' hK => hK.get m5) (fun n33 => ?_)
        refine Tx.know (Pr := ∀ g, ob sv31.p = some g → ob ((some ⟨g8, 0, none⟩)) ≠ some g) (fun w' hK => hK.get m6) (fun n34 => ?_)
        refine txRow (K := pfxK) (t := 31) sv31.p (addP ys x12).length sv31.c (mergeS (addP ys x12)) (fun r => [Has w.heap.size R28 (.cells #[.int .u32 (x12.1 : Int), .int .i64 x12.2] 31), Has w.heap.size R9 (.cells #[.int .u32 (x12.1 : Int), .int .i64 x12.2] 31), fun w1 => OwV pfxK 31 w.heap.size w1 (.slice (some ⟨g8, 0, none⟩) xs.length sv3_c) (sortP xs), fun _ => ob sv31.p ≠ some R28, fun _ => ob sv31.p ≠ some R9, fun _ => ∀ g, ob sv31.p = some g → ob ((some ⟨g8, 0, none⟩)) ≠ some g, fun _ => ob r ≠ some R28, fun _ => ob r ≠ some R9, fun _ => ∀ g, ob r = some g → ob ((some ⟨g8, 0, none⟩)) ≠ some g]) (wants0 rfl) (fun w' hK g hg => (((hK.get m0)).block hg).1) (fun w' r hK hl => (al1 (gwH (hK.get m1) n32) (al1 (gwH (hK.get m2) n33) (al1 (gwO (hK.get m3) n34 (fun _ _ => .inl pfxK_free)) (al1 (gwC (hK.get m4)) (al1 (gwC (hK.get m5)) (al1 (gwC (hK.get m6)) (al1 (gwC (hl.box n32 ((hK.get m1)).ltS)) (al1 (gwC (hl.box n33 ((hK.get m2)).ltS)) (al1 (gwC (hl.row n34 (fun g e => (((hK.get m3)).block e).2))) aN)))))))))) ?_ ?_
        · intro zz hz w' hK; go_simp; (try go_bits); refine (merge_any (.slice sv31.p (addP ys x12).length sv31.c) (addP ys x12) w w' (hK.get m0) hK.old hmk (by rw [addP_len]; omega)).mono ?_; rintro e w5 ⟨y0, rfl, ⟨c1, c2, c3⟩, c4⟩; obtain rfl := hz.out; rw [ob_eq] at c2 c3; exact ⟨_, rfl, c1, c2, c3⟩
        intro sv35
        simp only [Act.put, pA, pB, pC]
        refine Tx.know (Pr := ob sv35.p ≠ some R28) (fun w' hK => hK.get m7) (fun n36 => ?_)
        refine Tx.know (Pr := ob sv35.p ≠ some R9) (fun w' hK => hK.get m8) (fun n37 => ?_)
        refine Tx.know (Pr := ∀ g, ob sv35.p = some g → ob ((some ⟨g8, 0, none⟩)) ≠ some g) (fun w' hK => hK.get m9) (fun n38 => ?_)
        apply txF (wants0 rfl); (· intro w' hK; go_simp; (try go_bits); exact ⟨rfl, rfl⟩); simp only [Act.put, pA, pB, pC]
        refine txEnd (fun W39 hK => ?_)
        (try go_wp2)
        go_roundw
        case rel => exact ⟨k + 1, sv35.p, sv35.c, (mergeS (addP ys x12)), (by first | rfl | go_num), (by first | rfl | go_num), (by omega), (hid (show _ = progS ((sortP xs).take (k + 1)) from by rw [progS_step ex12.out, ← hys.out]; exact (stepS_add ext.out hb3.out).symm)), (hid (fun g e e2 => n38 g e e2)), ⟨hK.old, (al1 (hK.all _ m3) (al1 (hK.all _ m0) aN))⟩⟩
        case measure => simp [intOf]; omega
       · --
        (try go_wp2)
        go_roundw
        case rel => exact ⟨k + 1, (some ⟨g26, 0, none⟩), c, ys, (by first | rfl | go_num), (by first | rfl | go_num), (by omega), (hid (show _ = progS ((sortP xs).take (k + 1)) from by rw [progS_step ex12.out, ← hys.out]; exact (stepS_skip ext.out hb3.out).symm)), (hid (fun g e e2 => hap.out g e e2)), ⟨hK.old, (al1 (hK.all _ m3) (al1 (hK.all _ m4) aN))⟩⟩
        case measure => simp [intOf]; omega
   · --
    have q_b1 : ((j : Int)) < ((xs.length : Int)) := of_decide_eq_true hb1.out
    obtain ⟨x3, ex3⟩ : ∃ x, RowKit.Hid (xs[j]? = some x) := ⟨_, hid (List.getElem?_eq_getElem (show j < xs.length from (by omega)))⟩
    have i40 : j < xs.length := by have q : j < xs.length := (by omega); first | exact q | (simp at q; omega) | omega
    obtain ⟨g40, o40, q40, l40⟩ := (h0_0).ptr ex3.out
    subst q40
    replace hK := KS.atP hK (h0_0.below hK.old) ex3.out
    have wx3 := hw _ (List.mem_of_getElem? ex3.out)
    go_upto_region 3 with (fail)
    refine wp_region_tx w hK ?_
    clear hK
    apply txF (wants0 rfl); (· intro w' hK; go_simp; (try go_bits); exact ⟨rfl, rfl⟩); simp only [Act.put, pA, pB, pC]
    apply txF (wants0 rfl); (· intro w' hK; have c_CEL40_0 : w'.cell? ⟨g40, o40 + j * 2, none⟩ = some (.int .u32 (x3.1 : Int)) := (by have q := (hK.get m0).2 0 _ rfl; simpa using q); have c_CEL40_1 : w'.cell? ⟨g40, o40 + j * 2 + 1, none⟩ = some (.int .i64 x3.2) := (by have q := (hK.get m0).2 1 _ rfl; simpa using q); go_simp; (try go_bits); exact ⟨rfl, rfl⟩); simp only [Act.put, pA, pB, pC]
    apply txA (.cells #[.int .u32 0, .int .i64 0] 31) (wants0 rfl)
    · intro w' hK; go_simp; rfl
    intro R41 q_R41
    clear q_R41
    simp only [mkOf, Act.put, pA, pB, pC]
    apply txU 0 (Has w.heap.size R41 (.cells #[.int .u32 (x3.1 : Int), .int .i64 x3.2] 31)) (wants0 rfl)
    · intro l1 hl1 w' hK; have k_R41 := (hK.get m0); have ⟨c_R41_0, c_R41_1⟩ := k_R41.c2; have f_R41 := k_R41.fz; go_simp; obtain rfl := hl1.out; exact ⟨rfl, ks_put (R := R41) hK k_R41.1 0 [.int .u32 (x3.1 : Int), .int .i64 x3.2] (al1 (fun _ => has_put k_R41 _ _) (al1 (spC (Nat.ne_of_lt (Nat.lt_of_lt_of_le l40 k_R41.1)) (hK.get m1)) aN))⟩
    simp only [Act.put, pB]
    refine txEnd (fun W42 hK => ?_)
    go_upto_region 4 with (fail)
    refine wp_region_tx w hK ?_
    clear hK
    apply txF (wants0 rfl); (· intro w' hK; have k_R41 := (hK.get m0); have ⟨c_R41_0, c_R41_1⟩ := k_R41.c2; go_simp; (try go_bits); exact ⟨rfl, rfl⟩); simp only [Act.put, pA, pB, pC]
    obtain ⟨b2, hb2⟩ : ∃ b : Bool, RowKit.Hid ((vld x3.1 x3.2) = b) := ⟨_, hid rfl⟩
    apply txH (v := .bool b2) (wants0 rfl)
    · intro v1 hv1 w' hK; go_simp; (try go_bits); refine (valid_any x3.1 x3.2 w' (by first | assumption | omega | exact W32.zero)).mono ?_; rintro e w5 ⟨rfl, hb⟩; obtain rfl := hv1.out; exact ⟨_, rfl, (by rw [hb2.out]), hb⟩
    simp only [Act.put, pA, pB, pC]
    apply txF (wants0 rfl); (· intro w' hK; go_simp; (try go_bits); exact ⟨rfl, rfl⟩); simp only [Act.put, pA, pB, pC]
    refine txEnd (fun W43 hK => ?_)
    cases b2
    · --
     go_wp2
     try go_ret
     show Q0 (.returned (.tuple #[.slice none 0 0, .int .i64 1])) _
     exact (by obtain rfl := hQ0.out; exact ⟨.slice none 0 0, (by rw [(ag_bad (okB_no ex3.out hb2.out)).2]), (by rw [(ag_bad (okB_no ex3.out hb2.out)).1]; exact OwV.nil), hK.old⟩)
    · --
     (try go_wp2)
     go_roundw
     case rel => exact ⟨j + 1, (by first | rfl | go_num), (by omega), (hid (okB_take ho.out ex3.out hb2.out)), ⟨hK.old, aN⟩⟩
     case measure => simp [intOf]; omega
end Go.Proofs.YtbbjjjaclbkolaaGreatDoor
