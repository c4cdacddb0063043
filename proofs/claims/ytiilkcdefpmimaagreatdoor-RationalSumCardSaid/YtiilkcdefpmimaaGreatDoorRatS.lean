/- Sums of lists walked. -/
import Derived.Test.YtiilkcdefpmimaaGreatDoorRatR0
namespace Go.Proofs.YtiilkcdefpmimaaGreatDoor
open Go.RowKit
open Go.Lib (decDigits)
set_option maxRecDepth 100000 in
theorem rsumq_any (v0 : Value) (xs : List Rat) (w : World) (h0 : SlV refK w v0 xs) (hl : xs.length ≤ 100) (hx : ∀ x ∈ xs, LmQ 60 x) :
    Calls Tryz.prog 50 #[v0] w fun e w' => ∃ y0, e = .returned y0 ∧ RefR w' y0 (sumQ xs) ∧ Below w.heap.size w w' := by
  have h0_0 := h0; obtain ⟨p_h0, c_h0, rfl, n_h0⟩ := h0.sh
  have hK : KS w [] w := (KS.start w)
  refine Calls.hide (fun Q0 hQ0 => ?_)
  go_enter Tryz.func50, Tryz.ntmps50
  go_upto_region 0 with (fail)
  refine wp_region_tx w hK ?_
  clear hK
  apply txA (.cells #[.bool false, .slice none 0 0, .slice none 0 0] 36) (wants0 rfl)
  · intro w' hK; go_simp; rfl
  intro R1 q_R1
  clear q_R1
  simp only [mkOf, Act.put, pA, pB, pC]
  refine txEnd (fun W2 hK => ?_)
  go_upto_region 1 with (fail)
  refine wp_region_tx w hK ?_
  clear hK
  apply txF (wants0 rfl); (· intro w' hK; go_simp; (try go_bits); exact ⟨rfl, rfl⟩); simp only [Act.put, pA, pB, pC]
  apply txA (.cells #[.bool false, .slice none 0 0, .slice none 0 0] 36) (wants0 rfl)
  · intro w' hK; go_simp; rfl
  intro R3 q_R3
  have o_R1_R3 : R1 < R3 := q_R3 _ _ _ m0
  clear q_R3
  simp only [mkOf, Act.put, pA, pB, pC]
  apply txU 0 (Has w.heap.size R3 (.cells #[.bool false, .slice none 0 0, .slice none 0 0] 36)) (wants0 rfl)
  · intro l1 hl1 w' hK; have k_R3 := (hK.get m0); have ⟨c_R3_0, c_R3_1, c_R3_2⟩ := k_R3.c3; have f_R3 := k_R3.fz; go_simp; obtain rfl := hl1.out; exact ⟨rfl, ks_put (R := R3) hK k_R3.1 0 [.bool false, .slice none 0 0, .slice none 0 0] (al1 (fun _ => has_put k_R3 _ _) (al1 (spL o_R1_R3 (hK.get m1)) aN))⟩
  simp only [Act.put, pB]
  refine txEnd (fun W4 hK => ?_)
  go_wp2_with fail
  go_loopw [4] (fun s4 wl => ∃ (k : Nat) (s : Bool) (bp : Option Addr) (bl : Nat) (bc : Nat) (dp : Option Addr) (dl : Nat) (dc : Nat), s4 = .int .i64 (k : Int) ∧ (k ≤ xs.length) ∧ KS w [Has w.heap.size R1 (.cells #[.bool false, .slice none 0 0, .slice none 0 0] 36), Has w.heap.size R3 (.cells #[.bool s, .slice bp bl bc, .slice dp dl dc] 36), fun w => RefR w (.agg #[.bool s, .slice bp bl bc, .slice dp dl dc]) (sumQ (xs.take k))] wl) (fun s4 _ => xs.length - (intOf s4).toNat)
  case atStart => exact ⟨0, false, none, 0, 0, none, 0, 0, rfl, (by omega), ⟨hK.old, (al1 (hK.all _ m1) (al1 (hK.all _ m0) (al1 (fun w' _ => RefR.zero w') aN)))⟩⟩
  case round =>
   clear hK
   obtain ⟨k, s, bp, bl, bc, dp, dl, dc, rfl, hk, hK⟩ := hrel
   generalize wr = W5 at hK ⊢
   go_upto_region 3 with (fail)
   refine wp_region_tx w hK ?_
   clear hK
   iterate 3 (apply txF (wants0 rfl); (· intro w' hK; go_simp; (try go_bits); exact ⟨rfl, rfl⟩); simp only [Act.put, pA, pB, pC])
   obtain ⟨b1, hb1⟩ : ∃ b : Bool, RowKit.Hid (decide (((k : Int)) < ((xs.length : Int))) = b) := ⟨_, hid rfl⟩
   apply txB b1 (wants0 rfl); (· intro w' hK; go_simp; (try go_bits); exact ⟨by have q := hb1.out; subst q; first | rfl | simp, rfl⟩); simp only [Act.put, pA, pB, pC]
   refine txEnd (fun W6 hK => ?_)
   cases b1
   · --
    have q_b1 : ((xs.length : Int)) ≤ ((k : Int)) := Int.not_lt.1 (of_decide_eq_false hb1.out)
    go_upto_region 6 with (fail)
    refine wp_region_tx w hK ?_
    clear hK
    apply txF (wants0 rfl); (· intro w' hK; have k_R3 := (hK.get m1); have ⟨c_R3_0, c_R3_1, c_R3_2⟩ := k_R3.c3; go_simp; (try go_bits); exact ⟨rfl, rfl⟩); simp only [Act.put, pA, pB, pC]
    apply txU 0 (Has w.heap.size R1 (.cells #[.bool s, .slice bp bl bc, .slice dp dl dc] 36)) (wants0 rfl)
    · intro l1 hl1 w' hK; have k_R1 := (hK.get m0); have ⟨c_R1_0, c_R1_1, c_R1_2⟩ := k_R1.c3; have f_R1 := k_R1.fz; have ni := noInt_of k_R1 nofun; go_simp; obtain rfl := hl1.out; exact ⟨rfl, ks_put (R := R1) hK k_R1.1 0 [.bool s, .slice bp bl bc, .slice dp dl dc] (al1 (fun _ => has_put k_R1 _ _) (al1 (spG o_R1_R3 (hK.get m1)) (al1 (spS ni (hK.get m2)) aN)))⟩
    simp only [Act.put, pB]
    refine txEnd (fun W7 hK => ?_)
    have k_R1 := (hK.get m0); have ⟨c_R1_0, c_R1_1, c_R1_2⟩ := k_R1.c3
    go_wp2
    exact bodyPost_ret (v := .agg #[.bool s, .slice bp bl bc, .slice dp dl dc]) (by simp [results, Tryz.results50, go_sem, c_R1_0, c_R1_1, c_R1_2]) rfl ((by obtain rfl := hQ0.out; exact ⟨_, rfl, (Eq.mp (congrArg (RefR _ _) (show sumQ (xs.take k) = sumQ xs from by rw [show k = xs.length from by omega, List.take_length])) (hK.get m2)), hK.old⟩))
   · --
    have q_b1 : ((k : Int)) < ((xs.length : Int)) := of_decide_eq_true hb1.out
    obtain ⟨x5, ex5⟩ : ∃ x, RowKit.Hid (xs[k]? = some x) := ⟨_, hid (List.getElem?_eq_getElem (show k < xs.length from by omega))⟩
    have i8 : k < xs.length := by have q : k < xs.length := (by omega); first | exact q | (simp at q; omega) | omega
    obtain ⟨g8, o8, q8, l8⟩ := (h0_0).ptr ex5.out
    subst q8
    obtain ⟨c8_0, c8_1, c8_2, hK⟩ := KS.atR hK (h0_0.below hK.old) ex5.out
    go_upto_region 5 with (fail)
    have hK0 := hK.subl (sK (sK (sK (sC (sK sZ)))))
    refine wp_region_float0 (w) _ _ [1, 0, 0, 0, 0, 2, 4] (by kernel_rfl) (by kernel_rfl) (by kernel_rfl) (by kernel_rfl) (KS.drew hK0) (KS.drew hK) ?_
    clear hK hK0
    apply lxR0 (wants0 rfl); (· intro w' h0 hK; have k_R3 := (hK.get m3); have ⟨c_R3_0, c_R3_1, c_R3_2⟩ := k_R3.c3; go_simp; (try go_bits); exact ⟨rfl, rfl⟩); simp only [Act.put, pA, pB, pC]
    iterate 3 (apply lxF0 (wants0 rfl); (· intro w' h0; go_simp; (try go_bits); exact ⟨rfl, rfl⟩); simp only [Act.put, pA, pB, pC])
    apply lxF0 (wants0 rfl); (· intro w' h0; have c_CEL8_0 : w'.cell? ⟨g8, o8 + k * 3, none⟩ = some (.bool c8_0) := (by have q := (h0.get m0).2 0 _ rfl; simpa using q); have c_CEL8_1 : w'.cell? ⟨g8, o8 + k * 3 + 1, none⟩ = some (.slice c8_1.p c8_1.l c8_1.c) := (by have q := (h0.get m0).2 1 _ rfl; simpa using q); have c_CEL8_2 : w'.cell? ⟨g8, o8 + k * 3 + 2, none⟩ = some (.slice c8_2.p c8_2.l c8_2.c) := (by have q := (h0.get m0).2 2 _ rfl; simpa using q); go_simp; (try go_bits); exact ⟨rfl, rfl⟩); simp only [Act.put, pA, pB, pC]
    apply lxE1 (α := Duo Sl Sl) (fun sv => .agg #[.bool (isN ((sumQ (xs.take k)) + x5)), .slice sv.a.p (digs B6 (numQ ((sumQ (xs.take k)) + x5))).length sv.a.c, .slice sv.b.p (digs B6 (den0 ((sumQ (xs.take k)) + x5))).length sv.b.c]) (fun sv => [fun w => RefR w (.agg #[.bool (isN ((sumQ (xs.take k)) + x5)), .slice sv.a.p (digs B6 (numQ ((sumQ (xs.take k)) + x5))).length sv.a.c, .slice sv.b.p (digs B6 (den0 ((sumQ (xs.take k)) + x5))).length sv.b.c]) ((sumQ (xs.take k)) + x5), fun w => RefV w (.slice sv.a.p (digs B6 (numQ ((sumQ (xs.take k)) + x5))).length sv.a.c) (numQ ((sumQ (xs.take k)) + x5)), fun w => RefV w (.slice sv.b.p (digs B6 (den0 ((sumQ (xs.take k)) + x5))).length sv.b.c) (den0 ((sumQ (xs.take k)) + x5))]) (wants0 rfl)
    · intro f1 l1 hl1 w' h0 hK; go_simp; (try go_bits); refine (radd_q (.agg #[.bool s, .slice bp bl bc, .slice dp dl dc]) (.agg #[.bool c8_0, .slice c8_1.p c8_1.l c8_1.c, .slice c8_2.p c8_2.l c8_2.c]) (sumQ (xs.take k)) x5 w' (hK.get m4) (hK.get m1) (sumQ_lmt (m := 6200) hx (by omega) k) ((hx _ (List.mem_of_getElem? ex5.out)).up (by decide)) (by decide)).mono ?_; rintro e w5 ⟨y0, rfl, u0, hb⟩; obtain ⟨rfl, rfl⟩ := hl1.out; have u0_0 := u0; obtain ⟨p_u0, c_u0, q_u0, d_u0, rfl, u0_1, u0_2⟩ := u0.slr; exact ⟨_, rfl, (⟨⟨p_u0, 0, c_u0⟩, ⟨q_u0, 0, d_u0⟩⟩ : Duo Sl Sl), rfl, hb, .cons (fun w2 h2 => u0_0.below h2) (.cons (fun w2 h2 => u0_1.below h2) (.cons (fun w2 h2 => u0_2.below h2) (Lasts.nil _)))⟩
    intro sv9
    simp only [Act.put, pA, pB, pC, pD, pE]
    apply lxU1 6 (Has w.heap.size R3 (.cells #[.bool (isN ((sumQ (xs.take k)) + x5)), .slice sv9.a.p (digs B6 (numQ ((sumQ (xs.take k)) + x5))).length sv9.a.c, .slice sv9.b.p (digs B6 (den0 ((sumQ (xs.take k)) + x5))).length sv9.b.c] 36)) (wants0 rfl)
    · intro g0 l1 hl1 w' h0 hK; have k_R3 := (hK.get m6); have ⟨c_R3_0, c_R3_1, c_R3_2⟩ := k_R3.c3; have f_R3 := k_R3.fz; have ni := noInt_of k_R3 nofun; go_simp; obtain ⟨rfl, rfl⟩ := hl1.out; exact ⟨rfl, ks_put (R := R3) h0 k_R3.1 0 [.bool (isN ((sumQ (xs.take k)) + x5)), .slice sv9.a.p (digs B6 (numQ ((sumQ (xs.take k)) + x5))).length sv9.a.c, .slice sv9.b.p (digs B6 (den0 ((sumQ (xs.take k)) + x5))).length sv9.b.c] (al1 (spC (Nat.ne_of_lt (Nat.lt_of_lt_of_le l8 k_R3.1)) (h0.get m0)) (al1 (spS ni (h0.get m1)) (al1 (spL o_R1_R3 (h0.get m2)) (al1 (spS ni (h0.get m3)) aN)))), ks_put (R := R3) hK k_R3.1 0 [.bool (isN ((sumQ (xs.take k)) + x5)), .slice sv9.a.p (digs B6 (numQ ((sumQ (xs.take k)) + x5))).length sv9.a.c, .slice sv9.b.p (digs B6 (den0 ((sumQ (xs.take k)) + x5))).length sv9.b.c] (al1 (spS ni (hK.get m0)) (al1 (spR ni (hK.get m1)) (al1 (spR ni (hK.get m2)) (al1 (spC (Nat.ne_of_lt (Nat.lt_of_lt_of_le l8 k_R3.1)) (hK.get m3)) (al1 (spS ni (hK.get m4)) (al1 (spL o_R1_R3 (hK.get m5)) (al1 (fun _ => has_put k_R3 _ _) (al1 (spS ni (hK.get m7)) aN))))))))⟩
    simp only [Act.put, pB, pC]
    refine lxEnd (fun W10 hK => ?_)
    (try go_wp2)
    go_roundw
    case rel => exact ⟨k + 1, (isN ((sumQ (xs.take k)) + x5)), sv9.a.p, (digs B6 (numQ ((sumQ (xs.take k)) + x5))).length, sv9.a.c, sv9.b.p, (digs B6 (den0 ((sumQ (xs.take k)) + x5))).length, sv9.b.c, (by first | rfl | go_num), (by omega), ⟨hK.old, (al1 (hK.all _ m5) (al1 (hK.all _ m6) (al1 (fun w' hb => Eq.mp (congrArg (RefR w' (.agg #[.bool (isN ((sumQ (xs.take k)) + x5)), .slice sv9.a.p (digs B6 (numQ ((sumQ (xs.take k)) + x5))).length sv9.a.c, .slice sv9.b.p (digs B6 (den0 ((sumQ (xs.take k)) + x5))).length sv9.b.c])) (show (sumQ (xs.take k)) + x5 = sumQ (xs.take (k + 1)) from (sumQ_take ex5.out).symm)) (hK.all _ m0 w' hb)) aN)))⟩⟩
    case measure => simp [intOf]; omega
set_option maxRecDepth 100000 in
theorem qclone_any (v0 : Value) (xs : List Rat) (w : World) (h0 : SlV ratK w v0 xs) (hl : xs.length ≤ 100) (hne : xs ≠ []) :
    Calls Tryz.prog 84 #[v0] w fun e w' => ∃ y0, e = .returned y0 ∧ OwV ratK 29 w.heap.size w' y0 xs ∧ Below w.heap.size w w' := by
  have h0_0 := h0; obtain ⟨p_h0, c_h0, rfl, n_h0⟩ := h0.sh
  have hK : KS w [] w := (KS.start w)
  obtain ⟨g0, o0, rfl, _⟩ := n_h0 hne
  refine Calls.hide (fun Q0 hQ0 => ?_)
  go_enter Tryz.func84, Tryz.ntmps84
  go_upto_region 1 with (fail)
  refine wp_region_tx w hK ?_
  clear hK
  apply txF (wants0 rfl); (· intro w' hK; go_simp; (try go_bits); exact ⟨rfl, rfl⟩); simp only [Act.put, pA, pB, pC]
  apply txF (v := .bool false) (wants0 rfl); (· intro w' hK; go_simp; (try go_bits); exact ⟨rfl, rfl⟩); simp only [Act.put, pA, pB, pC]
  refine txEnd (fun W1 hK => ?_)
  go_upto_region 3 with (fail)
  refine wp_region_tx w hK ?_
  clear hK
  apply txA (.cells #[] 29) (wants0 rfl)
  · intro w' hK; go_simp; rfl
  intro R2 q_R2
  clear q_R2
  simp only [mkOf, Act.put, pA, pB, pC]
  apply txF (wants0 rfl); (· intro w' hK; go_simp; (try go_bits); exact ⟨rfl, rfl⟩); simp only [Act.put, pA, pB, pC]
  refine txApp (K := ratK) (t := 29) (xs := ([] : List Rat)) (ys := xs) (.tmp 5) (.tmp 6) (wants0 rfl) (by rfl) Tryz.underlying75 Tryz.underlying75 infoQ rfl (by rfl) (by rfl) (by simp [maxLen]; omega) (by simp; omega) (fun r => []) (fun w' hK => ⟨(OwV.empty (hK.get m0)), (fun g e => .inr (by cases e; exact noInt_nil (hK.get m0))), (h0_0.below hK.old)⟩) (fun w' r hK hr => aN) ?_
  intro sv3
  rw [List.nil_append]
  simp only [Act.put, pA, pB, pC]
  apply txF (wants0 rfl); (· intro w' hK; go_simp; (try go_bits); exact ⟨rfl, rfl⟩); simp only [Act.put, pA, pB, pC]
  refine txEnd (fun W4 hK => ?_)
  go_wp2
  try go_ret
  show Q0 (.returned (.slice sv3.p xs.length sv3.c)) _
  exact (by obtain rfl := hQ0.out; exact ⟨_, rfl, (hK.get m0), hK.old⟩)
set_option maxRecDepth 100000 in
theorem qsum_any (v0 : Value) (xs : List Rat) (w : World) (h0 : SlV ratK w v0 xs) (hl : xs.length ≤ 100) (hx : ∀ x ∈ xs, LmQ 60 x) :
    Calls Tryz.prog 49 #[v0] w fun e w' => ∃ y0, e = .returned y0 ∧ RatV w' y0 (sumQ xs) ∧ Below w.heap.size w w' := by
  have h0_0 := h0; obtain ⟨p_h0, c_h0, rfl, n_h0⟩ := h0.sh
  have hK : KS w [] w := (KS.start w)
  refine Calls.hide (fun Q0 hQ0 => ?_)
  go_enter Tryz.func49, Tryz.ntmps49
  go_upto_region 0 with (fail)
  refine wp_region_tx w hK ?_
  clear hK
  apply txA (.cells #[.bool false, .slice none 0 0, .slice none 0 0] 29) (wants0 rfl)
  · intro w' hK; go_simp; rfl
  intro R1 q_R1
  clear q_R1
  simp only [mkOf, Act.put, pA, pB, pC]
  refine txEnd (fun W2 hK => ?_)
  go_upto_region 1 with (fail)
  refine wp_region_tx w hK ?_
  clear hK
  iterate 2 (apply txF (wants0 rfl); (· intro w' hK; go_simp; (try go_bits); exact ⟨rfl, rfl⟩); simp only [Act.put, pA, pB, pC])
  obtain ⟨b1, hb1⟩ : ∃ b : Bool, RowKit.Hid ((((xs.length : Int)) == 0) = b) := ⟨_, hid rfl⟩
  apply txB b1 (wants0 rfl); (· intro w' hK; go_simp; (try go_bits); exact ⟨by have q := hb1.out; subst q; first | rfl | simp, rfl⟩); simp only [Act.put, pA, pB, pC]
  refine txEnd (fun W3 hK => ?_)
  cases b1
  · --
   have hne : xs ≠ [] := fun e => by have q := hb1.out; rw [e] at q; simp at q
   go_upto_region 3 with (fail)
   refine wp_region_tx w hK ?_
   clear hK
   apply txF (wants0 rfl); (· intro w' hK; go_simp; (try go_bits); exact ⟨rfl, rfl⟩); simp only [Act.put, pA, pB, pC]
   apply txE (α := Sl) (fun sv => .slice sv.p xs.length sv.c) (fun sv => [fun w1 => OwV ratK 29 w.heap.size w1 (.slice sv.p xs.length sv.c) xs, fun _ => ob sv.p ≠ some R1]) (wants0 rfl)
   · intro f1 l1 hl1 w' hK; go_simp; (try go_bits); refine (qclone_any (.slice p_h0 xs.length c_h0) xs w' (h0_0.below hK.old) (by omega) hne).mono ?_; rintro e w5 ⟨y0, rfl, u0, hb⟩; obtain ⟨rfl, rfl⟩ := hl1.out; have u0_0 := u0; obtain ⟨p_u0, c_u0, rfl, n_u0⟩ := u0.sh; exact ⟨_, rfl, (⟨p_u0, 0, c_u0⟩ : Sl), rfl, hb, .cons (fun w2 h2 => (u0_0.mono hK.old.size).below h2) (.cons (fun _ _ => fun e => absurd (u0_0.block e).1 (Nat.not_le.2 ((hK.get m0)).ltS)) (Lasts.nil _))⟩
   intro sv4
   simp only [Act.put, pA, pB, pC, pD, pE]
   refine Tx.know (Pr := ob sv4.p ≠ some R1) (fun w' hK => hK.get m1) (fun n5 => ?_)
   apply txF (wants0 rfl); (· intro w' hK; go_simp; (try go_bits); exact ⟨rfl, rfl⟩); simp only [Act.put, pA, pB, pC]
   refine txEnd (fun W6 hK => ?_)
   go_wp2_with fail
   go_loopw [3] (fun s3 wl => ∃ (p : Option Addr) (c : Nat) (ys : List Rat), s3 = .slice p ys.length c ∧ RowKit.Hid (Seg xs ys) ∧ (ys ≠ []) ∧ (ys.length ≤ 100) ∧ (ob p ≠ some R1) ∧ KS w [Has w.heap.size R1 (.cells #[.bool false, .slice none 0 0, .slice none 0 0] 29), fun w1 => OwV ratK 29 w.heap.size w1 (.slice p ys.length c) ys] wl) (fun s3 _ => sliceLen s3)
   case atStart => exact ⟨sv4.p, sv4.c, xs, rfl, (hid (Seg.start xs)), hne, (by omega), n5, ⟨hK.old, (al1 (hK.all _ m2) (al1 (hK.all _ m0) aN))⟩⟩
   case round =>
    clear hK
    obtain ⟨p, c, ys, rfl, hs, hy, hn, hp, hK⟩ := hrel
    generalize wr = W7 at hK ⊢
    go_upto_region 4 with (fail)
    refine wp_region_tx w hK ?_
    clear hK
    iterate 2 (apply txF (wants0 rfl); (· intro w' hK; go_simp; (try go_bits); exact ⟨rfl, rfl⟩); simp only [Act.put, pA, pB, pC])
    obtain ⟨b2, hb2⟩ : ∃ b : Bool, RowKit.Hid (decide (1 < ((ys.length : Int))) = b) := ⟨_, hid rfl⟩
    apply txB b2 (wants0 rfl); (· intro w' hK; go_simp; (try go_bits); exact ⟨by have q := hb2.out; subst q; first | rfl | simp, rfl⟩); simp only [Act.put, pA, pB, pC]
    refine txEnd (fun W8 hK => ?_)
    cases b2
    · --
     have q_b2 : ((ys.length : Int)) ≤ 1 := Int.not_lt.1 (of_decide_eq_false hb2.out)
     have hpos : 0 < ys.length := List.length_pos_iff.2 hy
     obtain ⟨x15, ex15⟩ : ∃ x, RowKit.Hid (ys[0]? = some x) := ⟨_, hid (List.getElem?_eq_getElem (show 0 < ys.length from hpos))⟩
     have i9 : 0 < ys.length := by have q : 0 < ys.length := hpos; first | exact q | (simp at q; omega) | omega
     obtain ⟨g9, o9, q9, l9⟩ := ((hK.get m1).slv).ptr ex15.out
     obtain rfl : o9 = 0 := ((hK.get m1)).off q9
     subst q9
     obtain ⟨c9_0, c9_1, c9_2, hK⟩ := KS.atQ hK (hK.get m1).slv ex15.out
     go_upto_region 15 with (fail)
     refine wp_region_tx w hK ?_
     clear hK
     iterate 2 (apply txF (wants0 rfl); (· intro w' hK; go_simp; (try go_bits); exact ⟨rfl, rfl⟩); simp only [Act.put, pA, pB, pC])
     apply txF (wants0 rfl); (· intro w' hK; have c_CEL9_0 : w'.cell? ⟨g9, 0 * 3, none⟩ = some (.bool c9_0) := (by have q := (hK.get m0).2 0 _ rfl; simpa using q); have c_CEL9_1 : w'.cell? ⟨g9, 0 * 3 + 1, none⟩ = some (.slice c9_1.p c9_1.l c9_1.c) := (by have q := (hK.get m0).2 1 _ rfl; simpa using q); have c_CEL9_2 : w'.cell? ⟨g9, 0 * 3 + 2, none⟩ = some (.slice c9_2.p c9_2.l c9_2.c) := (by have q := (hK.get m0).2 2 _ rfl; simpa using q); go_simp; (try go_bits); exact ⟨rfl, rfl⟩); simp only [Act.put, pA, pB, pC]
     apply txS [fun w => RatV w (.agg #[.bool c9_0, .slice c9_1.p c9_1.l c9_1.c, .slice c9_2.p c9_2.l c9_2.c]) x15, Has w.heap.size R1 (.cells #[.bool c9_0, .slice c9_1.p c9_1.l c9_1.c, .slice c9_2.p c9_2.l c9_2.c] 29), fun w1 => OwV ratK 29 w.heap.size w1 (.slice (some ⟨g9, 0, none⟩) ys.length c) ys] (wants0 rfl)
     · intro l1 hl1 w' hK; have k_R1 := (hK.get m2); have ⟨c_R1_0, c_R1_1, c_R1_2⟩ := k_R1.c3; have f_R1 := k_R1.fz; have ni := noInt_of k_R1 nofun; go_simp; obtain rfl := hl1.out; exact ⟨rfl, ks_put (R := R1) hK k_R1.1 0 [.bool c9_0, .slice c9_1.p c9_1.l c9_1.c, .slice c9_2.p c9_2.l c9_2.c] (al1 (spQ ni (hK.get m1)) (al1 (fun _ => has_put k_R1 _ _) (al1 (spO hp (.inr ni) (hK.get m3)) aN)))⟩
     simp only [Act.put]
     refine txEnd (fun W10 hK => ?_)
     have k_R1 := (hK.get m1); have ⟨c_R1_0, c_R1_1, c_R1_2⟩ := k_R1.c3
     go_wp2
     exact bodyPost_ret (v := .agg #[.bool c9_0, .slice c9_1.p c9_1.l c9_1.c, .slice c9_2.p c9_2.l c9_2.c]) (by simp [results, Tryz.results49, go_sem, c_R1_0, c_R1_1, c_R1_2]) rfl ((by obtain rfl := hQ0.out; exact ⟨_, rfl, (Eq.mp (congrArg (RatV _ _) (show x15 = sumQ xs from hs.out.first (by omega) ex15.out)) (hK.get m0)), hK.old⟩))
    · --
     have q_b2 : 1 < ((ys.length : Int)) := of_decide_eq_true hb2.out
     go_upto_region 5 with (fail)
     refine wp_region_tx w hK ?_
     clear hK
     iterate 2 (apply txF (wants0 rfl); (· intro w' hK; go_simp; (try go_bits); exact ⟨rfl, rfl⟩); simp only [Act.put, pA, pB, pC])
     apply txF (v := .int .i64 ((ys.length / 2 : Nat) : Int)) (wants0 rfl); (· intro w' hK; go_simp; (try go_bits); exact ⟨congrArg _ (by omega), rfl⟩); simp only [Act.put, pA, pB, pC]
     apply txF (wants0 rfl); (· intro w' hK; go_simp; (try go_bits); exact ⟨rfl, rfl⟩); simp only [Act.put, pA, pB, pC]
     refine txEnd (fun W11 hK => ?_)
     go_wp2_with fail
     go_loopw [19] (fun s19 wl => ∃ (i : Nat) (zs : List Rat), s19 = .int .i64 (i : Int) ∧ (i ≤ ys.length / 2) ∧ RowKit.Hid (Half (· + ·) ys zs i) ∧ KS w [Has w.heap.size R1 (.cells #[.bool false, .slice none 0 0, .slice none 0 0] 29), fun w1 => OwV ratK 29 w.heap.size w1 (.slice p ys.length c) zs] wl) (fun s19 _ => ys.length - (intOf s19).toNat)
     case atStart => exact ⟨0, ys, rfl, (by omega), (hid (Half.start _ ys)), ⟨hK.old, (al1 (hK.all _ m0) (al1 (hK.all _ m1) aN))⟩⟩
     case round =>
      clear hK
      obtain ⟨i, zs, rfl, hi, hh, hK⟩ := hrel
      generalize wr = W12 at hK ⊢
      go_upto_region 7 with (fail)
      refine wp_region_tx w hK ?_
      clear hK
      obtain ⟨b3, hb3⟩ : ∃ b : Bool, RowKit.Hid (decide (((i : Int)) < (((ys.length / 2 : Nat) : Int))) = b) := ⟨_, hid rfl⟩
      apply txB b3 (wants0 rfl); (· intro w' hK; go_simp; (try go_bits); exact ⟨by have q := hb3.out; subst q; first | rfl | simp, rfl⟩); simp only [Act.put, pA, pB, pC]
      refine txEnd (fun W13 hK => ?_)
      cases b3
      · --
       have q_b3 : (((ys.length / 2 : Nat) : Int)) ≤ ((i : Int)) := Int.not_lt.1 (of_decide_eq_false hb3.out)
       go_upto_region 11 with (fail)
       refine wp_region_tx w hK ?_
       clear hK
       iterate 2 (apply txF (wants0 rfl); (· intro w' hK; go_simp; (try go_bits); exact ⟨rfl, rfl⟩); simp only [Act.put, pA, pB, pC])
       apply txF (v := .int .i64 ((ys.length % 2 : Nat) : Int)) (wants0 rfl); (· intro w' hK; go_simp; (try go_bits); exact ⟨congrArg _ (by omega), rfl⟩); simp only [Act.put, pA, pB, pC]
       obtain ⟨b4, hb4⟩ : ∃ b : Bool, RowKit.Hid (((((ys.length % 2 : Nat) : Int)) == 1) = b) := ⟨_, hid rfl⟩
       apply txB b4 (wants0 rfl); (· intro w' hK; go_simp; (try go_bits); exact ⟨by have q := hb4.out; subst q; first | rfl | simp, rfl⟩); simp only [Act.put, pA, pB, pC]
       refine txEnd (fun W14 hK => ?_)
       cases b4
       · --
        have hzl := hid hh.out.len
        have q12 : ((ys.length % 2 : Nat) : Int) ≠ 1 := by simpa using hb4.out
        have hi2 : i = ys.length / 2 := by omega
        subst hi2
        have heven := hid (show ys.length = 2 * (ys.length / 2) from by omega)
        replace q12 := hid q12
        have hc2 : ys.length ≤ c ∧ c ≤ 9223372036854775807 := by have q := (hK.get m1).le; have := hzl.out; (try simp at q); omega
        have iz1 : (0 : Int) ≤ (ys.length : Int) / 2 := by omega
        have iy1 : (ys.length : Int) / 2 ≤ (c : Int) := by omega
        replace hK := hK.add (F := fun w1 => OwV ratK 29 w.heap.size w1 (.slice p (ys.length / 2) c) (zs.take (ys.length / 2))) (fun w' hb => (hK.all _ m1 w' hb).take (by have := hzl.out; simp; omega))
        go_upto_region 14 with (fail)
        refine wp_region_tx w hK ?_
        clear hK
        iterate 2 (apply txF (wants0 rfl); (· intro w' hK; go_simp; (try go_bits); exact ⟨rfl, rfl⟩); simp only [Act.put, pA, pB, pC])
        apply txF (v := .slice p (ys.length / 2) c) (wants0 rfl); (· intro w' hK; go_simp; (try go_bits); exact ⟨rfl, rfl⟩); simp only [Act.put, pA, pB, pC]
        apply txF (wants0 rfl); (· intro w' hK; go_simp; (try go_bits); exact ⟨rfl, rfl⟩); simp only [Act.put, pA, pB, pC]
        refine txEnd (fun W15 hK => ?_)
        (try go_wp2)
        go_roundw
        case rel => exact ⟨p, c, pairL (· + ·) ys, (congrArg (fun n => Value.slice p n c) (show (ys.length / 2) = _ from by rw [pairL_len]; have := heven.out; omega)), (hid hs.out.pair), (fun e => hy (by have q := pairL_len (· + ·) ys; rw [e] at q; simp at q; exact List.eq_nil_of_length_eq_zero (by omega))), (by rw [pairL_len]; omega), hp, ⟨hK.old, (al1 (hK.all _ m1) (al1 (fun w' hb => by have q := hK.all _ m0 w' hb; rw [(hh.out.even heven.out)] at q; rw [show (pairL (· + ·) ys).length = (ys.length / 2) from by rw [pairL_len]; have := heven.out; omega]; exact q) aN))⟩⟩
        case measure => simp [sliceLen]; omega
       · --
        have hzl := hid hh.out.len
        have q12 : ((ys.length % 2 : Nat) : Int) = 1 := by simpa using hb4.out
        have hi2 : i = ys.length / 2 := by omega
        subst hi2
        have hodd := hid (show ys.length = 2 * (ys.length / 2) + 1 from by omega)
        replace q12 := hid q12
        obtain ⟨x12, ex12⟩ : ∃ x, RowKit.Hid (zs[ys.length - 1]? = some x) := ⟨_, hid (List.getElem?_eq_getElem (show ys.length - 1 < zs.length from (by have := hzl.out; omega)))⟩
        have i16 : ys.length - 1 < ys.length := by have q : ys.length - 1 < zs.length := (by have := hzl.out; omega); first | exact q | (simp at q; omega) | omega
        obtain ⟨g16, o16, q16, l16⟩ := ((hK.get m1).slv).ptr ex12.out
        obtain rfl : o16 = 0 := ((hK.get m1)).off q16
        subst q16
        obtain ⟨c16_0, c16_1, c16_2, hK⟩ := KS.atQ hK (hK.get m1).slv ex12.out
        obtain ⟨x13, ex13⟩ : ∃ x, RowKit.Hid (zs[ys.length / 2]? = some x) := ⟨_, hid (List.getElem?_eq_getElem (show ys.length / 2 < zs.length from (by have := hzl.out; omega)))⟩
        have i17 : ys.length / 2 < ys.length := by have q : ys.length / 2 < zs.length := (by have := hzl.out; omega); first | exact q | (simp at q; omega) | omega
        have j17 : (0 : Int) ≤ (ys.length : Int) / 2 := by omega
        have k17 : (ys.length : Int) / 2 < (ys.length : Int) := by omega
        obtain ⟨c17_0, c17_1, c17_2, hK⟩ := KS.atQ hK (hK.get m3).slv ex13.out
        replace ex12 : RowKit.Hid (zs[2 * (ys.length / 2)]? = some x12) := hid (by have q := ex12.out; rwa [show ys.length - 1 = 2 * (ys.length / 2) from by have := hodd.out; omega] at q)
        go_upto_region 12 with (fail)
        refine wp_region_tx w hK ?_
        clear hK
        iterate 5 (apply txF (wants0 rfl); (· intro w' hK; go_simp; (try go_bits); exact ⟨rfl, rfl⟩); simp only [Act.put, pA, pB, pC])
        apply txF (v := .int .i64 ((ys.length - 1 : Nat) : Int)) (wants0 rfl); (· intro w' hK; go_simp; (try go_bits); exact ⟨congrArg _ (by omega), rfl⟩); simp only [Act.put, pA, pB, pC]
        apply txF (wants0 rfl); (· intro w' hK; go_simp; (try go_bits); exact ⟨rfl, rfl⟩); simp only [Act.put, pA, pB, pC]
        apply txF (wants0 rfl); (· intro w' hK; have c_CEL16_0 : w'.cell? ⟨g16, (ys.length - 1) * 3, none⟩ = some (.bool c16_0) := (by have q := (hK.get m2).2 0 _ rfl; simpa using q); have c_CEL16_1 : w'.cell? ⟨g16, (ys.length - 1) * 3 + 1, none⟩ = some (.slice c16_1.p c16_1.l c16_1.c) := (by have q := (hK.get m2).2 1 _ rfl; simpa using q); have c_CEL16_2 : w'.cell? ⟨g16, (ys.length - 1) * 3 + 2, none⟩ = some (.slice c16_2.p c16_2.l c16_2.c) := (by have q := (hK.get m2).2 2 _ rfl; simpa using q); go_simp; (try go_bits); exact ⟨rfl, rfl⟩); simp only [Act.put, pA, pB, pC]
        apply txF (wants0 rfl); (· intro w' hK; go_simp; (try go_bits); exact ⟨rfl, rfl⟩); simp only [Act.put, pA, pB, pC]
        apply txS [fun w => RatV w (.agg #[.bool c17_0, .slice c17_1.p c17_1.l c17_1.c, .slice c17_2.p c17_2.l c17_2.c]) x13, fun w => RatV w (.agg #[.bool c16_0, .slice c16_1.p c16_1.l c16_1.c, .slice c16_2.p c16_2.l c16_2.c]) x12, Has w.heap.size R1 (.cells #[.bool false, .slice none 0 0, .slice none 0 0] 29), fun w1 => OwV ratK 29 w.heap.size w1 (.slice (some ⟨g16, 0, none⟩) ys.length c) (zs.set (ys.length / 2) x12)] (wants0 rfl)
        · intro l1 hl1; intro w' hK; have k_g := (hK.get m5); have f_g := k_g.fz; have ni := k_g.hd (List.ne_nil_of_length_pos (Nat.lt_of_le_of_lt (Nat.zero_le _) (show (ys.length / 2) < zs.length from (by have := hzl.out; omega)))) ratK_hd; have c_CEL17_0 : w'.cell? ⟨g16, (ys.length / 2) * 3, none⟩ = some (.bool c17_0) := (by have q := (hK.get m0).2 0 _ rfl; simpa using q); have c_CEL17_1 : w'.cell? ⟨g16, (ys.length / 2) * 3 + 1, none⟩ = some (.slice c17_1.p c17_1.l c17_1.c) := (by have q := (hK.get m0).2 1 _ rfl; simpa using q); have c_CEL17_2 : w'.cell? ⟨g16, (ys.length / 2) * 3 + 2, none⟩ = some (.slice c17_2.p c17_2.l c17_2.c) := (by have q := (hK.get m0).2 2 _ rfl; simpa using q); go_simp; obtain rfl := hl1.out; exact ⟨rfl, ks_put (R := g16) hK (k_g.block rfl).1 ((ys.length / 2) * 3) [.bool c16_0, .slice c16_1.p c16_1.l c16_1.c, .slice c16_2.p c16_2.l c16_2.c] (al1 (spQ ni (hK.get m1)) (al1 (spQ ni (hK.get m3)) (al1 (spE (fun e => hp (congrArg some e.symm)) (hK.get m4)) (al1 (k_g.put ⟨_, _, _, rfl, (hK.get m3)⟩ (show (ys.length / 2) < zs.length from (by have := hzl.out; omega))) aN))))⟩
        simp only [Act.put]
        refine txEnd (fun W18 hK => ?_)
        go_upto_region 13 with (fail)
        refine wp_region_tx w hK ?_
        clear hK
        apply txF (wants0 rfl); (· intro w' hK; go_simp; (try go_bits); exact ⟨rfl, rfl⟩); simp only [Act.put, pA, pB, pC]
        apply txF (v := .int .i64 ((ys.length / 2 + 1 : Nat) : Int)) (wants0 rfl); (· intro w' hK; go_simp; (try go_bits); exact ⟨congrArg _ (by omega), rfl⟩); simp only [Act.put, pA, pB, pC]
        apply txF (wants0 rfl); (· intro w' hK; go_simp; (try go_bits); exact ⟨rfl, rfl⟩); simp only [Act.put, pA, pB, pC]
        refine txEnd (fun W19 hK => ?_)
        have hc2 : ys.length ≤ c ∧ c ≤ 9223372036854775807 := by have q := (hK.get m3).le; have := hzl.out; (try simp at q); omega
        have iz1 : (0 : Int) ≤ (ys.length : Int) / 2 + 1 := by omega
        have iy1 : (ys.length : Int) / 2 + 1 ≤ (c : Int) := by have := hodd.out; omega
        replace hK := hK.add (F := fun w1 => OwV ratK 29 w.heap.size w1 (.slice (some ⟨g16, 0, none⟩) (ys.length / 2 + 1) c) ((zs.set (ys.length / 2) x12).take (ys.length / 2 + 1))) (fun w' hb => (hK.all _ m3 w' hb).take (by have := hzl.out; simp; omega))
        go_upto_region 14 with (fail)
        refine wp_region_tx w hK ?_
        clear hK
        iterate 2 (apply txF (wants0 rfl); (· intro w' hK; go_simp; (try go_bits); exact ⟨rfl, rfl⟩); simp only [Act.put, pA, pB, pC])
        apply txF (v := .slice (some ⟨g16, 0, none⟩) (ys.length / 2 + 1) c) (wants0 rfl); (· intro w' hK; go_simp; (try go_bits); exact ⟨rfl, rfl⟩); simp only [Act.put, pA, pB, pC]
        apply txF (wants0 rfl); (· intro w' hK; go_simp; (try go_bits); exact ⟨rfl, rfl⟩); simp only [Act.put, pA, pB, pC]
        refine txEnd (fun W20 hK => ?_)
        (try go_wp2)
        go_roundw
        case rel => exact ⟨(some ⟨g16, 0, none⟩), c, pairL (· + ·) ys, (congrArg (fun n => Value.slice (some ⟨g16, 0, none⟩) n c) (show (ys.length / 2 + 1) = _ from by rw [pairL_len]; have := hodd.out; omega)), (hid hs.out.pair), (fun e => hy (by have q := pairL_len (· + ·) ys; rw [e] at q; simp at q; exact List.eq_nil_of_length_eq_zero (by omega))), (by rw [pairL_len]; omega), hp, ⟨hK.old, (al1 (hK.all _ m3) (al1 (fun w' hb => by have q := hK.all _ m0 w' hb; rw [(hh.out.odd hodd.out ex12.out)] at q; rw [show (pairL (· + ·) ys).length = (ys.length / 2 + 1) from by rw [pairL_len]; have := hodd.out; omega]; exact q) aN))⟩⟩
        case measure => simp [sliceLen]; have := hodd.out; omega
      · --
       have q_b3 : ((i : Int)) < (((ys.length / 2 : Nat) : Int)) := of_decide_eq_true hb3.out
       have hzl := hid hh.out.len
       have hlm := hid (hs.out.lm hx (m := 6200) (by omega))
       obtain ⟨xa, exa⟩ : ∃ x, RowKit.Hid (zs[2 * i]? = some x) := ⟨_, hid (List.getElem?_eq_getElem (show 2 * i < zs.length from (by have := hzl.out; omega)))⟩
       have i21 : 2 * i < ys.length := by have q : 2 * i < zs.length := (by have := hzl.out; omega); first | exact q | (simp at q; omega) | omega
       have j21 : (0 : Int) ≤ 2 * (i : Int) := by omega
       have k21 : 2 * (i : Int) < (ys.length : Int) := by omega
       obtain ⟨g21, o21, q21, l21⟩ := ((hK.get m1).slv).ptr exa.out
       obtain rfl : o21 = 0 := ((hK.get m1)).off q21
       subst q21
       obtain ⟨c21_0, c21_1, c21_2, hK⟩ := KS.atQ hK (hK.get m1).slv exa.out
       obtain ⟨xb, exb⟩ : ∃ x, RowKit.Hid (zs[2 * i + 1]? = some x) := ⟨_, hid (List.getElem?_eq_getElem (show 2 * i + 1 < zs.length from (by have := hzl.out; omega)))⟩
       have i22 : 2 * i + 1 < ys.length := by have q : 2 * i + 1 < zs.length := (by have := hzl.out; omega); first | exact q | (simp at q; omega) | omega
       have j22 : (0 : Int) ≤ 2 * (i : Int) + 1 := by omega
       have k22 : 2 * (i : Int) + 1 < (ys.length : Int) := by omega
       obtain ⟨c22_0, c22_1, c22_2, hK⟩ := KS.atQ hK (hK.get m3).slv exb.out
       obtain ⟨xc, exc⟩ : ∃ x, RowKit.Hid (zs[i]? = some x) := ⟨_, hid (List.getElem?_eq_getElem (show i < zs.length from (by have := hzl.out; omega)))⟩
       have i23 : i < ys.length := by have q : i < zs.length := (by have := hzl.out; omega); first | exact q | (simp at q; omega) | omega
       obtain ⟨c23_0, c23_1, c23_2, hK⟩ := KS.atQ hK (hK.get m5).slv exc.out
       go_upto_region 9 with (fail)
       have hK0 := hK.subl (sC (sK (sC (sK (sC (sK (sK (sC sZ))))))))
       refine wp_region_float0 (w) _ _ [0, 0, 0, 0, 0, 0, 1, 0, 0, 0, 0, 0, 1, 2, 0, 4] (by kernel_rfl) (by kernel_rfl) (by kernel_rfl) (by kernel_rfl) (KS.drew hK0) (KS.drew hK) ?_
       clear hK hK0
       iterate 4 (apply lxF0 (wants0 rfl); (· intro w' h0; go_simp; (try go_bits); exact ⟨rfl, rfl⟩); simp only [Act.put, pA, pB, pC])
       apply lxF0 (v := .int .i64 ((2 * i : Nat) : Int)) (wants0 rfl); (· intro w' h0; go_simp; (try go_bits); exact ⟨congrArg _ (by omega), rfl⟩); simp only [Act.put, pA, pB, pC]
       apply lxF0 (wants0 rfl); (· intro w' h0; go_simp; (try go_bits); exact ⟨rfl, rfl⟩); simp only [Act.put, pA, pB, pC]
       apply lxR0 (wants0 rfl); (· intro w' h0 hK; have c_CEL21_0 : w'.cell? ⟨g21, (2 * i) * 3, none⟩ = some (.bool c21_0) := (by have q := (hK.get m4).2 0 _ rfl; simpa using q); have c_CEL21_1 : w'.cell? ⟨g21, (2 * i) * 3 + 1, none⟩ = some (.slice c21_1.p c21_1.l c21_1.c) := (by have q := (hK.get m4).2 1 _ rfl; simpa using q); have c_CEL21_2 : w'.cell? ⟨g21, (2 * i) * 3 + 2, none⟩ = some (.slice c21_2.p c21_2.l c21_2.c) := (by have q := (hK.get m4).2 2 _ rfl; simpa using q); go_simp; (try go_bits); exact ⟨rfl, rfl⟩); simp only [Act.put, pA, pB, pC]
       iterate 2 (apply lxF0 (wants0 rfl); (· intro w' h0; go_simp; (try go_bits); exact ⟨rfl, rfl⟩); simp only [Act.put, pA, pB, pC])
       apply lxF0 (v := .int .i64 ((2 * i : Nat) : Int)) (wants0 rfl); (· intro w' h0; go_simp; (try go_bits); exact ⟨congrArg _ (by omega), rfl⟩); simp only [Act.put, pA, pB, pC]
       apply lxF0 (v := .int .i64 ((2 * i + 1 : Nat) : Int)) (wants0 rfl); (· intro w' h0; go_simp; (try go_bits); exact ⟨congrArg _ (by omega), rfl⟩); simp only [Act.put, pA, pB, pC]
       apply lxF0 (wants0 rfl); (· intro w' h0; go_simp; (try go_bits); exact ⟨rfl, rfl⟩); simp only [Act.put, pA, pB, pC]
       apply lxR0 (wants0 rfl); (· intro w' h0 hK; have c_CEL22_0 : w'.cell? ⟨g21, (2 * i + 1) * 3, none⟩ = some (.bool c22_0) := (by have q := (hK.get m2).2 0 _ rfl; simpa using q); have c_CEL22_1 : w'.cell? ⟨g21, (2 * i + 1) * 3 + 1, none⟩ = some (.slice c22_1.p c22_1.l c22_1.c) := (by have q := (hK.get m2).2 1 _ rfl; simpa using q); have c_CEL22_2 : w'.cell? ⟨g21, (2 * i + 1) * 3 + 2, none⟩ = some (.slice c22_2.p c22_2.l c22_2.c) := (by have q := (hK.get m2).2 2 _ rfl; simpa using q); go_simp; (try go_bits); exact ⟨rfl, rfl⟩); simp only [Act.put, pA, pB, pC]
       apply lxE1 (α := Duo Sl Sl) (fun sv => .agg #[.bool (isN (xa + xb)), .slice sv.a.p sv.a.l sv.a.c, .slice sv.b.p sv.b.l sv.b.c]) (fun sv => [fun w => RatV w (.agg #[.bool (isN (xa + xb)), .slice sv.a.p sv.a.l sv.a.c, .slice sv.b.p sv.b.l sv.b.c]) (xa + xb), fun w => NatV w (.agg #[.slice sv.a.p sv.a.l sv.a.c]) ((xa + xb).num.natAbs), fun w => NatV w (.agg #[.slice sv.b.p sv.b.l sv.b.c]) (den0 (xa + xb))]) (wants0 rfl)
       · intro f1 l1 hl1 w' h0 hK; go_simp; (try go_bits); refine (qadd_any (.agg #[.bool c21_0, .slice c21_1.p c21_1.l c21_1.c, .slice c21_2.p c21_2.l c21_2.c]) (.agg #[.bool c22_0, .slice c22_1.p c22_1.l c22_1.c, .slice c22_2.p c22_2.l c22_2.c]) xa xb w' (hK.get m5) (hK.get m3) (hh.out.lm hlm.out (by omega) exa.out) (hh.out.lm hlm.out (by omega) exb.out) (by decide)).mono ?_; rintro e w5 ⟨y0, rfl, u0, hb⟩; obtain ⟨rfl, rfl⟩ := hl1.out; have u0_0 := u0; obtain ⟨p_u0, l_u0, c_u0, q_u0, m_u0, d_u0, rfl, u0_1, u0_2⟩ := u0; exact ⟨_, rfl, (⟨⟨p_u0, l_u0, c_u0⟩, ⟨q_u0, m_u0, d_u0⟩⟩ : Duo Sl Sl), rfl, hb, .cons (fun w2 h2 => u0_0.below h2) (.cons (fun w2 h2 => u0_1.below h2) (.cons (fun w2 h2 => u0_2.below h2) (Lasts.nil _)))⟩
       intro sv24
       simp only [Act.put, pA, pB, pC, pD, pE]
       apply lxF0 (wants0 rfl); (· intro w' h0; go_simp; (try go_bits); exact ⟨rfl, rfl⟩); simp only [Act.put, pA, pB, pC]
       apply lxS1 [fun w => RatV w (.agg #[.bool (isN (xa + xb)), .slice sv24.a.p sv24.a.l sv24.a.c, .slice sv24.b.p sv24.b.l sv24.b.c]) (xa + xb), fun w => NatV w (.agg #[.slice sv24.a.p sv24.a.l sv24.a.c]) ((xa + xb).num.natAbs), fun w => NatV w (.agg #[.slice sv24.b.p sv24.b.l sv24.b.c]) (den0 (xa + xb)), fun w => RatV w (.agg #[.bool c23_0, .slice c23_1.p c23_1.l c23_1.c, .slice c23_2.p c23_2.l c23_2.c]) xc, fun w => RatV w (.agg #[.bool c22_0, .slice c22_1.p c22_1.l c22_1.c, .slice c22_2.p c22_2.l c22_2.c]) xb, fun w => RatV w (.agg #[.bool c21_0, .slice c21_1.p c21_1.l c21_1.c, .slice c21_2.p c21_2.l c21_2.c]) xa, Has w.heap.size R1 (.cells #[.bool false, .slice none 0 0, .slice none 0 0] 29), fun w1 => OwV ratK 29 w.heap.size w1 (.slice (some ⟨g21, 0, none⟩) ys.length c) (zs.set i (xa + xb))] (wants0 rfl)
       · intro g0 l1 hl1; intro w' h0 hK; have k_g := (hK.get m10); have f_g := k_g.fz; have ni := k_g.hd (List.ne_nil_of_length_pos (Nat.lt_of_le_of_lt (Nat.zero_le _) (show i < zs.length from (by have := hzl.out; omega)))) ratK_hd; have c_CEL23_0 : w'.cell? ⟨g21, i * 3, none⟩ = some (.bool c23_0) := (by have q := (hK.get m3).2 0 _ rfl; simpa using q); have c_CEL23_1 : w'.cell? ⟨g21, i * 3 + 1, none⟩ = some (.slice c23_1.p c23_1.l c23_1.c) := (by have q := (hK.get m3).2 1 _ rfl; simpa using q); have c_CEL23_2 : w'.cell? ⟨g21, i * 3 + 2, none⟩ = some (.slice c23_2.p c23_2.l c23_2.c) := (by have q := (hK.get m3).2 2 _ rfl; simpa using q); go_simp; obtain ⟨rfl, rfl⟩ := hl1.out; exact ⟨rfl, ks_put (R := g21) h0 (k_g.block rfl).1 (i * 3) [.bool (isN (xa + xb)), .slice sv24.a.p sv24.a.l sv24.a.c, .slice sv24.b.p sv24.b.l sv24.b.c] (al1 (spQ ni (h0.get m0)) (al1 (spQ ni (h0.get m1)) (al1 (spQ ni (h0.get m2)) (al1 (spE (fun e => hp (congrArg some e.symm)) (h0.get m3)) aN)))), ks_put (R := g21) hK (k_g.block rfl).1 (i * 3) [.bool (isN (xa + xb)), .slice sv24.a.p sv24.a.l sv24.a.c, .slice sv24.b.p sv24.b.l sv24.b.c] (al1 (spQ ni (hK.get m0)) (al1 (spN ni (hK.get m1)) (al1 (spN ni (hK.get m2)) (al1 (spQ ni (hK.get m4)) (al1 (spQ ni (hK.get m6)) (al1 (spQ ni (hK.get m8)) (al1 (spE (fun e => hp (congrArg some e.symm)) (hK.get m9)) (al1 (k_g.put ⟨_, _, _, rfl, (hK.get m0)⟩ (show i < zs.length from (by have := hzl.out; omega))) aN))))))))⟩
       simp only [Act.put]
       refine lxEnd (fun W25 hK => ?_)
       (try go_wp2)
       go_roundw
       case rel => exact ⟨i + 1, zs.set i (xa + xb), (by first | rfl | go_num), (by omega), (hid (hh.out.step exa.out exb.out)), ⟨hK.old, (al1 (hK.all _ m6) (al1 (hK.all _ m7) aN))⟩⟩
       case measure => simp [intOf]; omega
  · --
   go_upto_region 2 with (fail)
   refine wp_region_tx w hK ?_
   clear hK
   apply txF (wants0 rfl); (· intro w' hK; go_simp; (try go_bits); exact ⟨rfl, rfl⟩); simp only [Act.put, pA, pB, pC]
   apply txU 0 (Has w.heap.size R1 (.cells #[.bool false, .slice none 0 0, .slice none 0 0] 29)) (wants0 rfl)
   · intro l1 hl1 w' hK; have k_R1 := (hK.get m0); have ⟨c_R1_0, c_R1_1, c_R1_2⟩ := k_R1.c3; have f_R1 := k_R1.fz; go_simp; obtain rfl := hl1.out; exact ⟨rfl, ks_put (R := R1) hK k_R1.1 0 [.bool false, .slice none 0 0, .slice none 0 0] (al1 (fun _ => has_put k_R1 _ _) aN)⟩
   simp only [Act.put, pB]
   refine txEnd (fun W26 hK => ?_)
   have k_R1 := (hK.get m0); have ⟨c_R1_0, c_R1_1, c_R1_2⟩ := k_R1.c3
   go_wp2
   exact bodyPost_ret (v := .agg #[.bool false, .slice none 0 0, .slice none 0 0]) (by simp [results, Tryz.results49, go_sem, c_R1_0, c_R1_1, c_R1_2]) rfl ((by obtain rfl := hQ0.out; exact ⟨_, rfl, (by have q := hb1.out; obtain rfl : xs = [] := (by simpa using q); exact RatV.zero _), hK.old⟩))
end Go.Proofs.YtiilkcdefpmimaaGreatDoor
