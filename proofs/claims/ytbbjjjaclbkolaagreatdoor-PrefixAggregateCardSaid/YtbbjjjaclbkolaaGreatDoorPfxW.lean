/- The reference's aggregate walked. -/
import Derived.Test.YtbbjjjaclbkolaaGreatDoorPfxX
namespace Go.Proofs.YtbbjjjaclbkolaaGreatDoor
open Go.RowKit
open Go.Lib (decDigits)
set_option maxRecDepth 100000 in
set_option maxHeartbeats 1000000 in
theorem within_any (v0 : Value) (xs : List Pf) (a : Nat) (n : Int) (w : World) (h0 : SlV pfxK w v0 xs) (ha : W32 a) (hw : ∀ p ∈ xs, W32 p.1) (hx : xs.length ≤ 1000) :
    Calls Tryz.prog 36 #[v0, .agg #[.int .u32 (a : Int), .int .i64 n]] w fun e w' => ∃ y0, e = .returned (.tuple #[y0, .bool (anyC xs (a, n))]) ∧ OwV pfxK 31 w.heap.size w' y0 (wiF xs (a, n)) ∧ Below w.heap.size w w' := by
  have h0_0 := h0; obtain ⟨p_h0, c_h0, rfl, n_h0⟩ := h0.sh
  have hK : KS w [] w := (KS.start w)
  refine Calls.hide (fun Q0 hQ0 => ?_)
  go_enter Tryz.func36, Tryz.ntmps36
  go_upto_region 0 with (fail)
  refine wp_region_tx w hK ?_
  clear hK
  apply txA (.cells #[.int .u32 (a : Int), .int .i64 n] 31) (wants0 rfl)
  · intro w' hK; go_simp; rfl
  intro R1 q_R1
  clear q_R1
  simp only [mkOf, Act.put, pA, pB, pC]
  iterate 2 (apply txF (wants0 rfl); (· intro w' hK; go_simp; (try go_bits); exact ⟨rfl, rfl⟩); simp only [Act.put, pA, pB, pC])
  refine txEnd (fun W2 hK => ?_)
  go_wp2_with fail
  go_loopw [6, 7] (fun s6 s7 wl => ∃ (i : Nat) (p : Option Addr) (c : Nat) (ys : List Pf), s6 = .slice p ys.length c ∧ s7 = .int .i64 (i : Int) ∧ (i ≤ xs.length) ∧ (ys.length ≤ i) ∧ RowKit.Hid (ys = allC (xs.take i) (a, n)) ∧ RowKit.Hid (anyC (xs.take i) (a, n) = false) ∧ (ob p ≠ some R1) ∧ KS w [Has w.heap.size R1 (.cells #[.int .u32 (a : Int), .int .i64 n] 31), fun w1 => OwV pfxK 31 w.heap.size w1 (.slice p ys.length c) ys] wl) (fun s6 s7 _ => xs.length - (intOf s7).toNat)
  case atStart => exact ⟨0, none, 0, [], rfl, rfl, (by omega), (Nat.le_refl 0), (hid rfl), (hid rfl), (by intro e; cases e), ⟨hK.old, (al1 (hK.all _ m0) (al1 (fun w' _ => OwV.nil) aN))⟩⟩
  case round =>
   clear hK
   obtain ⟨i, p, c, ys, rfl, rfl, hi, hyl, hy, hn, hb, hK⟩ := hrel
   generalize wr = W3 at hK ⊢
   go_upto_region 3 with (fail)
   refine wp_region_tx w hK ?_
   clear hK
   iterate 3 (apply txF (wants0 rfl); (· intro w' hK; go_simp; (try go_bits); exact ⟨rfl, rfl⟩); simp only [Act.put, pA, pB, pC])
   obtain ⟨b1, hb1⟩ : ∃ b : Bool, RowKit.Hid (decide (((i : Int)) < ((xs.length : Int))) = b) := ⟨_, hid rfl⟩
   apply txB b1 (wants0 rfl); (· intro w' hK; go_simp; (try go_bits); exact ⟨by have q := hb1.out; subst q; first | rfl | simp, rfl⟩); simp only [Act.put, pA, pB, pC]
   refine txEnd (fun W4 hK => ?_)
   cases b1
   · --
    have q_b1 : ((xs.length : Int)) ≤ ((i : Int)) := Int.not_lt.1 (of_decide_eq_false hb1.out)
    have hall : xs.take i = xs := List.take_of_length_le (by omega)
    have hat : anyC xs (a, n) = false := by have q := hn.out; rwa [hall] at q
    go_wp2
    try go_ret
    show Q0 (.returned (.tuple #[.slice p ys.length c, .bool false])) _
    exact (by obtain rfl := hQ0.out; exact ⟨.slice p ys.length c, (by rw [hat]), (Eq.mp (congrArg (OwV pfxK 31 w.heap.size _ _) (show ys = wiF xs (a, n) from (by rw [wiF_f hat, hy.out, hall]))) (hK.get m1)), hK.old⟩)
   · --
    have q_b1 : ((i : Int)) < ((xs.length : Int)) := of_decide_eq_true hb1.out
    obtain ⟨x5, ex5⟩ : ∃ x, RowKit.Hid (xs[i]? = some x) := ⟨_, hid (List.getElem?_eq_getElem (show i < xs.length from (by omega)))⟩
    have i5 : i < xs.length := by have q : i < xs.length := (by omega); first | exact q | (simp at q; omega) | omega
    obtain ⟨g5, o5, q5, l5⟩ := (h0_0).ptr ex5.out
    subst q5
    replace hK := KS.atP hK (h0_0.below hK.old) ex5.out
    have w5 := hw _ (List.mem_of_getElem? ex5.out)
    go_upto_region 5 with (fail)
    have hK0 := hK
    refine wp_region_float0 (w) _ _ [0, 0, 0, 0, 0, 1] (by kernel_rfl) (by kernel_rfl) (by kernel_rfl) (by kernel_rfl) (KS.drew hK0) (KS.drew hK) ?_
    clear hK hK0
    iterate 3 (apply lxF0 (wants0 rfl); (· intro w' h0; go_simp; (try go_bits); exact ⟨rfl, rfl⟩); simp only [Act.put, pA, pB, pC])
    apply lxF0 (wants0 rfl); (· intro w' h0; have c_CEL5_0 : w'.cell? ⟨g5, o5 + i * 2, none⟩ = some (.int .u32 (x5.1 : Int)) := (by have q := (h0.get m0).2 0 _ rfl; simpa using q); have c_CEL5_1 : w'.cell? ⟨g5, o5 + i * 2 + 1, none⟩ = some (.int .i64 x5.2) := (by have q := (h0.get m0).2 1 _ rfl; simpa using q); go_simp; (try go_bits); exact ⟨rfl, rfl⟩); simp only [Act.put, pA, pB, pC]
    apply lxF0 (wants0 rfl); (· intro w' h0; have k_R1 := (h0.get m1); have ⟨c_R1_0, c_R1_1⟩ := k_R1.c2; go_simp; (try go_bits); exact ⟨rfl, rfl⟩); simp only [Act.put, pA, pB, pC]
    obtain ⟨b2, hb2⟩ : ∃ b : Bool, RowKit.Hid ((cvr x5.1 x5.2 a n) = b) := ⟨_, hid rfl⟩
    apply lxH1 (v := .bool b2) (wants0 rfl)
    · intro v1 hv1 w' h0 hK; go_simp; (try go_bits); refine (rcovers_any x5.1 x5.2 a n w' (by first | assumption | omega | exact W32.zero) (by first | assumption | omega | exact W32.zero)).mono ?_; rintro e w5 ⟨rfl, hb⟩; obtain rfl := hv1.out; exact ⟨_, rfl, (by rw [hb2.out]), hb⟩
    simp only [Act.put, pA, pB, pC]
    refine lxEnd (fun W6 hK => ?_)
    cases b2
    · --
     go_upto_region 7 with (fail)
     have hK0 := hK
     refine wp_region_float0 (w) _ _ [0, 0, 0, 0, 0, 1] (by kernel_rfl) (by kernel_rfl) (by kernel_rfl) (by kernel_rfl) (KS.drew hK0) (KS.drew hK) ?_
     clear hK hK0
     apply lxF0 (wants0 rfl); (· intro w' h0; have k_R1 := (h0.get m1); have ⟨c_R1_0, c_R1_1⟩ := k_R1.c2; go_simp; (try go_bits); exact ⟨rfl, rfl⟩); simp only [Act.put, pA, pB, pC]
     iterate 3 (apply lxF0 (wants0 rfl); (· intro w' h0; go_simp; (try go_bits); exact ⟨rfl, rfl⟩); simp only [Act.put, pA, pB, pC])
     apply lxF0 (wants0 rfl); (· intro w' h0; have c_CEL5_0 : w'.cell? ⟨g5, o5 + i * 2, none⟩ = some (.int .u32 (x5.1 : Int)) := (by have q := (h0.get m0).2 0 _ rfl; simpa using q); have c_CEL5_1 : w'.cell? ⟨g5, o5 + i * 2 + 1, none⟩ = some (.int .i64 x5.2) := (by have q := (h0.get m0).2 1 _ rfl; simpa using q); go_simp; (try go_bits); exact ⟨rfl, rfl⟩); simp only [Act.put, pA, pB, pC]
     obtain ⟨b3, hb3⟩ : ∃ b : Bool, RowKit.Hid ((cvr a n x5.1 x5.2) = b) := ⟨_, hid rfl⟩
     apply lxH1 (v := .bool b3) (wants0 rfl)
     · intro v1 hv1 w' h0 hK; go_simp; (try go_bits); refine (rcovers_any a n x5.1 x5.2 w' (by first | assumption | omega | exact W32.zero) (by first | assumption | omega | exact W32.zero)).mono ?_; rintro e w5 ⟨rfl, hb⟩; obtain rfl := hv1.out; exact ⟨_, rfl, (by rw [hb3.out]), hb⟩
     simp only [Act.put, pA, pB, pC]
     refine lxEnd (fun W7 hK => ?_)
     cases b3
     · --
      (try go_wp2)
      go_roundw
      case rel => exact ⟨i + 1, p, c, ys, (by first | rfl | go_num), (by first | rfl | go_num), (by omega), (by omega), (hid (allC_out hy.out ex5.out hb3.out)), (hid (anyC_step hn.out ex5.out hb2.out)), hb, ⟨hK.old, (al1 (hK.all _ m1) (al1 (hK.all _ m2) aN))⟩⟩
      case measure => simp [intOf]; omega
     · --
      go_upto_region 8 with (fail)
      refine wp_region_tx w hK ?_
      clear hK
      iterate 4 (apply txF (wants0 rfl); (· intro w' hK; go_simp; (try go_bits); exact ⟨rfl, rfl⟩); simp only [Act.put, pA, pB, pC])
      apply txF (wants0 rfl); (· intro w' hK; have c_CEL5_0 : w'.cell? ⟨g5, o5 + i * 2, none⟩ = some (.int .u32 (x5.1 : Int)) := (by have q := (hK.get m0).2 0 _ rfl; simpa using q); have c_CEL5_1 : w'.cell? ⟨g5, o5 + i * 2 + 1, none⟩ = some (.int .i64 x5.2) := (by have q := (hK.get m0).2 1 _ rfl; simpa using q); go_simp; (try go_bits); exact ⟨rfl, rfl⟩); simp only [Act.put, pA, pB, pC]
      apply txA2 (.cells #[.int .u32 (x5.1 : Int), .int .i64 x5.2] 31) (wants0 rfl)
      · intro w' hK; go_simp; rfl
      intro R8 q_R8
      have o_R1_R8 : R1 < R8 := q_R8.box m1
      have n9 : ob p ≠ some R8 := q_R8.row m2
      clear q_R8
      simp only [mkOf, Act.put, pA, pB, pC]
      refine txApp (K := pfxK) (t := 31) (xs := ys) (ys := [x5]) (.tmp 26) (.tmp 31) (wants0 rfl) (by rfl) Tryz.underlying22 Tryz.underlying22 infoPf rfl (by rfl) (by rfl) (by simp [maxLen]; omega) (by simp; omega) (fun r => [Has w.heap.size R8 (.cells #[.int .u32 (x5.1 : Int), .int .i64 x5.2] 31), Has w.heap.size R1 (.cells #[.int .u32 (a : Int), .int .i64 n] 31), fun _ => ob r ≠ some R8, fun _ => ob r ≠ some R1]) (fun w' hK => ⟨(hK.get m3), (fun _ _ => .inl pfxK_free), (SlV.one (hK.get m0) rfl (Nat.le_refl 1) (by decide))⟩) (fun w' r hK hr => (al1 (gwH (hK.get m0) n9) (al1 (gwH (hK.get m2) hb) (al1 (gwC (apb hr n9 ((hK.get m0)).ltS)) (al1 (gwC (apb hr hb ((hK.get m2)).ltS)) aN))))) ?_
      intro sv10
      rw [(show ys ++ [x5] = addP ys x5 from rfl)]
      simp only [Act.put, pA, pB, pC]
      refine Tx.know (Pr := ob sv10.p ≠ some R8) (fun w' hK => hK.get m3) (fun n11 => ?_)
      refine Tx.know (Pr := ob sv10.p ≠ some R1) (fun w' hK => hK.get m4) (fun n12 => ?_)
      apply txF (wants0 rfl); (· intro w' hK; go_simp; (try go_bits); exact ⟨rfl, rfl⟩); simp only [Act.put, pA, pB, pC]
      refine txEnd (fun W13 hK => ?_)
      (try go_wp2)
      go_roundw
      case rel => exact ⟨i + 1, sv10.p, sv10.c, (addP ys x5), (by first | rfl | go_num), (by first | rfl | go_num), (by omega), (by rw [addP_len]; omega), (hid (allC_in hy.out ex5.out hb3.out)), (hid (anyC_step hn.out ex5.out hb2.out)), n12, ⟨hK.old, (al1 (hK.all _ m2) (al1 (hK.all _ m0) aN))⟩⟩
      case measure => simp [intOf]; omega
    · --
     go_wp2
     try go_ret
     show Q0 (.returned (.tuple #[.slice none 0 0, .bool true])) _
     exact (by obtain rfl := hQ0.out; exact ⟨.slice none 0 0, (by rw [anyC_hit (p := (a, n)) ex5.out hb2.out]), (by rw [wiF_t (anyC_hit (p := (a, n)) ex5.out hb2.out)]; exact OwV.nil), hK.old⟩)
set_option maxRecDepth 100000 in
set_option maxHeartbeats 1000000 in
theorem raggregate_step (v0 : Value) (xs : List Pf) (a : Nat) (n : Int) (w : World) (h0 : SlV pfxK w v0 xs) (d : Nat) (hl : AllOk xs) (hp : OkP (a, n)) (hn : n = 32 - (d : Int)) (hx : xs.length ≤ 1000) (ih : ∀ d1, d = d1 + 1 → ∀ (v1 : Value) (xs : List Pf) (a : Nat) (w1 : World), SlV pfxK w1 v1 xs → AllOk xs → OkP (a, n + 1) → xs.length ≤ 1000 → Calls Tryz.prog 19 #[v1, .agg #[.int .u32 (a : Int), .int .i64 (n + 1)]] w1 fun e w' => ∃ y0, e = .returned (.tuple #[y0, .bool (fulB (InL xs) d1 a)]) ∧ OwV pfxK 31 w1.heap.size w' y0 (canL (InL xs) d1 a) ∧ Below w1.heap.size w1 w') :
    Calls Tryz.prog 19 #[v0, .agg #[.int .u32 (a : Int), .int .i64 n]] w fun e w' => ∃ y0, e = .returned (.tuple #[y0, .bool (fulB (InL xs) d a)]) ∧ OwV pfxK 31 w.heap.size w' y0 (canL (InL xs) d a) ∧ Below w.heap.size w w' := by
  have h0_0 := h0; obtain ⟨p_h0, c_h0, rfl, n_h0⟩ := h0.sh
  have hK : KS w [] w := (KS.start w)
  have hw : ∀ p ∈ xs, W32 p.1 := fun p h => (hl p h).1
  replace hn := hid hn
  refine Calls.hide (fun Q0 hQ0 => ?_)
  go_enter Tryz.func19, Tryz.ntmps19
  go_upto_region 0 with (fail)
  refine wp_region_tx w hK ?_
  clear hK
  apply txA (.cells #[.int .u32 (a : Int), .int .i64 n] 31) (wants0 rfl)
  · intro w' hK; go_simp; rfl
  intro R1 q_R1
  clear q_R1
  simp only [mkOf, Act.put, pA, pB, pC]
  iterate 2 (apply txF (wants0 rfl); (· intro w' hK; go_simp; (try go_bits); exact ⟨rfl, rfl⟩); simp only [Act.put, pA, pB, pC])
  refine txEnd (fun W2 hK => ?_)
  go_upto_region 1 with (fail)
  refine wp_region_tx w hK ?_
  clear hK
  apply txF (wants0 rfl); (· intro w' hK; go_simp; (try go_bits); exact ⟨rfl, rfl⟩); simp only [Act.put, pA, pB, pC]
  apply txF (wants0 rfl); (· intro w' hK; have k_R1 := (hK.get m0); have ⟨c_R1_0, c_R1_1⟩ := k_R1.c2; go_simp; (try go_bits); exact ⟨rfl, rfl⟩); simp only [Act.put, pA, pB, pC]
  obtain ⟨b1, hb1⟩ : ∃ b : Bool, RowKit.Hid ((anyC xs (a, n)) = b) := ⟨_, hid rfl⟩
  apply txE (α := Sl) (fun sv => .tuple #[.slice sv.p (wiF xs (a, n)).length sv.c, .bool b1]) (fun sv => [fun w1 => OwV pfxK 31 w.heap.size w1 (.slice sv.p (wiF xs (a, n)).length sv.c) (wiF xs (a, n)), fun _ => ob sv.p ≠ some R1]) (wants0 rfl)
  · intro f1 l1 hl1 w' hK; go_simp; (try go_bits); refine (within_any (.slice p_h0 xs.length c_h0) xs a n w' (h0_0.below hK.old) hp.1 hw hx).mono ?_; rintro e w5 ⟨y0, rfl, u0, hb⟩; obtain ⟨rfl, rfl⟩ := hl1.out; have u0_0 := u0; obtain ⟨p_u0, c_u0, rfl, n_u0⟩ := u0.sh; exact ⟨_, rfl, (⟨p_u0, 0, c_u0⟩ : Sl), (by rw [hb1.out]), hb, .cons (fun w2 h2 => (u0_0.mono hK.old.size).below h2) (.cons (fun _ _ => fun e => absurd (u0_0.block e).1 (Nat.not_le.2 ((hK.get m0)).ltS)) (Lasts.nil _))⟩
  rintro ⟨sv3_p, sv3_l, sv3_c⟩
  simp only [Act.put, pA, pB, pC, pD, pE]
  refine Tx.know (Pr := ob sv3_p ≠ some R1) (fun w' hK => hK.get m1) (fun n4 => ?_)
  iterate 3 (apply txF (wants0 rfl); (· intro w' hK; go_simp; (try go_bits); exact ⟨rfl, rfl⟩); simp only [Act.put, pA, pB, pC])
  apply txF (wants0 rfl); (· intro w' hK; go_simp; (try go_bits); exact ⟨rfl, rfl⟩); simp only [Act.put, pA, pB]
  apply txF (wants0 rfl); (· intro w' hK; go_simp; (try go_bits); exact ⟨rfl, rfl⟩); simp only [Act.put, pA, pB, pC]
  refine txEnd (fun W5 hK => ?_)
  cases b1
  · --
   go_upto_region 4 with (fail)
   refine wp_region_tx w hK ?_
   clear hK
   iterate 2 (apply txF (wants0 rfl); (· intro w' hK; go_simp; (try go_bits); exact ⟨rfl, rfl⟩); simp only [Act.put, pA, pB, pC])
   obtain ⟨b2, hb2⟩ : ∃ b : Bool, RowKit.Hid (((((wiF xs (a, n)).length : Int)) == 0) = b) := ⟨_, hid rfl⟩
   apply txB b2 (wants0 rfl); (· intro w' hK; go_simp; (try go_bits); exact ⟨by have q := hb2.out; subst q; first | rfl | simp, rfl⟩); simp only [Act.put, pA, pB, pC]
   refine txEnd (fun W6 hK => ?_)
   cases b2
   · --
    have hnf := hid hb1.out
    have hne : wiF xs (a, n) ≠ [] := fun e => by have q := hb2.out; rw [e] at q; simp at q
    have hn32 : n < 32 := agg_pos hl hp hnf.out (by have q := hne; rwa [wiF_f hnf.out] at q)
    obtain ⟨d1, rfl⟩ : ∃ d1, d = d1 + 1 := ⟨d - 1, by have := hn.out; omega⟩
    have hn1 : n = 32 - ((d1 + 1 : Nat) : Int) := hn.out
    have hh := half_ok hp hn32 hn1
    have hd1 : d1 + 1 ≤ 32 := by have := hp.lo; simp only at this; omega
    have qlo := agg_lo hl hd1 hn1 hp hnf.out
    have qhi := agg_hi hl hd1 hn1 hp hnf.out
    rw [← wiF_f hnf.out] at qlo qhi
    have hwl := wiF_len xs (a, n)
    have hwo : AllOk (wiF xs (a, n)) := by rw [wiF_f hnf.out]; exact allC_ok hl
    have hlo : ∀ (v1 : Value) (w1 : World), SlV pfxK w1 v1 (wiF xs (a, n)) → Calls Tryz.prog 19 #[v1, .agg #[.int .u32 (a : Int), .int .i64 (n + 1)]] w1 fun e w' => ∃ y0, e = .returned (.tuple #[y0, .bool (fulB (InL xs) d1 a)]) ∧ OwV pfxK 31 w1.heap.size w' y0 (canL (InL xs) d1 a) ∧ Below w1.heap.size w1 w' := fun v1 w1 hs => by
        have q := ih d1 rfl v1 (wiF xs (a, n)) a w1 hs hwo hh.1 (by omega)
        rwa [qlo.1, qlo.2] at q
    have hhi : ∀ (v1 : Value) (w1 : World), SlV pfxK w1 v1 (wiF xs (a, n)) → Calls Tryz.prog 19 #[v1, .agg #[.int .u32 ((a + 2 ^ d1 : Nat) : Int), .int .i64 (n + 1)]] w1 fun e w' => ∃ y0, e = .returned (.tuple #[y0, .bool (fulB (InL xs) d1 (a + 2 ^ d1))]) ∧ OwV pfxK 31 w1.heap.size w' y0 (canL (InL xs) d1 (a + 2 ^ d1)) ∧ Below w1.heap.size w1 w' := fun v1 w1 hs => by
        have q := ih d1 rfl v1 (wiF xs (a, n)) (a + 2 ^ d1) w1 hs hwo hh.2.1 (by omega)
        rwa [qhi.1, qhi.2] at q
    replace qlo := hid qlo; replace qhi := hid qhi; replace hn1 := hid hn1; replace hh := hid hh
    have l1 := canL_len32 (InL xs) a (show d1 ≤ 31 by omega); have l2 := canL_len32 (InL xs) (a + 2 ^ d1) (show d1 ≤ 31 by omega)
    go_upto_region 6 with (fail)
    refine wp_region_tx w hK ?_
    clear hK
    apply txF (wants0 rfl); (· intro w' hK; have k_R1 := (hK.get m2); have ⟨c_R1_0, c_R1_1⟩ := k_R1.c2; go_simp; (try go_bits); exact ⟨rfl, rfl⟩); simp only [Act.put, pA, pB, pC]
    apply txH (v := .tuple #[.agg #[.int .u32 (a : Int), .int .i64 (n + 1)], .agg #[.int .u32 ((a + 2 ^ d1 : Nat) : Int), .int .i64 (n + 1)], .int .i64 0]) (wants0 rfl)
    · intro v1 hv1 w' hK; go_simp; (try go_bits); refine (split_half a n d1 w' hp hn32 hn1.out).mono ?_; rintro e w5 ⟨rfl, hb⟩; obtain rfl := hv1.out; exact ⟨_, rfl, rfl, hb⟩
    simp only [Act.put, pA, pB, pC]
    iterate 4 (apply txF (wants0 rfl); (· intro w' hK; go_simp; (try go_bits); exact ⟨rfl, rfl⟩); simp only [Act.put, pA, pB, pC])
    apply txA2 (.cells #[.int .u32 0, .int .i64 0] 31) (wants0 rfl)
    · intro w' hK; go_simp; rfl
    intro R7 q_R7
    have o_R1_R7 : R1 < R7 := q_R7.box m2
    have n8 : ob sv3_p ≠ some R7 := q_R7.row m0
    clear q_R7
    simp only [mkOf, Act.put, pA, pB, pC]
    apply txA2 (.cells #[.int .u32 0, .int .i64 0] 31) (wants0 rfl)
    · intro w' hK; go_simp; rfl
    intro R9 q_R9
    have o_R1_R9 : R1 < R9 := q_R9.box m3
    have o_R7_R9 : R7 < R9 := q_R9.box m0
    have n10 : ob sv3_p ≠ some R9 := q_R9.row m1
    clear q_R9
    simp only [mkOf, Act.put, pA, pB, pC]
    apply txU 1 (Has w.heap.size R7 (.cells #[.int .u32 (a : Int), .int .i64 (n + 1)] 31)) (wants0 rfl)
    · intro l1 hl1 w' hK; have k_R7 := (hK.get m1); have ⟨c_R7_0, c_R7_1⟩ := k_R7.c2; have f_R7 := k_R7.fz; go_simp; obtain rfl := hl1.out; exact ⟨rfl, ks_put (R := R7) hK k_R7.1 0 [.int .u32 (a : Int), .int .i64 (n + 1)] (al1 (spG o_R7_R9 (hK.get m0)) (al1 (fun _ => has_put k_R7 _ _) (al1 (spO n8 (.inl pfxK_free) (hK.get m2)) (al1 (fun _ _ => (hK.get m3)) (al1 (spL o_R1_R7 (hK.get m4)) aN)))))⟩
    simp only [Act.put, pB, pC]
    apply txU 0 (Has w.heap.size R9 (.cells #[.int .u32 ((a + 2 ^ d1 : Nat) : Int), .int .i64 (n + 1)] 31)) (wants0 rfl)
    · intro l1 hl1 w' hK; have k_R9 := (hK.get m0); have ⟨c_R9_0, c_R9_1⟩ := k_R9.c2; have f_R9 := k_R9.fz; go_simp; obtain rfl := hl1.out; exact ⟨rfl, ks_put (R := R9) hK k_R9.1 0 [.int .u32 ((a + 2 ^ d1 : Nat) : Int), .int .i64 (n + 1)] (al1 (fun _ => has_put k_R9 _ _) (al1 (spL o_R7_R9 (hK.get m1)) (al1 (spO n10 (.inl pfxK_free) (hK.get m2)) (al1 (fun _ _ => (hK.get m3)) (al1 (spL o_R1_R9 (hK.get m4)) aN)))))⟩
    simp only [Act.put, pB]
    apply txF (wants0 rfl); (· intro w' hK; go_simp; (try go_bits); exact ⟨rfl, rfl⟩); simp only [Act.put, pA, pB, pC]
    refine txEnd (fun W11 hK => ?_)
    go_upto_region 7 with (fail)
    refine wp_region_tx w hK ?_
    clear hK
    apply txF (wants0 rfl); (· intro w' hK; go_simp; (try go_bits); exact ⟨rfl, rfl⟩); simp only [Act.put, pA, pB, pC]
    apply txF (wants0 rfl); (· intro w' hK; have k_R7 := (hK.get m1); have ⟨c_R7_0, c_R7_1⟩ := k_R7.c2; go_simp; (try go_bits); exact ⟨rfl, rfl⟩); simp only [Act.put, pA, pB, pC]
    obtain ⟨b3, hb3⟩ : ∃ b : Bool, RowKit.Hid ((fulB (InL xs) d1 a) = b) := ⟨_, hid rfl⟩
    apply txE (α := Sl) (fun sv => .tuple #[.slice sv.p (canL (InL xs) d1 a).length sv.c, .bool b3]) (fun sv => [fun w1 => OwV pfxK 31 w.heap.size w1 (.slice sv.p (canL (InL xs) d1 a).length sv.c) (canL (InL xs) d1 a), fun _ => ob sv.p ≠ some R1, fun _ => ob sv.p ≠ some R7, fun _ => ob sv.p ≠ some R9, fun _ => ∀ g, ob sv.p = some g → ob sv3_p ≠ some g]) (wants0 rfl)
    · intro f1 l1 hl1 w' hK; go_simp; (try go_bits); refine (hlo (.slice sv3_p (wiF xs (a, n)).length sv3_c) w' (hK.get m2).slv).mono ?_; rintro e w5 ⟨y0, rfl, u0, hb⟩; obtain ⟨rfl, rfl⟩ := hl1.out; have u0_0 := u0; obtain ⟨p_u0, c_u0, rfl, n_u0⟩ := u0.sh; exact ⟨_, rfl, (⟨p_u0, 0, c_u0⟩ : Sl), (by rw [hb3.out]), hb, .cons (fun w2 h2 => (u0_0.mono hK.old.size).below h2) (.cons (fun _ _ => fun e => absurd (u0_0.block e).1 (Nat.not_le.2 ((hK.get m4)).ltS)) (.cons (fun _ _ => fun e => absurd (u0_0.block e).1 (Nat.not_le.2 ((hK.get m1)).ltS)) (.cons (fun _ _ => fun e => absurd (u0_0.block e).1 (Nat.not_le.2 ((hK.get m0)).ltS)) (.cons (fun _ _ => fun _ e e2 => absurd (u0_0.block e).1 (Nat.not_le.2 (((hK.get m2)).block e2).2)) (Lasts.nil _)))))⟩
    rintro ⟨sv12_p, sv12_l, sv12_c⟩
    simp only [Act.put, pA, pB, pC, pD, pE]
    refine Tx.know (Pr := ob sv12_p ≠ some R1) (fun w' hK => hK.get m1) (fun n13 => ?_)
    refine Tx.know (Pr := ob sv12_p ≠ some R7) (fun w' hK => hK.get m2) (fun n14 => ?_)
    refine Tx.know (Pr := ob sv12_p ≠ some R9) (fun w' hK => hK.get m3) (fun n15 => ?_)
    refine Tx.know (Pr := ∀ g, ob sv12_p = some g → ob sv3_p ≠ some g) (fun w' hK => hK.get m4) (fun n16 => ?_)
    iterate 5 (apply txF (wants0 rfl); (· intro w' hK; go_simp; (try go_bits); exact ⟨rfl, rfl⟩); simp only [Act.put, pA, pB, pC])
    refine txEnd (fun W17 hK => ?_)
    go_upto_region 8 with (fail)
    refine wp_region_tx w hK ?_
    clear hK
    apply txF (wants0 rfl); (· intro w' hK; go_simp; (try go_bits); exact ⟨rfl, rfl⟩); simp only [Act.put, pA, pB, pC]
    apply txF (wants0 rfl); (· intro w' hK; have k_R9 := (hK.get m5); have ⟨c_R9_0, c_R9_1⟩ := k_R9.c2; go_simp; (try go_bits); exact ⟨rfl, rfl⟩); simp only [Act.put, pA, pB, pC]
    obtain ⟨b4, hb4⟩ : ∃ b : Bool, RowKit.Hid ((fulB (InL xs) d1 (a + 2 ^ d1)) = b) := ⟨_, hid rfl⟩
    apply txE (α := Sl) (fun sv => .tuple #[.slice sv.p (canL (InL xs) d1 (a + 2 ^ d1)).length sv.c, .bool b4]) (fun sv => [fun w1 => OwV pfxK 31 w.heap.size w1 (.slice sv.p (canL (InL xs) d1 (a + 2 ^ d1)).length sv.c) (canL (InL xs) d1 (a + 2 ^ d1)), fun _ => ob sv.p ≠ some R1, fun _ => ob sv.p ≠ some R7, fun _ => ob sv.p ≠ some R9, fun _ => ∀ g, ob sv.p = some g → ob sv12_p ≠ some g, fun _ => ∀ g, ob sv.p = some g → ob sv3_p ≠ some g]) (wants0 rfl)
    · intro f1 l1 hl1 w' hK; go_simp; (try go_bits); refine (hhi (.slice sv3_p (wiF xs (a, n)).length sv3_c) w' (hK.get m7).slv).mono ?_; rintro e w5 ⟨y0, rfl, u0, hb⟩; obtain ⟨rfl, rfl⟩ := hl1.out; have u0_0 := u0; obtain ⟨p_u0, c_u0, rfl, n_u0⟩ := u0.sh; exact ⟨_, rfl, (⟨p_u0, 0, c_u0⟩ : Sl), (by rw [hb4.out]), hb, .cons (fun w2 h2 => (u0_0.mono hK.old.size).below h2) (.cons (fun _ _ => fun e => absurd (u0_0.block e).1 (Nat.not_le.2 ((hK.get m9)).ltS)) (.cons (fun _ _ => fun e => absurd (u0_0.block e).1 (Nat.not_le.2 ((hK.get m6)).ltS)) (.cons (fun _ _ => fun e => absurd (u0_0.block e).1 (Nat.not_le.2 ((hK.get m5)).ltS)) (.cons (fun _ _ => fun _ e e2 => absurd (u0_0.block e).1 (Nat.not_le.2 (((hK.get m0)).block e2).2)) (.cons (fun _ _ => fun _ e e2 => absurd (u0_0.block e).1 (Nat.not_le.2 (((hK.get m7)).block e2).2)) (Lasts.nil _))))))⟩
    rintro ⟨sv18_p, sv18_l, sv18_c⟩
    simp only [Act.put, pA, pB, pC, pD, pE]
    refine Tx.know (Pr := ob sv18_p ≠ some R1) (fun w' hK => hK.get m1) (fun n19 => ?_)
    refine Tx.know (Pr := ob sv18_p ≠ some R7) (fun w' hK => hK.get m2) (fun n20 => ?_)
    refine Tx.know (Pr := ob sv18_p ≠ some R9) (fun w' hK => hK.get m3) (fun n21 => ?_)
    refine Tx.know (Pr := ∀ g, ob sv18_p = some g → ob sv12_p ≠ some g) (fun w' hK => hK.get m4) (fun n22 => ?_)
    refine Tx.know (Pr := ∀ g, ob sv18_p = some g → ob sv3_p ≠ some g) (fun w' hK => hK.get m5) (fun n23 => ?_)
    iterate 5 (apply txF (wants0 rfl); (· intro w' hK; go_simp; (try go_bits); exact ⟨rfl, rfl⟩); simp only [Act.put, pA, pB, pC])
    refine txEnd (fun W24 hK => ?_)
    go_upto_region 9 with (fail)
    refine wp_region_tx w hK ?_
    clear hK
    iterate 2 (apply txF (wants0 rfl); (· intro w' hK; go_simp; (try go_bits); exact ⟨rfl, rfl⟩); simp only [Act.put, pA, pB, pC])
    cases b3
    · --
     apply txN (j := 1) (d := 45) (b := true) rfl rfl rfl rfl; simp only [Act.put, pA, pB, pC]
     apply txF (wants0 rfl); (· intro w' hK; go_simp; (try go_bits); exact ⟨rfl, rfl⟩); simp only [Act.put, pA, pB, pC]
     refine txEnd (fun W25 hK => ?_)
     go_upto_region 11 with (fail)
     refine wp_region_tx w hK ?_
     clear hK
     iterate 2 (apply txF (wants0 rfl); (· intro w' hK; go_simp; (try go_bits); exact ⟨rfl, rfl⟩); simp only [Act.put, pA, pB, pC])
     refine txApp (K := pfxK) (t := 31) (xs := canL (InL xs) d1 a) (ys := canL (InL xs) d1 (a + 2 ^ d1)) (.tmp 50) (.tmp 51) (wants0 rfl) (by rfl) Tryz.underlying22 Tryz.underlying22 infoPf rfl (by rfl) (by rfl) (by unfold maxLen; omega) (by omega) (fun r => [fun w1 => OwV pfxK 31 w.heap.size w1 (.slice sv18_p (canL (InL xs) d1 (a + 2 ^ d1)).length sv18_c) (canL (InL xs) d1 (a + 2 ^ d1)), fun _ => ob sv18_p ≠ some R1, fun _ => ob sv18_p ≠ some R7, fun _ => ob sv18_p ≠ some R9, fun _ => ∀ g, ob sv18_p = some g → ob sv12_p ≠ some g, fun _ => ∀ g, ob sv18_p = some g → ob sv3_p ≠ some g, fun _ => ob sv12_p ≠ some R1, fun _ => ob sv12_p ≠ some R7, fun _ => ob sv12_p ≠ some R9, fun _ => ∀ g, ob sv12_p = some g → ob sv3_p ≠ some g, Has w.heap.size R9 (.cells #[.int .u32 ((a + 2 ^ d1 : Nat) : Int), .int .i64 (n + 1)] 31), Has w.heap.size R7 (.cells #[.int .u32 (a : Int), .int .i64 (n + 1)] 31), fun w1 => OwV pfxK 31 w.heap.size w1 (.slice sv3_p (wiF xs (a, n)).length sv3_c) (wiF xs (a, n)), fun _ => ob sv3_p ≠ some R1, Has w.heap.size R1 (.cells #[.int .u32 (a : Int), .int .i64 n] 31), fun _ => ∀ g, ob r = some g → ob sv18_p ≠ some g, fun _ => ob r ≠ some R9, fun _ => ob r ≠ some R7, fun _ => ∀ g, ob r = some g → ob sv3_p ≠ some g, fun _ => ob r ≠ some R1]) (fun w' hK => ⟨(hK.get m6), (fun _ _ => .inl pfxK_free), (hK.get m0).slv⟩) (fun w' r hK hr => (al1 (gwO (hK.get m0) (fun g e1 e2 => n22 g e2 e1) (fun _ _ => .inl pfxK_free)) (al1 (gwC (hK.get m1)) (al1 (gwC (hK.get m2)) (al1 (gwC (hK.get m3)) (al1 (gwC (hK.get m4)) (al1 (gwC (hK.get m5)) (al1 (gwC (hK.get m7)) (al1 (gwC (hK.get m8)) (al1 (gwC (hK.get m9)) (al1 (gwC (hK.get m10)) (al1 (gwH (hK.get m11) n15) (al1 (gwH (hK.get m12) n14) (al1 (gwO (hK.get m13) n16 (fun _ _ => .inl pfxK_free)) (al1 (gwC (hK.get m14)) (al1 (gwH (hK.get m15) n13) (al1 (gwC (apr hr (fun g e1 e2 => n22 g e2 e1) (fun g e => (((hK.get m0)).block e).2))) (al1 (gwC (apb hr n15 ((hK.get m11)).ltS)) (al1 (gwC (apb hr n14 ((hK.get m12)).ltS)) (al1 (gwC (apr hr n16 (fun g e => (((hK.get m13)).block e).2))) (al1 (gwC (apb hr n13 ((hK.get m15)).ltS)) aN))))))))))))))))))))) ?_
     intro sv26
     rw [(show canL (InL xs) d1 a ++ canL (InL xs) d1 (a + 2 ^ d1) = catL (InL xs) d1 a from rfl)]
     simp only [Act.put, pA, pB, pC]
     refine Tx.know (Pr := ∀ g, ob sv26.p = some g → ob sv18_p ≠ some g) (fun w' hK => hK.get m16) (fun n27 => ?_)
     refine Tx.know (Pr := ob sv26.p ≠ some R9) (fun w' hK => hK.get m17) (fun n28 => ?_)
     refine Tx.know (Pr := ob sv26.p ≠ some R7) (fun w' hK => hK.get m18) (fun n29 => ?_)
     refine Tx.know (Pr := ∀ g, ob sv26.p = some g → ob sv3_p ≠ some g) (fun w' hK => hK.get m19) (fun n30 => ?_)
     refine Tx.know (Pr := ob sv26.p ≠ some R1) (fun w' hK => hK.get m20) (fun n31 => ?_)
     iterate 2 (apply txF (wants0 rfl); (· intro w' hK; go_simp; (try go_bits); exact ⟨rfl, rfl⟩); simp only [Act.put, pA, pB, pC])
     refine txEnd (fun W32 hK => ?_)
     have hca := agg_cat (.inl hb3.out)
     go_wp2
     try go_ret
     show Q0 (.returned (.tuple #[.slice sv26.p (catL (InL xs) d1 a).length sv26.c, .bool false])) _
     exact (by obtain rfl := hQ0.out; exact ⟨.slice sv26.p (catL (InL xs) d1 a).length sv26.c, (by rw [hca.2]), (Eq.mp (congrArg (OwV pfxK 31 w.heap.size _ _) (show catL (InL xs) d1 a = canL (InL xs) (d1 + 1) a from hca.1)) (hK.get m0)), hK.old⟩)
    · --
     apply txF (wantsg (j := 1) (d := 45) (b := true) rfl rfl rfl rfl); (· intro w' hK; go_simp; (try go_bits); exact ⟨rfl, rfl⟩); simp only [Act.put, pA, pB, pC]
     apply txF (wants0 rfl); (· intro w' hK; go_simp; (try go_bits); exact ⟨rfl, rfl⟩); simp only [Act.put, pA, pB, pC]
     refine txEnd (fun W33 hK => ?_)
     cases b4
     · --
      go_upto_region 11 with (fail)
      refine wp_region_tx w hK ?_
      clear hK
      iterate 2 (apply txF (wants0 rfl); (· intro w' hK; go_simp; (try go_bits); exact ⟨rfl, rfl⟩); simp only [Act.put, pA, pB, pC])
      refine txApp (K := pfxK) (t := 31) (xs := canL (InL xs) d1 a) (ys := canL (InL xs) d1 (a + 2 ^ d1)) (.tmp 50) (.tmp 51) (wants0 rfl) (by rfl) Tryz.underlying22 Tryz.underlying22 infoPf rfl (by rfl) (by rfl) (by unfold maxLen; omega) (by omega) (fun r => [fun w1 => OwV pfxK 31 w.heap.size w1 (.slice sv18_p (canL (InL xs) d1 (a + 2 ^ d1)).length sv18_c) (canL (InL xs) d1 (a + 2 ^ d1)), fun _ => ob sv18_p ≠ some R1, fun _ => ob sv18_p ≠ some R7, fun _ => ob sv18_p ≠ some R9, fun _ => ∀ g, ob sv18_p = some g → ob sv12_p ≠ some g, fun _ => ∀ g, ob sv18_p = some g → ob sv3_p ≠ some g, fun _ => ob sv12_p ≠ some R1, fun _ => ob sv12_p ≠ some R7, fun _ => ob sv12_p ≠ some R9, fun _ => ∀ g, ob sv12_p = some g → ob sv3_p ≠ some g, Has w.heap.size R9 (.cells #[.int .u32 ((a + 2 ^ d1 : Nat) : Int), .int .i64 (n + 1)] 31), Has w.heap.size R7 (.cells #[.int .u32 (a : Int), .int .i64 (n + 1)] 31), fun w1 => OwV pfxK 31 w.heap.size w1 (.slice sv3_p (wiF xs (a, n)).length sv3_c) (wiF xs (a, n)), fun _ => ob sv3_p ≠ some R1, Has w.heap.size R1 (.cells #[.int .u32 (a : Int), .int .i64 n] 31), fun _ => ∀ g, ob r = some g → ob sv18_p ≠ some g, fun _ => ob r ≠ some R9, fun _ => ob r ≠ some R7, fun _ => ∀ g, ob r = some g → ob sv3_p ≠ some g, fun _ => ob r ≠ some R1]) (fun w' hK => ⟨(hK.get m6), (fun _ _ => .inl pfxK_free), (hK.get m0).slv⟩) (fun w' r hK hr => (al1 (gwO (hK.get m0) (fun g e1 e2 => n22 g e2 e1) (fun _ _ => .inl pfxK_free)) (al1 (gwC (hK.get m1)) (al1 (gwC (hK.get m2)) (al1 (gwC (hK.get m3)) (al1 (gwC (hK.get m4)) (al1 (gwC (hK.get m5)) (al1 (gwC (hK.get m7)) (al1 (gwC (hK.get m8)) (al1 (gwC (hK.get m9)) (al1 (gwC (hK.get m10)) (al1 (gwH (hK.get m11) n15) (al1 (gwH (hK.get m12) n14) (al1 (gwO (hK.get m13) n16 (fun _ _ => .inl pfxK_free)) (al1 (gwC (hK.get m14)) (al1 (gwH (hK.get m15) n13) (al1 (gwC (apr hr (fun g e1 e2 => n22 g e2 e1) (fun g e => (((hK.get m0)).block e).2))) (al1 (gwC (apb hr n15 ((hK.get m11)).ltS)) (al1 (gwC (apb hr n14 ((hK.get m12)).ltS)) (al1 (gwC (apr hr n16 (fun g e => (((hK.get m13)).block e).2))) (al1 (gwC (apb hr n13 ((hK.get m15)).ltS)) aN))))))))))))))))))))) ?_
      intro sv34
      rw [(show canL (InL xs) d1 a ++ canL (InL xs) d1 (a + 2 ^ d1) = catL (InL xs) d1 a from rfl)]
      simp only [Act.put, pA, pB, pC]
      refine Tx.know (Pr := ∀ g, ob sv34.p = some g → ob sv18_p ≠ some g) (fun w' hK => hK.get m16) (fun n35 => ?_)
      refine Tx.know (Pr := ob sv34.p ≠ some R9) (fun w' hK => hK.get m17) (fun n36 => ?_)
      refine Tx.know (Pr := ob sv34.p ≠ some R7) (fun w' hK => hK.get m18) (fun n37 => ?_)
      refine Tx.know (Pr := ∀ g, ob sv34.p = some g → ob sv3_p ≠ some g) (fun w' hK => hK.get m19) (fun n38 => ?_)
      refine Tx.know (Pr := ob sv34.p ≠ some R1) (fun w' hK => hK.get m20) (fun n39 => ?_)
      iterate 2 (apply txF (wants0 rfl); (· intro w' hK; go_simp; (try go_bits); exact ⟨rfl, rfl⟩); simp only [Act.put, pA, pB, pC])
      refine txEnd (fun W40 hK => ?_)
      have hca := agg_cat (.inr hb4.out)
      go_wp2
      try go_ret
      show Q0 (.returned (.tuple #[.slice sv34.p (catL (InL xs) d1 a).length sv34.c, .bool false])) _
      exact (by obtain rfl := hQ0.out; exact ⟨.slice sv34.p (catL (InL xs) d1 a).length sv34.c, (by rw [hca.2]), (Eq.mp (congrArg (OwV pfxK 31 w.heap.size _ _) (show catL (InL xs) d1 a = canL (InL xs) (d1 + 1) a from hca.1)) (hK.get m0)), hK.old⟩)
     · --
      go_upto_region 10 with (fail)
      refine wp_region_tx w hK ?_
      clear hK
      apply txF (wants0 rfl); (· intro w' hK; have k_R1 := (hK.get m15); have ⟨c_R1_0, c_R1_1⟩ := k_R1.c2; go_simp; (try go_bits); exact ⟨rfl, rfl⟩); simp only [Act.put, pA, pB, pC]
      apply txA2 (.cells #[.int .u32 (a : Int), .int .i64 n] 31) (wants0 rfl)
      · intro w' hK; go_simp; rfl
      intro R41 q_R41
      have o_R1_R41 : R1 < R41 := q_R41.box m15
      have o_R7_R41 : R7 < R41 := q_R41.box m12
      have o_R9_R41 : R9 < R41 := q_R41.box m11
      have n42 : ob sv18_p ≠ some R41 := q_R41.row m0
      have n43 : ob sv12_p ≠ some R41 := q_R41.row m6
      have n44 : ob sv3_p ≠ some R41 := q_R41.row m13
      clear q_R41
      simp only [mkOf, Act.put, pA, pB, pC]
      iterate 2 (apply txF (wants0 rfl); (· intro w' hK; go_simp; (try go_bits); exact ⟨rfl, rfl⟩); simp only [Act.put, pA, pB, pC])
      refine txEnd (fun W45 hK => ?_)
      have hbo := agg_both hb3.out hb4.out hn.out
      go_wp2
      try go_ret
      show Q0 (.returned (.tuple #[.slice (some ⟨R41, 0, none⟩) 1 1, .bool true])) _
      exact (by obtain rfl := hQ0.out; exact ⟨.slice (some ⟨R41, 0, none⟩) 1 1, (by rw [hbo.2]), (by rw [hbo.1]; exact (OwV.ofCells (K := pfxK) (f := pfC) (xs := [(a, n)]) (fun _ _ => rfl) (hK.get m0) (show 1 ≤ maxLen from by decide))), hK.old⟩)
   · --
    have hnon := agg_none hl (by have := hp.lo; have := hn.out; simp only at *; omega) hn.out hp hb1.out (by have q := hb2.out; rw [← wiF_f hb1.out]; exact List.eq_nil_of_length_eq_zero (by simpa using q))
    go_wp2
    try go_ret
    show Q0 (.returned (.tuple #[.slice none 0 0, .bool false])) _
    exact (by obtain rfl := hQ0.out; exact ⟨.slice none 0 0, (by rw [hnon.2]), (by rw [hnon.1]; exact OwV.nil), hK.old⟩)
  · --
   go_upto_region 3 with (fail)
   refine wp_region_tx w hK ?_
   clear hK
   apply txF (wants0 rfl); (· intro w' hK; have k_R1 := (hK.get m2); have ⟨c_R1_0, c_R1_1⟩ := k_R1.c2; go_simp; (try go_bits); exact ⟨rfl, rfl⟩); simp only [Act.put, pA, pB, pC]
   apply txA2 (.cells #[.int .u32 (a : Int), .int .i64 n] 31) (wants0 rfl)
   · intro w' hK; go_simp; rfl
   intro R46 q_R46
   have o_R1_R46 : R1 < R46 := q_R46.box m2
   have n47 : ob sv3_p ≠ some R46 := q_R46.row m0
   clear q_R46
   simp only [mkOf, Act.put, pA, pB, pC]
   iterate 2 (apply txF (wants0 rfl); (· intro w' hK; go_simp; (try go_bits); exact ⟨rfl, rfl⟩); simp only [Act.put, pA, pB, pC])
   refine txEnd (fun W48 hK => ?_)
   have hful := agg_full hl (by have := hp.lo; have := hn.out; simp only at *; omega) hn.out hp hb1.out
   go_wp2
   try go_ret
   show Q0 (.returned (.tuple #[.slice (some ⟨R46, 0, none⟩) 1 1, .bool true])) _
   exact (by obtain rfl := hQ0.out; exact ⟨.slice (some ⟨R46, 0, none⟩) 1 1, (by rw [fulB_t.2 hful]), (by rw [canL_full hful, ← hn.out]; exact (OwV.ofCells (K := pfxK) (f := pfC) (xs := [(a, n)]) (fun _ _ => rfl) (hK.get m0) (show 1 ≤ maxLen from by decide))), hK.old⟩)
theorem raggregate_any : ∀ (d : Nat) (v0 : Value) (xs : List Pf) (a : Nat) (n : Int) (w : World), SlV pfxK w v0 xs → AllOk xs → OkP (a, n) → n = 32 - (d : Int) → xs.length ≤ 1000 → Calls Tryz.prog 19 #[v0, .agg #[.int .u32 (a : Int), .int .i64 n]] w fun e w' => ∃ y0, e = .returned (.tuple #[y0, .bool (fulB (InL xs) d a)]) ∧ OwV pfxK 31 w.heap.size w' y0 (canL (InL xs) d a) ∧ Below w.heap.size w w' := by
  intro d
  induction d with
  | zero => exact fun v0 xs a n w h0 hl hp hn hx => raggregate_step v0 xs a n w h0 0 hl hp hn hx fun d1 e => by omega
  | succ d ih =>
    refine fun v0 xs a n w h0 hl hp hn hx => raggregate_step v0 xs a n w h0 (d + 1) hl hp hn hx fun d1 e v1 ys b w1 h1 hl1 hp1 hx1 => ?_
    obtain rfl : d1 = d := by omega
    exact ih v1 ys b (n + 1) w1 h1 hl1 hp1 (by omega) hx1
theorem raggregate_top (v0 : Value) (xs : List Pf) (w : World) (h : SlV pfxK w v0 xs) (hl : AllOk xs) (hx : xs.length ≤ 1000) : Calls Tryz.prog 19 #[v0, .agg #[.int .u32 0, .int .i64 0]] w fun e w' => ∃ y0, e = .returned (.tuple #[y0, .bool (fulB (InL xs) 32 0)]) ∧ OwV pfxK 31 w.heap.size w' y0 (aggS xs) ∧ Below w.heap.size w w' :=
  raggregate_any 32 v0 xs 0 0 w h hl ⟨W32.zero, by decide +kernel⟩ (by decide) hx
set_option maxRecDepth 100000 in
theorem raggregate_all (v0 : Value) (xs : List Pf) (w : World) (h0 : SlV pfxK w v0 xs) (hw : ∀ p ∈ xs, W32 p.1) (hl : xs.length ≤ 100) :
    Calls Tryz.prog 7 #[v0] w fun e w' => ∃ y0, e = .returned (.tuple #[y0, .int .i64 (agE xs)]) ∧ OwV pfxK 31 w.heap.size w' y0 (agF xs) ∧ Below w.heap.size w w' := by
  have h0_0 := h0; obtain ⟨p_h0, c_h0, rfl, n_h0⟩ := h0.sh
  have hK : KS w [] w := (KS.start w)
  refine Calls.hide (fun Q0 hQ0 => ?_)
  go_enter Tryz.func7, Tryz.ntmps7
  go_wp2_with fail
  go_loopw [4] (fun s4 wl => ∃ (j : Nat), s4 = .int .i64 (j : Int) ∧ (j ≤ xs.length) ∧ RowKit.Hid (okB (xs.take j) = true) ∧ KS w [] wl) (fun s4 _ => xs.length - (intOf s4).toNat)
  case atStart => exact ⟨0, rfl, (by omega), (hid rfl), ⟨hK.old, aN⟩⟩
  case round =>
   clear hK
   obtain ⟨j, rfl, hj, ho, hK⟩ := hrel
   generalize wr = W1 at hK ⊢
   go_upto_region 2 with (fail)
   refine wp_region_tx w hK ?_
   clear hK
   iterate 3 (apply txF (wants0 rfl); (· intro w' hK; go_simp; (try go_bits); exact ⟨rfl, rfl⟩); simp only [Act.put, pA, pB, pC])
   obtain ⟨b1, hb1⟩ : ∃ b : Bool, RowKit.Hid (decide (((j : Int)) < ((xs.length : Int))) = b) := ⟨_, hid rfl⟩
   apply txB b1 (wants0 rfl); (· intro w' hK; go_simp; (try go_bits); exact ⟨by have q := hb1.out; subst q; first | rfl | simp, rfl⟩); simp only [Act.put, pA, pB, pC]
   refine txEnd (fun W2 hK => ?_)
   cases b1
   · --
    have q_b1 : ((xs.length : Int)) ≤ ((j : Int)) := Int.not_lt.1 (of_decide_eq_false hb1.out)
    have hall := hid (show okB xs = true from by have q := ho.out; rwa [show j = xs.length from by omega, List.take_length] at q)
    have hok := okB_all hall.out hw
    go_upto_region 6 with (fail)
    refine wp_region_tx w hK ?_
    clear hK
    iterate 2 (apply txF (wants0 rfl); (· intro w' hK; go_simp; (try go_bits); exact ⟨rfl, rfl⟩); simp only [Act.put, pA, pB, pC])
    obtain ⟨b2, hb2⟩ : ∃ b : Bool, RowKit.Hid ((fulB (InL xs) 32 0) = b) := ⟨_, hid rfl⟩
    apply txE (α := Sl) (fun sv => .tuple #[.slice sv.p (aggS xs).length sv.c, .bool b2]) (fun sv => [fun w1 => OwV pfxK 31 w.heap.size w1 (.slice sv.p (aggS xs).length sv.c) (aggS xs)]) (wants0 rfl)
    · intro f1 l1 hl1 w' hK; go_simp; (try go_bits); refine (raggregate_top (.slice p_h0 xs.length c_h0) xs w' (h0_0.below hK.old) hok (by omega)).mono ?_; rintro e w5 ⟨y0, rfl, u0, hb⟩; obtain ⟨rfl, rfl⟩ := hl1.out; have u0_0 := u0; obtain ⟨p_u0, c_u0, rfl, n_u0⟩ := u0.sh; exact ⟨_, rfl, (⟨p_u0, 0, c_u0⟩ : Sl), (by rw [hb2.out]), hb, .cons (fun w2 h2 => (u0_0.mono hK.old.size).below h2) (Lasts.nil _)⟩
    intro sv3
    simp only [Act.put, pA, pB, pC, pD, pE]
    iterate 5 (apply txF (wants0 rfl); (· intro w' hK; go_simp; (try go_bits); exact ⟨rfl, rfl⟩); simp only [Act.put, pA, pB, pC])
    refine txEnd (fun W4 hK => ?_)
    go_wp2
    try go_ret
    show Q0 (.returned (.tuple #[.slice sv3.p (aggS xs).length sv3.c, .int .i64 0])) _
    exact (by obtain rfl := hQ0.out; exact ⟨.slice sv3.p (aggS xs).length sv3.c, (by rw [(ag_ok hall.out).2]), (Eq.mp (congrArg (OwV pfxK 31 w.heap.size _ _) (show aggS xs = agF xs from (by rw [(ag_ok hall.out).1]))) (hK.get m0)), hK.old⟩)
   · --
    have q_b1 : ((j : Int)) < ((xs.length : Int)) := of_decide_eq_true hb1.out
    obtain ⟨x4, ex4⟩ : ∃ x, RowKit.Hid (xs[j]? = some x) := ⟨_, hid (List.getElem?_eq_getElem (show j < xs.length from (by omega)))⟩
    have i5 : j < xs.length := by have q : j < xs.length := (by omega); first | exact q | (simp at q; omega) | omega
    obtain ⟨g5, o5, q5, l5⟩ := (h0_0).ptr ex4.out
    subst q5
    replace hK := KS.atP hK (h0_0.below hK.old) ex4.out
    have wx4 := hw _ (List.mem_of_getElem? ex4.out)
    go_upto_region 4 with (fail)
    refine wp_region_tx w hK ?_
    clear hK
    iterate 3 (apply txF (wants0 rfl); (· intro w' hK; go_simp; (try go_bits); exact ⟨rfl, rfl⟩); simp only [Act.put, pA, pB, pC])
    apply txF (wants0 rfl); (· intro w' hK; have c_CEL5_0 : w'.cell? ⟨g5, o5 + j * 2, none⟩ = some (.int .u32 (x4.1 : Int)) := (by have q := (hK.get m0).2 0 _ rfl; simpa using q); have c_CEL5_1 : w'.cell? ⟨g5, o5 + j * 2 + 1, none⟩ = some (.int .i64 x4.2) := (by have q := (hK.get m0).2 1 _ rfl; simpa using q); go_simp; (try go_bits); exact ⟨rfl, rfl⟩); simp only [Act.put, pA, pB, pC]
    obtain ⟨b2, hb2⟩ : ∃ b : Bool, RowKit.Hid ((vld x4.1 x4.2) = b) := ⟨_, hid rfl⟩
    apply txH (v := .bool b2) (wants0 rfl)
    · intro v1 hv1 w' hK; go_simp; (try go_bits); refine (rvalid_any x4.1 x4.2 w' (by first | assumption | omega | exact W32.zero)).mono ?_; rintro e w5 ⟨rfl, hb⟩; obtain rfl := hv1.out; exact ⟨_, rfl, (by rw [hb2.out]), hb⟩
    simp only [Act.put, pA, pB, pC]
    apply txF (wants0 rfl); (· intro w' hK; go_simp; (try go_bits); exact ⟨rfl, rfl⟩); simp only [Act.put, pA, pB, pC]
    refine txEnd (fun W6 hK => ?_)
    cases b2
    · --
     go_wp2
     try go_ret
     show Q0 (.returned (.tuple #[.slice none 0 0, .int .i64 1])) _
     exact (by obtain rfl := hQ0.out; exact ⟨.slice none 0 0, (by rw [(ag_bad (okB_no ex4.out hb2.out)).2]), (by rw [(ag_bad (okB_no ex4.out hb2.out)).1]; exact OwV.nil), hK.old⟩)
    · --
     (try go_wp2)
     go_roundw
     case rel => exact ⟨j + 1, (by first | rfl | go_num), (by omega), (hid (okB_take ho.out ex4.out hb2.out)), ⟨hK.old, aN⟩⟩
     case measure => simp [intOf]; omega
set_option maxRecDepth 100000 in
set_option maxHeartbeats 1000000 in
theorem prefixAggregate_walk (v0 : Value) (xs : List Pf) (w : World) (h0 : SlV pfxK w v0 xs) (hB0 : Bas w) (hw : ∀ p ∈ xs, W32 p.1) :
    Calls Tryz.prog 3 #[v0] w fun e w' => e = .returned (.bool true) ∧ Below w.heap.size w w' := by
  have h0_0 := h0; obtain ⟨p_h0, c_h0, rfl, n_h0⟩ := h0.sh
  have hK : KS w [] w := (KS.start w)
  refine Calls.hide (fun Q0 hQ0 => ?_)
  go_enter Tryz.func3, Tryz.ntmps3
  go_upto_region 1 with (fail)
  refine wp_region_tx w hK ?_
  clear hK
  apply txH (v := .bool true) (wants0 rfl)
  · intro v1 hv1 w' hK; go_simp; (try go_bits); refine (awake_any   w' (hB0.below hK.old) ).mono ?_; rintro e w5 ⟨rfl, hb⟩; obtain rfl := hv1.out; exact ⟨_, rfl, rfl, hb⟩
  simp only [Act.put, pA, pB, pC]
  iterate 2 (apply txF (wants0 rfl); (· intro w' hK; go_simp; (try go_bits); exact ⟨rfl, rfl⟩); simp only [Act.put, pA, pB, pC])
  apply txF (wantsg (j := 2) (d := 10) (b := false) rfl rfl rfl rfl); (· intro w' hK; go_simp; (try go_bits); exact ⟨rfl, rfl⟩); simp only [Act.put, pA, pB, pC]
  obtain ⟨b1, hb1⟩ : ∃ b : Bool, RowKit.Hid ((decide ((xs.length : Int) ≤ 30)) = b) := ⟨_, hid rfl⟩
  apply txH (v := .bool b1) (wantsg (j := 2) (d := 10) (b := false) rfl rfl rfl rfl)
  · intro v1 hv1 w' hK; go_simp; (try go_bits); refine (few_any (.slice p_h0 xs.length c_h0) xs w' (h0_0.below hK.old) ).mono ?_; rintro e w5 ⟨rfl, hb⟩; obtain rfl := hv1.out; exact ⟨_, rfl, (by rw [hb1.out]), hb⟩
  simp only [Act.put, pA, pB, pC]
  apply txF (wantsg (j := 2) (d := 10) (b := false) rfl rfl rfl rfl); (· intro w' hK; go_simp; (try go_bits); exact ⟨rfl, rfl⟩); simp only [Act.put, pA, pB, pC]
  apply txF (wants0 rfl); (· intro w' hK; go_simp; (try go_bits); exact ⟨rfl, rfl⟩); simp only [Act.put, pA, pB, pC]
  refine txEnd (fun W1 hK => ?_)
  cases b1
  · --
   have q_b1 : 30 < (xs.length : Int) := Int.not_le.1 (of_decide_eq_false hb1.out)
   go_upto_region 2 with (fail)
   refine wp_region_tx w hK ?_
   clear hK
   apply txH (v := .bool true) (wants0 rfl)
   · intro v1 hv1 w' hK; go_simp; (try go_bits); refine (awake_any   w' (hB0.below hK.old) ).mono ?_; rintro e w5 ⟨rfl, hb⟩; obtain rfl := hv1.out; exact ⟨_, rfl, rfl, hb⟩
   simp only [Act.put, pA, pB, pC]
   apply txF (wants0 rfl); (· intro w' hK; go_simp; (try go_bits); exact ⟨rfl, rfl⟩); simp only [Act.put, pA, pB, pC]
   refine txEnd (fun W2 hK => ?_)
   go_wp2
   try go_ret
   show Q0 (.returned (.bool true)) _
   exact (by obtain rfl := hQ0.out; exact ⟨rfl, hK.old⟩)
  · --
   have q_b1 : (xs.length : Int) ≤ 30 := of_decide_eq_true hb1.out
   go_upto_region 3 with (fail)
   refine wp_region_tx w hK ?_
   clear hK
   apply txA (.cells #[] 31) (wants0 rfl)
   · intro w' hK; go_simp; rfl
   intro R3 q_R3
   clear q_R3
   simp only [mkOf, Act.put, pA, pB, pC]
   apply txF (wants0 rfl); (· intro w' hK; go_simp; (try go_bits); exact ⟨rfl, rfl⟩); simp only [Act.put, pA, pB, pC]
   refine txApp (K := pfxK) (t := 31) (xs := ([] : List Pf)) (ys := xs) (.tmp 16) (.tmp 17) (wants0 rfl) (by rfl) Tryz.underlying22 Tryz.underlying22 infoPf rfl (by rfl) (by rfl) (by simp [maxLen]; omega) (by simp; omega) (fun r => []) (fun w' hK => ⟨(OwV.empty (hK.get m0)), (fun _ _ => .inl pfxK_free), (h0_0.below hK.old)⟩) (fun w' r hK hr => aN) ?_
   intro sv4
   rw [List.nil_append]
   simp only [Act.put, pA, pB, pC]
   apply txF (wants0 rfl); (· intro w' hK; go_simp; (try go_bits); exact ⟨rfl, rfl⟩); simp only [Act.put, pA, pB, pC]
   refine txEnd (fun W5 hK => ?_)
   have l1 := agF_len hw
   go_upto_region 4 with (fail)
   refine wp_region_tx w hK ?_
   clear hK
   apply txF (wants0 rfl); (· intro w' hK; go_simp; (try go_bits); exact ⟨rfl, rfl⟩); simp only [Act.put, pA, pB, pC]
   obtain ⟨z1, hz1⟩ : ∃ b : Int, RowKit.Hid ((agE xs) = b) := ⟨_, hid rfl⟩
   apply txE (α := Sl) (fun sv => .tuple #[.slice sv.p (agF xs).length sv.c, .int .i64 z1]) (fun sv => [fun w1 => OwV pfxK 31 w.heap.size w1 (.slice sv.p (agF xs).length sv.c) (agF xs), fun _ => ∀ g, ob sv.p = some g → ob sv4.p ≠ some g]) (wants0 rfl)
   · intro f1 l1 hl1 w' hK; go_simp; (try go_bits); refine (aggregate_any (.slice sv4.p xs.length sv4.c) xs w' (hK.get m0).slv (by assumption) (by omega)).mono ?_; rintro e w5 ⟨y0, rfl, u0, hb⟩; obtain ⟨rfl, rfl⟩ := hl1.out; have u0_0 := u0; obtain ⟨p_u0, c_u0, rfl, n_u0⟩ := u0.sh; exact ⟨_, rfl, (⟨p_u0, 0, c_u0⟩ : Sl), (by rw [hz1.out]), hb, .cons (fun w2 h2 => (u0_0.mono hK.old.size).below h2) (.cons (fun _ _ => fun _ e e2 => absurd (u0_0.block e).1 (Nat.not_le.2 (((hK.get m0)).block e2).2)) (Lasts.nil _))⟩
   rintro ⟨sv6_p, sv6_l, sv6_c⟩
   simp only [Act.put, pA, pB, pC, pD, pE]
   refine Tx.know (Pr := ∀ g, ob sv6_p = some g → ob sv4.p ≠ some g) (fun w' hK => hK.get m1) (fun n7 => ?_)
   iterate 5 (apply txF (wants0 rfl); (· intro w' hK; go_simp; (try go_bits); exact ⟨rfl, rfl⟩); simp only [Act.put, pA, pB, pC])
   refine txEnd (fun W8 hK => ?_)
   go_upto_region 5 with (fail)
   refine wp_region_tx w hK ?_
   clear hK
   apply txF (wants0 rfl); (· intro w' hK; go_simp; (try go_bits); exact ⟨rfl, rfl⟩); simp only [Act.put, pA, pB, pC]
   obtain ⟨z2, hz2⟩ : ∃ b : Int, RowKit.Hid ((agE xs) = b) := ⟨_, hid rfl⟩
   apply txE (α := Sl) (fun sv => .tuple #[.slice sv.p (agF xs).length sv.c, .int .i64 z2]) (fun sv => [fun w1 => OwV pfxK 31 w.heap.size w1 (.slice sv.p (agF xs).length sv.c) (agF xs), fun _ => ∀ g, ob sv.p = some g → ob sv6_p ≠ some g, fun _ => ∀ g, ob sv.p = some g → ob sv4.p ≠ some g]) (wants0 rfl)
   · intro f1 l1 hl1 w' hK; go_simp; (try go_bits); refine (raggregate_all (.slice p_h0 xs.length c_h0) xs w' (h0_0.below hK.old) (by assumption) (by omega)).mono ?_; rintro e w5 ⟨y0, rfl, u0, hb⟩; obtain ⟨rfl, rfl⟩ := hl1.out; have u0_0 := u0; obtain ⟨p_u0, c_u0, rfl, n_u0⟩ := u0.sh; exact ⟨_, rfl, (⟨p_u0, 0, c_u0⟩ : Sl), (by rw [hz2.out]), hb, .cons (fun w2 h2 => (u0_0.mono hK.old.size).below h2) (.cons (fun _ _ => fun _ e e2 => absurd (u0_0.block e).1 (Nat.not_le.2 (((hK.get m0)).block e2).2)) (.cons (fun _ _ => fun _ e e2 => absurd (u0_0.block e).1 (Nat.not_le.2 (((hK.get m2)).block e2).2)) (Lasts.nil _)))⟩
   rintro ⟨sv9_p, sv9_l, sv9_c⟩
   simp only [Act.put, pA, pB, pC, pD, pE]
   refine Tx.know (Pr := ∀ g, ob sv9_p = some g → ob sv6_p ≠ some g) (fun w' hK => hK.get m1) (fun n10 => ?_)
   refine Tx.know (Pr := ∀ g, ob sv9_p = some g → ob sv4.p ≠ some g) (fun w' hK => hK.get m2) (fun n11 => ?_)
   iterate 5 (apply txF (wants0 rfl); (· intro w' hK; go_simp; (try go_bits); exact ⟨rfl, rfl⟩); simp only [Act.put, pA, pB, pC])
   refine txEnd (fun W12 hK => ?_)
   go_upto_region 6 with (fail)
   refine wp_region_tx w hK ?_
   clear hK
   iterate 2 (apply txF (wants0 rfl); (· intro w' hK; go_simp; (try go_bits); exact ⟨rfl, rfl⟩); simp only [Act.put, pA, pB, pC])
   apply txF (v := .bool true) (wants0 rfl); (· intro w' hK; go_simp; (try go_bits); exact ⟨congrArg Value.bool (by rw [← hz1.out, ← hz2.out]; simp), rfl⟩); simp only [Act.put, pA, pB, pC]
   apply txF (wants0 rfl); (· intro w' hK; go_simp; (try go_bits); exact ⟨rfl, rfl⟩); simp only [Act.put, pA, pB, pC]
   iterate 2 (apply txF (wantsg (j := 3) (d := 32) (b := true) rfl rfl rfl rfl); (· intro w' hK; go_simp; (try go_bits); exact ⟨rfl, rfl⟩); simp only [Act.put, pA, pB, pC])
   obtain ⟨b2, hb2⟩ : ∃ b : Bool, RowKit.Hid ((decide ((agF xs) = (agF xs))) = b) := ⟨_, hid rfl⟩
   apply txH (v := .bool b2) (wantsg (j := 3) (d := 32) (b := true) rfl rfl rfl rfl)
   · intro v1 hv1 w' hK; go_simp; (try go_bits); refine (same_any (.slice sv6_p (agF xs).length sv6_c) (.slice sv9_p (agF xs).length sv9_c) (agF xs) (agF xs) w' (hK.get m3).slv (hK.get m0).slv (by omega) (by omega)).mono ?_; rintro e w5 ⟨rfl, hb⟩; obtain rfl := hv1.out; exact ⟨_, rfl, (by rw [hb2.out]), hb⟩
   simp only [Act.put, pA, pB, pC]
   iterate 2 (apply txF (wants0 rfl); (· intro w' hK; go_simp; (try go_bits); exact ⟨rfl, rfl⟩); simp only [Act.put, pA, pB, pC])
   cases b2
   · --
    iterate 3 (apply txN (j := 8) (d := 37) (b := true) rfl rfl rfl rfl; simp only [Act.put, pA, pB, pC])
    iterate 2 (apply txF (wants0 rfl); (· intro w' hK; go_simp; (try go_bits); exact ⟨rfl, rfl⟩); simp only [Act.put, pA, pB, pC])
    refine txEnd (fun W13 hK => ?_)
    go_wp2
    try go_ret
    show Q0 (.returned (.bool false)) _
    exact (by obtain rfl := hQ0.out; exact ⟨(ret_bool (by have e_b1 := hb1.out; have e_b2 := hb2.out; simp_all)), hK.old⟩)
   · --
    iterate 2 (apply txF (wantsg (j := 8) (d := 37) (b := true) rfl rfl rfl rfl); (· intro w' hK; go_simp; (try go_bits); exact ⟨rfl, rfl⟩); simp only [Act.put, pA, pB, pC])
    obtain ⟨b3, hb3⟩ : ∃ b : Bool, RowKit.Hid ((decide (xs = xs)) = b) := ⟨_, hid rfl⟩
    apply txH (v := .bool b3) (wantsg (j := 8) (d := 37) (b := true) rfl rfl rfl rfl)
    · intro v1 hv1 w' hK; go_simp; (try go_bits); refine (same_any (.slice sv4.p xs.length sv4.c) (.slice p_h0 xs.length c_h0) xs xs w' (hK.get m5).slv (h0_0.below hK.old) (by omega) (by omega)).mono ?_; rintro e w5 ⟨rfl, hb⟩; obtain rfl := hv1.out; exact ⟨_, rfl, (by rw [hb3.out]), hb⟩
    simp only [Act.put, pA, pB, pC]
    iterate 2 (apply txF (wants0 rfl); (· intro w' hK; go_simp; (try go_bits); exact ⟨rfl, rfl⟩); simp only [Act.put, pA, pB, pC])
    refine txEnd (fun W14 hK => ?_)
    go_wp2
    try go_ret
    show Q0 (.returned (.bool b3)) _
    exact (by obtain rfl := hQ0.out; exact ⟨(ret_bool (by have e_b1 := hb1.out; have e_b2 := hb2.out; have e_b3 := hb3.out; simp_all)), hK.old⟩)
end Go.Proofs.YtbbjjjaclbkolaaGreatDoor
