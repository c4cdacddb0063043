/- The weak law of certificates walked. -/
import Derived.Test.YtcdbgincfdejkaaGreatDoorTz
import Derived.Test.YtcdbgincfdejkaaGreatDoorCerG
namespace Go.Proofs.YtcdbgincfdejkaaGreatDoor
open Go.RowKit
open Go.Lib (decDigits)
theorem sg_nn {x : Rat} {z : Int} (h : sgQ x = z) (hx : 0 ≤ x) : 0 ≤ z := by
  rcases Int.lt_or_le z 0 with e | e
  · have := (sg_lt h).1 e; grind
  · exact e
theorem sg_zb {x : Rat} {z : Int} (h : sgQ x = z) : (z == 0) = decide (x = 0) := by
  rw [Bool.eq_iff_iff, beq_iff_eq, decide_eq_true_eq]
  exact sg_z h
set_option maxRecDepth 100000 in
set_option maxHeartbeats 4000000 in
theorem certificateWeak_walk (v0 : Value) (v1 : Value) (v2 : Value) (s : Sm) (xs : List Frc) (ys : List Frc) (w : World) (h0 : SmV w v0 s) (h1 : SlV frK w v1 xs) (h2 : SlV frK w v2 ys) (hB0 : Bas w) (hs : s.Ok) (hx : ∀ x ∈ xs, x.Ok) (hy : ∀ x ∈ ys, x.Ok) :
    Calls Tryz.prog 4 #[v0, v1, v2] w fun e w' => e = .returned (.bool true) ∧ Below w.heap.size w w' := by
  have h0_0 := h0; obtain ⟨⟨p_h0, l_h0, c_h0⟩, ⟨q_h0, m_h0, d_h0⟩, ⟨r_h0, n_h0, e_h0⟩, rfl, h0_1, h0_2, h0_3⟩ := h0
  have h1_0 := h1; obtain ⟨p_h1, c_h1, rfl, n_h1⟩ := h1.sh
  have h2_0 := h2; obtain ⟨p_h2, c_h2, rfl, n_h2⟩ := h2.sh
  have hK := (KS.start w)
  refine Calls.hide (fun Q0 hQ0 => ?_)
  go_enter Tryz.func4, Tryz.ntmps4
  go_upto_region 0 with (fail)
  refine wp_region_tx w hK ?_
  clear hK
  refine tA (.cells #[.slice p_h0 s.c.length c_h0, .slice q_h0 s.a.length d_h0, .slice r_h0 s.b.length e_h0] 24) (fun R1 q_R1 => ?_)
  clear q_R1
  refine tF ?_
  refine txEnd (fun W2 hK => ?_)
  go_upto_region 1 with (fail)
  refine wp_region_tx w hK ?_
  clear hK
  refine tH (fun w' hK => awake41_any w' (hB0.below hK.old)) ?_
  refine tF ?_
  refine txEnd (fun W3 hK => ?_)
  go_upto_region 3 with (fail)
  refine wp_region_tx w hK ?_
  clear hK
  iterate 2 (refine tF ?_)
  refine tB (decide (10 < ((xs.length : Int)))) (fun b1 hb1 => ?_)
  refine tF ?_
  cases b1
  · --
   have q_b1 : ((xs.length : Int)) ≤ 10 := Int.not_lt.1 (of_decide_eq_false hb1.out)
   iterate 2 (refine tF ?_)
   refine tB (decide (10 < ((ys.length : Int)))) (fun b2 hb2 => ?_)
   refine tF ?_
   refine txEnd (fun W4 hK => ?_)
   cases b2
   · --
    have q_b2 : ((ys.length : Int)) ≤ 10 := Int.not_lt.1 (of_decide_eq_false hb2.out)
    go_upto_region 5 with (fail)
    refine wp_region_tx w hK ?_
    clear hK
    refine tL m0 ?_
    apply txE (α := Duo Sl (Duo Sl Sl)) (fun sv => .agg #[.slice sv.a.p (ofSm s).c.length sv.a.c, .slice sv.b.a.p (ofSm s).A.length sv.b.a.c, .slice sv.b.b.p (ofSm s).b.length sv.b.b.c]) (fun sv => [fun w1 => OwV refK 41 w.heap.size w1 (.slice sv.a.p (ofSm s).c.length sv.a.c) ((ofSm s).c), fun w1 => OwV rfK 33 w.heap.size w1 (.slice sv.b.a.p (ofSm s).A.length sv.b.a.c) ((ofSm s).A), fun w1 => OwV refK 41 w.heap.size w1 (.slice sv.b.b.p (ofSm s).b.length sv.b.b.c) ((ofSm s).b), fun _ => ob sv.a.p ≠ some R1, fun _ => ob sv.b.a.p ≠ some R1, fun _ => ob sv.b.b.p ≠ some R1]) (wants0 rfl)
    · intro f1 l1 hl1 w' hK; go_simp; (try go_bits); refine (smof_any (.agg #[.slice p_h0 s.c.length c_h0, .slice q_h0 s.a.length d_h0, .slice r_h0 s.b.length e_h0]) s w' (h0_0.below hK.old) hs).mono ?_; rintro e w5 ⟨y0, rfl, u0, hb⟩; obtain ⟨rfl, rfl⟩ := hl1.out; have u0_0 := u0; obtain ⟨⟨p_u0, l_u0, c_u0⟩, ⟨q_u0, m_u0, d_u0⟩, ⟨r_u0, n_u0, e_u0⟩, rfl, u0_1, u0_2, u0_3⟩ := u0; exact ⟨_, rfl, (⟨⟨p_u0, 0, c_u0⟩, ⟨⟨q_u0, 0, d_u0⟩, ⟨r_u0, 0, e_u0⟩⟩⟩ : Duo Sl (Duo Sl Sl)), rfl, hb, .cons (fun w2 h2 => (u0_1.mono hK.old.size).below h2) (.cons (fun w2 h2 => (u0_2.mono hK.old.size).below h2) (.cons (fun w2 h2 => (u0_3.mono hK.old.size).below h2) (.cons (fun _ _ => fun e => absurd (u0_1.block e).1 (Nat.not_le.2 ((hK.get m0)).ltS)) (.cons (fun _ _ => fun e => absurd (u0_2.block e).1 (Nat.not_le.2 ((hK.get m0)).ltS)) (.cons (fun _ _ => fun e => absurd (u0_3.block e).1 (Nat.not_le.2 ((hK.get m0)).ltS)) (Lasts.nil _))))))⟩
    intro sv5
    simp only [Act.put, pA, pB, pC, pD, pE]
    refine Tx.know (Pr := ob sv5.a.p ≠ some R1) (fun w' hK => hK.get m3) (fun n6 => ?_)
    refine Tx.know (Pr := ob sv5.b.a.p ≠ some R1) (fun w' hK => hK.get m4) (fun n7 => ?_)
    refine Tx.know (Pr := ob sv5.b.b.p ≠ some R1) (fun w' hK => hK.get m5) (fun n8 => ?_)
    apply txE (α := Duo Sl (Duo Sl Sl)) (fun sv => .agg #[.slice sv.a.p ((ofSm s)).c.length sv.a.c, .slice sv.b.a.p ((ofSm s)).A.length sv.b.a.c, .slice sv.b.b.p ((ofSm s)).b.length sv.b.b.c]) (fun sv => [fun w1 => OwV ratK 55 w.heap.size w1 (.slice sv.a.p ((ofSm s)).c.length sv.a.c) (((ofSm s)).c), fun w1 => OwV rrK 46 w.heap.size w1 (.slice sv.b.a.p ((ofSm s)).A.length sv.b.a.c) (((ofSm s)).A), fun w1 => OwV ratK 55 w.heap.size w1 (.slice sv.b.b.p ((ofSm s)).b.length sv.b.b.c) (((ofSm s)).b), fun _ => ob sv.a.p ≠ some R1, fun _ => ∀ g, ob sv.a.p = some g → ob sv5.a.p ≠ some g, fun _ => ∀ g, ob sv.a.p = some g → ob sv5.b.a.p ≠ some g, fun _ => ∀ g, ob sv.a.p = some g → ob sv5.b.b.p ≠ some g, fun _ => ob sv.b.a.p ≠ some R1, fun _ => ∀ g, ob sv.b.a.p = some g → ob sv5.a.p ≠ some g, fun _ => ∀ g, ob sv.b.a.p = some g → ob sv5.b.a.p ≠ some g, fun _ => ∀ g, ob sv.b.a.p = some g → ob sv5.b.b.p ≠ some g, fun _ => ob sv.b.b.p ≠ some R1, fun _ => ∀ g, ob sv.b.b.p = some g → ob sv5.a.p ≠ some g, fun _ => ∀ g, ob sv.b.b.p = some g → ob sv5.b.a.p ≠ some g, fun _ => ∀ g, ob sv.b.b.p = some g → ob sv5.b.b.p ≠ some g]) (wants0 rfl)
    · intro f1 l1 hl1 w' hK; go_simp; (try go_bits); refine (program_any (.agg #[.slice sv5.a.p (ofSm s).c.length sv5.a.c, .slice sv5.b.a.p (ofSm s).A.length sv5.b.a.c, .slice sv5.b.b.p (ofSm s).b.length sv5.b.b.c]) (ofSm s) w' (RpV.mk ((hK.get m0).slv) ((hK.get m1).slv) ((hK.get m2).slv)) (hB0.below hK.old) (ofSm_ok s) (ofSm_lm hs 50 (by decide))).mono ?_; rintro e w5 ⟨y0, rfl, u0, hb⟩; obtain ⟨rfl, rfl⟩ := hl1.out; have u0_0 := u0; obtain ⟨⟨p_u0, l_u0, c_u0⟩, ⟨q_u0, m_u0, d_u0⟩, ⟨r_u0, n_u0, e_u0⟩, rfl, u0_1, u0_2, u0_3⟩ := u0; exact ⟨_, rfl, (⟨⟨p_u0, 0, c_u0⟩, ⟨⟨q_u0, 0, d_u0⟩, ⟨r_u0, 0, e_u0⟩⟩⟩ : Duo Sl (Duo Sl Sl)), rfl, hb, .cons (fun w2 h2 => (u0_1.mono hK.old.size).below h2) (.cons (fun w2 h2 => (u0_2.mono hK.old.size).below h2) (.cons (fun w2 h2 => (u0_3.mono hK.old.size).below h2) (.cons (fun _ _ => fun e => absurd (u0_1.block e).1 (Nat.not_le.2 ((hK.get m6)).ltS)) (.cons (fun _ _ => fun _ e e2 => absurd (u0_1.block e).1 (Nat.not_le.2 (((hK.get m0)).block e2).2)) (.cons (fun _ _ => fun _ e e2 => absurd (u0_1.block e).1 (Nat.not_le.2 (((hK.get m1)).block e2).2)) (.cons (fun _ _ => fun _ e e2 => absurd (u0_1.block e).1 (Nat.not_le.2 (((hK.get m2)).block e2).2)) (.cons (fun _ _ => fun e => absurd (u0_2.block e).1 (Nat.not_le.2 ((hK.get m6)).ltS)) (.cons (fun _ _ => fun _ e e2 => absurd (u0_2.block e).1 (Nat.not_le.2 (((hK.get m0)).block e2).2)) (.cons (fun _ _ => fun _ e e2 => absurd (u0_2.block e).1 (Nat.not_le.2 (((hK.get m1)).block e2).2)) (.cons (fun _ _ => fun _ e e2 => absurd (u0_2.block e).1 (Nat.not_le.2 (((hK.get m2)).block e2).2)) (.cons (fun _ _ => fun e => absurd (u0_3.block e).1 (Nat.not_le.2 ((hK.get m6)).ltS)) (.cons (fun _ _ => fun _ e e2 => absurd (u0_3.block e).1 (Nat.not_le.2 (((hK.get m0)).block e2).2)) (.cons (fun _ _ => fun _ e e2 => absurd (u0_3.block e).1 (Nat.not_le.2 (((hK.get m1)).block e2).2)) (.cons (fun _ _ => fun _ e e2 => absurd (u0_3.block e).1 (Nat.not_le.2 (((hK.get m2)).block e2).2)) (Lasts.nil _)))))))))))))))⟩
    intro sv9
    simp only [Act.put, pA, pB, pC, pD, pE]
    refine Tx.know (Pr := ob sv9.a.p ≠ some R1) (fun w' hK => hK.get m3) (fun n10 => ?_)
    refine Tx.know (Pr := ∀ g, ob sv9.a.p = some g → ob sv5.a.p ≠ some g) (fun w' hK => hK.get m4) (fun n11 => ?_)
    refine Tx.know (Pr := ∀ g, ob sv9.a.p = some g → ob sv5.b.a.p ≠ some g) (fun w' hK => hK.get m5) (fun n12 => ?_)
    refine Tx.know (Pr := ∀ g, ob sv9.a.p = some g → ob sv5.b.b.p ≠ some g) (fun w' hK => hK.get m6) (fun n13 => ?_)
    refine Tx.know (Pr := ob sv9.b.a.p ≠ some R1) (fun w' hK => hK.get m7) (fun n14 => ?_)
    refine Tx.know (Pr := ∀ g, ob sv9.b.a.p = some g → ob sv5.a.p ≠ some g) (fun w' hK => hK.get m8) (fun n15 => ?_)
    refine Tx.know (Pr := ∀ g, ob sv9.b.a.p = some g → ob sv5.b.a.p ≠ some g) (fun w' hK => hK.get m9) (fun n16 => ?_)
    refine Tx.know (Pr := ∀ g, ob sv9.b.a.p = some g → ob sv5.b.b.p ≠ some g) (fun w' hK => hK.get m10) (fun n17 => ?_)
    refine Tx.know (Pr := ob sv9.b.b.p ≠ some R1) (fun w' hK => hK.get m11) (fun n18 => ?_)
    refine Tx.know (Pr := ∀ g, ob sv9.b.b.p = some g → ob sv5.a.p ≠ some g) (fun w' hK => hK.get m12) (fun n19 => ?_)
    refine Tx.know (Pr := ∀ g, ob sv9.b.b.p = some g → ob sv5.b.a.p ≠ some g) (fun w' hK => hK.get m13) (fun n20 => ?_)
    refine Tx.know (Pr := ∀ g, ob sv9.b.b.p = some g → ob sv5.b.b.p ≠ some g) (fun w' hK => hK.get m14) (fun n21 => ?_)
    apply txA2 (.cells #[.slice none 0 0, .slice none 0 0, .slice none 0 0] 49) (wants0 rfl)
    · intro w' hK; go_simp; rfl
    intro R22 q_R22
    have o_R1_R22 : R1 < R22 := q_R22.box m21
    have n23 : ob sv9.a.p ≠ some R22 := q_R22.row m0
    have n24 : ob sv9.b.a.p ≠ some R22 := q_R22.row m1
    have n25 : ob sv9.b.b.p ≠ some R22 := q_R22.row m2
    have n26 : ob sv5.a.p ≠ some R22 := q_R22.row m15
    have n27 : ob sv5.b.a.p ≠ some R22 := q_R22.row m16
    have n28 : ob sv5.b.b.p ≠ some R22 := q_R22.row m17
    clear q_R22
    simp only [mkOf, Act.put, pA, pB, pC]
    refine tS m0 0 [.slice sv9.a.p ((ofSm s)).c.length sv9.a.c, .slice sv9.b.a.p ((ofSm s)).A.length sv9.b.a.c, .slice sv9.b.b.p ((ofSm s)).b.length sv9.b.b.c] (fun w' hK _ ni => kP [.slice sv9.a.p ((ofSm s)).c.length sv9.a.c, .slice sv9.b.a.p ((ofSm s)).A.length sv9.b.a.c, .slice sv9.b.b.p ((ofSm s)).b.length sv9.b.b.c] (kK (spO n23 (.inr (ni.no rfl))) (kK (spO n24 (.inr (ni.no rfl))) (kK (spO n25 (.inr (ni.no rfl))) (kC (kC (kC (kC (kC (kC (kC (kC (kC (kC (kC (kC (kK (spO n26 (.inr (ni.no rfl))) (kK (spO n27 (.inr (ni.no rfl))) (kK (spO n28 (.inr (ni.no rfl))) (kC (kC (kC (kL o_R1_R22 kZ))))))))))))))))))))))) ?_
    refine txEnd (fun W29 hK => ?_)
    go_upto_region 6 with (fail)
    refine wp_region_tx w hK ?_
    clear hK
    refine tF ?_
    apply txE (α := Sl) (fun sv => .slice sv.p (frL xs).length sv.c) (fun sv => [fun w1 => OwV refK 41 w.heap.size w1 (.slice sv.p (frL xs).length sv.c) (frL xs), fun _ => ob sv.p ≠ some R1, fun _ => ob sv.p ≠ some R22, fun _ => ∀ g, ob sv.p = some g → ob sv9.a.p ≠ some g, fun _ => ∀ g, ob sv.p = some g → ob sv9.b.a.p ≠ some g, fun _ => ∀ g, ob sv.p = some g → ob sv9.b.b.p ≠ some g, fun _ => ∀ g, ob sv.p = some g → ob sv5.a.p ≠ some g, fun _ => ∀ g, ob sv.p = some g → ob sv5.b.a.p ≠ some g, fun _ => ∀ g, ob sv.p = some g → ob sv5.b.b.p ≠ some g]) (wants0 rfl)
    · intro f1 l1 hl1 w' hK; go_simp; (try go_bits); refine (fof_any (.slice p_h1 xs.length c_h1) xs w' (h1_0.below hK.old) (by omega) hx).mono ?_; rintro e w5 ⟨y0, rfl, u0, hb⟩; obtain ⟨rfl, rfl⟩ := hl1.out; have u0_0 := u0; obtain ⟨p_u0, c_u0, rfl, n_u0⟩ := u0.sh; exact ⟨_, rfl, (⟨p_u0, 0, c_u0⟩ : Sl), rfl, hb, .cons (fun w2 h2 => (u0_0.mono hK.old.size).below h2) (.cons (fun _ _ => fun e => absurd (u0_0.block e).1 (Nat.not_le.2 ((hK.get m22)).ltS)) (.cons (fun _ _ => fun e => absurd (u0_0.block e).1 (Nat.not_le.2 ((hK.get m0)).ltS)) (.cons (fun _ _ => fun _ e e2 => absurd (u0_0.block e).1 (Nat.not_le.2 (((hK.get m1)).block e2).2)) (.cons (fun _ _ => fun _ e e2 => absurd (u0_0.block e).1 (Nat.not_le.2 (((hK.get m2)).block e2).2)) (.cons (fun _ _ => fun _ e e2 => absurd (u0_0.block e).1 (Nat.not_le.2 (((hK.get m3)).block e2).2)) (.cons (fun _ _ => fun _ e e2 => absurd (u0_0.block e).1 (Nat.not_le.2 (((hK.get m16)).block e2).2)) (.cons (fun _ _ => fun _ e e2 => absurd (u0_0.block e).1 (Nat.not_le.2 (((hK.get m17)).block e2).2)) (.cons (fun _ _ => fun _ e e2 => absurd (u0_0.block e).1 (Nat.not_le.2 (((hK.get m18)).block e2).2)) (Lasts.nil _)))))))))⟩
    intro sv30
    simp only [Act.put, pA, pB, pC, pD, pE]
    refine Tx.know (Pr := ob sv30.p ≠ some R1) (fun w' hK => hK.get m1) (fun n31 => ?_)
    refine Tx.know (Pr := ob sv30.p ≠ some R22) (fun w' hK => hK.get m2) (fun n32 => ?_)
    refine Tx.know (Pr := ∀ g, ob sv30.p = some g → ob sv9.a.p ≠ some g) (fun w' hK => hK.get m3) (fun n33 => ?_)
    refine Tx.know (Pr := ∀ g, ob sv30.p = some g → ob sv9.b.a.p ≠ some g) (fun w' hK => hK.get m4) (fun n34 => ?_)
    refine Tx.know (Pr := ∀ g, ob sv30.p = some g → ob sv9.b.b.p ≠ some g) (fun w' hK => hK.get m5) (fun n35 => ?_)
    refine Tx.know (Pr := ∀ g, ob sv30.p = some g → ob sv5.a.p ≠ some g) (fun w' hK => hK.get m6) (fun n36 => ?_)
    refine Tx.know (Pr := ∀ g, ob sv30.p = some g → ob sv5.b.a.p ≠ some g) (fun w' hK => hK.get m7) (fun n37 => ?_)
    refine Tx.know (Pr := ∀ g, ob sv30.p = some g → ob sv5.b.b.p ≠ some g) (fun w' hK => hK.get m8) (fun n38 => ?_)
    apply txE (α := Sl) (fun sv => .slice sv.p ((frL xs)).length sv.c) (fun sv => [fun w1 => OwV ratK 55 w.heap.size w1 (.slice sv.p ((frL xs)).length sv.c) ((frL xs)), fun _ => ob sv.p ≠ some R1, fun _ => ob sv.p ≠ some R22, fun _ => ∀ g, ob sv.p = some g → ob sv30.p ≠ some g, fun _ => ∀ g, ob sv.p = some g → ob sv9.a.p ≠ some g, fun _ => ∀ g, ob sv.p = some g → ob sv9.b.a.p ≠ some g, fun _ => ∀ g, ob sv.p = some g → ob sv9.b.b.p ≠ some g, fun _ => ∀ g, ob sv.p = some g → ob sv5.a.p ≠ some g, fun _ => ∀ g, ob sv.p = some g → ob sv5.b.a.p ≠ some g, fun _ => ∀ g, ob sv.p = some g → ob sv5.b.b.p ≠ some g]) (wants0 rfl)
    · intro f1 l1 hl1 w' hK; go_simp; (try go_bits); refine (numbers_any (.slice sv30.p (frL xs).length sv30.c) (frL xs) w' (hK.get m0).slv (hB0.below hK.old) (by rw [frL_len]; omega) ((frL_lm hx).up (by decide))).mono ?_; rintro e w5 ⟨y0, rfl, u0, hb⟩; obtain ⟨rfl, rfl⟩ := hl1.out; have u0_0 := u0; obtain ⟨p_u0, c_u0, rfl, n_u0⟩ := u0.sh; exact ⟨_, rfl, (⟨p_u0, 0, c_u0⟩ : Sl), rfl, hb, .cons (fun w2 h2 => (u0_0.mono hK.old.size).below h2) (.cons (fun _ _ => fun e => absurd (u0_0.block e).1 (Nat.not_le.2 ((hK.get (ms (ms (ms (ms (ms (ms (ms m24))))))))).ltS)) (.cons (fun _ _ => fun e => absurd (u0_0.block e).1 (Nat.not_le.2 ((hK.get m9)).ltS)) (.cons (fun _ _ => fun _ e e2 => absurd (u0_0.block e).1 (Nat.not_le.2 (((hK.get m0)).block e2).2)) (.cons (fun _ _ => fun _ e e2 => absurd (u0_0.block e).1 (Nat.not_le.2 (((hK.get m10)).block e2).2)) (.cons (fun _ _ => fun _ e e2 => absurd (u0_0.block e).1 (Nat.not_le.2 (((hK.get m11)).block e2).2)) (.cons (fun _ _ => fun _ e e2 => absurd (u0_0.block e).1 (Nat.not_le.2 (((hK.get m12)).block e2).2)) (.cons (fun _ _ => fun _ e e2 => absurd (u0_0.block e).1 (Nat.not_le.2 (((hK.get m25)).block e2).2)) (.cons (fun _ _ => fun _ e e2 => absurd (u0_0.block e).1 (Nat.not_le.2 (((hK.get m26)).block e2).2)) (.cons (fun _ _ => fun _ e e2 => absurd (u0_0.block e).1 (Nat.not_le.2 (((hK.get m27)).block e2).2)) (Lasts.nil _))))))))))⟩
    intro sv39
    simp only [Act.put, pA, pB, pC, pD, pE]
    refine Tx.know (Pr := ob sv39.p ≠ some R1) (fun w' hK => hK.get m1) (fun n40 => ?_)
    refine Tx.know (Pr := ob sv39.p ≠ some R22) (fun w' hK => hK.get m2) (fun n41 => ?_)
    refine Tx.know (Pr := ∀ g, ob sv39.p = some g → ob sv30.p ≠ some g) (fun w' hK => hK.get m3) (fun n42 => ?_)
    refine Tx.know (Pr := ∀ g, ob sv39.p = some g → ob sv9.a.p ≠ some g) (fun w' hK => hK.get m4) (fun n43 => ?_)
    refine Tx.know (Pr := ∀ g, ob sv39.p = some g → ob sv9.b.a.p ≠ some g) (fun w' hK => hK.get m5) (fun n44 => ?_)
    refine Tx.know (Pr := ∀ g, ob sv39.p = some g → ob sv9.b.b.p ≠ some g) (fun w' hK => hK.get m6) (fun n45 => ?_)
    refine Tx.know (Pr := ∀ g, ob sv39.p = some g → ob sv5.a.p ≠ some g) (fun w' hK => hK.get m7) (fun n46 => ?_)
    refine Tx.know (Pr := ∀ g, ob sv39.p = some g → ob sv5.b.a.p ≠ some g) (fun w' hK => hK.get m8) (fun n47 => ?_)
    refine Tx.know (Pr := ∀ g, ob sv39.p = some g → ob sv5.b.b.p ≠ some g) (fun w' hK => hK.get m9) (fun n48 => ?_)
    refine tF ?_
    apply txE (α := Sl) (fun sv => .slice sv.p (frL ys).length sv.c) (fun sv => [fun w1 => OwV refK 41 w.heap.size w1 (.slice sv.p (frL ys).length sv.c) (frL ys), fun _ => ob sv.p ≠ some R1, fun _ => ob sv.p ≠ some R22, fun _ => ∀ g, ob sv.p = some g → ob sv39.p ≠ some g, fun _ => ∀ g, ob sv.p = some g → ob sv30.p ≠ some g, fun _ => ∀ g, ob sv.p = some g → ob sv9.a.p ≠ some g, fun _ => ∀ g, ob sv.p = some g → ob sv9.b.a.p ≠ some g, fun _ => ∀ g, ob sv.p = some g → ob sv9.b.b.p ≠ some g, fun _ => ∀ g, ob sv.p = some g → ob sv5.a.p ≠ some g, fun _ => ∀ g, ob sv.p = some g → ob sv5.b.a.p ≠ some g, fun _ => ∀ g, ob sv.p = some g → ob sv5.b.b.p ≠ some g]) (wants0 rfl)
    · intro f1 l1 hl1 w' hK; go_simp; (try go_bits); refine (fof_any (.slice p_h2 ys.length c_h2) ys w' (h2_0.below hK.old) (by omega) hy).mono ?_; rintro e w5 ⟨y0, rfl, u0, hb⟩; obtain ⟨rfl, rfl⟩ := hl1.out; have u0_0 := u0; obtain ⟨p_u0, c_u0, rfl, n_u0⟩ := u0.sh; exact ⟨_, rfl, (⟨p_u0, 0, c_u0⟩ : Sl), rfl, hb, .cons (fun w2 h2 => (u0_0.mono hK.old.size).below h2) (.cons (fun _ _ => fun e => absurd (u0_0.block e).1 (Nat.not_le.2 ((hK.get (ms (ms (ms (ms (ms (ms (ms (ms (ms (ms (ms (ms (ms (ms (ms (ms (ms m24))))))))))))))))))).ltS)) (.cons (fun _ _ => fun e => absurd (u0_0.block e).1 (Nat.not_le.2 ((hK.get m19)).ltS)) (.cons (fun _ _ => fun _ e e2 => absurd (u0_0.block e).1 (Nat.not_le.2 (((hK.get m0)).block e2).2)) (.cons (fun _ _ => fun _ e e2 => absurd (u0_0.block e).1 (Nat.not_le.2 (((hK.get m10)).block e2).2)) (.cons (fun _ _ => fun _ e e2 => absurd (u0_0.block e).1 (Nat.not_le.2 (((hK.get m20)).block e2).2)) (.cons (fun _ _ => fun _ e e2 => absurd (u0_0.block e).1 (Nat.not_le.2 (((hK.get m21)).block e2).2)) (.cons (fun _ _ => fun _ e e2 => absurd (u0_0.block e).1 (Nat.not_le.2 (((hK.get m22)).block e2).2)) (.cons (fun _ _ => fun _ e e2 => absurd (u0_0.block e).1 (Nat.not_le.2 (((hK.get (ms (ms (ms (ms (ms (ms (ms (ms (ms (ms (ms m24))))))))))))).block e2).2)) (.cons (fun _ _ => fun _ e e2 => absurd (u0_0.block e).1 (Nat.not_le.2 (((hK.get (ms (ms (ms (ms (ms (ms (ms (ms (ms (ms (ms (ms m24)))))))))))))).block e2).2)) (.cons (fun _ _ => fun _ e e2 => absurd (u0_0.block e).1 (Nat.not_le.2 (((hK.get (ms (ms (ms (ms (ms (ms (ms (ms (ms (ms (ms (ms (ms m24))))))))))))))).block e2).2)) (Lasts.nil _)))))))))))⟩
    intro sv49
    simp only [Act.put, pA, pB, pC, pD, pE]
    refine Tx.know (Pr := ob sv49.p ≠ some R1) (fun w' hK => hK.get m1) (fun n50 => ?_)
    refine Tx.know (Pr := ob sv49.p ≠ some R22) (fun w' hK => hK.get m2) (fun n51 => ?_)
    refine Tx.know (Pr := ∀ g, ob sv49.p = some g → ob sv39.p ≠ some g) (fun w' hK => hK.get m3) (fun n52 => ?_)
    refine Tx.know (Pr := ∀ g, ob sv49.p = some g → ob sv30.p ≠ some g) (fun w' hK => hK.get m4) (fun n53 => ?_)
    refine Tx.know (Pr := ∀ g, ob sv49.p = some g → ob sv9.a.p ≠ some g) (fun w' hK => hK.get m5) (fun n54 => ?_)
    refine Tx.know (Pr := ∀ g, ob sv49.p = some g → ob sv9.b.a.p ≠ some g) (fun w' hK => hK.get m6) (fun n55 => ?_)
    refine Tx.know (Pr := ∀ g, ob sv49.p = some g → ob sv9.b.b.p ≠ some g) (fun w' hK => hK.get m7) (fun n56 => ?_)
    refine Tx.know (Pr := ∀ g, ob sv49.p = some g → ob sv5.a.p ≠ some g) (fun w' hK => hK.get m8) (fun n57 => ?_)
    refine Tx.know (Pr := ∀ g, ob sv49.p = some g → ob sv5.b.a.p ≠ some g) (fun w' hK => hK.get m9) (fun n58 => ?_)
    refine Tx.know (Pr := ∀ g, ob sv49.p = some g → ob sv5.b.b.p ≠ some g) (fun w' hK => hK.get m10) (fun n59 => ?_)
    apply txE (α := Sl) (fun sv => .slice sv.p ((frL ys)).length sv.c) (fun sv => [fun w1 => OwV ratK 55 w.heap.size w1 (.slice sv.p ((frL ys)).length sv.c) ((frL ys)), fun _ => ob sv.p ≠ some R1, fun _ => ob sv.p ≠ some R22, fun _ => ∀ g, ob sv.p = some g → ob sv49.p ≠ some g, fun _ => ∀ g, ob sv.p = some g → ob sv39.p ≠ some g, fun _ => ∀ g, ob sv.p = some g → ob sv30.p ≠ some g, fun _ => ∀ g, ob sv.p = some g → ob sv9.a.p ≠ some g, fun _ => ∀ g, ob sv.p = some g → ob sv9.b.a.p ≠ some g, fun _ => ∀ g, ob sv.p = some g → ob sv9.b.b.p ≠ some g, fun _ => ∀ g, ob sv.p = some g → ob sv5.a.p ≠ some g, fun _ => ∀ g, ob sv.p = some g → ob sv5.b.a.p ≠ some g, fun _ => ∀ g, ob sv.p = some g → ob sv5.b.b.p ≠ some g]) (wants0 rfl)
    · intro f1 l1 hl1 w' hK; go_simp; (try go_bits); refine (numbers_any (.slice sv49.p (frL ys).length sv49.c) (frL ys) w' (hK.get m0).slv (hB0.below hK.old) (by rw [frL_len]; omega) ((frL_lm hy).up (by decide))).mono ?_; rintro e w5 ⟨y0, rfl, u0, hb⟩; obtain ⟨rfl, rfl⟩ := hl1.out; have u0_0 := u0; obtain ⟨p_u0, c_u0, rfl, n_u0⟩ := u0.sh; exact ⟨_, rfl, (⟨p_u0, 0, c_u0⟩ : Sl), rfl, hb, .cons (fun w2 h2 => (u0_0.mono hK.old.size).below h2) (.cons (fun _ _ => fun e => absurd (u0_0.block e).1 (Nat.not_le.2 ((hK.get (ms (ms (ms (ms (ms (ms (ms (ms (ms (ms (ms (ms (ms (ms (ms (ms (ms (ms (ms (ms (ms (ms (ms (ms (ms (ms (ms (ms m24)))))))))))))))))))))))))))))).ltS)) (.cons (fun _ _ => fun e => absurd (u0_0.block e).1 (Nat.not_le.2 ((hK.get m30)).ltS)) (.cons (fun _ _ => fun _ e e2 => absurd (u0_0.block e).1 (Nat.not_le.2 (((hK.get m0)).block e2).2)) (.cons (fun _ _ => fun _ e e2 => absurd (u0_0.block e).1 (Nat.not_le.2 (((hK.get m11)).block e2).2)) (.cons (fun _ _ => fun _ e e2 => absurd (u0_0.block e).1 (Nat.not_le.2 (((hK.get m21)).block e2).2)) (.cons (fun _ _ => fun _ e e2 => absurd (u0_0.block e).1 (Nat.not_le.2 (((hK.get (ms (ms (ms (ms (ms (ms (ms m24))))))))).block e2).2)) (.cons (fun _ _ => fun _ e e2 => absurd (u0_0.block e).1 (Nat.not_le.2 (((hK.get (ms (ms (ms (ms (ms (ms (ms (ms m24)))))))))).block e2).2)) (.cons (fun _ _ => fun _ e e2 => absurd (u0_0.block e).1 (Nat.not_le.2 (((hK.get (ms (ms (ms (ms (ms (ms (ms (ms (ms m24))))))))))).block e2).2)) (.cons (fun _ _ => fun _ e e2 => absurd (u0_0.block e).1 (Nat.not_le.2 (((hK.get (ms (ms (ms (ms (ms (ms (ms (ms (ms (ms (ms (ms (ms (ms (ms (ms (ms (ms (ms (ms (ms (ms m24)))))))))))))))))))))))).block e2).2)) (.cons (fun _ _ => fun _ e e2 => absurd (u0_0.block e).1 (Nat.not_le.2 (((hK.get (ms (ms (ms (ms (ms (ms (ms (ms (ms (ms (ms (ms (ms (ms (ms (ms (ms (ms (ms (ms (ms (ms (ms m24))))))))))))))))))))))))).block e2).2)) (.cons (fun _ _ => fun _ e e2 => absurd (u0_0.block e).1 (Nat.not_le.2 (((hK.get (ms (ms (ms (ms (ms (ms (ms (ms (ms (ms (ms (ms (ms (ms (ms (ms (ms (ms (ms (ms (ms (ms (ms (ms m24)))))))))))))))))))))))))).block e2).2)) (Lasts.nil _))))))))))))⟩
    intro sv60
    simp only [Act.put, pA, pB, pC, pD, pE]
    refine Tx.know (Pr := ob sv60.p ≠ some R1) (fun w' hK => hK.get m1) (fun n61 => ?_)
    refine Tx.know (Pr := ob sv60.p ≠ some R22) (fun w' hK => hK.get m2) (fun n62 => ?_)
    refine Tx.know (Pr := ∀ g, ob sv60.p = some g → ob sv49.p ≠ some g) (fun w' hK => hK.get m3) (fun n63 => ?_)
    refine Tx.know (Pr := ∀ g, ob sv60.p = some g → ob sv39.p ≠ some g) (fun w' hK => hK.get m4) (fun n64 => ?_)
    refine Tx.know (Pr := ∀ g, ob sv60.p = some g → ob sv30.p ≠ some g) (fun w' hK => hK.get m5) (fun n65 => ?_)
    refine Tx.know (Pr := ∀ g, ob sv60.p = some g → ob sv9.a.p ≠ some g) (fun w' hK => hK.get m6) (fun n66 => ?_)
    refine Tx.know (Pr := ∀ g, ob sv60.p = some g → ob sv9.b.a.p ≠ some g) (fun w' hK => hK.get m7) (fun n67 => ?_)
    refine Tx.know (Pr := ∀ g, ob sv60.p = some g → ob sv9.b.b.p ≠ some g) (fun w' hK => hK.get m8) (fun n68 => ?_)
    refine Tx.know (Pr := ∀ g, ob sv60.p = some g → ob sv5.a.p ≠ some g) (fun w' hK => hK.get m9) (fun n69 => ?_)
    refine Tx.know (Pr := ∀ g, ob sv60.p = some g → ob sv5.b.a.p ≠ some g) (fun w' hK => hK.get m10) (fun n70 => ?_)
    refine Tx.know (Pr := ∀ g, ob sv60.p = some g → ob sv5.b.b.p ≠ some g) (fun w' hK => hK.get m11) (fun n71 => ?_)
    iterate 2 (refine tF ?_)
    refine txEnd (fun W72 hK => ?_)
    have an73 : (fun w1 => OwV ratK 55 w.heap.size w1 (.slice sv60.p ((frL ys)).length sv60.c) ((frL ys))) W72 := hK.get m0
    replace an73 : OwV ratK 55 w.heap.size W72 (.slice sv60.p ((frL ys)).length sv60.c) ((frL ys)) := an73
    have an74 : (fun w1 => OwV refK 41 w.heap.size w1 (.slice sv49.p (frL ys).length sv49.c) (frL ys)) W72 := hK.get m12
    replace an74 : OwV refK 41 w.heap.size W72 (.slice sv49.p (frL ys).length sv49.c) (frL ys) := an74
    have an75 : (fun w1 => OwV ratK 55 w.heap.size w1 (.slice sv39.p ((frL xs)).length sv39.c) ((frL xs))) W72 := hK.get m23
    replace an75 : OwV ratK 55 w.heap.size W72 (.slice sv39.p ((frL xs)).length sv39.c) ((frL xs)) := an75
    have an76 : (fun w1 => OwV refK 41 w.heap.size w1 (.slice sv30.p (frL xs).length sv30.c) (frL xs)) W72 := hK.get (ms (ms (ms (ms (ms (ms (ms (ms (ms m24)))))))))
    replace an76 : OwV refK 41 w.heap.size W72 (.slice sv30.p (frL xs).length sv30.c) (frL xs) := an76
    have an77 : (fun w1 => OwV ratK 55 w.heap.size w1 (.slice sv9.a.p ((ofSm s)).c.length sv9.a.c) (((ofSm s)).c)) W72 := hK.get (ms (ms (ms (ms (ms (ms (ms (ms (ms (ms (ms (ms (ms (ms (ms (ms (ms (ms (ms m24)))))))))))))))))))
    replace an77 : OwV ratK 55 w.heap.size W72 (.slice sv9.a.p ((ofSm s)).c.length sv9.a.c) (((ofSm s)).c) := an77
    have an78 : (fun w1 => OwV rrK 46 w.heap.size w1 (.slice sv9.b.a.p ((ofSm s)).A.length sv9.b.a.c) (((ofSm s)).A)) W72 := hK.get (ms (ms (ms (ms (ms (ms (ms (ms (ms (ms (ms (ms (ms (ms (ms (ms (ms (ms (ms (ms m24))))))))))))))))))))
    replace an78 : OwV rrK 46 w.heap.size W72 (.slice sv9.b.a.p ((ofSm s)).A.length sv9.b.a.c) (((ofSm s)).A) := an78
    have an79 : (fun w1 => OwV ratK 55 w.heap.size w1 (.slice sv9.b.b.p ((ofSm s)).b.length sv9.b.b.c) (((ofSm s)).b)) W72 := hK.get (ms (ms (ms (ms (ms (ms (ms (ms (ms (ms (ms (ms (ms (ms (ms (ms (ms (ms (ms (ms (ms m24)))))))))))))))))))))
    replace an79 : OwV ratK 55 w.heap.size W72 (.slice sv9.b.b.p ((ofSm s)).b.length sv9.b.b.c) (((ofSm s)).b) := an79
    have an80 : (fun w1 => OwV refK 41 w.heap.size w1 (.slice sv5.a.p (ofSm s).c.length sv5.a.c) ((ofSm s).c)) W72 := hK.get (ms (ms (ms (ms (ms (ms (ms (ms (ms (ms (ms (ms (ms (ms (ms (ms (ms (ms (ms (ms (ms (ms (ms (ms (ms (ms (ms (ms (ms (ms (ms (ms (ms (ms m24))))))))))))))))))))))))))))))))))
    replace an80 : OwV refK 41 w.heap.size W72 (.slice sv5.a.p (ofSm s).c.length sv5.a.c) ((ofSm s).c) := an80
    have an81 : (fun w1 => OwV rfK 33 w.heap.size w1 (.slice sv5.b.a.p (ofSm s).A.length sv5.b.a.c) ((ofSm s).A)) W72 := hK.get (ms (ms (ms (ms (ms (ms (ms (ms (ms (ms (ms (ms (ms (ms (ms (ms (ms (ms (ms (ms (ms (ms (ms (ms (ms (ms (ms (ms (ms (ms (ms (ms (ms (ms (ms m24)))))))))))))))))))))))))))))))))))
    replace an81 : OwV rfK 33 w.heap.size W72 (.slice sv5.b.a.p (ofSm s).A.length sv5.b.a.c) ((ofSm s).A) := an81
    have an82 : (fun w1 => OwV refK 41 w.heap.size w1 (.slice sv5.b.b.p (ofSm s).b.length sv5.b.b.c) ((ofSm s).b)) W72 := hK.get (ms (ms (ms (ms (ms (ms (ms (ms (ms (ms (ms (ms (ms (ms (ms (ms (ms (ms (ms (ms (ms (ms (ms (ms (ms (ms (ms (ms (ms (ms (ms (ms (ms (ms (ms (ms m24))))))))))))))))))))))))))))))))))))
    replace an82 : OwV refK 41 w.heap.size W72 (.slice sv5.b.b.p (ofSm s).b.length sv5.b.b.c) ((ofSm s).b) := an82
    replace hK := hK.add (F := GB W72 none) (fun w' hb => (GB.start W72 none).below hb)
    replace hK := hK.subl (sK (sC (sK (sK (sK (sK (sK (sK (sK (sK (sK (sK (sK (sC (sK (sK (sK (sK (sK (sK (sK (sK (sK (sK (sC (sK (sK (sK (sK (sK (sK (sK (sK (sK (sC (sK (sK (sK (sK (sK (sK (sK (sK (sK (sC (sC (sC (sK (sK (sK (sK (sK (sK (sK (sK (sK (sK (sK (sK (sC (sC (sC (sK (sK (sK (sK sZ))))))))))))))))))))))))))))))))))))))))))))))))))))))))))))))))))
    go_upto_region 7 with (fail)
    refine wp_region_tx w hK ?_
    clear hK
    refine tL (ms (ms (ms (ms (ms (ms (ms (ms (ms (ms (ms (ms (ms (ms (ms m24))))))))))))))) ?_
    iterate 2 (refine tF ?_)
    obtain ⟨z1, hz1⟩ : ∃ b : Int, RowKit.Hid ((gapE ((ofSm s)) ((frL xs)) ((frL ys))) = b) := ⟨_, hid rfl⟩
    refine tEQ (fun w' hK => gap_any (.agg #[.slice sv9.a.p ((ofSm s)).c.length sv9.a.c, .slice sv9.b.a.p ((ofSm s)).A.length sv9.b.a.c, .slice sv9.b.b.p ((ofSm s)).b.length sv9.b.b.c]) (.slice sv39.p ((frL xs)).length sv39.c) (.slice sv60.p ((frL ys)).length sv60.c) ((ofSm s)) ((frL xs)) ((frL ys)) w' (LpV.mk ((an77.below (GB.to (hK.get m0))).slv) ((an78.below (GB.to (hK.get m0))).slv) ((an79.below (GB.to (hK.get m0))).slv)) (an75.below (GB.to (hK.get m0))).slv (an73.below (GB.to (hK.get m0))).slv (ofSm_lm hs 300 (by decide)) ((frL_lm hx).up (by decide)) ((frL_lm hy).up (by decide)) (by rw [frL_len]; omega) (by rw [frL_len]; omega) (by rw [ofSm_b]; have := ofM_le s; omega)) (fun sv83 => ?_) (g := fun y => .tuple #[y, .int .i64 z1]) (hv := fun _ => (by rw [hz1.out]))
    iterate 3 (refine tF ?_)
    apply txA2 (.cells #[.bool false, .slice none 0 0, .slice none 0 0] 55) (wants0 rfl)
    · intro w' hK; go_simp; rfl
    intro R84 q_R84
    have o_R1_R84 : R1 < R84 := q_R84.box (ms (ms (ms (ms (ms (ms (ms (ms (ms (ms (ms (ms (ms (ms (ms (ms (ms (ms (ms (ms (ms (ms (ms (ms (ms (ms (ms (ms (ms (ms (ms (ms (ms (ms m24))))))))))))))))))))))))))))))))))
    have o_R22_R84 : R22 < R84 := q_R84.box (ms (ms (ms (ms (ms (ms (ms (ms (ms (ms (ms (ms (ms (ms (ms (ms (ms (ms m24))))))))))))))))))
    have nb_R84_W72 : W72.heap.size ≤ R84 := q_R84.gb m3
    clear q_R84
    simp only [mkOf, Act.put, pA, pB, pC]
    apply txU 0 (Has w.heap.size R84 (.cells #[.bool (isN (gapQ ((ofSm s)) ((frL xs)) ((frL ys)))), .slice sv83.a.p sv83.a.l sv83.a.c, .slice sv83.b.p sv83.b.l sv83.b.c] 55)) (wants0 rfl)
    · intro l1 hl1 w' hK; have k_R84 := (hK.get m0); have ⟨c_R84_0, c_R84_1, c_R84_2⟩ := k_R84.c3; have f_R84 := k_R84.fz; have ni := hdIs_of k_R84; go_simp; obtain rfl := hl1.out; exact ⟨rfl, ks_put (R := R84) hK k_R84.1 0 [.bool (isN (gapQ ((ofSm s)) ((frL xs)) ((frL ys)))), .slice sv83.a.p sv83.a.l sv83.a.c, .slice sv83.b.p sv83.b.l sv83.b.c] (al1 (fun _ => has_put k_R84 _ _) (al1 (spQ (ni.no rfl) (hK.get m1)) (al1 (spN (ni.no rfl) (hK.get m2)) (al1 (spN (ni.no rfl) (hK.get m3)) (al1 (spGB nb_R84_W72 (hK.get m4)) (al1 (fun _ _ => (hK.get m5)) (al1 (fun _ _ => (hK.get m6)) (al1 (fun _ _ => (hK.get m7)) (al1 (fun _ _ => (hK.get m8)) (al1 (fun _ _ => (hK.get m9)) (al1 (fun _ _ => (hK.get m10)) (al1 (fun _ _ => (hK.get m11)) (al1 (fun _ _ => (hK.get m12)) (al1 (fun _ _ => (hK.get m13)) (al1 (fun _ _ => (hK.get m14)) (al1 (fun _ _ => (hK.get m15)) (al1 (fun _ _ => (hK.get m16)) (al1 (fun _ _ => (hK.get m17)) (al1 (fun _ _ => (hK.get m18)) (al1 (fun _ _ => (hK.get m19)) (al1 (fun _ _ => (hK.get m20)) (al1 (fun _ _ => (hK.get m21)) (al1 (fun _ _ => (hK.get m22)) (al1 (fun _ _ => (hK.get m23)) (al1 (fun _ _ => (hK.get m24)) (al1 (fun _ _ => (hK.get m25)) (al1 (fun _ _ => (hK.get m26)) (al1 (fun _ _ => (hK.get m27)) (al1 (fun _ _ => (hK.get m28)) (al1 (fun _ _ => (hK.get m29)) (al1 (fun _ _ => (hK.get m30)) (al1 (fun _ _ => (hK.get (ms (ms (ms (ms (ms (ms (ms m24))))))))) (al1 (fun _ _ => (hK.get (ms (ms (ms (ms (ms (ms (ms (ms m24)))))))))) (al1 (fun _ _ => (hK.get (ms (ms (ms (ms (ms (ms (ms (ms (ms m24))))))))))) (al1 (fun _ _ => (hK.get (ms (ms (ms (ms (ms (ms (ms (ms (ms (ms m24)))))))))))) (al1 (fun _ _ => (hK.get (ms (ms (ms (ms (ms (ms (ms (ms (ms (ms (ms m24))))))))))))) (al1 (fun _ _ => (hK.get (ms (ms (ms (ms (ms (ms (ms (ms (ms (ms (ms (ms m24)))))))))))))) (al1 (fun _ _ => (hK.get (ms (ms (ms (ms (ms (ms (ms (ms (ms (ms (ms (ms (ms m24))))))))))))))) (al1 (fun _ _ => (hK.get (ms (ms (ms (ms (ms (ms (ms (ms (ms (ms (ms (ms (ms (ms m24)))))))))))))))) (al1 (fun _ _ => (hK.get (ms (ms (ms (ms (ms (ms (ms (ms (ms (ms (ms (ms (ms (ms (ms m24))))))))))))))))) (al1 (fun _ _ => (hK.get (ms (ms (ms (ms (ms (ms (ms (ms (ms (ms (ms (ms (ms (ms (ms (ms m24)))))))))))))))))) (al1 (fun _ _ => (hK.get (ms (ms (ms (ms (ms (ms (ms (ms (ms (ms (ms (ms (ms (ms (ms (ms (ms m24))))))))))))))))))) (al1 (fun _ _ => (hK.get (ms (ms (ms (ms (ms (ms (ms (ms (ms (ms (ms (ms (ms (ms (ms (ms (ms (ms m24)))))))))))))))))))) (al1 (spL o_R22_R84 (hK.get (ms (ms (ms (ms (ms (ms (ms (ms (ms (ms (ms (ms (ms (ms (ms (ms (ms (ms (ms m24))))))))))))))))))))) (al1 (fun _ _ => (hK.get (ms (ms (ms (ms (ms (ms (ms (ms (ms (ms (ms (ms (ms (ms (ms (ms (ms (ms (ms (ms m24)))))))))))))))))))))) (al1 (fun _ _ => (hK.get (ms (ms (ms (ms (ms (ms (ms (ms (ms (ms (ms (ms (ms (ms (ms (ms (ms (ms (ms (ms (ms m24))))))))))))))))))))))) (al1 (fun _ _ => (hK.get (ms (ms (ms (ms (ms (ms (ms (ms (ms (ms (ms (ms (ms (ms (ms (ms (ms (ms (ms (ms (ms (ms m24)))))))))))))))))))))))) (al1 (fun _ _ => (hK.get (ms (ms (ms (ms (ms (ms (ms (ms (ms (ms (ms (ms (ms (ms (ms (ms (ms (ms (ms (ms (ms (ms (ms m24))))))))))))))))))))))))) (al1 (fun _ _ => (hK.get (ms (ms (ms (ms (ms (ms (ms (ms (ms (ms (ms (ms (ms (ms (ms (ms (ms (ms (ms (ms (ms (ms (ms (ms m24)))))))))))))))))))))))))) (al1 (fun _ _ => (hK.get (ms (ms (ms (ms (ms (ms (ms (ms (ms (ms (ms (ms (ms (ms (ms (ms (ms (ms (ms (ms (ms (ms (ms (ms (ms m24))))))))))))))))))))))))))) (al1 (fun _ _ => (hK.get (ms (ms (ms (ms (ms (ms (ms (ms (ms (ms (ms (ms (ms (ms (ms (ms (ms (ms (ms (ms (ms (ms (ms (ms (ms (ms m24)))))))))))))))))))))))))))) (al1 (fun _ _ => (hK.get (ms (ms (ms (ms (ms (ms (ms (ms (ms (ms (ms (ms (ms (ms (ms (ms (ms (ms (ms (ms (ms (ms (ms (ms (ms (ms (ms m24))))))))))))))))))))))))))))) (al1 (fun _ _ => (hK.get (ms (ms (ms (ms (ms (ms (ms (ms (ms (ms (ms (ms (ms (ms (ms (ms (ms (ms (ms (ms (ms (ms (ms (ms (ms (ms (ms (ms m24)))))))))))))))))))))))))))))) (al1 (fun _ _ => (hK.get (ms (ms (ms (ms (ms (ms (ms (ms (ms (ms (ms (ms (ms (ms (ms (ms (ms (ms (ms (ms (ms (ms (ms (ms (ms (ms (ms (ms (ms m24))))))))))))))))))))))))))))))) (al1 (fun _ _ => (hK.get (ms (ms (ms (ms (ms (ms (ms (ms (ms (ms (ms (ms (ms (ms (ms (ms (ms (ms (ms (ms (ms (ms (ms (ms (ms (ms (ms (ms (ms (ms m24)))))))))))))))))))))))))))))))) (al1 (fun _ _ => (hK.get (ms (ms (ms (ms (ms (ms (ms (ms (ms (ms (ms (ms (ms (ms (ms (ms (ms (ms (ms (ms (ms (ms (ms (ms (ms (ms (ms (ms (ms (ms (ms m24))))))))))))))))))))))))))))))))) (al1 (fun _ _ => (hK.get (ms (ms (ms (ms (ms (ms (ms (ms (ms (ms (ms (ms (ms (ms (ms (ms (ms (ms (ms (ms (ms (ms (ms (ms (ms (ms (ms (ms (ms (ms (ms (ms m24)))))))))))))))))))))))))))))))))) (al1 (fun _ _ => (hK.get (ms (ms (ms (ms (ms (ms (ms (ms (ms (ms (ms (ms (ms (ms (ms (ms (ms (ms (ms (ms (ms (ms (ms (ms (ms (ms (ms (ms (ms (ms (ms (ms (ms m24))))))))))))))))))))))))))))))))))) (al1 (fun _ _ => (hK.get (ms (ms (ms (ms (ms (ms (ms (ms (ms (ms (ms (ms (ms (ms (ms (ms (ms (ms (ms (ms (ms (ms (ms (ms (ms (ms (ms (ms (ms (ms (ms (ms (ms (ms m24)))))))))))))))))))))))))))))))))))) (al1 (spL o_R1_R84 (hK.get (ms (ms (ms (ms (ms (ms (ms (ms (ms (ms (ms (ms (ms (ms (ms (ms (ms (ms (ms (ms (ms (ms (ms (ms (ms (ms (ms (ms (ms (ms (ms (ms (ms (ms (ms m24))))))))))))))))))))))))))))))))))))) aN))))))))))))))))))))))))))))))))))))))))))))))))))))))))))))⟩
    simp only [Act.put, pB]
    refine tF ?_
    refine txEnd (fun W85 hK => ?_)
    go_upto_region 8 with (fail)
    refine wp_region_tx w hK ?_
    clear hK
    refine tF ?_
    refine tB (z1 != 0) (fun b3 hb3 => ?_)
    refine txEnd (fun W86 hK => ?_)
    cases b3
    · --
     have hwl := hid (weak_law (ofSm_v s) (show gapE (ofSm s) (frL xs) (frL ys) = 0 from by rw [hz1.out]; have q := hb3.out; simpa using q))
     go_upto_region 10 with (fail)
     refine wp_region_tx w hK ?_
     clear hK
     refine tL (ms (ms (ms (ms (ms (ms (ms (ms (ms (ms (ms (ms (ms (ms (ms (ms (ms (ms (ms m24))))))))))))))))))) ?_
     refine tF ?_
     obtain ⟨z2, hz2⟩ : ∃ b : Int, RowKit.Hid ((valE ((ofSm s)) ((frL xs))) = b) := ⟨_, hid rfl⟩
     refine tEQ (fun w' hK => value_any (.agg #[.slice sv9.a.p ((ofSm s)).c.length sv9.a.c, .slice sv9.b.a.p ((ofSm s)).A.length sv9.b.a.c, .slice sv9.b.b.p ((ofSm s)).b.length sv9.b.b.c]) (.slice sv39.p ((frL xs)).length sv39.c) ((ofSm s)) ((frL xs)) w' (LpV.mk ((an77.below (GB.to (hK.get m4))).slv) ((an78.below (GB.to (hK.get m4))).slv) ((an79.below (GB.to (hK.get m4))).slv)) (an75.below (GB.to (hK.get m4))).slv (ofSm_lm hs 300 (by decide)) ((frL_lm hx).up (by decide)) (by rw [frL_len]; omega) (by rw [ofSm_b]; have := ofM_le s; omega)) (fun sv87 => ?_) (g := fun y => .tuple #[y, .int .i64 z2]) (hv := fun _ => (by rw [hz2.out]))
     iterate 3 (refine tF ?_)
     apply txA2 (.cells #[.bool false, .slice none 0 0, .slice none 0 0] 55) (wants0 rfl)
     · intro w' hK; go_simp; rfl
     intro R88 q_R88
     have o_R1_R88 : R1 < R88 := q_R88.box (ms (ms (ms (ms (ms (ms (ms (ms (ms (ms (ms (ms (ms (ms (ms (ms (ms (ms (ms (ms (ms (ms (ms (ms (ms (ms (ms (ms (ms (ms (ms (ms (ms (ms (ms (ms (ms (ms m24))))))))))))))))))))))))))))))))))))))
     have o_R22_R88 : R22 < R88 := q_R88.box (ms (ms (ms (ms (ms (ms (ms (ms (ms (ms (ms (ms (ms (ms (ms (ms (ms (ms (ms (ms (ms (ms m24))))))))))))))))))))))
     have o_R84_R88 : R84 < R88 := q_R88.box m3
     have nb_R88_W72 : W72.heap.size ≤ R88 := q_R88.gb m7
     clear q_R88
     simp only [mkOf, Act.put, pA, pB, pC]
     apply txU 0 (Has w.heap.size R88 (.cells #[.bool (isN (valR ((ofSm s)) ((frL xs)))), .slice sv87.a.p sv87.a.l sv87.a.c, .slice sv87.b.p sv87.b.l sv87.b.c] 55)) (wants0 rfl)
     · intro l1 hl1 w' hK; have k_R88 := (hK.get m0); have ⟨c_R88_0, c_R88_1, c_R88_2⟩ := k_R88.c3; have f_R88 := k_R88.fz; have ni := hdIs_of k_R88; go_simp; obtain rfl := hl1.out; exact ⟨rfl, ks_put (R := R88) hK k_R88.1 0 [.bool (isN (valR ((ofSm s)) ((frL xs)))), .slice sv87.a.p sv87.a.l sv87.a.c, .slice sv87.b.p sv87.b.l sv87.b.c] (al1 (fun _ => has_put k_R88 _ _) (al1 (spQ (ni.no rfl) (hK.get m1)) (al1 (spN (ni.no rfl) (hK.get m2)) (al1 (spN (ni.no rfl) (hK.get m3)) (al1 (spL o_R84_R88 (hK.get m4)) (al1 (spQ (ni.no rfl) (hK.get m5)) (al1 (spN (ni.no rfl) (hK.get m6)) (al1 (spN (ni.no rfl) (hK.get m7)) (al1 (spGB nb_R88_W72 (hK.get m8)) (al1 (fun _ _ => (hK.get m9)) (al1 (fun _ _ => (hK.get m10)) (al1 (fun _ _ => (hK.get m11)) (al1 (fun _ _ => (hK.get m12)) (al1 (fun _ _ => (hK.get m13)) (al1 (fun _ _ => (hK.get m14)) (al1 (fun _ _ => (hK.get m15)) (al1 (fun _ _ => (hK.get m16)) (al1 (fun _ _ => (hK.get m17)) (al1 (fun _ _ => (hK.get m18)) (al1 (fun _ _ => (hK.get m19)) (al1 (fun _ _ => (hK.get m20)) (al1 (fun _ _ => (hK.get m21)) (al1 (fun _ _ => (hK.get m22)) (al1 (fun _ _ => (hK.get m23)) (al1 (fun _ _ => (hK.get m24)) (al1 (fun _ _ => (hK.get m25)) (al1 (fun _ _ => (hK.get m26)) (al1 (fun _ _ => (hK.get m27)) (al1 (fun _ _ => (hK.get m28)) (al1 (fun _ _ => (hK.get m29)) (al1 (fun _ _ => (hK.get m30)) (al1 (fun _ _ => (hK.get (ms (ms (ms (ms (ms (ms (ms m24))))))))) (al1 (fun _ _ => (hK.get (ms (ms (ms (ms (ms (ms (ms (ms m24)))))))))) (al1 (fun _ _ => (hK.get (ms (ms (ms (ms (ms (ms (ms (ms (ms m24))))))))))) (al1 (fun _ _ => (hK.get (ms (ms (ms (ms (ms (ms (ms (ms (ms (ms m24)))))))))))) (al1 (fun _ _ => (hK.get (ms (ms (ms (ms (ms (ms (ms (ms (ms (ms (ms m24))))))))))))) (al1 (fun _ _ => (hK.get (ms (ms (ms (ms (ms (ms (ms (ms (ms (ms (ms (ms m24)))))))))))))) (al1 (fun _ _ => (hK.get (ms (ms (ms (ms (ms (ms (ms (ms (ms (ms (ms (ms (ms m24))))))))))))))) (al1 (fun _ _ => (hK.get (ms (ms (ms (ms (ms (ms (ms (ms (ms (ms (ms (ms (ms (ms m24)))))))))))))))) (al1 (fun _ _ => (hK.get (ms (ms (ms (ms (ms (ms (ms (ms (ms (ms (ms (ms (ms (ms (ms m24))))))))))))))))) (al1 (fun _ _ => (hK.get (ms (ms (ms (ms (ms (ms (ms (ms (ms (ms (ms (ms (ms (ms (ms (ms m24)))))))))))))))))) (al1 (fun _ _ => (hK.get (ms (ms (ms (ms (ms (ms (ms (ms (ms (ms (ms (ms (ms (ms (ms (ms (ms m24))))))))))))))))))) (al1 (fun _ _ => (hK.get (ms (ms (ms (ms (ms (ms (ms (ms (ms (ms (ms (ms (ms (ms (ms (ms (ms (ms m24)))))))))))))))))))) (al1 (fun _ _ => (hK.get (ms (ms (ms (ms (ms (ms (ms (ms (ms (ms (ms (ms (ms (ms (ms (ms (ms (ms (ms m24))))))))))))))))))))) (al1 (fun _ _ => (hK.get (ms (ms (ms (ms (ms (ms (ms (ms (ms (ms (ms (ms (ms (ms (ms (ms (ms (ms (ms (ms m24)))))))))))))))))))))) (al1 (fun _ _ => (hK.get (ms (ms (ms (ms (ms (ms (ms (ms (ms (ms (ms (ms (ms (ms (ms (ms (ms (ms (ms (ms (ms m24))))))))))))))))))))))) (al1 (fun _ _ => (hK.get (ms (ms (ms (ms (ms (ms (ms (ms (ms (ms (ms (ms (ms (ms (ms (ms (ms (ms (ms (ms (ms (ms m24)))))))))))))))))))))))) (al1 (spL o_R22_R88 (hK.get (ms (ms (ms (ms (ms (ms (ms (ms (ms (ms (ms (ms (ms (ms (ms (ms (ms (ms (ms (ms (ms (ms (ms m24))))))))))))))))))))))))) (al1 (fun _ _ => (hK.get (ms (ms (ms (ms (ms (ms (ms (ms (ms (ms (ms (ms (ms (ms (ms (ms (ms (ms (ms (ms (ms (ms (ms (ms m24)))))))))))))))))))))))))) (al1 (fun _ _ => (hK.get (ms (ms (ms (ms (ms (ms (ms (ms (ms (ms (ms (ms (ms (ms (ms (ms (ms (ms (ms (ms (ms (ms (ms (ms (ms m24))))))))))))))))))))))))))) (al1 (fun _ _ => (hK.get (ms (ms (ms (ms (ms (ms (ms (ms (ms (ms (ms (ms (ms (ms (ms (ms (ms (ms (ms (ms (ms (ms (ms (ms (ms (ms m24)))))))))))))))))))))))))))) (al1 (fun _ _ => (hK.get (ms (ms (ms (ms (ms (ms (ms (ms (ms (ms (ms (ms (ms (ms (ms (ms (ms (ms (ms (ms (ms (ms (ms (ms (ms (ms (ms m24))))))))))))))))))))))))))))) (al1 (fun _ _ => (hK.get (ms (ms (ms (ms (ms (ms (ms (ms (ms (ms (ms (ms (ms (ms (ms (ms (ms (ms (ms (ms (ms (ms (ms (ms (ms (ms (ms (ms m24)))))))))))))))))))))))))))))) (al1 (fun _ _ => (hK.get (ms (ms (ms (ms (ms (ms (ms (ms (ms (ms (ms (ms (ms (ms (ms (ms (ms (ms (ms (ms (ms (ms (ms (ms (ms (ms (ms (ms (ms m24))))))))))))))))))))))))))))))) (al1 (fun _ _ => (hK.get (ms (ms (ms (ms (ms (ms (ms (ms (ms (ms (ms (ms (ms (ms (ms (ms (ms (ms (ms (ms (ms (ms (ms (ms (ms (ms (ms (ms (ms (ms m24)))))))))))))))))))))))))))))))) (al1 (fun _ _ => (hK.get (ms (ms (ms (ms (ms (ms (ms (ms (ms (ms (ms (ms (ms (ms (ms (ms (ms (ms (ms (ms (ms (ms (ms (ms (ms (ms (ms (ms (ms (ms (ms m24))))))))))))))))))))))))))))))))) (al1 (fun _ _ => (hK.get (ms (ms (ms (ms (ms (ms (ms (ms (ms (ms (ms (ms (ms (ms (ms (ms (ms (ms (ms (ms (ms (ms (ms (ms (ms (ms (ms (ms (ms (ms (ms (ms m24)))))))))))))))))))))))))))))))))) (al1 (fun _ _ => (hK.get (ms (ms (ms (ms (ms (ms (ms (ms (ms (ms (ms (ms (ms (ms (ms (ms (ms (ms (ms (ms (ms (ms (ms (ms (ms (ms (ms (ms (ms (ms (ms (ms (ms m24))))))))))))))))))))))))))))))))))) (al1 (fun _ _ => (hK.get (ms (ms (ms (ms (ms (ms (ms (ms (ms (ms (ms (ms (ms (ms (ms (ms (ms (ms (ms (ms (ms (ms (ms (ms (ms (ms (ms (ms (ms (ms (ms (ms (ms (ms m24)))))))))))))))))))))))))))))))))))) (al1 (fun _ _ => (hK.get (ms (ms (ms (ms (ms (ms (ms (ms (ms (ms (ms (ms (ms (ms (ms (ms (ms (ms (ms (ms (ms (ms (ms (ms (ms (ms (ms (ms (ms (ms (ms (ms (ms (ms (ms m24))))))))))))))))))))))))))))))))))))) (al1 (fun _ _ => (hK.get (ms (ms (ms (ms (ms (ms (ms (ms (ms (ms (ms (ms (ms (ms (ms (ms (ms (ms (ms (ms (ms (ms (ms (ms (ms (ms (ms (ms (ms (ms (ms (ms (ms (ms (ms (ms m24)))))))))))))))))))))))))))))))))))))) (al1 (fun _ _ => (hK.get (ms (ms (ms (ms (ms (ms (ms (ms (ms (ms (ms (ms (ms (ms (ms (ms (ms (ms (ms (ms (ms (ms (ms (ms (ms (ms (ms (ms (ms (ms (ms (ms (ms (ms (ms (ms (ms m24))))))))))))))))))))))))))))))))))))))) (al1 (fun _ _ => (hK.get (ms (ms (ms (ms (ms (ms (ms (ms (ms (ms (ms (ms (ms (ms (ms (ms (ms (ms (ms (ms (ms (ms (ms (ms (ms (ms (ms (ms (ms (ms (ms (ms (ms (ms (ms (ms (ms (ms m24)))))))))))))))))))))))))))))))))))))))) (al1 (spL o_R1_R88 (hK.get (ms (ms (ms (ms (ms (ms (ms (ms (ms (ms (ms (ms (ms (ms (ms (ms (ms (ms (ms (ms (ms (ms (ms (ms (ms (ms (ms (ms (ms (ms (ms (ms (ms (ms (ms (ms (ms (ms (ms m24))))))))))))))))))))))))))))))))))))))))) aN))))))))))))))))))))))))))))))))))))))))))))))))))))))))))))))))⟩
     simp only [Act.put, pB]
     refine tF ?_
     refine txEnd (fun W89 hK => ?_)
     go_upto_region 11 with (fail)
     have hK0 := hK
     refine wp_region_float0 (w) _ _ [0, 0, 0, 0, 1, 0, 0, 0, 0, 1, 0, 0, 0, 0, 0, 0, 1, 0, 0, 0] (by kernel_rfl) (by kernel_rfl) (by kernel_rfl) (by kernel_rfl) (KS.drew hK0) (KS.drew hK) ?_
     clear hK hK0
     refine lF ?_
     apply lxF0 (v := .bool true) (wants0 rfl); (· intro w' h0; go_simp; (try go_bits); exact ⟨congrArg Value.bool (by rw [← hz2.out, hwl.out.1]; rfl), rfl⟩); simp only [Act.put, pA, pB, pC]
     refine lF ?_
     refine lL m4 ?_
     obtain ⟨z3, hz3⟩ : ∃ b : Int, RowKit.Hid ((sgQ (gapQ ((ofSm s)) ((frL xs)) ((frL ys)))) = b) := ⟨_, hid rfl⟩
     refine lH (fun w' h0 hK => sign_any (.agg #[.bool (isN (gapQ ((ofSm s)) ((frL xs)) ((frL ys)))), .slice sv83.a.p sv83.a.l sv83.a.c, .slice sv83.b.p sv83.b.l sv83.b.c]) (gapQ ((ofSm s)) ((frL xs)) ((frL ys))) w' (hK.get m5)) ?_ (v := .int .i64 z3) (hv := (by rw [hz3.out]))
     apply lxF0 (v := .bool true) (wantsg (j := 2) (d := 53) (b := true) rfl rfl rfl rfl); (· intro w' h0; go_simp; (try go_bits); exact ⟨congrArg Value.bool (by have q := sg_nn hz3.out hwl.out.2.1; simpa using q), rfl⟩); simp only [Act.put, pA, pB, pC]
     iterate 2 (refine lF ?_)
     refine lL m4 ?_
     obtain ⟨z4, hz4⟩ : ∃ b : Int, RowKit.Hid ((sgQ (gapQ ((ofSm s)) ((frL xs)) ((frL ys)))) = b) := ⟨_, hid rfl⟩
     refine lH (fun w' h0 hK => sign_any (.agg #[.bool (isN (gapQ ((ofSm s)) ((frL xs)) ((frL ys)))), .slice sv83.a.p sv83.a.l sv83.a.c, .slice sv83.b.p sv83.b.l sv83.b.c]) (gapQ ((ofSm s)) ((frL xs)) ((frL ys))) w' (hK.get m5)) ?_ (v := .int .i64 z4) (hv := (by rw [hz4.out]))
     refine lB (z4 == 0) (fun b4 hb4 => ?_)
     refine lL (ms (ms (ms (ms (ms (ms (ms (ms (ms (ms (ms (ms (ms (ms (ms (ms (ms (ms (ms (ms (ms (ms (ms m24))))))))))))))))))))))) ?_
     iterate 2 (refine lF ?_)
     refine lL m0 ?_
     refine lF ?_
     obtain ⟨b5, hb5⟩ : ∃ b : Bool, RowKit.Hid ((chkB ((ofSm s)) (⟨1, (frL xs), (frL ys), [], valR ((ofSm s)) ((frL xs))⟩)) = b) := ⟨_, hid rfl⟩
     refine lH (fun w' h0 hK => check_any (.agg #[.slice sv9.a.p ((ofSm s)).c.length sv9.a.c, .slice sv9.b.a.p ((ofSm s)).A.length sv9.b.a.c, .slice sv9.b.b.p ((ofSm s)).b.length sv9.b.b.c]) (.agg #[.int .i64 1, .slice sv39.p ((frL xs)).length sv39.c, .slice sv60.p ((frL ys)).length sv60.c, .slice none 0 0, .bool (isN (valR ((ofSm s)) ((frL xs)))), .slice sv87.a.p sv87.a.l sv87.a.c, .slice sv87.b.p sv87.b.l sv87.b.c]) ((ofSm s)) (⟨1, (frL xs), (frL ys), [], valR ((ofSm s)) ((frL xs))⟩) w' (LpV.mk ((an77.below (GB.to (hK.get m8))).slv) ((an78.below (GB.to (hK.get m8))).slv) ((an79.below (GB.to (hK.get m8))).slv)) (LrV.mk ((an75.below (GB.to (hK.get m8))).slv) ((an73.below (GB.to (hK.get m8))).slv) SlV.nil ((hK.get m1))) (ofSm_lm hs 300 (by decide)) ⟨(frL_lm hx).up (by decide), (frL_lm hy).up (by decide), fun x h => (List.not_mem_nil h).elim, (valR_lm (ofSm_lm hs 4 (by decide)) (frL_lm hx)).up (by decide), by show (frL xs).length ≤ _; rw [frL_len]; omega, by show (frL ys).length ≤ _; rw [frL_len]; omega, Nat.zero_le _⟩ (by rw [ofSm_b]; have := ofM_le s; omega)) ?_ (v := .bool b5) (hv := (by rw [hb5.out]))
     apply lxF0 (v := .bool true) (wantsg (j := 7) (d := 58) (b := true) rfl rfl rfl rfl); (· intro w' h0; go_simp; (try go_bits); exact ⟨congrArg Value.bool (by rw [← hb4.out, ← hb5.out, hwl.out.2.2, sg_zb hz4.out]; simp), rfl⟩); simp only [Act.put, pA, pB, pC]
     iterate 2 (refine lF ?_)
     refine lxEnd (fun W90 hK => ?_)
     go_wp2
     try go_ret
     show Q0 (.returned (.bool true)) _
     exact (by obtain rfl := hQ0.out; exact ⟨rfl, hK.old⟩)
    · --
     go_upto_region 9 with (fail)
     refine wp_region_tx w hK ?_
     clear hK
     refine tL m0 ?_
     obtain ⟨z2, hz2⟩ : ∃ b : Int, RowKit.Hid ((sgQ (gapQ ((ofSm s)) ((frL xs)) ((frL ys)))) = b) := ⟨_, hid rfl⟩
     refine tH (fun w' hK => sign_any (.agg #[.bool (isN (gapQ ((ofSm s)) ((frL xs)) ((frL ys)))), .slice sv83.a.p sv83.a.l sv83.a.c, .slice sv83.b.p sv83.b.l sv83.b.c]) (gapQ ((ofSm s)) ((frL xs)) ((frL ys))) w' (hK.get m1)) ?_ (v := .int .i64 z2) (hv := (by rw [hz2.out]))
     refine tB (z2 == 0) (fun b4 hb4 => ?_)
     refine tF ?_
     refine txEnd (fun W91 hK => ?_)
     go_wp2
     try go_ret
     show Q0 (.returned (.bool b4)) _
     exact (by obtain rfl := hQ0.out; exact ⟨(ret_bool (by rw [← hb4.out, ← hz2.out, gap_none (by rw [hz1.out]; have q := hb3.out; simpa using q)]; decide)), hK.old⟩)
   · --
    have q_b2 : 10 < ((ys.length : Int)) := of_decide_eq_true hb2.out
    go_wp2
    try go_ret
    show Q0 (.returned (.bool true)) _
    exact (by obtain rfl := hQ0.out; exact ⟨rfl, hK.old⟩)
  · --
   have q_b1 : 10 < ((xs.length : Int)) := of_decide_eq_true hb1.out
   iterate 3 (refine tN ?_)
   refine tF ?_
   refine txEnd (fun W92 hK => ?_)
   go_wp2
   try go_ret
   show Q0 (.returned (.bool true)) _
   exact (by obtain rfl := hQ0.out; exact ⟨rfl, hK.old⟩)
end Go.Proofs.YtcdbgincfdejkaaGreatDoor
