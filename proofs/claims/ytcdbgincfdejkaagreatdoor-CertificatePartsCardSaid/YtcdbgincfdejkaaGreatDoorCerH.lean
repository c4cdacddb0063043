/- The law of the parts of certificates walked. -/
import Derived.Test.YtcdbgincfdejkaaGreatDoorTz
import Derived.Test.YtcdbgincfdejkaaGreatDoorCerG
namespace Go.Proofs.YtcdbgincfdejkaaGreatDoor
open Go.RowKit
open Go.Lib (decDigits)
set_option maxRecDepth 100000 in
set_option maxHeartbeats 4000000 in
theorem certificateParts_walk (v0 : Value) (v1 : Value) (v2 : Value) (s : Sm) (xs : List Frc) (ys : List Frc) (w : World) (h0 : SmV w v0 s) (h1 : SlV frK w v1 xs) (h2 : SlV frK w v2 ys) (hB0 : Bas w) (hs : s.Ok) (hx : ∀ x ∈ xs, x.Ok) (hy : ∀ x ∈ ys, x.Ok) :
    Calls Tryz.prog 5 #[v0, v1, v2] w fun e w' => e = .returned (.bool true) ∧ Below w.heap.size w w' := by
  have h0_0 := h0; obtain ⟨⟨p_h0, l_h0, c_h0⟩, ⟨q_h0, m_h0, d_h0⟩, ⟨r_h0, n_h0, e_h0⟩, rfl, h0_1, h0_2, h0_3⟩ := h0
  have h1_0 := h1; obtain ⟨p_h1, c_h1, rfl, n_h1⟩ := h1.sh
  have h2_0 := h2; obtain ⟨p_h2, c_h2, rfl, n_h2⟩ := h2.sh
  have hK := (KS.start w)
  refine Calls.hide (fun Q0 hQ0 => ?_)
  go_enter Tryz.func5, Tryz.ntmps5
  go_upto_region 0 with (fail)
  refine wp_region_tx w hK ?_
  clear hK
  refine tA (.cells #[.slice p_h0 s.c.length c_h0, .slice q_h0 s.a.length d_h0, .slice r_h0 s.b.length e_h0] 24) (fun R1 q_R1 => ?_)
  clear q_R1
  refine tF ?_
  refine txEnd (fun W2 hK => ?_)
  go_upto_region 1 with (fail)
  refine wp_region_tx w hK ?_
  clear hK
  refine tH (fun w' hK => awake41_any w' (hB0.below hK.old)) ?_
  refine tF ?_
  refine txEnd (fun W3 hK => ?_)
  go_upto_region 3 with (fail)
  refine wp_region_tx w hK ?_
  clear hK
  iterate 2 (refine tF ?_)
  refine tB (decide (10 < ((xs.length : Int)))) (fun b1 hb1 => ?_)
  refine tF ?_
  cases b1
  · --
   have q_b1 : ((xs.length : Int)) ≤ 10 := Int.not_lt.1 (of_decide_eq_false hb1.out)
   iterate 2 (refine tF ?_)
   refine tB (decide (10 < ((ys.length : Int)))) (fun b2 hb2 => ?_)
   refine tF ?_
   refine txEnd (fun W4 hK => ?_)
   cases b2
   · --
    have q_b2 : ((ys.length : Int)) ≤ 10 := Int.not_lt.1 (of_decide_eq_false hb2.out)
    go_upto_region 5 with (fail)
    refine wp_region_tx w hK ?_
    clear hK
    refine tL m0 ?_
    apply txE (α := Duo Sl (Duo Sl Sl)) (fun sv => .agg #[.slice sv.a.p (ofSm s).c.length sv.a.c, .slice sv.b.a.p (ofSm s).A.length sv.b.a.c, .slice sv.b.b.p (ofSm s).b.length sv.b.b.c]) (fun sv => [fun w1 => OwV refK 41 w.heap.size w1 (.slice sv.a.p (ofSm s).c.length sv.a.c) ((ofSm s).c), fun w1 => OwV rfK 33 w.heap.size w1 (.slice sv.b.a.p (ofSm s).A.length sv.b.a.c) ((ofSm s).A), fun w1 => OwV refK 41 w.heap.size w1 (.slice sv.b.b.p (ofSm s).b.length sv.b.b.c) ((ofSm s).b), fun _ => ob sv.a.p ≠ some R1, fun _ => ob sv.b.a.p ≠ some R1, fun _ => ob sv.b.b.p ≠ some R1]) (wants0 rfl)
    · intro f1 l1 hl1 w' hK; go_simp; (try go_bits); refine (smof_any (.agg #[.slice p_h0 s.c.length c_h0, .slice q_h0 s.a.length d_h0, .slice r_h0 s.b.length e_h0]) s w' (h0_0.below hK.old) hs).mono ?_; rintro e w5 ⟨y0, rfl, u0, hb⟩; obtain ⟨rfl, rfl⟩ := hl1.out; have u0_0 := u0; obtain ⟨⟨p_u0, l_u0, c_u0⟩, ⟨q_u0, m_u0, d_u0⟩, ⟨r_u0, n_u0, e_u0⟩, rfl, u0_1, u0_2, u0_3⟩ := u0; exact ⟨_, rfl, (⟨⟨p_u0, 0, c_u0⟩, ⟨⟨q_u0, 0, d_u0⟩, ⟨r_u0, 0, e_u0⟩⟩⟩ : Duo Sl (Duo Sl Sl)), rfl, hb, .cons (fun w2 h2 => (u0_1.mono hK.old.size).below h2) (.cons (fun w2 h2 => (u0_2.mono hK.old.size).below h2) (.cons (fun w2 h2 => (u0_3.mono hK.old.size).below h2) (.cons (fun _ _ => fun e => absurd (u0_1.block e).1 (Nat.not_le.2 ((hK.get m0)).ltS)) (.cons (fun _ _ => fun e => absurd (u0_2.block e).1 (Nat.not_le.2 ((hK.get m0)).ltS)) (.cons (fun _ _ => fun e => absurd (u0_3.block e).1 (Nat.not_le.2 ((hK.get m0)).ltS)) (Lasts.nil _))))))⟩
    intro sv5
    simp only [Act.put, pA, pB, pC, pD, pE]
    refine Tx.know (Pr := ob sv5.a.p ≠ some R1) (fun w' hK => hK.get m3) (fun n6 => ?_)
    refine Tx.know (Pr := ob sv5.b.a.p ≠ some R1) (fun w' hK => hK.get m4) (fun n7 => ?_)
    refine Tx.know (Pr := ob sv5.b.b.p ≠ some R1) (fun w' hK => hK.get m5) (fun n8 => ?_)
    apply txA2 (.cells #[.slice none 0 0, .slice none 0 0, .slice none 0 0] 36) (wants0 rfl)
    · intro w' hK; go_simp; rfl
    intro R9 q_R9
    have o_R1_R9 : R1 < R9 := q_R9.box m6
    have n10 : ob sv5.a.p ≠ some R9 := q_R9.row m0
    have n11 : ob sv5.b.a.p ≠ some R9 := q_R9.row m1
    have n12 : ob sv5.b.b.p ≠ some R9 := q_R9.row m2
    clear q_R9
    simp only [mkOf, Act.put, pA, pB, pC]
    refine tS m0 0 [.slice sv5.a.p (ofSm s).c.length sv5.a.c, .slice sv5.b.a.p (ofSm s).A.length sv5.b.a.c, .slice sv5.b.b.p (ofSm s).b.length sv5.b.b.c] (fun w' hK _ ni => kP [.slice sv5.a.p (ofSm s).c.length sv5.a.c, .slice sv5.b.a.p (ofSm s).A.length sv5.b.a.c, .slice sv5.b.b.p (ofSm s).b.length sv5.b.b.c] (kK (spO n10 (.inr (ni.no rfl))) (kK (spO n11 (.inr (ni.no rfl))) (kK (spO n12 (.inr (ni.no rfl))) (kC (kC (kC (kL o_R1_R9 kZ)))))))) ?_
    refine txEnd (fun W13 hK => ?_)
    go_upto_region 6 with (fail)
    refine wp_region_tx w hK ?_
    clear hK
    refine tL m0 ?_
    apply txE (α := Duo Sl (Duo Sl Sl)) (fun sv => .agg #[.slice sv.a.p ((ofSm s)).c.length sv.a.c, .slice sv.b.a.p ((ofSm s)).A.length sv.b.a.c, .slice sv.b.b.p ((ofSm s)).b.length sv.b.b.c]) (fun sv => [fun w1 => OwV ratK 55 w.heap.size w1 (.slice sv.a.p ((ofSm s)).c.length sv.a.c) (((ofSm s)).c), fun w1 => OwV rrK 46 w.heap.size w1 (.slice sv.b.a.p ((ofSm s)).A.length sv.b.a.c) (((ofSm s)).A), fun w1 => OwV ratK 55 w.heap.size w1 (.slice sv.b.b.p ((ofSm s)).b.length sv.b.b.c) (((ofSm s)).b), fun _ => ob sv.a.p ≠ some R1, fun _ => ob sv.a.p ≠ some R9, fun _ => ∀ g, ob sv.a.p = some g → ob sv5.a.p ≠ some g, fun _ => ∀ g, ob sv.a.p = some g → ob sv5.b.a.p ≠ some g, fun _ => ∀ g, ob sv.a.p = some g → ob sv5.b.b.p ≠ some g, fun _ => ob sv.b.a.p ≠ some R1, fun _ => ob sv.b.a.p ≠ some R9, fun _ => ∀ g, ob sv.b.a.p = some g → ob sv5.a.p ≠ some g, fun _ => ∀ g, ob sv.b.a.p = some g → ob sv5.b.a.p ≠ some g, fun _ => ∀ g, ob sv.b.a.p = some g → ob sv5.b.b.p ≠ some g, fun _ => ob sv.b.b.p ≠ some R1, fun _ => ob sv.b.b.p ≠ some R9, fun _ => ∀ g, ob sv.b.b.p = some g → ob sv5.a.p ≠ some g, fun _ => ∀ g, ob sv.b.b.p = some g → ob sv5.b.a.p ≠ some g, fun _ => ∀ g, ob sv.b.b.p = some g → ob sv5.b.b.p ≠ some g]) (wants0 rfl)
    · intro f1 l1 hl1 w' hK; go_simp; (try go_bits); refine (program_any (.agg #[.slice sv5.a.p (ofSm s).c.length sv5.a.c, .slice sv5.b.a.p (ofSm s).A.length sv5.b.a.c, .slice sv5.b.b.p (ofSm s).b.length sv5.b.b.c]) (ofSm s) w' (RpV.mk ((hK.get m1).slv) ((hK.get m2).slv) ((hK.get m3).slv)) (hB0.below hK.old) (ofSm_ok s) (ofSm_lm hs 50 (by decide))).mono ?_; rintro e w5 ⟨y0, rfl, u0, hb⟩; obtain ⟨rfl, rfl⟩ := hl1.out; have u0_0 := u0; obtain ⟨⟨p_u0, l_u0, c_u0⟩, ⟨q_u0, m_u0, d_u0⟩, ⟨r_u0, n_u0, e_u0⟩, rfl, u0_1, u0_2, u0_3⟩ := u0; exact ⟨_, rfl, (⟨⟨p_u0, 0, c_u0⟩, ⟨⟨q_u0, 0, d_u0⟩, ⟨r_u0, 0, e_u0⟩⟩⟩ : Duo Sl (Duo Sl Sl)), rfl, hb, .cons (fun w2 h2 => (u0_1.mono hK.old.size).below h2) (.cons (fun w2 h2 => (u0_2.mono hK.old.size).below h2) (.cons (fun w2 h2 => (u0_3.mono hK.old.size).below h2) (.cons (fun _ _ => fun e => absurd (u0_1.block e).1 (Nat.not_le.2 ((hK.get m7)).ltS)) (.cons (fun _ _ => fun e => absurd (u0_1.block e).1 (Nat.not_le.2 ((hK.get m0)).ltS)) (.cons (fun _ _ => fun _ e e2 => absurd (u0_1.block e).1 (Nat.not_le.2 (((hK.get m1)).block e2).2)) (.cons (fun _ _ => fun _ e e2 => absurd (u0_1.block e).1 (Nat.not_le.2 (((hK.get m2)).block e2).2)) (.cons (fun _ _ => fun _ e e2 => absurd (u0_1.block e).1 (Nat.not_le.2 (((hK.get m3)).block e2).2)) (.cons (fun _ _ => fun e => absurd (u0_2.block e).1 (Nat.not_le.2 ((hK.get m7)).ltS)) (.cons (fun _ _ => fun e => absurd (u0_2.block e).1 (Nat.not_le.2 ((hK.get m0)).ltS)) (.cons (fun _ _ => fun _ e e2 => absurd (u0_2.block e).1 (Nat.not_le.2 (((hK.get m1)).block e2).2)) (.cons (fun _ _ => fun _ e e2 => absurd (u0_2.block e).1 (Nat.not_le.2 (((hK.get m2)).block e2).2)) (.cons (fun _ _ => fun _ e e2 => absurd (u0_2.block e).1 (Nat.not_le.2 (((hK.get m3)).block e2).2)) (.cons (fun _ _ => fun e => absurd (u0_3.block e).1 (Nat.not_le.2 ((hK.get m7)).ltS)) (.cons (fun _ _ => fun e => absurd (u0_3.block e).1 (Nat.not_le.2 ((hK.get m0)).ltS)) (.cons (fun _ _ => fun _ e e2 => absurd (u0_3.block e).1 (Nat.not_le.2 (((hK.get m1)).block e2).2)) (.cons (fun _ _ => fun _ e e2 => absurd (u0_3.block e).1 (Nat.not_le.2 (((hK.get m2)).block e2).2)) (.cons (fun _ _ => fun _ e e2 => absurd (u0_3.block e).1 (Nat.not_le.2 (((hK.get m3)).block e2).2)) (Lasts.nil _))))))))))))))))))⟩
    intro sv14
    simp only [Act.put, pA, pB, pC, pD, pE]
    refine Tx.know (Pr := ob sv14.a.p ≠ some R1) (fun w' hK => hK.get m3) (fun n15 => ?_)
    refine Tx.know (Pr := ob sv14.a.p ≠ some R9) (fun w' hK => hK.get m4) (fun n16 => ?_)
    refine Tx.know (Pr := ∀ g, ob sv14.a.p = some g → ob sv5.a.p ≠ some g) (fun w' hK => hK.get m5) (fun n17 => ?_)
    refine Tx.know (Pr := ∀ g, ob sv14.a.p = some g → ob sv5.b.a.p ≠ some g) (fun w' hK => hK.get m6) (fun n18 => ?_)
    refine Tx.know (Pr := ∀ g, ob sv14.a.p = some g → ob sv5.b.b.p ≠ some g) (fun w' hK => hK.get m7) (fun n19 => ?_)
    refine Tx.know (Pr := ob sv14.b.a.p ≠ some R1) (fun w' hK => hK.get m8) (fun n20 => ?_)
    refine Tx.know (Pr := ob sv14.b.a.p ≠ some R9) (fun w' hK => hK.get m9) (fun n21 => ?_)
    refine Tx.know (Pr := ∀ g, ob sv14.b.a.p = some g → ob sv5.a.p ≠ some g) (fun w' hK => hK.get m10) (fun n22 => ?_)
    refine Tx.know (Pr := ∀ g, ob sv14.b.a.p = some g → ob sv5.b.a.p ≠ some g) (fun w' hK => hK.get m11) (fun n23 => ?_)
    refine Tx.know (Pr := ∀ g, ob sv14.b.a.p = some g → ob sv5.b.b.p ≠ some g) (fun w' hK => hK.get m12) (fun n24 => ?_)
    refine Tx.know (Pr := ob sv14.b.b.p ≠ some R1) (fun w' hK => hK.get m13) (fun n25 => ?_)
    refine Tx.know (Pr := ob sv14.b.b.p ≠ some R9) (fun w' hK => hK.get m14) (fun n26 => ?_)
    refine Tx.know (Pr := ∀ g, ob sv14.b.b.p = some g → ob sv5.a.p ≠ some g) (fun w' hK => hK.get m15) (fun n27 => ?_)
    refine Tx.know (Pr := ∀ g, ob sv14.b.b.p = some g → ob sv5.b.a.p ≠ some g) (fun w' hK => hK.get m16) (fun n28 => ?_)
    refine Tx.know (Pr := ∀ g, ob sv14.b.b.p = some g → ob sv5.b.b.p ≠ some g) (fun w' hK => hK.get m17) (fun n29 => ?_)
    refine tF ?_
    apply txE (α := Sl) (fun sv => .slice sv.p (frL xs).length sv.c) (fun sv => [fun w1 => OwV refK 41 w.heap.size w1 (.slice sv.p (frL xs).length sv.c) (frL xs), fun _ => ob sv.p ≠ some R1, fun _ => ob sv.p ≠ some R9, fun _ => ∀ g, ob sv.p = some g → ob sv14.a.p ≠ some g, fun _ => ∀ g, ob sv.p = some g → ob sv14.b.a.p ≠ some g, fun _ => ∀ g, ob sv.p = some g → ob sv14.b.b.p ≠ some g, fun _ => ∀ g, ob sv.p = some g → ob sv5.a.p ≠ some g, fun _ => ∀ g, ob sv.p = some g → ob sv5.b.a.p ≠ some g, fun _ => ∀ g, ob sv.p = some g → ob sv5.b.b.p ≠ some g]) (wants0 rfl)
    · intro f1 l1 hl1 w' hK; go_simp; (try go_bits); refine (fof_any (.slice p_h1 xs.length c_h1) xs w' (h1_0.below hK.old) (by omega) hx).mono ?_; rintro e w5 ⟨y0, rfl, u0, hb⟩; obtain ⟨rfl, rfl⟩ := hl1.out; have u0_0 := u0; obtain ⟨p_u0, c_u0, rfl, n_u0⟩ := u0.sh; exact ⟨_, rfl, (⟨p_u0, 0, c_u0⟩ : Sl), rfl, hb, .cons (fun w2 h2 => (u0_0.mono hK.old.size).below h2) (.cons (fun _ _ => fun e => absurd (u0_0.block e).1 (Nat.not_le.2 ((hK.get m25)).ltS)) (.cons (fun _ _ => fun e => absurd (u0_0.block e).1 (Nat.not_le.2 ((hK.get m18)).ltS)) (.cons (fun _ _ => fun _ e e2 => absurd (u0_0.block e).1 (Nat.not_le.2 (((hK.get m0)).block e2).2)) (.cons (fun _ _ => fun _ e e2 => absurd (u0_0.block e).1 (Nat.not_le.2 (((hK.get m1)).block e2).2)) (.cons (fun _ _ => fun _ e e2 => absurd (u0_0.block e).1 (Nat.not_le.2 (((hK.get m2)).block e2).2)) (.cons (fun _ _ => fun _ e e2 => absurd (u0_0.block e).1 (Nat.not_le.2 (((hK.get m19)).block e2).2)) (.cons (fun _ _ => fun _ e e2 => absurd (u0_0.block e).1 (Nat.not_le.2 (((hK.get m20)).block e2).2)) (.cons (fun _ _ => fun _ e e2 => absurd (u0_0.block e).1 (Nat.not_le.2 (((hK.get m21)).block e2).2)) (Lasts.nil _)))))))))⟩
    intro sv30
    simp only [Act.put, pA, pB, pC, pD, pE]
    refine Tx.know (Pr := ob sv30.p ≠ some R1) (fun w' hK => hK.get m1) (fun n31 => ?_)
    refine Tx.know (Pr := ob sv30.p ≠ some R9) (fun w' hK => hK.get m2) (fun n32 => ?_)
    refine Tx.know (Pr := ∀ g, ob sv30.p = some g → ob sv14.a.p ≠ some g) (fun w' hK => hK.get m3) (fun n33 => ?_)
    refine Tx.know (Pr := ∀ g, ob sv30.p = some g → ob sv14.b.a.p ≠ some g) (fun w' hK => hK.get m4) (fun n34 => ?_)
    refine Tx.know (Pr := ∀ g, ob sv30.p = some g → ob sv14.b.b.p ≠ some g) (fun w' hK => hK.get m5) (fun n35 => ?_)
    refine Tx.know (Pr := ∀ g, ob sv30.p = some g → ob sv5.a.p ≠ some g) (fun w' hK => hK.get m6) (fun n36 => ?_)
    refine Tx.know (Pr := ∀ g, ob sv30.p = some g → ob sv5.b.a.p ≠ some g) (fun w' hK => hK.get m7) (fun n37 => ?_)
    refine Tx.know (Pr := ∀ g, ob sv30.p = some g → ob sv5.b.b.p ≠ some g) (fun w' hK => hK.get m8) (fun n38 => ?_)
    refine tF ?_
    apply txE (α := Sl) (fun sv => .slice sv.p (frL ys).length sv.c) (fun sv => [fun w1 => OwV refK 41 w.heap.size w1 (.slice sv.p (frL ys).length sv.c) (frL ys), fun _ => ob sv.p ≠ some R1, fun _ => ob sv.p ≠ some R9, fun _ => ∀ g, ob sv.p = some g → ob sv30.p ≠ some g, fun _ => ∀ g, ob sv.p = some g → ob sv14.a.p ≠ some g, fun _ => ∀ g, ob sv.p = some g → ob sv14.b.a.p ≠ some g, fun _ => ∀ g, ob sv.p = some g → ob sv14.b.b.p ≠ some g, fun _ => ∀ g, ob sv.p = some g → ob sv5.a.p ≠ some g, fun _ => ∀ g, ob sv.p = some g → ob sv5.b.a.p ≠ some g, fun _ => ∀ g, ob sv.p = some g → ob sv5.b.b.p ≠ some g]) (wants0 rfl)
    · intro f1 l1 hl1 w' hK; go_simp; (try go_bits); refine (fof_any (.slice p_h2 ys.length c_h2) ys w' (h2_0.below hK.old) (by omega) hy).mono ?_; rintro e w5 ⟨y0, rfl, u0, hb⟩; obtain ⟨rfl, rfl⟩ := hl1.out; have u0_0 := u0; obtain ⟨p_u0, c_u0, rfl, n_u0⟩ := u0.sh; exact ⟨_, rfl, (⟨p_u0, 0, c_u0⟩ : Sl), rfl, hb, .cons (fun w2 h2 => (u0_0.mono hK.old.size).below h2) (.cons (fun _ _ => fun e => absurd (u0_0.block e).1 (Nat.not_le.2 ((hK.get (ms24 m10))).ltS)) (.cons (fun _ _ => fun e => absurd (u0_0.block e).1 (Nat.not_le.2 ((hK.get m27)).ltS)) (.cons (fun _ _ => fun _ e e2 => absurd (u0_0.block e).1 (Nat.not_le.2 (((hK.get m0)).block e2).2)) (.cons (fun _ _ => fun _ e e2 => absurd (u0_0.block e).1 (Nat.not_le.2 (((hK.get m9)).block e2).2)) (.cons (fun _ _ => fun _ e e2 => absurd (u0_0.block e).1 (Nat.not_le.2 (((hK.get m10)).block e2).2)) (.cons (fun _ _ => fun _ e e2 => absurd (u0_0.block e).1 (Nat.not_le.2 (((hK.get m11)).block e2).2)) (.cons (fun _ _ => fun _ e e2 => absurd (u0_0.block e).1 (Nat.not_le.2 (((hK.get m28)).block e2).2)) (.cons (fun _ _ => fun _ e e2 => absurd (u0_0.block e).1 (Nat.not_le.2 (((hK.get m29)).block e2).2)) (.cons (fun _ _ => fun _ e e2 => absurd (u0_0.block e).1 (Nat.not_le.2 (((hK.get m30)).block e2).2)) (Lasts.nil _))))))))))⟩
    intro sv39
    simp only [Act.put, pA, pB, pC, pD, pE]
    refine Tx.know (Pr := ob sv39.p ≠ some R1) (fun w' hK => hK.get m1) (fun n40 => ?_)
    refine Tx.know (Pr := ob sv39.p ≠ some R9) (fun w' hK => hK.get m2) (fun n41 => ?_)
    refine Tx.know (Pr := ∀ g, ob sv39.p = some g → ob sv30.p ≠ some g) (fun w' hK => hK.get m3) (fun n42 => ?_)
    refine Tx.know (Pr := ∀ g, ob sv39.p = some g → ob sv14.a.p ≠ some g) (fun w' hK => hK.get m4) (fun n43 => ?_)
    refine Tx.know (Pr := ∀ g, ob sv39.p = some g → ob sv14.b.a.p ≠ some g) (fun w' hK => hK.get m5) (fun n44 => ?_)
    refine Tx.know (Pr := ∀ g, ob sv39.p = some g → ob sv14.b.b.p ≠ some g) (fun w' hK => hK.get m6) (fun n45 => ?_)
    refine Tx.know (Pr := ∀ g, ob sv39.p = some g → ob sv5.a.p ≠ some g) (fun w' hK => hK.get m7) (fun n46 => ?_)
    refine Tx.know (Pr := ∀ g, ob sv39.p = some g → ob sv5.b.a.p ≠ some g) (fun w' hK => hK.get m8) (fun n47 => ?_)
    refine Tx.know (Pr := ∀ g, ob sv39.p = some g → ob sv5.b.b.p ≠ some g) (fun w' hK => hK.get m9) (fun n48 => ?_)
    apply txA2 (.cells #[.slice none 0 0, .slice none 0 0, .slice none 0 0] 49) (wants0 rfl)
    · intro w' hK; go_simp; rfl
    intro R49 q_R49
    have o_R1_R49 : R1 < R49 := q_R49.box (ms24 m20)
    have o_R9_R49 : R9 < R49 := q_R49.box (ms24 m13)
    have n50 : ob sv39.p ≠ some R49 := q_R49.row m0
    have n51 : ob sv30.p ≠ some R49 := q_R49.row m10
    have n52 : ob sv14.a.p ≠ some R49 := q_R49.row m19
    have n53 : ob sv14.b.a.p ≠ some R49 := q_R49.row m20
    have n54 : ob sv14.b.b.p ≠ some R49 := q_R49.row m21
    have n55 : ob sv5.a.p ≠ some R49 := q_R49.row (ms24 m14)
    have n56 : ob sv5.b.a.p ≠ some R49 := q_R49.row (ms24 m15)
    have n57 : ob sv5.b.b.p ≠ some R49 := q_R49.row (ms24 m16)
    clear q_R49
    simp only [mkOf, Act.put, pA, pB, pC]
    refine tS m0 0 [.slice sv14.a.p ((ofSm s)).c.length sv14.a.c, .slice sv14.b.a.p ((ofSm s)).A.length sv14.b.a.c, .slice sv14.b.b.p ((ofSm s)).b.length sv14.b.b.c] (fun w' hK _ ni => kP [.slice sv14.a.p ((ofSm s)).c.length sv14.a.c, .slice sv14.b.a.p ((ofSm s)).A.length sv14.b.a.c, .slice sv14.b.b.p ((ofSm s)).b.length sv14.b.b.c] (kK (spO n50 (.inr (ni.no rfl))) (kC (kC (kC (kC (kC (kC (kC (kC (kC (kK (spO n51 (.inr (ni.no rfl))) (kC (kC (kC (kC (kC (kC (kC (kC (kK (spO n52 (.inr (ni.no rfl))) (kK (spO n53 (.inr (ni.no rfl))) (kK (spO n54 (.inr (ni.no rfl))) (kC (kC (kC (kC (kC (kC (kC (kC (kC (kC (kC (kC (kC (kC (kC (kL o_R9_R49 (kK (spO n55 (.inr (ni.no rfl))) (kK (spO n56 (.inr (ni.no rfl))) (kK (spO n57 (.inr (ni.no rfl))) (kC (kC (kC (kL o_R1_R49 kZ)))))))))))))))))))))))))))))))))))))))))))))) ?_
    iterate 2 (refine tF ?_)
    refine txEnd (fun W58 hK => ?_)
    have an59 : (fun w1 => OwV refK 41 w.heap.size w1 (.slice sv39.p (frL ys).length sv39.c) (frL ys)) W58 := hK.get m1
    replace an59 : OwV refK 41 w.heap.size W58 (.slice sv39.p (frL ys).length sv39.c) (frL ys) := an59
    have an60 : (fun w1 => OwV refK 41 w.heap.size w1 (.slice sv30.p (frL xs).length sv30.c) (frL xs)) W58 := hK.get m11
    replace an60 : OwV refK 41 w.heap.size W58 (.slice sv30.p (frL xs).length sv30.c) (frL xs) := an60
    have an61 : (fun w1 => OwV ratK 55 w.heap.size w1 (.slice sv14.a.p ((ofSm s)).c.length sv14.a.c) (((ofSm s)).c)) W58 := hK.get m20
    replace an61 : OwV ratK 55 w.heap.size W58 (.slice sv14.a.p ((ofSm s)).c.length sv14.a.c) (((ofSm s)).c) := an61
    have an62 : (fun w1 => OwV rrK 46 w.heap.size w1 (.slice sv14.b.a.p ((ofSm s)).A.length sv14.b.a.c) (((ofSm s)).A)) W58 := hK.get m21
    replace an62 : OwV rrK 46 w.heap.size W58 (.slice sv14.b.a.p ((ofSm s)).A.length sv14.b.a.c) (((ofSm s)).A) := an62
    have an63 : (fun w1 => OwV ratK 55 w.heap.size w1 (.slice sv14.b.b.p ((ofSm s)).b.length sv14.b.b.c) (((ofSm s)).b)) W58 := hK.get m22
    replace an63 : OwV ratK 55 w.heap.size W58 (.slice sv14.b.b.p ((ofSm s)).b.length sv14.b.b.c) (((ofSm s)).b) := an63
    have an64 : (fun w1 => OwV refK 41 w.heap.size w1 (.slice sv5.a.p (ofSm s).c.length sv5.a.c) ((ofSm s).c)) W58 := hK.get (ms24 m15)
    replace an64 : OwV refK 41 w.heap.size W58 (.slice sv5.a.p (ofSm s).c.length sv5.a.c) ((ofSm s).c) := an64
    have an65 : (fun w1 => OwV rfK 33 w.heap.size w1 (.slice sv5.b.a.p (ofSm s).A.length sv5.b.a.c) ((ofSm s).A)) W58 := hK.get (ms24 m16)
    replace an65 : OwV rfK 33 w.heap.size W58 (.slice sv5.b.a.p (ofSm s).A.length sv5.b.a.c) ((ofSm s).A) := an65
    have an66 : (fun w1 => OwV refK 41 w.heap.size w1 (.slice sv5.b.b.p (ofSm s).b.length sv5.b.b.c) ((ofSm s).b)) W58 := hK.get (ms24 m17)
    replace an66 : OwV refK 41 w.heap.size W58 (.slice sv5.b.b.p (ofSm s).b.length sv5.b.b.c) ((ofSm s).b) := an66
    replace hK := hK.add (F := GB W58 none) (fun w' hb => (GB.start W58 none).below hb)
    replace hK := hK.subl (sK (sK (sC (sK (sK (sK (sK (sK (sK (sK (sK (sK (sC (sK (sK (sK (sK (sK (sK (sK (sK (sC (sC (sC (sK (sK (sK (sK (sK (sK (sK (sK (sK (sK (sK (sK (sK (sK (sK (sK (sC (sC (sC (sK (sK (sK (sK sZ)))))))))))))))))))))))))))))))))))))))))))))))
    go_upto_region 7 with (fail)
    have gz_W58_W58 : W58.heap.size ≤ W58.heap.size := (hK.get m0).sz
    have z_R1 : R1 < W58.heap.size := (hK.get (ms24 m14)).ltS
    have z_R9 : R9 < W58.heap.size := (hK.get (ms24 m10)).ltS
    have z_R49 : R49 < W58.heap.size := (hK.get m1).ltS
    have v_W58 := hK.old.size
    have hB0_W58 := hB0.below hK.old
    have h0_0_W58 := h0_0.below hK.old
    have h0_1_W58 := h0_1.below hK.old
    have h0_2_W58 := h0_2.below hK.old
    have h0_3_W58 := h0_3.below hK.old
    have h1_0_W58 := h1_0.below hK.old
    have h2_0_W58 := h2_0.below hK.old
    have hKo := hK
    replace hK := hK.re
    have hK0 := hK
    refine wp_region_float0 (W58) _ _ [0, 0, 2, 2, 0, 0, 0, 3, 4, 0] (by kernel_rfl) (by kernel_rfl) (by kernel_rfl) (by kernel_rfl) (KS.drew hK0) (KS.drew hK) ?_
    clear hK hK0
    refine lL m1 ?_
    refine lF ?_
    apply lxE1 (α := Sl) (fun sv => .slice sv.p ((frL xs)).length sv.c) (fun sv => [fun w1 => OwV ratK 55 w.heap.size w1 (.slice sv.p ((frL xs)).length sv.c) ((frL xs)), fun _ => ob sv.p ≠ some R1, fun _ => ob sv.p ≠ some R9, fun _ => ob sv.p ≠ some R49, fun _ => Lies W58 none sv.p]) (wants0 rfl)
    · intro f1 l1 hl1 w' h0 hK; go_simp; (try go_bits); refine (numbers_any (.slice sv30.p (frL xs).length sv30.c) (frL xs) w' (an60.below (GB.to (hK.get m0))).slv (hB0_W58.below hK.old) (by rw [frL_len]; omega) ((frL_lm hx).up (by decide))).mono ?_; rintro e w5 ⟨y0, rfl, u0, hb⟩; obtain ⟨rfl, rfl⟩ := hl1.out; have u0_0 := u0; obtain ⟨p_u0, c_u0, rfl, n_u0⟩ := u0.sh; exact ⟨_, rfl, (⟨p_u0, 0, c_u0⟩ : Sl), rfl, hb, .cons (fun w2 h2 => (u0_0.mono (Nat.le_trans v_W58 hK.old.size)).below h2) (.cons (fun _ _ => fun e => absurd (u0_0.block e).1 (Nat.not_le.2 ((hK.get (ms24 m14))).ltS)) (.cons (fun _ _ => fun e => absurd (u0_0.block e).1 (Nat.not_le.2 ((hK.get (ms24 m10))).ltS)) (.cons (fun _ _ => fun e => absurd (u0_0.block e).1 (Nat.not_le.2 ((hK.get m1)).ltS)) (.cons (fun _ _ => .inr fun g e => Nat.le_trans ((hK.get m0)).sz (u0_0.block e).1) (Lasts.nil _)))))⟩
    intro sv67
    simp only [Act.put, pA, pB, pC, pD, pE]
    obtain ⟨z1, hz1⟩ : ∃ b : Int, RowKit.Hid ((valE ((ofSm s)) ((frL xs))) = b) := ⟨_, hid rfl⟩
    refine lEQ (fun w' h0 hK => value_any (.agg #[.slice sv14.a.p ((ofSm s)).c.length sv14.a.c, .slice sv14.b.a.p ((ofSm s)).A.length sv14.b.a.c, .slice sv14.b.b.p ((ofSm s)).b.length sv14.b.b.c]) (.slice sv67.p ((frL xs)).length sv67.c) ((ofSm s)) ((frL xs)) w' (LpV.mk ((an61.below (GB.to (hK.get m5))).slv) ((an62.below (GB.to (hK.get m5))).slv) ((an63.below (GB.to (hK.get m5))).slv)) (hK.get m0).slv (ofSm_lm hs 300 (by decide)) ((frL_lm hx).up (by decide)) (by rw [frL_len]; omega) (by rw [ofSm_b]; have := ofM_le s; omega)) (fun sv72 => ?_) (g := fun y => .tuple #[y, .int .i64 z1]) (hv := fun _ => (by rw [hz1.out]))
    iterate 3 (refine lF ?_)
    refine lA (.cells #[.bool false, .slice none 0 0, .slice none 0 0] 55) (fun R73 => ?_)
    refine lS m0 0 [.bool (isN (valR ((ofSm s)) ((frL xs)))), .slice sv72.a.p sv72.a.l sv72.a.c, .slice sv72.b.p sv72.b.l sv72.b.c] (fun w' h0 hK k_R73 ni => kK (spGB (Nat.le_trans gz_W58_W58 k_R73.1)) (kL (Nat.lt_of_lt_of_le z_R49 k_R73.1) (kC (kC (kC (kC (kC (kC (kC (kC (kC (kC (kC (kC (kC (kC (kC (kC (kC (kC (kC (kC (kC (kC (kC (kC (kC (kC (kC (kC (kC (kC (kC (kC (kL (Nat.lt_of_lt_of_le z_R9 k_R73.1) (kC (kC (kC (kL (Nat.lt_of_lt_of_le z_R1 k_R73.1) kN))))))))))))))))))))))))))))))))))))))) (fun w' h0 hK k_R73 ni => kP [.bool (isN (valR ((ofSm s)) ((frL xs)))), .slice sv72.a.p sv72.a.l sv72.a.c, .slice sv72.b.p sv72.b.l sv72.b.c] (kQ ni (kM ni (kM ni (kX (kC (kC (kC (kC (kK (spGB (Nat.le_trans gz_W58_W58 k_R73.1)) (kL (Nat.lt_of_lt_of_le z_R49 k_R73.1) (kC (kC (kC (kC (kC (kC (kC (kC (kC (kC (kC (kC (kC (kC (kC (kC (kC (kC (kC (kC (kC (kC (kC (kC (kC (kC (kC (kC (kC (kC (kC (kC (kL (Nat.lt_of_lt_of_le z_R9 k_R73.1) (kC (kC (kC (kL (Nat.lt_of_lt_of_le z_R1 k_R73.1) kZ)))))))))))))))))))))))))))))))))))))))))))))))) ?_
    refine lF ?_
    refine lxEnd (fun W74 hK => ?_)
    have n68 := hK.get m4
    have n69 := hK.get m5
    have n70 := hK.get m6
    have n71 := hK.get m7
    have o_R1_R73 : R1 < R73 := Nat.lt_of_lt_of_le z_R1 (hK.get m0).1
    have o_R9_R73 : R9 < R73 := Nat.lt_of_lt_of_le z_R9 (hK.get m0).1
    have o_R49_R73 : R49 < R73 := Nat.lt_of_lt_of_le z_R49 (hK.get m0).1
    replace hK := hKo.over hK
    clear hKo
    have nb_R73_W58 : W58.heap.size ≤ R73 := Nat.le_trans gz_W58_W58 (hK.get m0).1
    go_upto_region 8 with (fail)
    refine wp_region_tx w hK ?_
    clear hK
    refine tL (ms24 m18) ?_
    refine tF ?_
    obtain ⟨z2, hz2⟩ : ∃ b : Int, RowKit.Hid ((valE (ofSm s) (frL xs)) = b) := ⟨_, hid rfl⟩
    refine tER (fun w' hK => rvalue_any (.agg #[.slice sv5.a.p (ofSm s).c.length sv5.a.c, .slice sv5.b.a.p (ofSm s).A.length sv5.b.a.c, .slice sv5.b.b.p (ofSm s).b.length sv5.b.b.c]) (.slice sv30.p (frL xs).length sv30.c) (ofSm s) (frL xs) w' (RpV.mk ((an64.below (GB.to (hK.get m8))).slv) ((an65.below (GB.to (hK.get m8))).slv) ((an66.below (GB.to (hK.get m8))).slv)) (an60.below (GB.to (hK.get m8))).slv (ofSm_lm hs 300 (by decide)) ((frL_lm hx).up (by decide)) (by rw [frL_len]; omega) (by rw [ofSm_b]; have := ofM_le s; omega)) (fun sv75 => ?_) (g := fun y => .tuple #[y, .int .i64 z2]) (hv := fun _ => (by rw [hz2.out]))
    iterate 3 (refine tF ?_)
    apply txA2 (.cells #[.bool false, .slice none 0 0, .slice none 0 0] 41) (wants0 rfl)
    · intro w' hK; go_simp; rfl
    intro R76 q_R76
    have o_R1_R76 : R1 < R76 := q_R76.box (ms24 (ms24 m1))
    have o_R9_R76 : R9 < R76 := q_R76.box (ms24 m21)
    have o_R49_R76 : R49 < R76 := q_R76.box m12
    have o_R73_R76 : R73 < R76 := q_R76.box m3
    have nb_R76_W58 : W58.heap.size ≤ R76 := q_R76.gb m11
    clear q_R76
    simp only [mkOf, Act.put, pA, pB, pC]
    refine tS m0 0 [.bool (isN (valR (ofSm s) (frL xs))), .slice sv75.a.p (digs B6 (numQ (valR (ofSm s) (frL xs)))).length sv75.a.c, .slice sv75.b.p (digs B6 (den0 (valR (ofSm s) (frL xs)))).length sv75.b.c] (fun w' hK _ ni => kP [.bool (isN (valR (ofSm s) (frL xs))), .slice sv75.a.p (digs B6 (numQ (valR (ofSm s) (frL xs)))).length sv75.a.c, .slice sv75.b.p (digs B6 (den0 (valR (ofSm s) (frL xs)))).length sv75.b.c] (kS ni (kR ni (kR ni (kL o_R73_R76 (kQ ni (kM ni (kM ni (kC (kC (kC (kC (kK (spGB nb_R76_W58) (kL o_R49_R76 (kC (kC (kC (kC (kC (kC (kC (kC (kC (kC (kC (kC (kC (kC (kC (kC (kC (kC (kC (kC (kC (kC (kC (kC (kC (kC (kC (kC (kC (kC (kC (kC (kL o_R9_R76 (kC (kC (kC (kL o_R1_R76 kZ))))))))))))))))))))))))))))))))))))))))))))))))))) ?_
    refine tF ?_
    refine txEnd (fun W77 hK => ?_)
    go_upto_region 9 with (fail)
    have gz_W58_W77 : W58.heap.size ≤ W77.heap.size := (hK.get m12).sz
    have z_R1 : R1 < W77.heap.size := (hK.get (ms24 (ms24 m2))).ltS
    have z_R9 : R9 < W77.heap.size := (hK.get (ms24 m22)).ltS
    have z_R49 : R49 < W77.heap.size := (hK.get m13).ltS
    have z_R73 : R73 < W77.heap.size := (hK.get m4).ltS
    have z_R76 : R76 < W77.heap.size := (hK.get m0).ltS
    have v_W77 := hK.old.size
    have hB0_W77 := hB0.below hK.old
    have h0_0_W77 := h0_0.below hK.old
    have h0_1_W77 := h0_1.below hK.old
    have h0_2_W77 := h0_2.below hK.old
    have h0_3_W77 := h0_3.below hK.old
    have h1_0_W77 := h1_0.below hK.old
    have h2_0_W77 := h2_0.below hK.old
    have hKo := hK
    replace hK := hK.re
    have hK0 := hK
    refine wp_region_float0 (W77) _ _ [0, 0, 2, 2, 0, 0, 0, 3, 4, 0] (by kernel_rfl) (by kernel_rfl) (by kernel_rfl) (by kernel_rfl) (KS.drew hK0) (KS.drew hK) ?_
    clear hK hK0
    refine lL m13 ?_
    refine lF ?_
    apply lxE1 (α := Sl) (fun sv => .slice sv.p ((frL ys)).length sv.c) (fun sv => [fun w1 => OwV ratK 55 w.heap.size w1 (.slice sv.p ((frL ys)).length sv.c) ((frL ys)), fun _ => ob sv.p ≠ some R1, fun _ => ob sv.p ≠ some R9, fun _ => ob sv.p ≠ some R49, fun _ => ob sv.p ≠ some R73, fun _ => ob sv.p ≠ some R76, fun _ => Lies W58 none sv.p]) (wants0 rfl)
    · intro f1 l1 hl1 w' h0 hK; go_simp; (try go_bits); refine (numbers_any (.slice sv39.p (frL ys).length sv39.c) (frL ys) w' (an59.below (GB.to (hK.get m12))).slv (hB0_W77.below hK.old) (by rw [frL_len]; omega) ((frL_lm hy).up (by decide))).mono ?_; rintro e w5 ⟨y0, rfl, u0, hb⟩; obtain ⟨rfl, rfl⟩ := hl1.out; have u0_0 := u0; obtain ⟨p_u0, c_u0, rfl, n_u0⟩ := u0.sh; exact ⟨_, rfl, (⟨p_u0, 0, c_u0⟩ : Sl), rfl, hb, .cons (fun w2 h2 => (u0_0.mono (Nat.le_trans v_W77 hK.old.size)).below h2) (.cons (fun _ _ => fun e => absurd (u0_0.block e).1 (Nat.not_le.2 ((hK.get (ms24 (ms24 m2)))).ltS)) (.cons (fun _ _ => fun e => absurd (u0_0.block e).1 (Nat.not_le.2 ((hK.get (ms24 m22))).ltS)) (.cons (fun _ _ => fun e => absurd (u0_0.block e).1 (Nat.not_le.2 ((hK.get m13)).ltS)) (.cons (fun _ _ => fun e => absurd (u0_0.block e).1 (Nat.not_le.2 ((hK.get m4)).ltS)) (.cons (fun _ _ => fun e => absurd (u0_0.block e).1 (Nat.not_le.2 ((hK.get m0)).ltS)) (.cons (fun _ _ => .inr fun g e => Nat.le_trans ((hK.get m12)).sz (u0_0.block e).1) (Lasts.nil _)))))))⟩
    intro sv78
    simp only [Act.put, pA, pB, pC, pD, pE]
    obtain ⟨z3, hz3⟩ : ∃ b : Int, RowKit.Hid ((bndE ((ofSm s)) ((frL ys))) = b) := ⟨_, hid rfl⟩
    refine lEQ (fun w' h0 hK => bound_any (.agg #[.slice sv14.a.p ((ofSm s)).c.length sv14.a.c, .slice sv14.b.a.p ((ofSm s)).A.length sv14.b.a.c, .slice sv14.b.b.p ((ofSm s)).b.length sv14.b.b.c]) (.slice sv78.p ((frL ys)).length sv78.c) ((ofSm s)) ((frL ys)) w' (LpV.mk ((an61.below (GB.to (hK.get m19))).slv) ((an62.below (GB.to (hK.get m19))).slv) ((an63.below (GB.to (hK.get m19))).slv)) (hK.get m0).slv (ofSm_lm hs 300 (by decide)) ((frL_lm hy).up (by decide)) (by rw [frL_len]; omega) (by rw [ofSm_b]; have := ofM_le s; omega)) (fun sv85 => ?_) (g := fun y => .tuple #[y, .int .i64 z3]) (hv := fun _ => (by rw [hz3.out]))
    iterate 3 (refine lF ?_)
    refine lA (.cells #[.bool false, .slice none 0 0, .slice none 0 0] 55) (fun R86 => ?_)
    refine lS m0 0 [.bool (isN (bndR ((ofSm s)) ((frL ys)))), .slice sv85.a.p sv85.a.l sv85.a.c, .slice sv85.b.p sv85.b.l sv85.b.c] (fun w' h0 hK k_R86 ni => kL (Nat.lt_of_lt_of_le z_R76 k_R86.1) (kS ni (kR ni (kR ni (kL (Nat.lt_of_lt_of_le z_R73 k_R86.1) (kQ ni (kM ni (kM ni (kC (kC (kC (kC (kK (spGB (Nat.le_trans gz_W58_W77 k_R86.1)) (kL (Nat.lt_of_lt_of_le z_R49 k_R86.1) (kC (kC (kC (kC (kC (kC (kC (kC (kC (kC (kC (kC (kC (kC (kC (kC (kC (kC (kC (kC (kC (kC (kC (kC (kC (kC (kC (kC (kC (kC (kC (kC (kL (Nat.lt_of_lt_of_le z_R9 k_R86.1) (kC (kC (kC (kL (Nat.lt_of_lt_of_le z_R1 k_R86.1) kN))))))))))))))))))))))))))))))))))))))))))))))))))) (fun w' h0 hK k_R86 ni => kP [.bool (isN (bndR ((ofSm s)) ((frL ys)))), .slice sv85.a.p sv85.a.l sv85.a.c, .slice sv85.b.p sv85.b.l sv85.b.c] (kQ ni (kM ni (kM ni (kX (kC (kC (kC (kC (kC (kC (kL (Nat.lt_of_lt_of_le z_R76 k_R86.1) (kS ni (kR ni (kR ni (kL (Nat.lt_of_lt_of_le z_R73 k_R86.1) (kQ ni (kM ni (kM ni (kC (kC (kC (kC (kK (spGB (Nat.le_trans gz_W58_W77 k_R86.1)) (kL (Nat.lt_of_lt_of_le z_R49 k_R86.1) (kC (kC (kC (kC (kC (kC (kC (kC (kC (kC (kC (kC (kC (kC (kC (kC (kC (kC (kC (kC (kC (kC (kC (kC (kC (kC (kC (kC (kC (kC (kC (kC (kL (Nat.lt_of_lt_of_le z_R9 k_R86.1) (kC (kC (kC (kL (Nat.lt_of_lt_of_le z_R1 k_R86.1) kZ)))))))))))))))))))))))))))))))))))))))))))))))))))))))))))))) ?_
    refine lF ?_
    refine lxEnd (fun W87 hK => ?_)
    have n79 := hK.get m4
    have n80 := hK.get m5
    have n81 := hK.get m6
    have n82 := hK.get m7
    have n83 := hK.get m8
    have n84 := hK.get m9
    have o_R1_R86 : R1 < R86 := Nat.lt_of_lt_of_le z_R1 (hK.get m0).1
    have o_R9_R86 : R9 < R86 := Nat.lt_of_lt_of_le z_R9 (hK.get m0).1
    have o_R49_R86 : R49 < R86 := Nat.lt_of_lt_of_le z_R49 (hK.get m0).1
    have o_R73_R86 : R73 < R86 := Nat.lt_of_lt_of_le z_R73 (hK.get m0).1
    have o_R76_R86 : R76 < R86 := Nat.lt_of_lt_of_le z_R76 (hK.get m0).1
    replace hK := hKo.over hK
    clear hKo
    have nb_R86_W58 : W58.heap.size ≤ R86 := Nat.le_trans gz_W58_W77 (hK.get m0).1
    go_upto_region 10 with (fail)
    refine wp_region_tx w hK ?_
    clear hK
    refine tL (ms24 (ms24 m8)) ?_
    refine tF ?_
    obtain ⟨z4, hz4⟩ : ∃ b : Int, RowKit.Hid ((bndE (ofSm s) (frL ys)) = b) := ⟨_, hid rfl⟩
    refine tER (fun w' hK => rbound_any (.agg #[.slice sv5.a.p (ofSm s).c.length sv5.a.c, .slice sv5.b.a.p (ofSm s).A.length sv5.b.a.c, .slice sv5.b.b.p (ofSm s).b.length sv5.b.b.c]) (.slice sv39.p (frL ys).length sv39.c) (ofSm s) (frL ys) w' (RpV.mk ((an64.below (GB.to (hK.get m22))).slv) ((an65.below (GB.to (hK.get m22))).slv) ((an66.below (GB.to (hK.get m22))).slv)) (an59.below (GB.to (hK.get m22))).slv (ofSm_lm hs 300 (by decide)) ((frL_lm hy).up (by decide)) (by rw [frL_len]; omega) (by rw [ofSm_b]; have := ofM_le s; omega)) (fun sv88 => ?_) (g := fun y => .tuple #[y, .int .i64 z4]) (hv := fun _ => (by rw [hz4.out]))
    iterate 3 (refine tF ?_)
    apply txA2 (.cells #[.bool false, .slice none 0 0, .slice none 0 0] 41) (wants0 rfl)
    · intro w' hK; go_simp; rfl
    intro R89 q_R89
    have o_R1_R89 : R1 < R89 := q_R89.box (ms24 (ms24 m15))
    have o_R9_R89 : R9 < R89 := q_R89.box (ms24 (ms24 m11))
    have o_R49_R89 : R49 < R89 := q_R89.box m26
    have o_R73_R89 : R73 < R89 := q_R89.box m17
    have o_R76_R89 : R76 < R89 := q_R89.box m13
    have o_R86_R89 : R86 < R89 := q_R89.box m3
    have nb_R89_W58 : W58.heap.size ≤ R89 := q_R89.gb m25
    clear q_R89
    simp only [mkOf, Act.put, pA, pB, pC]
    refine tS m0 0 [.bool (isN (bndR (ofSm s) (frL ys))), .slice sv88.a.p (digs B6 (numQ (bndR (ofSm s) (frL ys)))).length sv88.a.c, .slice sv88.b.p (digs B6 (den0 (bndR (ofSm s) (frL ys)))).length sv88.b.c] (fun w' hK _ ni => kP [.bool (isN (bndR (ofSm s) (frL ys))), .slice sv88.a.p (digs B6 (numQ (bndR (ofSm s) (frL ys)))).length sv88.a.c, .slice sv88.b.p (digs B6 (den0 (bndR (ofSm s) (frL ys)))).length sv88.b.c] (kS ni (kR ni (kR ni (kL o_R86_R89 (kQ ni (kM ni (kM ni (kC (kC (kC (kC (kC (kC (kL o_R76_R89 (kS ni (kR ni (kR ni (kL o_R73_R89 (kQ ni (kM ni (kM ni (kC (kC (kC (kC (kK (spGB nb_R89_W58) (kL o_R49_R89 (kC (kC (kC (kC (kC (kC (kC (kC (kC (kC (kC (kC (kC (kC (kC (kC (kC (kC (kC (kC (kC (kC (kC (kC (kC (kC (kC (kC (kC (kC (kC (kC (kL o_R9_R89 (kC (kC (kC (kL o_R1_R89 kZ))))))))))))))))))))))))))))))))))))))))))))))))))))))))))))))))) ?_
    refine tF ?_
    refine txEnd (fun W90 hK => ?_)
    go_upto_region 11 with (fail)
    have gz_W58_W90 : W58.heap.size ≤ W90.heap.size := (hK.get m26).sz
    have z_R1 : R1 < W90.heap.size := (hK.get (ms24 (ms24 m16))).ltS
    have z_R9 : R9 < W90.heap.size := (hK.get (ms24 (ms24 m12))).ltS
    have z_R49 : R49 < W90.heap.size := (hK.get m27).ltS
    have z_R73 : R73 < W90.heap.size := (hK.get m18).ltS
    have z_R76 : R76 < W90.heap.size := (hK.get m14).ltS
    have z_R86 : R86 < W90.heap.size := (hK.get m4).ltS
    have z_R89 : R89 < W90.heap.size := (hK.get m0).ltS
    have v_W90 := hK.old.size
    have hB0_W90 := hB0.below hK.old
    have h0_0_W90 := h0_0.below hK.old
    have h0_1_W90 := h0_1.below hK.old
    have h0_2_W90 := h0_2.below hK.old
    have h0_3_W90 := h0_3.below hK.old
    have h1_0_W90 := h1_0.below hK.old
    have h2_0_W90 := h2_0.below hK.old
    have hKo := hK
    replace hK := hK.re
    have hK0 := hK
    refine wp_region_float0 (W90) _ _ [0, 0, 2, 0, 2, 2, 0, 0, 0, 3, 4, 0] (by kernel_rfl) (by kernel_rfl) (by kernel_rfl) (by kernel_rfl) (KS.drew hK0) (KS.drew hK) ?_
    clear hK hK0
    refine lL m27 ?_
    refine lF ?_
    apply lxE1 (α := Sl) (fun sv => .slice sv.p ((frL xs)).length sv.c) (fun sv => [fun w1 => OwV ratK 55 w.heap.size w1 (.slice sv.p ((frL xs)).length sv.c) ((frL xs)), fun _ => ob sv.p ≠ some R1, fun _ => ob sv.p ≠ some R9, fun _ => ob sv.p ≠ some R49, fun _ => ob sv.p ≠ some R73, fun _ => ob sv.p ≠ some R76, fun _ => ob sv.p ≠ some R86, fun _ => ob sv.p ≠ some R89, fun _ => Lies W58 none sv.p]) (wants0 rfl)
    · intro f1 l1 hl1 w' h0 hK; go_simp; (try go_bits); refine (numbers_any (.slice sv30.p (frL xs).length sv30.c) (frL xs) w' (an60.below (GB.to (hK.get m26))).slv (hB0_W90.below hK.old) (by rw [frL_len]; omega) ((frL_lm hx).up (by decide))).mono ?_; rintro e w5 ⟨y0, rfl, u0, hb⟩; obtain ⟨rfl, rfl⟩ := hl1.out; have u0_0 := u0; obtain ⟨p_u0, c_u0, rfl, n_u0⟩ := u0.sh; exact ⟨_, rfl, (⟨p_u0, 0, c_u0⟩ : Sl), rfl, hb, .cons (fun w2 h2 => (u0_0.mono (Nat.le_trans v_W90 hK.old.size)).below h2) (.cons (fun _ _ => fun e => absurd (u0_0.block e).1 (Nat.not_le.2 ((hK.get (ms24 (ms24 m16)))).ltS)) (.cons (fun _ _ => fun e => absurd (u0_0.block e).1 (Nat.not_le.2 ((hK.get (ms24 (ms24 m12)))).ltS)) (.cons (fun _ _ => fun e => absurd (u0_0.block e).1 (Nat.not_le.2 ((hK.get m27)).ltS)) (.cons (fun _ _ => fun e => absurd (u0_0.block e).1 (Nat.not_le.2 ((hK.get m18)).ltS)) (.cons (fun _ _ => fun e => absurd (u0_0.block e).1 (Nat.not_le.2 ((hK.get m14)).ltS)) (.cons (fun _ _ => fun e => absurd (u0_0.block e).1 (Nat.not_le.2 ((hK.get m4)).ltS)) (.cons (fun _ _ => fun e => absurd (u0_0.block e).1 (Nat.not_le.2 ((hK.get m0)).ltS)) (.cons (fun _ _ => .inr fun g e => Nat.le_trans ((hK.get m26)).sz (u0_0.block e).1) (Lasts.nil _)))))))))⟩
    intro sv91
    simp only [Act.put, pA, pB, pC, pD, pE]
    refine lF ?_
    apply lxE1 (α := Sl) (fun sv => .slice sv.p ((frL ys)).length sv.c) (fun sv => [fun w1 => OwV ratK 55 w.heap.size w1 (.slice sv.p ((frL ys)).length sv.c) ((frL ys)), fun _ => ob sv.p ≠ some R1, fun _ => ob sv.p ≠ some R9, fun _ => ob sv.p ≠ some R49, fun _ => ob sv.p ≠ some R73, fun _ => ob sv.p ≠ some R76, fun _ => ob sv.p ≠ some R86, fun _ => ob sv.p ≠ some R89, fun _ => ∀ g, ob sv.p = some g → ob sv91.p ≠ some g, fun _ => Lies W58 none sv.p]) (wants0 rfl)
    · intro f1 l1 hl1 w' h0 hK; go_simp; (try go_bits); refine (numbers_any (.slice sv39.p (frL ys).length sv39.c) (frL ys) w' (an59.below (GB.to (hK.get (ms24 m11)))).slv (hB0_W90.below hK.old) (by rw [frL_len]; omega) ((frL_lm hy).up (by decide))).mono ?_; rintro e w5 ⟨y0, rfl, u0, hb⟩; obtain ⟨rfl, rfl⟩ := hl1.out; have u0_0 := u0; obtain ⟨p_u0, c_u0, rfl, n_u0⟩ := u0.sh; exact ⟨_, rfl, (⟨p_u0, 0, c_u0⟩ : Sl), rfl, hb, .cons (fun w2 h2 => (u0_0.mono (Nat.le_trans v_W90 hK.old.size)).below h2) (.cons (fun _ _ => fun e => absurd (u0_0.block e).1 (Nat.not_le.2 ((hK.get (ms24 (ms24 (ms24 m1))))).ltS)) (.cons (fun _ _ => fun e => absurd (u0_0.block e).1 (Nat.not_le.2 ((hK.get (ms24 (ms24 m21)))).ltS)) (.cons (fun _ _ => fun e => absurd (u0_0.block e).1 (Nat.not_le.2 ((hK.get (ms24 m12))).ltS)) (.cons (fun _ _ => fun e => absurd (u0_0.block e).1 (Nat.not_le.2 ((hK.get m27)).ltS)) (.cons (fun _ _ => fun e => absurd (u0_0.block e).1 (Nat.not_le.2 ((hK.get m23)).ltS)) (.cons (fun _ _ => fun e => absurd (u0_0.block e).1 (Nat.not_le.2 ((hK.get m13)).ltS)) (.cons (fun _ _ => fun e => absurd (u0_0.block e).1 (Nat.not_le.2 ((hK.get m9)).ltS)) (.cons (fun _ _ => fun _ e e2 => absurd (u0_0.block e).1 (Nat.not_le.2 (((hK.get m0)).block e2).2)) (.cons (fun _ _ => .inr fun g e => Nat.le_trans ((hK.get (ms24 m11))).sz (u0_0.block e).1) (Lasts.nil _))))))))))⟩
    intro sv100
    simp only [Act.put, pA, pB, pC, pD, pE]
    obtain ⟨z5, hz5⟩ : ∃ b : Int, RowKit.Hid ((gapE ((ofSm s)) ((frL xs)) ((frL ys))) = b) := ⟨_, hid rfl⟩
    refine lEQ (fun w' h0 hK => gap_any (.agg #[.slice sv14.a.p ((ofSm s)).c.length sv14.a.c, .slice sv14.b.a.p ((ofSm s)).A.length sv14.b.a.c, .slice sv14.b.b.p ((ofSm s)).b.length sv14.b.b.c]) (.slice sv91.p ((frL xs)).length sv91.c) (.slice sv100.p ((frL ys)).length sv100.c) ((ofSm s)) ((frL xs)) ((frL ys)) w' (LpV.mk ((an61.below (GB.to (hK.get (ms24 m21)))).slv) ((an62.below (GB.to (hK.get (ms24 m21)))).slv) ((an63.below (GB.to (hK.get (ms24 m21)))).slv)) (hK.get m10).slv (hK.get m0).slv (ofSm_lm hs 300 (by decide)) ((frL_lm hx).up (by decide)) ((frL_lm hy).up (by decide)) (by rw [frL_len]; omega) (by rw [frL_len]; omega) (by rw [ofSm_b]; have := ofM_le s; omega)) (fun sv110 => ?_) (g := fun y => .tuple #[y, .int .i64 z5]) (hv := fun _ => (by rw [hz5.out]))
    iterate 3 (refine lF ?_)
    refine lA (.cells #[.bool false, .slice none 0 0, .slice none 0 0] 55) (fun R111 => ?_)
    refine lS m0 0 [.bool (isN (gapQ ((ofSm s)) ((frL xs)) ((frL ys)))), .slice sv110.a.p sv110.a.l sv110.a.c, .slice sv110.b.p sv110.b.l sv110.b.c] (fun w' h0 hK k_R111 ni => kL (Nat.lt_of_lt_of_le z_R89 k_R111.1) (kS ni (kR ni (kR ni (kL (Nat.lt_of_lt_of_le z_R86 k_R111.1) (kQ ni (kM ni (kM ni (kC (kC (kC (kC (kC (kC (kL (Nat.lt_of_lt_of_le z_R76 k_R111.1) (kS ni (kR ni (kR ni (kL (Nat.lt_of_lt_of_le z_R73 k_R111.1) (kQ ni (kM ni (kM ni (kC (kC (kC (kC (kK (spGB (Nat.le_trans gz_W58_W90 k_R111.1)) (kL (Nat.lt_of_lt_of_le z_R49 k_R111.1) (kC (kC (kC (kC (kC (kC (kC (kC (kC (kC (kC (kC (kC (kC (kC (kC (kC (kC (kC (kC (kC (kC (kC (kC (kC (kC (kC (kC (kC (kC (kC (kC (kL (Nat.lt_of_lt_of_le z_R9 k_R111.1) (kC (kC (kC (kL (Nat.lt_of_lt_of_le z_R1 k_R111.1) kN))))))))))))))))))))))))))))))))))))))))))))))))))))))))))))))))) (fun w' h0 hK k_R111 ni => kP [.bool (isN (gapQ ((ofSm s)) ((frL xs)) ((frL ys)))), .slice sv110.a.p sv110.a.l sv110.a.c, .slice sv110.b.p sv110.b.l sv110.b.c] (kQ ni (kM ni (kM ni (kX (kC (kC (kC (kC (kC (kC (kC (kC (kC (kX (kC (kC (kC (kC (kC (kC (kC (kC (kL (Nat.lt_of_lt_of_le z_R89 k_R111.1) (kS ni (kR ni (kR ni (kL (Nat.lt_of_lt_of_le z_R86 k_R111.1) (kQ ni (kM ni (kM ni (kC (kC (kC (kC (kC (kC (kL (Nat.lt_of_lt_of_le z_R76 k_R111.1) (kS ni (kR ni (kR ni (kL (Nat.lt_of_lt_of_le z_R73 k_R111.1) (kQ ni (kM ni (kM ni (kC (kC (kC (kC (kK (spGB (Nat.le_trans gz_W58_W90 k_R111.1)) (kL (Nat.lt_of_lt_of_le z_R49 k_R111.1) (kC (kC (kC (kC (kC (kC (kC (kC (kC (kC (kC (kC (kC (kC (kC (kC (kC (kC (kC (kC (kC (kC (kC (kC (kC (kC (kC (kC (kC (kC (kC (kC (kL (Nat.lt_of_lt_of_le z_R9 k_R111.1) (kC (kC (kC (kL (Nat.lt_of_lt_of_le z_R1 k_R111.1) kZ)))))))))))))))))))))))))))))))))))))))))))))))))))))))))))))))))))))))))))))))))))))))) ?_
    refine lF ?_
    refine lxEnd (fun W112 hK => ?_)
    have n92 := hK.get m13
    have n93 := hK.get m14
    have n94 := hK.get m15
    have n95 := hK.get m16
    have n96 := hK.get m17
    have n97 := hK.get m18
    have n98 := hK.get m19
    have n99 := hK.get m20
    have n101 := hK.get m4
    have n102 := hK.get m5
    have n103 := hK.get m6
    have n104 := hK.get m7
    have n105 := hK.get m8
    have n106 := hK.get m9
    have n107 := hK.get m10
    have n108 := hK.get m11
    have n109 := hK.get m12
    have o_R1_R111 : R1 < R111 := Nat.lt_of_lt_of_le z_R1 (hK.get m0).1
    have o_R9_R111 : R9 < R111 := Nat.lt_of_lt_of_le z_R9 (hK.get m0).1
    have o_R49_R111 : R49 < R111 := Nat.lt_of_lt_of_le z_R49 (hK.get m0).1
    have o_R73_R111 : R73 < R111 := Nat.lt_of_lt_of_le z_R73 (hK.get m0).1
    have o_R76_R111 : R76 < R111 := Nat.lt_of_lt_of_le z_R76 (hK.get m0).1
    have o_R86_R111 : R86 < R111 := Nat.lt_of_lt_of_le z_R86 (hK.get m0).1
    have o_R89_R111 : R89 < R111 := Nat.lt_of_lt_of_le z_R89 (hK.get m0).1
    replace hK := hKo.over hK
    clear hKo
    have nb_R111_W58 : W58.heap.size ≤ R111 := Nat.le_trans gz_W58_W90 (hK.get m0).1
    go_upto_region 12 with (fail)
    refine wp_region_tx w hK ?_
    clear hK
    refine tL (ms24 (ms24 (ms24 m9))) ?_
    iterate 2 (refine tF ?_)
    obtain ⟨z6, hz6⟩ : ∃ b : Int, RowKit.Hid ((gapE (ofSm s) (frL xs) (frL ys)) = b) := ⟨_, hid rfl⟩
    refine tER (fun w' hK => rgap_any (.agg #[.slice sv5.a.p (ofSm s).c.length sv5.a.c, .slice sv5.b.a.p (ofSm s).A.length sv5.b.a.c, .slice sv5.b.b.p (ofSm s).b.length sv5.b.b.c]) (.slice sv30.p (frL xs).length sv30.c) (.slice sv39.p (frL ys).length sv39.c) (ofSm s) (frL xs) (frL ys) w' (RpV.mk ((an64.below (GB.to (hK.get (ms24 m23)))).slv) ((an65.below (GB.to (hK.get (ms24 m23)))).slv) ((an66.below (GB.to (hK.get (ms24 m23)))).slv)) (an60.below (GB.to (hK.get (ms24 m23)))).slv (an59.below (GB.to (hK.get (ms24 m23)))).slv (ofSm_lm hs 300 (by decide)) ((frL_lm hx).up (by decide)) ((frL_lm hy).up (by decide)) (by rw [frL_len]; omega) (by rw [frL_len]; omega) (by rw [ofSm_b]; have := ofM_le s; omega)) (fun sv113 => ?_) (g := fun y => .tuple #[y, .int .i64 z6]) (hv := fun _ => (by rw [hz6.out]))
    iterate 3 (refine tF ?_)
    apply txA2 (.cells #[.bool false, .slice none 0 0, .slice none 0 0] 41) (wants0 rfl)
    · intro w' hK; go_simp; rfl
    intro R114 q_R114
    have o_R1_R114 : R1 < R114 := q_R114.box (ms24 (ms24 (ms24 m16)))
    have o_R9_R114 : R9 < R114 := q_R114.box (ms24 (ms24 (ms24 m12)))
    have o_R49_R114 : R49 < R114 := q_R114.box (ms24 (ms24 m3))
    have o_R73_R114 : R73 < R114 := q_R114.box (ms24 m18)
    have o_R76_R114 : R76 < R114 := q_R114.box (ms24 m14)
    have o_R86_R114 : R86 < R114 := q_R114.box m28
    have o_R89_R114 : R89 < R114 := q_R114.box m24
    have o_R111_R114 : R111 < R114 := q_R114.box m3
    have nb_R114_W58 : W58.heap.size ≤ R114 := q_R114.gb (ms24 (ms24 m2))
    clear q_R114
    simp only [mkOf, Act.put, pA, pB, pC]
    refine tS m0 0 [.bool (isN (gapQ (ofSm s) (frL xs) (frL ys))), .slice sv113.a.p (digs B6 (numQ (gapQ (ofSm s) (frL xs) (frL ys)))).length sv113.a.c, .slice sv113.b.p (digs B6 (den0 (gapQ (ofSm s) (frL xs) (frL ys)))).length sv113.b.c] (fun w' hK _ ni => kP [.bool (isN (gapQ (ofSm s) (frL xs) (frL ys))), .slice sv113.a.p (digs B6 (numQ (gapQ (ofSm s) (frL xs) (frL ys)))).length sv113.a.c, .slice sv113.b.p (digs B6 (den0 (gapQ (ofSm s) (frL xs) (frL ys)))).length sv113.b.c] (kS ni (kR ni (kR ni (kL o_R111_R114 (kQ ni (kM ni (kM ni (kC (kC (kC (kC (kC (kC (kC (kC (kC (kC (kC (kC (kC (kC (kC (kC (kC (kL o_R89_R114 (kS ni (kR ni (kR ni (kL o_R86_R114 (kQ ni (kM ni (kM ni (kC (kC (kC (kC (kC (kC (kL o_R76_R114 (kS ni (kR ni (kR ni (kL o_R73_R114 (kQ ni (kM ni (kM ni (kC (kC (kC (kC (kK (spGB nb_R114_W58) (kL o_R49_R114 (kC (kC (kC (kC (kC (kC (kC (kC (kC (kC (kC (kC (kC (kC (kC (kC (kC (kC (kC (kC (kC (kC (kC (kC (kC (kC (kC (kC (kC (kC (kC (kC (kL o_R9_R114 (kC (kC (kC (kL o_R1_R114 kZ)))))))))))))))))))))))))))))))))))))))))))))))))))))))))))))))))))))))))))))))))))))))))) ?_
    refine tF ?_
    refine txEnd (fun W115 hK => ?_)
    go_upto_region 13 with (fail)
    have hK0 := hK
    refine wp_region_float0 (w) _ _ [0, 0, 0, 0, 0, 0, 1, 0, 0, 0, 0, 0, 0, 0, 0, 0, 1, 0, 0, 0, 0, 0, 0, 0, 0, 0, 1, 0, 0, 0, 0, 2, 1, 0, 0, 1, 0, 0, 0, 0, 0, 2, 1, 0, 0, 1, 0, 0, 0] (by kernel_rfl) (by kernel_rfl) (by kernel_rfl) (by kernel_rfl) (KS.drew hK0) (KS.drew hK) ?_
    clear hK hK0
    iterate 2 (refine lF ?_)
    apply lxF0 (v := .bool true) (wants0 rfl); (· intro w' h0; go_simp; (try go_bits); exact ⟨congrArg Value.bool (by rw [← hz1.out, ← hz2.out]; simp), rfl⟩); simp only [Act.put, pA, pB, pC]
    refine lF ?_
    refine lL (ms24 m19) ?_
    refine lL (ms24 m15) ?_
    refine lH (fun w' h0 hK => is41_any (.agg #[.bool (isN (valR ((ofSm s)) ((frL xs)))), .slice sv72.a.p sv72.a.l sv72.a.c, .slice sv72.b.p sv72.b.l sv72.b.c]) (.agg #[.bool (isN (valR (ofSm s) (frL xs))), .slice sv75.a.p (digs B6 (numQ (valR (ofSm s) (frL xs)))).length sv75.a.c, .slice sv75.b.p (digs B6 (den0 (valR (ofSm s) (frL xs)))).length sv75.b.c]) (valR ((ofSm s)) ((frL xs))) (valR (ofSm s) (frL xs)) w' (hK.get (ms24 m20)) (hK.get (ms24 m16)) (hB0.below hK.old) rfl (valR_lm (ofSm_lm hs 4 (by decide)) (frL_lm hx))) ?_
    iterate 2 (refine lF ?_)
    iterate 2 (refine lF ?_)
    apply lxF0 (v := .bool true) (wantsg (j := 8) (d := 91) (b := true) rfl rfl rfl rfl); (· intro w' h0; go_simp; (try go_bits); exact ⟨congrArg Value.bool (by rw [← hz3.out, ← hz4.out]; simp), rfl⟩); simp only [Act.put, pA, pB, pC]
    iterate 2 (refine lF ?_)
    refine lL m29 ?_
    refine lL m25 ?_
    refine lH (fun w' h0 hK => is41_any (.agg #[.bool (isN (bndR ((ofSm s)) ((frL ys)))), .slice sv85.a.p sv85.a.l sv85.a.c, .slice sv85.b.p sv85.b.l sv85.b.c]) (.agg #[.bool (isN (bndR (ofSm s) (frL ys))), .slice sv88.a.p (digs B6 (numQ (bndR (ofSm s) (frL ys)))).length sv88.a.c, .slice sv88.b.p (digs B6 (den0 (bndR (ofSm s) (frL ys)))).length sv88.b.c]) (bndR ((ofSm s)) ((frL ys))) (bndR (ofSm s) (frL ys)) w' (hK.get m30) (hK.get m26) (hB0.below hK.old) rfl (bndR_lm (ofSm_lm hs 4 (by decide)) (frL_lm hy))) ?_
    iterate 2 (refine lF ?_)
    iterate 2 (refine lF ?_)
    apply lxF0 (v := .bool true) (wantsg (j := 18) (d := 101) (b := true) rfl rfl rfl rfl); (· intro w' h0; go_simp; (try go_bits); exact ⟨congrArg Value.bool (by rw [← hz5.out, ← hz6.out]; simp), rfl⟩); simp only [Act.put, pA, pB, pC]
    iterate 2 (refine lF ?_)
    refine lL m4 ?_
    refine lL m0 ?_
    refine lH (fun w' h0 hK => is41_any (.agg #[.bool (isN (gapQ ((ofSm s)) ((frL xs)) ((frL ys)))), .slice sv110.a.p sv110.a.l sv110.a.c, .slice sv110.b.p sv110.b.l sv110.b.c]) (.agg #[.bool (isN (gapQ (ofSm s) (frL xs) (frL ys))), .slice sv113.a.p (digs B6 (numQ (gapQ (ofSm s) (frL xs) (frL ys)))).length sv113.a.c, .slice sv113.b.p (digs B6 (den0 (gapQ (ofSm s) (frL xs) (frL ys)))).length sv113.b.c]) (gapQ ((ofSm s)) ((frL xs)) ((frL ys))) (gapQ (ofSm s) (frL xs) (frL ys)) w' (hK.get m5) (hK.get m1) (hB0.below hK.old) rfl (gapQ_lm (ofSm_lm hs 4 (by decide)) (frL_lm hx) (frL_lm hy))) ?_
    iterate 2 (refine lF ?_)
    refine lL (ms24 (ms24 m4)) ?_
    refine lF ?_
    apply lxE1 (α := Sl) (fun sv => .slice sv.p ((frL xs)).length sv.c) (fun sv => [fun w1 => OwV ratK 55 w.heap.size w1 (.slice sv.p ((frL xs)).length sv.c) ((frL xs)), fun _ => ob sv.p ≠ some R1, fun _ => ob sv.p ≠ some R9, fun _ => ob sv.p ≠ some R49, fun _ => ob sv.p ≠ some R73, fun _ => ob sv.p ≠ some R76, fun _ => ob sv.p ≠ some R86, fun _ => ob sv.p ≠ some R89, fun _ => ob sv.p ≠ some R111, fun _ => ob sv.p ≠ some R114, fun _ => Lies W58 none sv.p]) (wantsg (j := 28) (d := 111) (b := true) rfl rfl rfl rfl)
    · intro f1 l1 hl1 w' h0 hK; go_simp; (try go_bits); refine (numbers_any (.slice sv30.p (frL xs).length sv30.c) (frL xs) w' (an60.below (GB.to (hK.get (ms24 (ms24 m3))))).slv (hB0.below hK.old) (by rw [frL_len]; omega) ((frL_lm hx).up (by decide))).mono ?_; rintro e w5 ⟨y0, rfl, u0, hb⟩; obtain ⟨rfl, rfl⟩ := hl1.out; have u0_0 := u0; obtain ⟨p_u0, c_u0, rfl, n_u0⟩ := u0.sh; exact ⟨_, rfl, (⟨p_u0, 0, c_u0⟩ : Sl), rfl, hb, .cons (fun w2 h2 => (u0_0.mono hK.old.size).below h2) (.cons (fun _ _ => fun e => absurd (u0_0.block e).1 (Nat.not_le.2 ((hK.get (ms24 (ms24 (ms24 m17))))).ltS)) (.cons (fun _ _ => fun e => absurd (u0_0.block e).1 (Nat.not_le.2 ((hK.get (ms24 (ms24 (ms24 m13))))).ltS)) (.cons (fun _ _ => fun e => absurd (u0_0.block e).1 (Nat.not_le.2 ((hK.get (ms24 (ms24 m4)))).ltS)) (.cons (fun _ _ => fun e => absurd (u0_0.block e).1 (Nat.not_le.2 ((hK.get (ms24 m19))).ltS)) (.cons (fun _ _ => fun e => absurd (u0_0.block e).1 (Nat.not_le.2 ((hK.get (ms24 m15))).ltS)) (.cons (fun _ _ => fun e => absurd (u0_0.block e).1 (Nat.not_le.2 ((hK.get m29)).ltS)) (.cons (fun _ _ => fun e => absurd (u0_0.block e).1 (Nat.not_le.2 ((hK.get m25)).ltS)) (.cons (fun _ _ => fun e => absurd (u0_0.block e).1 (Nat.not_le.2 ((hK.get m4)).ltS)) (.cons (fun _ _ => fun e => absurd (u0_0.block e).1 (Nat.not_le.2 ((hK.get m0)).ltS)) (.cons (fun _ _ => .inr fun g e => Nat.le_trans ((hK.get (ms24 (ms24 m3)))).sz (u0_0.block e).1) (Lasts.nil _)))))))))))⟩
    intro sv116
    simp only [Act.put, pA, pB, pC, pD, pE]
    obtain ⟨b3, hb3⟩ : ∃ b : Bool, RowKit.Hid ((vldP ((ofSm s)) && feaB ((ofSm s)) ((frL xs))) = b) := ⟨_, hid rfl⟩
    refine lH (fun w' h0 hK => feasible_any (.agg #[.slice sv14.a.p ((ofSm s)).c.length sv14.a.c, .slice sv14.b.a.p ((ofSm s)).A.length sv14.b.a.c, .slice sv14.b.b.p ((ofSm s)).b.length sv14.b.b.c]) (.slice sv116.p ((frL xs)).length sv116.c) ((ofSm s)) ((frL xs)) w' (LpV.mk ((an61.below (GB.to (hK.get (ms24 (ms24 m14))))).slv) ((an62.below (GB.to (hK.get (ms24 (ms24 m14))))).slv) ((an63.below (GB.to (hK.get (ms24 (ms24 m14))))).slv)) (hK.get m0).slv (ofSm_lm hs 300 (by decide)) ((frL_lm hx).up (by decide)) (by rw [frL_len]; omega) (by rw [ofSm_b]; have := ofM_le s; omega)) ?_ (v := .bool b3) (hv := (by rw [hb3.out]))
    refine lL (ms24 (ms24 (ms24 m13))) ?_
    refine lF ?_
    obtain ⟨b4, hb4⟩ : ∃ b : Bool, RowKit.Hid ((vldP (ofSm s) && feaB (ofSm s) (frL xs)) = b) := ⟨_, hid rfl⟩
    refine lH (fun w' h0 hK => rfeas5_any (.agg #[.slice sv5.a.p (ofSm s).c.length sv5.a.c, .slice sv5.b.a.p (ofSm s).A.length sv5.b.a.c, .slice sv5.b.b.p (ofSm s).b.length sv5.b.b.c]) (.slice sv30.p (frL xs).length sv30.c) (ofSm s) (frL xs) w' (RpV.mk ((an64.below (GB.to (hK.get (ms24 (ms24 m14))))).slv) ((an65.below (GB.to (hK.get (ms24 (ms24 m14))))).slv) ((an66.below (GB.to (hK.get (ms24 (ms24 m14))))).slv)) (an60.below (GB.to (hK.get (ms24 (ms24 m14))))).slv (ofSm_lm hs 300 (by decide)) ((frL_lm hx).up (by decide)) (by rw [frL_len]; omega) (by rw [ofSm_b]; have := ofM_le s; omega)) ?_ (v := .bool b4) (hv := (by rw [hb4.out]))
    apply lxF0 (v := .bool true) (wantsg (j := 28) (d := 111) (b := true) rfl rfl rfl rfl); (· intro w' h0; go_simp; (try go_bits); exact ⟨congrArg Value.bool (by rw [← hb3.out, ← hb4.out]; simp), rfl⟩); simp only [Act.put, pA, pB, pC]
    iterate 2 (refine lF ?_)
    refine lL (ms24 (ms24 m4)) ?_
    refine lF ?_
    apply lxE1 (α := Sl) (fun sv => .slice sv.p ((frL ys)).length sv.c) (fun sv => [fun w1 => OwV ratK 55 w.heap.size w1 (.slice sv.p ((frL ys)).length sv.c) ((frL ys)), fun _ => ob sv.p ≠ some R1, fun _ => ob sv.p ≠ some R9, fun _ => ob sv.p ≠ some R49, fun _ => ob sv.p ≠ some R73, fun _ => ob sv.p ≠ some R76, fun _ => ob sv.p ≠ some R86, fun _ => ob sv.p ≠ some R89, fun _ => ob sv.p ≠ some R111, fun _ => ob sv.p ≠ some R114, fun _ => ∀ g, ob sv.p = some g → ob sv116.p ≠ some g, fun _ => Lies W58 none sv.p]) (wantsg (j := 38) (d := 121) (b := true) rfl rfl rfl rfl)
    · intro f1 l1 hl1 w' h0 hK; go_simp; (try go_bits); refine (numbers_any (.slice sv39.p (frL ys).length sv39.c) (frL ys) w' (an59.below (GB.to (hK.get (ms24 (ms24 m14))))).slv (hB0.below hK.old) (by rw [frL_len]; omega) ((frL_lm hy).up (by decide))).mono ?_; rintro e w5 ⟨y0, rfl, u0, hb⟩; obtain ⟨rfl, rfl⟩ := hl1.out; have u0_0 := u0; obtain ⟨p_u0, c_u0, rfl, n_u0⟩ := u0.sh; exact ⟨_, rfl, (⟨p_u0, 0, c_u0⟩ : Sl), rfl, hb, .cons (fun w2 h2 => (u0_0.mono hK.old.size).below h2) (.cons (fun _ _ => fun e => absurd (u0_0.block e).1 (Nat.not_le.2 ((hK.get (ms24 (ms24 (ms24 (ms24 m4)))))).ltS)) (.cons (fun _ _ => fun e => absurd (u0_0.block e).1 (Nat.not_le.2 ((hK.get (ms24 (ms24 (ms24 m24))))).ltS)) (.cons (fun _ _ => fun e => absurd (u0_0.block e).1 (Nat.not_le.2 ((hK.get (ms24 (ms24 m15)))).ltS)) (.cons (fun _ _ => fun e => absurd (u0_0.block e).1 (Nat.not_le.2 ((hK.get (ms24 (ms24 m6)))).ltS)) (.cons (fun _ _ => fun e => absurd (u0_0.block e).1 (Nat.not_le.2 ((hK.get (ms24 (ms24 m2)))).ltS)) (.cons (fun _ _ => fun e => absurd (u0_0.block e).1 (Nat.not_le.2 ((hK.get (ms24 m16))).ltS)) (.cons (fun _ _ => fun e => absurd (u0_0.block e).1 (Nat.not_le.2 ((hK.get (ms24 m12))).ltS)) (.cons (fun _ _ => fun e => absurd (u0_0.block e).1 (Nat.not_le.2 ((hK.get m15)).ltS)) (.cons (fun _ _ => fun e => absurd (u0_0.block e).1 (Nat.not_le.2 ((hK.get m11)).ltS)) (.cons (fun _ _ => fun _ e e2 => absurd (u0_0.block e).1 (Nat.not_le.2 (((hK.get m0)).block e2).2)) (.cons (fun _ _ => .inr fun g e => Nat.le_trans ((hK.get (ms24 (ms24 m14)))).sz (u0_0.block e).1) (Lasts.nil _))))))))))))⟩
    intro sv127
    simp only [Act.put, pA, pB, pC, pD, pE]
    obtain ⟨b5, hb5⟩ : ∃ b : Bool, RowKit.Hid ((vldP ((ofSm s)) && covB ((ofSm s)) ((frL ys)) ((ofSm s)).c) = b) := ⟨_, hid rfl⟩
    refine lH (fun w' h0 hK => sufficient_any (.agg #[.slice sv14.a.p ((ofSm s)).c.length sv14.a.c, .slice sv14.b.a.p ((ofSm s)).A.length sv14.b.a.c, .slice sv14.b.b.p ((ofSm s)).b.length sv14.b.b.c]) (.slice sv127.p ((frL ys)).length sv127.c) ((ofSm s)) ((frL ys)) w' (LpV.mk ((an61.below (GB.to (hK.get (ms24 (ms24 (ms24 m2)))))).slv) ((an62.below (GB.to (hK.get (ms24 (ms24 (ms24 m2)))))).slv) ((an63.below (GB.to (hK.get (ms24 (ms24 (ms24 m2)))))).slv)) (hK.get m0).slv (ofSm_lm hs 300 (by decide)) ((frL_lm hy).up (by decide)) (by rw [frL_len]; omega) (by rw [ofSm_b]; have := ofM_le s; omega)) ?_ (v := .bool b5) (hv := (by rw [hb5.out]))
    refine lL (ms24 (ms24 (ms24 m13))) ?_
    refine lF ?_
    obtain ⟨b6, hb6⟩ : ∃ b : Bool, RowKit.Hid ((vldP (ofSm s) && covB (ofSm s) (frL ys) (ofSm s).c) = b) := ⟨_, hid rfl⟩
    refine lH (fun w' h0 hK => rsufficient_any (.agg #[.slice sv5.a.p (ofSm s).c.length sv5.a.c, .slice sv5.b.a.p (ofSm s).A.length sv5.b.a.c, .slice sv5.b.b.p (ofSm s).b.length sv5.b.b.c]) (.slice sv39.p (frL ys).length sv39.c) (ofSm s) (frL ys) w' (RpV.mk ((an64.below (GB.to (hK.get (ms24 (ms24 (ms24 m2)))))).slv) ((an65.below (GB.to (hK.get (ms24 (ms24 (ms24 m2)))))).slv) ((an66.below (GB.to (hK.get (ms24 (ms24 (ms24 m2)))))).slv)) (an59.below (GB.to (hK.get (ms24 (ms24 (ms24 m2)))))).slv (ofSm_lm hs 300 (by decide)) ((frL_lm hy).up (by decide)) (by rw [frL_len]; omega) (by rw [ofSm_b]; have := ofM_le s; omega)) ?_ (v := .bool b6) (hv := (by rw [hb6.out]))
    apply lxF0 (v := .bool true) (wantsg (j := 38) (d := 121) (b := true) rfl rfl rfl rfl); (· intro w' h0; go_simp; (try go_bits); exact ⟨congrArg Value.bool (by rw [← hb5.out, ← hb6.out]; simp), rfl⟩); simp only [Act.put, pA, pB, pC]
    iterate 2 (refine lF ?_)
    refine lxEnd (fun W139 hK => ?_)
    have n117 := hK.get m13
    have n118 := hK.get m14
    have n119 := hK.get m15
    have n120 := hK.get m16
    have n121 := hK.get m17
    have n122 := hK.get m18
    have n123 := hK.get m19
    have n124 := hK.get m20
    have n125 := hK.get m21
    have n126 := hK.get m22
    have n128 := hK.get m1
    have n129 := hK.get m2
    have n130 := hK.get m3
    have n131 := hK.get m4
    have n132 := hK.get m5
    have n133 := hK.get m6
    have n134 := hK.get m7
    have n135 := hK.get m8
    have n136 := hK.get m9
    have n137 := hK.get m10
    have n138 := hK.get m11
    go_wp2
    try go_ret
    show Q0 (.returned (.bool true)) _
    exact (by obtain rfl := hQ0.out; exact ⟨rfl, hK.old⟩)
   · --
    have q_b2 : 10 < ((ys.length : Int)) := of_decide_eq_true hb2.out
    go_wp2
    try go_ret
    show Q0 (.returned (.bool true)) _
    exact (by obtain rfl := hQ0.out; exact ⟨rfl, hK.old⟩)
  · --
   have q_b1 : 10 < ((xs.length : Int)) := of_decide_eq_true hb1.out
   iterate 3 (refine tN ?_)
   refine tF ?_
   refine txEnd (fun W140 hK => ?_)
   go_wp2
   try go_ret
   show Q0 (.returned (.bool true)) _
   exact (by obtain rfl := hQ0.out; exact ⟨rfl, hK.old⟩)
end Go.Proofs.YtcdbgincfdejkaaGreatDoor
