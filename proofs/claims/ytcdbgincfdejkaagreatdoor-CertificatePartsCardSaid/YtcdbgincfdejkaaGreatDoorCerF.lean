/- Programs, guesses and results of the laws of certificates walked. -/
import Derived.Test.YtcdbgincfdejkaaGreatDoorTz
import Derived.Test.YtcdbgincfdejkaaGreatDoorCerE
import Derived.Test.YtcdbgincfdejkaaGreatDoorRowI
namespace Go.Proofs.YtcdbgincfdejkaaGreatDoor
open Go.RowKit
open Go.Lib (decDigits)
theorem fof1_any (v : Value) (z : Frc) (w : World) (h : SlV frK w v [z]) (hz : z.Ok) : Calls Tryz.prog 28 #[v] w fun e w' => ∃ y0, e = .returned y0 ∧ OwV refK 41 w.heap.size w' y0 (frL [z]) ∧ Below w.heap.size w w' :=
  fof_any v [z] w h (by simp) (fun x hx => by rw [List.mem_singleton.1 hx]; exact hz)
theorem num1_any (v : Value) (z : Rat) (w : World) (h : SlV refK w v [z]) (hz : LmQ 50 z) (hB : Bas w) : Calls Tryz.prog 27 #[v] w fun e w' => ∃ y0, e = .returned y0 ∧ OwV ratK 55 w.heap.size w' y0 [z] ∧ Below w.heap.size w w' :=
  numbers_any v [z] w h hB (by simp) (fun x hx => by rw [List.mem_singleton.1 hx]; exact hz)
set_option maxRecDepth 100000 in
set_option maxHeartbeats 1000000 in
theorem program_any (v0 : Value) (P : LPd) (w : World) (h0 : RpV w v0 P) (hB0 : Bas w) (hok : P.Ok) (hL : LmP 50 P) :
    Calls Tryz.prog 24 #[v0] w fun e w' => ∃ y0, e = .returned y0 ∧ LpO w.heap.size w' y0 P ∧ Below w.heap.size w w' := by
  have h0_0 := h0; obtain ⟨⟨p_h0, l_h0, c_h0⟩, ⟨q_h0, m_h0, d_h0⟩, ⟨r_h0, n_h0, e_h0⟩, rfl, h0_1, h0_2, h0_3⟩ := h0
  have hK := (KS.start w)
  have hn12 := hL.n
  have hm12 := hL.m
  replace hok := hid hok
  refine Calls.hide (fun Q0 hQ0 => ?_)
  go_enter Tryz.func24, Tryz.ntmps24
  go_upto_region 0 with (fail)
  refine wp_region_tx w hK ?_
  clear hK
  refine tA (.cells #[.slice p_h0 P.c.length c_h0, .slice q_h0 P.A.length d_h0, .slice r_h0 P.b.length e_h0] 36) (fun R1 q_R1 => ?_)
  clear q_R1
  refine tA (.cells #[.slice none 0 0, .slice none 0 0, .slice none 0 0] 49) (fun R2 q_R2 => ?_)
  have o_R1_R2 : R1 < R2 := q_R2 _ _ _ m0
  clear q_R2
  refine txEnd (fun W3 hK => ?_)
  go_upto_region 1 with (fail)
  have z_R1 : R1 < W3.heap.size := (hK.get m1).ltS
  have z_R2 : R2 < W3.heap.size := (hK.get m0).ltS
  have v_W3 := hK.old.size
  have hB0_W3 := hB0.below hK.old
  have h0_0_W3 := h0_0.below hK.old
  have h0_1_W3 := h0_1.below hK.old
  have h0_2_W3 := h0_2.below hK.old
  have h0_3_W3 := h0_3.below hK.old
  have hKo := hK
  replace hK := hK.re
  have hK0 := hK
  refine wp_region_float0 (W3) _ _ [0, 0, 2, 0, 0, 2, 0, 3, 4] (by kernel_rfl) (by kernel_rfl) (by kernel_rfl) (by kernel_rfl) (KS.drew hK0) (KS.drew hK) ?_
  clear hK hK0
  refine lF ?_
  refine lL m1 ?_
  apply lxE1 (α := Sl) (fun sv => .slice sv.p P.c.length sv.c) (fun sv => [fun w1 => OwV ratK 55 w.heap.size w1 (.slice sv.p P.c.length sv.c) P.c, fun _ => ob sv.p ≠ some R1, fun _ => ob sv.p ≠ some R2]) (wants0 rfl)
  · intro f1 l1 hl1 w' h0 hK; go_simp; (try go_bits); refine (numbers_any (.slice p_h0 P.c.length c_h0) P.c w' (h0_1_W3.below hK.old) (hB0_W3.below hK.old) (by omega) hL.c).mono ?_; rintro e w5 ⟨y0, rfl, u0, hb⟩; obtain ⟨rfl, rfl⟩ := hl1.out; have u0_0 := u0; obtain ⟨p_u0, c_u0, rfl, n_u0⟩ := u0.sh; exact ⟨_, rfl, (⟨p_u0, 0, c_u0⟩ : Sl), rfl, hb, .cons (fun w2 h2 => (u0_0.mono (Nat.le_trans v_W3 hK.old.size)).below h2) (.cons (fun _ _ => fun e => absurd (u0_0.block e).1 (Nat.not_le.2 ((hK.get m1)).ltS)) (.cons (fun _ _ => fun e => absurd (u0_0.block e).1 (Nat.not_le.2 ((hK.get m0)).ltS)) (Lasts.nil _)))⟩
  intro sv4
  simp only [Act.put, pA, pB, pC, pD, pE]
  refine lF ?_
  refine lL m1 ?_
  apply lxE1 (α := Sl) (fun sv => .slice sv.p P.b.length sv.c) (fun sv => [fun w1 => OwV ratK 55 w.heap.size w1 (.slice sv.p P.b.length sv.c) P.b, fun _ => ob sv.p ≠ some R1, fun _ => ob sv.p ≠ some R2, fun _ => ∀ g, ob sv.p = some g → ob sv4.p ≠ some g]) (wants0 rfl)
  · intro f1 l1 hl1 w' h0 hK; go_simp; (try go_bits); refine (numbers_any (.slice r_h0 P.b.length e_h0) P.b w' (h0_3_W3.below hK.old) (hB0_W3.below hK.old) (by have := hok.out.hb; omega) hL.b).mono ?_; rintro e w5 ⟨y0, rfl, u0, hb⟩; obtain ⟨rfl, rfl⟩ := hl1.out; have u0_0 := u0; obtain ⟨p_u0, c_u0, rfl, n_u0⟩ := u0.sh; exact ⟨_, rfl, (⟨p_u0, 0, c_u0⟩ : Sl), rfl, hb, .cons (fun w2 h2 => (u0_0.mono (Nat.le_trans v_W3 hK.old.size)).below h2) (.cons (fun _ _ => fun e => absurd (u0_0.block e).1 (Nat.not_le.2 ((hK.get m4)).ltS)) (.cons (fun _ _ => fun e => absurd (u0_0.block e).1 (Nat.not_le.2 ((hK.get m3)).ltS)) (.cons (fun _ _ => fun _ e e2 => absurd (u0_0.block e).1 (Nat.not_le.2 (((hK.get m0)).block e2).2)) (Lasts.nil _))))⟩
  intro sv7
  simp only [Act.put, pA, pB, pC, pD, pE]
  refine lF ?_
  refine lA (.cells #[.slice none 0 0, .slice none 0 0, .slice none 0 0] 49) (fun R11 => ?_)
  refine lS m0 0 [.slice sv4.p P.c.length sv4.c, .slice none 0 0, .slice sv7.p P.b.length sv7.c] (fun w' h0 hK k_R11 ni => kL (Nat.lt_of_lt_of_le z_R2 k_R11.1) (kL (Nat.lt_of_lt_of_le z_R1 k_R11.1) kN)) (fun w' h0 hK k_R11 ni => kP [.slice sv4.p P.c.length sv4.c, .slice none 0 0, .slice sv7.p P.b.length sv7.c] (kK (spO (OwV.apT (hK.get m1) k_R11 (by decide)) (.inr (ni.no rfl))) (kC (kC (kC (kK (spO (OwV.apT (hK.get m5) k_R11 (by decide)) (.inr (ni.no rfl))) (kC (kC (kL (Nat.lt_of_lt_of_le z_R2 k_R11.1) (kL (Nat.lt_of_lt_of_le z_R1 k_R11.1) kZ)))))))))) ?_
  refine lxEnd (fun W12 hK => ?_)
  have n5 := hK.get m6
  have n6 := hK.get m7
  have n8 := hK.get m2
  have n9 := hK.get m3
  have n10 := hK.get m4
  have o_R1_R11 : R1 < R11 := Nat.lt_of_lt_of_le z_R1 (hK.get m0).1
  have o_R2_R11 : R2 < R11 := Nat.lt_of_lt_of_le z_R2 (hK.get m0).1
  replace hK := hKo.over hK
  clear hKo
  go_wp2_with fail
  go_loopw [4] (fun s4 wl => ∃ (i : Nat) (pa : Option Addr) (ca : Nat), s4 = .int .i64 (i : Int) ∧ (i ≤ P.A.length) ∧ RowKit.Hid (preA P.A i = [] → pa = none) ∧ (ob pa ≠ some R1) ∧ (ob pa ≠ some R2) ∧ (ob pa ≠ some R11) ∧ RowKit.Hid (∀ g, ob pa = some g → ob sv4.p ≠ some g) ∧ RowKit.Hid (∀ g, ob pa = some g → ob sv7.p ≠ some g) ∧ KS w [fun w1 => OwV ratK 55 w.heap.size w1 (.slice sv4.p P.c.length sv4.c) P.c, fun w1 => OwV ratK 55 w.heap.size w1 (.slice sv7.p P.b.length sv7.c) P.b, fun w1 => OwV rrK 46 w.heap.size w1 (.slice pa (preA P.A i).length ca) (preA P.A i), Has W3.heap.size R11 (.cells #[.slice sv4.p P.c.length sv4.c, .slice pa (preA P.A i).length ca, .slice sv7.p P.b.length sv7.c] 49), Has w.heap.size R2 (.cells #[.slice none 0 0, .slice none 0 0, .slice none 0 0] 49), Has w.heap.size R1 (.cells #[.slice p_h0 P.c.length c_h0, .slice q_h0 P.A.length d_h0, .slice r_h0 P.b.length e_h0] 36)] wl) (fun s4 _ => P.A.length - (intOf s4).toNat)
  case atStart => exact ⟨0, none, 0, rfl, (by omega), (hid (fun _ => rfl)), (fun e => by cases e), (fun e => by cases e), (fun e => by cases e), (hid (fun g e => by cases e)), (hid (fun g e => by cases e)), ⟨hK.old, (al1 (hK.all _ m5) (al1 (hK.all _ m1) (al1 (fun w' _ => OwV.nil) (al1 (hK.all _ m0) (al1 (hK.all _ m8) (al1 (hK.all _ m9) aN))))))⟩⟩
  case round =>
   clear hK
   obtain ⟨i, pa, ca, rfl, hi, hea, hb_pa_R1, hb_pa_R2, hb_pa_R11, hq_pa_0, hq_pa_1, hK⟩ := hrel
   generalize wr = W13 at hK ⊢
   go_upto_region 3 with (fail)
   refine wp_region_tx w hK ?_
   clear hK
   iterate 2 (refine tF ?_)
   refine tL m5 ?_
   refine tF ?_
   refine tB (decide (((i : Int)) < ((P.A.length : Int)))) (fun b1 hb1 => ?_)
   refine txEnd (fun W14 hK => ?_)
   cases b1
   · --
    have q_b1 : ((P.A.length : Int)) ≤ ((i : Int)) := Int.not_lt.1 (of_decide_eq_false hb1.out)
    go_upto_region 6 with (fail)
    refine wp_region_tx w hK ?_
    clear hK
    refine tL m3 ?_
    refine tS m4 0 [.slice sv4.p P.c.length sv4.c, .slice pa (preA P.A i).length ca, .slice sv7.p P.b.length sv7.c] (fun w' hK _ ni => kK (spO n6 (.inr (ni.no rfl))) (kK (spO n9 (.inr (ni.no rfl))) (kK (spO hb_pa_R2 (.inr (ni.no rfl))) (kG o_R2_R11 (kP [.slice sv4.p P.c.length sv4.c, .slice pa (preA P.A i).length ca, .slice sv7.p P.b.length sv7.c] (kL o_R1_R2 kZ)))))) ?_
    refine txEnd (fun W15 hK => ?_)
    have k_R2 := (hK.get m4); have ⟨c_R2_0, c_R2_1, c_R2_2⟩ := k_R2.c3
    go_wp2
    exact bodyPost_ret (v := .agg #[.slice sv4.p P.c.length sv4.c, .slice pa (preA P.A i).length ca, .slice sv7.p P.b.length sv7.c]) (by simp [results, Tryz.results24, go_sem, c_R2_0, c_R2_1, c_R2_2]) rfl ((by obtain rfl := hQ0.out; exact ⟨_, rfl, (by have e : i = P.A.length := (by omega); subst e; have q := (hK.get m2); simp only [preA_all] at q ⊢; exact ⟨⟨sv4.p, 0, sv4.c⟩, ⟨pa, 0, ca⟩, ⟨sv7.p, 0, sv7.c⟩, rfl, (hK.get m0), q, (hK.get m1)⟩), hK.old⟩))
   · --
    have q_b1 : ((i : Int)) < ((P.A.length : Int)) := of_decide_eq_true hb1.out
    obtain ⟨ra, era⟩ : ∃ x, RowKit.Hid (P.A[i]? = some x) := ⟨_, hid (List.getElem?_eq_getElem (show i < P.A.length from (by omega)))⟩
    have i16 : i < P.A.length := by have q : i < P.A.length := (by omega); first | exact q | (simp at q; omega) | omega
    obtain ⟨g16, o16, q16, l16⟩ := (h0_2).ptr era.out
    subst q16
    obtain ⟨c16_0, hK⟩ := KS.atL hK (h0_2.below hK.old) era.out
    have hra := hid (row_len hok.out era.out); have hpl := hid (preA_len (l := P.A) (k := i) (by omega))
    go_upto_region 5 with (fail)
    have v_W14 := hK.old.size
    have b17 : ∀ g, ob sv4.p = some g → g < W14.heap.size := fun g e => ((hK.get m2).block e).2
    have b18 : ∀ g, ob sv7.p = some g → g < W14.heap.size := fun g e => ((hK.get m3).block e).2
    have b19 : ∀ g, ob pa = some g → g < W14.heap.size := fun g e => ((hK.get m4).block e).2
    have z_R11 : R11 < W14.heap.size := (hK.get m5).ltS
    have z_R2 : R2 < W14.heap.size := (hK.get m6).ltS
    have z_R1 : R1 < W14.heap.size := (hK.get m7).ltS
    have hK0 := hK.subl (sC (sC (sC (sC (sC (sC (sK (sK sZ))))))))
    replace hK0 := hK0.add (F := fun w1 => W14.heap.size ≤ w1.heap.size) (fun _ hb => hb.size)
    refine wp_region_floatB (w) (W14.heap.size) _ _ [0, 1, 0, 0, 0, 0, 1, 2, 3, 5, 0, 4] (by kernel_rfl) (by kernel_rfl) (by kernel_rfl) (by kernel_rfl) (fun _ h0 => h0.get m0) (KS.drew hK0) (KS.drew hK) ?_
    clear hK hK0
    refine lF ?_
    refine lR m5 ?_
    refine lF ?_
    refine lL m2 ?_
    iterate 2 (refine lF ?_)
    apply lxR0 (wants0 rfl); (· intro w' h0 hK; have c_CEL16_0 : w'.cell? ⟨g16, o16 + i, none⟩ = some (.slice c16_0.p ra.length c16_0.c) := (by have q := (hK.get m0).2 0 _ rfl; simpa using q); go_simp; (try go_bits); exact ⟨rfl, rfl⟩); simp only [Act.put, pA, pB, pC]
    apply lxE1 (α := Sl) (fun sv => .slice sv.p ra.length sv.c) (fun sv => [fun w1 => OwV ratK 55 w.heap.size w1 (.slice sv.p ra.length sv.c) ra, fun _ => ob sv.p ≠ some R11, fun _ => ob sv.p ≠ some R2, fun _ => ob sv.p ≠ some R1, fun _ => ∀ g, ob sv.p = some g → ob sv4.p ≠ some g, fun _ => ∀ g, ob sv.p = some g → ob sv7.p ≠ some g, fun _ => ∀ g, ob sv.p = some g → ob pa ≠ some g]) (wants0 rfl)
    · intro f1 l1 hl1 w' h0 hK; go_simp; (try go_bits); refine (numbers_any (.slice c16_0.p ra.length c16_0.c) ra w' (hK.get m1) (hB0.below hK.old) (by have := hra.out; omega) (hL.a _ (List.mem_of_getElem? era.out))).mono ?_; rintro e w5 ⟨y0, rfl, u0, hb⟩; obtain ⟨rfl, rfl⟩ := hl1.out; have u0_0 := u0; obtain ⟨p_u0, c_u0, rfl, n_u0⟩ := u0.sh; exact ⟨_, rfl, (⟨p_u0, 0, c_u0⟩ : Sl), rfl, hb, .cons (fun w2 h2 => (u0_0.mono hK.old.size).below h2) (.cons (fun _ _ => fun e => absurd (u0_0.block e).1 (Nat.not_le.2 ((hK.get m5)).ltS)) (.cons (fun _ _ => fun e => absurd (u0_0.block e).1 (Nat.not_le.2 ((hK.get m6)).ltS)) (.cons (fun _ _ => fun e => absurd (u0_0.block e).1 (Nat.not_le.2 ((hK.get m7)).ltS)) (.cons (fun _ _ => fun _ e e2 => absurd (u0_0.block e).1 (Nat.not_le.2 (((hK.get m2)).block e2).2)) (.cons (fun _ _ => fun _ e e2 => absurd (u0_0.block e).1 (Nat.not_le.2 (((hK.get m3)).block e2).2)) (.cons (fun _ _ => fun _ e e2 => absurd (u0_0.block e).1 (Nat.not_le.2 (((hK.get m4)).block e2).2)) (Lasts.nil _)))))))⟩
    intro sv20
    simp only [Act.put, pA, pB, pC, pD, pE]
    refine lA (.cells #[.slice sv20.p ra.length sv20.c] 46) (fun R27 => ?_)
    refine lxApp (K := rrK) (t := 46) (xs := preA P.A i) (ys := [ra]) (.tmp 20) (.tmp 27) (wants0 rfl) (by rfl) Tryz.underlying47 Tryz.underlying47 infoSQ rfl (by rfl) (by rfl) (by have := hpl.out; simp [maxLen]; omega) (by have := hpl.out; simp; omega) (fun r => [fun w1 => OwV ratK 55 w.heap.size w1 (.slice sv20.p ra.length sv20.c) ra, fun _ => ob sv20.p ≠ some R11, fun _ => ob sv20.p ≠ some R2, fun _ => ob sv20.p ≠ some R1, fun _ => ∀ g, ob sv20.p = some g → ob sv4.p ≠ some g, fun _ => ∀ g, ob sv20.p = some g → ob sv7.p ≠ some g, fun _ => ∀ g, ob sv20.p = some g → ob pa ≠ some g, fun w1 => OwV ratK 55 w.heap.size w1 (.slice sv4.p P.c.length sv4.c) P.c, fun w1 => OwV ratK 55 w.heap.size w1 (.slice sv7.p P.b.length sv7.c) P.b, Has W3.heap.size R11 (.cells #[.slice sv4.p P.c.length sv4.c, .slice pa (preA P.A i).length ca, .slice sv7.p P.b.length sv7.c] 49), Has w.heap.size R2 (.cells #[.slice none 0 0, .slice none 0 0, .slice none 0 0] 49), Has w.heap.size R1 (.cells #[.slice p_h0 P.c.length c_h0, .slice (some ⟨g16, o16, none⟩) P.A.length d_h0, .slice r_h0 P.b.length e_h0] 36), fun _ => ∀ g, ob r = some g → ob sv20.p ≠ some g, fun _ => ∀ g, ob r = some g → ob sv4.p ≠ some g, fun _ => ∀ g, ob r = some g → ob sv7.p ≠ some g, fun _ => ob r ≠ some R11, fun _ => ob r ≠ some R2, fun _ => ob r ≠ some R1]) b19 (fun w' h0 hK => ⟨(hK.get m12), (fun g e => .inr ((((hK.get m12).hd' hea.out slK_hd) g e).no rfl)), (SlV.one (hK.get m0) ((hK.get m1)).toR (Nat.le_refl 1) (by decide))⟩) (fun w' h0 hK => (al1 (gwL (h0.get m0)) (al1 (gwH (h0.get m1) hb_pa_R2) (al1 (gwH (h0.get m2) hb_pa_R1) aN)))) (fun w' r h0 hK hr => (al1 (gwO (hK.get m1) (fun g e1 e2 => ((hK.get m7)) g e2 e1) (fun g e => .inr ((((hK.get m12).hd' hea.out slK_hd) g e).no rfl))) (al1 (gwC (hK.get m2)) (al1 (gwC (hK.get m3)) (al1 (gwC (hK.get m4)) (al1 (gwC (hK.get m5)) (al1 (gwC (hK.get m6)) (al1 (gwC (hK.get m7)) (al1 (gwO (hK.get m10) hq_pa_0.out (fun g e => .inr ((((hK.get m12).hd' hea.out slK_hd) g e).no rfl))) (al1 (gwO (hK.get m11) hq_pa_1.out (fun g e => .inr ((((hK.get m12).hd' hea.out slK_hd) g e).no rfl))) (al1 (gwH (hK.get m13) hb_pa_R11) (al1 (gwH (hK.get m14) hb_pa_R2) (al1 (gwH (hK.get m15) hb_pa_R1) (al1 (gwC (apr hr (fun g e1 e2 => ((hK.get m7)) g e2 e1) (fun g e => (((hK.get m1)).block e).2))) (al1 (gwC (apr hr hq_pa_0.out (fun g e => (((hK.get m10)).block e).2))) (al1 (gwC (apr hr hq_pa_1.out (fun g e => (((hK.get m11)).block e).2))) (al1 (gwC (apb hr hb_pa_R11 ((hK.get m13)).ltS)) (al1 (gwC (apb hr hb_pa_R2 ((hK.get m14)).ltS)) (al1 (gwC (apb hr hb_pa_R1 ((hK.get m15)).ltS)) aN))))))))))))))))))) ?_
    intro sv28
    rw [(show preA P.A i ++ [ra] = preA P.A (i + 1) from preA_snoc era.out)]
    simp only [Act.put, pA, pB, pC]
    refine lF ?_
    refine lS m10 1 [.slice sv28.p (preA P.A (i + 1)).length sv28.c] (fun w' h0 hK k_R11 ni => kK (spB) (kL o_R2_R11 (kL o_R1_R11 kN))) (fun w' h0 hK k_R11 ni => kK (spO ((hK.get m16)) (.inr (ni.no rfl))) (kK (spO ((hK.get m2)) (.inr (ni.no rfl))) (kC (kC (kC (kC (kC (kC (kK (spO (OwV.apT (hK.get m8) k_R11 (by decide)) (.inr (ni.no rfl))) (kK (spO (OwV.apT (hK.get m9) k_R11 (by decide)) (.inr (ni.no rfl))) (kP [.slice sv4.p P.c.length sv4.c, .slice sv28.p (preA P.A (i + 1)).length sv28.c, .slice sv7.p P.b.length sv7.c] (kL o_R2_R11 (kL o_R1_R11 (kC (kC (kC (kC (kC (kC kZ))))))))))))))))))) ?_ (hR := fun _ k_R11 => Nat.le_trans v_W3 k_R11.1)
    refine lxEnd (fun W35 hK => ?_)
    have n21 := hK.get m2
    have n22 := hK.get m3
    have n23 := hK.get m4
    have n24 := hK.get m5
    have n25 := hK.get m6
    have n26 := hK.get m7
    have n29 := hK.get m13
    have n30 := hK.get m14
    have n31 := hK.get m15
    have n32 := hK.get m16
    have n33 := hK.get m17
    have n34 := hK.get m18
    (try go_wp2)
    go_roundw
    case rel => exact ⟨i + 1, sv28.p, sv28.c, (by first | rfl | go_num), (by omega), (hid (fun e => absurd (congrArg List.length e) (by rw [preA_len (by omega)]; simp))), n34, n33, n32, (hid n30), (hid n31), ⟨hK.old, (al1 (hK.all _ m8) (al1 (hK.all _ m9) (al1 (hK.all _ m0) (al1 (hK.all _ m10) (al1 (hK.all _ m11) (al1 (hK.all _ m12) aN))))))⟩⟩
    case measure => simp [intOf]; omega
end Go.Proofs.YtcdbgincfdejkaaGreatDoor
