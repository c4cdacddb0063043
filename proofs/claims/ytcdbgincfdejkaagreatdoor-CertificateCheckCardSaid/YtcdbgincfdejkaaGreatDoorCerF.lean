/- Programs, guesses and results of the laws of certificates walked. -/
import Derived.Test.YtcdbgincfdejkaaGreatDoorTz
import Derived.Test.YtcdbgincfdejkaaGreatDoorCerE
import Derived.Test.YtcdbgincfdejkaaGreatDoorRowI
namespace Go.Proofs.YtcdbgincfdejkaaGreatDoor
open Go.RowKit
open Go.Lib (decDigits)
def RrO (b0 : Nat) (w : World) (v : Value) (R : LpRes) : Prop := ∃ (a b c : Sl) (s : Bool) (d e : Sl), v = .agg #[.int .i64 R.k, .slice a.p R.x.length a.c, .slice b.p R.y.length b.c, .slice c.p R.r.length c.c, .bool s, .slice d.p d.l d.c, .slice e.p e.l e.c] ∧ OwV refK 41 b0 w (.slice a.p R.x.length a.c) R.x ∧ OwV refK 41 b0 w (.slice b.p R.y.length b.c) R.y ∧ OwV refK 41 b0 w (.slice c.p R.r.length c.c) R.r ∧ RefR w (.agg #[.bool s, .slice d.p d.l d.c, .slice e.p e.l e.c]) R.z
theorem fof1_any (v : Value) (z : Frc) (w : World) (h : SlV frK w v [z]) (hz : z.Ok) : Calls Tryz.prog 28 #[v] w fun e w' => ∃ y0, e = .returned y0 ∧ OwV refK 41 w.heap.size w' y0 (frL [z]) ∧ Below w.heap.size w w' :=
  fof_any v [z] w h (by simp) (fun x hx => by rw [List.mem_singleton.1 hx]; exact hz)
theorem num1_any (v : Value) (z : Rat) (w : World) (h : SlV refK w v [z]) (hz : LmQ 50 z) (hB : Bas w) : Calls Tryz.prog 27 #[v] w fun e w' => ∃ y0, e = .returned y0 ∧ OwV ratK 55 w.heap.size w' y0 [z] ∧ Below w.heap.size w w' :=
  numbers_any v [z] w h hB (by simp) (fun x hx => by rw [List.mem_singleton.1 hx]; exact hz)
set_option maxRecDepth 100000 in
theorem gresult_any (v0 : Value) (g : Gs) (w : World) (h0 : GsV w v0 g) (hg : g.Ok) (hl : g.x.length ≤ 100000 ∧ g.y.length ≤ 100000 ∧ g.r.length ≤ 100000) :
    Calls Tryz.prog 22 #[v0] w fun e w' => ∃ y0, e = .returned y0 ∧ RrO w.heap.size w' y0 (resG g) ∧ Below w.heap.size w w' := by
  have h0_0 := h0; obtain ⟨⟨p_h0, l_h0, c_h0⟩, ⟨q_h0, m_h0, d_h0⟩, ⟨r_h0, n_h0, e_h0⟩, rfl, h0_1, h0_2, h0_3⟩ := h0
  have hK := (KS.start w)
  have q0 := hg.k; unfold Rng8 at q0
  refine Calls.hide (fun Q0 hQ0 => ?_)
  go_enter Tryz.func22, Tryz.ntmps22
  go_upto_region 0 with (fail)
  refine wp_region_tx w hK ?_
  clear hK
  refine tA (.cells #[.int .i8 g.k, .slice p_h0 g.x.length c_h0, .slice q_h0 g.y.length d_h0, .slice r_h0 g.r.length e_h0, .int .i8 g.z.n, .int .i8 g.z.d] 30) (fun R1 q_R1 => ?_)
  clear q_R1
  refine tA (.cells #[.int .i64 0, .slice none 0 0, .slice none 0 0, .slice none 0 0, .bool false, .slice none 0 0, .slice none 0 0] 43) (fun R2 q_R2 => ?_)
  have o_R1_R2 : R1 < R2 := q_R2 _ _ _ m0
  clear q_R2
  refine txEnd (fun W3 hK => ?_)
  go_upto_region 1 with (fail)
  have v_W3 := hK.old.size
  have z_R1 : R1 < W3.heap.size := (hK.get m1).ltS
  have z_R2 : R2 < W3.heap.size := (hK.get m0).ltS
  have hK0 := hK.subl (sC (sK sZ))
  replace hK0 := hK0.add (F := fun w1 => W3.heap.size ≤ w1.heap.size) (fun _ hb => hb.size)
  refine wp_region_floatB (w) (W3.heap.size) _ _ [0, 0, 0, 0, 0, 2, 0, 0, 2, 0, 0, 2, 0, 0, 3, 2, 0, 2, 0, 4] (by kernel_rfl) (by kernel_rfl) (by kernel_rfl) (by kernel_rfl) (fun _ h0 => h0.get m0) (KS.drew hK0) (KS.drew hK) ?_
  clear hK hK0
  refine lF ?_
  refine lL m1 ?_
  apply lxF0 (v := .int .i64 g.k) (wants0 rfl); (· intro w' h0; go_simp; (try go_bits); exact ⟨congrArg _ (by omega), rfl⟩); simp only [Act.put, pA, pB, pC]
  refine lF ?_
  refine lL m1 ?_
  apply lxE1 (α := Sl) (fun sv => .slice sv.p (frL g.x).length sv.c) (fun sv => [fun w1 => OwV refK 41 w.heap.size w1 (.slice sv.p (frL g.x).length sv.c) (frL g.x), fun _ => ob sv.p ≠ some R1, fun _ => ob sv.p ≠ some R2]) (wants0 rfl)
  · intro f1 l1 hl1 w' h0 hK; go_simp; (try go_bits); refine (fof_any (.slice p_h0 g.x.length c_h0) g.x w' (h0_1.below hK.old) hl.1 hg.x).mono ?_; rintro e w5 ⟨y0, rfl, u0, hb⟩; obtain ⟨rfl, rfl⟩ := hl1.out; have u0_0 := u0; obtain ⟨p_u0, c_u0, rfl, n_u0⟩ := u0.sh; exact ⟨_, rfl, (⟨p_u0, 0, c_u0⟩ : Sl), rfl, hb, .cons (fun w2 h2 => (u0_0.mono hK.old.size).below h2) (.cons (fun _ _ => fun e => absurd (u0_0.block e).1 (Nat.not_le.2 ((hK.get m1)).ltS)) (.cons (fun _ _ => fun e => absurd (u0_0.block e).1 (Nat.not_le.2 ((hK.get m0)).ltS)) (Lasts.nil _)))⟩
  intro sv4
  simp only [Act.put, pA, pB, pC, pD, pE]
  refine lF ?_
  refine lL m1 ?_
  apply lxE1 (α := Sl) (fun sv => .slice sv.p (frL g.y).length sv.c) (fun sv => [fun w1 => OwV refK 41 w.heap.size w1 (.slice sv.p (frL g.y).length sv.c) (frL g.y), fun _ => ob sv.p ≠ some R1, fun _ => ob sv.p ≠ some R2, fun _ => ∀ g, ob sv.p = some g → ob sv4.p ≠ some g]) (wants0 rfl)
  · intro f1 l1 hl1 w' h0 hK; go_simp; (try go_bits); refine (fof_any (.slice q_h0 g.y.length d_h0) g.y w' (h0_2.below hK.old) hl.2.1 hg.y).mono ?_; rintro e w5 ⟨y0, rfl, u0, hb⟩; obtain ⟨rfl, rfl⟩ := hl1.out; have u0_0 := u0; obtain ⟨p_u0, c_u0, rfl, n_u0⟩ := u0.sh; exact ⟨_, rfl, (⟨p_u0, 0, c_u0⟩ : Sl), rfl, hb, .cons (fun w2 h2 => (u0_0.mono hK.old.size).below h2) (.cons (fun _ _ => fun e => absurd (u0_0.block e).1 (Nat.not_le.2 ((hK.get m4)).ltS)) (.cons (fun _ _ => fun e => absurd (u0_0.block e).1 (Nat.not_le.2 ((hK.get m3)).ltS)) (.cons (fun _ _ => fun _ e e2 => absurd (u0_0.block e).1 (Nat.not_le.2 (((hK.get m0)).block e2).2)) (Lasts.nil _))))⟩
  intro sv7
  simp only [Act.put, pA, pB, pC, pD, pE]
  refine lF ?_
  refine lL m1 ?_
  apply lxE1 (α := Sl) (fun sv => .slice sv.p (frL g.r).length sv.c) (fun sv => [fun w1 => OwV refK 41 w.heap.size w1 (.slice sv.p (frL g.r).length sv.c) (frL g.r), fun _ => ob sv.p ≠ some R1, fun _ => ob sv.p ≠ some R2, fun _ => ∀ g, ob sv.p = some g → ob sv7.p ≠ some g, fun _ => ∀ g, ob sv.p = some g → ob sv4.p ≠ some g]) (wants0 rfl)
  · intro f1 l1 hl1 w' h0 hK; go_simp; (try go_bits); refine (fof_any (.slice r_h0 g.r.length e_h0) g.r w' (h0_3.below hK.old) hl.2.2 hg.r).mono ?_; rintro e w5 ⟨y0, rfl, u0, hb⟩; obtain ⟨rfl, rfl⟩ := hl1.out; have u0_0 := u0; obtain ⟨p_u0, c_u0, rfl, n_u0⟩ := u0.sh; exact ⟨_, rfl, (⟨p_u0, 0, c_u0⟩ : Sl), rfl, hb, .cons (fun w2 h2 => (u0_0.mono hK.old.size).below h2) (.cons (fun _ _ => fun e => absurd (u0_0.block e).1 (Nat.not_le.2 ((hK.get m8)).ltS)) (.cons (fun _ _ => fun e => absurd (u0_0.block e).1 (Nat.not_le.2 ((hK.get m7)).ltS)) (.cons (fun _ _ => fun _ e e2 => absurd (u0_0.block e).1 (Nat.not_le.2 (((hK.get m0)).block e2).2)) (.cons (fun _ _ => fun _ e e2 => absurd (u0_0.block e).1 (Nat.not_le.2 (((hK.get m4)).block e2).2)) (Lasts.nil _)))))⟩
  intro sv11
  simp only [Act.put, pA, pB, pC, pD, pE]
  refine lF ?_
  refine lL m1 ?_
  refine lA (.cells #[.int .i8 g.z.n, .int .i8 g.z.d] 28) (fun R16 => ?_)
  apply lxE1 (α := Duo Nat Nat) (fun sv => .slice (some ⟨sv.a, 0, none⟩) (frL [g.z]).length sv.b) (fun sv => [fun w => SlV refK w (.slice (some ⟨sv.a, 0, none⟩) (frL [g.z]).length sv.b) (frL [g.z])]) (wants0 rfl)
  · intro f1 l1 hl1 w' h0 hK; go_simp; (try go_bits); refine (fof1_any (.slice (some ⟨R16, 0, none⟩) 1 1) g.z w' (SlV.ofBox (K := frK) (f := frC) (xs := [g.z]) (fun _ _ => rfl) (hK.get m0) (by simp)) hg.z).mono ?_; rintro e w5 ⟨y0, rfl, u0, hb⟩; obtain ⟨rfl, rfl⟩ := hl1.out; obtain ⟨g_u0, c_u0, rfl, u0_0⟩ := u0.shN (by simp [frL]); exact ⟨_, rfl, (⟨g_u0, c_u0⟩ : Duo Nat Nat), rfl, hb, .cons (fun w2 h2 => u0_0.below h2) (Lasts.nil _)⟩
  intro sv17
  simp only [Act.put, pA, pB, pC, pD, pE]
  refine lF ?_
  apply lxE1 (α := Duo Bool (Duo Sl Sl)) (fun sv => .agg #[.bool sv.a, .slice sv.b.a.p sv.b.a.l sv.b.a.c, .slice sv.b.b.p sv.b.b.l sv.b.b.c]) (fun sv => [fun w => RefR w (.agg #[.bool sv.a, .slice sv.b.a.p sv.b.a.l sv.b.a.c, .slice sv.b.b.p sv.b.b.l sv.b.b.c]) (frX g.z)]) (wants0 rfl)
  · intro f1 l1 hl1 w' h0 hK; obtain ⟨ls, ly, lz, lc0, lc1, lc2, lr⟩ := refK_load (hK.get m0) rfl; go_simp; (try go_bits); obtain ⟨rfl, rfl⟩ := hl1.out; exact ⟨⟨ls, ⟨ly, lz⟩⟩, rfl, Below.refl _ _, .cons (fun w2 h2 => lr.below h2) (Lasts.nil _)⟩
  intro sv18
  simp only [Act.put, pA, pB, pC, pD, pE]
  refine lF ?_
  apply lxS1 [fun w => RefR w (.agg #[.bool sv18.a, .slice sv18.b.a.p sv18.b.a.l sv18.b.a.c, .slice sv18.b.b.p sv18.b.b.l sv18.b.b.c]) (frX g.z), Has W3.heap.size R16 (.cells #[.int .i8 g.z.n, .int .i8 g.z.d] 28), fun w1 => OwV refK 41 w.heap.size w1 (.slice sv11.p (frL g.r).length sv11.c) (frL g.r), fun _ => ob sv11.p ≠ some R1, fun _ => ob sv11.p ≠ some R2, fun _ => ∀ g, ob sv11.p = some g → ob sv7.p ≠ some g, fun _ => ∀ g, ob sv11.p = some g → ob sv4.p ≠ some g, fun w1 => OwV refK 41 w.heap.size w1 (.slice sv7.p (frL g.y).length sv7.c) (frL g.y), fun _ => ob sv7.p ≠ some R1, fun _ => ob sv7.p ≠ some R2, fun _ => ∀ g, ob sv7.p = some g → ob sv4.p ≠ some g, fun w1 => OwV refK 41 w.heap.size w1 (.slice sv4.p (frL g.x).length sv4.c) (frL g.x), fun _ => ob sv4.p ≠ some R1, fun _ => ob sv4.p ≠ some R2, Has w.heap.size R2 (.cells #[.int .i64 g.k, .slice sv4.p (frL g.x).length sv4.c, .slice sv7.p (frL g.y).length sv7.c, .slice sv11.p (frL g.r).length sv11.c, .bool sv18.a, .slice sv18.b.a.p sv18.b.a.l sv18.b.a.c, .slice sv18.b.b.p sv18.b.b.l sv18.b.b.c] 43), Has w.heap.size R1 (.cells #[.int .i8 g.k, .slice p_h0 g.x.length c_h0, .slice q_h0 g.y.length d_h0, .slice r_h0 g.r.length e_h0, .int .i8 g.z.n, .int .i8 g.z.d] 30)] (wants0 rfl)
  · intro g0 l1 hl1 w' h0 hK; have k_R2 := (hK.get m15); have ⟨c_R2_0, c_R2_1, c_R2_2, c_R2_3, c_R2_4, c_R2_5, c_R2_6⟩ := k_R2.c7; have f_R2 := k_R2.fz; have nz := zbox_of k_R2; have ni := hdIs_of k_R2; go_simp; obtain ⟨rfl, rfl⟩ := hl1.out; exact ⟨rfl, ks_put (R := R2) h0 k_R2.1 0 [.int .i64 g.k, .slice sv4.p (frL g.x).length sv4.c, .slice sv7.p (frL g.y).length sv7.c, .slice sv11.p (frL g.r).length sv11.c, .bool sv18.a, .slice sv18.b.a.p sv18.b.a.l sv18.b.a.c, .slice sv18.b.b.p sv18.b.b.l sv18.b.b.c] (al1 (spB (h0.get m0)) (al1 (spL o_R1_R2 (h0.get m1)) aN)), ks_put (R := R2) hK k_R2.1 0 [.int .i64 g.k, .slice sv4.p (frL g.x).length sv4.c, .slice sv7.p (frL g.y).length sv7.c, .slice sv11.p (frL g.r).length sv11.c, .bool sv18.a, .slice sv18.b.a.p sv18.b.a.l sv18.b.a.c, .slice sv18.b.b.p sv18.b.b.l sv18.b.b.c] (al1 (spSZ nz (hK.get m0)) (al1 (spG (Nat.lt_of_lt_of_le z_R2 (hK.get m2).1) (hK.get m2)) (al1 (spOZ ((hK.get m5)) nz (hK.get m3)) (al1 (fun _ _ => (hK.get m4)) (al1 (fun _ _ => (hK.get m5)) (al1 (fun _ _ => (hK.get m6)) (al1 (fun _ _ => (hK.get m7)) (al1 (spOZ ((hK.get m10)) nz (hK.get m8)) (al1 (fun _ _ => (hK.get m9)) (al1 (fun _ _ => (hK.get m10)) (al1 (fun _ _ => (hK.get m11)) (al1 (spOZ ((hK.get m14)) nz (hK.get m12)) (al1 (fun _ _ => (hK.get m13)) (al1 (fun _ _ => (hK.get m14)) (al1 (fun _ => has_put k_R2 _ _) (al1 (spL o_R1_R2 (hK.get m16)) aN))))))))))))))))⟩
  simp only [Act.put]
  refine lxEnd (fun W19 hK => ?_)
  have n5 := hK.get m12
  have n6 := hK.get m13
  have n8 := hK.get m8
  have n9 := hK.get m9
  have n10 := hK.get m10
  have n12 := hK.get m3
  have n13 := hK.get m4
  have n14 := hK.get m5
  have n15 := hK.get m6
  have k_R2 := (hK.get m14); have ⟨c_R2_0, c_R2_1, c_R2_2, c_R2_3, c_R2_4, c_R2_5, c_R2_6⟩ := k_R2.c7
  go_wp2
  exact bodyPost_ret (v := .agg #[.int .i64 g.k, .slice sv4.p (frL g.x).length sv4.c, .slice sv7.p (frL g.y).length sv7.c, .slice sv11.p (frL g.r).length sv11.c, .bool sv18.a, .slice sv18.b.a.p sv18.b.a.l sv18.b.a.c, .slice sv18.b.b.p sv18.b.b.l sv18.b.b.c]) (by simp [results, Tryz.results22, go_sem, c_R2_0, c_R2_1, c_R2_2, c_R2_3, c_R2_4, c_R2_5, c_R2_6]) rfl ((by obtain rfl := hQ0.out; exact ⟨_, rfl, ⟨⟨sv4.p, 0, sv4.c⟩, ⟨sv7.p, 0, sv7.c⟩, ⟨sv11.p, 0, sv11.c⟩, sv18.a, ⟨sv18.b.a.p, sv18.b.a.l, sv18.b.a.c⟩, ⟨sv18.b.b.p, sv18.b.b.l, sv18.b.b.c⟩, rfl, (hK.get m11), (hK.get m7), (hK.get m2), (hK.get m0)⟩, hK.old⟩))
set_option maxRecDepth 100000 in
theorem gbrief_any (v0 : Value) (g : Gs) (w : World) (h0 : GsV w v0 g)  :
    Calls Tryz.prog 20 #[v0] w fun e w' => e = .returned (.bool (briG g)) ∧ Below w.heap.size w w' := by
  have h0_0 := h0; obtain ⟨⟨p_h0, l_h0, c_h0⟩, ⟨q_h0, m_h0, d_h0⟩, ⟨r_h0, n_h0, e_h0⟩, rfl, h0_1, h0_2, h0_3⟩ := h0
  have hK := (KS.start w)
  refine Calls.hide (fun Q0 hQ0 => ?_)
  go_enter Tryz.func20, Tryz.ntmps20
  go_upto_region 0 with (fail)
  refine wp_region_tx w hK ?_
  clear hK
  refine tA (.cells #[.int .i8 g.k, .slice p_h0 g.x.length c_h0, .slice q_h0 g.y.length d_h0, .slice r_h0 g.r.length e_h0, .int .i8 g.z.n, .int .i8 g.z.d] 30) (fun R1 q_R1 => ?_)
  clear q_R1
  refine tF ?_
  refine txEnd (fun W2 hK => ?_)
  go_upto_region 1 with (fail)
  refine wp_region_tx w hK ?_
  clear hK
  refine tF ?_
  refine tL m0 ?_
  refine tF ?_
  refine tB (decide (((g.x.length : Int)) ≤ 10)) (fun b1 hb1 => ?_)
  refine tF ?_
  cases b1
  · --
   iterate 4 (refine tN ?_)
   iterate 2 (refine tF ?_)
   iterate 4 (refine tN ?_)
   iterate 2 (refine tF ?_)
   refine txEnd (fun W3 hK => ?_)
   go_wp2
   try go_ret
   show Q0 (.returned (.bool false)) _
   exact (by obtain rfl := hQ0.out; exact ⟨(ret_bool (by unfold briG; simp only [hb1.out, Bool.false_and])), hK.old⟩)
  · --
   refine tF ?_
   refine tL m0 ?_
   refine tF ?_
   refine tB (decide (((g.y.length : Int)) ≤ 10)) (fun b2 hb2 => ?_)
   iterate 2 (refine tF ?_)
   cases b2
   · --
    iterate 4 (refine tN ?_)
    iterate 2 (refine tF ?_)
    refine txEnd (fun W4 hK => ?_)
    go_wp2
    try go_ret
    show Q0 (.returned (.bool false)) _
    exact (by obtain rfl := hQ0.out; exact ⟨(ret_bool (by unfold briG; simp only [hb1.out, hb2.out, Bool.false_and, Bool.and_false])), hK.old⟩)
   · --
    refine tF ?_
    refine tL m0 ?_
    refine tF ?_
    refine tB (decide (((g.r.length : Int)) ≤ 10)) (fun b3 hb3 => ?_)
    iterate 2 (refine tF ?_)
    refine txEnd (fun W5 hK => ?_)
    go_wp2
    try go_ret
    show Q0 (.returned (.bool b3)) _
    exact (by obtain rfl := hQ0.out; exact ⟨(ret_bool (by unfold briG; simp only [hb1.out, hb2.out, hb3.out, Bool.true_and, Bool.and_true])), hK.old⟩)
set_option maxRecDepth 100000 in
set_option maxHeartbeats 1000000 in
theorem program_any (v0 : Value) (P : LPd) (w : World) (h0 : RpV w v0 P) (hB0 : Bas w) (hok : P.Ok) (hL : LmP 50 P) :
    Calls Tryz.prog 24 #[v0] w fun e w' => ∃ y0, e = .returned y0 ∧ LpO w.heap.size w' y0 P ∧ Below w.heap.size w w' := by
  have h0_0 := h0; obtain ⟨⟨p_h0, l_h0, c_h0⟩, ⟨q_h0, m_h0, d_h0⟩, ⟨r_h0, n_h0, e_h0⟩, rfl, h0_1, h0_2, h0_3⟩ := h0
  have hK := (KS.start w)
  have hn12 := hL.n
  have hm12 := hL.m
  replace hok := hid hok
  refine Calls.hide (fun Q0 hQ0 => ?_)
  go_enter Tryz.func24, Tryz.ntmps24
  go_upto_region 0 with (fail)
  refine wp_region_tx w hK ?_
  clear hK
  refine tA (.cells #[.slice p_h0 P.c.length c_h0, .slice q_h0 P.A.length d_h0, .slice r_h0 P.b.length e_h0] 36) (fun R1 q_R1 => ?_)
  clear q_R1
  refine tA (.cells #[.slice none 0 0, .slice none 0 0, .slice none 0 0] 49) (fun R2 q_R2 => ?_)
  have o_R1_R2 : R1 < R2 := q_R2 _ _ _ m0
  clear q_R2
  refine txEnd (fun W3 hK => ?_)
  go_upto_region 1 with (fail)
  have z_R1 : R1 < W3.heap.size := (hK.get m1).ltS
  have z_R2 : R2 < W3.heap.size := (hK.get m0).ltS
  have v_W3 := hK.old.size
  have hB0_W3 := hB0.below hK.old
  have h0_0_W3 := h0_0.below hK.old
  have h0_1_W3 := h0_1.below hK.old
  have h0_2_W3 := h0_2.below hK.old
  have h0_3_W3 := h0_3.below hK.old
  have hKo := hK
  replace hK := hK.re
  have hK0 := hK
  refine wp_region_float0 (W3) _ _ [0, 0, 2, 0, 0, 2, 0, 3, 4] (by kernel_rfl) (by kernel_rfl) (by kernel_rfl) (by kernel_rfl) (KS.drew hK0) (KS.drew hK) ?_
  clear hK hK0
  refine lF ?_
  refine lL m1 ?_
  apply lxE1 (α := Sl) (fun sv => .slice sv.p P.c.length sv.c) (fun sv => [fun w1 => OwV ratK 55 w.heap.size w1 (.slice sv.p P.c.length sv.c) P.c, fun _ => ob sv.p ≠ some R1, fun _ => ob sv.p ≠ some R2]) (wants0 rfl)
  · intro f1 l1 hl1 w' h0 hK; go_simp; (try go_bits); refine (numbers_any (.slice p_h0 P.c.length c_h0) P.c w' (h0_1_W3.below hK.old) (hB0_W3.below hK.old) (by omega) hL.c).mono ?_; rintro e w5 ⟨y0, rfl, u0, hb⟩; obtain ⟨rfl, rfl⟩ := hl1.out; have u0_0 := u0; obtain ⟨p_u0, c_u0, rfl, n_u0⟩ := u0.sh; exact ⟨_, rfl, (⟨p_u0, 0, c_u0⟩ : Sl), rfl, hb, .cons (fun w2 h2 => (u0_0.mono (Nat.le_trans v_W3 hK.old.size)).below h2) (.cons (fun _ _ => fun e => absurd (u0_0.block e).1 (Nat.not_le.2 ((hK.get m1)).ltS)) (.cons (fun _ _ => fun e => absurd (u0_0.block e).1 (Nat.not_le.2 ((hK.get m0)).ltS)) (Lasts.nil _)))⟩
  intro sv4
  simp only [Act.put, pA, pB, pC, pD, pE]
  refine lF ?_
  refine lL m1 ?_
  apply lxE1 (α := Sl) (fun sv => .slice sv.p P.b.length sv.c) (fun sv => [fun w1 => OwV ratK 55 w.heap.size w1 (.slice sv.p P.b.length sv.c) P.b, fun _ => ob sv.p ≠ some R1, fun _ => ob sv.p ≠ some R2, fun _ => ∀ g, ob sv.p = some g → ob sv4.p ≠ some g]) (wants0 rfl)
  · intro f1 l1 hl1 w' h0 hK; go_simp; (try go_bits); refine (numbers_any (.slice r_h0 P.b.length e_h0) P.b w' (h0_3_W3.below hK.old) (hB0_W3.below hK.old) (by have := hok.out.hb; omega) hL.b).mono ?_; rintro e w5 ⟨y0, rfl, u0, hb⟩; obtain ⟨rfl, rfl⟩ := hl1.out; have u0_0 := u0; obtain ⟨p_u0, c_u0, rfl, n_u0⟩ := u0.sh; exact ⟨_, rfl, (⟨p_u0, 0, c_u0⟩ : Sl), rfl, hb, .cons (fun w2 h2 => (u0_0.mono (Nat.le_trans v_W3 hK.old.size)).below h2) (.cons (fun _ _ => fun e => absurd (u0_0.block e).1 (Nat.not_le.2 ((hK.get m4)).ltS)) (.cons (fun _ _ => fun e => absurd (u0_0.block e).1 (Nat.not_le.2 ((hK.get m3)).ltS)) (.cons (fun _ _ => fun _ e e2 => absurd (u0_0.block e).1 (Nat.not_le.2 (((hK.get m0)).block e2).2)) (Lasts.nil _))))⟩
  intro sv7
  simp only [Act.put, pA, pB, pC, pD, pE]
  refine lF ?_
  refine lA (.cells #[.slice none 0 0, .slice none 0 0, .slice none 0 0] 49) (fun R11 => ?_)
  refine lS m0 0 [.slice sv4.p P.c.length sv4.c, .slice none 0 0, .slice sv7.p P.b.length sv7.c] (fun w' h0 hK k_R11 ni => kL (Nat.lt_of_lt_of_le z_R2 k_R11.1) (kL (Nat.lt_of_lt_of_le z_R1 k_R11.1) kN)) (fun w' h0 hK k_R11 ni => kP [.slice sv4.p P.c.length sv4.c, .slice none 0 0, .slice sv7.p P.b.length sv7.c] (kK (spO (OwV.apT (hK.get m1) k_R11 (by decide)) (.inr (ni.no rfl))) (kC (kC (kC (kK (spO (OwV.apT (hK.get m5) k_R11 (by decide)) (.inr (ni.no rfl))) (kC (kC (kL (Nat.lt_of_lt_of_le z_R2 k_R11.1) (kL (Nat.lt_of_lt_of_le z_R1 k_R11.1) kZ)))))))))) ?_
  refine lxEnd (fun W12 hK => ?_)
  have n5 := hK.get m6
  have n6 := hK.get m7
  have n8 := hK.get m2
  have n9 := hK.get m3
  have n10 := hK.get m4
  have o_R1_R11 : R1 < R11 := Nat.lt_of_lt_of_le z_R1 (hK.get m0).1
  have o_R2_R11 : R2 < R11 := Nat.lt_of_lt_of_le z_R2 (hK.get m0).1
  replace hK := hKo.over hK
  clear hKo
  go_wp2_with fail
  go_loopw [4] (fun s4 wl => ∃ (i : Nat) (pa : Option Addr) (ca : Nat), s4 = .int .i64 (i : Int) ∧ (i ≤ P.A.length) ∧ RowKit.Hid (preA P.A i = [] → pa = none) ∧ (ob pa ≠ some R1) ∧ (ob pa ≠ some R2) ∧ (ob pa ≠ some R11) ∧ RowKit.Hid (∀ g, ob pa = some g → ob sv4.p ≠ some g) ∧ RowKit.Hid (∀ g, ob pa = some g → ob sv7.p ≠ some g) ∧ KS w [fun w1 => OwV ratK 55 w.heap.size w1 (.slice sv4.p P.c.length sv4.c) P.c, fun w1 => OwV ratK 55 w.heap.size w1 (.slice sv7.p P.b.length sv7.c) P.b, fun w1 => OwV rrK 46 w.heap.size w1 (.slice pa (preA P.A i).length ca) (preA P.A i), Has W3.heap.size R11 (.cells #[.slice sv4.p P.c.length sv4.c, .slice pa (preA P.A i).length ca, .slice sv7.p P.b.length sv7.c] 49), Has w.heap.size R2 (.cells #[.slice none 0 0, .slice none 0 0, .slice none 0 0] 49), Has w.heap.size R1 (.cells #[.slice p_h0 P.c.length c_h0, .slice q_h0 P.A.length d_h0, .slice r_h0 P.b.length e_h0] 36)] wl) (fun s4 _ => P.A.length - (intOf s4).toNat)
  case atStart => exact ⟨0, none, 0, rfl, (by omega), (hid (fun _ => rfl)), (fun e => by cases e), (fun e => by cases e), (fun e => by cases e), (hid (fun g e => by cases e)), (hid (fun g e => by cases e)), ⟨hK.old, (al1 (hK.all _ m5) (al1 (hK.all _ m1) (al1 (fun w' _ => OwV.nil) (al1 (hK.all _ m0) (al1 (hK.all _ m8) (al1 (hK.all _ m9) aN))))))⟩⟩
  case round =>
   clear hK
   obtain ⟨i, pa, ca, rfl, hi, hea, hb_pa_R1, hb_pa_R2, hb_pa_R11, hq_pa_0, hq_pa_1, hK⟩ := hrel
   generalize wr = W13 at hK ⊢
   go_upto_region 3 with (fail)
   refine wp_region_tx w hK ?_
   clear hK
   iterate 2 (refine tF ?_)
   refine tL m5 ?_
   refine tF ?_
   refine tB (decide (((i : Int)) < ((P.A.length : Int)))) (fun b1 hb1 => ?_)
   refine txEnd (fun W14 hK => ?_)
   cases b1
   · --
    have q_b1 : ((P.A.length : Int)) ≤ ((i : Int)) := Int.not_lt.1 (of_decide_eq_false hb1.out)
    go_upto_region 6 with (fail)
    refine wp_region_tx w hK ?_
    clear hK
    refine tL m3 ?_
    refine tS m4 0 [.slice sv4.p P.c.length sv4.c, .slice pa (preA P.A i).length ca, .slice sv7.p P.b.length sv7.c] (fun w' hK _ ni => kK (spO n6 (.inr (ni.no rfl))) (kK (spO n9 (.inr (ni.no rfl))) (kK (spO hb_pa_R2 (.inr (ni.no rfl))) (kG o_R2_R11 (kP [.slice sv4.p P.c.length sv4.c, .slice pa (preA P.A i).length ca, .slice sv7.p P.b.length sv7.c] (kL o_R1_R2 kZ)))))) ?_
    refine txEnd (fun W15 hK => ?_)
    have k_R2 := (hK.get m4); have ⟨c_R2_0, c_R2_1, c_R2_2⟩ := k_R2.c3
    go_wp2
    exact bodyPost_ret (v := .agg #[.slice sv4.p P.c.length sv4.c, .slice pa (preA P.A i).length ca, .slice sv7.p P.b.length sv7.c]) (by simp [results, Tryz.results24, go_sem, c_R2_0, c_R2_1, c_R2_2]) rfl ((by obtain rfl := hQ0.out; exact ⟨_, rfl, (by have e : i = P.A.length := (by omega); subst e; have q := (hK.get m2); simp only [preA_all] at q ⊢; exact ⟨⟨sv4.p, 0, sv4.c⟩, ⟨pa, 0, ca⟩, ⟨sv7.p, 0, sv7.c⟩, rfl, (hK.get m0), q, (hK.get m1)⟩), hK.old⟩))
   · --
    have q_b1 : ((i : Int)) < ((P.A.length : Int)) := of_decide_eq_true hb1.out
    obtain ⟨ra, era⟩ : ∃ x, RowKit.Hid (P.A[i]? = some x) := ⟨_, hid (List.getElem?_eq_getElem (show i < P.A.length from (by omega)))⟩
    have i16 : i < P.A.length := by have q : i < P.A.length := (by omega); first | exact q | (simp at q; omega) | omega
    obtain ⟨g16, o16, q16, l16⟩ := (h0_2).ptr era.out
    subst q16
    obtain ⟨c16_0, hK⟩ := KS.atL hK (h0_2.below hK.old) era.out
    have hra := hid (row_len hok.out era.out); have hpl := hid (preA_len (l := P.A) (k := i) (by omega))
    go_upto_region 5 with (fail)
    have v_W14 := hK.old.size
    have b17 : ∀ g, ob sv4.p = some g → g < W14.heap.size := fun g e => ((hK.get m2).block e).2
    have b18 : ∀ g, ob sv7.p = some g → g < W14.heap.size := fun g e => ((hK.get m3).block e).2
    have b19 : ∀ g, ob pa = some g → g < W14.heap.size := fun g e => ((hK.get m4).block e).2
    have z_R11 : R11 < W14.heap.size := (hK.get m5).ltS
    have z_R2 : R2 < W14.heap.size := (hK.get m6).ltS
    have z_R1 : R1 < W14.heap.size := (hK.get m7).ltS
    have hK0 := hK.subl (sC (sC (sC (sC (sC (sC (sK (sK sZ))))))))
    replace hK0 := hK0.add (F := fun w1 => W14.heap.size ≤ w1.heap.size) (fun _ hb => hb.size)
    refine wp_region_floatB (w) (W14.heap.size) _ _ [0, 1, 0, 0, 0, 0, 1, 2, 3, 5, 0, 4] (by kernel_rfl) (by kernel_rfl) (by kernel_rfl) (by kernel_rfl) (fun _ h0 => h0.get m0) (KS.drew hK0) (KS.drew hK) ?_
    clear hK hK0
    refine lF ?_
    refine lR m5 ?_
    refine lF ?_
    refine lL m2 ?_
    iterate 2 (refine lF ?_)
    apply lxR0 (wants0 rfl); (· intro w' h0 hK; have c_CEL16_0 : w'.cell? ⟨g16, o16 + i, none⟩ = some (.slice c16_0.p ra.length c16_0.c) := (by have q := (hK.get m0).2 0 _ rfl; simpa using q); go_simp; (try go_bits); exact ⟨rfl, rfl⟩); simp only [Act.put, pA, pB, pC]
    apply lxE1 (α := Sl) (fun sv => .slice sv.p ra.length sv.c) (fun sv => [fun w1 => OwV ratK 55 w.heap.size w1 (.slice sv.p ra.length sv.c) ra, fun _ => ob sv.p ≠ some R11, fun _ => ob sv.p ≠ some R2, fun _ => ob sv.p ≠ some R1, fun _ => ∀ g, ob sv.p = some g → ob sv4.p ≠ some g, fun _ => ∀ g, ob sv.p = some g → ob sv7.p ≠ some g, fun _ => ∀ g, ob sv.p = some g → ob pa ≠ some g]) (wants0 rfl)
    · intro f1 l1 hl1 w' h0 hK; go_simp; (try go_bits); refine (numbers_any (.slice c16_0.p ra.length c16_0.c) ra w' (hK.get m1) (hB0.below hK.old) (by have := hra.out; omega) (hL.a _ (List.mem_of_getElem? era.out))).mono ?_; rintro e w5 ⟨y0, rfl, u0, hb⟩; obtain ⟨rfl, rfl⟩ := hl1.out; have u0_0 := u0; obtain ⟨p_u0, c_u0, rfl, n_u0⟩ := u0.sh; exact ⟨_, rfl, (⟨p_u0, 0, c_u0⟩ : Sl), rfl, hb, .cons (fun w2 h2 => (u0_0.mono hK.old.size).below h2) (.cons (fun _ _ => fun e => absurd (u0_0.block e).1 (Nat.not_le.2 ((hK.get m5)).ltS)) (.cons (fun _ _ => fun e => absurd (u0_0.block e).1 (Nat.not_le.2 ((hK.get m6)).ltS)) (.cons (fun _ _ => fun e => absurd (u0_0.block e).1 (Nat.not_le.2 ((hK.get m7)).ltS)) (.cons (fun _ _ => fun _ e e2 => absurd (u0_0.block e).1 (Nat.not_le.2 (((hK.get m2)).block e2).2)) (.cons (fun _ _ => fun _ e e2 => absurd (u0_0.block e).1 (Nat.not_le.2 (((hK.get m3)).block e2).2)) (.cons (fun _ _ => fun _ e e2 => absurd (u0_0.block e).1 (Nat.not_le.2 (((hK.get m4)).block e2).2)) (Lasts.nil _)))))))⟩
    intro sv20
    simp only [Act.put, pA, pB, pC, pD, pE]
    refine lA (.cells #[.slice sv20.p ra.length sv20.c] 46) (fun R27 => ?_)
    refine lxApp (K := rrK) (t := 46) (xs := preA P.A i) (ys := [ra]) (.tmp 20) (.tmp 27) (wants0 rfl) (by rfl) Tryz.underlying47 Tryz.underlying47 infoSQ rfl (by rfl) (by rfl) (by have := hpl.out; simp [maxLen]; omega) (by have := hpl.out; simp; omega) (fun r => [fun w1 => OwV ratK 55 w.heap.size w1 (.slice sv20.p ra.length sv20.c) ra, fun _ => ob sv20.p ≠ some R11, fun _ => ob sv20.p ≠ some R2, fun _ => ob sv20.p ≠ some R1, fun _ => ∀ g, ob sv20.p = some g → ob sv4.p ≠ some g, fun _ => ∀ g, ob sv20.p = some g → ob sv7.p ≠ some g, fun _ => ∀ g, ob sv20.p = some g → ob pa ≠ some g, fun w1 => OwV ratK 55 w.heap.size w1 (.slice sv4.p P.c.length sv4.c) P.c, fun w1 => OwV ratK 55 w.heap.size w1 (.slice sv7.p P.b.length sv7.c) P.b, Has W3.heap.size R11 (.cells #[.slice sv4.p P.c.length sv4.c, .slice pa (preA P.A i).length ca, .slice sv7.p P.b.length sv7.c] 49), Has w.heap.size R2 (.cells #[.slice none 0 0, .slice none 0 0, .slice none 0 0] 49), Has w.heap.size R1 (.cells #[.slice p_h0 P.c.length c_h0, .slice (some ⟨g16, o16, none⟩) P.A.length d_h0, .slice r_h0 P.b.length e_h0] 36), fun _ => ∀ g, ob r = some g → ob sv20.p ≠ some g, fun _ => ∀ g, ob r = some g → ob sv4.p ≠ some g, fun _ => ∀ g, ob r = some g → ob sv7.p ≠ some g, fun _ => ob r ≠ some R11, fun _ => ob r ≠ some R2, fun _ => ob r ≠ some R1]) b19 (fun w' h0 hK => ⟨(hK.get m12), (fun g e => .inr ((((hK.get m12).hd' hea.out slK_hd) g e).no rfl)), (SlV.one (hK.get m0) ((hK.get m1)).toR (Nat.le_refl 1) (by decide))⟩) (fun w' h0 hK => (al1 (gwL (h0.get m0)) (al1 (gwH (h0.get m1) hb_pa_R2) (al1 (gwH (h0.get m2) hb_pa_R1) aN)))) (fun w' r h0 hK hr => (al1 (gwO (hK.get m1) (fun g e1 e2 => ((hK.get m7)) g e2 e1) (fun g e => .inr ((((hK.get m12).hd' hea.out slK_hd) g e).no rfl))) (al1 (gwC (hK.get m2)) (al1 (gwC (hK.get m3)) (al1 (gwC (hK.get m4)) (al1 (gwC (hK.get m5)) (al1 (gwC (hK.get m6)) (al1 (gwC (hK.get m7)) (al1 (gwO (hK.get m10) hq_pa_0.out (fun g e => .inr ((((hK.get m12).hd' hea.out slK_hd) g e).no rfl))) (al1 (gwO (hK.get m11) hq_pa_1.out (fun g e => .inr ((((hK.get m12).hd' hea.out slK_hd) g e).no rfl))) (al1 (gwH (hK.get m13) hb_pa_R11) (al1 (gwH (hK.get m14) hb_pa_R2) (al1 (gwH (hK.get m15) hb_pa_R1) (al1 (gwC (apr hr (fun g e1 e2 => ((hK.get m7)) g e2 e1) (fun g e => (((hK.get m1)).block e).2))) (al1 (gwC (apr hr hq_pa_0.out (fun g e => (((hK.get m10)).block e).2))) (al1 (gwC (apr hr hq_pa_1.out (fun g e => (((hK.get m11)).block e).2))) (al1 (gwC (apb hr hb_pa_R11 ((hK.get m13)).ltS)) (al1 (gwC (apb hr hb_pa_R2 ((hK.get m14)).ltS)) (al1 (gwC (apb hr hb_pa_R1 ((hK.get m15)).ltS)) aN))))))))))))))))))) ?_
    intro sv28
    rw [(show preA P.A i ++ [ra] = preA P.A (i + 1) from preA_snoc era.out)]
    simp only [Act.put, pA, pB, pC]
    refine lF ?_
    refine lS m10 1 [.slice sv28.p (preA P.A (i + 1)).length sv28.c] (fun w' h0 hK k_R11 ni => kK (spB) (kL o_R2_R11 (kL o_R1_R11 kN))) (fun w' h0 hK k_R11 ni => kK (spO ((hK.get m16)) (.inr (ni.no rfl))) (kK (spO ((hK.get m2)) (.inr (ni.no rfl))) (kC (kC (kC (kC (kC (kC (kK (spO (OwV.apT (hK.get m8) k_R11 (by decide)) (.inr (ni.no rfl))) (kK (spO (OwV.apT (hK.get m9) k_R11 (by decide)) (.inr (ni.no rfl))) (kP [.slice sv4.p P.c.length sv4.c, .slice sv28.p (preA P.A (i + 1)).length sv28.c, .slice sv7.p P.b.length sv7.c] (kL o_R2_R11 (kL o_R1_R11 (kC (kC (kC (kC (kC (kC kZ))))))))))))))))))) ?_ (hR := fun _ k_R11 => Nat.le_trans v_W3 k_R11.1)
    refine lxEnd (fun W35 hK => ?_)
    have n21 := hK.get m2
    have n22 := hK.get m3
    have n23 := hK.get m4
    have n24 := hK.get m5
    have n25 := hK.get m6
    have n26 := hK.get m7
    have n29 := hK.get m13
    have n30 := hK.get m14
    have n31 := hK.get m15
    have n32 := hK.get m16
    have n33 := hK.get m17
    have n34 := hK.get m18
    (try go_wp2)
    go_roundw
    case rel => exact ⟨i + 1, sv28.p, sv28.c, (by first | rfl | go_num), (by omega), (hid (fun e => absurd (congrArg List.length e) (by rw [preA_len (by omega)]; simp))), n34, n33, n32, (hid n30), (hid n31), ⟨hK.old, (al1 (hK.all _ m8) (al1 (hK.all _ m9) (al1 (hK.all _ m0) (al1 (hK.all _ m10) (al1 (hK.all _ m11) (al1 (hK.all _ m12) aN))))))⟩⟩
    case measure => simp [intOf]; omega
structure LmS (R : LpRes) : Prop where
  x : LmL 50 R.x
  y : LmL 50 R.y
  r : LmL 50 R.r
  z : LmQ 50 R.z
  xl : R.x.length ≤ 100
  yl : R.y.length ≤ 100
  rl : R.r.length ≤ 100
set_option maxRecDepth 100000 in
theorem lresult_any (v0 : Value) (R : LpRes) (w : World) (h0 : RrV w v0 R) (hB0 : Bas w) (hR : LmS R) :
    Calls Tryz.prog 25 #[v0] w fun e w' => ∃ y0, e = .returned y0 ∧ LrV w' y0 R ∧ Below w.heap.size w w' := by
  have h0_0 := h0; obtain ⟨⟨p_h0, l_h0, c_h0⟩, ⟨q_h0, m_h0, d_h0⟩, ⟨r_h0, n_h0, e_h0⟩, s_h0, ⟨u_h0, i_h0, v_h0⟩, ⟨w_h0, j_h0, x_h0⟩, rfl, h0_1, h0_2, h0_3, h0_4⟩ := h0
  have hK := (KS.start w)
  refine Calls.hide (fun Q0 hQ0 => ?_)
  go_enter Tryz.func25, Tryz.ntmps25
  go_upto_region 0 with (fail)
  refine wp_region_tx w hK ?_
  clear hK
  refine tA (.cells #[.int .i64 R.k, .slice p_h0 R.x.length c_h0, .slice q_h0 R.y.length d_h0, .slice r_h0 R.r.length e_h0, .bool s_h0, .slice u_h0 i_h0 v_h0, .slice w_h0 j_h0 x_h0] 43) (fun R1 q_R1 => ?_)
  clear q_R1
  refine tA (.cells #[.int .i64 0, .slice none 0 0, .slice none 0 0, .slice none 0 0, .bool false, .slice none 0 0, .slice none 0 0] 57) (fun R2 q_R2 => ?_)
  have o_R1_R2 : R1 < R2 := q_R2 _ _ _ m0
  clear q_R2
  refine txEnd (fun W3 hK => ?_)
  go_upto_region 1 with (fail)
  have v_W3 := hK.old.size
  have z_R1 : R1 < W3.heap.size := (hK.get m1).ltS
  have z_R2 : R2 < W3.heap.size := (hK.get m0).ltS
  have hK0 := hK.subl (sC (sK sZ))
  replace hK0 := hK0.add (F := fun w1 => W3.heap.size ≤ w1.heap.size) (fun _ hb => hb.size)
  refine wp_region_floatB (w) (W3.heap.size) _ _ [0, 0, 0, 0, 2, 0, 0, 2, 0, 0, 2, 0, 0, 3, 2, 0, 2, 0, 4] (by kernel_rfl) (by kernel_rfl) (by kernel_rfl) (by kernel_rfl) (fun _ h0 => h0.get m0) (KS.drew hK0) (KS.drew hK) ?_
  clear hK hK0
  refine lF ?_
  refine lL m1 ?_
  refine lF ?_
  refine lL m1 ?_
  apply lxE1 (α := Sl) (fun sv => .slice sv.p R.x.length sv.c) (fun sv => [fun w1 => OwV ratK 55 w.heap.size w1 (.slice sv.p R.x.length sv.c) R.x, fun _ => ob sv.p ≠ some R1, fun _ => ob sv.p ≠ some R2]) (wants0 rfl)
  · intro f1 l1 hl1 w' h0 hK; go_simp; (try go_bits); refine (numbers_any (.slice p_h0 R.x.length c_h0) R.x w' (h0_1.below hK.old) (hB0.below hK.old) hR.xl hR.x).mono ?_; rintro e w5 ⟨y0, rfl, u0, hb⟩; obtain ⟨rfl, rfl⟩ := hl1.out; have u0_0 := u0; obtain ⟨p_u0, c_u0, rfl, n_u0⟩ := u0.sh; exact ⟨_, rfl, (⟨p_u0, 0, c_u0⟩ : Sl), rfl, hb, .cons (fun w2 h2 => (u0_0.mono hK.old.size).below h2) (.cons (fun _ _ => fun e => absurd (u0_0.block e).1 (Nat.not_le.2 ((hK.get m1)).ltS)) (.cons (fun _ _ => fun e => absurd (u0_0.block e).1 (Nat.not_le.2 ((hK.get m0)).ltS)) (Lasts.nil _)))⟩
  intro sv4
  simp only [Act.put, pA, pB, pC, pD, pE]
  refine lF ?_
  refine lL m1 ?_
  apply lxE1 (α := Sl) (fun sv => .slice sv.p R.y.length sv.c) (fun sv => [fun w1 => OwV ratK 55 w.heap.size w1 (.slice sv.p R.y.length sv.c) R.y, fun _ => ob sv.p ≠ some R1, fun _ => ob sv.p ≠ some R2, fun _ => ∀ g, ob sv.p = some g → ob sv4.p ≠ some g]) (wants0 rfl)
  · intro f1 l1 hl1 w' h0 hK; go_simp; (try go_bits); refine (numbers_any (.slice q_h0 R.y.length d_h0) R.y w' (h0_2.below hK.old) (hB0.below hK.old) hR.yl hR.y).mono ?_; rintro e w5 ⟨y0, rfl, u0, hb⟩; obtain ⟨rfl, rfl⟩ := hl1.out; have u0_0 := u0; obtain ⟨p_u0, c_u0, rfl, n_u0⟩ := u0.sh; exact ⟨_, rfl, (⟨p_u0, 0, c_u0⟩ : Sl), rfl, hb, .cons (fun w2 h2 => (u0_0.mono hK.old.size).below h2) (.cons (fun _ _ => fun e => absurd (u0_0.block e).1 (Nat.not_le.2 ((hK.get m4)).ltS)) (.cons (fun _ _ => fun e => absurd (u0_0.block e).1 (Nat.not_le.2 ((hK.get m3)).ltS)) (.cons (fun _ _ => fun _ e e2 => absurd (u0_0.block e).1 (Nat.not_le.2 (((hK.get m0)).block e2).2)) (Lasts.nil _))))⟩
  intro sv7
  simp only [Act.put, pA, pB, pC, pD, pE]
  refine lF ?_
  refine lL m1 ?_
  apply lxE1 (α := Sl) (fun sv => .slice sv.p R.r.length sv.c) (fun sv => [fun w1 => OwV ratK 55 w.heap.size w1 (.slice sv.p R.r.length sv.c) R.r, fun _ => ob sv.p ≠ some R1, fun _ => ob sv.p ≠ some R2, fun _ => ∀ g, ob sv.p = some g → ob sv7.p ≠ some g, fun _ => ∀ g, ob sv.p = some g → ob sv4.p ≠ some g]) (wants0 rfl)
  · intro f1 l1 hl1 w' h0 hK; go_simp; (try go_bits); refine (numbers_any (.slice r_h0 R.r.length e_h0) R.r w' (h0_3.below hK.old) (hB0.below hK.old) hR.rl hR.r).mono ?_; rintro e w5 ⟨y0, rfl, u0, hb⟩; obtain ⟨rfl, rfl⟩ := hl1.out; have u0_0 := u0; obtain ⟨p_u0, c_u0, rfl, n_u0⟩ := u0.sh; exact ⟨_, rfl, (⟨p_u0, 0, c_u0⟩ : Sl), rfl, hb, .cons (fun w2 h2 => (u0_0.mono hK.old.size).below h2) (.cons (fun _ _ => fun e => absurd (u0_0.block e).1 (Nat.not_le.2 ((hK.get m8)).ltS)) (.cons (fun _ _ => fun e => absurd (u0_0.block e).1 (Nat.not_le.2 ((hK.get m7)).ltS)) (.cons (fun _ _ => fun _ e e2 => absurd (u0_0.block e).1 (Nat.not_le.2 (((hK.get m0)).block e2).2)) (.cons (fun _ _ => fun _ e e2 => absurd (u0_0.block e).1 (Nat.not_le.2 (((hK.get m4)).block e2).2)) (Lasts.nil _)))))⟩
  intro sv11
  simp only [Act.put, pA, pB, pC, pD, pE]
  refine lF ?_
  refine lL m1 ?_
  refine lA (.cells #[.bool s_h0, .slice u_h0 i_h0 v_h0, .slice w_h0 j_h0 x_h0] 41) (fun R16 => ?_)
  apply lxE1 (α := Duo Nat Nat) (fun sv => .slice (some ⟨sv.a, 0, none⟩) ([R.z]).length sv.b) (fun sv => [fun w => SlV ratK w (.slice (some ⟨sv.a, 0, none⟩) ([R.z]).length sv.b) ([R.z])]) (wants0 rfl)
  · intro f1 l1 hl1 w' h0 hK; go_simp; (try go_bits); refine (num1_any (.slice (some ⟨R16, 0, none⟩) 1 1) R.z w' (SlV.one (K := refK) (hK.get m0) ⟨_, _, _, rfl, (h0_4.below hK.old)⟩ (Nat.le_refl 1) (by decide)) hR.z (hB0.below hK.old)).mono ?_; rintro e w5 ⟨y0, rfl, u0, hb⟩; obtain ⟨rfl, rfl⟩ := hl1.out; obtain ⟨g_u0, c_u0, rfl, u0_0⟩ := u0.shN (by simp); exact ⟨_, rfl, (⟨g_u0, c_u0⟩ : Duo Nat Nat), rfl, hb, .cons (fun w2 h2 => u0_0.below h2) (Lasts.nil _)⟩
  intro sv17
  simp only [Act.put, pA, pB, pC, pD, pE]
  refine lF ?_
  apply lxE1 (α := Duo Bool (Duo Sl Sl)) (fun sv => .agg #[.bool sv.a, .slice sv.b.a.p sv.b.a.l sv.b.a.c, .slice sv.b.b.p sv.b.b.l sv.b.b.c]) (fun sv => [fun w => RatV w (.agg #[.bool sv.a, .slice sv.b.a.p sv.b.a.l sv.b.a.c, .slice sv.b.b.p sv.b.b.l sv.b.b.c]) R.z]) (wants0 rfl)
  · intro f1 l1 hl1 w' h0 hK; obtain ⟨ls, ly, lz, lc0, lc1, lc2, lr⟩ := ratK_load (hK.get m0) rfl; go_simp; (try go_bits); obtain ⟨rfl, rfl⟩ := hl1.out; exact ⟨⟨ls, ⟨ly, lz⟩⟩, rfl, Below.refl _ _, .cons (fun w2 h2 => lr.below h2) (Lasts.nil _)⟩
  intro sv18
  simp only [Act.put, pA, pB, pC, pD, pE]
  refine lF ?_
  refine lS m15 0 [.int .i64 R.k, .slice sv4.p R.x.length sv4.c, .slice sv7.p R.y.length sv7.c, .slice sv11.p R.r.length sv11.c, .bool sv18.a, .slice sv18.b.a.p sv18.b.a.l sv18.b.a.c, .slice sv18.b.b.p sv18.b.b.l sv18.b.b.c] (fun w' h0 hK _ ni => kK (spB) (kL o_R1_R2 kN)) (fun w' h0 hK _ ni => kQ ni (kX (kG (Nat.lt_of_lt_of_le z_R2 (hK.get m2).1) (kK (spO ((hK.get m5)) (.inr (ni.no rfl))) (kC (kC (kC (kC (kK (spO ((hK.get m10)) (.inr (ni.no rfl))) (kC (kC (kC (kK (spO ((hK.get m14)) (.inr (ni.no rfl))) (kC (kC (kP [.int .i64 R.k, .slice sv4.p R.x.length sv4.c, .slice sv7.p R.y.length sv7.c, .slice sv11.p R.r.length sv11.c, .bool sv18.a, .slice sv18.b.a.p sv18.b.a.l sv18.b.a.c, .slice sv18.b.b.p sv18.b.b.l sv18.b.b.c] (kL o_R1_R2 kZ))))))))))))))))) ?_
  refine lxEnd (fun W19 hK => ?_)
  have n5 := hK.get m12
  have n6 := hK.get m13
  have n8 := hK.get m8
  have n9 := hK.get m9
  have n10 := hK.get m10
  have n12 := hK.get m3
  have n13 := hK.get m4
  have n14 := hK.get m5
  have n15 := hK.get m6
  have k_R2 := (hK.get m14); have ⟨c_R2_0, c_R2_1, c_R2_2, c_R2_3, c_R2_4, c_R2_5, c_R2_6⟩ := k_R2.c7
  go_wp2
  exact bodyPost_ret (v := .agg #[.int .i64 R.k, .slice sv4.p R.x.length sv4.c, .slice sv7.p R.y.length sv7.c, .slice sv11.p R.r.length sv11.c, .bool sv18.a, .slice sv18.b.a.p sv18.b.a.l sv18.b.a.c, .slice sv18.b.b.p sv18.b.b.l sv18.b.b.c]) (by simp [results, Tryz.results25, go_sem, c_R2_0, c_R2_1, c_R2_2, c_R2_3, c_R2_4, c_R2_5, c_R2_6]) rfl ((by obtain rfl := hQ0.out; exact ⟨_, rfl, (LrV.mk ((hK.get m11).slv) ((hK.get m7).slv) ((hK.get m2).slv) ((hK.get m0))), hK.old⟩))
end Go.Proofs.YtcdbgincfdejkaaGreatDoor
