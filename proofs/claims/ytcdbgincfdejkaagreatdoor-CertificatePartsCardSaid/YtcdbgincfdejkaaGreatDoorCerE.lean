/- What the laws of certificates make of what they take in, walked: numbers, small programs, fractions. -/
import Derived.Test.YtcdbgincfdejkaaGreatDoorTz
import Derived.Test.YtcdbgincfdejkaaGreatDoorCerP
namespace Go.Proofs.YtcdbgincfdejkaaGreatDoor
open Go.RowKit
open Go.Lib (decDigits)
set_option maxRecDepth 100000 in
theorem rat_any (v0 : Value) (l : List Int) (i : Nat) (w : World) (h0 : SlV i8K w v0 l) (hr : ∀ z ∈ l, Rng8 z) :
    Calls Tryz.prog 67 #[v0, .int .i64 (i : Int)] w fun e w' => ∃ y0, e = .returned y0 ∧ RefR w' y0 (atI l i) ∧ Below w.heap.size w w' := by
  have h0_0 := h0; obtain ⟨p_h0, c_h0, rfl, n_h0⟩ := h0.sh
  have hK := (KS.start w)
  refine Calls.hide (fun Q0 hQ0 => ?_)
  go_enter Tryz.func67, Tryz.ntmps67
  go_upto_region 0 with (fail)
  refine wp_region_tx w hK ?_
  clear hK
  refine tA (.cells #[.bool false, .slice none 0 0, .slice none 0 0] 41) (fun R1 q_R1 => ?_)
  clear q_R1
  refine txEnd (fun W2 hK => ?_)
  go_upto_region 1 with (fail)
  refine wp_region_tx w hK ?_
  clear hK
  iterate 3 (refine tF ?_)
  refine tB (decide (((i : Int)) < ((l.length : Int)))) (fun b1 hb1 => ?_)
  refine txEnd (fun W3 hK => ?_)
  cases b1
  · --
   have q_b1 : ((l.length : Int)) ≤ ((i : Int)) := Int.not_lt.1 (of_decide_eq_false hb1.out)
   go_upto_region 3 with (fail)
   refine wp_region_tx w hK ?_
   clear hK
   refine tF ?_
   refine tS m0 0 [.bool false, .slice none 0 0, .slice none 0 0] (fun w' hK _ ni => kP [.bool false, .slice none 0 0, .slice none 0 0] kZ) ?_
   refine txEnd (fun W4 hK => ?_)
   have k_R1 := (hK.get m0); have ⟨c_R1_0, c_R1_1, c_R1_2⟩ := k_R1.c3
   go_wp2
   exact bodyPost_ret (v := .agg #[.bool false, .slice none 0 0, .slice none 0 0]) (by simp [results, Tryz.results67, go_sem, c_R1_0, c_R1_1, c_R1_2]) rfl ((by obtain rfl := hQ0.out; exact ⟨_, rfl, (by rw [show atI l i = 0 from by unfold atI; rw [List.getD, List.getElem?_eq_none (by omega)]; rfl]; exact RefR.zero _), hK.old⟩))
  · --
   have q_b1 : ((i : Int)) < ((l.length : Int)) := of_decide_eq_true hb1.out
   obtain ⟨xk, exk⟩ : ∃ x, RowKit.Hid (l[i]? = some x) := ⟨_, hid (List.getElem?_eq_getElem (show i < l.length from (by omega)))⟩
   have i5 : i < l.length := by have q : i < l.length := (by omega); first | exact q | (simp at q; omega) | omega
   obtain ⟨g5, o5, q5, l5⟩ := (h0_0).ptr exk.out
   subst q5
   replace hK := KS.at8 hK (h0_0.below hK.old) exk.out
   have qxk := hr _ (List.mem_of_getElem? exk.out); unfold Rng8 at qxk
   go_upto_region 2 with (fail)
   refine wp_region_tx w hK ?_
   clear hK
   iterate 3 (refine tF ?_)
   apply txF (wants0 rfl); (· intro w' hK; have c_CEL5_0 : w'.cell? ⟨g5, o5 + i, none⟩ = some (.int .i8 xk) := (by have q := (hK.get m0).2 0 _ rfl; simpa using q); go_simp; (try go_bits); exact ⟨rfl, rfl⟩); simp only [Act.put, pA, pB, pC]
   apply txF (v := .int .i64 xk) (wants0 rfl); (· intro w' hK; go_simp; (try go_bits); exact ⟨congrArg _ (by omega), rfl⟩); simp only [Act.put, pA, pB, pC]
   refine tER (fun w' hK => rint_q  xk w'  (by omega) (by omega)) (fun sv6 => ?_)
   refine tS m4 0 [.bool (isN (((xk : Int) : Rat))), .slice sv6.a.p (digs B6 (numQ (((xk : Int) : Rat)))).length sv6.a.c, .slice sv6.b.p (digs B6 (den0 (((xk : Int) : Rat)))).length sv6.b.c] (fun w' hK k_R1 ni => kS ni (kR ni (kR ni (kK (spC (Nat.ne_of_lt (Nat.lt_of_lt_of_le l5 k_R1.1))) (kP [.bool (isN (((xk : Int) : Rat))), .slice sv6.a.p (digs B6 (numQ (((xk : Int) : Rat)))).length sv6.a.c, .slice sv6.b.p (digs B6 (den0 (((xk : Int) : Rat)))).length sv6.b.c] kZ))))) ?_
   refine txEnd (fun W7 hK => ?_)
   have k_R1 := (hK.get m4); have ⟨c_R1_0, c_R1_1, c_R1_2⟩ := k_R1.c3
   go_wp2
   exact bodyPost_ret (v := .agg #[.bool (isN (((xk : Int) : Rat))), .slice sv6.a.p (digs B6 (numQ (((xk : Int) : Rat)))).length sv6.a.c, .slice sv6.b.p (digs B6 (den0 (((xk : Int) : Rat)))).length sv6.b.c]) (by simp [results, Tryz.results67, go_sem, c_R1_0, c_R1_1, c_R1_2]) rfl ((by obtain rfl := hQ0.out; exact ⟨_, rfl, (Eq.mp (congrArg (RefR _ _) (show ((xk : Int) : Rat) = atI l i from (by unfold atI; rw [getD_of exk.out]))) (hK.get m0)), hK.old⟩))
set_option maxRecDepth 100000 in
theorem fof_any (v0 : Value) (l : List Frc) (w : World) (h0 : SlV frK w v0 l) (hl : l.length ≤ 100000) (hr : ∀ x ∈ l, x.Ok) :
    Calls Tryz.prog 28 #[v0] w fun e w' => ∃ y0, e = .returned y0 ∧ OwV refK 41 w.heap.size w' y0 (frL l) ∧ Below w.heap.size w w' := by
  have h0_0 := h0; obtain ⟨p_h0, c_h0, rfl, n_h0⟩ := h0.sh
  have hK := (KS.start w)
  refine Calls.hide (fun Q0 hQ0 => ?_)
  go_enter Tryz.func28, Tryz.ntmps28
  go_wp2_with fail
  go_loopw [3, 4] (fun s3 s4 wl => ∃ (k : Nat) (p : Option Addr) (c : Nat), s3 = .slice p (frT l k).length c ∧ s4 = .int .i64 (k : Int) ∧ (k ≤ l.length) ∧ RowKit.Hid (frT l k = [] → p = none) ∧ KS w [fun w1 => OwV refK 41 w.heap.size w1 (.slice p (frT l k).length c) (frT l k)] wl) (fun s3 s4 _ => l.length - (intOf s4).toNat)
  case atStart => exact ⟨0, none, 0, rfl, rfl, (by omega), (hid (fun _ => rfl)), ⟨hK.old, (al1 (fun w' _ => OwV.nil) aN)⟩⟩
  case round =>
   clear hK
   obtain ⟨k, p, c, rfl, rfl, hk, he, hK⟩ := hrel
   generalize wr = W1 at hK ⊢
   go_upto_region 3 with (fail)
   refine wp_region_tx w hK ?_
   clear hK
   iterate 3 (refine tF ?_)
   refine tB (decide (((k : Int)) < ((l.length : Int)))) (fun b1 hb1 => ?_)
   refine txEnd (fun W2 hK => ?_)
   cases b1
   · --
    have q_b1 : ((l.length : Int)) ≤ ((k : Int)) := Int.not_lt.1 (of_decide_eq_false hb1.out)
    go_wp2
    try go_ret
    show Q0 (.returned (.slice p (frT l k).length c)) _
    exact (by obtain rfl := hQ0.out; exact ⟨_, rfl, (by have q := hK.get m0; rw [show k = l.length from by omega, frT_all] at q ⊢; exact q), hK.old⟩)
   · --
    have q_b1 : ((k : Int)) < ((l.length : Int)) := of_decide_eq_true hb1.out
    obtain ⟨xk, exk⟩ : ∃ x, RowKit.Hid (l[k]? = some x) := ⟨_, hid (List.getElem?_eq_getElem (show k < l.length from (by omega)))⟩
    have i3 : k < l.length := by have q : k < l.length := (by omega); first | exact q | (simp at q; omega) | omega
    obtain ⟨g3, o3, q3, l3⟩ := (h0_0).ptr exk.out
    subst q3
    replace hK := KS.atF hK (h0_0.below hK.old) exk.out
    have qn := (hr _ (List.mem_of_getElem? exk.out)).n; have qd := (hr _ (List.mem_of_getElem? exk.out)).d; unfold Rng8 at qn qd
    go_upto_region 5 with (fail)
    refine wp_region_tx w hK ?_
    clear hK
    iterate 4 (refine tF ?_)
    apply txF (wants0 rfl); (· intro w' hK; have c_CEL3_1 : w'.cell? ⟨g3, o3 + k * 2 + 1, none⟩ = some (.int .i8 xk.d) := (by have q := (hK.get m0).2 1 _ rfl; simpa using q); go_simp; (try go_bits); exact ⟨rfl, rfl⟩); simp only [Act.put, pA, pB, pC]
    apply txF (v := .int .i64 xk.d) (wants0 rfl); (· intro w' hK; go_simp; (try go_bits); exact ⟨congrArg _ (by omega), rfl⟩); simp only [Act.put, pA, pB, pC]
    refine tF ?_
    refine txEnd (fun W4 hK => ?_)
    go_upto_region 6 with (fail)
    refine wp_region_tx w hK ?_
    clear hK
    refine tF ?_
    refine tB (xk.d == 0) (fun b2 hb2 => ?_)
    refine txEnd (fun W5 hK => ?_)
    cases b2
    · --
     have hlk := hid (frT_len (l := l) (k := k) (by omega))
     go_upto_region 8 with (fail)
     refine wp_region_tx w hK ?_
     clear hK
     iterate 5 (refine tF ?_)
     apply txF (wants0 rfl); (· intro w' hK; have c_CEL3_0 : w'.cell? ⟨g3, o3 + k * 2, none⟩ = some (.int .i8 xk.n) := (by have q := (hK.get m0).2 0 _ rfl; simpa using q); go_simp; (try go_bits); exact ⟨rfl, rfl⟩); simp only [Act.put, pA, pB, pC]
     apply txF (v := .int .i64 xk.n) (wants0 rfl); (· intro w' hK; go_simp; (try go_bits); exact ⟨congrArg _ (by omega), rfl⟩); simp only [Act.put, pA, pB, pC]
     refine tF ?_
     refine tER (fun w' hK => rof_q  xk.n xk.d w'  (by omega) (by omega) (by omega) (by omega)) (fun sv6 => ?_)
     apply txA2 (.cells #[.bool (isN (((xk.n : Int) : Rat) / ((xk.d : Int) : Rat))), .slice sv6.a.p (digs B6 (numQ (((xk.n : Int) : Rat) / ((xk.d : Int) : Rat)))).length sv6.a.c, .slice sv6.b.p (digs B6 (den0 (((xk.n : Int) : Rat) / ((xk.d : Int) : Rat)))).length sv6.b.c] 41) (wants0 rfl)
     · intro w' hK; go_simp; rfl
     intro R7 q_R7
     have n8 : ob p ≠ some R7 := q_R7.row m4
     clear q_R7
     simp only [mkOf, Act.put, pA, pB, pC]
     refine txApp (K := refK) (t := 41) (xs := frT l k) (ys := [((xk.n : Int) : Rat) / ((xk.d : Int) : Rat)]) (.tmp 20) (.tmp 29) (wants0 rfl) (by rfl) Tryz.underlying33 Tryz.underlying33 infoR rfl (by rfl) (by rfl) (by have := hlk.out; simp [maxLen]; omega) (by have := hlk.out; simp; omega) (fun r => [Has w.heap.size R7 (.cells #[.bool (isN (((xk.n : Int) : Rat) / ((xk.d : Int) : Rat))), .slice sv6.a.p (digs B6 (numQ (((xk.n : Int) : Rat) / ((xk.d : Int) : Rat)))).length sv6.a.c, .slice sv6.b.p (digs B6 (den0 (((xk.n : Int) : Rat) / ((xk.d : Int) : Rat)))).length sv6.b.c] 41), fun w => RefR w (.agg #[.bool (isN (((xk.n : Int) : Rat) / ((xk.d : Int) : Rat))), .slice sv6.a.p (digs B6 (numQ (((xk.n : Int) : Rat) / ((xk.d : Int) : Rat)))).length sv6.a.c, .slice sv6.b.p (digs B6 (den0 (((xk.n : Int) : Rat) / ((xk.d : Int) : Rat)))).length sv6.b.c]) (((xk.n : Int) : Rat) / ((xk.d : Int) : Rat)), fun w => RefV w (.slice sv6.a.p (digs B6 (numQ (((xk.n : Int) : Rat) / ((xk.d : Int) : Rat)))).length sv6.a.c) (numQ (((xk.n : Int) : Rat) / ((xk.d : Int) : Rat))), fun w => RefV w (.slice sv6.b.p (digs B6 (den0 (((xk.n : Int) : Rat) / ((xk.d : Int) : Rat)))).length sv6.b.c) (den0 (((xk.n : Int) : Rat) / ((xk.d : Int) : Rat))), fun _ => ob r ≠ some R7]) (fun w' hK => ⟨(hK.get m5), (fun g e => .inr ((((hK.get m5).hd' he.out refK_hd) g e).no rfl)), (SlV.one (hK.get m0) ⟨_, _, _, rfl, (hK.get m1)⟩ (Nat.le_refl 1) (by decide))⟩) (fun w' r hK hr => (al1 (gwH (hK.get m0) n8) (al1 (gwP (S := [1]) (fun w2 h2 => ((hK.get m1)).below h2) (fun _ h => refr_spare (hK.get m1) h) (fun g e => (((hK.get m5).hd' he.out refK_hd) g e).no rfl)) (al1 (gwP (S := [1]) (fun w2 h2 => ((hK.get m2)).below h2) (fun _ h => ref_spare (hK.get m2) h) (fun g e => (((hK.get m5).hd' he.out refK_hd) g e).no rfl)) (al1 (gwP (S := [1]) (fun w2 h2 => ((hK.get m3)).below h2) (fun _ h => ref_spare (hK.get m3) h) (fun g e => (((hK.get m5).hd' he.out refK_hd) g e).no rfl)) (al1 (gwC (apb hr n8 ((hK.get m0)).ltS)) aN)))))) ?_
     intro sv9
     rw [(show frT l k ++ [_] = frT l (k + 1) from by rw [← frT_snoc exk.out]; unfold frX; rw [if_neg (by have q := hb2.out; simpa using q)])]
     simp only [Act.put, pA, pB, pC]
     refine Tx.know (Pr := ob sv9.p ≠ some R7) (fun w' hK => hK.get m5) (fun n10 => ?_)
     refine tF ?_
     refine txEnd (fun W11 hK => ?_)
     (try go_wp2)
     go_roundw
     case rel => exact ⟨k + 1, sv9.p, sv9.c, (by first | rfl | go_num), (by first | rfl | go_num), (by omega), (hid (fun e => absurd (congrArg List.length e) (by rw [frT_len (by omega)]; simp))), ⟨hK.old, (al1 (hK.all _ m0) aN)⟩⟩
     case measure => simp [intOf]; omega
    · --
     have hlk := hid (frT_len (l := l) (k := k) (by omega))
     go_upto_region 8 with (fail)
     refine wp_region_tx w hK ?_
     clear hK
     iterate 5 (refine tF ?_)
     apply txF (wants0 rfl); (· intro w' hK; have c_CEL3_0 : w'.cell? ⟨g3, o3 + k * 2, none⟩ = some (.int .i8 xk.n) := (by have q := (hK.get m0).2 0 _ rfl; simpa using q); go_simp; (try go_bits); exact ⟨rfl, rfl⟩); simp only [Act.put, pA, pB, pC]
     apply txF (v := .int .i64 xk.n) (wants0 rfl); (· intro w' hK; go_simp; (try go_bits); exact ⟨congrArg _ (by omega), rfl⟩); simp only [Act.put, pA, pB, pC]
     refine tF ?_
     refine tER (fun w' hK => rof_q  xk.n 1 w'  (by omega) (by omega) (by omega) (by omega)) (fun sv12 => ?_)
     apply txA2 (.cells #[.bool (isN (((xk.n : Int) : Rat) / ((1 : Int) : Rat))), .slice sv12.a.p (digs B6 (numQ (((xk.n : Int) : Rat) / ((1 : Int) : Rat)))).length sv12.a.c, .slice sv12.b.p (digs B6 (den0 (((xk.n : Int) : Rat) / ((1 : Int) : Rat)))).length sv12.b.c] 41) (wants0 rfl)
     · intro w' hK; go_simp; rfl
     intro R13 q_R13
     have n14 : ob p ≠ some R13 := q_R13.row m4
     clear q_R13
     simp only [mkOf, Act.put, pA, pB, pC]
     refine txApp (K := refK) (t := 41) (xs := frT l k) (ys := [((xk.n : Int) : Rat) / ((1 : Int) : Rat)]) (.tmp 20) (.tmp 29) (wants0 rfl) (by rfl) Tryz.underlying33 Tryz.underlying33 infoR rfl (by rfl) (by rfl) (by have := hlk.out; simp [maxLen]; omega) (by have := hlk.out; simp; omega) (fun r => [Has w.heap.size R13 (.cells #[.bool (isN (((xk.n : Int) : Rat) / ((1 : Int) : Rat))), .slice sv12.a.p (digs B6 (numQ (((xk.n : Int) : Rat) / ((1 : Int) : Rat)))).length sv12.a.c, .slice sv12.b.p (digs B6 (den0 (((xk.n : Int) : Rat) / ((1 : Int) : Rat)))).length sv12.b.c] 41), fun w => RefR w (.agg #[.bool (isN (((xk.n : Int) : Rat) / ((1 : Int) : Rat))), .slice sv12.a.p (digs B6 (numQ (((xk.n : Int) : Rat) / ((1 : Int) : Rat)))).length sv12.a.c, .slice sv12.b.p (digs B6 (den0 (((xk.n : Int) : Rat) / ((1 : Int) : Rat)))).length sv12.b.c]) (((xk.n : Int) : Rat) / ((1 : Int) : Rat)), fun w => RefV w (.slice sv12.a.p (digs B6 (numQ (((xk.n : Int) : Rat) / ((1 : Int) : Rat)))).length sv12.a.c) (numQ (((xk.n : Int) : Rat) / ((1 : Int) : Rat))), fun w => RefV w (.slice sv12.b.p (digs B6 (den0 (((xk.n : Int) : Rat) / ((1 : Int) : Rat)))).length sv12.b.c) (den0 (((xk.n : Int) : Rat) / ((1 : Int) : Rat))), fun _ => ob r ≠ some R13]) (fun w' hK => ⟨(hK.get m5), (fun g e => .inr ((((hK.get m5).hd' he.out refK_hd) g e).no rfl)), (SlV.one (hK.get m0) ⟨_, _, _, rfl, (hK.get m1)⟩ (Nat.le_refl 1) (by decide))⟩) (fun w' r hK hr => (al1 (gwH (hK.get m0) n14) (al1 (gwP (S := [1]) (fun w2 h2 => ((hK.get m1)).below h2) (fun _ h => refr_spare (hK.get m1) h) (fun g e => (((hK.get m5).hd' he.out refK_hd) g e).no rfl)) (al1 (gwP (S := [1]) (fun w2 h2 => ((hK.get m2)).below h2) (fun _ h => ref_spare (hK.get m2) h) (fun g e => (((hK.get m5).hd' he.out refK_hd) g e).no rfl)) (al1 (gwP (S := [1]) (fun w2 h2 => ((hK.get m3)).below h2) (fun _ h => ref_spare (hK.get m3) h) (fun g e => (((hK.get m5).hd' he.out refK_hd) g e).no rfl)) (al1 (gwC (apb hr n14 ((hK.get m0)).ltS)) aN)))))) ?_
     intro sv15
     rw [(show frT l k ++ [_] = frT l (k + 1) from by rw [← frT_snoc exk.out]; unfold frX; rw [if_pos (by have q := hb2.out; simpa using q)])]
     simp only [Act.put, pA, pB, pC]
     refine Tx.know (Pr := ob sv15.p ≠ some R13) (fun w' hK => hK.get m5) (fun n16 => ?_)
     refine tF ?_
     refine txEnd (fun W17 hK => ?_)
     (try go_wp2)
     go_roundw
     case rel => exact ⟨k + 1, sv15.p, sv15.c, (by first | rfl | go_num), (by first | rfl | go_num), (by omega), (hid (fun e => absurd (congrArg List.length e) (by rw [frT_len (by omega)]; simp))), ⟨hK.old, (al1 (hK.all _ m0) aN)⟩⟩
     case measure => simp [intOf]; omega
set_option maxRecDepth 100000 in
theorem numbers_any (v0 : Value) (xs : List Rat) (w : World) (h0 : SlV refK w v0 xs) (hB0 : Bas w) (hl : xs.length ≤ 100) (hx : LmL 50 xs) :
    Calls Tryz.prog 27 #[v0] w fun e w' => ∃ y0, e = .returned y0 ∧ OwV ratK 55 w.heap.size w' y0 xs ∧ Below w.heap.size w w' := by
  have h0_0 := h0; obtain ⟨p_h0, c_h0, rfl, n_h0⟩ := h0.sh
  have hK := (KS.start w)
  refine Calls.hide (fun Q0 hQ0 => ?_)
  go_enter Tryz.func27, Tryz.ntmps27
  go_wp2_with fail
  go_loopw [3, 4] (fun s3 s4 wl => ∃ (k : Nat) (p : Option Addr) (c : Nat), s3 = .slice p (preL xs k).length c ∧ s4 = .int .i64 (k : Int) ∧ (k ≤ xs.length) ∧ RowKit.Hid (preL xs k = [] → p = none) ∧ KS w [fun w1 => OwV ratK 55 w.heap.size w1 (.slice p (preL xs k).length c) (preL xs k)] wl) (fun s3 s4 _ => xs.length - (intOf s4).toNat)
  case atStart => exact ⟨0, none, 0, rfl, rfl, (by omega), (hid (fun _ => rfl)), ⟨hK.old, (al1 (fun w' _ => OwV.nil) aN)⟩⟩
  case round =>
   clear hK
   obtain ⟨k, p, c, rfl, rfl, hk, he, hK⟩ := hrel
   generalize wr = W1 at hK ⊢
   go_upto_region 3 with (fail)
   refine wp_region_tx w hK ?_
   clear hK
   iterate 3 (refine tF ?_)
   refine tB (decide (((k : Int)) < ((xs.length : Int)))) (fun b1 hb1 => ?_)
   refine txEnd (fun W2 hK => ?_)
   cases b1
   · --
    have q_b1 : ((xs.length : Int)) ≤ ((k : Int)) := Int.not_lt.1 (of_decide_eq_false hb1.out)
    go_wp2
    try go_ret
    show Q0 (.returned (.slice p (preL xs k).length c)) _
    exact (by obtain rfl := hQ0.out; exact ⟨_, rfl, (by have q := hK.get m0; rw [show k = xs.length from by omega, preL_all] at q ⊢; exact q), hK.old⟩)
   · --
    have q_b1 : ((k : Int)) < ((xs.length : Int)) := of_decide_eq_true hb1.out
    obtain ⟨xk, exk⟩ : ∃ x, RowKit.Hid (xs[k]? = some x) := ⟨_, hid (List.getElem?_eq_getElem (show k < xs.length from (by omega)))⟩
    have i3 : k < xs.length := by have q : k < xs.length := (by omega); first | exact q | (simp at q; omega) | omega
    obtain ⟨g3, o3, q3, l3⟩ := (h0_0).ptr exk.out
    subst q3
    obtain ⟨c3_0, c3_1, c3_2, hK⟩ := KS.atR hK (h0_0.below hK.old) exk.out
    go_upto_region 5 with (fail)
    refine wp_region_tx w hK ?_
    clear hK
    iterate 3 (refine tF ?_)
    apply txF (wants0 rfl); (· intro w' hK; have c_CEL3_0 : w'.cell? ⟨g3, o3 + k * 3, none⟩ = some (.bool c3_0) := (by have q := (hK.get m0).2 0 _ rfl; simpa using q); have c_CEL3_1 : w'.cell? ⟨g3, o3 + k * 3 + 1, none⟩ = some (.slice c3_1.p c3_1.l c3_1.c) := (by have q := (hK.get m0).2 1 _ rfl; simpa using q); have c_CEL3_2 : w'.cell? ⟨g3, o3 + k * 3 + 2, none⟩ = some (.slice c3_2.p c3_2.l c3_2.c) := (by have q := (hK.get m0).2 2 _ rfl; simpa using q); go_simp; (try go_bits); exact ⟨rfl, rfl⟩); simp only [Act.put, pA, pB, pC]
    refine tH (fun w' hK => rtext_q (.agg #[.bool c3_0, .slice c3_1.p c3_1.l c3_1.c, .slice c3_2.p c3_2.l c3_2.c]) xk w' (hK.get m1) (LmQ.up (b := 1000) (hx _ (List.mem_of_getElem? exk.out)) (by decide)) (by decide)) ?_
    refine tEQ (fun w' hK => qparse_back  xk w' (hB0.below hK.old) (LmQ.up (b := 50) (hx _ (List.mem_of_getElem? exk.out)) (by decide))) (fun sv4 => ?_)
    iterate 3 (refine tF ?_)
    apply txA2 (.cells #[.bool false, .slice none 0 0, .slice none 0 0] 55) (wants0 rfl)
    · intro w' hK; go_simp; rfl
    intro R5 q_R5
    have n6 : ob p ≠ some R5 := q_R5.row m5
    clear q_R5
    simp only [mkOf, Act.put, pA, pB, pC]
    refine tS m0 0 [.bool (isN xk), .slice sv4.a.p sv4.a.l sv4.a.c, .slice sv4.b.p sv4.b.l sv4.b.c] (fun w' hK k_R5 ni => kP [.bool (isN xk), .slice sv4.a.p sv4.a.l sv4.a.c, .slice sv4.b.p sv4.b.l sv4.b.c] (kQ ni (kM ni (kM ni (kK (spC (Nat.ne_of_lt (Nat.lt_of_lt_of_le l3 k_R5.1))) (kS ni (kK (spO n6 (.inr (ni.no rfl))) kZ))))))) ?_
    refine tF ?_
    refine txEnd (fun W7 hK => ?_)
    have hlk := hid (preL_len (l := xs) (k := k) (by omega))
    go_upto_region 6 with (fail)
    refine wp_region_tx w hK ?_
    clear hK
    refine tF ?_
    refine tL m0 ?_
    apply txA2 (.cells #[.bool (isN xk), .slice sv4.a.p sv4.a.l sv4.a.c, .slice sv4.b.p sv4.b.l sv4.b.c] 55) (wants0 rfl)
    · intro w' hK; go_simp; rfl
    intro R8 q_R8
    have o_R5_R8 : R5 < R8 := q_R8.box m0
    have n9 : ob p ≠ some R8 := q_R8.row m6
    clear q_R8
    simp only [mkOf, Act.put, pA, pB, pC]
    refine txApp (K := ratK) (t := 55) (xs := preL xs k) (ys := [xk]) (.tmp 22) (.tmp 24) (wants0 rfl) (by rfl) Tryz.underlying46 Tryz.underlying46 infoQ rfl (by rfl) (by rfl) (by have := hlk.out; simp [maxLen]; omega) (by have := hlk.out; simp; omega) (fun r => [Has w.heap.size R8 (.cells #[.bool (isN xk), .slice sv4.a.p sv4.a.l sv4.a.c, .slice sv4.b.p sv4.b.l sv4.b.c] 55), Has w.heap.size R5 (.cells #[.bool (isN xk), .slice sv4.a.p sv4.a.l sv4.a.c, .slice sv4.b.p sv4.b.l sv4.b.c] 55), fun w => RatV w (.agg #[.bool (isN xk), .slice sv4.a.p sv4.a.l sv4.a.c, .slice sv4.b.p sv4.b.l sv4.b.c]) xk, fun w => NatV w (.agg #[.slice sv4.a.p sv4.a.l sv4.a.c]) xk.num.natAbs, fun w => NatV w (.agg #[.slice sv4.b.p sv4.b.l sv4.b.c]) (den0 xk), fun w => RefR w (.agg #[.bool c3_0, .slice c3_1.p c3_1.l c3_1.c, .slice c3_2.p c3_2.l c3_2.c]) xk, fun _ => ob r ≠ some R8, fun _ => ob r ≠ some R5]) (fun w' hK => ⟨(hK.get m7), (fun g e => .inr ((((hK.get m7).hd' he.out ratK_hd) g e).no rfl)), (SlV.one (hK.get m0) ⟨_, _, _, rfl, (hK.get m2)⟩ (Nat.le_refl 1) (by decide))⟩) (fun w' r hK hr => (al1 (gwH (hK.get m0) n9) (al1 (gwH (hK.get m1) n6) (al1 (gwP (S := [0]) (fun w2 h2 => ((hK.get m2)).below h2) (fun _ h => rat_spare (hK.get m2) h) (fun g e => (((hK.get m7).hd' he.out ratK_hd) g e).no rfl)) (al1 (gwP (S := [0]) (fun w2 h2 => ((hK.get m3)).below h2) (fun _ h => nat_spare (hK.get m3) h) (fun g e => (((hK.get m7).hd' he.out ratK_hd) g e).no rfl)) (al1 (gwP (S := [0]) (fun w2 h2 => ((hK.get m4)).below h2) (fun _ h => nat_spare (hK.get m4) h) (fun g e => (((hK.get m7).hd' he.out ratK_hd) g e).no rfl)) (al1 (gwP (S := [1]) (fun w2 h2 => ((hK.get m6)).below h2) (fun _ h => refr_spare (hK.get m6) h) (fun g e => (((hK.get m7).hd' he.out ratK_hd) g e).no rfl)) (al1 (gwC (apb hr n9 ((hK.get m0)).ltS)) (al1 (gwC (apb hr n6 ((hK.get m1)).ltS)) aN))))))))) ?_
    intro sv10
    rw [(show preL xs k ++ [xk] = preL xs (k + 1) from preL_snoc exk.out)]
    simp only [Act.put, pA, pB, pC]
    refine Tx.know (Pr := ob sv10.p ≠ some R8) (fun w' hK => hK.get m7) (fun n11 => ?_)
    refine Tx.know (Pr := ob sv10.p ≠ some R5) (fun w' hK => hK.get m8) (fun n12 => ?_)
    refine tF ?_
    refine txEnd (fun W13 hK => ?_)
    (try go_wp2)
    go_roundw
    case rel => exact ⟨k + 1, sv10.p, sv10.c, (by first | rfl | go_num), (by first | rfl | go_num), (by omega), (hid (fun e => absurd (congrArg List.length e) (by rw [preL_len (by omega)]; simp))), ⟨hK.old, (al1 (hK.all _ m0) aN)⟩⟩
    case measure => simp [intOf]; omega
set_option maxRecDepth 100000 in
set_option maxHeartbeats 400000 in
theorem smof_any (v0 : Value) (s : Sm) (w : World) (h0 : SmV w v0 s) (hs : s.Ok) :
    Calls Tryz.prog 21 #[v0] w fun e w' => ∃ y0, e = .returned y0 ∧ RpO w.heap.size w' y0 (ofSm s) ∧ Below w.heap.size w w' := by
  have h0_0 := h0; obtain ⟨⟨p_h0, l_h0, c_h0⟩, ⟨q_h0, m_h0, d_h0⟩, ⟨r_h0, n_h0, e_h0⟩, rfl, h0_1, h0_2, h0_3⟩ := h0
  have hK := (KS.start w)
  have hn4 := ofN_le s
  have hm5 := ofM_le s
  have l1 := hs.cl
  have l2 := hs.al
  have l3 := hs.bl
  refine Calls.hide (fun Q0 hQ0 => ?_)
  go_enter Tryz.func21, Tryz.ntmps21
  go_upto_region 0 with (fail)
  refine wp_region_tx w hK ?_
  clear hK
  refine tA (.cells #[.slice p_h0 s.c.length c_h0, .slice q_h0 s.a.length d_h0, .slice r_h0 s.b.length e_h0] 24) (fun R1 q_R1 => ?_)
  clear q_R1
  refine tA (.cells #[.slice none 0 0, .slice none 0 0, .slice none 0 0] 36) (fun R2 q_R2 => ?_)
  have o_R1_R2 : R1 < R2 := q_R2 _ _ _ m0
  clear q_R2
  refine txEnd (fun W3 hK => ?_)
  go_upto_region 1 with (fail)
  refine wp_region_tx w hK ?_
  clear hK
  refine tA (.cells #[.slice none 0 0, .slice none 0 0, .slice none 0 0] 36) (fun R4 q_R4 => ?_)
  have o_R1_R4 : R1 < R4 := q_R4 _ _ _ m1
  have o_R2_R4 : R2 < R4 := q_R4 _ _ _ m0
  clear q_R4
  refine txEnd (fun W5 hK => ?_)
  rcases (Nat.eq_zero_or_pos s.c.length).imp hid id with hsc | hsc
  · --
   go_upto_region 2 with (fail)
   have hK0 := hK
   refine wp_region_float0 (w) _ _ [0, 0, 0, 0, 0, 0] (by kernel_rfl) (by kernel_rfl) (by kernel_rfl) (by kernel_rfl) (KS.drew hK0) (KS.drew hK) ?_
   clear hK hK0
   refine lF ?_
   refine lL m2 ?_
   refine lF ?_
   apply lxF0 (v := .int .i64 ((ofM s : Nat) : Int)) (wants0 rfl); (· intro w' h0; go_simp; (try go_bits); exact ⟨congrArg _ (by unfold ofM; omega), rfl⟩); simp only [Act.put, pA, pB, pC]
   apply lxF0 (v := .int .i64 ((ofN s : Nat) : Int)) (wants0 rfl); (· intro w' h0; go_simp; (try go_bits); exact ⟨congrArg _ (by unfold ofN; rw [if_pos hsc.out]; rfl), rfl⟩); simp only [Act.put, pA, pB, pC]
   refine lF ?_
   refine lxEnd (fun W6 hK => ?_)
   go_upto_region 3 with (fail)
   refine wp_region_tx w hK ?_
   clear hK
   refine tF ?_
   refine tL m2 ?_
   refine tF ?_
   apply txF (v := .bool false) (wants0 rfl); (· intro w' hK; go_simp; (try go_bits); exact ⟨congrArg Value.bool (by have q := hsc.out; simp [q]), rfl⟩); simp only [Act.put, pA, pB, pC]
   refine txEnd (fun W7 hK => ?_)
   go_wp2_with fail
   go_loopw [6] (fun s6 wl => ∃ (k : Nat) (p : Option Addr) (c : Nat), s6 = .int .i64 (k : Int) ∧ (k ≤ ofN s) ∧ RowKit.Hid (atL s.c 0 k = [] → p = none) ∧ (ob p ≠ some R1) ∧ (ob p ≠ some R2) ∧ (ob p ≠ some R4) ∧ KS w [fun w1 => OwV refK 41 w.heap.size w1 (.slice p (atL s.c 0 k).length c) (atL s.c 0 k), Has w.heap.size R4 (.cells #[.slice p (atL s.c 0 k).length c, .slice none 0 0, .slice none 0 0] 36), Has w.heap.size R2 (.cells #[.slice none 0 0, .slice none 0 0, .slice none 0 0] 36), Has w.heap.size R1 (.cells #[.slice p_h0 s.c.length c_h0, .slice q_h0 s.a.length d_h0, .slice r_h0 s.b.length e_h0] 24)] wl) (fun s6 _ => ofN s - (intOf s6).toNat)
   case atStart => exact ⟨0, none, 0, rfl, (by omega), (hid (fun _ => rfl)), (fun e => by cases e), (fun e => by cases e), (fun e => by cases e), ⟨hK.old, (al1 (fun w' _ => OwV.nil) (al1 (hK.all _ m0) (al1 (hK.all _ m1) (al1 (hK.all _ m2) aN))))⟩⟩
   case round =>
    clear hK
    obtain ⟨k, p, c, rfl, hk, he, hb_p_R1, hb_p_R2, hb_p_R4, hK⟩ := hrel
    generalize wr = W8 at hK ⊢
    go_upto_region 6 with (fail)
    refine wp_region_tx w hK ?_
    clear hK
    iterate 2 (refine tF ?_)
    refine tB (decide (((k : Int)) < (((ofN s : Nat) : Int)))) (fun b1 hb1 => ?_)
    refine txEnd (fun W9 hK => ?_)
    cases b1
    · --
     have q_b1 : (((ofN s : Nat) : Int)) ≤ ((k : Int)) := Int.not_lt.1 (of_decide_eq_false hb1.out)
     obtain rfl : k = ofN s := by omega
     go_upto_region 9 with (fail)
     refine wp_region_tx w hK ?_
     clear hK
     refine tF ?_
     refine txEnd (fun W10 hK => ?_)
     go_wp2_with fail
     go_loopw [7] (fun s7 wl => ∃ (i : Nat) (pa : Option Addr) (ca : Nat) (pb : Option Addr) (cb : Nat), s7 = .int .i64 (i : Int) ∧ (i ≤ ofM s) ∧ RowKit.Hid (rowsL s i = [] → pa = none) ∧ RowKit.Hid (atL s.b 0 i = [] → pb = none) ∧ (ob pa ≠ some R4) ∧ (ob pa ≠ some R2) ∧ (ob pa ≠ some R1) ∧ RowKit.Hid (∀ g, ob pa = some g → ob p ≠ some g) ∧ RowKit.Hid (∀ g, ob pa = some g → ob pb ≠ some g) ∧ (ob pb ≠ some R4) ∧ (ob pb ≠ some R2) ∧ (ob pb ≠ some R1) ∧ RowKit.Hid (∀ g, ob pb = some g → ob p ≠ some g) ∧ KS w [fun w1 => OwV refK 41 w.heap.size w1 (.slice p (atL s.c 0 (ofN s)).length c) (atL s.c 0 (ofN s)), fun w1 => OwV (rpK<|pb) 33 w.heap.size w1 (.slice pa (rowsL s i).length ca) (rowsL s i), fun w1 => OwV refK 41 w.heap.size w1 (.slice pb (atL s.b 0 i).length cb) (atL s.b 0 i), Has w.heap.size R4 (.cells #[.slice p (atL s.c 0 (ofN s)).length c, .slice pa (rowsL s i).length ca, .slice pb (atL s.b 0 i).length cb] 36), Has w.heap.size R2 (.cells #[.slice none 0 0, .slice none 0 0, .slice none 0 0] 36), Has w.heap.size R1 (.cells #[.slice p_h0 s.c.length c_h0, .slice q_h0 s.a.length d_h0, .slice r_h0 s.b.length e_h0] 24)] wl) (fun s7 _ => ofM s - (intOf s7).toNat)
     case atStart => exact ⟨0, none, 0, none, 0, rfl, (by omega), (hid (fun _ => rfl)), (hid (fun _ => rfl)), (fun e => by cases e), (fun e => by cases e), (fun e => by cases e), (hid (fun g e => by cases e)), (hid (fun g e => by cases e)), (fun e => by cases e), (fun e => by cases e), (fun e => by cases e), (hid (fun g e => by cases e)), ⟨hK.old, (al1 (hK.all _ m0) (al1 (fun w' _ => OwV.nil) (al1 (fun w' _ => OwV.nil) (al1 (hK.all _ m1) (al1 (hK.all _ m2) (al1 (hK.all _ m3) aN))))))⟩⟩
     case round =>
      clear hK
      obtain ⟨i, pa, ca, pb, cb, rfl, hi, hea, heb, hb_pa_R4, hb_pa_R2, hb_pa_R1, hq_pa_0, hr_pa_pb, hb_pb_R4, hb_pb_R2, hb_pb_R1, hq_pb_0, hK⟩ := hrel
      generalize wr = W11 at hK ⊢
      go_upto_region 10 with (fail)
      refine wp_region_tx w hK ?_
      clear hK
      iterate 2 (refine tF ?_)
      refine tB (decide (((i : Int)) < (((ofM s : Nat) : Int)))) (fun b2 hb2 => ?_)
      refine txEnd (fun W12 hK => ?_)
      cases b2
      · --
       have q_b2 : (((ofM s : Nat) : Int)) ≤ ((i : Int)) := Int.not_lt.1 (of_decide_eq_false hb2.out)
       go_upto_region 19 with (fail)
       refine wp_region_tx w hK ?_
       clear hK
       refine tL m3 ?_
       refine tS m4 0 [.slice p (atL s.c 0 (ofN s)).length c, .slice pa (rowsL s i).length ca, .slice pb (atL s.b 0 i).length cb] (fun w' hK _ ni => kK (spO hb_p_R2 (.inr (ni.no rfl))) (kK (spO hb_pa_R2 (.inr (ni.no rfl))) (kK (spO hb_pb_R2 (.inr (ni.no rfl))) (kG o_R2_R4 (kP [.slice p (atL s.c 0 (ofN s)).length c, .slice pa (rowsL s i).length ca, .slice pb (atL s.b 0 i).length cb] (kL o_R1_R2 kZ)))))) ?_
       refine txEnd (fun W13 hK => ?_)
       have k_R2 := (hK.get m4); have ⟨c_R2_0, c_R2_1, c_R2_2⟩ := k_R2.c3
       go_wp2
       exact bodyPost_ret (v := .agg #[.slice p (atL s.c 0 (ofN s)).length c, .slice pa (rowsL s i).length ca, .slice pb (atL s.b 0 i).length cb]) (by simp [results, Tryz.results21, go_sem, c_R2_0, c_R2_1, c_R2_2]) rfl ((by obtain rfl := hQ0.out; exact ⟨_, rfl, (by have e : i = ofM s := (by omega); subst e; exact ⟨⟨p, 0, c⟩, ⟨pa, 0, ca⟩, ⟨pb, 0, cb⟩, rfl, ((hK.get m0)), ((hK.get m1)).ofP, ((hK.get m2))⟩), hK.old⟩))
      · --
       have q_b2 : ((i : Int)) < (((ofM s : Nat) : Int)) := of_decide_eq_true hb2.out
       have an14 : (fun w1 => OwV refK 41 w.heap.size w1 (.slice p (atL s.c 0 (ofN s)).length c) (atL s.c 0 (ofN s))) W12 := hK.get m0
       replace an14 : OwV refK 41 w.heap.size W12 (.slice p (atL s.c 0 (ofN s)).length c) (atL s.c 0 (ofN s)) := an14
       have an15 : (fun w1 => OwV (rpK<|pb) 33 w.heap.size w1 (.slice pa (rowsL s i).length ca) (rowsL s i)) W12 := hK.get m1
       replace an15 : OwV (rpK<|pb) 33 w.heap.size W12 (.slice pa (rowsL s i).length ca) (rowsL s i) := an15
       have an16 : (fun w1 => OwV refK 41 w.heap.size w1 (.slice pb (atL s.b 0 i).length cb) (atL s.b 0 i)) W12 := hK.get m2
       replace an16 : OwV refK 41 w.heap.size W12 (.slice pb (atL s.b 0 i).length cb) (atL s.b 0 i) := an16
       replace hK := hK.add (F := GB W12 none) (fun w' hb => (GB.start W12 none).below hb)
       replace hK := hK.subl (sK (sC (sC (sC (sK (sK (sK sZ)))))))
       go_upto_region 12 with (fail)
       refine wp_region_tx w hK ?_
       clear hK
       refine tF ?_
       refine txEnd (fun W17 hK => ?_)
       go_wp2_with fail
       go_loopw [8, 9] (fun s8 s9 wl => ∃ (j : Nat) (pr : Option Addr) (cr : Nat), s8 = .slice pr (atL s.a (i * ofN s) j).length cr ∧ s9 = .int .i64 (j : Int) ∧ (j ≤ ofN s) ∧ RowKit.Hid (atL s.a (i * ofN s) j = [] → pr = none) ∧ (ob pr ≠ some R4) ∧ (ob pr ≠ some R2) ∧ (ob pr ≠ some R1) ∧ RowKit.Hid (Lies W12 none pr) ∧ KS w [fun w1 => OwV refK 41 w.heap.size w1 (.slice pr (atL s.a (i * ofN s) j).length cr) (atL s.a (i * ofN s) j), Has w.heap.size R4 (.cells #[.slice p (atL s.c 0 (ofN s)).length c, .slice pa (rowsL s i).length ca, .slice pb (atL s.b 0 i).length cb] 36), Has w.heap.size R2 (.cells #[.slice none 0 0, .slice none 0 0, .slice none 0 0] 36), Has w.heap.size R1 (.cells #[.slice p_h0 s.c.length c_h0, .slice q_h0 s.a.length d_h0, .slice r_h0 s.b.length e_h0] 24), GB W12 none] wl) (fun s8 s9 _ => ofN s - (intOf s9).toNat)
       case atStart => exact ⟨0, none, 0, rfl, rfl, (by omega), (hid (fun _ => rfl)), (fun e => by cases e), (fun e => by cases e), (fun e => by cases e), (hid (.inr (fun g e => (apNone e).elim))), ⟨hK.old, (al1 (fun w' _ => OwV.nil) (al1 (hK.all _ m1) (al1 (hK.all _ m2) (al1 (hK.all _ m3) (al1 (hK.all _ m0) aN)))))⟩⟩
       case round =>
        clear hK
        obtain ⟨j, pr, cr, rfl, rfl, hj, her, hb_pr_R4, hb_pr_R2, hb_pr_R1, hl_pr_W12, hK⟩ := hrel
        generalize wr = W18 at hK ⊢
        go_upto_region 14 with (fail)
        refine wp_region_tx w hK ?_
        clear hK
        iterate 2 (refine tF ?_)
        refine tB (decide (((j : Int)) < (((ofN s : Nat) : Int)))) (fun b3 hb3 => ?_)
        refine txEnd (fun W19 hK => ?_)
        cases b3
        · --
         have q_b3 : (((ofN s : Nat) : Int)) ≤ ((j : Int)) := Int.not_lt.1 (of_decide_eq_false hb3.out)
         obtain rfl : j = ofN s := by omega
         have n20 := hid (Lies.apart hl_pr_W12.out (fun g e => ((an14).block e).2))
         have n21 := hid (Lies.apart hl_pr_W12.out (fun g e => ((an15).block e).2))
         have n22 := hid (Lies.apart hl_pr_W12.out (fun g e => ((an16).block e).2))
         replace hK := hK.add (F := fun w1 => OwV refK 41 w.heap.size w1 (.slice p (atL s.c 0 (ofN s)).length c) (atL s.c 0 (ofN s))) (fun w' hb => (an14.below (GB.to (hK.get m4))).below hb)
         replace hK := hK.add (F := fun w1 => OwV (rpK<|pb) 33 w.heap.size w1 (.slice pa (rowsL s i).length ca) (rowsL s i)) (fun w' hb => (an15.below (GB.to (hK.get m5))).below hb)
         replace hK := hK.add (F := fun w1 => OwV refK 41 w.heap.size w1 (.slice pb (atL s.b 0 i).length cb) (atL s.b 0 i)) (fun w' hb => (an16.below (GB.to (hK.get m6))).below hb)
         replace hK := hK.subl (sK (sK (sK (sK (sK (sK (sK (sC sZ))))))))
         go_upto_region 17 with (fail)
         refine wp_region_tx w hK ?_
         clear hK
         refine tF ?_
         refine tL m4 ?_
         refine tF ?_
         apply txA2 (.cells #[.slice pr (atL s.a (i * ofN s) (ofN s)).length cr] 33) (wants0 rfl)
         · intro w' hK; go_simp; rfl
         intro R23 q_R23
         have o_R4_R23 : R4 < R23 := q_R23.box m4
         have o_R2_R23 : R2 < R23 := q_R23.box m5
         have o_R1_R23 : R1 < R23 := q_R23.box m6
         have n24 : ob pb ≠ some R23 := q_R23.row m0
         have n25 : ob pa ≠ some R23 := q_R23.row m1
         have n26 : ob p ≠ some R23 := q_R23.row m2
         have n27 : ob pr ≠ some R23 := q_R23.row m3
         clear q_R23
         simp only [mkOf, Act.put, pA, pB, pC]
         refine txApp (K := (rpK<|pb)) (t := 33) (xs := rowsL s i) (ys := [atL s.a (i * ofN s) (ofN s)]) (.tmp 58) (.tmp 60) (wants0 rfl) (by rfl) Tryz.underlying34 Tryz.underlying34 infoSR rfl (by rfl) (by rfl) (by rw [rowsL_len]; simp [maxLen]; omega) (by rw [rowsL_len]; simp; omega) (fun r => [Has w.heap.size R23 (.cells #[.slice pr (atL s.a (i * ofN s) (ofN s)).length cr] 33), fun w1 => OwV refK 41 w.heap.size w1 (.slice pb (atL s.b 0 i).length cb) (atL s.b 0 i), fun w1 => OwV refK 41 w.heap.size w1 (.slice p (atL s.c 0 (ofN s)).length c) (atL s.c 0 (ofN s)), fun w1 => OwV refK 41 w.heap.size w1 (.slice pr (atL s.a (i * ofN s) (ofN s)).length cr) (atL s.a (i * ofN s) (ofN s)), Has w.heap.size R4 (.cells #[.slice p (atL s.c 0 (ofN s)).length c, .slice pa (rowsL s i).length ca, .slice pb (atL s.b 0 i).length cb] 36), Has w.heap.size R2 (.cells #[.slice none 0 0, .slice none 0 0, .slice none 0 0] 36), Has w.heap.size R1 (.cells #[.slice p_h0 s.c.length c_h0, .slice q_h0 s.a.length d_h0, .slice r_h0 s.b.length e_h0] 24), fun _ => ob r ≠ some R23, fun _ => ∀ g, ob r = some g → ob pb ≠ some g, fun _ => ∀ g, ob r = some g → ob p ≠ some g, fun _ => ∀ g, ob r = some g → ob pr ≠ some g, fun _ => ob r ≠ some R4, fun _ => ob r ≠ some R2, fun _ => ob r ≠ some R1]) (fun w' hK => ⟨(hK.get m2), (fun g e => .inr ((((hK.get m2).hd' hea.out slP_hd) g e).no rfl)), (SlV.one (hK.get m0) (((hK.get m4)).toP n22.out) (Nat.le_refl 1) (by decide))⟩) (fun w' r hK hr => (al1 (gwH (hK.get m0) n25) (al1 (gwO (hK.get m1) hr_pa_pb.out (fun g e => .inr ((((hK.get m2).hd' hea.out slP_hd) g e).no rfl))) (al1 (gwO (hK.get m3) hq_pa_0.out (fun g e => .inr ((((hK.get m2).hd' hea.out slP_hd) g e).no rfl))) (al1 (gwO (hK.get m4) (fun g e1 e2 => n21.out g e2 e1) (fun g e => .inr ((((hK.get m2).hd' hea.out slP_hd) g e).no rfl))) (al1 (gwH (hK.get m5) hb_pa_R4) (al1 (gwH (hK.get m6) hb_pa_R2) (al1 (gwH (hK.get m7) hb_pa_R1) (al1 (gwC (apb hr n25 ((hK.get m0)).ltS)) (al1 (gwC (apr hr hr_pa_pb.out (fun g e => (((hK.get m1)).block e).2))) (al1 (gwC (apr hr hq_pa_0.out (fun g e => (((hK.get m3)).block e).2))) (al1 (gwC (apr hr (fun g e1 e2 => n21.out g e2 e1) (fun g e => (((hK.get m4)).block e).2))) (al1 (gwC (apb hr hb_pa_R4 ((hK.get m5)).ltS)) (al1 (gwC (apb hr hb_pa_R2 ((hK.get m6)).ltS)) (al1 (gwC (apb hr hb_pa_R1 ((hK.get m7)).ltS)) aN))))))))))))))) ?_
         intro sv28
         rw [(show rowsL s i ++ [atL s.a (i * ofN s) (ofN s)] = rowsL s (i + 1) from rowsL_snoc s i)]
         simp only [Act.put, pA, pB, pC]
         refine Tx.know (Pr := ob sv28.p ≠ some R23) (fun w' hK => hK.get m8) (fun n29 => ?_)
         refine Tx.know (Pr := ∀ g, ob sv28.p = some g → ob pb ≠ some g) (fun w' hK => hK.get m9) (fun n30 => ?_)
         refine Tx.know (Pr := ∀ g, ob sv28.p = some g → ob p ≠ some g) (fun w' hK => hK.get m10) (fun n31 => ?_)
         refine Tx.know (Pr := ∀ g, ob sv28.p = some g → ob pr ≠ some g) (fun w' hK => hK.get m11) (fun n32 => ?_)
         refine Tx.know (Pr := ob sv28.p ≠ some R4) (fun w' hK => hK.get m12) (fun n33 => ?_)
         refine Tx.know (Pr := ob sv28.p ≠ some R2) (fun w' hK => hK.get m13) (fun n34 => ?_)
         refine Tx.know (Pr := ob sv28.p ≠ some R1) (fun w' hK => hK.get m14) (fun n35 => ?_)
         refine tF ?_
         refine tS m5 1 [.slice sv28.p (rowsL s (i + 1)).length sv28.c] (fun w' hK _ ni => kK (spO n33 (.inr (ni.no rfl))) (kG o_R4_R23 (kK (spO hb_pb_R4 (.inr (ni.no rfl))) (kK (spO hb_p_R4 (.inr (ni.no rfl))) (kK (spO hb_pr_R4 (.inr (ni.no rfl))) (kP [.slice p (atL s.c 0 (ofN s)).length c, .slice sv28.p (rowsL s (i + 1)).length sv28.c, .slice pb (atL s.b 0 i).length cb] (kL o_R2_R4 (kL o_R1_R4 (kC (kC (kC (kC (kC (kC (kC kZ))))))))))))))) ?_
         refine txEnd (fun W36 hK => ?_)
         go_upto_region 18 with (fail)
         have v_W36 := hK.old.size
         have b37 : ∀ g, ob sv28.p = some g → g < W36.heap.size := fun g e => ((hK.get m0).block e).2
         have b38 : ∀ g, ob pb = some g → g < W36.heap.size := fun g e => ((hK.get m2).block e).2
         have b39 : ∀ g, ob p = some g → g < W36.heap.size := fun g e => ((hK.get m3).block e).2
         have b40 : ∀ g, ob pr = some g → g < W36.heap.size := fun g e => ((hK.get m4).block e).2
         have z_R4 : R4 < W36.heap.size := (hK.get m5).ltS
         have z_R2 : R2 < W36.heap.size := (hK.get m6).ltS
         have z_R1 : R1 < W36.heap.size := (hK.get m7).ltS
         have z_R23 : R23 < W36.heap.size := (hK.get m1).ltS
         have hK0 := hK.subl (sC (sK (sC (sC (sC (sC (sK (sK (sC (sC (sC (sC (sC (sC (sC sZ)))))))))))))))
         replace hK0 := hK0.add (F := fun w1 => W36.heap.size ≤ w1.heap.size) (fun _ hb => hb.size)
         refine wp_region_floatB (w) (W36.heap.size) _ _ [0, 1, 0, 0, 0, 2, 3, 5, 0, 4] (by kernel_rfl) (by kernel_rfl) (by kernel_rfl) (by kernel_rfl) (fun _ h0 => h0.get m0) (KS.drew hK0) (KS.drew hK) ?_
         clear hK hK0
         refine lF ?_
         refine lR m5 ?_
         refine lF ?_
         refine lL m3 ?_
         refine lF ?_
         refine lER (fun w' h0 hK => rat_any (.slice r_h0 s.b.length e_h0) s.b i w' (h0_3.below hK.old) hs.b) (fun sv41 => ?_)
         refine lA (.cells #[.bool (isN (atI s.b i)), .slice sv41.a.p (digs B6 (numQ (atI s.b i))).length sv41.a.c, .slice sv41.b.p (digs B6 (den0 (atI s.b i))).length sv41.b.c] 41) (fun R42 => ?_)
         refine lxApp (K := refK) (t := 41) (xs := atL s.b 0 i) (ys := [atI s.b i]) (.tmp 64) (.tmp 69) (wants0 rfl) (by rfl) Tryz.underlying33 Tryz.underlying33 infoR rfl (by rfl) (by rfl) (by rw [atL_len]; simp [maxLen]; omega) (by rw [atL_len]; simp; omega) (fun r => [fun w => RefR w (.agg #[.bool (isN (atI s.b i)), .slice sv41.a.p (digs B6 (numQ (atI s.b i))).length sv41.a.c, .slice sv41.b.p (digs B6 (den0 (atI s.b i))).length sv41.b.c]) (atI s.b i), fun w => RefV w (.slice sv41.a.p (digs B6 (numQ (atI s.b i))).length sv41.a.c) (numQ (atI s.b i)), fun w => RefV w (.slice sv41.b.p (digs B6 (den0 (atI s.b i))).length sv41.b.c) (den0 (atI s.b i)), fun w1 => OwV (rpK<|r) 33 w.heap.size w1 (.slice sv28.p (rowsL s (i + 1)).length sv28.c) (rowsL s (i + 1)), Has w.heap.size R23 (.cells #[.slice pr (atL s.a (i * ofN s) (ofN s)).length cr] 33), fun w1 => OwV refK 41 w.heap.size w1 (.slice p (atL s.c 0 (ofN s)).length c) (atL s.c 0 (ofN s)), fun w1 => OwV refK 41 w.heap.size w1 (.slice pr (atL s.a (i * ofN s) (ofN s)).length cr) (atL s.a (i * ofN s) (ofN s)), Has w.heap.size R4 (.cells #[.slice p (atL s.c 0 (ofN s)).length c, .slice sv28.p (rowsL s (i + 1)).length sv28.c, .slice pb (atL s.b 0 i).length cb] 36), Has w.heap.size R2 (.cells #[.slice none 0 0, .slice none 0 0, .slice none 0 0] 36), Has w.heap.size R1 (.cells #[.slice p_h0 s.c.length c_h0, .slice q_h0 s.a.length d_h0, .slice r_h0 s.b.length e_h0] 24), fun _ => ob sv28.p ≠ some R23, fun _ => ∀ g, ob sv28.p = some g → ob pb ≠ some g, fun _ => ∀ g, ob sv28.p = some g → ob p ≠ some g, fun _ => ∀ g, ob sv28.p = some g → ob pr ≠ some g, fun _ => ob sv28.p ≠ some R4, fun _ => ob sv28.p ≠ some R2, fun _ => ob sv28.p ≠ some R1, fun _ => ∀ g, ob r = some g → ob sv28.p ≠ some g, fun _ => ob r ≠ some R23, fun _ => ∀ g, ob r = some g → ob p ≠ some g, fun _ => ∀ g, ob r = some g → ob pr ≠ some g, fun _ => ob r ≠ some R4, fun _ => ob r ≠ some R2, fun _ => ob r ≠ some R1]) b38 (fun w' h0 hK => ⟨(hK.get m6), (fun g e => .inr ((((hK.get m6).hd' heb.out refK_hd) g e).no rfl)), (SlV.one (hK.get m0) ⟨_, _, _, rfl, (hK.get m1)⟩ (Nat.le_refl 1) (by decide))⟩) (fun w' h0 hK => (al1 (gwL (h0.get m0)) (al1 (gwH (h0.get m1) n24) (al1 (gwH (h0.get m2) hb_pb_R2) (al1 (gwH (h0.get m3) hb_pb_R1) aN))))) (fun w' r h0 hK hr => (al1 (gwP (S := [1]) (fun w2 h2 => ((hK.get m1)).below h2) (fun _ h => refr_spare (hK.get m1) h) (fun g e => (((hK.get m6).hd' heb.out refK_hd) g e).no rfl)) (al1 (gwP (S := [1]) (fun w2 h2 => ((hK.get m2)).below h2) (fun _ h => ref_spare (hK.get m2) h) (fun g e => (((hK.get m6).hd' heb.out refK_hd) g e).no rfl)) (al1 (gwP (S := [1]) (fun w2 h2 => ((hK.get m3)).below h2) (fun _ h => ref_spare (hK.get m3) h) (fun g e => (((hK.get m6).hd' heb.out refK_hd) g e).no rfl)) (al1 (gwX (hK.get m4) (fun g e1 e2 => n30 g e2 e1) hr (fun g e => (((hK.get m6).hd' heb.out refK_hd) g e).no rfl)) (al1 (gwH (hK.get m5) n24) (al1 (gwO (hK.get m7) hq_pb_0.out (fun g e => .inr ((((hK.get m6).hd' heb.out refK_hd) g e).no rfl))) (al1 (gwO (hK.get m8) (fun g e1 e2 => n22.out g e2 e1) (fun g e => .inr ((((hK.get m6).hd' heb.out refK_hd) g e).no rfl))) (al1 (gwH (hK.get m9) hb_pb_R4) (al1 (gwH (hK.get m10) hb_pb_R2) (al1 (gwH (hK.get m11) hb_pb_R1) (al1 (gwC (hK.get m12)) (al1 (gwC (hK.get m13)) (al1 (gwC (hK.get m14)) (al1 (gwC (hK.get m15)) (al1 (gwC (hK.get m16)) (al1 (gwC (hK.get m17)) (al1 (gwC (hK.get m18)) (al1 (gwC (apr hr (fun g e1 e2 => n30 g e2 e1) (fun g e => (((hK.get m4)).block e).2))) (al1 (gwC (apb hr n24 ((hK.get m5)).ltS)) (al1 (gwC (apr hr hq_pb_0.out (fun g e => (((hK.get m7)).block e).2))) (al1 (gwC (apr hr (fun g e1 e2 => n22.out g e2 e1) (fun g e => (((hK.get m8)).block e).2))) (al1 (gwC (apb hr hb_pb_R4 ((hK.get m9)).ltS)) (al1 (gwC (apb hr hb_pb_R2 ((hK.get m10)).ltS)) (al1 (gwC (apb hr hb_pb_R1 ((hK.get m11)).ltS)) aN))))))))))))))))))))))))) ?_
         intro sv43
         rw [(show atL s.b 0 i ++ [atI s.b i] = atL s.b 0 (i + 1) from by rw [← atL_snoc, Nat.zero_add])]
         simp only [Act.put, pA, pB, pC]
         refine lF ?_
         refine lS m8 2 [.slice sv43.p (atL s.b 0 (i + 1)).length sv43.c] (fun w' h0 hK _ ni => kK (spB) (kG o_R4_R23 (kL o_R2_R4 (kL o_R1_R4 kN)))) (fun w' h0 hK _ ni => kK (spO ((hK.get m22)) (.inr (ni.no rfl))) (kS ni (kR ni (kR ni (kK (spO n33 (.inr (ni.no rfl))) (kG o_R4_R23 (kK (spO hb_p_R4 (.inr (ni.no rfl))) (kK (spO hb_pr_R4 (.inr (ni.no rfl))) (kP [.slice p (atL s.c 0 (ofN s)).length c, .slice sv28.p (rowsL s (i + 1)).length sv28.c, .slice sv43.p (atL s.b 0 (i + 1)).length sv43.c] (kL o_R2_R4 (kL o_R1_R4 (kC (kC (kC (kC (kC (kC (kC (kC (kC (kC (kC (kC (kC (kC kZ))))))))))))))))))))))))) ?_
         refine lxEnd (fun W51 hK => ?_)
         have n44 := hK.get m18
         have n45 := hK.get m19
         have n46 := hK.get m20
         have n47 := hK.get m21
         have n48 := hK.get m22
         have n49 := hK.get m23
         have n50 := hK.get m24
         (try go_wp2)
         go_roundw
         case rel => exact ⟨i + 1, sv28.p, sv28.c, sv43.p, sv43.c, (by first | rfl | go_num), (by omega), (hid (fun e => absurd (congrArg List.length e) (by rw [rowsL_len]; simp))), (hid (fun e => absurd (congrArg List.length e) (by rw [atL_len]; simp))), n33, n34, n35, (hid n31), (hid (fun g e1 e2 => n44 g e2 e1)), n48, n49, n50, (hid n46), ⟨hK.old, (al1 (hK.all _ m6) (al1 (hK.all _ m4) (al1 (hK.all _ m0) (al1 (hK.all _ m8) (al1 (hK.all _ m9) (al1 (hK.all _ m10) aN))))))⟩⟩
         case measure => simp [intOf]; omega
        · --
         have q_b3 : ((j : Int)) < (((ofN s : Nat) : Int)) := of_decide_eq_true hb3.out
         go_upto_region 16 with (fail)
         refine wp_region_tx w hK ?_
         clear hK
         iterate 2 (refine tF ?_)
         refine tL m3 ?_
         iterate 2 (refine tF ?_)
         apply txF (v := .int .i64 ((i * ofN s : Nat) : Int)) (wants0 rfl); (· intro w' hK; have hin : i * ofN s ≤ 20 := Nat.le_trans (Nat.mul_le_mul (show i ≤ 5 from (by omega)) hn4.2) (by decide); go_simp; (try go_bits); rw [← Int.natCast_mul]; (try go_bits); exact ⟨rfl, rfl⟩); simp only [Act.put, pA, pB, pC]
         refine tF ?_
         apply txF (v := .int .i64 ((i * ofN s + j : Nat) : Int)) (wants0 rfl); (· intro w' hK; have hin : i * ofN s ≤ 20 := Nat.le_trans (Nat.mul_le_mul (show i ≤ 5 from (by omega)) hn4.2) (by decide); go_simp; (try go_bits); rw [← Int.natCast_mul]; (try go_bits); exact ⟨congrArg _ (by omega), rfl⟩); simp only [Act.put, pA, pB, pC]
         refine tER (fun w' hK => rat_any (.slice q_h0 s.a.length d_h0) s.a ((i * ofN s + j : Nat)) w' (h0_2.below hK.old) hs.a) (fun sv52 => ?_)
         apply txA2 (.cells #[.bool (isN (atI s.a ((i * ofN s + j : Nat)))), .slice sv52.a.p (digs B6 (numQ (atI s.a ((i * ofN s + j : Nat))))).length sv52.a.c, .slice sv52.b.p (digs B6 (den0 (atI s.a ((i * ofN s + j : Nat))))).length sv52.b.c] 41) (wants0 rfl)
         · intro w' hK; go_simp; rfl
         intro R53 q_R53
         have o_R4_R53 : R4 < R53 := q_R53.box m4
         have o_R2_R53 : R2 < R53 := q_R53.box m5
         have o_R1_R53 : R1 < R53 := q_R53.box m6
         have n54 : ob pr ≠ some R53 := q_R53.row m3
         have nb_R53_W12 : W12.heap.size ≤ R53 := q_R53.gb m7
         clear q_R53
         simp only [mkOf, Act.put, pA, pB, pC]
         refine txApp (K := refK) (t := 41) (xs := atL s.a (i * ofN s) j) (ys := [atI s.a ((i * ofN s + j : Nat))]) (.tmp 46) (.tmp 55) (wants0 rfl) (by rfl) Tryz.underlying33 Tryz.underlying33 infoR rfl (by rfl) (by rfl) (by rw [atL_len]; simp [maxLen]; omega) (by rw [atL_len]; simp; omega) (fun r => [Has w.heap.size R53 (.cells #[.bool (isN (atI s.a ((i * ofN s + j : Nat)))), .slice sv52.a.p (digs B6 (numQ (atI s.a ((i * ofN s + j : Nat))))).length sv52.a.c, .slice sv52.b.p (digs B6 (den0 (atI s.a ((i * ofN s + j : Nat))))).length sv52.b.c] 41), fun w => RefR w (.agg #[.bool (isN (atI s.a ((i * ofN s + j : Nat)))), .slice sv52.a.p (digs B6 (numQ (atI s.a ((i * ofN s + j : Nat))))).length sv52.a.c, .slice sv52.b.p (digs B6 (den0 (atI s.a ((i * ofN s + j : Nat))))).length sv52.b.c]) (atI s.a ((i * ofN s + j : Nat))), fun w => RefV w (.slice sv52.a.p (digs B6 (numQ (atI s.a ((i * ofN s + j : Nat))))).length sv52.a.c) (numQ (atI s.a ((i * ofN s + j : Nat)))), fun w => RefV w (.slice sv52.b.p (digs B6 (den0 (atI s.a ((i * ofN s + j : Nat))))).length sv52.b.c) (den0 (atI s.a ((i * ofN s + j : Nat)))), Has w.heap.size R4 (.cells #[.slice p (atL s.c 0 (ofN s)).length c, .slice pa (rowsL s i).length ca, .slice pb (atL s.b 0 i).length cb] 36), Has w.heap.size R2 (.cells #[.slice none 0 0, .slice none 0 0, .slice none 0 0] 36), Has w.heap.size R1 (.cells #[.slice p_h0 s.c.length c_h0, .slice q_h0 s.a.length d_h0, .slice r_h0 s.b.length e_h0] 24), GB W12 none, fun _ => ob r ≠ some R53, fun _ => ob r ≠ some R4, fun _ => ob r ≠ some R2, fun _ => ob r ≠ some R1, fun _ => Lies W12 none r]) (fun w' hK => ⟨(hK.get m4), (fun g e => .inr ((((hK.get m4).hd' her.out refK_hd) g e).no rfl)), (SlV.one (hK.get m0) ⟨_, _, _, rfl, (hK.get m1)⟩ (Nat.le_refl 1) (by decide))⟩) (fun w' r hK hr => (al1 (gwH (hK.get m0) n54) (al1 (gwP (S := [1]) (fun w2 h2 => ((hK.get m1)).below h2) (fun _ h => refr_spare (hK.get m1) h) (fun g e => (((hK.get m4).hd' her.out refK_hd) g e).no rfl)) (al1 (gwP (S := [1]) (fun w2 h2 => ((hK.get m2)).below h2) (fun _ h => ref_spare (hK.get m2) h) (fun g e => (((hK.get m4).hd' her.out refK_hd) g e).no rfl)) (al1 (gwP (S := [1]) (fun w2 h2 => ((hK.get m3)).below h2) (fun _ h => ref_spare (hK.get m3) h) (fun g e => (((hK.get m4).hd' her.out refK_hd) g e).no rfl)) (al1 (gwH (hK.get m5) hb_pr_R4) (al1 (gwH (hK.get m6) hb_pr_R2) (al1 (gwH (hK.get m7) hb_pr_R1) (al1 (gwG (hK.get m8) hl_pr_W12.out) (al1 (gwC (apb hr n54 ((hK.get m0)).ltS)) (al1 (gwC (apb hr hb_pr_R4 ((hK.get m5)).ltS)) (al1 (gwC (apb hr hb_pr_R2 ((hK.get m6)).ltS)) (al1 (gwC (apb hr hb_pr_R1 ((hK.get m7)).ltS)) (al1 (gwC (Lies.app hr hl_pr_W12.out ((hK.get m8)).sz)) aN)))))))))))))) ?_
         intro sv55
         rw [atL_snoc]
         simp only [Act.put, pA, pB, pC]
         refine Tx.know (Pr := ob sv55.p ≠ some R53) (fun w' hK => hK.get m9) (fun n56 => ?_)
         refine Tx.know (Pr := ob sv55.p ≠ some R4) (fun w' hK => hK.get m10) (fun n57 => ?_)
         refine Tx.know (Pr := ob sv55.p ≠ some R2) (fun w' hK => hK.get m11) (fun n58 => ?_)
         refine Tx.know (Pr := ob sv55.p ≠ some R1) (fun w' hK => hK.get m12) (fun n59 => ?_)
         refine Tx.know (Pr := Lies W12 none sv55.p) (fun w' hK => hK.get m13) (fun n60 => ?_)
         refine tF ?_
         refine txEnd (fun W61 hK => ?_)
         (try go_wp2)
         go_roundw
         case rel => exact ⟨j + 1, sv55.p, sv55.c, (by first | rfl | go_num), (by first | rfl | go_num), (by omega), (hid (fun e => absurd (congrArg List.length e) (by rw [atL_len]; simp))), n57, n58, n59, (hid n60), ⟨hK.old, (al1 (hK.all _ m0) (al1 (hK.all _ m5) (al1 (hK.all _ m6) (al1 (hK.all _ m7) (al1 (hK.all _ m8) aN)))))⟩⟩
         case measure => simp [intOf]; omega
    · --
     have q_b1 : ((k : Int)) < (((ofN s : Nat) : Int)) := of_decide_eq_true hb1.out
     go_upto_region 8 with (fail)
     have v_W9 := hK.old.size
     have b62 : ∀ g, ob p = some g → g < W9.heap.size := fun g e => ((hK.get m0).block e).2
     have z_R4 : R4 < W9.heap.size := (hK.get m1).ltS
     have z_R2 : R2 < W9.heap.size := (hK.get m2).ltS
     have z_R1 : R1 < W9.heap.size := (hK.get m3).ltS
     have hK0 := hK.subl (sC (sC (sK (sK sZ))))
     replace hK0 := hK0.add (F := fun w1 => W9.heap.size ≤ w1.heap.size) (fun _ hb => hb.size)
     refine wp_region_floatB (w) (W9.heap.size) _ _ [0, 1, 0, 0, 0, 2, 3, 5, 0, 4] (by kernel_rfl) (by kernel_rfl) (by kernel_rfl) (by kernel_rfl) (fun _ h0 => h0.get m0) (KS.drew hK0) (KS.drew hK) ?_
     clear hK hK0
     refine lF ?_
     refine lR m1 ?_
     refine lF ?_
     refine lL m2 ?_
     refine lF ?_
     refine lER (fun w' h0 hK => rat_any (.slice p_h0 s.c.length c_h0) s.c k w' (h0_1.below hK.old) hs.c) (fun sv63 => ?_)
     refine lA (.cells #[.bool (isN (atI s.c k)), .slice sv63.a.p (digs B6 (numQ (atI s.c k))).length sv63.a.c, .slice sv63.b.p (digs B6 (den0 (atI s.c k))).length sv63.b.c] 41) (fun R64 => ?_)
     refine lxApp (K := refK) (t := 41) (xs := atL s.c 0 k) (ys := [atI s.c k]) (.tmp 28) (.tmp 33) (wants0 rfl) (by rfl) Tryz.underlying33 Tryz.underlying33 infoR rfl (by rfl) (by rfl) (by rw [atL_len]; simp [maxLen]; omega) (by rw [atL_len]; simp; omega) (fun r => [fun w => RefR w (.agg #[.bool (isN (atI s.c k)), .slice sv63.a.p (digs B6 (numQ (atI s.c k))).length sv63.a.c, .slice sv63.b.p (digs B6 (den0 (atI s.c k))).length sv63.b.c]) (atI s.c k), fun w => RefV w (.slice sv63.a.p (digs B6 (numQ (atI s.c k))).length sv63.a.c) (numQ (atI s.c k)), fun w => RefV w (.slice sv63.b.p (digs B6 (den0 (atI s.c k))).length sv63.b.c) (den0 (atI s.c k)), Has w.heap.size R4 (.cells #[.slice p (atL s.c 0 k).length c, .slice none 0 0, .slice none 0 0] 36), Has w.heap.size R2 (.cells #[.slice none 0 0, .slice none 0 0, .slice none 0 0] 36), Has w.heap.size R1 (.cells #[.slice p_h0 s.c.length c_h0, .slice q_h0 s.a.length d_h0, .slice r_h0 s.b.length e_h0] 24), fun _ => ob r ≠ some R4, fun _ => ob r ≠ some R2, fun _ => ob r ≠ some R1]) b62 (fun w' h0 hK => ⟨(hK.get m4), (fun g e => .inr ((((hK.get m4).hd' he.out refK_hd) g e).no rfl)), (SlV.one (hK.get m0) ⟨_, _, _, rfl, (hK.get m1)⟩ (Nat.le_refl 1) (by decide))⟩) (fun w' h0 hK => (al1 (gwL (h0.get m0)) (al1 (gwH (h0.get m1) hb_p_R2) (al1 (gwH (h0.get m2) hb_p_R1) aN)))) (fun w' r h0 hK hr => (al1 (gwP (S := [1]) (fun w2 h2 => ((hK.get m1)).below h2) (fun _ h => refr_spare (hK.get m1) h) (fun g e => (((hK.get m4).hd' he.out refK_hd) g e).no rfl)) (al1 (gwP (S := [1]) (fun w2 h2 => ((hK.get m2)).below h2) (fun _ h => ref_spare (hK.get m2) h) (fun g e => (((hK.get m4).hd' he.out refK_hd) g e).no rfl)) (al1 (gwP (S := [1]) (fun w2 h2 => ((hK.get m3)).below h2) (fun _ h => ref_spare (hK.get m3) h) (fun g e => (((hK.get m4).hd' he.out refK_hd) g e).no rfl)) (al1 (gwH (hK.get m5) hb_p_R4) (al1 (gwH (hK.get m6) hb_p_R2) (al1 (gwH (hK.get m7) hb_p_R1) (al1 (gwC (apb hr hb_p_R4 ((hK.get m5)).ltS)) (al1 (gwC (apb hr hb_p_R2 ((hK.get m6)).ltS)) (al1 (gwC (apb hr hb_p_R1 ((hK.get m7)).ltS)) aN)))))))))) ?_
     intro sv65
     rw [(show atL s.c 0 k ++ [atI s.c k] = atL s.c 0 (k + 1) from by rw [← atL_snoc, Nat.zero_add])]
     simp only [Act.put, pA, pB, pC]
     refine lF ?_
     refine lS m4 0 [.slice sv65.p (atL s.c 0 (k + 1)).length sv65.c] (fun w' h0 hK _ ni => kK (spB) (kL o_R2_R4 (kL o_R1_R4 kN))) (fun w' h0 hK _ ni => kK (spO ((hK.get m7)) (.inr (ni.no rfl))) (kS ni (kR ni (kR ni (kP [.slice sv65.p (atL s.c 0 (k + 1)).length sv65.c, .slice none 0 0, .slice none 0 0] (kL o_R2_R4 (kL o_R1_R4 (kC (kC (kC kZ)))))))))) ?_
     refine lxEnd (fun W69 hK => ?_)
     have n66 := hK.get m7
     have n67 := hK.get m8
     have n68 := hK.get m9
     (try go_wp2)
     go_roundw
     case rel => exact ⟨k + 1, sv65.p, sv65.c, (by first | rfl | go_num), (by omega), (hid (fun e => absurd (congrArg List.length e) (by rw [atL_len]; simp))), n68, n67, n66, ⟨hK.old, (al1 (hK.all _ m0) (al1 (hK.all _ m4) (al1 (hK.all _ m5) (al1 (hK.all _ m6) aN))))⟩⟩
     case measure => simp [intOf]; omega
  · --
   go_upto_region 2 with (fail)
   have hK0 := hK
   refine wp_region_float0 (w) _ _ [0, 0, 0, 0, 0, 0] (by kernel_rfl) (by kernel_rfl) (by kernel_rfl) (by kernel_rfl) (KS.drew hK0) (KS.drew hK) ?_
   clear hK hK0
   refine lF ?_
   refine lL m2 ?_
   refine lF ?_
   apply lxF0 (v := .int .i64 ((ofM s : Nat) : Int)) (wants0 rfl); (· intro w' h0; go_simp; (try go_bits); exact ⟨congrArg _ (by unfold ofM; omega), rfl⟩); simp only [Act.put, pA, pB, pC]
   apply lxF0 (v := .int .i64 1) (wants0 rfl); (· intro w' h0; go_simp; (try go_bits); exact ⟨rfl, rfl⟩); simp only [Act.put, pA, pB, pC]
   refine lF ?_
   refine lxEnd (fun W70 hK => ?_)
   go_upto_region 3 with (fail)
   refine wp_region_tx w hK ?_
   clear hK
   refine tF ?_
   refine tL m2 ?_
   refine tF ?_
   apply txF (v := .bool true) (wants0 rfl); (· intro w' hK; go_simp; (try go_bits); exact ⟨congrArg Value.bool (by simp <;> omega), rfl⟩); simp only [Act.put, pA, pB, pC]
   refine txEnd (fun W71 hK => ?_)
   go_upto_region 4 with (fail)
   refine wp_region_tx w hK ?_
   clear hK
   refine tF ?_
   refine tL m2 ?_
   refine tF ?_
   apply txF (v := .int .i64 ((ofN s : Nat) : Int)) (wants0 rfl); (· intro w' hK; go_simp; (try go_bits); exact ⟨congrArg _ (by unfold ofN; rw [if_neg (by omega)]; omega), rfl⟩); simp only [Act.put, pA, pB, pC]
   refine tF ?_
   refine txEnd (fun W72 hK => ?_)
   go_wp2_with fail
   go_loopw [6] (fun s6 wl => ∃ (k : Nat) (p : Option Addr) (c : Nat), s6 = .int .i64 (k : Int) ∧ (k ≤ ofN s) ∧ RowKit.Hid (atL s.c 0 k = [] → p = none) ∧ (ob p ≠ some R1) ∧ (ob p ≠ some R2) ∧ (ob p ≠ some R4) ∧ KS w [fun w1 => OwV refK 41 w.heap.size w1 (.slice p (atL s.c 0 k).length c) (atL s.c 0 k), Has w.heap.size R4 (.cells #[.slice p (atL s.c 0 k).length c, .slice none 0 0, .slice none 0 0] 36), Has w.heap.size R2 (.cells #[.slice none 0 0, .slice none 0 0, .slice none 0 0] 36), Has w.heap.size R1 (.cells #[.slice p_h0 s.c.length c_h0, .slice q_h0 s.a.length d_h0, .slice r_h0 s.b.length e_h0] 24)] wl) (fun s6 _ => ofN s - (intOf s6).toNat)
   case atStart => exact ⟨0, none, 0, rfl, (by omega), (hid (fun _ => rfl)), (fun e => by cases e), (fun e => by cases e), (fun e => by cases e), ⟨hK.old, (al1 (fun w' _ => OwV.nil) (al1 (hK.all _ m0) (al1 (hK.all _ m1) (al1 (hK.all _ m2) aN))))⟩⟩
   case round =>
    clear hK
    obtain ⟨k, p, c, rfl, hk, he, hb_p_R1, hb_p_R2, hb_p_R4, hK⟩ := hrel
    generalize wr = W73 at hK ⊢
    go_upto_region 6 with (fail)
    refine wp_region_tx w hK ?_
    clear hK
    iterate 2 (refine tF ?_)
    refine tB (decide (((k : Int)) < (((ofN s : Nat) : Int)))) (fun b1 hb1 => ?_)
    refine txEnd (fun W74 hK => ?_)
    cases b1
    · --
     have q_b1 : (((ofN s : Nat) : Int)) ≤ ((k : Int)) := Int.not_lt.1 (of_decide_eq_false hb1.out)
     obtain rfl : k = ofN s := by omega
     go_upto_region 9 with (fail)
     refine wp_region_tx w hK ?_
     clear hK
     refine tF ?_
     refine txEnd (fun W75 hK => ?_)
     go_wp2_with fail
     go_loopw [7] (fun s7 wl => ∃ (i : Nat) (pa : Option Addr) (ca : Nat) (pb : Option Addr) (cb : Nat), s7 = .int .i64 (i : Int) ∧ (i ≤ ofM s) ∧ RowKit.Hid (rowsL s i = [] → pa = none) ∧ RowKit.Hid (atL s.b 0 i = [] → pb = none) ∧ (ob pa ≠ some R4) ∧ (ob pa ≠ some R2) ∧ (ob pa ≠ some R1) ∧ RowKit.Hid (∀ g, ob pa = some g → ob p ≠ some g) ∧ RowKit.Hid (∀ g, ob pa = some g → ob pb ≠ some g) ∧ (ob pb ≠ some R4) ∧ (ob pb ≠ some R2) ∧ (ob pb ≠ some R1) ∧ RowKit.Hid (∀ g, ob pb = some g → ob p ≠ some g) ∧ KS w [fun w1 => OwV refK 41 w.heap.size w1 (.slice p (atL s.c 0 (ofN s)).length c) (atL s.c 0 (ofN s)), fun w1 => OwV (rpK<|pb) 33 w.heap.size w1 (.slice pa (rowsL s i).length ca) (rowsL s i), fun w1 => OwV refK 41 w.heap.size w1 (.slice pb (atL s.b 0 i).length cb) (atL s.b 0 i), Has w.heap.size R4 (.cells #[.slice p (atL s.c 0 (ofN s)).length c, .slice pa (rowsL s i).length ca, .slice pb (atL s.b 0 i).length cb] 36), Has w.heap.size R2 (.cells #[.slice none 0 0, .slice none 0 0, .slice none 0 0] 36), Has w.heap.size R1 (.cells #[.slice p_h0 s.c.length c_h0, .slice q_h0 s.a.length d_h0, .slice r_h0 s.b.length e_h0] 24)] wl) (fun s7 _ => ofM s - (intOf s7).toNat)
     case atStart => exact ⟨0, none, 0, none, 0, rfl, (by omega), (hid (fun _ => rfl)), (hid (fun _ => rfl)), (fun e => by cases e), (fun e => by cases e), (fun e => by cases e), (hid (fun g e => by cases e)), (hid (fun g e => by cases e)), (fun e => by cases e), (fun e => by cases e), (fun e => by cases e), (hid (fun g e => by cases e)), ⟨hK.old, (al1 (hK.all _ m0) (al1 (fun w' _ => OwV.nil) (al1 (fun w' _ => OwV.nil) (al1 (hK.all _ m1) (al1 (hK.all _ m2) (al1 (hK.all _ m3) aN))))))⟩⟩
     case round =>
      clear hK
      obtain ⟨i, pa, ca, pb, cb, rfl, hi, hea, heb, hb_pa_R4, hb_pa_R2, hb_pa_R1, hq_pa_0, hr_pa_pb, hb_pb_R4, hb_pb_R2, hb_pb_R1, hq_pb_0, hK⟩ := hrel
      generalize wr = W76 at hK ⊢
      go_upto_region 10 with (fail)
      refine wp_region_tx w hK ?_
      clear hK
      iterate 2 (refine tF ?_)
      refine tB (decide (((i : Int)) < (((ofM s : Nat) : Int)))) (fun b2 hb2 => ?_)
      refine txEnd (fun W77 hK => ?_)
      cases b2
      · --
       have q_b2 : (((ofM s : Nat) : Int)) ≤ ((i : Int)) := Int.not_lt.1 (of_decide_eq_false hb2.out)
       go_upto_region 19 with (fail)
       refine wp_region_tx w hK ?_
       clear hK
       refine tL m3 ?_
       refine tS m4 0 [.slice p (atL s.c 0 (ofN s)).length c, .slice pa (rowsL s i).length ca, .slice pb (atL s.b 0 i).length cb] (fun w' hK _ ni => kK (spO hb_p_R2 (.inr (ni.no rfl))) (kK (spO hb_pa_R2 (.inr (ni.no rfl))) (kK (spO hb_pb_R2 (.inr (ni.no rfl))) (kG o_R2_R4 (kP [.slice p (atL s.c 0 (ofN s)).length c, .slice pa (rowsL s i).length ca, .slice pb (atL s.b 0 i).length cb] (kL o_R1_R2 kZ)))))) ?_
       refine txEnd (fun W78 hK => ?_)
       have k_R2 := (hK.get m4); have ⟨c_R2_0, c_R2_1, c_R2_2⟩ := k_R2.c3
       go_wp2
       exact bodyPost_ret (v := .agg #[.slice p (atL s.c 0 (ofN s)).length c, .slice pa (rowsL s i).length ca, .slice pb (atL s.b 0 i).length cb]) (by simp [results, Tryz.results21, go_sem, c_R2_0, c_R2_1, c_R2_2]) rfl ((by obtain rfl := hQ0.out; exact ⟨_, rfl, (by have e : i = ofM s := (by omega); subst e; exact ⟨⟨p, 0, c⟩, ⟨pa, 0, ca⟩, ⟨pb, 0, cb⟩, rfl, ((hK.get m0)), ((hK.get m1)).ofP, ((hK.get m2))⟩), hK.old⟩))
      · --
       have q_b2 : ((i : Int)) < (((ofM s : Nat) : Int)) := of_decide_eq_true hb2.out
       have an79 : (fun w1 => OwV refK 41 w.heap.size w1 (.slice p (atL s.c 0 (ofN s)).length c) (atL s.c 0 (ofN s))) W77 := hK.get m0
       replace an79 : OwV refK 41 w.heap.size W77 (.slice p (atL s.c 0 (ofN s)).length c) (atL s.c 0 (ofN s)) := an79
       have an80 : (fun w1 => OwV (rpK<|pb) 33 w.heap.size w1 (.slice pa (rowsL s i).length ca) (rowsL s i)) W77 := hK.get m1
       replace an80 : OwV (rpK<|pb) 33 w.heap.size W77 (.slice pa (rowsL s i).length ca) (rowsL s i) := an80
       have an81 : (fun w1 => OwV refK 41 w.heap.size w1 (.slice pb (atL s.b 0 i).length cb) (atL s.b 0 i)) W77 := hK.get m2
       replace an81 : OwV refK 41 w.heap.size W77 (.slice pb (atL s.b 0 i).length cb) (atL s.b 0 i) := an81
       replace hK := hK.add (F := GB W77 none) (fun w' hb => (GB.start W77 none).below hb)
       replace hK := hK.subl (sK (sC (sC (sC (sK (sK (sK sZ)))))))
       go_upto_region 12 with (fail)
       refine wp_region_tx w hK ?_
       clear hK
       refine tF ?_
       refine txEnd (fun W82 hK => ?_)
       go_wp2_with fail
       go_loopw [8, 9] (fun s8 s9 wl => ∃ (j : Nat) (pr : Option Addr) (cr : Nat), s8 = .slice pr (atL s.a (i * ofN s) j).length cr ∧ s9 = .int .i64 (j : Int) ∧ (j ≤ ofN s) ∧ RowKit.Hid (atL s.a (i * ofN s) j = [] → pr = none) ∧ (ob pr ≠ some R4) ∧ (ob pr ≠ some R2) ∧ (ob pr ≠ some R1) ∧ RowKit.Hid (Lies W77 none pr) ∧ KS w [fun w1 => OwV refK 41 w.heap.size w1 (.slice pr (atL s.a (i * ofN s) j).length cr) (atL s.a (i * ofN s) j), Has w.heap.size R4 (.cells #[.slice p (atL s.c 0 (ofN s)).length c, .slice pa (rowsL s i).length ca, .slice pb (atL s.b 0 i).length cb] 36), Has w.heap.size R2 (.cells #[.slice none 0 0, .slice none 0 0, .slice none 0 0] 36), Has w.heap.size R1 (.cells #[.slice p_h0 s.c.length c_h0, .slice q_h0 s.a.length d_h0, .slice r_h0 s.b.length e_h0] 24), GB W77 none] wl) (fun s8 s9 _ => ofN s - (intOf s9).toNat)
       case atStart => exact ⟨0, none, 0, rfl, rfl, (by omega), (hid (fun _ => rfl)), (fun e => by cases e), (fun e => by cases e), (fun e => by cases e), (hid (.inr (fun g e => (apNone e).elim))), ⟨hK.old, (al1 (fun w' _ => OwV.nil) (al1 (hK.all _ m1) (al1 (hK.all _ m2) (al1 (hK.all _ m3) (al1 (hK.all _ m0) aN)))))⟩⟩
       case round =>
        clear hK
        obtain ⟨j, pr, cr, rfl, rfl, hj, her, hb_pr_R4, hb_pr_R2, hb_pr_R1, hl_pr_W77, hK⟩ := hrel
        generalize wr = W83 at hK ⊢
        go_upto_region 14 with (fail)
        refine wp_region_tx w hK ?_
        clear hK
        iterate 2 (refine tF ?_)
        refine tB (decide (((j : Int)) < (((ofN s : Nat) : Int)))) (fun b3 hb3 => ?_)
        refine txEnd (fun W84 hK => ?_)
        cases b3
        · --
         have q_b3 : (((ofN s : Nat) : Int)) ≤ ((j : Int)) := Int.not_lt.1 (of_decide_eq_false hb3.out)
         obtain rfl : j = ofN s := by omega
         have n85 := hid (Lies.apart hl_pr_W77.out (fun g e => ((an79).block e).2))
         have n86 := hid (Lies.apart hl_pr_W77.out (fun g e => ((an80).block e).2))
         have n87 := hid (Lies.apart hl_pr_W77.out (fun g e => ((an81).block e).2))
         replace hK := hK.add (F := fun w1 => OwV refK 41 w.heap.size w1 (.slice p (atL s.c 0 (ofN s)).length c) (atL s.c 0 (ofN s))) (fun w' hb => (an79.below (GB.to (hK.get m4))).below hb)
         replace hK := hK.add (F := fun w1 => OwV (rpK<|pb) 33 w.heap.size w1 (.slice pa (rowsL s i).length ca) (rowsL s i)) (fun w' hb => (an80.below (GB.to (hK.get m5))).below hb)
         replace hK := hK.add (F := fun w1 => OwV refK 41 w.heap.size w1 (.slice pb (atL s.b 0 i).length cb) (atL s.b 0 i)) (fun w' hb => (an81.below (GB.to (hK.get m6))).below hb)
         replace hK := hK.subl (sK (sK (sK (sK (sK (sK (sK (sC sZ))))))))
         go_upto_region 17 with (fail)
         refine wp_region_tx w hK ?_
         clear hK
         refine tF ?_
         refine tL m4 ?_
         refine tF ?_
         apply txA2 (.cells #[.slice pr (atL s.a (i * ofN s) (ofN s)).length cr] 33) (wants0 rfl)
         · intro w' hK; go_simp; rfl
         intro R88 q_R88
         have o_R4_R88 : R4 < R88 := q_R88.box m4
         have o_R2_R88 : R2 < R88 := q_R88.box m5
         have o_R1_R88 : R1 < R88 := q_R88.box m6
         have n89 : ob pb ≠ some R88 := q_R88.row m0
         have n90 : ob pa ≠ some R88 := q_R88.row m1
         have n91 : ob p ≠ some R88 := q_R88.row m2
         have n92 : ob pr ≠ some R88 := q_R88.row m3
         clear q_R88
         simp only [mkOf, Act.put, pA, pB, pC]
         refine txApp (K := (rpK<|pb)) (t := 33) (xs := rowsL s i) (ys := [atL s.a (i * ofN s) (ofN s)]) (.tmp 58) (.tmp 60) (wants0 rfl) (by rfl) Tryz.underlying34 Tryz.underlying34 infoSR rfl (by rfl) (by rfl) (by rw [rowsL_len]; simp [maxLen]; omega) (by rw [rowsL_len]; simp; omega) (fun r => [Has w.heap.size R88 (.cells #[.slice pr (atL s.a (i * ofN s) (ofN s)).length cr] 33), fun w1 => OwV refK 41 w.heap.size w1 (.slice pb (atL s.b 0 i).length cb) (atL s.b 0 i), fun w1 => OwV refK 41 w.heap.size w1 (.slice p (atL s.c 0 (ofN s)).length c) (atL s.c 0 (ofN s)), fun w1 => OwV refK 41 w.heap.size w1 (.slice pr (atL s.a (i * ofN s) (ofN s)).length cr) (atL s.a (i * ofN s) (ofN s)), Has w.heap.size R4 (.cells #[.slice p (atL s.c 0 (ofN s)).length c, .slice pa (rowsL s i).length ca, .slice pb (atL s.b 0 i).length cb] 36), Has w.heap.size R2 (.cells #[.slice none 0 0, .slice none 0 0, .slice none 0 0] 36), Has w.heap.size R1 (.cells #[.slice p_h0 s.c.length c_h0, .slice q_h0 s.a.length d_h0, .slice r_h0 s.b.length e_h0] 24), fun _ => ob r ≠ some R88, fun _ => ∀ g, ob r = some g → ob pb ≠ some g, fun _ => ∀ g, ob r = some g → ob p ≠ some g, fun _ => ∀ g, ob r = some g → ob pr ≠ some g, fun _ => ob r ≠ some R4, fun _ => ob r ≠ some R2, fun _ => ob r ≠ some R1]) (fun w' hK => ⟨(hK.get m2), (fun g e => .inr ((((hK.get m2).hd' hea.out slP_hd) g e).no rfl)), (SlV.one (hK.get m0) (((hK.get m4)).toP n87.out) (Nat.le_refl 1) (by decide))⟩) (fun w' r hK hr => (al1 (gwH (hK.get m0) n90) (al1 (gwO (hK.get m1) hr_pa_pb.out (fun g e => .inr ((((hK.get m2).hd' hea.out slP_hd) g e).no rfl))) (al1 (gwO (hK.get m3) hq_pa_0.out (fun g e => .inr ((((hK.get m2).hd' hea.out slP_hd) g e).no rfl))) (al1 (gwO (hK.get m4) (fun g e1 e2 => n86.out g e2 e1) (fun g e => .inr ((((hK.get m2).hd' hea.out slP_hd) g e).no rfl))) (al1 (gwH (hK.get m5) hb_pa_R4) (al1 (gwH (hK.get m6) hb_pa_R2) (al1 (gwH (hK.get m7) hb_pa_R1) (al1 (gwC (apb hr n90 ((hK.get m0)).ltS)) (al1 (gwC (apr hr hr_pa_pb.out (fun g e => (((hK.get m1)).block e).2))) (al1 (gwC (apr hr hq_pa_0.out (fun g e => (((hK.get m3)).block e).2))) (al1 (gwC (apr hr (fun g e1 e2 => n86.out g e2 e1) (fun g e => (((hK.get m4)).block e).2))) (al1 (gwC (apb hr hb_pa_R4 ((hK.get m5)).ltS)) (al1 (gwC (apb hr hb_pa_R2 ((hK.get m6)).ltS)) (al1 (gwC (apb hr hb_pa_R1 ((hK.get m7)).ltS)) aN))))))))))))))) ?_
         intro sv93
         rw [(show rowsL s i ++ [atL s.a (i * ofN s) (ofN s)] = rowsL s (i + 1) from rowsL_snoc s i)]
         simp only [Act.put, pA, pB, pC]
         refine Tx.know (Pr := ob sv93.p ≠ some R88) (fun w' hK => hK.get m8) (fun n94 => ?_)
         refine Tx.know (Pr := ∀ g, ob sv93.p = some g → ob pb ≠ some g) (fun w' hK => hK.get m9) (fun n95 => ?_)
         refine Tx.know (Pr := ∀ g, ob sv93.p = some g → ob p ≠ some g) (fun w' hK => hK.get m10) (fun n96 => ?_)
         refine Tx.know (Pr := ∀ g, ob sv93.p = some g → ob pr ≠ some g) (fun w' hK => hK.get m11) (fun n97 => ?_)
         refine Tx.know (Pr := ob sv93.p ≠ some R4) (fun w' hK => hK.get m12) (fun n98 => ?_)
         refine Tx.know (Pr := ob sv93.p ≠ some R2) (fun w' hK => hK.get m13) (fun n99 => ?_)
         refine Tx.know (Pr := ob sv93.p ≠ some R1) (fun w' hK => hK.get m14) (fun n100 => ?_)
         refine tF ?_
         refine tS m5 1 [.slice sv93.p (rowsL s (i + 1)).length sv93.c] (fun w' hK _ ni => kK (spO n98 (.inr (ni.no rfl))) (kG o_R4_R88 (kK (spO hb_pb_R4 (.inr (ni.no rfl))) (kK (spO hb_p_R4 (.inr (ni.no rfl))) (kK (spO hb_pr_R4 (.inr (ni.no rfl))) (kP [.slice p (atL s.c 0 (ofN s)).length c, .slice sv93.p (rowsL s (i + 1)).length sv93.c, .slice pb (atL s.b 0 i).length cb] (kL o_R2_R4 (kL o_R1_R4 (kC (kC (kC (kC (kC (kC (kC kZ))))))))))))))) ?_
         refine txEnd (fun W101 hK => ?_)
         go_upto_region 18 with (fail)
         have v_W101 := hK.old.size
         have b102 : ∀ g, ob sv93.p = some g → g < W101.heap.size := fun g e => ((hK.get m0).block e).2
         have b103 : ∀ g, ob pb = some g → g < W101.heap.size := fun g e => ((hK.get m2).block e).2
         have b104 : ∀ g, ob p = some g → g < W101.heap.size := fun g e => ((hK.get m3).block e).2
         have b105 : ∀ g, ob pr = some g → g < W101.heap.size := fun g e => ((hK.get m4).block e).2
         have z_R4 : R4 < W101.heap.size := (hK.get m5).ltS
         have z_R2 : R2 < W101.heap.size := (hK.get m6).ltS
         have z_R1 : R1 < W101.heap.size := (hK.get m7).ltS
         have z_R88 : R88 < W101.heap.size := (hK.get m1).ltS
         have hK0 := hK.subl (sC (sK (sC (sC (sC (sC (sK (sK (sC (sC (sC (sC (sC (sC (sC sZ)))))))))))))))
         replace hK0 := hK0.add (F := fun w1 => W101.heap.size ≤ w1.heap.size) (fun _ hb => hb.size)
         refine wp_region_floatB (w) (W101.heap.size) _ _ [0, 1, 0, 0, 0, 2, 3, 5, 0, 4] (by kernel_rfl) (by kernel_rfl) (by kernel_rfl) (by kernel_rfl) (fun _ h0 => h0.get m0) (KS.drew hK0) (KS.drew hK) ?_
         clear hK hK0
         refine lF ?_
         refine lR m5 ?_
         refine lF ?_
         refine lL m3 ?_
         refine lF ?_
         refine lER (fun w' h0 hK => rat_any (.slice r_h0 s.b.length e_h0) s.b i w' (h0_3.below hK.old) hs.b) (fun sv106 => ?_)
         refine lA (.cells #[.bool (isN (atI s.b i)), .slice sv106.a.p (digs B6 (numQ (atI s.b i))).length sv106.a.c, .slice sv106.b.p (digs B6 (den0 (atI s.b i))).length sv106.b.c] 41) (fun R107 => ?_)
         refine lxApp (K := refK) (t := 41) (xs := atL s.b 0 i) (ys := [atI s.b i]) (.tmp 64) (.tmp 69) (wants0 rfl) (by rfl) Tryz.underlying33 Tryz.underlying33 infoR rfl (by rfl) (by rfl) (by rw [atL_len]; simp [maxLen]; omega) (by rw [atL_len]; simp; omega) (fun r => [fun w => RefR w (.agg #[.bool (isN (atI s.b i)), .slice sv106.a.p (digs B6 (numQ (atI s.b i))).length sv106.a.c, .slice sv106.b.p (digs B6 (den0 (atI s.b i))).length sv106.b.c]) (atI s.b i), fun w => RefV w (.slice sv106.a.p (digs B6 (numQ (atI s.b i))).length sv106.a.c) (numQ (atI s.b i)), fun w => RefV w (.slice sv106.b.p (digs B6 (den0 (atI s.b i))).length sv106.b.c) (den0 (atI s.b i)), fun w1 => OwV (rpK<|r) 33 w.heap.size w1 (.slice sv93.p (rowsL s (i + 1)).length sv93.c) (rowsL s (i + 1)), Has w.heap.size R88 (.cells #[.slice pr (atL s.a (i * ofN s) (ofN s)).length cr] 33), fun w1 => OwV refK 41 w.heap.size w1 (.slice p (atL s.c 0 (ofN s)).length c) (atL s.c 0 (ofN s)), fun w1 => OwV refK 41 w.heap.size w1 (.slice pr (atL s.a (i * ofN s) (ofN s)).length cr) (atL s.a (i * ofN s) (ofN s)), Has w.heap.size R4 (.cells #[.slice p (atL s.c 0 (ofN s)).length c, .slice sv93.p (rowsL s (i + 1)).length sv93.c, .slice pb (atL s.b 0 i).length cb] 36), Has w.heap.size R2 (.cells #[.slice none 0 0, .slice none 0 0, .slice none 0 0] 36), Has w.heap.size R1 (.cells #[.slice p_h0 s.c.length c_h0, .slice q_h0 s.a.length d_h0, .slice r_h0 s.b.length e_h0] 24), fun _ => ob sv93.p ≠ some R88, fun _ => ∀ g, ob sv93.p = some g → ob pb ≠ some g, fun _ => ∀ g, ob sv93.p = some g → ob p ≠ some g, fun _ => ∀ g, ob sv93.p = some g → ob pr ≠ some g, fun _ => ob sv93.p ≠ some R4, fun _ => ob sv93.p ≠ some R2, fun _ => ob sv93.p ≠ some R1, fun _ => ∀ g, ob r = some g → ob sv93.p ≠ some g, fun _ => ob r ≠ some R88, fun _ => ∀ g, ob r = some g → ob p ≠ some g, fun _ => ∀ g, ob r = some g → ob pr ≠ some g, fun _ => ob r ≠ some R4, fun _ => ob r ≠ some R2, fun _ => ob r ≠ some R1]) b103 (fun w' h0 hK => ⟨(hK.get m6), (fun g e => .inr ((((hK.get m6).hd' heb.out refK_hd) g e).no rfl)), (SlV.one (hK.get m0) ⟨_, _, _, rfl, (hK.get m1)⟩ (Nat.le_refl 1) (by decide))⟩) (fun w' h0 hK => (al1 (gwL (h0.get m0)) (al1 (gwH (h0.get m1) n89) (al1 (gwH (h0.get m2) hb_pb_R2) (al1 (gwH (h0.get m3) hb_pb_R1) aN))))) (fun w' r h0 hK hr => (al1 (gwP (S := [1]) (fun w2 h2 => ((hK.get m1)).below h2) (fun _ h => refr_spare (hK.get m1) h) (fun g e => (((hK.get m6).hd' heb.out refK_hd) g e).no rfl)) (al1 (gwP (S := [1]) (fun w2 h2 => ((hK.get m2)).below h2) (fun _ h => ref_spare (hK.get m2) h) (fun g e => (((hK.get m6).hd' heb.out refK_hd) g e).no rfl)) (al1 (gwP (S := [1]) (fun w2 h2 => ((hK.get m3)).below h2) (fun _ h => ref_spare (hK.get m3) h) (fun g e => (((hK.get m6).hd' heb.out refK_hd) g e).no rfl)) (al1 (gwX (hK.get m4) (fun g e1 e2 => n95 g e2 e1) hr (fun g e => (((hK.get m6).hd' heb.out refK_hd) g e).no rfl)) (al1 (gwH (hK.get m5) n89) (al1 (gwO (hK.get m7) hq_pb_0.out (fun g e => .inr ((((hK.get m6).hd' heb.out refK_hd) g e).no rfl))) (al1 (gwO (hK.get m8) (fun g e1 e2 => n87.out g e2 e1) (fun g e => .inr ((((hK.get m6).hd' heb.out refK_hd) g e).no rfl))) (al1 (gwH (hK.get m9) hb_pb_R4) (al1 (gwH (hK.get m10) hb_pb_R2) (al1 (gwH (hK.get m11) hb_pb_R1) (al1 (gwC (hK.get m12)) (al1 (gwC (hK.get m13)) (al1 (gwC (hK.get m14)) (al1 (gwC (hK.get m15)) (al1 (gwC (hK.get m16)) (al1 (gwC (hK.get m17)) (al1 (gwC (hK.get m18)) (al1 (gwC (apr hr (fun g e1 e2 => n95 g e2 e1) (fun g e => (((hK.get m4)).block e).2))) (al1 (gwC (apb hr n89 ((hK.get m5)).ltS)) (al1 (gwC (apr hr hq_pb_0.out (fun g e => (((hK.get m7)).block e).2))) (al1 (gwC (apr hr (fun g e1 e2 => n87.out g e2 e1) (fun g e => (((hK.get m8)).block e).2))) (al1 (gwC (apb hr hb_pb_R4 ((hK.get m9)).ltS)) (al1 (gwC (apb hr hb_pb_R2 ((hK.get m10)).ltS)) (al1 (gwC (apb hr hb_pb_R1 ((hK.get m11)).ltS)) aN))))))))))))))))))))))))) ?_
         intro sv108
         rw [(show atL s.b 0 i ++ [atI s.b i] = atL s.b 0 (i + 1) from by rw [← atL_snoc, Nat.zero_add])]
         simp only [Act.put, pA, pB, pC]
         refine lF ?_
         refine lS m8 2 [.slice sv108.p (atL s.b 0 (i + 1)).length sv108.c] (fun w' h0 hK _ ni => kK (spB) (kG o_R4_R88 (kL o_R2_R4 (kL o_R1_R4 kN)))) (fun w' h0 hK _ ni => kK (spO ((hK.get m22)) (.inr (ni.no rfl))) (kS ni (kR ni (kR ni (kK (spO n98 (.inr (ni.no rfl))) (kG o_R4_R88 (kK (spO hb_p_R4 (.inr (ni.no rfl))) (kK (spO hb_pr_R4 (.inr (ni.no rfl))) (kP [.slice p (atL s.c 0 (ofN s)).length c, .slice sv93.p (rowsL s (i + 1)).length sv93.c, .slice sv108.p (atL s.b 0 (i + 1)).length sv108.c] (kL o_R2_R4 (kL o_R1_R4 (kC (kC (kC (kC (kC (kC (kC (kC (kC (kC (kC (kC (kC (kC kZ))))))))))))))))))))))))) ?_
         refine lxEnd (fun W116 hK => ?_)
         have n109 := hK.get m18
         have n110 := hK.get m19
         have n111 := hK.get m20
         have n112 := hK.get m21
         have n113 := hK.get m22
         have n114 := hK.get m23
         have n115 := hK.get m24
         (try go_wp2)
         go_roundw
         case rel => exact ⟨i + 1, sv93.p, sv93.c, sv108.p, sv108.c, (by first | rfl | go_num), (by omega), (hid (fun e => absurd (congrArg List.length e) (by rw [rowsL_len]; simp))), (hid (fun e => absurd (congrArg List.length e) (by rw [atL_len]; simp))), n98, n99, n100, (hid n96), (hid (fun g e1 e2 => n109 g e2 e1)), n113, n114, n115, (hid n111), ⟨hK.old, (al1 (hK.all _ m6) (al1 (hK.all _ m4) (al1 (hK.all _ m0) (al1 (hK.all _ m8) (al1 (hK.all _ m9) (al1 (hK.all _ m10) aN))))))⟩⟩
         case measure => simp [intOf]; omega
        · --
         have q_b3 : ((j : Int)) < (((ofN s : Nat) : Int)) := of_decide_eq_true hb3.out
         go_upto_region 16 with (fail)
         refine wp_region_tx w hK ?_
         clear hK
         iterate 2 (refine tF ?_)
         refine tL m3 ?_
         iterate 2 (refine tF ?_)
         apply txF (v := .int .i64 ((i * ofN s : Nat) : Int)) (wants0 rfl); (· intro w' hK; have hin : i * ofN s ≤ 20 := Nat.le_trans (Nat.mul_le_mul (show i ≤ 5 from (by omega)) hn4.2) (by decide); go_simp; (try go_bits); rw [← Int.natCast_mul]; (try go_bits); exact ⟨rfl, rfl⟩); simp only [Act.put, pA, pB, pC]
         refine tF ?_
         apply txF (v := .int .i64 ((i * ofN s + j : Nat) : Int)) (wants0 rfl); (· intro w' hK; have hin : i * ofN s ≤ 20 := Nat.le_trans (Nat.mul_le_mul (show i ≤ 5 from (by omega)) hn4.2) (by decide); go_simp; (try go_bits); rw [← Int.natCast_mul]; (try go_bits); exact ⟨congrArg _ (by omega), rfl⟩); simp only [Act.put, pA, pB, pC]
         refine tER (fun w' hK => rat_any (.slice q_h0 s.a.length d_h0) s.a ((i * ofN s + j : Nat)) w' (h0_2.below hK.old) hs.a) (fun sv117 => ?_)
         apply txA2 (.cells #[.bool (isN (atI s.a ((i * ofN s + j : Nat)))), .slice sv117.a.p (digs B6 (numQ (atI s.a ((i * ofN s + j : Nat))))).length sv117.a.c, .slice sv117.b.p (digs B6 (den0 (atI s.a ((i * ofN s + j : Nat))))).length sv117.b.c] 41) (wants0 rfl)
         · intro w' hK; go_simp; rfl
         intro R118 q_R118
         have o_R4_R118 : R4 < R118 := q_R118.box m4
         have o_R2_R118 : R2 < R118 := q_R118.box m5
         have o_R1_R118 : R1 < R118 := q_R118.box m6
         have n119 : ob pr ≠ some R118 := q_R118.row m3
         have nb_R118_W77 : W77.heap.size ≤ R118 := q_R118.gb m7
         clear q_R118
         simp only [mkOf, Act.put, pA, pB, pC]
         refine txApp (K := refK) (t := 41) (xs := atL s.a (i * ofN s) j) (ys := [atI s.a ((i * ofN s + j : Nat))]) (.tmp 46) (.tmp 55) (wants0 rfl) (by rfl) Tryz.underlying33 Tryz.underlying33 infoR rfl (by rfl) (by rfl) (by rw [atL_len]; simp [maxLen]; omega) (by rw [atL_len]; simp; omega) (fun r => [Has w.heap.size R118 (.cells #[.bool (isN (atI s.a ((i * ofN s + j : Nat)))), .slice sv117.a.p (digs B6 (numQ (atI s.a ((i * ofN s + j : Nat))))).length sv117.a.c, .slice sv117.b.p (digs B6 (den0 (atI s.a ((i * ofN s + j : Nat))))).length sv117.b.c] 41), fun w => RefR w (.agg #[.bool (isN (atI s.a ((i * ofN s + j : Nat)))), .slice sv117.a.p (digs B6 (numQ (atI s.a ((i * ofN s + j : Nat))))).length sv117.a.c, .slice sv117.b.p (digs B6 (den0 (atI s.a ((i * ofN s + j : Nat))))).length sv117.b.c]) (atI s.a ((i * ofN s + j : Nat))), fun w => RefV w (.slice sv117.a.p (digs B6 (numQ (atI s.a ((i * ofN s + j : Nat))))).length sv117.a.c) (numQ (atI s.a ((i * ofN s + j : Nat)))), fun w => RefV w (.slice sv117.b.p (digs B6 (den0 (atI s.a ((i * ofN s + j : Nat))))).length sv117.b.c) (den0 (atI s.a ((i * ofN s + j : Nat)))), Has w.heap.size R4 (.cells #[.slice p (atL s.c 0 (ofN s)).length c, .slice pa (rowsL s i).length ca, .slice pb (atL s.b 0 i).length cb] 36), Has w.heap.size R2 (.cells #[.slice none 0 0, .slice none 0 0, .slice none 0 0] 36), Has w.heap.size R1 (.cells #[.slice p_h0 s.c.length c_h0, .slice q_h0 s.a.length d_h0, .slice r_h0 s.b.length e_h0] 24), GB W77 none, fun _ => ob r ≠ some R118, fun _ => ob r ≠ some R4, fun _ => ob r ≠ some R2, fun _ => ob r ≠ some R1, fun _ => Lies W77 none r]) (fun w' hK => ⟨(hK.get m4), (fun g e => .inr ((((hK.get m4).hd' her.out refK_hd) g e).no rfl)), (SlV.one (hK.get m0) ⟨_, _, _, rfl, (hK.get m1)⟩ (Nat.le_refl 1) (by decide))⟩) (fun w' r hK hr => (al1 (gwH (hK.get m0) n119) (al1 (gwP (S := [1]) (fun w2 h2 => ((hK.get m1)).below h2) (fun _ h => refr_spare (hK.get m1) h) (fun g e => (((hK.get m4).hd' her.out refK_hd) g e).no rfl)) (al1 (gwP (S := [1]) (fun w2 h2 => ((hK.get m2)).below h2) (fun _ h => ref_spare (hK.get m2) h) (fun g e => (((hK.get m4).hd' her.out refK_hd) g e).no rfl)) (al1 (gwP (S := [1]) (fun w2 h2 => ((hK.get m3)).below h2) (fun _ h => ref_spare (hK.get m3) h) (fun g e => (((hK.get m4).hd' her.out refK_hd) g e).no rfl)) (al1 (gwH (hK.get m5) hb_pr_R4) (al1 (gwH (hK.get m6) hb_pr_R2) (al1 (gwH (hK.get m7) hb_pr_R1) (al1 (gwG (hK.get m8) hl_pr_W77.out) (al1 (gwC (apb hr n119 ((hK.get m0)).ltS)) (al1 (gwC (apb hr hb_pr_R4 ((hK.get m5)).ltS)) (al1 (gwC (apb hr hb_pr_R2 ((hK.get m6)).ltS)) (al1 (gwC (apb hr hb_pr_R1 ((hK.get m7)).ltS)) (al1 (gwC (Lies.app hr hl_pr_W77.out ((hK.get m8)).sz)) aN)))))))))))))) ?_
         intro sv120
         rw [atL_snoc]
         simp only [Act.put, pA, pB, pC]
         refine Tx.know (Pr := ob sv120.p ≠ some R118) (fun w' hK => hK.get m9) (fun n121 => ?_)
         refine Tx.know (Pr := ob sv120.p ≠ some R4) (fun w' hK => hK.get m10) (fun n122 => ?_)
         refine Tx.know (Pr := ob sv120.p ≠ some R2) (fun w' hK => hK.get m11) (fun n123 => ?_)
         refine Tx.know (Pr := ob sv120.p ≠ some R1) (fun w' hK => hK.get m12) (fun n124 => ?_)
         refine Tx.know (Pr := Lies W77 none sv120.p) (fun w' hK => hK.get m13) (fun n125 => ?_)
         refine tF ?_
         refine txEnd (fun W126 hK => ?_)
         (try go_wp2)
         go_roundw
         case rel => exact ⟨j + 1, sv120.p, sv120.c, (by first | rfl | go_num), (by first | rfl | go_num), (by omega), (hid (fun e => absurd (congrArg List.length e) (by rw [atL_len]; simp))), n122, n123, n124, (hid n125), ⟨hK.old, (al1 (hK.all _ m0) (al1 (hK.all _ m5) (al1 (hK.all _ m6) (al1 (hK.all _ m7) (al1 (hK.all _ m8) aN)))))⟩⟩
         case measure => simp [intOf]; omega
    · --
     have q_b1 : ((k : Int)) < (((ofN s : Nat) : Int)) := of_decide_eq_true hb1.out
     go_upto_region 8 with (fail)
     have v_W74 := hK.old.size
     have b127 : ∀ g, ob p = some g → g < W74.heap.size := fun g e => ((hK.get m0).block e).2
     have z_R4 : R4 < W74.heap.size := (hK.get m1).ltS
     have z_R2 : R2 < W74.heap.size := (hK.get m2).ltS
     have z_R1 : R1 < W74.heap.size := (hK.get m3).ltS
     have hK0 := hK.subl (sC (sC (sK (sK sZ))))
     replace hK0 := hK0.add (F := fun w1 => W74.heap.size ≤ w1.heap.size) (fun _ hb => hb.size)
     refine wp_region_floatB (w) (W74.heap.size) _ _ [0, 1, 0, 0, 0, 2, 3, 5, 0, 4] (by kernel_rfl) (by kernel_rfl) (by kernel_rfl) (by kernel_rfl) (fun _ h0 => h0.get m0) (KS.drew hK0) (KS.drew hK) ?_
     clear hK hK0
     refine lF ?_
     refine lR m1 ?_
     refine lF ?_
     refine lL m2 ?_
     refine lF ?_
     refine lER (fun w' h0 hK => rat_any (.slice p_h0 s.c.length c_h0) s.c k w' (h0_1.below hK.old) hs.c) (fun sv128 => ?_)
     refine lA (.cells #[.bool (isN (atI s.c k)), .slice sv128.a.p (digs B6 (numQ (atI s.c k))).length sv128.a.c, .slice sv128.b.p (digs B6 (den0 (atI s.c k))).length sv128.b.c] 41) (fun R129 => ?_)
     refine lxApp (K := refK) (t := 41) (xs := atL s.c 0 k) (ys := [atI s.c k]) (.tmp 28) (.tmp 33) (wants0 rfl) (by rfl) Tryz.underlying33 Tryz.underlying33 infoR rfl (by rfl) (by rfl) (by rw [atL_len]; simp [maxLen]; omega) (by rw [atL_len]; simp; omega) (fun r => [fun w => RefR w (.agg #[.bool (isN (atI s.c k)), .slice sv128.a.p (digs B6 (numQ (atI s.c k))).length sv128.a.c, .slice sv128.b.p (digs B6 (den0 (atI s.c k))).length sv128.b.c]) (atI s.c k), fun w => RefV w (.slice sv128.a.p (digs B6 (numQ (atI s.c k))).length sv128.a.c) (numQ (atI s.c k)), fun w => RefV w (.slice sv128.b.p (digs B6 (den0 (atI s.c k))).length sv128.b.c) (den0 (atI s.c k)), Has w.heap.size R4 (.cells #[.slice p (atL s.c 0 k).length c, .slice none 0 0, .slice none 0 0] 36), Has w.heap.size R2 (.cells #[.slice none 0 0, .slice none 0 0, .slice none 0 0] 36), Has w.heap.size R1 (.cells #[.slice p_h0 s.c.length c_h0, .slice q_h0 s.a.length d_h0, .slice r_h0 s.b.length e_h0] 24), fun _ => ob r ≠ some R4, fun _ => ob r ≠ some R2, fun _ => ob r ≠ some R1]) b127 (fun w' h0 hK => ⟨(hK.get m4), (fun g e => .inr ((((hK.get m4).hd' he.out refK_hd) g e).no rfl)), (SlV.one (hK.get m0) ⟨_, _, _, rfl, (hK.get m1)⟩ (Nat.le_refl 1) (by decide))⟩) (fun w' h0 hK => (al1 (gwL (h0.get m0)) (al1 (gwH (h0.get m1) hb_p_R2) (al1 (gwH (h0.get m2) hb_p_R1) aN)))) (fun w' r h0 hK hr => (al1 (gwP (S := [1]) (fun w2 h2 => ((hK.get m1)).below h2) (fun _ h => refr_spare (hK.get m1) h) (fun g e => (((hK.get m4).hd' he.out refK_hd) g e).no rfl)) (al1 (gwP (S := [1]) (fun w2 h2 => ((hK.get m2)).below h2) (fun _ h => ref_spare (hK.get m2) h) (fun g e => (((hK.get m4).hd' he.out refK_hd) g e).no rfl)) (al1 (gwP (S := [1]) (fun w2 h2 => ((hK.get m3)).below h2) (fun _ h => ref_spare (hK.get m3) h) (fun g e => (((hK.get m4).hd' he.out refK_hd) g e).no rfl)) (al1 (gwH (hK.get m5) hb_p_R4) (al1 (gwH (hK.get m6) hb_p_R2) (al1 (gwH (hK.get m7) hb_p_R1) (al1 (gwC (apb hr hb_p_R4 ((hK.get m5)).ltS)) (al1 (gwC (apb hr hb_p_R2 ((hK.get m6)).ltS)) (al1 (gwC (apb hr hb_p_R1 ((hK.get m7)).ltS)) aN)))))))))) ?_
     intro sv130
     rw [(show atL s.c 0 k ++ [atI s.c k] = atL s.c 0 (k + 1) from by rw [← atL_snoc, Nat.zero_add])]
     simp only [Act.put, pA, pB, pC]
     refine lF ?_
     refine lS m4 0 [.slice sv130.p (atL s.c 0 (k + 1)).length sv130.c] (fun w' h0 hK _ ni => kK (spB) (kL o_R2_R4 (kL o_R1_R4 kN))) (fun w' h0 hK _ ni => kK (spO ((hK.get m7)) (.inr (ni.no rfl))) (kS ni (kR ni (kR ni (kP [.slice sv130.p (atL s.c 0 (k + 1)).length sv130.c, .slice none 0 0, .slice none 0 0] (kL o_R2_R4 (kL o_R1_R4 (kC (kC (kC kZ)))))))))) ?_
     refine lxEnd (fun W134 hK => ?_)
     have n131 := hK.get m7
     have n132 := hK.get m8
     have n133 := hK.get m9
     (try go_wp2)
     go_roundw
     case rel => exact ⟨k + 1, sv130.p, sv130.c, (by first | rfl | go_num), (by omega), (hid (fun e => absurd (congrArg List.length e) (by rw [atL_len]; simp))), n133, n132, n131, ⟨hK.old, (al1 (hK.all _ m0) (al1 (hK.all _ m4) (al1 (hK.all _ m5) (al1 (hK.all _ m6) aN))))⟩⟩
     case measure => simp [intOf]; omega
end Go.Proofs.YtcdbgincfdejkaaGreatDoor
