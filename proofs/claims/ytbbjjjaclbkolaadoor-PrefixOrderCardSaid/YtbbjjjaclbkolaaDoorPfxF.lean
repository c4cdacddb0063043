/- Parse of the reference walked. -/
import Derived.Test.YtbbjjjaclbkolaaDoorPfxP
namespace Go.Proofs.YtbbjjjaclbkolaaDoor
open Go.RowKit
open Go.Lib (decDigits)

theorem txl_nil (x : List UInt8) : x.isEmpty = decide (x = []) := by cases x <;> rfl
theorem idx_b {s : List UInt8} {i : Nat} {c : UInt8} (h : s[i]? = some c) (hi : i < (⟨s.toArray⟩ : ByteArray).size) : (⟨s.toArray⟩ : ByteArray)[i] = c := by
  obtain ⟨h1, rfl⟩ := List.getElem?_eq_some_iff.1 h; rfl
theorem stepd {c : UInt8} {k : Nat} {f : Nat → Int} (h0 : 48 ≤ (c.toNat : Int)) (h1 : (c.toNat : Int) ≤ 57) : stR (k, f) c = (k, upd f k (dgt (f k) c)) := if_pos (by unfold isDig; simp; omega)
theorem isDig_no {c : UInt8} (h : ¬ (48 ≤ (c.toNat : Int) ∧ (c.toNat : Int) ≤ 57)) : ¬ isDig c = true := by unfold isDig; simp; omega
theorem steps {c : UInt8} {k : Nat} {f : Nat → Int} (h : ¬ (48 ≤ (c.toNat : Int) ∧ (c.toNat : Int) ≤ 57)) (hk : k < 4) : stR (k, f) c = (k + 1, f) := (if_neg (isDig_no h)).trans (if_pos hk)
theorem stept {c : UInt8} {k : Nat} {f : Nat → Int} (h : ¬ (48 ≤ (c.toNat : Int) ∧ (c.toNat : Int) ≤ 57)) (hk : ¬ k < 4) : stR (k, f) c = (k, f) := (if_neg (isDig_no h)).trans (if_neg hk)

set_option maxRecDepth 100000 in
set_option maxHeartbeats 1000000 in
theorem rparse_any  (s : List UInt8) (w : World)  (hs : s.length ≤ 1000) :
    Calls Tryd.prog 16 #[.string ⟨s.toArray⟩] w fun e w' => e = .returned (.tuple #[.agg #[.int .u32 (prA s : Int), .int .i64 (prN s)], .int .i64 (prE s)]) ∧ Below w.heap.size w w' := by
  have hK : KS w [] w := (KS.start w)
  refine Calls.hide (fun Q0 hQ0 => ?_)
  go_enter Tryd.func16, Tryd.ntmps16
  go_upto_region 0 with (fail)
  refine wp_region_tx w hK ?_
  clear hK
  apply txA (.cells #[.int .u32 0, .int .i64 0] 24) (wants0 rfl)
  · intro w' hK; go_simp; rfl
  intro R1 q_R1
  clear q_R1
  simp only [mkOf, Act.put, pA, pB, pC]
  apply txF (wants0 rfl); (· intro w' hK; go_simp; (try go_bits); exact ⟨rfl, rfl⟩); simp only [Act.put, pA, pB, pC]
  refine txEnd (fun W2 hK => ?_)
  go_upto_region 1 with (fail)
  refine wp_region_tx w hK ?_
  clear hK
  apply txA (.cells #[.int .i64 0, .int .i64 0, .int .i64 0, .int .i64 0, .int .i64 0] 63) (wants0 rfl)
  · intro w' hK; go_simp; rfl
  intro R3 q_R3
  have o_R1_R3 : R1 < R3 := q_R3 _ _ _ m0
  clear q_R3
  simp only [mkOf, Act.put, pA, pB, pC]
  refine txEnd (fun W4 hK => ?_)
  go_wp2_with fail
  go_loopw [5, 6] (fun s5 s6 wl => ∃ (k : Nat) (i : Nat) (f : Nat → Int), s5 = .int .i64 (k : Int) ∧ s6 = .int .i64 (i : Int) ∧ (k ≤ 4) ∧ (i ≤ s.length) ∧ (i ≤ 20) ∧ RowKit.Hid (foldR (s.take i) = (k, f)) ∧ KS w [Has w.heap.size R1 (.cells #[.int .u32 0, .int .i64 0] 24), Has w.heap.size R3 (.cells #[.int .i64 (f 0), .int .i64 (f 1), .int .i64 (f 2), .int .i64 (f 3), .int .i64 (f 4)] 63)] wl) (fun s5 s6 _ => s.length - (intOf s6).toNat)
  case atStart => exact ⟨0, 0, (fun _ => 0), rfl, rfl, (by omega), (by omega), (by omega), (hid rfl), ⟨hK.old, (al1 (hK.all _ m1) (al1 (hK.all _ m0) aN))⟩⟩
  case round =>
   clear hK
   obtain ⟨k, i, f, rfl, rfl, hk, hi, hi2, ho, hK⟩ := hrel
   generalize wr = W5 at hK ⊢
   go_upto_region 4 with (fail)
   refine wp_region_tx w hK ?_
   clear hK
   iterate 3 (apply txF (wants0 rfl); (· intro w' hK; go_simp; (try go_bits); exact ⟨rfl, rfl⟩); simp only [Act.put, pA, pB, pC])
   obtain ⟨b1, hb1⟩ : ∃ b : Bool, RowKit.Hid (decide (((i : Int)) < ((s.length : Int))) = b) := ⟨_, hid rfl⟩
   apply txB b1 (wants0 rfl); (· intro w' hK; go_simp; (try go_bits); exact ⟨by have q := hb1.out; subst q; first | rfl | simp, rfl⟩); simp only [Act.put, pA, pB, pC]
   apply txF (wants0 rfl); (· intro w' hK; go_simp; (try go_bits); exact ⟨rfl, rfl⟩); simp only [Act.put, pA, pB, pC]
   cases b1
   · --
    have q_b1 : ((s.length : Int)) ≤ ((i : Int)) := Int.not_lt.1 (of_decide_eq_false hb1.out)
    iterate 2 (apply txN (j := 4) (d := 13) (b := true) rfl rfl rfl rfl; simp only [Act.put, pA, pB, pC])
    apply txF (wants0 rfl); (· intro w' hK; go_simp; (try go_bits); exact ⟨rfl, rfl⟩); simp only [Act.put, pA, pB, pC]
    refine txEnd (fun W6 hK => ?_)
    have hfin := hid (fin_of ho.out (by omega))
    go_upto_region 10 with (fail)
    refine wp_region_tx w hK ?_
    clear hK
    apply txF (wants0 rfl); (· intro w' hK; go_simp; (try go_bits); exact ⟨rfl, rfl⟩); simp only [Act.put, pA, pB, pC]
    apply txF (wants0 rfl); (· intro w' hK; have k_R3 := (hK.get m1); have c_R3_4 := k_R3.at 4 rfl; go_simp; (try go_bits); exact ⟨rfl, rfl⟩); simp only [Act.put, pA, pB, pC]
    apply txF (wants0 rfl); (· intro w' hK; go_simp; (try go_bits); exact ⟨rfl, rfl⟩); simp only [Act.put, pA, pB, pC]
    apply txA (.cells #[.int .u32 0, .int .i64 0] 24) (wants0 rfl)
    · intro w' hK; go_simp; rfl
    intro R7 q_R7
    have o_R1_R7 : R1 < R7 := q_R7 _ _ _ m0
    have o_R3_R7 : R3 < R7 := q_R7 _ _ _ m1
    clear q_R7
    simp only [mkOf, Act.put, pA, pB, pC]
    apply txU 0 (Has w.heap.size R7 (.cells #[.int .u32 0, .int .i64 (f 4)] 24)) (wants0 rfl)
    · intro l1 hl1 w' hK; have k_R7 := (hK.get m0); have ⟨c_R7_0, c_R7_1⟩ := k_R7.c2; have f_R7 := k_R7.fz; go_simp; obtain rfl := hl1.out; exact ⟨rfl, ks_put (R := R7) hK k_R7.1 0 [.int .u32 0, .int .i64 (f 4)] (al1 (fun _ => has_put k_R7 _ _) (al1 (spL o_R1_R7 (hK.get m1)) (al1 (spL o_R3_R7 (hK.get m2)) aN)))⟩
    simp only [Act.put, pB]
    refine txEnd (fun W8 hK => ?_)
    go_wp2_with fail
    go_loopw [8] (fun s8 wl => ∃ (j : Nat) (acc : Nat), s8 = .int .i64 (j : Int) ∧ (j ≤ 4) ∧ (W32 acc) ∧ RowKit.Hid (Pre s j acc) ∧ KS w [Has w.heap.size R1 (.cells #[.int .u32 0, .int .i64 0] 24), Has w.heap.size R3 (.cells #[.int .i64 (f 0), .int .i64 (f 1), .int .i64 (f 2), .int .i64 (f 3), .int .i64 (f 4)] 63), Has w.heap.size R7 (.cells #[.int .u32 (acc : Int), .int .i64 (f 4)] 24)] wl) (fun s8 _ => 4 - (intOf s8).toNat)
    case atStart => exact ⟨0, 0, rfl, (by omega), W32.zero, (hid (Pre.start s)), ⟨hK.old, (al1 (hK.all _ m1) (al1 (hK.all _ m2) (al1 (hK.all _ m0) aN)))⟩⟩
    case round =>
     clear hK
     obtain ⟨j, acc, rfl, hj, hw, hp, hK⟩ := hrel
     generalize wr = W9 at hK ⊢
     go_upto_region 12 with (fail)
     refine wp_region_tx w hK ?_
     clear hK
     apply txF (wants0 rfl); (· intro w' hK; go_simp; (try go_bits); exact ⟨rfl, rfl⟩); simp only [Act.put, pA, pB, pC]
     obtain ⟨b2, hb2⟩ : ∃ b : Bool, RowKit.Hid (decide (((j : Int)) < 4) = b) := ⟨_, hid rfl⟩
     apply txB b2 (wants0 rfl); (· intro w' hK; go_simp; (try go_bits); exact ⟨by have q := hb2.out; subst q; first | rfl | simp, rfl⟩); simp only [Act.put, pA, pB, pC]
     refine txEnd (fun W10 hK => ?_)
     cases b2
     · --
      have q_b2 : 4 ≤ ((j : Int)) := Int.not_lt.1 (of_decide_eq_false hb2.out)
      go_upto_region 15 with (fail)
      refine wp_region_tx w hK ?_
      clear hK
      apply txF (wants0 rfl); (· intro w' hK; go_simp; (try go_bits); exact ⟨rfl, rfl⟩); simp only [Act.put, pA, pB, pC]
      obtain ⟨b3, hb3⟩ : ∃ b : Bool, RowKit.Hid (decide (s = (([] : List UInt8))) = b) := ⟨_, hid rfl⟩
      apply txB b3 (wants0 rfl); (· intro w' hK; go_simp; (try go_bits); exact ⟨by have q := hb3.out; subst q; first | exact congrArg Value.bool (txt_ne _ _) | exact congrArg Value.bool (txt_eq _ _) | exact congrArg Value.bool (txl_ne _ _) | exact congrArg Value.bool (txl_eq _ _) | exact congrArg Value.bool (txl_nil _), rfl⟩); simp only [Act.put, pA, pB, pC]
      apply txF (wants0 rfl); (· intro w' hK; go_simp; (try go_bits); exact ⟨rfl, rfl⟩); simp only [Act.put, pA, pB, pC]
      cases b3
      · --
       apply txF (wantsg (j := 2) (d := 64) (b := false) rfl rfl rfl rfl); (· intro w' hK; have k_R7 := (hK.get m2); have ⟨c_R7_0, c_R7_1⟩ := k_R7.c2; go_simp; (try go_bits); exact ⟨rfl, rfl⟩); simp only [Act.put, pA, pB, pC]
       apply txH (v := .string ⟨(textP acc ((f 4))).toArray⟩) (wantsg (j := 2) (d := 64) (b := false) rfl rfl rfl rfl)
       · intro v1 hv1 w' hK; go_simp; (try go_bits); refine (rtext_any acc ((f 4)) w' (by first | assumption | omega | exact W32.zero)).mono ?_; rintro e w5 ⟨rfl, hb⟩; obtain rfl := hv1.out; exact ⟨_, rfl, rfl, hb⟩
       simp only [Act.put, pA, pB, pC]
       apply txF (wantsg (j := 2) (d := 64) (b := false) rfl rfl rfl rfl); (· intro w' hK; go_simp; (try go_bits); exact ⟨rfl, rfl⟩); simp only [Act.put, pA, pB, pC]
       obtain ⟨b4, hb4⟩ : ∃ b : Bool, RowKit.Hid ((!decide ((textP acc ((f 4))) = s)) = b) := ⟨_, hid rfl⟩
       apply txB b4 (wantsg (j := 2) (d := 64) (b := false) rfl rfl rfl rfl); (· intro w' hK; go_simp; (try go_bits); exact ⟨by have q := hb4.out; subst q; first | exact congrArg Value.bool (txt_ne _ _) | exact congrArg Value.bool (txt_eq _ _) | exact congrArg Value.bool (txl_ne _ _) | exact congrArg Value.bool (txl_eq _ _) | exact congrArg Value.bool (txl_nil _), rfl⟩); simp only [Act.put, pA, pB, pC]
       apply txF (wants0 rfl); (· intro w' hK; go_simp; (try go_bits); exact ⟨rfl, rfl⟩); simp only [Act.put, pA, pB, pC]
       refine txEnd (fun W11 hK => ?_)
       cases b4
       · --
        go_upto_region 17 with (fail)
        refine wp_region_tx w hK ?_
        clear hK
        apply txF (wants0 rfl); (· intro w' hK; have k_R7 := (hK.get m2); have ⟨c_R7_0, c_R7_1⟩ := k_R7.c2; go_simp; (try go_bits); exact ⟨rfl, rfl⟩); simp only [Act.put, pA, pB, pC]
        apply txU 0 (Has w.heap.size R1 (.cells #[.int .u32 (acc : Int), .int .i64 (f 4)] 24)) (wants0 rfl)
        · intro l1 hl1 w' hK; have k_R1 := (hK.get m0); have ⟨c_R1_0, c_R1_1⟩ := k_R1.c2; have f_R1 := k_R1.fz; go_simp; obtain rfl := hl1.out; exact ⟨rfl, ks_put (R := R1) hK k_R1.1 0 [.int .u32 (acc : Int), .int .i64 (f 4)] (al1 (fun _ => has_put k_R1 _ _) (al1 (spG o_R1_R3 (hK.get m1)) (al1 (spG o_R1_R7 (hK.get m2)) aN)))⟩
        simp only [Act.put, pB]
        apply txF (wants0 rfl); (· intro w' hK; go_simp; (try go_bits); exact ⟨rfl, rfl⟩); simp only [Act.put, pA, pB, pC]
        refine txEnd (fun W12 hK => ?_)
        have k_R1 := (hK.get m0); have ⟨c_R1_0, c_R1_1⟩ := k_R1.c2
        go_wp2
        exact bodyPost_ret (v := .tuple #[.agg #[.int .u32 (acc : Int), .int .i64 (f 4)], .int .i64 0]) (by simp [results, Tryd.results16, go_sem, c_R1_0, c_R1_1]) rfl ((by obtain rfl := hQ0.out; exact ⟨(by have q := yes_text2 hw (by have q := hb3.out; simpa using q) (by have q := hb4.out; simpa using q); rw [q.1, q.2.1, q.2.2]), hK.old⟩))
       · --
        go_upto_region 16 with (fail)
        refine wp_region_tx w hK ?_
        clear hK
        apply txF (wants0 rfl); (· intro w' hK; go_simp; (try go_bits); exact ⟨rfl, rfl⟩); simp only [Act.put, pA, pB, pC]
        apply txU 0 (Has w.heap.size R1 (.cells #[.int .u32 0, .int .i64 0] 24)) (wants0 rfl)
        · intro l1 hl1 w' hK; have k_R1 := (hK.get m0); have ⟨c_R1_0, c_R1_1⟩ := k_R1.c2; have f_R1 := k_R1.fz; go_simp; obtain rfl := hl1.out; exact ⟨rfl, ks_put (R := R1) hK k_R1.1 0 [.int .u32 0, .int .i64 0] (al1 (fun _ => has_put k_R1 _ _) (al1 (spG o_R1_R3 (hK.get m1)) (al1 (spG o_R1_R7 (hK.get m2)) aN)))⟩
        simp only [Act.put, pB]
        apply txF (wants0 rfl); (· intro w' hK; go_simp; (try go_bits); exact ⟨rfl, rfl⟩); simp only [Act.put, pA, pB, pC]
        refine txEnd (fun W13 hK => ?_)
        have k_R1 := (hK.get m0); have ⟨c_R1_0, c_R1_1⟩ := k_R1.c2
        go_wp2
        exact bodyPost_ret (v := .tuple #[.agg #[.int .u32 0, .int .i64 0], .int .i64 3]) (by simp [results, Tryd.results16, go_sem, c_R1_0, c_R1_1]) rfl ((by obtain rfl := hQ0.out; exact ⟨(by have q := no_text2 (s := s) (acc := acc) (f := f) (by have e : j = 4 := (by omega); rw [← e]; exact hp.out) hfin.out (.inr (by have q := hb4.out; simpa using q)); rw [q.1, q.2.1, q.2.2]; rfl), hK.old⟩))
      · --
       iterate 4 (apply txN (j := 2) (d := 64) (b := false) rfl rfl rfl rfl; simp only [Act.put, pA, pB, pC])
       apply txF (wants0 rfl); (· intro w' hK; go_simp; (try go_bits); exact ⟨rfl, rfl⟩); simp only [Act.put, pA, pB, pC]
       refine txEnd (fun W14 hK => ?_)
       go_upto_region 16 with (fail)
       refine wp_region_tx w hK ?_
       clear hK
       apply txF (wants0 rfl); (· intro w' hK; go_simp; (try go_bits); exact ⟨rfl, rfl⟩); simp only [Act.put, pA, pB, pC]
       apply txU 0 (Has w.heap.size R1 (.cells #[.int .u32 0, .int .i64 0] 24)) (wants0 rfl)
       · intro l1 hl1 w' hK; have k_R1 := (hK.get m0); have ⟨c_R1_0, c_R1_1⟩ := k_R1.c2; have f_R1 := k_R1.fz; go_simp; obtain rfl := hl1.out; exact ⟨rfl, ks_put (R := R1) hK k_R1.1 0 [.int .u32 0, .int .i64 0] (al1 (fun _ => has_put k_R1 _ _) (al1 (spG o_R1_R3 (hK.get m1)) (al1 (spG o_R1_R7 (hK.get m2)) aN)))⟩
       simp only [Act.put, pB]
       apply txF (wants0 rfl); (· intro w' hK; go_simp; (try go_bits); exact ⟨rfl, rfl⟩); simp only [Act.put, pA, pB, pC]
       refine txEnd (fun W15 hK => ?_)
       have k_R1 := (hK.get m0); have ⟨c_R1_0, c_R1_1⟩ := k_R1.c2
       go_wp2
       exact bodyPost_ret (v := .tuple #[.agg #[.int .u32 0, .int .i64 0], .int .i64 3]) (by simp [results, Tryd.results16, go_sem, c_R1_0, c_R1_1]) rfl ((by obtain rfl := hQ0.out; exact ⟨(by have q := no_text2 (s := s) (acc := acc) (f := f) (by have e : j = 4 := (by omega); rw [← e]; exact hp.out) hfin.out (.inl (by have q := hb3.out; simpa using q)); rw [q.1, q.2.1, q.2.2]; rfl), hK.old⟩))
     · --
      have q_b2 : ((j : Int)) < 4 := of_decide_eq_true hb2.out
      rcases (show j = 0 ∨ j = 1 ∨ j = 2 ∨ j = 3 from by omega) with rfl | rfl | rfl | rfl
      · --
       go_upto_region 14 with (fail)
       have hK0 := hK.subl (sK (sK (sC sZ)))
       refine wp_region_float0 (w) _ _ [0, 1, 0, 0, 0, 0, 0, 0, 0, 0, 4] (by kernel_rfl) (by kernel_rfl) (by kernel_rfl) (by kernel_rfl) (KS.drew hK0) (KS.drew hK) ?_
       clear hK hK0
       apply lxF0 (wants0 rfl); (· intro w' h0; go_simp; (try go_bits); exact ⟨rfl, rfl⟩); simp only [Act.put, pA, pB, pC]
       apply lxR0 (wants0 rfl); (· intro w' h0 hK; have k_R7 := (hK.get m2); have c_R7_0 := k_R7.at 0 rfl; go_simp; (try go_bits); exact ⟨rfl, rfl⟩); simp only [Act.put, pA, pB, pC]
       apply lxF0 (v := .int .u32 ((acc * 256 % 4294967296 : Nat) : Int)) (wants0 rfl); (· intro w' h0; go_simp; (try go_bits); exact ⟨rfl, rfl⟩); simp only [Act.put, pA, pB, pC]
       iterate 2 (apply lxF0 (wants0 rfl); (· intro w' h0; go_simp; (try go_bits); exact ⟨rfl, rfl⟩); simp only [Act.put, pA, pB, pC])
       apply lxF0 (wants0 rfl); (· intro w' h0; have k_R3 := (h0.get m1); have c_R3_0 := k_R3.at 0 rfl; go_simp; (try go_bits); exact ⟨rfl, rfl⟩); simp only [Act.put, pA, pB, pC]
       apply lxF0 (v := .int .i64 (lowB (f 0) : Int)) (wants0 rfl); (· intro w' h0; go_simp; (try go_bits); exact ⟨congrArg _ ((i64_and255 _).trans (by unfold lowB; omega)), rfl⟩); simp only [Act.put, pA, pB, pC]
       apply lxF0 (v := .int .u32 (lowB (f 0) : Int)) (wants0 rfl); (· intro w' h0; go_simp; (try go_bits); exact ⟨congrArg _ (by have := lowB_lt (f 0); omega), rfl⟩); simp only [Act.put, pA, pB, pC]
       apply lxF0 (v := .int .u32 ((nxtL acc (f 0) : Nat) : Int)) (wants0 rfl); (· intro w' h0; go_simp; (try go_bits); exact ⟨congrArg _ (nxtL_or _ _), rfl⟩); simp only [Act.put, pA, pB, pC]
       apply lxF0 (wants0 rfl); (· intro w' h0; go_simp; (try go_bits); exact ⟨rfl, rfl⟩); simp only [Act.put, pA, pB, pC]
       apply lxU1 2 (Has w.heap.size R7 (.cells #[.int .u32 ((nxtL acc (f 0) : Nat) : Int), .int .i64 (f 4)] 24)) (wants0 rfl)
       · intro g0 l1 hl1 w' h0 hK; have k_R7 := (hK.get m2); have ⟨c_R7_0, c_R7_1⟩ := k_R7.c2; have f_R7 := k_R7.fz; go_simp; obtain ⟨rfl, rfl⟩ := hl1.out; exact ⟨rfl, ks_put (R := R7) h0 k_R7.1 0 [.int .u32 ((nxtL acc (f 0) : Nat) : Int)] (al1 (spL o_R1_R7 (h0.get m0)) (al1 (spL o_R3_R7 (h0.get m1)) aN)), ks_put (R := R7) hK k_R7.1 0 [.int .u32 ((nxtL acc (f 0) : Nat) : Int)] (al1 (spL o_R1_R7 (hK.get m0)) (al1 (spL o_R3_R7 (hK.get m1)) (al1 (fun _ => has_put k_R7 _ _) aN)))⟩
       simp only [Act.put, pB, pC]
       refine lxEnd (fun W16 hK => ?_)
       (try go_wp2)
       go_roundw
       case rel => exact ⟨(0 + 1), nxtL acc (f 0), (by first | rfl | go_num), (by omega), (nxtL_w32 _ _), (hid (hp.out.next hfin.out (by decide))), ⟨hK.old, (al1 (hK.all _ m0) (al1 (hK.all _ m1) (al1 (hK.all _ m2) aN)))⟩⟩
       case measure => simp [intOf]
      · --
       go_upto_region 14 with (fail)
       have hK0 := hK.subl (sK (sK (sC sZ)))
       refine wp_region_float0 (w) _ _ [0, 1, 0, 0, 0, 0, 0, 0, 0, 0, 4] (by kernel_rfl) (by kernel_rfl) (by kernel_rfl) (by kernel_rfl) (KS.drew hK0) (KS.drew hK) ?_
       clear hK hK0
       apply lxF0 (wants0 rfl); (· intro w' h0; go_simp; (try go_bits); exact ⟨rfl, rfl⟩); simp only [Act.put, pA, pB, pC]
       apply lxR0 (wants0 rfl); (· intro w' h0 hK; have k_R7 := (hK.get m2); have c_R7_0 := k_R7.at 0 rfl; go_simp; (try go_bits); exact ⟨rfl, rfl⟩); simp only [Act.put, pA, pB, pC]
       apply lxF0 (v := .int .u32 ((acc * 256 % 4294967296 : Nat) : Int)) (wants0 rfl); (· intro w' h0; go_simp; (try go_bits); exact ⟨rfl, rfl⟩); simp only [Act.put, pA, pB, pC]
       iterate 2 (apply lxF0 (wants0 rfl); (· intro w' h0; go_simp; (try go_bits); exact ⟨rfl, rfl⟩); simp only [Act.put, pA, pB, pC])
       apply lxF0 (wants0 rfl); (· intro w' h0; have k_R3 := (h0.get m1); have c_R3_1 := k_R3.at 1 rfl; go_simp; (try go_bits); exact ⟨rfl, rfl⟩); simp only [Act.put, pA, pB, pC]
       apply lxF0 (v := .int .i64 (lowB (f 1) : Int)) (wants0 rfl); (· intro w' h0; go_simp; (try go_bits); exact ⟨congrArg _ ((i64_and255 _).trans (by unfold lowB; omega)), rfl⟩); simp only [Act.put, pA, pB, pC]
       apply lxF0 (v := .int .u32 (lowB (f 1) : Int)) (wants0 rfl); (· intro w' h0; go_simp; (try go_bits); exact ⟨congrArg _ (by have := lowB_lt (f 1); omega), rfl⟩); simp only [Act.put, pA, pB, pC]
       apply lxF0 (v := .int .u32 ((nxtL acc (f 1) : Nat) : Int)) (wants0 rfl); (· intro w' h0; go_simp; (try go_bits); exact ⟨congrArg _ (nxtL_or _ _), rfl⟩); simp only [Act.put, pA, pB, pC]
       apply lxF0 (wants0 rfl); (· intro w' h0; go_simp; (try go_bits); exact ⟨rfl, rfl⟩); simp only [Act.put, pA, pB, pC]
       apply lxU1 2 (Has w.heap.size R7 (.cells #[.int .u32 ((nxtL acc (f 1) : Nat) : Int), .int .i64 (f 4)] 24)) (wants0 rfl)
       · intro g0 l1 hl1 w' h0 hK; have k_R7 := (hK.get m2); have ⟨c_R7_0, c_R7_1⟩ := k_R7.c2; have f_R7 := k_R7.fz; go_simp; obtain ⟨rfl, rfl⟩ := hl1.out; exact ⟨rfl, ks_put (R := R7) h0 k_R7.1 0 [.int .u32 ((nxtL acc (f 1) : Nat) : Int)] (al1 (spL o_R1_R7 (h0.get m0)) (al1 (spL o_R3_R7 (h0.get m1)) aN)), ks_put (R := R7) hK k_R7.1 0 [.int .u32 ((nxtL acc (f 1) : Nat) : Int)] (al1 (spL o_R1_R7 (hK.get m0)) (al1 (spL o_R3_R7 (hK.get m1)) (al1 (fun _ => has_put k_R7 _ _) aN)))⟩
       simp only [Act.put, pB, pC]
       refine lxEnd (fun W17 hK => ?_)
       (try go_wp2)
       go_roundw
       case rel => exact ⟨(1 + 1), nxtL acc (f 1), (by first | rfl | go_num), (by omega), (nxtL_w32 _ _), (hid (hp.out.next hfin.out (by decide))), ⟨hK.old, (al1 (hK.all _ m0) (al1 (hK.all _ m1) (al1 (hK.all _ m2) aN)))⟩⟩
       case measure => simp [intOf]
      · --
       go_upto_region 14 with (fail)
       have hK0 := hK.subl (sK (sK (sC sZ)))
       refine wp_region_float0 (w) _ _ [0, 1, 0, 0, 0, 0, 0, 0, 0, 0, 4] (by kernel_rfl) (by kernel_rfl) (by kernel_rfl) (by kernel_rfl) (KS.drew hK0) (KS.drew hK) ?_
       clear hK hK0
       apply lxF0 (wants0 rfl); (· intro w' h0; go_simp; (try go_bits); exact ⟨rfl, rfl⟩); simp only [Act.put, pA, pB, pC]
       apply lxR0 (wants0 rfl); (· intro w' h0 hK; have k_R7 := (hK.get m2); have c_R7_0 := k_R7.at 0 rfl; go_simp; (try go_bits); exact ⟨rfl, rfl⟩); simp only [Act.put, pA, pB, pC]
       apply lxF0 (v := .int .u32 ((acc * 256 % 4294967296 : Nat) : Int)) (wants0 rfl); (· intro w' h0; go_simp; (try go_bits); exact ⟨rfl, rfl⟩); simp only [Act.put, pA, pB, pC]
       iterate 2 (apply lxF0 (wants0 rfl); (· intro w' h0; go_simp; (try go_bits); exact ⟨rfl, rfl⟩); simp only [Act.put, pA, pB, pC])
       apply lxF0 (wants0 rfl); (· intro w' h0; have k_R3 := (h0.get m1); have c_R3_2 := k_R3.at 2 rfl; go_simp; (try go_bits); exact ⟨rfl, rfl⟩); simp only [Act.put, pA, pB, pC]
       apply lxF0 (v := .int .i64 (lowB (f 2) : Int)) (wants0 rfl); (· intro w' h0; go_simp; (try go_bits); exact ⟨congrArg _ ((i64_and255 _).trans (by unfold lowB; omega)), rfl⟩); simp only [Act.put, pA, pB, pC]
       apply lxF0 (v := .int .u32 (lowB (f 2) : Int)) (wants0 rfl); (· intro w' h0; go_simp; (try go_bits); exact ⟨congrArg _ (by have := lowB_lt (f 2); omega), rfl⟩); simp only [Act.put, pA, pB, pC]
       apply lxF0 (v := .int .u32 ((nxtL acc (f 2) : Nat) : Int)) (wants0 rfl); (· intro w' h0; go_simp; (try go_bits); exact ⟨congrArg _ (nxtL_or _ _), rfl⟩); simp only [Act.put, pA, pB, pC]
       apply lxF0 (wants0 rfl); (· intro w' h0; go_simp; (try go_bits); exact ⟨rfl, rfl⟩); simp only [Act.put, pA, pB, pC]
       apply lxU1 2 (Has w.heap.size R7 (.cells #[.int .u32 ((nxtL acc (f 2) : Nat) : Int), .int .i64 (f 4)] 24)) (wants0 rfl)
       · intro g0 l1 hl1 w' h0 hK; have k_R7 := (hK.get m2); have ⟨c_R7_0, c_R7_1⟩ := k_R7.c2; have f_R7 := k_R7.fz; go_simp; obtain ⟨rfl, rfl⟩ := hl1.out; exact ⟨rfl, ks_put (R := R7) h0 k_R7.1 0 [.int .u32 ((nxtL acc (f 2) : Nat) : Int)] (al1 (spL o_R1_R7 (h0.get m0)) (al1 (spL o_R3_R7 (h0.get m1)) aN)), ks_put (R := R7) hK k_R7.1 0 [.int .u32 ((nxtL acc (f 2) : Nat) : Int)] (al1 (spL o_R1_R7 (hK.get m0)) (al1 (spL o_R3_R7 (hK.get m1)) (al1 (fun _ => has_put k_R7 _ _) aN)))⟩
       simp only [Act.put, pB, pC]
       refine lxEnd (fun W18 hK => ?_)
       (try go_wp2)
       go_roundw
       case rel => exact ⟨(2 + 1), nxtL acc (f 2), (by first | rfl | go_num), (by omega), (nxtL_w32 _ _), (hid (hp.out.next hfin.out (by decide))), ⟨hK.old, (al1 (hK.all _ m0) (al1 (hK.all _ m1) (al1 (hK.all _ m2) aN)))⟩⟩
       case measure => simp [intOf]
      · --
       go_upto_region 14 with (fail)
       have hK0 := hK.subl (sK (sK (sC sZ)))
       refine wp_region_float0 (w) _ _ [0, 1, 0, 0, 0, 0, 0, 0, 0, 0, 4] (by kernel_rfl) (by kernel_rfl) (by kernel_rfl) (by kernel_rfl) (KS.drew hK0) (KS.drew hK) ?_
       clear hK hK0
       apply lxF0 (wants0 rfl); (· intro w' h0; go_simp; (try go_bits); exact ⟨rfl, rfl⟩); simp only [Act.put, pA, pB, pC]
       apply lxR0 (wants0 rfl); (· intro w' h0 hK; have k_R7 := (hK.get m2); have c_R7_0 := k_R7.at 0 rfl; go_simp; (try go_bits); exact ⟨rfl, rfl⟩); simp only [Act.put, pA, pB, pC]
       apply lxF0 (v := .int .u32 ((acc * 256 % 4294967296 : Nat) : Int)) (wants0 rfl); (· intro w' h0; go_simp; (try go_bits); exact ⟨rfl, rfl⟩); simp only [Act.put, pA, pB, pC]
       iterate 2 (apply lxF0 (wants0 rfl); (· intro w' h0; go_simp; (try go_bits); exact ⟨rfl, rfl⟩); simp only [Act.put, pA, pB, pC])
       apply lxF0 (wants0 rfl); (· intro w' h0; have k_R3 := (h0.get m1); have c_R3_3 := k_R3.at 3 rfl; go_simp; (try go_bits); exact ⟨rfl, rfl⟩); simp only [Act.put, pA, pB, pC]
       apply lxF0 (v := .int .i64 (lowB (f 3) : Int)) (wants0 rfl); (· intro w' h0; go_simp; (try go_bits); exact ⟨congrArg _ ((i64_and255 _).trans (by unfold lowB; omega)), rfl⟩); simp only [Act.put, pA, pB, pC]
       apply lxF0 (v := .int .u32 (lowB (f 3) : Int)) (wants0 rfl); (· intro w' h0; go_simp; (try go_bits); exact ⟨congrArg _ (by have := lowB_lt (f 3); omega), rfl⟩); simp only [Act.put, pA, pB, pC]
       apply lxF0 (v := .int .u32 ((nxtL acc (f 3) : Nat) : Int)) (wants0 rfl); (· intro w' h0; go_simp; (try go_bits); exact ⟨congrArg _ (nxtL_or _ _), rfl⟩); simp only [Act.put, pA, pB, pC]
       apply lxF0 (wants0 rfl); (· intro w' h0; go_simp; (try go_bits); exact ⟨rfl, rfl⟩); simp only [Act.put, pA, pB, pC]
       apply lxU1 2 (Has w.heap.size R7 (.cells #[.int .u32 ((nxtL acc (f 3) : Nat) : Int), .int .i64 (f 4)] 24)) (wants0 rfl)
       · intro g0 l1 hl1 w' h0 hK; have k_R7 := (hK.get m2); have ⟨c_R7_0, c_R7_1⟩ := k_R7.c2; have f_R7 := k_R7.fz; go_simp; obtain ⟨rfl, rfl⟩ := hl1.out; exact ⟨rfl, ks_put (R := R7) h0 k_R7.1 0 [.int .u32 ((nxtL acc (f 3) : Nat) : Int)] (al1 (spL o_R1_R7 (h0.get m0)) (al1 (spL o_R3_R7 (h0.get m1)) aN)), ks_put (R := R7) hK k_R7.1 0 [.int .u32 ((nxtL acc (f 3) : Nat) : Int)] (al1 (spL o_R1_R7 (hK.get m0)) (al1 (spL o_R3_R7 (hK.get m1)) (al1 (fun _ => has_put k_R7 _ _) aN)))⟩
       simp only [Act.put, pB, pC]
       refine lxEnd (fun W19 hK => ?_)
       (try go_wp2)
       go_roundw
       case rel => exact ⟨(3 + 1), nxtL acc (f 3), (by first | rfl | go_num), (by omega), (nxtL_w32 _ _), (hid (hp.out.next hfin.out (by decide))), ⟨hK.old, (al1 (hK.all _ m0) (al1 (hK.all _ m1) (al1 (hK.all _ m2) aN)))⟩⟩
       case measure => simp [intOf]
   · --
    have q_b1 : ((i : Int)) < ((s.length : Int)) := of_decide_eq_true hb1.out
    apply txF (wantsg (j := 4) (d := 13) (b := true) rfl rfl rfl rfl); (· intro w' hK; go_simp; (try go_bits); exact ⟨rfl, rfl⟩); simp only [Act.put, pA, pB, pC]
    obtain ⟨b2, hb2⟩ : ∃ b : Bool, RowKit.Hid (decide (((i : Int)) < 20) = b) := ⟨_, hid rfl⟩
    apply txB b2 (wantsg (j := 4) (d := 13) (b := true) rfl rfl rfl rfl); (· intro w' hK; go_simp; (try go_bits); exact ⟨by have q := hb2.out; subst q; first | rfl | simp, rfl⟩); simp only [Act.put, pA, pB, pC]
    apply txF (wants0 rfl); (· intro w' hK; go_simp; (try go_bits); exact ⟨rfl, rfl⟩); simp only [Act.put, pA, pB, pC]
    refine txEnd (fun W20 hK => ?_)
    cases b2
    · --
     have q_b2 : 20 ≤ ((i : Int)) := Int.not_lt.1 (of_decide_eq_false hb2.out)
     have hfin := hid (fin_of ho.out (by omega))
     go_upto_region 10 with (fail)
     refine wp_region_tx w hK ?_
     clear hK
     apply txF (wants0 rfl); (· intro w' hK; go_simp; (try go_bits); exact ⟨rfl, rfl⟩); simp only [Act.put, pA, pB, pC]
     apply txF (wants0 rfl); (· intro w' hK; have k_R3 := (hK.get m1); have c_R3_4 := k_R3.at 4 rfl; go_simp; (try go_bits); exact ⟨rfl, rfl⟩); simp only [Act.put, pA, pB, pC]
     apply txF (wants0 rfl); (· intro w' hK; go_simp; (try go_bits); exact ⟨rfl, rfl⟩); simp only [Act.put, pA, pB, pC]
     apply txA (.cells #[.int .u32 0, .int .i64 0] 24) (wants0 rfl)
     · intro w' hK; go_simp; rfl
     intro R21 q_R21
     have o_R1_R21 : R1 < R21 := q_R21 _ _ _ m0
     have o_R3_R21 : R3 < R21 := q_R21 _ _ _ m1
     clear q_R21
     simp only [mkOf, Act.put, pA, pB, pC]
     apply txU 0 (Has w.heap.size R21 (.cells #[.int .u32 0, .int .i64 (f 4)] 24)) (wants0 rfl)
     · intro l1 hl1 w' hK; have k_R21 := (hK.get m0); have ⟨c_R21_0, c_R21_1⟩ := k_R21.c2; have f_R21 := k_R21.fz; go_simp; obtain rfl := hl1.out; exact ⟨rfl, ks_put (R := R21) hK k_R21.1 0 [.int .u32 0, .int .i64 (f 4)] (al1 (fun _ => has_put k_R21 _ _) (al1 (spL o_R1_R21 (hK.get m1)) (al1 (spL o_R3_R21 (hK.get m2)) aN)))⟩
     simp only [Act.put, pB]
     refine txEnd (fun W22 hK => ?_)
     go_wp2_with fail
     go_loopw [8] (fun s8 wl => ∃ (j : Nat) (acc : Nat), s8 = .int .i64 (j : Int) ∧ (j ≤ 4) ∧ (W32 acc) ∧ RowKit.Hid (Pre s j acc) ∧ KS w [Has w.heap.size R1 (.cells #[.int .u32 0, .int .i64 0] 24), Has w.heap.size R3 (.cells #[.int .i64 (f 0), .int .i64 (f 1), .int .i64 (f 2), .int .i64 (f 3), .int .i64 (f 4)] 63), Has w.heap.size R21 (.cells #[.int .u32 (acc : Int), .int .i64 (f 4)] 24)] wl) (fun s8 _ => 4 - (intOf s8).toNat)
     case atStart => exact ⟨0, 0, rfl, (by omega), W32.zero, (hid (Pre.start s)), ⟨hK.old, (al1 (hK.all _ m1) (al1 (hK.all _ m2) (al1 (hK.all _ m0) aN)))⟩⟩
     case round =>
      clear hK
      obtain ⟨j, acc, rfl, hj, hw, hp, hK⟩ := hrel
      generalize wr = W23 at hK ⊢
      go_upto_region 12 with (fail)
      refine wp_region_tx w hK ?_
      clear hK
      apply txF (wants0 rfl); (· intro w' hK; go_simp; (try go_bits); exact ⟨rfl, rfl⟩); simp only [Act.put, pA, pB, pC]
      obtain ⟨b3, hb3⟩ : ∃ b : Bool, RowKit.Hid (decide (((j : Int)) < 4) = b) := ⟨_, hid rfl⟩
      apply txB b3 (wants0 rfl); (· intro w' hK; go_simp; (try go_bits); exact ⟨by have q := hb3.out; subst q; first | rfl | simp, rfl⟩); simp only [Act.put, pA, pB, pC]
      refine txEnd (fun W24 hK => ?_)
      cases b3
      · --
       have q_b3 : 4 ≤ ((j : Int)) := Int.not_lt.1 (of_decide_eq_false hb3.out)
       go_upto_region 15 with (fail)
       refine wp_region_tx w hK ?_
       clear hK
       apply txF (wants0 rfl); (· intro w' hK; go_simp; (try go_bits); exact ⟨rfl, rfl⟩); simp only [Act.put, pA, pB, pC]
       obtain ⟨b4, hb4⟩ : ∃ b : Bool, RowKit.Hid (decide (s = (([] : List UInt8))) = b) := ⟨_, hid rfl⟩
       apply txB b4 (wants0 rfl); (· intro w' hK; go_simp; (try go_bits); exact ⟨by have q := hb4.out; subst q; first | exact congrArg Value.bool (txt_ne _ _) | exact congrArg Value.bool (txt_eq _ _) | exact congrArg Value.bool (txl_ne _ _) | exact congrArg Value.bool (txl_eq _ _) | exact congrArg Value.bool (txl_nil _), rfl⟩); simp only [Act.put, pA, pB, pC]
       apply txF (wants0 rfl); (· intro w' hK; go_simp; (try go_bits); exact ⟨rfl, rfl⟩); simp only [Act.put, pA, pB, pC]
       cases b4
       · --
        apply txF (wantsg (j := 2) (d := 64) (b := false) rfl rfl rfl rfl); (· intro w' hK; have k_R21 := (hK.get m2); have ⟨c_R21_0, c_R21_1⟩ := k_R21.c2; go_simp; (try go_bits); exact ⟨rfl, rfl⟩); simp only [Act.put, pA, pB, pC]
        apply txH (v := .string ⟨(textP acc ((f 4))).toArray⟩) (wantsg (j := 2) (d := 64) (b := false) rfl rfl rfl rfl)
        · intro v1 hv1 w' hK; go_simp; (try go_bits); refine (rtext_any acc ((f 4)) w' (by first | assumption | omega | exact W32.zero)).mono ?_; rintro e w5 ⟨rfl, hb⟩; obtain rfl := hv1.out; exact ⟨_, rfl, rfl, hb⟩
        simp only [Act.put, pA, pB, pC]
        apply txF (wantsg (j := 2) (d := 64) (b := false) rfl rfl rfl rfl); (· intro w' hK; go_simp; (try go_bits); exact ⟨rfl, rfl⟩); simp only [Act.put, pA, pB, pC]
        obtain ⟨b5, hb5⟩ : ∃ b : Bool, RowKit.Hid ((!decide ((textP acc ((f 4))) = s)) = b) := ⟨_, hid rfl⟩
        apply txB b5 (wantsg (j := 2) (d := 64) (b := false) rfl rfl rfl rfl); (· intro w' hK; go_simp; (try go_bits); exact ⟨by have q := hb5.out; subst q; first | exact congrArg Value.bool (txt_ne _ _) | exact congrArg Value.bool (txt_eq _ _) | exact congrArg Value.bool (txl_ne _ _) | exact congrArg Value.bool (txl_eq _ _) | exact congrArg Value.bool (txl_nil _), rfl⟩); simp only [Act.put, pA, pB, pC]
        apply txF (wants0 rfl); (· intro w' hK; go_simp; (try go_bits); exact ⟨rfl, rfl⟩); simp only [Act.put, pA, pB, pC]
        refine txEnd (fun W25 hK => ?_)
        cases b5
        · --
         go_upto_region 17 with (fail)
         refine wp_region_tx w hK ?_
         clear hK
         apply txF (wants0 rfl); (· intro w' hK; have k_R21 := (hK.get m2); have ⟨c_R21_0, c_R21_1⟩ := k_R21.c2; go_simp; (try go_bits); exact ⟨rfl, rfl⟩); simp only [Act.put, pA, pB, pC]
         apply txU 0 (Has w.heap.size R1 (.cells #[.int .u32 (acc : Int), .int .i64 (f 4)] 24)) (wants0 rfl)
         · intro l1 hl1 w' hK; have k_R1 := (hK.get m0); have ⟨c_R1_0, c_R1_1⟩ := k_R1.c2; have f_R1 := k_R1.fz; go_simp; obtain rfl := hl1.out; exact ⟨rfl, ks_put (R := R1) hK k_R1.1 0 [.int .u32 (acc : Int), .int .i64 (f 4)] (al1 (fun _ => has_put k_R1 _ _) (al1 (spG o_R1_R3 (hK.get m1)) (al1 (spG o_R1_R21 (hK.get m2)) aN)))⟩
         simp only [Act.put, pB]
         apply txF (wants0 rfl); (· intro w' hK; go_simp; (try go_bits); exact ⟨rfl, rfl⟩); simp only [Act.put, pA, pB, pC]
         refine txEnd (fun W26 hK => ?_)
         have k_R1 := (hK.get m0); have ⟨c_R1_0, c_R1_1⟩ := k_R1.c2
         go_wp2
         exact bodyPost_ret (v := .tuple #[.agg #[.int .u32 (acc : Int), .int .i64 (f 4)], .int .i64 0]) (by simp [results, Tryd.results16, go_sem, c_R1_0, c_R1_1]) rfl ((by obtain rfl := hQ0.out; exact ⟨(by have q := yes_text2 hw (by have q := hb4.out; simpa using q) (by have q := hb5.out; simpa using q); rw [q.1, q.2.1, q.2.2]), hK.old⟩))
        · --
         go_upto_region 16 with (fail)
         refine wp_region_tx w hK ?_
         clear hK
         apply txF (wants0 rfl); (· intro w' hK; go_simp; (try go_bits); exact ⟨rfl, rfl⟩); simp only [Act.put, pA, pB, pC]
         apply txU 0 (Has w.heap.size R1 (.cells #[.int .u32 0, .int .i64 0] 24)) (wants0 rfl)
         · intro l1 hl1 w' hK; have k_R1 := (hK.get m0); have ⟨c_R1_0, c_R1_1⟩ := k_R1.c2; have f_R1 := k_R1.fz; go_simp; obtain rfl := hl1.out; exact ⟨rfl, ks_put (R := R1) hK k_R1.1 0 [.int .u32 0, .int .i64 0] (al1 (fun _ => has_put k_R1 _ _) (al1 (spG o_R1_R3 (hK.get m1)) (al1 (spG o_R1_R21 (hK.get m2)) aN)))⟩
         simp only [Act.put, pB]
         apply txF (wants0 rfl); (· intro w' hK; go_simp; (try go_bits); exact ⟨rfl, rfl⟩); simp only [Act.put, pA, pB, pC]
         refine txEnd (fun W27 hK => ?_)
         have k_R1 := (hK.get m0); have ⟨c_R1_0, c_R1_1⟩ := k_R1.c2
         go_wp2
         exact bodyPost_ret (v := .tuple #[.agg #[.int .u32 0, .int .i64 0], .int .i64 3]) (by simp [results, Tryd.results16, go_sem, c_R1_0, c_R1_1]) rfl ((by obtain rfl := hQ0.out; exact ⟨(by have q := no_text2 (s := s) (acc := acc) (f := f) (by have e : j = 4 := (by omega); rw [← e]; exact hp.out) hfin.out (.inr (by have q := hb5.out; simpa using q)); rw [q.1, q.2.1, q.2.2]; rfl), hK.old⟩))
       · --
        iterate 4 (apply txN (j := 2) (d := 64) (b := false) rfl rfl rfl rfl; simp only [Act.put, pA, pB, pC])
        apply txF (wants0 rfl); (· intro w' hK; go_simp; (try go_bits); exact ⟨rfl, rfl⟩); simp only [Act.put, pA, pB, pC]
        refine txEnd (fun W28 hK => ?_)
        go_upto_region 16 with (fail)
        refine wp_region_tx w hK ?_
        clear hK
        apply txF (wants0 rfl); (· intro w' hK; go_simp; (try go_bits); exact ⟨rfl, rfl⟩); simp only [Act.put, pA, pB, pC]
        apply txU 0 (Has w.heap.size R1 (.cells #[.int .u32 0, .int .i64 0] 24)) (wants0 rfl)
        · intro l1 hl1 w' hK; have k_R1 := (hK.get m0); have ⟨c_R1_0, c_R1_1⟩ := k_R1.c2; have f_R1 := k_R1.fz; go_simp; obtain rfl := hl1.out; exact ⟨rfl, ks_put (R := R1) hK k_R1.1 0 [.int .u32 0, .int .i64 0] (al1 (fun _ => has_put k_R1 _ _) (al1 (spG o_R1_R3 (hK.get m1)) (al1 (spG o_R1_R21 (hK.get m2)) aN)))⟩
        simp only [Act.put, pB]
        apply txF (wants0 rfl); (· intro w' hK; go_simp; (try go_bits); exact ⟨rfl, rfl⟩); simp only [Act.put, pA, pB, pC]
        refine txEnd (fun W29 hK => ?_)
        have k_R1 := (hK.get m0); have ⟨c_R1_0, c_R1_1⟩ := k_R1.c2
        go_wp2
        exact bodyPost_ret (v := .tuple #[.agg #[.int .u32 0, .int .i64 0], .int .i64 3]) (by simp [results, Tryd.results16, go_sem, c_R1_0, c_R1_1]) rfl ((by obtain rfl := hQ0.out; exact ⟨(by have q := no_text2 (s := s) (acc := acc) (f := f) (by have e : j = 4 := (by omega); rw [← e]; exact hp.out) hfin.out (.inl (by have q := hb4.out; simpa using q)); rw [q.1, q.2.1, q.2.2]; rfl), hK.old⟩))
      · --
       have q_b3 : ((j : Int)) < 4 := of_decide_eq_true hb3.out
       rcases (show j = 0 ∨ j = 1 ∨ j = 2 ∨ j = 3 from by omega) with rfl | rfl | rfl | rfl
       · --
        go_upto_region 14 with (fail)
        have hK0 := hK.subl (sK (sK (sC sZ)))
        refine wp_region_float0 (w) _ _ [0, 1, 0, 0, 0, 0, 0, 0, 0, 0, 4] (by kernel_rfl) (by kernel_rfl) (by kernel_rfl) (by kernel_rfl) (KS.drew hK0) (KS.drew hK) ?_
        clear hK hK0
        apply lxF0 (wants0 rfl); (· intro w' h0; go_simp; (try go_bits); exact ⟨rfl, rfl⟩); simp only [Act.put, pA, pB, pC]
        apply lxR0 (wants0 rfl); (· intro w' h0 hK; have k_R21 := (hK.get m2); have c_R21_0 := k_R21.at 0 rfl; go_simp; (try go_bits); exact ⟨rfl, rfl⟩); simp only [Act.put, pA, pB, pC]
        apply lxF0 (v := .int .u32 ((acc * 256 % 4294967296 : Nat) : Int)) (wants0 rfl); (· intro w' h0; go_simp; (try go_bits); exact ⟨rfl, rfl⟩); simp only [Act.put, pA, pB, pC]
        iterate 2 (apply lxF0 (wants0 rfl); (· intro w' h0; go_simp; (try go_bits); exact ⟨rfl, rfl⟩); simp only [Act.put, pA, pB, pC])
        apply lxF0 (wants0 rfl); (· intro w' h0; have k_R3 := (h0.get m1); have c_R3_0 := k_R3.at 0 rfl; go_simp; (try go_bits); exact ⟨rfl, rfl⟩); simp only [Act.put, pA, pB, pC]
        apply lxF0 (v := .int .i64 (lowB (f 0) : Int)) (wants0 rfl); (· intro w' h0; go_simp; (try go_bits); exact ⟨congrArg _ ((i64_and255 _).trans (by unfold lowB; omega)), rfl⟩); simp only [Act.put, pA, pB, pC]
        apply lxF0 (v := .int .u32 (lowB (f 0) : Int)) (wants0 rfl); (· intro w' h0; go_simp; (try go_bits); exact ⟨congrArg _ (by have := lowB_lt (f 0); omega), rfl⟩); simp only [Act.put, pA, pB, pC]
        apply lxF0 (v := .int .u32 ((nxtL acc (f 0) : Nat) : Int)) (wants0 rfl); (· intro w' h0; go_simp; (try go_bits); exact ⟨congrArg _ (nxtL_or _ _), rfl⟩); simp only [Act.put, pA, pB, pC]
        apply lxF0 (wants0 rfl); (· intro w' h0; go_simp; (try go_bits); exact ⟨rfl, rfl⟩); simp only [Act.put, pA, pB, pC]
        apply lxU1 2 (Has w.heap.size R21 (.cells #[.int .u32 ((nxtL acc (f 0) : Nat) : Int), .int .i64 (f 4)] 24)) (wants0 rfl)
        · intro g0 l1 hl1 w' h0 hK; have k_R21 := (hK.get m2); have ⟨c_R21_0, c_R21_1⟩ := k_R21.c2; have f_R21 := k_R21.fz; go_simp; obtain ⟨rfl, rfl⟩ := hl1.out; exact ⟨rfl, ks_put (R := R21) h0 k_R21.1 0 [.int .u32 ((nxtL acc (f 0) : Nat) : Int)] (al1 (spL o_R1_R21 (h0.get m0)) (al1 (spL o_R3_R21 (h0.get m1)) aN)), ks_put (R := R21) hK k_R21.1 0 [.int .u32 ((nxtL acc (f 0) : Nat) : Int)] (al1 (spL o_R1_R21 (hK.get m0)) (al1 (spL o_R3_R21 (hK.get m1)) (al1 (fun _ => has_put k_R21 _ _) aN)))⟩
        simp only [Act.put, pB, pC]
        refine lxEnd (fun W30 hK => ?_)
        (try go_wp2)
        go_roundw
        case rel => exact ⟨(0 + 1), nxtL acc (f 0), (by first | rfl | go_num), (by omega), (nxtL_w32 _ _), (hid (hp.out.next hfin.out (by decide))), ⟨hK.old, (al1 (hK.all _ m0) (al1 (hK.all _ m1) (al1 (hK.all _ m2) aN)))⟩⟩
        case measure => simp [intOf]
       · --
        go_upto_region 14 with (fail)
        have hK0 := hK.subl (sK (sK (sC sZ)))
        refine wp_region_float0 (w) _ _ [0, 1, 0, 0, 0, 0, 0, 0, 0, 0, 4] (by kernel_rfl) (by kernel_rfl) (by kernel_rfl) (by kernel_rfl) (KS.drew hK0) (KS.drew hK) ?_
        clear hK hK0
        apply lxF0 (wants0 rfl); (· intro w' h0; go_simp; (try go_bits); exact ⟨rfl, rfl⟩); simp only [Act.put, pA, pB, pC]
        apply lxR0 (wants0 rfl); (· intro w' h0 hK; have k_R21 := (hK.get m2); have c_R21_0 := k_R21.at 0 rfl; go_simp; (try go_bits); exact ⟨rfl, rfl⟩); simp only [Act.put, pA, pB, pC]
        apply lxF0 (v := .int .u32 ((acc * 256 % 4294967296 : Nat) : Int)) (wants0 rfl); (· intro w' h0; go_simp; (try go_bits); exact ⟨rfl, rfl⟩); simp only [Act.put, pA, pB, pC]
        iterate 2 (apply lxF0 (wants0 rfl); (· intro w' h0; go_simp; (try go_bits); exact ⟨rfl, rfl⟩); simp only [Act.put, pA, pB, pC])
        apply lxF0 (wants0 rfl); (· intro w' h0; have k_R3 := (h0.get m1); have c_R3_1 := k_R3.at 1 rfl; go_simp; (try go_bits); exact ⟨rfl, rfl⟩); simp only [Act.put, pA, pB, pC]
        apply lxF0 (v := .int .i64 (lowB (f 1) : Int)) (wants0 rfl); (· intro w' h0; go_simp; (try go_bits); exact ⟨congrArg _ ((i64_and255 _).trans (by unfold lowB; omega)), rfl⟩); simp only [Act.put, pA, pB, pC]
        apply lxF0 (v := .int .u32 (lowB (f 1) : Int)) (wants0 rfl); (· intro w' h0; go_simp; (try go_bits); exact ⟨congrArg _ (by have := lowB_lt (f 1); omega), rfl⟩); simp only [Act.put, pA, pB, pC]
        apply lxF0 (v := .int .u32 ((nxtL acc (f 1) : Nat) : Int)) (wants0 rfl); (· intro w' h0; go_simp; (try go_bits); exact ⟨congrArg _ (nxtL_or _ _), rfl⟩); simp only [Act.put, pA, pB, pC]
        apply lxF0 (wants0 rfl); (· intro w' h0; go_simp; (try go_bits); exact ⟨rfl, rfl⟩); simp only [Act.put, pA, pB, pC]
        apply lxU1 2 (Has w.heap.size R21 (.cells #[.int .u32 ((nxtL acc (f 1) : Nat) : Int), .int .i64 (f 4)] 24)) (wants0 rfl)
        · intro g0 l1 hl1 w' h0 hK; have k_R21 := (hK.get m2); have ⟨c_R21_0, c_R21_1⟩ := k_R21.c2; have f_R21 := k_R21.fz; go_simp; obtain ⟨rfl, rfl⟩ := hl1.out; exact ⟨rfl, ks_put (R := R21) h0 k_R21.1 0 [.int .u32 ((nxtL acc (f 1) : Nat) : Int)] (al1 (spL o_R1_R21 (h0.get m0)) (al1 (spL o_R3_R21 (h0.get m1)) aN)), ks_put (R := R21) hK k_R21.1 0 [.int .u32 ((nxtL acc (f 1) : Nat) : Int)] (al1 (spL o_R1_R21 (hK.get m0)) (al1 (spL o_R3_R21 (hK.get m1)) (al1 (fun _ => has_put k_R21 _ _) aN)))⟩
        simp only [Act.put, pB, pC]
        refine lxEnd (fun W31 hK => ?_)
        (try go_wp2)
        go_roundw
        case rel => exact ⟨(1 + 1), nxtL acc (f 1), (by first | rfl | go_num), (by omega), (nxtL_w32 _ _), (hid (hp.out.next hfin.out (by decide))), ⟨hK.old, (al1 (hK.all _ m0) (al1 (hK.all _ m1) (al1 (hK.all _ m2) aN)))⟩⟩
        case measure => simp [intOf]
       · --
        go_upto_region 14 with (fail)
        have hK0 := hK.subl (sK (sK (sC sZ)))
        refine wp_region_float0 (w) _ _ [0, 1, 0, 0, 0, 0, 0, 0, 0, 0, 4] (by kernel_rfl) (by kernel_rfl) (by kernel_rfl) (by kernel_rfl) (KS.drew hK0) (KS.drew hK) ?_
        clear hK hK0
        apply lxF0 (wants0 rfl); (· intro w' h0; go_simp; (try go_bits); exact ⟨rfl, rfl⟩); simp only [Act.put, pA, pB, pC]
        apply lxR0 (wants0 rfl); (· intro w' h0 hK; have k_R21 := (hK.get m2); have c_R21_0 := k_R21.at 0 rfl; go_simp; (try go_bits); exact ⟨rfl, rfl⟩); simp only [Act.put, pA, pB, pC]
        apply lxF0 (v := .int .u32 ((acc * 256 % 4294967296 : Nat) : Int)) (wants0 rfl); (· intro w' h0; go_simp; (try go_bits); exact ⟨rfl, rfl⟩); simp only [Act.put, pA, pB, pC]
        iterate 2 (apply lxF0 (wants0 rfl); (· intro w' h0; go_simp; (try go_bits); exact ⟨rfl, rfl⟩); simp only [Act.put, pA, pB, pC])
        apply lxF0 (wants0 rfl); (· intro w' h0; have k_R3 := (h0.get m1); have c_R3_2 := k_R3.at 2 rfl; go_simp; (try go_bits); exact ⟨rfl, rfl⟩); simp only [Act.put, pA, pB, pC]
        apply lxF0 (v := .int .i64 (lowB (f 2) : Int)) (wants0 rfl); (· intro w' h0; go_simp; (try go_bits); exact ⟨congrArg _ ((i64_and255 _).trans (by unfold lowB; omega)), rfl⟩); simp only [Act.put, pA, pB, pC]
        apply lxF0 (v := .int .u32 (lowB (f 2) : Int)) (wants0 rfl); (· intro w' h0; go_simp; (try go_bits); exact ⟨congrArg _ (by have := lowB_lt (f 2); omega), rfl⟩); simp only [Act.put, pA, pB, pC]
        apply lxF0 (v := .int .u32 ((nxtL acc (f 2) : Nat) : Int)) (wants0 rfl); (· intro w' h0; go_simp; (try go_bits); exact ⟨congrArg _ (nxtL_or _ _), rfl⟩); simp only [Act.put, pA, pB, pC]
        apply lxF0 (wants0 rfl); (· intro w' h0; go_simp; (try go_bits); exact ⟨rfl, rfl⟩); simp only [Act.put, pA, pB, pC]
        apply lxU1 2 (Has w.heap.size R21 (.cells #[.int .u32 ((nxtL acc (f 2) : Nat) : Int), .int .i64 (f 4)] 24)) (wants0 rfl)
        · intro g0 l1 hl1 w' h0 hK; have k_R21 := (hK.get m2); have ⟨c_R21_0, c_R21_1⟩ := k_R21.c2; have f_R21 := k_R21.fz; go_simp; obtain ⟨rfl, rfl⟩ := hl1.out; exact ⟨rfl, ks_put (R := R21) h0 k_R21.1 0 [.int .u32 ((nxtL acc (f 2) : Nat) : Int)] (al1 (spL o_R1_R21 (h0.get m0)) (al1 (spL o_R3_R21 (h0.get m1)) aN)), ks_put (R := R21) hK k_R21.1 0 [.int .u32 ((nxtL acc (f 2) : Nat) : Int)] (al1 (spL o_R1_R21 (hK.get m0)) (al1 (spL o_R3_R21 (hK.get m1)) (al1 (fun _ => has_put k_R21 _ _) aN)))⟩
        simp only [Act.put, pB, pC]
        refine lxEnd (fun W32 hK => ?_)
        (try go_wp2)
        go_roundw
        case rel => exact ⟨(2 + 1), nxtL acc (f 2), (by first | rfl | go_num), (by omega), (nxtL_w32 _ _), (hid (hp.out.next hfin.out (by decide))), ⟨hK.old, (al1 (hK.all _ m0) (al1 (hK.all _ m1) (al1 (hK.all _ m2) aN)))⟩⟩
        case measure => simp [intOf]
       · --
        go_upto_region 14 with (fail)
        have hK0 := hK.subl (sK (sK (sC sZ)))
        refine wp_region_float0 (w) _ _ [0, 1, 0, 0, 0, 0, 0, 0, 0, 0, 4] (by kernel_rfl) (by kernel_rfl) (by kernel_rfl) (by kernel_rfl) (KS.drew hK0) (KS.drew hK) ?_
        clear hK hK0
        apply lxF0 (wants0 rfl); (· intro w' h0; go_simp; (try go_bits); exact ⟨rfl, rfl⟩); simp only [Act.put, pA, pB, pC]
        apply lxR0 (wants0 rfl); (· intro w' h0 hK; have k_R21 := (hK.get m2); have c_R21_0 := k_R21.at 0 rfl; go_simp; (try go_bits); exact ⟨rfl, rfl⟩); simp only [Act.put, pA, pB, pC]
        apply lxF0 (v := .int .u32 ((acc * 256 % 4294967296 : Nat) : Int)) (wants0 rfl); (· intro w' h0; go_simp; (try go_bits); exact ⟨rfl, rfl⟩); simp only [Act.put, pA, pB, pC]
        iterate 2 (apply lxF0 (wants0 rfl); (· intro w' h0; go_simp; (try go_bits); exact ⟨rfl, rfl⟩); simp only [Act.put, pA, pB, pC])
        apply lxF0 (wants0 rfl); (· intro w' h0; have k_R3 := (h0.get m1); have c_R3_3 := k_R3.at 3 rfl; go_simp; (try go_bits); exact ⟨rfl, rfl⟩); simp only [Act.put, pA, pB, pC]
        apply lxF0 (v := .int .i64 (lowB (f 3) : Int)) (wants0 rfl); (· intro w' h0; go_simp; (try go_bits); exact ⟨congrArg _ ((i64_and255 _).trans (by unfold lowB; omega)), rfl⟩); simp only [Act.put, pA, pB, pC]
        apply lxF0 (v := .int .u32 (lowB (f 3) : Int)) (wants0 rfl); (· intro w' h0; go_simp; (try go_bits); exact ⟨congrArg _ (by have := lowB_lt (f 3); omega), rfl⟩); simp only [Act.put, pA, pB, pC]
        apply lxF0 (v := .int .u32 ((nxtL acc (f 3) : Nat) : Int)) (wants0 rfl); (· intro w' h0; go_simp; (try go_bits); exact ⟨congrArg _ (nxtL_or _ _), rfl⟩); simp only [Act.put, pA, pB, pC]
        apply lxF0 (wants0 rfl); (· intro w' h0; go_simp; (try go_bits); exact ⟨rfl, rfl⟩); simp only [Act.put, pA, pB, pC]
        apply lxU1 2 (Has w.heap.size R21 (.cells #[.int .u32 ((nxtL acc (f 3) : Nat) : Int), .int .i64 (f 4)] 24)) (wants0 rfl)
        · intro g0 l1 hl1 w' h0 hK; have k_R21 := (hK.get m2); have ⟨c_R21_0, c_R21_1⟩ := k_R21.c2; have f_R21 := k_R21.fz; go_simp; obtain ⟨rfl, rfl⟩ := hl1.out; exact ⟨rfl, ks_put (R := R21) h0 k_R21.1 0 [.int .u32 ((nxtL acc (f 3) : Nat) : Int)] (al1 (spL o_R1_R21 (h0.get m0)) (al1 (spL o_R3_R21 (h0.get m1)) aN)), ks_put (R := R21) hK k_R21.1 0 [.int .u32 ((nxtL acc (f 3) : Nat) : Int)] (al1 (spL o_R1_R21 (hK.get m0)) (al1 (spL o_R3_R21 (hK.get m1)) (al1 (fun _ => has_put k_R21 _ _) aN)))⟩
        simp only [Act.put, pB, pC]
        refine lxEnd (fun W33 hK => ?_)
        (try go_wp2)
        go_roundw
        case rel => exact ⟨(3 + 1), nxtL acc (f 3), (by first | rfl | go_num), (by omega), (nxtL_w32 _ _), (hid (hp.out.next hfin.out (by decide))), ⟨hK.old, (al1 (hK.all _ m0) (al1 (hK.all _ m1) (al1 (hK.all _ m2) aN)))⟩⟩
        case measure => simp [intOf]
    · --
     have q_b2 : ((i : Int)) < 20 := of_decide_eq_true hb2.out
     obtain ⟨c6, ec6⟩ : ∃ c, RowKit.Hid (s[i]? = some c) := ⟨s[i], hid (List.getElem?_eq_getElem (by omega))⟩
     go_upto_region 6 with (fail)
     refine wp_region_tx w hK ?_
     clear hK
     iterate 2 (apply txF (wants0 rfl); (· intro w' hK; go_simp; (try go_bits); exact ⟨rfl, rfl⟩); simp only [Act.put, pA, pB, pC])
     apply txF (v := .int .u8 (c6.toNat : Int)) (wants0 rfl); (· intro w' hK; go_simp; (try go_bits); exact ⟨congrArg (fun c : UInt8 => Value.int .u8 (c.toNat : Int)) (idx_b ec6.out _), rfl⟩); simp only [Act.put, pA, pB, pC]
     obtain ⟨b3, hb3⟩ : ∃ b : Bool, RowKit.Hid (decide (48 ≤ ((c6.toNat : Int))) = b) := ⟨_, hid rfl⟩
     apply txB b3 (wants0 rfl); (· intro w' hK; go_simp; (try go_bits); exact ⟨by have q := hb3.out; subst q; first | rfl | simp, rfl⟩); simp only [Act.put, pA, pB, pC]
     apply txF (wants0 rfl); (· intro w' hK; go_simp; (try go_bits); exact ⟨rfl, rfl⟩); simp only [Act.put, pA, pB, pC]
     cases b3
     · --
      have q_b3 : ((c6.toNat : Int)) < 48 := Int.not_le.1 (of_decide_eq_false hb3.out)
      iterate 4 (apply txN (j := 4) (d := 23) (b := true) rfl rfl rfl rfl; simp only [Act.put, pA, pB, pC])
      apply txF (wants0 rfl); (· intro w' hK; go_simp; (try go_bits); exact ⟨rfl, rfl⟩); simp only [Act.put, pA, pB, pC]
      refine txEnd (fun W34 hK => ?_)
      go_upto_region 8 with (fail)
      refine wp_region_tx w hK ?_
      clear hK
      apply txF (wants0 rfl); (· intro w' hK; go_simp; (try go_bits); exact ⟨rfl, rfl⟩); simp only [Act.put, pA, pB, pC]
      obtain ⟨b4, hb4⟩ : ∃ b : Bool, RowKit.Hid (decide (((k : Int)) < 4) = b) := ⟨_, hid rfl⟩
      apply txB b4 (wants0 rfl); (· intro w' hK; go_simp; (try go_bits); exact ⟨by have q := hb4.out; subst q; first | rfl | simp, rfl⟩); simp only [Act.put, pA, pB, pC]
      refine txEnd (fun W35 hK => ?_)
      cases b4
      · --
       have q_b4 : 4 ≤ ((k : Int)) := Int.not_lt.1 (of_decide_eq_false hb4.out)
       (try go_wp2)
       go_roundw
       case rel => exact ⟨k, i + 1, f, (by first | rfl | go_num), (by first | rfl | go_num), (by omega), (by omega), (by omega), (hid (by rw [foldR_step ec6.out, ho.out]; exact stept (by omega) (by omega))), ⟨hK.old, (al1 (hK.all _ m0) (al1 (hK.all _ m1) aN))⟩⟩
       case measure => simp [intOf]; omega
      · --
       have q_b4 : ((k : Int)) < 4 := of_decide_eq_true hb4.out
       go_upto_region 9 with (fail)
       refine wp_region_tx w hK ?_
       clear hK
       apply txF (wants0 rfl); (· intro w' hK; go_simp; (try go_bits); exact ⟨rfl, rfl⟩); simp only [Act.put, pA, pB, pC]
       apply txF (v := .int .i64 ((k + 1 : Nat) : Int)) (wants0 rfl); (· intro w' hK; go_simp; (try go_bits); exact ⟨congrArg _ (by omega), rfl⟩); simp only [Act.put, pA, pB, pC]
       apply txF (wants0 rfl); (· intro w' hK; go_simp; (try go_bits); exact ⟨rfl, rfl⟩); simp only [Act.put, pA, pB, pC]
       refine txEnd (fun W36 hK => ?_)
       (try go_wp2)
       go_roundw
       case rel => exact ⟨k + 1, i + 1, f, (by first | rfl | go_num), (by first | rfl | go_num), (by omega), (by omega), (by omega), (hid (by rw [foldR_step ec6.out, ho.out]; exact steps (by omega) (by omega))), ⟨hK.old, (al1 (hK.all _ m0) (al1 (hK.all _ m1) aN))⟩⟩
       case measure => simp [intOf]; omega
     · --
      have q_b3 : 48 ≤ ((c6.toNat : Int)) := of_decide_eq_true hb3.out
      iterate 2 (apply txF (wantsg (j := 4) (d := 23) (b := true) rfl rfl rfl rfl); (· intro w' hK; go_simp; (try go_bits); exact ⟨rfl, rfl⟩); simp only [Act.put, pA, pB, pC])
      apply txF (v := .int .u8 (c6.toNat : Int)) (wantsg (j := 4) (d := 23) (b := true) rfl rfl rfl rfl); (· intro w' hK; go_simp; (try go_bits); exact ⟨congrArg (fun c : UInt8 => Value.int .u8 (c.toNat : Int)) (idx_b ec6.out _), rfl⟩); simp only [Act.put, pA, pB, pC]
      obtain ⟨b4, hb4⟩ : ∃ b : Bool, RowKit.Hid (decide (((c6.toNat : Int)) ≤ 57) = b) := ⟨_, hid rfl⟩
      apply txB b4 (wantsg (j := 4) (d := 23) (b := true) rfl rfl rfl rfl); (· intro w' hK; go_simp; (try go_bits); exact ⟨by have q := hb4.out; subst q; first | rfl | simp, rfl⟩); simp only [Act.put, pA, pB, pC]
      apply txF (wants0 rfl); (· intro w' hK; go_simp; (try go_bits); exact ⟨rfl, rfl⟩); simp only [Act.put, pA, pB, pC]
      refine txEnd (fun W37 hK => ?_)
      cases b4
      · --
       have q_b4 : 57 < ((c6.toNat : Int)) := Int.not_le.1 (of_decide_eq_false hb4.out)
       go_upto_region 8 with (fail)
       refine wp_region_tx w hK ?_
       clear hK
       apply txF (wants0 rfl); (· intro w' hK; go_simp; (try go_bits); exact ⟨rfl, rfl⟩); simp only [Act.put, pA, pB, pC]
       obtain ⟨b5, hb5⟩ : ∃ b : Bool, RowKit.Hid (decide (((k : Int)) < 4) = b) := ⟨_, hid rfl⟩
       apply txB b5 (wants0 rfl); (· intro w' hK; go_simp; (try go_bits); exact ⟨by have q := hb5.out; subst q; first | rfl | simp, rfl⟩); simp only [Act.put, pA, pB, pC]
       refine txEnd (fun W38 hK => ?_)
       cases b5
       · --
        have q_b5 : 4 ≤ ((k : Int)) := Int.not_lt.1 (of_decide_eq_false hb5.out)
        (try go_wp2)
        go_roundw
        case rel => exact ⟨k, i + 1, f, (by first | rfl | go_num), (by first | rfl | go_num), (by omega), (by omega), (by omega), (hid (by rw [foldR_step ec6.out, ho.out]; exact stept (by omega) (by omega))), ⟨hK.old, (al1 (hK.all _ m0) (al1 (hK.all _ m1) aN))⟩⟩
        case measure => simp [intOf]; omega
       · --
        have q_b5 : ((k : Int)) < 4 := of_decide_eq_true hb5.out
        go_upto_region 9 with (fail)
        refine wp_region_tx w hK ?_
        clear hK
        apply txF (wants0 rfl); (· intro w' hK; go_simp; (try go_bits); exact ⟨rfl, rfl⟩); simp only [Act.put, pA, pB, pC]
        apply txF (v := .int .i64 ((k + 1 : Nat) : Int)) (wants0 rfl); (· intro w' hK; go_simp; (try go_bits); exact ⟨congrArg _ (by omega), rfl⟩); simp only [Act.put, pA, pB, pC]
        apply txF (wants0 rfl); (· intro w' hK; go_simp; (try go_bits); exact ⟨rfl, rfl⟩); simp only [Act.put, pA, pB, pC]
        refine txEnd (fun W39 hK => ?_)
        (try go_wp2)
        go_roundw
        case rel => exact ⟨k + 1, i + 1, f, (by first | rfl | go_num), (by first | rfl | go_num), (by omega), (by omega), (by omega), (hid (by rw [foldR_step ec6.out, ho.out]; exact steps (by omega) (by omega))), ⟨hK.old, (al1 (hK.all _ m0) (al1 (hK.all _ m1) aN))⟩⟩
        case measure => simp [intOf]; omega
      · --
       have q_b4 : ((c6.toNat : Int)) ≤ 57 := of_decide_eq_true hb4.out
       rcases (show k = 0 ∨ k = 1 ∨ k = 2 ∨ k = 3 ∨ k = 4 from by omega) with rfl | rfl | rfl | rfl | rfl
       · --
        go_upto_region 7 with (fail)
        have hK0 := hK.subl (sK (sC sZ))
        refine wp_region_float0 (w) _ _ [0, 0, 0, 1, 0, 0, 0, 0, 0, 0, 0, 0, 4] (by kernel_rfl) (by kernel_rfl) (by kernel_rfl) (by kernel_rfl) (KS.drew hK0) (KS.drew hK) ?_
        clear hK hK0
        iterate 3 (apply lxF0 (wants0 rfl); (· intro w' h0; go_simp; (try go_bits); exact ⟨rfl, rfl⟩); simp only [Act.put, pA, pB, pC])
        apply lxR0 (wants0 rfl); (· intro w' h0 hK; have k_R3 := (hK.get m1); have c_R3_0 := k_R3.at 0 rfl; go_simp; (try go_bits); exact ⟨rfl, rfl⟩); simp only [Act.put, pA, pB, pC]
        apply lxF0 (v := .int .i64 (wrap64 (f 0 * 10))) (wants0 rfl); (· intro w' h0; go_simp; (try go_bits); exact ⟨rfl, rfl⟩); simp only [Act.put, pA, pB, pC]
        iterate 2 (apply lxF0 (wants0 rfl); (· intro w' h0; go_simp; (try go_bits); exact ⟨rfl, rfl⟩); simp only [Act.put, pA, pB, pC])
        apply lxF0 (v := .int .u8 (c6.toNat : Int)) (wants0 rfl); (· intro w' h0; go_simp; (try go_bits); exact ⟨congrArg (fun c : UInt8 => Value.int .u8 (c.toNat : Int)) (idx_b ec6.out _), rfl⟩); simp only [Act.put, pA, pB, pC]
        apply lxF0 (v := .int .u8 ((c6.toNat - 48 : Nat) : Int)) (wants0 rfl); (· intro w' h0; go_simp; (try go_bits); exact ⟨congrArg _ (by omega), rfl⟩); simp only [Act.put, pA, pB, pC]
        apply lxF0 (v := .int .i64 ((c6.toNat - 48 : Nat) : Int)) (wants0 rfl); (· intro w' h0; go_simp; (try go_bits); exact ⟨rfl, rfl⟩); simp only [Act.put, pA, pB, pC]
        apply lxF0 (v := .int .i64 (dgt (f 0) c6)) (wants0 rfl); (· intro w' h0; go_simp; (try go_bits); exact ⟨rfl, rfl⟩); simp only [Act.put, pA, pB, pC]
        apply lxF0 (wants0 rfl); (· intro w' h0; go_simp; (try go_bits); exact ⟨rfl, rfl⟩); simp only [Act.put, pA, pB, pC]
        apply lxU1 1 (Has w.heap.size R3 (.cells #[.int .i64 (dgt (f 0) c6), .int .i64 (f 1), .int .i64 (f 2), .int .i64 (f 3), .int .i64 (f 4)] 63)) (wants0 rfl)
        · intro g0 l1 hl1 w' h0 hK; have k_R3 := (hK.get m1); have ⟨c_R3_0, c_R3_1, c_R3_2, c_R3_3, c_R3_4⟩ := k_R3.c5; have f_R3 := k_R3.fz; go_simp; obtain ⟨rfl, rfl⟩ := hl1.out; exact ⟨rfl, ks_put (R := R3) h0 k_R3.1 0 [.int .i64 (dgt (f 0) c6)] (al1 (spL o_R1_R3 (h0.get m0)) aN), ks_put (R := R3) hK k_R3.1 0 [.int .i64 (dgt (f 0) c6)] (al1 (spL o_R1_R3 (hK.get m0)) (al1 (fun _ => has_put k_R3 _ _) aN))⟩
        simp only [Act.put, pB, pC]
        refine lxEnd (fun W40 hK => ?_)
        (try go_wp2)
        go_roundw
        case rel => exact ⟨0, i + 1, (upd f 0 (dgt (f 0) c6)), (by first | rfl | go_num), (by first | rfl | go_num), (by omega), (by omega), (by omega), (hid (by rw [foldR_step ec6.out, ho.out]; exact stepd (by omega) (by omega))), ⟨hK.old, (al1 (hK.all _ m0) (al1 (hK.all _ m1) aN))⟩⟩
        case measure => simp [intOf]; omega
       · --
        go_upto_region 7 with (fail)
        have hK0 := hK.subl (sK (sC sZ))
        refine wp_region_float0 (w) _ _ [0, 0, 0, 1, 0, 0, 0, 0, 0, 0, 0, 0, 4] (by kernel_rfl) (by kernel_rfl) (by kernel_rfl) (by kernel_rfl) (KS.drew hK0) (KS.drew hK) ?_
        clear hK hK0
        iterate 3 (apply lxF0 (wants0 rfl); (· intro w' h0; go_simp; (try go_bits); exact ⟨rfl, rfl⟩); simp only [Act.put, pA, pB, pC])
        apply lxR0 (wants0 rfl); (· intro w' h0 hK; have k_R3 := (hK.get m1); have c_R3_1 := k_R3.at 1 rfl; go_simp; (try go_bits); exact ⟨rfl, rfl⟩); simp only [Act.put, pA, pB, pC]
        apply lxF0 (v := .int .i64 (wrap64 (f 1 * 10))) (wants0 rfl); (· intro w' h0; go_simp; (try go_bits); exact ⟨rfl, rfl⟩); simp only [Act.put, pA, pB, pC]
        iterate 2 (apply lxF0 (wants0 rfl); (· intro w' h0; go_simp; (try go_bits); exact ⟨rfl, rfl⟩); simp only [Act.put, pA, pB, pC])
        apply lxF0 (v := .int .u8 (c6.toNat : Int)) (wants0 rfl); (· intro w' h0; go_simp; (try go_bits); exact ⟨congrArg (fun c : UInt8 => Value.int .u8 (c.toNat : Int)) (idx_b ec6.out _), rfl⟩); simp only [Act.put, pA, pB, pC]
        apply lxF0 (v := .int .u8 ((c6.toNat - 48 : Nat) : Int)) (wants0 rfl); (· intro w' h0; go_simp; (try go_bits); exact ⟨congrArg _ (by omega), rfl⟩); simp only [Act.put, pA, pB, pC]
        apply lxF0 (v := .int .i64 ((c6.toNat - 48 : Nat) : Int)) (wants0 rfl); (· intro w' h0; go_simp; (try go_bits); exact ⟨rfl, rfl⟩); simp only [Act.put, pA, pB, pC]
        apply lxF0 (v := .int .i64 (dgt (f 1) c6)) (wants0 rfl); (· intro w' h0; go_simp; (try go_bits); exact ⟨rfl, rfl⟩); simp only [Act.put, pA, pB, pC]
        apply lxF0 (wants0 rfl); (· intro w' h0; go_simp; (try go_bits); exact ⟨rfl, rfl⟩); simp only [Act.put, pA, pB, pC]
        apply lxU1 1 (Has w.heap.size R3 (.cells #[.int .i64 (f 0), .int .i64 (dgt (f 1) c6), .int .i64 (f 2), .int .i64 (f 3), .int .i64 (f 4)] 63)) (wants0 rfl)
        · intro g0 l1 hl1 w' h0 hK; have k_R3 := (hK.get m1); have ⟨c_R3_0, c_R3_1, c_R3_2, c_R3_3, c_R3_4⟩ := k_R3.c5; have f_R3 := k_R3.fz; go_simp; obtain ⟨rfl, rfl⟩ := hl1.out; exact ⟨rfl, ks_put (R := R3) h0 k_R3.1 1 [.int .i64 (dgt (f 1) c6)] (al1 (spL o_R1_R3 (h0.get m0)) aN), ks_put (R := R3) hK k_R3.1 1 [.int .i64 (dgt (f 1) c6)] (al1 (spL o_R1_R3 (hK.get m0)) (al1 (fun _ => has_put k_R3 _ _) aN))⟩
        simp only [Act.put, pB, pC]
        refine lxEnd (fun W41 hK => ?_)
        (try go_wp2)
        go_roundw
        case rel => exact ⟨1, i + 1, (upd f 1 (dgt (f 1) c6)), (by first | rfl | go_num), (by first | rfl | go_num), (by omega), (by omega), (by omega), (hid (by rw [foldR_step ec6.out, ho.out]; exact stepd (by omega) (by omega))), ⟨hK.old, (al1 (hK.all _ m0) (al1 (hK.all _ m1) aN))⟩⟩
        case measure => simp [intOf]; omega
       · --
        go_upto_region 7 with (fail)
        have hK0 := hK.subl (sK (sC sZ))
        refine wp_region_float0 (w) _ _ [0, 0, 0, 1, 0, 0, 0, 0, 0, 0, 0, 0, 4] (by kernel_rfl) (by kernel_rfl) (by kernel_rfl) (by kernel_rfl) (KS.drew hK0) (KS.drew hK) ?_
        clear hK hK0
        iterate 3 (apply lxF0 (wants0 rfl); (· intro w' h0; go_simp; (try go_bits); exact ⟨rfl, rfl⟩); simp only [Act.put, pA, pB, pC])
        apply lxR0 (wants0 rfl); (· intro w' h0 hK; have k_R3 := (hK.get m1); have c_R3_2 := k_R3.at 2 rfl; go_simp; (try go_bits); exact ⟨rfl, rfl⟩); simp only [Act.put, pA, pB, pC]
        apply lxF0 (v := .int .i64 (wrap64 (f 2 * 10))) (wants0 rfl); (· intro w' h0; go_simp; (try go_bits); exact ⟨rfl, rfl⟩); simp only [Act.put, pA, pB, pC]
        iterate 2 (apply lxF0 (wants0 rfl); (· intro w' h0; go_simp; (try go_bits); exact ⟨rfl, rfl⟩); simp only [Act.put, pA, pB, pC])
        apply lxF0 (v := .int .u8 (c6.toNat : Int)) (wants0 rfl); (· intro w' h0; go_simp; (try go_bits); exact ⟨congrArg (fun c : UInt8 => Value.int .u8 (c.toNat : Int)) (idx_b ec6.out _), rfl⟩); simp only [Act.put, pA, pB, pC]
        apply lxF0 (v := .int .u8 ((c6.toNat - 48 : Nat) : Int)) (wants0 rfl); (· intro w' h0; go_simp; (try go_bits); exact ⟨congrArg _ (by omega), rfl⟩); simp only [Act.put, pA, pB, pC]
        apply lxF0 (v := .int .i64 ((c6.toNat - 48 : Nat) : Int)) (wants0 rfl); (· intro w' h0; go_simp; (try go_bits); exact ⟨rfl, rfl⟩); simp only [Act.put, pA, pB, pC]
        apply lxF0 (v := .int .i64 (dgt (f 2) c6)) (wants0 rfl); (· intro w' h0; go_simp; (try go_bits); exact ⟨rfl, rfl⟩); simp only [Act.put, pA, pB, pC]
        apply lxF0 (wants0 rfl); (· intro w' h0; go_simp; (try go_bits); exact ⟨rfl, rfl⟩); simp only [Act.put, pA, pB, pC]
        apply lxU1 1 (Has w.heap.size R3 (.cells #[.int .i64 (f 0), .int .i64 (f 1), .int .i64 (dgt (f 2) c6), .int .i64 (f 3), .int .i64 (f 4)] 63)) (wants0 rfl)
        · intro g0 l1 hl1 w' h0 hK; have k_R3 := (hK.get m1); have ⟨c_R3_0, c_R3_1, c_R3_2, c_R3_3, c_R3_4⟩ := k_R3.c5; have f_R3 := k_R3.fz; go_simp; obtain ⟨rfl, rfl⟩ := hl1.out; exact ⟨rfl, ks_put (R := R3) h0 k_R3.1 2 [.int .i64 (dgt (f 2) c6)] (al1 (spL o_R1_R3 (h0.get m0)) aN), ks_put (R := R3) hK k_R3.1 2 [.int .i64 (dgt (f 2) c6)] (al1 (spL o_R1_R3 (hK.get m0)) (al1 (fun _ => has_put k_R3 _ _) aN))⟩
        simp only [Act.put, pB, pC]
        refine lxEnd (fun W42 hK => ?_)
        (try go_wp2)
        go_roundw
        case rel => exact ⟨2, i + 1, (upd f 2 (dgt (f 2) c6)), (by first | rfl | go_num), (by first | rfl | go_num), (by omega), (by omega), (by omega), (hid (by rw [foldR_step ec6.out, ho.out]; exact stepd (by omega) (by omega))), ⟨hK.old, (al1 (hK.all _ m0) (al1 (hK.all _ m1) aN))⟩⟩
        case measure => simp [intOf]; omega
       · --
        go_upto_region 7 with (fail)
        have hK0 := hK.subl (sK (sC sZ))
        refine wp_region_float0 (w) _ _ [0, 0, 0, 1, 0, 0, 0, 0, 0, 0, 0, 0, 4] (by kernel_rfl) (by kernel_rfl) (by kernel_rfl) (by kernel_rfl) (KS.drew hK0) (KS.drew hK) ?_
        clear hK hK0
        iterate 3 (apply lxF0 (wants0 rfl); (· intro w' h0; go_simp; (try go_bits); exact ⟨rfl, rfl⟩); simp only [Act.put, pA, pB, pC])
        apply lxR0 (wants0 rfl); (· intro w' h0 hK; have k_R3 := (hK.get m1); have c_R3_3 := k_R3.at 3 rfl; go_simp; (try go_bits); exact ⟨rfl, rfl⟩); simp only [Act.put, pA, pB, pC]
        apply lxF0 (v := .int .i64 (wrap64 (f 3 * 10))) (wants0 rfl); (· intro w' h0; go_simp; (try go_bits); exact ⟨rfl, rfl⟩); simp only [Act.put, pA, pB, pC]
        iterate 2 (apply lxF0 (wants0 rfl); (· intro w' h0; go_simp; (try go_bits); exact ⟨rfl, rfl⟩); simp only [Act.put, pA, pB, pC])
        apply lxF0 (v := .int .u8 (c6.toNat : Int)) (wants0 rfl); (· intro w' h0; go_simp; (try go_bits); exact ⟨congrArg (fun c : UInt8 => Value.int .u8 (c.toNat : Int)) (idx_b ec6.out _), rfl⟩); simp only [Act.put, pA, pB, pC]
        apply lxF0 (v := .int .u8 ((c6.toNat - 48 : Nat) : Int)) (wants0 rfl); (· intro w' h0; go_simp; (try go_bits); exact ⟨congrArg _ (by omega), rfl⟩); simp only [Act.put, pA, pB, pC]
        apply lxF0 (v := .int .i64 ((c6.toNat - 48 : Nat) : Int)) (wants0 rfl); (· intro w' h0; go_simp; (try go_bits); exact ⟨rfl, rfl⟩); simp only [Act.put, pA, pB, pC]
        apply lxF0 (v := .int .i64 (dgt (f 3) c6)) (wants0 rfl); (· intro w' h0; go_simp; (try go_bits); exact ⟨rfl, rfl⟩); simp only [Act.put, pA, pB, pC]
        apply lxF0 (wants0 rfl); (· intro w' h0; go_simp; (try go_bits); exact ⟨rfl, rfl⟩); simp only [Act.put, pA, pB, pC]
        apply lxU1 1 (Has w.heap.size R3 (.cells #[.int .i64 (f 0), .int .i64 (f 1), .int .i64 (f 2), .int .i64 (dgt (f 3) c6), .int .i64 (f 4)] 63)) (wants0 rfl)
        · intro g0 l1 hl1 w' h0 hK; have k_R3 := (hK.get m1); have ⟨c_R3_0, c_R3_1, c_R3_2, c_R3_3, c_R3_4⟩ := k_R3.c5; have f_R3 := k_R3.fz; go_simp; obtain ⟨rfl, rfl⟩ := hl1.out; exact ⟨rfl, ks_put (R := R3) h0 k_R3.1 3 [.int .i64 (dgt (f 3) c6)] (al1 (spL o_R1_R3 (h0.get m0)) aN), ks_put (R := R3) hK k_R3.1 3 [.int .i64 (dgt (f 3) c6)] (al1 (spL o_R1_R3 (hK.get m0)) (al1 (fun _ => has_put k_R3 _ _) aN))⟩
        simp only [Act.put, pB, pC]
        refine lxEnd (fun W43 hK => ?_)
        (try go_wp2)
        go_roundw
        case rel => exact ⟨3, i + 1, (upd f 3 (dgt (f 3) c6)), (by first | rfl | go_num), (by first | rfl | go_num), (by omega), (by omega), (by omega), (hid (by rw [foldR_step ec6.out, ho.out]; exact stepd (by omega) (by omega))), ⟨hK.old, (al1 (hK.all _ m0) (al1 (hK.all _ m1) aN))⟩⟩
        case measure => simp [intOf]; omega
       · --
        go_upto_region 7 with (fail)
        have hK0 := hK.subl (sK (sC sZ))
        refine wp_region_float0 (w) _ _ [0, 0, 0, 1, 0, 0, 0, 0, 0, 0, 0, 0, 4] (by kernel_rfl) (by kernel_rfl) (by kernel_rfl) (by kernel_rfl) (KS.drew hK0) (KS.drew hK) ?_
        clear hK hK0
        iterate 3 (apply lxF0 (wants0 rfl); (· intro w' h0; go_simp; (try go_bits); exact ⟨rfl, rfl⟩); simp only [Act.put, pA, pB, pC])
        apply lxR0 (wants0 rfl); (· intro w' h0 hK; have k_R3 := (hK.get m1); have c_R3_4 := k_R3.at 4 rfl; go_simp; (try go_bits); exact ⟨rfl, rfl⟩); simp only [Act.put, pA, pB, pC]
        apply lxF0 (v := .int .i64 (wrap64 (f 4 * 10))) (wants0 rfl); (· intro w' h0; go_simp; (try go_bits); exact ⟨rfl, rfl⟩); simp only [Act.put, pA, pB, pC]
        iterate 2 (apply lxF0 (wants0 rfl); (· intro w' h0; go_simp; (try go_bits); exact ⟨rfl, rfl⟩); simp only [Act.put, pA, pB, pC])
        apply lxF0 (v := .int .u8 (c6.toNat : Int)) (wants0 rfl); (· intro w' h0; go_simp; (try go_bits); exact ⟨congrArg (fun c : UInt8 => Value.int .u8 (c.toNat : Int)) (idx_b ec6.out _), rfl⟩); simp only [Act.put, pA, pB, pC]
        apply lxF0 (v := .int .u8 ((c6.toNat - 48 : Nat) : Int)) (wants0 rfl); (· intro w' h0; go_simp; (try go_bits); exact ⟨congrArg _ (by omega), rfl⟩); simp only [Act.put, pA, pB, pC]
        apply lxF0 (v := .int .i64 ((c6.toNat - 48 : Nat) : Int)) (wants0 rfl); (· intro w' h0; go_simp; (try go_bits); exact ⟨rfl, rfl⟩); simp only [Act.put, pA, pB, pC]
        apply lxF0 (v := .int .i64 (dgt (f 4) c6)) (wants0 rfl); (· intro w' h0; go_simp; (try go_bits); exact ⟨rfl, rfl⟩); simp only [Act.put, pA, pB, pC]
        apply lxF0 (wants0 rfl); (· intro w' h0; go_simp; (try go_bits); exact ⟨rfl, rfl⟩); simp only [Act.put, pA, pB, pC]
        apply lxU1 1 (Has w.heap.size R3 (.cells #[.int .i64 (f 0), .int .i64 (f 1), .int .i64 (f 2), .int .i64 (f 3), .int .i64 (dgt (f 4) c6)] 63)) (wants0 rfl)
        · intro g0 l1 hl1 w' h0 hK; have k_R3 := (hK.get m1); have ⟨c_R3_0, c_R3_1, c_R3_2, c_R3_3, c_R3_4⟩ := k_R3.c5; have f_R3 := k_R3.fz; go_simp; obtain ⟨rfl, rfl⟩ := hl1.out; exact ⟨rfl, ks_put (R := R3) h0 k_R3.1 4 [.int .i64 (dgt (f 4) c6)] (al1 (spL o_R1_R3 (h0.get m0)) aN), ks_put (R := R3) hK k_R3.1 4 [.int .i64 (dgt (f 4) c6)] (al1 (spL o_R1_R3 (hK.get m0)) (al1 (fun _ => has_put k_R3 _ _) aN))⟩
        simp only [Act.put, pB, pC]
        refine lxEnd (fun W44 hK => ?_)
        (try go_wp2)
        go_roundw
        case rel => exact ⟨4, i + 1, (upd f 4 (dgt (f 4) c6)), (by first | rfl | go_num), (by first | rfl | go_num), (by omega), (by omega), (by omega), (hid (by rw [foldR_step ec6.out, ho.out]; exact stepd (by omega) (by omega))), ⟨hK.old, (al1 (hK.all _ m0) (al1 (hK.all _ m1) aN))⟩⟩
        case measure => simp [intOf]; omega
end Go.Proofs.YtbbjjjaclbkolaaDoor
