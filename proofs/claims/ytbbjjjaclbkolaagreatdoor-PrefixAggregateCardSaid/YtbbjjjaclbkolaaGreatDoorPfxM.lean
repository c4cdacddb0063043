/- merge walked. -/
import Derived.Test.YtbbjjjaclbkolaaGreatDoorPfxK
namespace Go.Proofs.YtbbjjjaclbkolaaGreatDoor
open Go.RowKit
open Go.Lib (decDigits)
set_option maxRecDepth 100000 in
theorem merge_any (v0 : Value) (xs : List Pf) (w w0 : World) (h0 : OwV pfxK 31 w.heap.size w0 v0 xs) (hb0 : Below w.heap.size w w0) (hx : AllOk xs) (hn : xs.length ≤ 1000) :
    Calls Tryz.prog 17 #[v0] w0 fun e w' => ∃ y0, e = .returned y0 ∧ (OwV pfxK 31 w.heap.size w' y0 (mergeS xs) ∧ w0.grownBy w' v0.ownBlock ∧ (y0.ownBlock = v0.ownBlock ∨ ∀ g, y0.ownBlock = some g → w0.heap.size ≤ g)) ∧ Below w.heap.size w w' := by
  have h0_0 := h0; obtain ⟨p_h0, c_h0, rfl, n_h0⟩ := h0.sh
  have hK : KS w [fun w1 => GB w0 p_h0 w1, fun w1 => OwV pfxK 31 w.heap.size w1 (.slice p_h0 xs.length c_h0) xs] w0 := (KS.add (KS.add (KS.startR hb0) (fun w' hb => h0_0.below hb)) (fun w' hb => (GB.start _ _).below hb))
  refine Calls.hide (fun Q0 hQ0 => ?_)
  go_enter Tryz.func17, Tryz.ntmps17
  go_wp2_with fail
  go_loopw [0] (fun s0 wl => ∃ (p : Option Addr) (c : Nat) (ys : List Pf), s0 = .slice p ys.length c ∧ RowKit.Hid (Lies w0 p_h0 p) ∧ RowKit.Hid (mergeS xs = mergeS ys) ∧ RowKit.Hid (AllOk ys) ∧ (ys.length ≤ 1000) ∧ KS w [fun w1 => OwV pfxK 31 w.heap.size w1 (.slice p ys.length c) ys, fun w1 => GB w0 p_h0 w1] wl) (fun s0 _ => sliceLen s0)
  case atStart => exact ⟨p_h0, c_h0, xs, rfl, (hid (Lies.self _ _)), (hid rfl), (hid hx), (by omega), ⟨hK.old, (al1 (hK.all _ m1) (al1 (hK.all _ m0) aN))⟩⟩
  case round =>
   clear hK
   obtain ⟨p, c, ys, rfl, hl, hm, hok, hy, hK⟩ := hrel
   generalize wr = W1 at hK ⊢
   go_upto_region 1 with (fail)
   refine wp_region_tx w hK ?_
   clear hK
   iterate 2 (apply txF (wants0 rfl); (· intro w' hK; go_simp; (try go_bits); exact ⟨rfl, rfl⟩); simp only [Act.put, pA, pB, pC])
   obtain ⟨b1, hb1⟩ : ∃ b : Bool, RowKit.Hid (decide (2 ≤ ((ys.length : Int))) = b) := ⟨_, hid rfl⟩
   apply txB b1 (wants0 rfl); (· intro w' hK; go_simp; (try go_bits); exact ⟨by have q := hb1.out; subst q; first | rfl | simp, rfl⟩); simp only [Act.put, pA, pB, pC]
   refine txEnd (fun W2 hK => ?_)
   cases b1
   · --
    have q_b1 : ((ys.length : Int)) < 2 := Int.not_le.1 (of_decide_eq_false hb1.out)
    have heq := hid (show mergeS xs = ys from hm.out.trans (mergeS_short (by omega)))
    go_wp2
    try go_ret
    show Q0 (.returned (.slice p ys.length c)) _
    exact (by obtain rfl := hQ0.out; exact ⟨_, rfl, row_post (by rw [heq.out]; exact hK.get m0) (hK.get m1) hl.out, hK.old⟩)
   · --
    have q_b1 : 2 ≤ ((ys.length : Int)) := of_decide_eq_true hb1.out
    have hlen := hid (show 2 ≤ ys.length from by omega)
    obtain ⟨xl, exl⟩ : ∃ x, RowKit.Hid (ys[ys.length - 1]? = some x) := ⟨_, hid (List.getElem?_eq_getElem (show ys.length - 1 < ys.length from (by omega)))⟩
    have i3 : ys.length - 1 < ys.length := by have q : ys.length - 1 < ys.length := (by omega); first | exact q | (simp at q; omega) | omega
    obtain ⟨g3, o3, q3, l3⟩ := ((hK.get m0).slv).ptr exl.out
    obtain rfl : o3 = 0 := ((hK.get m0)).off q3
    subst q3
    replace hK := KS.atP hK (hK.get m0).slv exl.out
    obtain ⟨xk, exk⟩ : ∃ x, RowKit.Hid (ys[ys.length - 2]? = some x) := ⟨_, hid (List.getElem?_eq_getElem (show ys.length - 2 < ys.length from (by omega)))⟩
    have i4 : ys.length - 2 < ys.length := by have q : ys.length - 2 < ys.length := (by omega); first | exact q | (simp at q; omega) | omega
    replace hK := KS.atP hK (hK.get m1).slv exk.out
    have okl := hok.out.at exl.out; have okk := hok.out.at exk.out; have wl := okl.w
    go_upto_region 3 with (fail)
    refine wp_region_tx w hK ?_
    clear hK
    iterate 2 (apply txF (wants0 rfl); (· intro w' hK; go_simp; (try go_bits); exact ⟨rfl, rfl⟩); simp only [Act.put, pA, pB, pC])
    apply txF (v := .int .i64 ((ys.length - 1 : Nat) : Int)) (wants0 rfl); (· intro w' hK; go_simp; (try go_bits); exact ⟨congrArg _ (by omega), rfl⟩); simp only [Act.put, pA, pB, pC]
    apply txF (wants0 rfl); (· intro w' hK; go_simp; (try go_bits); exact ⟨rfl, rfl⟩); simp only [Act.put, pA, pB, pC]
    apply txF (wants0 rfl); (· intro w' hK; have c_CEL3_0 : w'.cell? ⟨g3, (ys.length - 1) * 2, none⟩ = some (.int .u32 (xl.1 : Int)) := (by have q := (hK.get m1).2 0 _ rfl; simpa using q); have c_CEL3_1 : w'.cell? ⟨g3, (ys.length - 1) * 2 + 1, none⟩ = some (.int .i64 xl.2) := (by have q := (hK.get m1).2 1 _ rfl; simpa using q); go_simp; (try go_bits); exact ⟨rfl, rfl⟩); simp only [Act.put, pA, pB, pC]
    apply txH (v := .tuple #[.agg #[.int .u32 (paA xl.1 xl.2 : Int), .int .i64 (paN xl.1 xl.2)], .int .i64 (paE xl.1 xl.2)]) (wants0 rfl)
    · intro v1 hv1 w' hK; go_simp; (try go_bits); refine (parent_all xl.1 xl.2 w' (by first | assumption | omega | exact W32.zero)).mono ?_; rintro e w5 ⟨rfl, hb⟩; obtain rfl := hv1.out; exact ⟨_, rfl, rfl, hb⟩
    simp only [Act.put, pA, pB, pC]
    iterate 3 (apply txF (wants0 rfl); (· intro w' hK; go_simp; (try go_bits); exact ⟨rfl, rfl⟩); simp only [Act.put, pA, pB, pC])
    apply txA2 (.cells #[.int .u32 0, .int .i64 0] 31) (wants0 rfl)
    · intro w' hK; go_simp; rfl
    intro R5 q_R5
    have n6 : ob ((some ⟨g3, 0, none⟩)) ≠ some R5 := q_R5.row m2
    have nb_R5 : w0.heap.size ≤ R5 := q_R5.gb m3
    clear q_R5
    simp only [mkOf, Act.put, pA, pB, pC]
    apply txU 0 (Has w.heap.size R5 (.cells #[.int .u32 (paA xl.1 xl.2 : Int), .int .i64 (paN xl.1 xl.2)] 31)) (wants0 rfl)
    · intro l1 hl1 w' hK; have k_R5 := (hK.get m0); have ⟨c_R5_0, c_R5_1⟩ := k_R5.c2; have f_R5 := k_R5.fz; go_simp; obtain rfl := hl1.out; exact ⟨rfl, ks_put (R := R5) hK k_R5.1 0 [.int .u32 (paA xl.1 xl.2 : Int), .int .i64 (paN xl.1 xl.2)] (al1 (fun _ => has_put k_R5 _ _) (al1 (spC (fun e => n6 (congrArg some e)) (hK.get m1)) (al1 (spC (fun e => n6 (congrArg some e)) (hK.get m2)) (al1 (spO n6 (.inl pfxK_free) (hK.get m3)) (al1 (spGB nb_R5 (hK.get m4)) aN)))))⟩
    simp only [Act.put, pB]
    apply txF (wants0 rfl); (· intro w' hK; go_simp; (try go_bits); exact ⟨rfl, rfl⟩); simp only [Act.put, pA, pB, pC]
    refine txEnd (fun W7 hK => ?_)
    go_upto_region 4 with (fail)
    refine wp_region_tx w hK ?_
    clear hK
    apply txF (wants0 rfl); (· intro w' hK; go_simp; (try go_bits); exact ⟨rfl, rfl⟩); simp only [Act.put, pA, pB, pC]
    obtain ⟨b2, hb2⟩ : ∃ b : Bool, RowKit.Hid ((((paE xl.1 xl.2)) != 0) = b) := ⟨_, hid rfl⟩
    apply txB b2 (wants0 rfl); (· intro w' hK; go_simp; (try go_bits); exact ⟨by have q := hb2.out; subst q; first | rfl | simp, rfl⟩); simp only [Act.put, pA, pB, pC]
    refine txEnd (fun W8 hK => ?_)
    cases b2
    · --
     have hn0 := hid (show xl.2 ≠ 0 from fun e => by have q := hb2.out; rw [paE_ok okl, if_pos e] at q; simp at q)
     go_upto_region 5 with (fail)
     refine wp_region_tx w hK ?_
     clear hK
     apply txF (wants0 rfl); (· intro w' hK; have k_R5 := (hK.get m0); have ⟨c_R5_0, c_R5_1⟩ := k_R5.c2; go_simp; (try go_bits); exact ⟨rfl, rfl⟩); simp only [Act.put, pA, pB, pC]
     apply txH (v := .tuple #[.agg #[.int .u32 ((parP xl).1 : Int), .int .i64 xl.2], .agg #[.int .u32 (((parP xl).1 + siz xl.2 : Nat) : Int), .int .i64 xl.2], .int .i64 0]) (wants0 rfl)
     · intro v1 hv1 w' hK; go_simp; (try go_bits); refine (split_par w' okl hn0.out).mono ?_; rintro e w5 ⟨rfl, hb⟩; obtain rfl := hv1.out; exact ⟨_, rfl, rfl, hb⟩
     simp only [Act.put, pA, pB, pC]
     iterate 4 (apply txF (wants0 rfl); (· intro w' hK; go_simp; (try go_bits); exact ⟨rfl, rfl⟩); simp only [Act.put, pA, pB, pC])
     apply txA2 (.cells #[.int .u32 0, .int .i64 0] 31) (wants0 rfl)
     · intro w' hK; go_simp; rfl
     intro R9 q_R9
     have o_R5_R9 : R5 < R9 := q_R9.box m0
     have n10 : ob ((some ⟨g3, 0, none⟩)) ≠ some R9 := q_R9.row m3
     have nb_R9 : w0.heap.size ≤ R9 := q_R9.gb m4
     clear q_R9
     simp only [mkOf, Act.put, pA, pB, pC]
     apply txA2 (.cells #[.int .u32 0, .int .i64 0] 31) (wants0 rfl)
     · intro w' hK; go_simp; rfl
     intro R11 q_R11
     have o_R5_R11 : R5 < R11 := q_R11.box m1
     have o_R9_R11 : R9 < R11 := q_R11.box m0
     have n12 : ob ((some ⟨g3, 0, none⟩)) ≠ some R11 := q_R11.row m4
     have nb_R11 : w0.heap.size ≤ R11 := q_R11.gb m5
     clear q_R11
     simp only [mkOf, Act.put, pA, pB, pC]
     apply txU 1 (Has w.heap.size R9 (.cells #[.int .u32 ((parP xl).1 : Int), .int .i64 xl.2] 31)) (wants0 rfl)
     · intro l1 hl1 w' hK; have k_R9 := (hK.get m1); have ⟨c_R9_0, c_R9_1⟩ := k_R9.c2; have f_R9 := k_R9.fz; go_simp; obtain rfl := hl1.out; exact ⟨rfl, ks_put (R := R9) hK k_R9.1 0 [.int .u32 ((parP xl).1 : Int), .int .i64 xl.2] (al1 (spG o_R9_R11 (hK.get m0)) (al1 (fun _ => has_put k_R9 _ _) (al1 (spL o_R5_R9 (hK.get m2)) (al1 (spC (fun e => n10 (congrArg some e)) (hK.get m3)) (al1 (spC (fun e => n10 (congrArg some e)) (hK.get m4)) (al1 (spO n10 (.inl pfxK_free) (hK.get m5)) (al1 (spGB nb_R9 (hK.get m6)) aN)))))))⟩
     simp only [Act.put, pB, pC]
     apply txU 0 (Has w.heap.size R11 (.cells #[.int .u32 (((parP xl).1 + siz xl.2 : Nat) : Int), .int .i64 xl.2] 31)) (wants0 rfl)
     · intro l1 hl1 w' hK; have k_R11 := (hK.get m0); have ⟨c_R11_0, c_R11_1⟩ := k_R11.c2; have f_R11 := k_R11.fz; go_simp; obtain rfl := hl1.out; exact ⟨rfl, ks_put (R := R11) hK k_R11.1 0 [.int .u32 (((parP xl).1 + siz xl.2 : Nat) : Int), .int .i64 xl.2] (al1 (fun _ => has_put k_R11 _ _) (al1 (spL o_R9_R11 (hK.get m1)) (al1 (spL o_R5_R11 (hK.get m2)) (al1 (spC (fun e => n12 (congrArg some e)) (hK.get m3)) (al1 (spC (fun e => n12 (congrArg some e)) (hK.get m4)) (al1 (spO n12 (.inl pfxK_free) (hK.get m5)) (al1 (spGB nb_R11 (hK.get m6)) aN)))))))⟩
     simp only [Act.put, pB]
     apply txF (wants0 rfl); (· intro w' hK; go_simp; (try go_bits); exact ⟨rfl, rfl⟩); simp only [Act.put, pA, pB, pC]
     refine txEnd (fun W13 hK => ?_)
     go_upto_region 6 with (fail)
     have hK0 := hK
     refine wp_region_float0 (w) _ _ [0, 0, 0, 0, 0, 0, 0, 0, 0, 0, 0, 0, 0, 0, 0, 0] (by kernel_rfl) (by kernel_rfl) (by kernel_rfl) (by kernel_rfl) (KS.drew hK0) (KS.drew hK) ?_
     clear hK hK0
     iterate 2 (apply lxF0 (wants0 rfl); (· intro w' h0; go_simp; (try go_bits); exact ⟨rfl, rfl⟩); simp only [Act.put, pA, pB, pC])
     apply lxF0 (v := .int .i64 ((ys.length - 2 : Nat) : Int)) (wants0 rfl); (· intro w' h0; go_simp; (try go_bits); exact ⟨congrArg _ (by omega), rfl⟩); simp only [Act.put, pA, pB, pC]
     apply lxF0 (wants0 rfl); (· intro w' h0; go_simp; (try go_bits); exact ⟨rfl, rfl⟩); simp only [Act.put, pA, pB, pC]
     apply lxF0 (wants0 rfl); (· intro w' h0; have c_CEL4_0 : w'.cell? ⟨g3, (ys.length - 2) * 2, none⟩ = some (.int .u32 (xk.1 : Int)) := (by have q := (h0.get m3).2 0 _ rfl; simpa using q); have c_CEL4_1 : w'.cell? ⟨g3, (ys.length - 2) * 2 + 1, none⟩ = some (.int .i64 xk.2) := (by have q := (h0.get m3).2 1 _ rfl; simpa using q); go_simp; (try go_bits); exact ⟨rfl, rfl⟩); simp only [Act.put, pA, pB, pC]
     apply lxF0 (wants0 rfl); (· intro w' h0; have k_R9 := (h0.get m1); have ⟨c_R9_0, c_R9_1⟩ := k_R9.c2; go_simp; (try go_bits); exact ⟨rfl, rfl⟩); simp only [Act.put, pA, pB, pC]
     obtain ⟨b3, hb3⟩ : ∃ b : Bool, RowKit.Hid ((!(decide (((xk.1 : Int)) = (((parP xl).1 : Int))) && decide (xk.2 = xl.2))) = b) := ⟨_, hid rfl⟩
     apply lxB0 b3 (wants0 rfl); (· intro w' h0; go_simp; (try go_bits); have q := hb3.out; subst q; (repeat' split) <;> exact ⟨congrArg Value.bool (by simp_all), rfl⟩); simp only [Act.put, pA, pB, pC]
     apply lxF0 (wants0 rfl); (· intro w' h0; go_simp; (try go_bits); exact ⟨rfl, rfl⟩); simp only [Act.put, pA, pB, pC]
     cases b3
     · --
      iterate 2 (apply lxF0 (wantsg (j := 7) (d := 38) (b := false) rfl rfl rfl rfl); (· intro w' h0; go_simp; (try go_bits); exact ⟨rfl, rfl⟩); simp only [Act.put, pA, pB, pC])
      apply lxF0 (v := .int .i64 ((ys.length - 1 : Nat) : Int)) (wantsg (j := 7) (d := 38) (b := false) rfl rfl rfl rfl); (· intro w' h0; go_simp; (try go_bits); exact ⟨congrArg _ (by omega), rfl⟩); simp only [Act.put, pA, pB, pC]
      apply lxF0 (wantsg (j := 7) (d := 38) (b := false) rfl rfl rfl rfl); (· intro w' h0; go_simp; (try go_bits); exact ⟨rfl, rfl⟩); simp only [Act.put, pA, pB, pC]
      apply lxF0 (wantsg (j := 7) (d := 38) (b := false) rfl rfl rfl rfl); (· intro w' h0; have c_CEL3_0 : w'.cell? ⟨g3, (ys.length - 1) * 2, none⟩ = some (.int .u32 (xl.1 : Int)) := (by have q := (h0.get m4).2 0 _ rfl; simpa using q); have c_CEL3_1 : w'.cell? ⟨g3, (ys.length - 1) * 2 + 1, none⟩ = some (.int .i64 xl.2) := (by have q := (h0.get m4).2 1 _ rfl; simpa using q); go_simp; (try go_bits); exact ⟨rfl, rfl⟩); simp only [Act.put, pA, pB, pC]
      apply lxF0 (wantsg (j := 7) (d := 38) (b := false) rfl rfl rfl rfl); (· intro w' h0; have k_R11 := (h0.get m0); have ⟨c_R11_0, c_R11_1⟩ := k_R11.c2; go_simp; (try go_bits); exact ⟨rfl, rfl⟩); simp only [Act.put, pA, pB, pC]
      obtain ⟨b4, hb4⟩ : ∃ b : Bool, RowKit.Hid ((!(decide (((xl.1 : Int)) = ((((parP xl).1 + siz xl.2 : Nat) : Int))) && decide (xl.2 = xl.2))) = b) := ⟨_, hid rfl⟩
      apply lxB0 b4 (wantsg (j := 7) (d := 38) (b := false) rfl rfl rfl rfl); (· intro w' h0; go_simp; (try go_bits); have q := hb4.out; subst q; (repeat' split) <;> exact ⟨congrArg Value.bool (by simp_all), rfl⟩); simp only [Act.put, pA, pB, pC]
      apply lxF0 (wants0 rfl); (· intro w' h0; go_simp; (try go_bits); exact ⟨rfl, rfl⟩); simp only [Act.put, pA, pB, pC]
      refine lxEnd (fun W14 hK => ?_)
      cases b4
      · --
       have hc2 : ys.length ≤ c ∧ c ≤ 9223372036854775807 := by have q := (hK.get m5).le; (try simp at q); omega
       have hc3 : ys.length ≤ c + 2 := by omega
       replace hK := hK.add (F := fun w1 => OwV pfxK 31 w.heap.size w1 (.slice (some ⟨g3, 0, none⟩) (ys.length - 2) c) (ys.take (ys.length - 2))) (fun w' hb => (hK.all _ m5 w' hb).take (by omega))
       go_upto_region 7 with (fail)
       have v_W14 := hK.old.size
       have b15 : ∀ g, ob ((some ⟨g3, 0, none⟩)) = some g → g < W14.heap.size := fun g e => ((hK.get m0).block e).2
       have b16 : ∀ g, ob ((some ⟨g3, 0, none⟩)) = some g → g < W14.heap.size := fun g e => ((hK.get m6).block e).2
       have hK0 := hK.subl (sC (sK (sK (sK (sC (sC (sC (sC sZ))))))))
       replace hK0 := hK0.add (F := fun w1 => W14.heap.size ≤ w1.heap.size) (fun _ hb => hb.size)
       refine wp_region_floatB (w) (W14.heap.size) _ _ [0, 0, 0, 0, 0, 3, 5, 0] (by kernel_rfl) (by kernel_rfl) (by kernel_rfl) (by kernel_rfl) (fun _ h0 => h0.get m0) (KS.drew hK0) (KS.drew hK) ?_
       clear hK hK0
       iterate 2 (apply lxF0 (wants0 rfl); (· intro w' h0; go_simp; (try go_bits); exact ⟨rfl, rfl⟩); simp only [Act.put, pA, pB, pC])
       apply lxF0 (v := .int .i64 ((ys.length - 2 : Nat) : Int)) (wants0 rfl); (· intro w' h0; go_simp; (try go_bits); exact ⟨congrArg _ (by omega), rfl⟩); simp only [Act.put, pA, pB, pC]
       apply lxF0 (v := .slice (some ⟨g3, 0, none⟩) (ys.length - 2) c) (wants0 rfl); (· intro w' h0; go_simp; (try go_bits); exact ⟨rfl, rfl⟩); simp only [Act.put, pA, pB, pC]
       apply lxF0 (wants0 rfl); (· intro w' h0; have k_R5 := (h0.get m3); have ⟨c_R5_0, c_R5_1⟩ := k_R5.c2; go_simp; (try go_bits); exact ⟨rfl, rfl⟩); simp only [Act.put, pA, pB, pC]
       apply lxA0 (.cells #[.int .u32 (paA xl.1 xl.2 : Int), .int .i64 (paN xl.1 xl.2)] 31) (wants0 rfl)
       · intro w' h0; go_simp; rfl
       intro R17
       simp only [mkOf, Act.put, pA, pB, pC]
       refine lxApp (K := pfxK) (t := 31) (xs := ys.take (ys.length - 2)) (ys := [(paA xl.1 xl.2, paN xl.1 xl.2)]) (.tmp 50) (.tmp 52) (wants0 rfl) (by rfl) Tryz.underlying22 Tryz.underlying22 infoPf rfl (by rfl) (by rfl) (by simp [maxLen]; omega) (by simp; omega) (fun r => [Has w.heap.size R11 (.cells #[.int .u32 (((parP xl).1 + siz xl.2 : Nat) : Int), .int .i64 xl.2] 31), Has w.heap.size R9 (.cells #[.int .u32 ((parP xl).1 : Int), .int .i64 xl.2] 31), Has w.heap.size R5 (.cells #[.int .u32 (paA xl.1 xl.2 : Int), .int .i64 (paN xl.1 xl.2)] 31), fun w1 => GB w0 p_h0 w1, fun _ => ob r ≠ some R11, fun _ => ob r ≠ some R9, fun _ => ob r ≠ some R5, fun _ => Lies w0 p_h0 r]) b16 (fun w' h0 hK => ⟨(hK.get m1), (fun _ _ => .inl pfxK_free), (SlV.one (hK.get m0) rfl (Nat.le_refl 1) (by decide))⟩) (fun w' h0 hK => (al1 (gwL (h0.get m0)) (al1 (gwH (h0.get m1) n12) (al1 (gwH (h0.get m2) n10) (al1 (gwH (h0.get m3) n6) aN))))) (fun w' r h0 hK hr => (al1 (gwH (hK.get m2) n12) (al1 (gwH (hK.get m3) n10) (al1 (gwH (hK.get m4) n6) (al1 (gwG (hK.get m8) hl.out) (al1 (gwC (apb hr n12 ((hK.get m2)).ltS)) (al1 (gwC (apb hr n10 ((hK.get m3)).ltS)) (al1 (gwC (apb hr n6 ((hK.get m4)).ltS)) (al1 (gwC (Lies.app hr hl.out ((hK.get m8)).sz)) aN))))))))) ?_
       intro sv18
       rw [(show ys.take (ys.length - 2) ++ [(paA xl.1 xl.2, paN xl.1 xl.2)] = popS ys (parP xl) from by rw [pair_par okl hn0.out]; rfl)]
       simp only [Act.put, pA, pB, pC]
       apply lxF0 (wants0 rfl); (· intro w' h0; go_simp; (try go_bits); exact ⟨rfl, rfl⟩); simp only [Act.put, pA, pB]
       refine lxEnd (fun W23 hK => ?_)
       have n19 := hK.get m5
       have n20 := hK.get m6
       have n21 := hK.get m7
       have n22 := hK.get m8
       (try go_wp2)
       have hsib := hid ((sib_iff okl okk hn0.out).2 (by have e3 := hb3.out; have e4 := hb4.out; simp at e3 e4; refine ⟨⟨by omega, by omega⟩, by omega⟩))
       go_roundw
       case rel => exact ⟨sv18.p, sv18.c, (popS ys (parP xl)), (by first | rfl | go_num), (hid n22), (hid (hm.out.trans (mergeS_go exl.out exk.out hlen.out hsib.out))), (hid (allok_go hok.out exl.out exk.out hsib.out)), (by rw [popS_len _ hlen.out]; omega), ⟨hK.old, (al1 (hK.all _ m0) (al1 (hK.all _ m4) aN))⟩⟩
       case measure => have := popS_len (parP xl) hlen.out; have := hlen.out; simp only [sliceLen]; omega
      · --
       have heq := hid (show mergeS xs = ys from hm.out.trans (mergeS_stop exl.out exk.out hlen.out (fun hs => by have s := (sib_iff okl okk hn0.out).1 hs; have e := hb4.out; simp [s.1.1, s.1.2] at e; (try omega))))
       go_wp2
       try go_ret
       show Q0 (.returned (.slice (some ⟨g3, 0, none⟩) ys.length c)) _
       exact (by obtain rfl := hQ0.out; exact ⟨_, rfl, row_post (by rw [heq.out]; exact hK.get m5) (hK.get m6) hl.out, hK.old⟩)
     · --
      iterate 7 (apply lxN (j := 7) (d := 38) (b := false) rfl rfl rfl rfl; simp only [Act.put, pA, pB, pC])
      apply lxF0 (wants0 rfl); (· intro w' h0; go_simp; (try go_bits); exact ⟨rfl, rfl⟩); simp only [Act.put, pA, pB, pC]
      refine lxEnd (fun W24 hK => ?_)
      have heq := hid (show mergeS xs = ys from hm.out.trans (mergeS_stop exl.out exk.out hlen.out (fun hs => by have s := (sib_iff okl okk hn0.out).1 hs; have e := hb3.out; simp [s.1.1, s.1.2] at e; (try omega))))
      go_wp2
      try go_ret
      show Q0 (.returned (.slice (some ⟨g3, 0, none⟩) ys.length c)) _
      exact (by obtain rfl := hQ0.out; exact ⟨_, rfl, row_post (by rw [heq.out]; exact hK.get m5) (hK.get m6) hl.out, hK.old⟩)
    · --
     have heq := hid (show mergeS xs = ys from hm.out.trans (mergeS_stop0 exl.out exk.out hlen.out (by have q := hb2.out; rw [paE_ok okl] at q; simp at q; exact q)))
     go_wp2
     try go_ret
     show Q0 (.returned (.slice (some ⟨g3, 0, none⟩) ys.length c)) _
     exact (by obtain rfl := hQ0.out; exact ⟨_, rfl, row_post (by rw [heq.out]; exact hK.get m3) (hK.get m4) hl.out, hK.old⟩)
end Go.Proofs.YtbbjjjaclbkolaaGreatDoor
