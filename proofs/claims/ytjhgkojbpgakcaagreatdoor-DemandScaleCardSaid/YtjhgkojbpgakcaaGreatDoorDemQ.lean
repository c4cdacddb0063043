/- The order of demands walked with the stricter order of worlds. -/
import Derived.Test.YtjhgkojbpgakcaaGreatDoorDemM
import Derived.Test.YtjhgkojbpgakcaaGreatDoorDemK
import Derived.Test.YtjhgkojbpgakcaaGreatDoorRowI
import Derived.Test.YtjhgkojbpgakcaaGreatDoorQ
namespace Go.Proofs.YtjhgkojbpgakcaaGreatDoor.Q
open Go.RowKit
set_option maxRecDepth 100000 in
theorem isNaN_i64  (x : Int) (w : World)   :
    Calls Tryz.prog 64 #[.int .i64 x] w fun e w' => e = .returned (.bool false) ∧ Below w.heap.size w w' := by
  have hK : KS w [] w := (KS.start w)
  refine Calls.hide (fun Q0 hQ0 => ?_)
  go_enter Tryz.func64, Tryz.ntmps64
  go_upto_region 1 with (fail)
  refine wp_region_tx w hK ?_
  clear hK
  iterate 2 (apply txF (wants0 rfl); (· intro w' hK; go_simp; (try go_bits); exact ⟨rfl, rfl⟩); simp only [Act.put, pA, pB, pC])
  apply txF (v := .bool false) (wants0 rfl); (· intro w' hK; go_simp; (try go_bits); exact ⟨congrArg Value.bool (by simp), rfl⟩); simp only [Act.put, pA, pB, pC]
  apply txF (wants0 rfl); (· intro w' hK; go_simp; (try go_bits); exact ⟨rfl, rfl⟩); simp only [Act.put, pA, pB, pC]
  refine txEnd (fun W1 hK => ?_)
  go_wp2
  try go_ret
  show Q0 (.returned (.bool false)) _
  exact (by obtain rfl := hQ0.out; exact ⟨rfl, hK.old⟩)
set_option maxRecDepth 100000 in
theorem compare_i64  (x : Int) (y : Int) (w : World)   :
    Calls Tryz.prog 45 #[.int .i64 x, .int .i64 y] w fun e w' => e = .returned (.int .i64 (cmpZ x y)) ∧ Below w.heap.size w w' := by
  have hK : KS w [] w := (KS.start w)
  refine Calls.hide (fun Q0 hQ0 => ?_)
  go_enter Tryz.func45, Tryz.ntmps45
  go_upto_region 1 with (fail)
  refine wp_region_tx w hK ?_
  clear hK
  apply txF (wants0 rfl); (· intro w' hK; go_simp; (try go_bits); exact ⟨rfl, rfl⟩); simp only [Act.put, pA, pB, pC]
  apply txH (v := .bool false) (wants0 rfl)
  · intro v1 hv1 w' hK; go_simp; (try go_bits); refine (isNaN_i64  x w'  ).mono ?_; rintro e w5 ⟨rfl, hb⟩; obtain rfl := hv1.out; exact ⟨_, rfl, rfl, hb⟩
  simp only [Act.put, pA, pB, pC]
  apply txF (wants0 rfl); (· intro w' hK; go_simp; (try go_bits); exact ⟨rfl, rfl⟩); simp only [Act.put, pA, pB, pC]
  refine txEnd (fun W1 hK => ?_)
  go_upto_region 2 with (fail)
  refine wp_region_tx w hK ?_
  clear hK
  apply txF (wants0 rfl); (· intro w' hK; go_simp; (try go_bits); exact ⟨rfl, rfl⟩); simp only [Act.put, pA, pB, pC]
  apply txH (v := .bool false) (wants0 rfl)
  · intro v1 hv1 w' hK; go_simp; (try go_bits); refine (isNaN_i64  y w'  ).mono ?_; rintro e w5 ⟨rfl, hb⟩; obtain rfl := hv1.out; exact ⟨_, rfl, rfl, hb⟩
  simp only [Act.put, pA, pB, pC]
  apply txF (wants0 rfl); (· intro w' hK; go_simp; (try go_bits); exact ⟨rfl, rfl⟩); simp only [Act.put, pA, pB, pC]
  refine txEnd (fun W2 hK => ?_)
  go_upto_region 9 with (fail)
  refine wp_region_tx w hK ?_
  clear hK
  iterate 2 (apply txF (wants0 rfl); (· intro w' hK; go_simp; (try go_bits); exact ⟨rfl, rfl⟩); simp only [Act.put, pA, pB, pC])
  obtain ⟨b1, hb1⟩ : ∃ b : Bool, RowKit.Hid (decide (x < y) = b) := ⟨_, hid rfl⟩
  apply txB b1 (wants0 rfl); (· intro w' hK; go_simp; (try go_bits); exact ⟨by have q := hb1.out; subst q; first | rfl | simp, rfl⟩); simp only [Act.put, pA, pB, pC]
  refine txEnd (fun W3 hK => ?_)
  cases b1
  · --
   have q_b1 : y ≤ x := Int.not_lt.1 (of_decide_eq_false hb1.out)
   go_upto_region 11 with (fail)
   refine wp_region_tx w hK ?_
   clear hK
   iterate 2 (apply txF (wants0 rfl); (· intro w' hK; go_simp; (try go_bits); exact ⟨rfl, rfl⟩); simp only [Act.put, pA, pB, pC])
   obtain ⟨b2, hb2⟩ : ∃ b : Bool, RowKit.Hid (decide (y < x) = b) := ⟨_, hid rfl⟩
   apply txB b2 (wants0 rfl); (· intro w' hK; go_simp; (try go_bits); exact ⟨by have q := hb2.out; subst q; first | rfl | simp, rfl⟩); simp only [Act.put, pA, pB, pC]
   refine txEnd (fun W4 hK => ?_)
   cases b2
   · --
    have q_b2 : x ≤ y := Int.not_lt.1 (of_decide_eq_false hb2.out)
    go_wp2
    try go_ret
    show Q0 (.returned (.int .i64 0)) _
    exact (by obtain rfl := hQ0.out; exact ⟨(by rw [show cmpZ x y = 0 from (if_neg (by omega)).trans (if_neg (by omega))]), hK.old⟩)
   · --
    have q_b2 : y < x := of_decide_eq_true hb2.out
    go_wp2
    try go_ret
    show Q0 (.returned (.int .i64 1)) _
    exact (by obtain rfl := hQ0.out; exact ⟨(by rw [show cmpZ x y = 1 from (if_neg (by omega)).trans (if_pos q_b2)]), hK.old⟩)
  · --
   have q_b1 : x < y := of_decide_eq_true hb1.out
   go_wp2
   try go_ret
   show Q0 (.returned (.int .i64 (-1))) _
   exact (by obtain rfl := hQ0.out; exact ⟨(by rw [show cmpZ x y = -1 from if_pos q_b1]), hK.old⟩)
set_option maxRecDepth 100000 in
theorem or_any (v0 : Value) (xs : List Int) (w : World) (h0 : SlV intK w v0 xs) (hl : xs.length ≤ 100) :
    Calls Tryz.prog 44 #[v0] w fun e w' => e = .returned (.int .i64 (orL xs)) ∧ Below w.heap.size w w' := by
  have h0_0 := h0; obtain ⟨p_h0, c_h0, rfl, n_h0⟩ := h0.sh
  have hK : KS w [] w := (KS.start w)
  refine Calls.hide (fun Q0 hQ0 => ?_)
  go_enter Tryz.func44, Tryz.ntmps44
  go_wp2_with fail
  go_loopw [8] (fun s8 wl => ∃ (k : Nat), s8 = .int .i64 (k : Int) ∧ (k ≤ xs.length) ∧ RowKit.Hid (orL xs = orL (xs.drop k)) ∧ KS w [] wl) (fun s8 _ => xs.length - (intOf s8).toNat)
  case atStart => exact ⟨0, rfl, (by omega), (hid (by rw [List.drop_zero])), ⟨hK.old, aN⟩⟩
  case round =>
   clear hK
   obtain ⟨k, rfl, hk, ho, hK⟩ := hrel
   generalize wr = W1 at hK ⊢
   go_upto_region 3 with (fail)
   refine wp_region_tx w hK ?_
   clear hK
   obtain ⟨b1, hb1⟩ : ∃ b : Bool, RowKit.Hid (decide (((k : Int)) < ((xs.length : Int))) = b) := ⟨_, hid rfl⟩
   apply txB b1 (wants0 rfl); (· intro w' hK; go_simp; (try go_bits); exact ⟨by have q := hb1.out; subst q; first | rfl | simp, rfl⟩); simp only [Act.put, pA, pB, pC]
   refine txEnd (fun W2 hK => ?_)
   cases b1
   · --
    have q_b1 : ((xs.length : Int)) ≤ ((k : Int)) := Int.not_lt.1 (of_decide_eq_false hb1.out)
    go_wp2
    try go_ret
    show Q0 (.returned (.int .i64 0)) _
    exact (by obtain rfl := hQ0.out; exact ⟨(by rw [ho.out, List.drop_eq_nil_of_le (by omega)]; rfl), hK.old⟩)
   · --
    have q_b1 : ((k : Int)) < ((xs.length : Int)) := of_decide_eq_true hb1.out
    obtain ⟨x4, ex4⟩ : ∃ x, RowKit.Hid (xs[k]? = some x) := ⟨_, hid (List.getElem?_eq_getElem (show k < xs.length from (by omega)))⟩
    have i3 : k < xs.length := by have q : k < xs.length := (by omega); first | exact q | (simp at q; omega) | omega
    obtain ⟨g3, o3, q3, l3⟩ := (h0_0).ptr ex4.out
    subst q3
    replace hK := KS.atI hK (h0_0.below hK.old) ex4.out
    go_upto_region 4 with (fail)
    refine wp_region_tx w hK ?_
    clear hK
    apply txF (wants0 rfl); (· intro w' hK; go_simp; (try go_bits); exact ⟨rfl, rfl⟩); simp only [Act.put, pA, pB, pC]
    apply txF (wants0 rfl); (· intro w' hK; have c_CEL3_0 : w'.cell? ⟨g3, o3 + k, none⟩ = some (.int .i64 x4) := (by have q := (hK.get m0).2 0 _ rfl; simpa using q); go_simp; (try go_bits); exact ⟨rfl, rfl⟩); simp only [Act.put, pA, pB, pC]
    apply txF (wants0 rfl); (· intro w' hK; go_simp; (try go_bits); exact ⟨rfl, rfl⟩); simp only [Act.put, pA, pB, pC]
    refine txEnd (fun W4 hK => ?_)
    go_upto_region 5 with (fail)
    refine wp_region_tx w hK ?_
    clear hK
    iterate 2 (apply txF (wants0 rfl); (· intro w' hK; go_simp; (try go_bits); exact ⟨rfl, rfl⟩); simp only [Act.put, pA, pB, pC])
    obtain ⟨b2, hb2⟩ : ∃ b : Bool, RowKit.Hid ((x4 != 0) = b) := ⟨_, hid rfl⟩
    apply txB b2 (wants0 rfl); (· intro w' hK; go_simp; (try go_bits); exact ⟨by have q := hb2.out; subst q; first | rfl | simp, rfl⟩); simp only [Act.put, pA, pB, pC]
    refine txEnd (fun W5 hK => ?_)
    cases b2
    · --
     (try go_wp2)
     go_roundw
     case rel => exact ⟨k + 1, (by first | rfl | go_num), (by omega), (hid (ho.out.trans (orL_miss ex4.out hb2.out))), ⟨hK.old, aN⟩⟩
     case measure => simp [intOf]; omega
    · --
     go_wp2
     try go_ret
     show Q0 (.returned (.int .i64 x4)) _
     exact (by obtain rfl := hQ0.out; exact ⟨(by rw [ho.out, orL_hit ex4.out hb2.out]), hK.old⟩)
set_option maxRecDepth 100000 in
theorem cmp_any  (x : Dm) (y : Dm) (w : World)   :
    Calls Tryz.prog 43 #[.agg #[.int .i64 x.s, .int .i64 x.d, .int .i64 x.a, .int .i64 x.p], .agg #[.int .i64 y.s, .int .i64 y.d, .int .i64 y.a, .int .i64 y.p]] w fun e w' => e = .returned (.int .i64 (cfD x y)) ∧ Below w.heap.size w w' := by
  have hK : KS w [] w := (KS.start w)
  refine Calls.hide (fun Q0 hQ0 => ?_)
  go_enter Tryz.func43, Tryz.ntmps43
  go_upto_region 0 with (fail)
  refine wp_region_tx w hK ?_
  clear hK
  apply txA (.cells #[.int .i64 x.s, .int .i64 x.d, .int .i64 x.a, .int .i64 x.p] 53) (wants0 rfl)
  · intro w' hK; go_simp; rfl
  intro R1 q_R1
  clear q_R1
  simp only [mkOf, Act.put, pA, pB, pC]
  apply txA (.cells #[.int .i64 y.s, .int .i64 y.d, .int .i64 y.a, .int .i64 y.p] 53) (wants0 rfl)
  · intro w' hK; go_simp; rfl
  intro R2 q_R2
  have o_R1_R2 : R1 < R2 := q_R2 _ _ _ m0
  clear q_R2
  simp only [mkOf, Act.put, pA, pB, pC]
  apply txF (wants0 rfl); (· intro w' hK; go_simp; (try go_bits); exact ⟨rfl, rfl⟩); simp only [Act.put, pA, pB, pC]
  refine txEnd (fun W3 hK => ?_)
  go_upto_region 1 with (fail)
  have z_R1 : R1 < W3.heap.size := (hK.get m1).ltS
  have z_R2 : R2 < W3.heap.size := (hK.get m0).ltS
  have v_W3 := hK.old.size
  have hKo := hK
  replace hK := hK.re
  have hK0 := hK
  refine wp_region_float0 (W3) _ _ [0, 0, 0, 0, 1, 0, 0, 0, 0, 1, 0, 0, 0, 0, 1, 3, 1, 0] (by kernel_rfl) (by kernel_rfl) (by kernel_rfl) (by kernel_rfl) (KS.drew hK0) (KS.drew hK) ?_
  clear hK hK0
  apply lxF0 (wants0 rfl); (· intro w' h0; go_simp; (try go_bits); exact ⟨rfl, rfl⟩); simp only [Act.put, pA, pB, pC]
  apply lxF0 (wants0 rfl); (· intro w' h0; have k_R1 := (h0.get m1); have c_R1_0 := k_R1.at 0 rfl; go_simp; (try go_bits); exact ⟨rfl, rfl⟩); simp only [Act.put, pA, pB, pC]
  apply lxF0 (wants0 rfl); (· intro w' h0; go_simp; (try go_bits); exact ⟨rfl, rfl⟩); simp only [Act.put, pA, pB, pC]
  apply lxF0 (wants0 rfl); (· intro w' h0; have k_R2 := (h0.get m0); have c_R2_0 := k_R2.at 0 rfl; go_simp; (try go_bits); exact ⟨rfl, rfl⟩); simp only [Act.put, pA, pB, pC]
  obtain ⟨z1, hz1⟩ : ∃ b : Int, RowKit.Hid ((cmpZ x.s y.s) = b) := ⟨_, hid rfl⟩
  apply lxH1 (v := .int .i64 z1) (wants0 rfl)
  · intro v1 hv1 w' h0 hK; go_simp; (try go_bits); refine (compare_i64  x.s y.s w'  ).mono ?_; rintro e w5 ⟨rfl, hb⟩; obtain rfl := hv1.out; exact ⟨_, rfl, (by rw [hz1.out]), hb⟩
  simp only [Act.put, pA, pB, pC]
  apply lxF0 (wants0 rfl); (· intro w' h0; go_simp; (try go_bits); exact ⟨rfl, rfl⟩); simp only [Act.put, pA, pB, pC]
  apply lxF0 (wants0 rfl); (· intro w' h0; have k_R1 := (h0.get m1); have c_R1_1 := k_R1.at 1 rfl; go_simp; (try go_bits); exact ⟨rfl, rfl⟩); simp only [Act.put, pA, pB, pC]
  apply lxF0 (wants0 rfl); (· intro w' h0; go_simp; (try go_bits); exact ⟨rfl, rfl⟩); simp only [Act.put, pA, pB, pC]
  apply lxF0 (wants0 rfl); (· intro w' h0; have k_R2 := (h0.get m0); have c_R2_1 := k_R2.at 1 rfl; go_simp; (try go_bits); exact ⟨rfl, rfl⟩); simp only [Act.put, pA, pB, pC]
  obtain ⟨z2, hz2⟩ : ∃ b : Int, RowKit.Hid ((cmpZ x.d y.d) = b) := ⟨_, hid rfl⟩
  apply lxH1 (v := .int .i64 z2) (wants0 rfl)
  · intro v1 hv1 w' h0 hK; go_simp; (try go_bits); refine (compare_i64  x.d y.d w'  ).mono ?_; rintro e w5 ⟨rfl, hb⟩; obtain rfl := hv1.out; exact ⟨_, rfl, (by rw [hz2.out]), hb⟩
  simp only [Act.put, pA, pB, pC]
  apply lxF0 (wants0 rfl); (· intro w' h0; go_simp; (try go_bits); exact ⟨rfl, rfl⟩); simp only [Act.put, pA, pB, pC]
  apply lxF0 (wants0 rfl); (· intro w' h0; have k_R1 := (h0.get m1); have c_R1_3 := k_R1.at 3 rfl; go_simp; (try go_bits); exact ⟨rfl, rfl⟩); simp only [Act.put, pA, pB, pC]
  apply lxF0 (wants0 rfl); (· intro w' h0; go_simp; (try go_bits); exact ⟨rfl, rfl⟩); simp only [Act.put, pA, pB, pC]
  apply lxF0 (wants0 rfl); (· intro w' h0; have k_R2 := (h0.get m0); have c_R2_3 := k_R2.at 3 rfl; go_simp; (try go_bits); exact ⟨rfl, rfl⟩); simp only [Act.put, pA, pB, pC]
  obtain ⟨z3, hz3⟩ : ∃ b : Int, RowKit.Hid ((cmpZ x.p y.p) = b) := ⟨_, hid rfl⟩
  apply lxH1 (v := .int .i64 z3) (wants0 rfl)
  · intro v1 hv1 w' h0 hK; go_simp; (try go_bits); refine (compare_i64  x.p y.p w'  ).mono ?_; rintro e w5 ⟨rfl, hb⟩; obtain rfl := hv1.out; exact ⟨_, rfl, (by rw [hz3.out]), hb⟩
  simp only [Act.put, pA, pB, pC]
  apply lxA0 (.cells #[.int .i64 z1, .int .i64 z2, .int .i64 z3] 3) (wants0 rfl)
  · intro w' h0; go_simp; rfl
  intro R4
  simp only [mkOf, Act.put, pA, pB, pC]
  obtain ⟨z4, hz4⟩ : ∃ b : Int, RowKit.Hid ((orL ([z1, z2, z3])) = b) := ⟨_, hid rfl⟩
  apply lxH1 (v := .int .i64 z4) (wants0 rfl)
  · intro v1 hv1 w' h0 hK; go_simp; (try go_bits); refine (or_any (.slice (some ⟨R4, 0, none⟩) 3 3) ([z1, z2, z3]) w' (SlV.ofBox (K := intK) (f := fun x => [.int .i64 x]) (xs := [z1, z2, z3]) (fun _ _ => rfl) (hK.get m0) (by simp)) (by simp)).mono ?_; rintro e w5 ⟨rfl, hb⟩; obtain rfl := hv1.out; exact ⟨_, rfl, (by rw [hz4.out]), hb⟩
  simp only [Act.put, pA, pB, pC]
  apply lxF0 (wants0 rfl); (· intro w' h0; go_simp; (try go_bits); exact ⟨rfl, rfl⟩); simp only [Act.put, pA, pB, pC]
  refine lxEnd (fun W5 hK => ?_)
  have o_R1_R4 : R1 < R4 := Nat.lt_of_lt_of_le z_R1 (hK.get m0).1
  have o_R2_R4 : R2 < R4 := Nat.lt_of_lt_of_le z_R2 (hK.get m0).1
  replace hK := hKo.over hK
  clear hKo
  go_wp2
  try go_ret
  show Q0 (.returned (.int .i64 z4)) _
  exact (by obtain rfl := hQ0.out; exact ⟨(by rw [← hz4.out, ← hz1.out, ← hz2.out, ← hz3.out]; rfl), hK.old⟩)
end Go.Proofs.YtjhgkojbpgakcaaGreatDoor.Q
