/- The reference's sums, Same, copied, key walked. -/
import Derived.Test.YtjhgkojbpgakcaaGreatDoorDemA
namespace Go.Proofs.YtjhgkojbpgakcaaGreatDoor
open Go.RowKit
open Go.Lib (decDigits)
set_option maxRecDepth 100000 in
theorem same_any (v0 : Value) (v1 : Value) (xs : List Dm) (ys : List Dm) (w : World) (h0 : SlV demK w v0 xs) (h1 : SlV demK w v1 ys) (hl : xs.length ≤ 100000) (hm : ys.length ≤ 100000) :
    Calls Tryz.prog 19 #[v0, v1] w fun e w' => e = .returned (.bool (decide (xs = ys))) ∧ Below w.heap.size w w' := by
  have h0_0 := h0; obtain ⟨p_h0, c_h0, rfl, n_h0⟩ := h0.sh
  have h1_0 := h1; obtain ⟨p_h1, c_h1, rfl, n_h1⟩ := h1.sh
  have hK : KS w [] w := (KS.start w)
  refine Calls.hide (fun Q0 hQ0 => ?_)
  go_enter Tryz.func19, Tryz.ntmps19
  go_upto_region 1 with (fail)
  refine wp_region_tx w hK ?_
  clear hK
  iterate 4 (apply txF (wants0 rfl); (· intro w' hK; go_simp; (try go_bits); exact ⟨rfl, rfl⟩); simp only [Act.put, pA, pB, pC])
  obtain ⟨b1, hb1⟩ : ∃ b : Bool, RowKit.Hid ((((xs.length : Int)) != ((ys.length : Int))) = b) := ⟨_, hid rfl⟩
  apply txB b1 (wants0 rfl); (· intro w' hK; go_simp; (try go_bits); exact ⟨by have q := hb1.out; subst q; first | rfl | simp, rfl⟩); simp only [Act.put, pA, pB, pC]
  refine txEnd (fun W1 hK => ?_)
  cases b1
  · --
   have hlen := hid (show xs.length = ys.length from by have q := hb1.out; simp at q; omega)
   go_upto_region 3 with (fail)
   refine wp_region_tx w hK ?_
   clear hK
   apply txF (wants0 rfl); (· intro w' hK; go_simp; (try go_bits); exact ⟨rfl, rfl⟩); simp only [Act.put, pA, pB, pC]
   refine txEnd (fun W2 hK => ?_)
   go_wp2_with fail
   go_loopw [5] (fun s5 wl => ∃ (i : Nat), s5 = .int .i64 (i : Int) ∧ (i ≤ xs.length) ∧ RowKit.Hid (xs.take i = ys.take i) ∧ KS w [] wl) (fun s5 _ => xs.length - (intOf s5).toNat)
   case atStart => exact ⟨0, rfl, (by omega), (hid rfl), ⟨hK.old, aN⟩⟩
   case round =>
    clear hK
    obtain ⟨i, rfl, hi, ht, hK⟩ := hrel
    generalize wr = W3 at hK ⊢
    go_upto_region 4 with (fail)
    refine wp_region_tx w hK ?_
    clear hK
    iterate 3 (apply txF (wants0 rfl); (· intro w' hK; go_simp; (try go_bits); exact ⟨rfl, rfl⟩); simp only [Act.put, pA, pB, pC])
    obtain ⟨b2, hb2⟩ : ∃ b : Bool, RowKit.Hid (decide (((i : Int)) < ((xs.length : Int))) = b) := ⟨_, hid rfl⟩
    apply txB b2 (wants0 rfl); (· intro w' hK; go_simp; (try go_bits); exact ⟨by have q := hb2.out; subst q; first | rfl | simp, rfl⟩); simp only [Act.put, pA, pB, pC]
    refine txEnd (fun W4 hK => ?_)
    cases b2
    · --
     have q_b2 : ((xs.length : Int)) ≤ ((i : Int)) := Int.not_lt.1 (of_decide_eq_false hb2.out)
     go_wp2
     try go_ret
     show Q0 (.returned (.bool true)) _
     exact (by obtain rfl := hQ0.out; exact ⟨(ret_bool (decide_eq_true (by have q := ht.out; have := hlen.out; rwa [List.take_of_length_le (by omega), List.take_of_length_le (by omega)] at q)).symm), hK.old⟩)
    · --
     have q_b2 : ((i : Int)) < ((xs.length : Int)) := of_decide_eq_true hb2.out
     obtain ⟨x6, ex6⟩ : ∃ x, RowKit.Hid (xs[i]? = some x) := ⟨_, hid (List.getElem?_eq_getElem (show i < xs.length from (by omega)))⟩
     have i5 : i < xs.length := by have q : i < xs.length := (by omega); first | exact q | (simp at q; omega) | omega
     obtain ⟨g5, o5, q5, l5⟩ := (h0_0).ptr ex6.out
     subst q5
     replace hK := KS.atD hK (h0_0.below hK.old) ex6.out
     obtain ⟨y6, ey6⟩ : ∃ x, RowKit.Hid (ys[i]? = some x) := ⟨_, hid (List.getElem?_eq_getElem (show i < ys.length from (by have := hlen.out; omega)))⟩
     have i6 : i < ys.length := by have q : i < ys.length := (by have := hlen.out; omega); first | exact q | (simp at q; omega) | omega
     obtain ⟨g6, o6, q6, l6⟩ := (h1_0).ptr ey6.out
     subst q6
     replace hK := KS.atD hK (h1_0.below hK.old) ey6.out
     go_upto_region 6 with (fail)
     have hK0 := hK
     refine wp_region_float0 (w) _ _ [0, 0, 0, 0, 0, 0, 0, 0, 0] (by kernel_rfl) (by kernel_rfl) (by kernel_rfl) (by kernel_rfl) (KS.drew hK0) (KS.drew hK) ?_
     clear hK hK0
     iterate 3 (apply lxF0 (wants0 rfl); (· intro w' h0; go_simp; (try go_bits); exact ⟨rfl, rfl⟩); simp only [Act.put, pA, pB, pC])
     apply lxF0 (wants0 rfl); (· intro w' h0; have c_CEL5_0 : w'.cell? ⟨g5, o5 + i * 4, none⟩ = some (.int .i64 x6.s) := (by have q := (h0.get m1).2 0 _ rfl; simpa using q); have c_CEL5_1 : w'.cell? ⟨g5, o5 + i * 4 + 1, none⟩ = some (.int .i64 x6.d) := (by have q := (h0.get m1).2 1 _ rfl; simpa using q); have c_CEL5_2 : w'.cell? ⟨g5, o5 + i * 4 + 2, none⟩ = some (.int .i64 x6.a) := (by have q := (h0.get m1).2 2 _ rfl; simpa using q); have c_CEL5_3 : w'.cell? ⟨g5, o5 + i * 4 + 3, none⟩ = some (.int .i64 x6.p) := (by have q := (h0.get m1).2 3 _ rfl; simpa using q); go_simp; (try go_bits); exact ⟨rfl, rfl⟩); simp only [Act.put, pA, pB, pC]
     iterate 3 (apply lxF0 (wants0 rfl); (· intro w' h0; go_simp; (try go_bits); exact ⟨rfl, rfl⟩); simp only [Act.put, pA, pB, pC])
     apply lxF0 (wants0 rfl); (· intro w' h0; have c_CEL6_0 : w'.cell? ⟨g6, o6 + i * 4, none⟩ = some (.int .i64 y6.s) := (by have q := (h0.get m0).2 0 _ rfl; simpa using q); have c_CEL6_1 : w'.cell? ⟨g6, o6 + i * 4 + 1, none⟩ = some (.int .i64 y6.d) := (by have q := (h0.get m0).2 1 _ rfl; simpa using q); have c_CEL6_2 : w'.cell? ⟨g6, o6 + i * 4 + 2, none⟩ = some (.int .i64 y6.a) := (by have q := (h0.get m0).2 2 _ rfl; simpa using q); have c_CEL6_3 : w'.cell? ⟨g6, o6 + i * 4 + 3, none⟩ = some (.int .i64 y6.p) := (by have q := (h0.get m0).2 3 _ rfl; simpa using q); go_simp; (try go_bits); exact ⟨rfl, rfl⟩); simp only [Act.put, pA, pB, pC]
     obtain ⟨b3, hb3⟩ : ∃ b : Bool, RowKit.Hid ((!(decide (x6.s = y6.s) && decide (x6.d = y6.d) && decide (x6.a = y6.a) && decide (x6.p = y6.p))) = b) := ⟨_, hid rfl⟩
     apply lxB0 b3 (wants0 rfl); (· intro w' h0; go_simp; (try go_bits); have q := hb3.out; subst q; (repeat' split) <;> exact ⟨congrArg Value.bool (by simp_all), rfl⟩); simp only [Act.put, pA, pB, pC]
     refine lxEnd (fun W7 hK => ?_)
     cases b3
     · --
      (try go_wp2)
      go_roundw
      case rel => exact ⟨i + 1, (by first | rfl | go_num), (by omega), (hid (by have q := hb3.out; simp at q; rw [List.take_add_one, List.take_add_one, ht.out, ex6.out, ey6.out, show x6 = y6 from Dm.eq q.1.1.1 q.1.1.2 q.1.2 q.2])), ⟨hK.old, aN⟩⟩
      case measure => simp [intOf]; omega
     · --
      go_wp2
      try go_ret
      show Q0 (.returned (.bool false)) _
      exact (by obtain rfl := hQ0.out; exact ⟨(ret_bool (decide_eq_false (fun e => by have q := hb3.out; have e2 := ex6.out.symm.trans ((congrArg (fun l => l[i]?) e).trans ey6.out); obtain rfl := Option.some.inj e2; simp at q)).symm), hK.old⟩)
  · --
   go_wp2
   try go_ret
   show Q0 (.returned (.bool false)) _
   exact (by obtain rfl := hQ0.out; exact ⟨(ret_bool (decide_eq_false (fun e => by have q := hb1.out; rw [e] at q; simp at q)).symm), hK.old⟩)
end Go.Proofs.YtjhgkojbpgakcaaGreatDoor
