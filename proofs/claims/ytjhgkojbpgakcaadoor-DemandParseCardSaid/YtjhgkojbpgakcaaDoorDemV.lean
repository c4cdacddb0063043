/- The reference's Text walked. -/
import Derived.Test.YtjhgkojbpgakcaaDoorDemB
import Derived.Test.YtjhgkojbpgakcaaDoorDemT
import Derived.Test.YtjhgkojbpgakcaaDoorBasP
import Derived.Test.YtjhgkojbpgakcaaDoorBldK
namespace Go.Proofs.YtjhgkojbpgakcaaDoor
open Go.RowKit
open Go.Lib (decDigits)
theorem conv_digit {base R n : Nat} {w : World} (h : Has base R (.cells #[.int .u8 ((48 + n : Nat) : Int)] 5) w) (hn : n < 10) : (convert 37 9 (.slice (some ⟨R, 0, none⟩) 1 1)).run Tryd.prog w = .ok (.string ⟨#[chr n]⟩) w :=
  run_convert_bytes_back _ _ _ 5 ⟨R, 0, none⟩ 1 [chr n] Tryd.underlying37 Tryd.underlying5 Tryd.underlying9 (fun j hj => by
    obtain rfl : j = 0 := by simpa using hj
    have q := h.at 0 rfl
    rw [add_at]
    simp only [List.getElem_cons_zero, chr_nat hn]
    exact q)
theorem dec_cat1 {n : Nat} (h : 10 ≤ n) : decDigits (n / 10) ++ [chr (n % 10)] = decDigits n := (dec_big (u := n) (by omega)).symm
theorem dec_b6 {n : Nat} (h : n ≤ 100000000) : (decDigits n).length ≤ 20 := dec_len20 (by omega)
set_option maxRecDepth 100000 in
theorem digits_step  (n : Nat) (w : World)  (hn : n ≤ 100000000) (ih : ∀ m, m < n → ∀ w, Calls Tryd.prog 37 #[.int .u64 (m : Int)] w fun e w' => e = .returned (.string ⟨(decDigits m).toArray⟩) ∧ Below w.heap.size w w') :
    Calls Tryd.prog 37 #[.int .u64 (n : Int)] w fun e w' => e = .returned (.string ⟨(decDigits n).toArray⟩) ∧ Below w.heap.size w w' := by
  have hK : KS w [] w := (KS.start w)
  refine Calls.hide (fun Q0 hQ0 => ?_)
  go_enter Tryd.func37, Tryd.ntmps37
  go_upto_region 1 with (fail)
  refine wp_region_tx w hK ?_
  clear hK
  apply txF (wants0 rfl); (· intro w' hK; go_simp; (try go_bits); exact ⟨rfl, rfl⟩); simp only [Act.put, pA, pB, pC]
  obtain ⟨b1, hb1⟩ : ∃ b : Bool, RowKit.Hid (decide (((n : Int)) < 10) = b) := ⟨_, hid rfl⟩
  apply txB b1 (wants0 rfl); (· intro w' hK; go_simp; (try go_bits); exact ⟨by have q := hb1.out; subst q; first | rfl | simp, rfl⟩); simp only [Act.put, pA, pB, pC]
  refine txEnd (fun W1 hK => ?_)
  cases b1
  · --
   have q_b1 : 10 ≤ ((n : Int)) := Int.not_lt.1 (of_decide_eq_false hb1.out)
   go_upto_region 3 with (fail)
   have v_W1 := hK.old.size
   have hKo := hK
   replace hK := hK.re
   have hK0 := hK
   refine wp_region_float0 (W1) _ _ [0, 0, 1, 0, 0, 0, 0, 3, 1, 0, 0] (by kernel_rfl) (by kernel_rfl) (by kernel_rfl) (by kernel_rfl) (KS.drew hK0) (KS.drew hK) ?_
   clear hK hK0
   apply lxF0 (wants0 rfl); (· intro w' h0; go_simp; (try go_bits); exact ⟨rfl, rfl⟩); simp only [Act.put, pA, pB, pC]
   apply lxF0 (v := .int .u64 ((n / 10 : Nat) : Int)) (wants0 rfl); (· intro w' h0; go_simp; (try go_bits); exact ⟨congrArg _ (by omega), rfl⟩); simp only [Act.put, pA, pB, pC]
   apply lxH1 (v := .string ⟨(decDigits ((n / 10 : Nat))).toArray⟩) (wants0 rfl)
   · intro v1 hv1 w' h0 hK; go_simp; (try go_bits); refine (ih ((n / 10 : Nat)) (by omega) w').mono ?_; rintro e w5 ⟨rfl, hb⟩; obtain rfl := hv1.out; exact ⟨_, rfl, rfl, hb⟩
   simp only [Act.put, pA, pB, pC]
   apply lxF0 (wants0 rfl); (· intro w' h0; go_simp; (try go_bits); exact ⟨rfl, rfl⟩); simp only [Act.put, pA, pB, pC]
   apply lxF0 (v := .int .u64 ((n % 10 : Nat) : Int)) (wants0 rfl); (· intro w' h0; go_simp; (try go_bits); exact ⟨congrArg _ (by omega), rfl⟩); simp only [Act.put, pA, pB, pC]
   apply lxF0 (v := .int .u64 ((48 + n % 10 : Nat) : Int)) (wants0 rfl); (· intro w' h0; go_simp; (try go_bits); exact ⟨congrArg _ (by omega), rfl⟩); simp only [Act.put, pA, pB, pC]
   apply lxF0 (v := .int .u8 ((48 + n % 10 : Nat) : Int)) (wants0 rfl); (· intro w' h0; go_simp; (try go_bits); exact ⟨congrArg _ (by omega), rfl⟩); simp only [Act.put, pA, pB, pC]
   apply lxA0 (.cells #[.int .u8 ((48 + n % 10 : Nat) : Int)] 5) (wants0 rfl)
   · intro w' h0; go_simp; rfl
   intro R2
   simp only [mkOf, Act.put, pA, pB, pC]
   apply lxR0 (v := .string ⟨([chr (n % 10)]).toArray⟩) (wants0 rfl); (· intro w' h0 hK; go_simp; (try go_bits); rw [conv_digit (hK.get m0) (by omega)]; exact ⟨rfl, rfl⟩); simp only [Act.put, pA, pB, pC]
   have db1 := dec_b6 (n := n / 10) (by omega)
   apply lxF0 (v := .string ⟨((decDigits ((n / 10 : Nat))) ++ ([chr (n % 10)])).toArray⟩) (wants0 rfl); (· intro w' h0; go_simp; (try go_bits); rw [if_neg (by omega)]; exact ⟨congrArg Value.string (str_add _ _), rfl⟩); simp only [Act.put, pA, pB, pC]
   apply lxF0 (wants0 rfl); (· intro w' h0; go_simp; (try go_bits); exact ⟨rfl, rfl⟩); simp only [Act.put, pA, pB, pC]
   refine lxEnd (fun W3 hK => ?_)
   replace hK := hKo.over hK
   clear hKo
   go_wp2
   try go_ret
   show Q0 (.returned (.string ⟨((decDigits ((n / 10 : Nat))) ++ ([chr (n % 10)])).toArray⟩)) _
   exact (by obtain rfl := hQ0.out; exact ⟨(by rw [dec_cat1 (by omega)]), hK.old⟩)
  · --
   have q_b1 : ((n : Int)) < 10 := of_decide_eq_true hb1.out
   go_upto_region 2 with (fail)
   refine wp_region_tx w hK ?_
   clear hK
   apply txF (wants0 rfl); (· intro w' hK; go_simp; (try go_bits); exact ⟨rfl, rfl⟩); simp only [Act.put, pA, pB, pC]
   apply txF (v := .int .u64 ((48 + n : Nat) : Int)) (wants0 rfl); (· intro w' hK; go_simp; (try go_bits); exact ⟨congrArg _ (by omega), rfl⟩); simp only [Act.put, pA, pB, pC]
   apply txF (v := .int .u8 ((48 + n : Nat) : Int)) (wants0 rfl); (· intro w' hK; go_simp; (try go_bits); exact ⟨congrArg _ (by omega), rfl⟩); simp only [Act.put, pA, pB, pC]
   apply txA (.cells #[.int .u8 ((48 + n : Nat) : Int)] 5) (wants0 rfl)
   · intro w' hK; go_simp; rfl
   intro R4 q_R4
   clear q_R4
   simp only [mkOf, Act.put, pA, pB, pC]
   apply txF (v := .string ⟨([chr n]).toArray⟩) (wants0 rfl); (· intro w' hK; go_simp; (try go_bits); rw [conv_digit (hK.get m0) (by omega)]; exact ⟨rfl, rfl⟩); simp only [Act.put, pA, pB, pC]
   apply txF (wants0 rfl); (· intro w' hK; go_simp; (try go_bits); exact ⟨rfl, rfl⟩); simp only [Act.put, pA, pB, pC]
   refine txEnd (fun W5 hK => ?_)
   go_wp2
   try go_ret
   show Q0 (.returned (.string ⟨([chr n]).toArray⟩)) _
   exact (by obtain rfl := hQ0.out; exact ⟨(by rw [dec_small (by omega)]), hK.old⟩)
theorem digits_any (n : Nat) : ∀ (w : World), n ≤ 100000000 → Calls Tryd.prog 37 #[.int .u64 (n : Int)] w fun e w' => e = .returned (.string ⟨(decDigits n).toArray⟩) ∧ Below w.heap.size w w' := by
  induction n using Nat.strongRecOn with
  | _ n ih => exact fun w hn => digits_step n w hn fun m hm w2 => ih m hm w2 (by omega)
set_option maxRecDepth 100000 in
theorem number_step  (n : Nat) (w : World)  (hn : n ≤ 100000000) :
    Calls Tryd.prog 19 #[.int .i64 (n : Int)] w fun e w' => e = .returned (.string ⟨(decDigits n).toArray⟩) ∧ Below w.heap.size w w' := by
  have hK : KS w [] w := (KS.start w)
  refine Calls.hide (fun Q0 hQ0 => ?_)
  go_enter Tryd.func19, Tryd.ntmps19
  go_upto_region 1 with (fail)
  refine wp_region_tx w hK ?_
  clear hK
  apply txF (wants0 rfl); (· intro w' hK; go_simp; (try go_bits); exact ⟨rfl, rfl⟩); simp only [Act.put, pA, pB, pC]
  apply txF (v := .bool false) (wants0 rfl); (· intro w' hK; go_simp; (try go_bits); exact ⟨congrArg Value.bool (by simp), rfl⟩); simp only [Act.put, pA, pB, pC]
  refine txEnd (fun W1 hK => ?_)
  go_upto_region 3 with (fail)
  refine wp_region_tx w hK ?_
  clear hK
  apply txF (wants0 rfl); (· intro w' hK; go_simp; (try go_bits); exact ⟨rfl, rfl⟩); simp only [Act.put, pA, pB, pC]
  apply txF (v := .int .u64 (n : Int)) (wants0 rfl); (· intro w' hK; go_simp; (try go_bits); exact ⟨congrArg _ (by omega), rfl⟩); simp only [Act.put, pA, pB, pC]
  apply txH (v := .string ⟨(decDigits n).toArray⟩) (wants0 rfl)
  · intro v1 hv1 w' hK; go_simp; (try go_bits); refine (digits_any n w' (by omega)).mono ?_; rintro e w5 ⟨rfl, hb⟩; obtain rfl := hv1.out; exact ⟨_, rfl, rfl, hb⟩
  simp only [Act.put, pA, pB, pC]
  apply txF (wants0 rfl); (· intro w' hK; go_simp; (try go_bits); exact ⟨rfl, rfl⟩); simp only [Act.put, pA, pB, pC]
  refine txEnd (fun W2 hK => ?_)
  go_wp2
  try go_ret
  show Q0 (.returned (.string ⟨(decDigits n).toArray⟩)) _
  exact (by obtain rfl := hQ0.out; exact ⟨rfl, hK.old⟩)
theorem number_z (n : Int) (w : World) (h0 : 0 ≤ n) (h1 : n ≤ 100000000) : Calls Tryd.prog 19 #[.int .i64 n] w fun e w' => e = .returned (.string ⟨(decDigits n.toNat).toArray⟩) ∧ Below w.heap.size w w' := by
  obtain ⟨m, rfl⟩ : ∃ m : Nat, n = (m : Int) := ⟨n.toNat, by omega⟩
  exact number_step m w (by omega)
set_option maxRecDepth 100000 in
set_option maxHeartbeats 2000000 in
theorem rtext_any (v0 : Value) (xs : List Dm) (w : World) (h0 : SlV demK w v0 xs) (hl : xs.length ≤ 100000) :
    Calls Tryd.prog 7 #[v0] w fun e w' => e = .returned (.string ⟨(textD xs).toArray⟩) ∧ Below w.heap.size w w' := by
  have h0_0 := h0; obtain ⟨p_h0, c_h0, rfl, n_h0⟩ := h0.sh
  have hK : KS w [] w := (KS.start w)
  refine Calls.hide (fun Q0 hQ0 => ?_)
  go_enter Tryd.func7, Tryd.ntmps7
  go_wp2_with fail
  go_loopw [3, 4] (fun s3 s4 wl => ∃ (k : Nat), s3 = .string ⟨(lnsD (xs.take k)).toArray⟩ ∧ s4 = .int .i64 (k : Int) ∧ (k ≤ xs.length) ∧ RowKit.Hid (k = 0 ∨ vldD 64 xs = true) ∧ KS w [] wl) (fun s3 s4 _ => xs.length - (intOf s4).toNat)
  case atStart => exact ⟨0, rfl, rfl, (by omega), (hid (.inl rfl)), ⟨hK.old, aN⟩⟩
  case round =>
   clear hK
   obtain ⟨k, rfl, rfl, hk, hv, hK⟩ := hrel
   generalize wr = W1 at hK ⊢
   go_upto_region 3 with (fail)
   refine wp_region_tx w hK ?_
   clear hK
   iterate 3 (apply txF (wants0 rfl); (· intro w' hK; go_simp; (try go_bits); exact ⟨rfl, rfl⟩); simp only [Act.put, pA, pB, pC])
   obtain ⟨b1, hb1⟩ : ∃ b : Bool, RowKit.Hid (decide (((k : Int)) < ((xs.length : Int))) = b) := ⟨_, hid rfl⟩
   apply txB b1 (wants0 rfl); (· intro w' hK; go_simp; (try go_bits); exact ⟨by have q := hb1.out; subst q; first | rfl | simp, rfl⟩); simp only [Act.put, pA, pB, pC]
   apply txF (wants0 rfl); (· intro w' hK; go_simp; (try go_bits); exact ⟨rfl, rfl⟩); simp only [Act.put, pA, pB, pC]
   cases b1
   · --
    have q_b1 : ((xs.length : Int)) ≤ ((k : Int)) := Int.not_lt.1 (of_decide_eq_false hb1.out)
    iterate 2 (apply txN (j := 4) (d := 10) (b := true) rfl rfl rfl rfl; simp only [Act.put, pA, pB, pC])
    apply txF (wants0 rfl); (· intro w' hK; go_simp; (try go_bits); exact ⟨rfl, rfl⟩); simp only [Act.put, pA, pB, pC]
    refine txEnd (fun W2 hK => ?_)
    go_wp2
    try go_ret
    show Q0 (.returned (.string ⟨(lnsD (xs.take k)).toArray⟩)) _
    exact (by obtain rfl := hQ0.out; exact ⟨(by rw [text_end hv.out (.inl (by omega))]), hK.old⟩)
   · --
    have q_b1 : ((k : Int)) < ((xs.length : Int)) := of_decide_eq_true hb1.out
    apply txF (wantsg (j := 4) (d := 10) (b := true) rfl rfl rfl rfl); (· intro w' hK; go_simp; (try go_bits); exact ⟨rfl, rfl⟩); simp only [Act.put, pA, pB, pC]
    obtain ⟨b2, hb2⟩ : ∃ b : Bool, RowKit.Hid ((vldD 64 xs) = b) := ⟨_, hid rfl⟩
    apply txH (v := .bool b2) (wantsg (j := 4) (d := 10) (b := true) rfl rfl rfl rfl)
    · intro v1 hv1 w' hK; go_simp; (try go_bits); refine (rvalid_any (.slice p_h0 xs.length c_h0) 64 xs w' (h0_0.below hK.old) (by omega)).mono ?_; rintro e w5 ⟨rfl, hb⟩; obtain rfl := hv1.out; exact ⟨_, rfl, (by rw [hb2.out]), hb⟩
    simp only [Act.put, pA, pB, pC]
    apply txF (wants0 rfl); (· intro w' hK; go_simp; (try go_bits); exact ⟨rfl, rfl⟩); simp only [Act.put, pA, pB, pC]
    refine txEnd (fun W3 hK => ?_)
    cases b2
    · --
     go_wp2
     try go_ret
     show Q0 (.returned (.string ⟨(lnsD (xs.take k)).toArray⟩)) _
     exact (by obtain rfl := hQ0.out; exact ⟨(by rw [text_end hv.out (.inr hb2.out)]), hK.old⟩)
    · --
     obtain ⟨x5, ex5⟩ : ∃ x, RowKit.Hid (xs[k]? = some x) := ⟨_, hid (List.getElem?_eq_getElem (show k < xs.length from (by omega)))⟩
     have i4 : k < xs.length := by have q : k < xs.length := (by omega); first | exact q | (simp at q; omega) | omega
     obtain ⟨g4, o4, q4, l4⟩ := (h0_0).ptr ex5.out
     subst q4
     replace hK := KS.atD hK (h0_0.below hK.old) ex5.out
     have hok := (vldD_iff.1 hb2.out).2.2.2 x5 (List.mem_of_getElem? ex5.out); have hok2 := hid hok; unfold OkD at hok; have hlb := lns_bd hb2.out k
     have f0 := fld_len hok2.out 0; have f1 := fld_len hok2.out 1; have f2 := fld_len hok2.out 2; have f3 := fld_len hok2.out 3; simp only [fldD] at f0 f1 f2 f3
     obtain ⟨sl1, sl2, sl3, sl4, sl5, sl6, sl7, sl8⟩ := st_len hok2.out
     go_upto_region 5 with (fail)
     refine wp_region_tx w hK ?_
     clear hK
     iterate 3 (apply txF (wants0 rfl); (· intro w' hK; go_simp; (try go_bits); exact ⟨rfl, rfl⟩); simp only [Act.put, pA, pB, pC])
     apply txF (wants0 rfl); (· intro w' hK; have c_CEL4_0 : w'.cell? ⟨g4, o4 + k * 4, none⟩ = some (.int .i64 x5.s) := (by have q := (hK.get m0).2 0 _ rfl; simpa using q); have c_CEL4_1 : w'.cell? ⟨g4, o4 + k * 4 + 1, none⟩ = some (.int .i64 x5.d) := (by have q := (hK.get m0).2 1 _ rfl; simpa using q); have c_CEL4_2 : w'.cell? ⟨g4, o4 + k * 4 + 2, none⟩ = some (.int .i64 x5.a) := (by have q := (hK.get m0).2 2 _ rfl; simpa using q); have c_CEL4_3 : w'.cell? ⟨g4, o4 + k * 4 + 3, none⟩ = some (.int .i64 x5.p) := (by have q := (hK.get m0).2 3 _ rfl; simpa using q); go_simp; (try go_bits); exact ⟨rfl, rfl⟩); simp only [Act.put, pA, pB, pC]
     apply txA (.cells #[.int .i64 0, .int .i64 0, .int .i64 0, .int .i64 0] 33) (wants0 rfl)
     · intro w' hK; go_simp; rfl
     intro R5 q_R5
     clear q_R5
     simp only [mkOf, Act.put, pA, pB, pC]
     apply txU 0 (Has w.heap.size R5 (.cells #[.int .i64 x5.s, .int .i64 x5.d, .int .i64 x5.a, .int .i64 x5.p] 33)) (wants0 rfl)
     · intro l1 hl1 w' hK; have k_R5 := (hK.get m0); have ⟨c_R5_0, c_R5_1, c_R5_2, c_R5_3⟩ := k_R5.c4; have f_R5 := k_R5.fz; go_simp; obtain rfl := hl1.out; exact ⟨rfl, ks_put (R := R5) hK k_R5.1 0 [.int .i64 x5.s, .int .i64 x5.d, .int .i64 x5.a, .int .i64 x5.p] (al1 (fun _ => has_put k_R5 _ _) (al1 (spC (Nat.ne_of_lt (Nat.lt_of_lt_of_le l4 k_R5.1)) (hK.get m1)) aN))⟩
     simp only [Act.put, pB]
     refine txEnd (fun W6 hK => ?_)
     go_upto_region 6 with (fail)
     have hK0 := hK
     refine wp_region_float0 (w) _ _ [0, 0, 0, 1, 0, 0, 0, 0, 1, 0, 0, 0, 0, 1, 0, 0, 0, 0, 1, 0, 0, 0, 0] (by kernel_rfl) (by kernel_rfl) (by kernel_rfl) (by kernel_rfl) (KS.drew hK0) (KS.drew hK) ?_
     clear hK hK0
     iterate 2 (apply lxF0 (wants0 rfl); (· intro w' h0; go_simp; (try go_bits); exact ⟨rfl, rfl⟩); simp only [Act.put, pA, pB, pC])
     apply lxF0 (wants0 rfl); (· intro w' h0; have k_R5 := (h0.get m0); have c_R5_0 := k_R5.at 0 rfl; go_simp; (try go_bits); exact ⟨rfl, rfl⟩); simp only [Act.put, pA, pB, pC]
     apply lxH1 (v := .string ⟨(decDigits (x5.s).toNat).toArray⟩) (wants0 rfl)
     · intro v1 hv1 w' h0 hK; go_simp; (try go_bits); refine (number_z x5.s w' (by omega) (by omega)).mono ?_; rintro e w5 ⟨rfl, hb⟩; obtain rfl := hv1.out; exact ⟨_, rfl, rfl, hb⟩
     simp only [Act.put, pA, pB, pC]
     apply lxF0 (v := .string ⟨(st1 x5).toArray⟩) (wants0 rfl); (· intro w' h0; go_simp; (try go_bits); rw [if_neg (by omega)]; exact ⟨congrArg Value.string ((str_add _ _).trans (congrArg (fun l => ByteArray.mk (List.toArray l)) (rfl))), rfl⟩); simp only [Act.put, pA, pB, pC]
     apply lxF0 (v := .string ⟨(st2 x5).toArray⟩) (wants0 rfl); (· intro w' h0; go_simp; (try go_bits); rw [if_neg (by omega)]; exact ⟨congrArg Value.string ((str_add _ _).trans (congrArg (fun l => ByteArray.mk (List.toArray l)) (rfl))), rfl⟩); simp only [Act.put, pA, pB, pC]
     apply lxF0 (wants0 rfl); (· intro w' h0; go_simp; (try go_bits); exact ⟨rfl, rfl⟩); simp only [Act.put, pA, pB, pC]
     apply lxF0 (wants0 rfl); (· intro w' h0; have k_R5 := (h0.get m0); have c_R5_1 := k_R5.at 1 rfl; go_simp; (try go_bits); exact ⟨rfl, rfl⟩); simp only [Act.put, pA, pB, pC]
     apply lxH1 (v := .string ⟨(decDigits (x5.d).toNat).toArray⟩) (wants0 rfl)
     · intro v1 hv1 w' h0 hK; go_simp; (try go_bits); refine (number_z x5.d w' (by omega) (by omega)).mono ?_; rintro e w5 ⟨rfl, hb⟩; obtain rfl := hv1.out; exact ⟨_, rfl, rfl, hb⟩
     simp only [Act.put, pA, pB, pC]
     apply lxF0 (v := .string ⟨(st3 x5).toArray⟩) (wants0 rfl); (· intro w' h0; go_simp; (try go_bits); rw [if_neg (by omega)]; exact ⟨congrArg Value.string ((str_add _ _).trans (congrArg (fun l => ByteArray.mk (List.toArray l)) (rfl))), rfl⟩); simp only [Act.put, pA, pB, pC]
     apply lxF0 (v := .string ⟨(st4 x5).toArray⟩) (wants0 rfl); (· intro w' h0; go_simp; (try go_bits); rw [if_neg (by omega)]; exact ⟨congrArg Value.string ((str_add _ _).trans (congrArg (fun l => ByteArray.mk (List.toArray l)) (rfl))), rfl⟩); simp only [Act.put, pA, pB, pC]
     apply lxF0 (wants0 rfl); (· intro w' h0; go_simp; (try go_bits); exact ⟨rfl, rfl⟩); simp only [Act.put, pA, pB, pC]
     apply lxF0 (wants0 rfl); (· intro w' h0; have k_R5 := (h0.get m0); have c_R5_2 := k_R5.at 2 rfl; go_simp; (try go_bits); exact ⟨rfl, rfl⟩); simp only [Act.put, pA, pB, pC]
     apply lxH1 (v := .string ⟨(decDigits (x5.a).toNat).toArray⟩) (wants0 rfl)
     · intro v1 hv1 w' h0 hK; go_simp; (try go_bits); refine (number_z x5.a w' (by omega) (by omega)).mono ?_; rintro e w5 ⟨rfl, hb⟩; obtain rfl := hv1.out; exact ⟨_, rfl, rfl, hb⟩
     simp only [Act.put, pA, pB, pC]
     apply lxF0 (v := .string ⟨(st5 x5).toArray⟩) (wants0 rfl); (· intro w' h0; go_simp; (try go_bits); rw [if_neg (by omega)]; exact ⟨congrArg Value.string ((str_add _ _).trans (congrArg (fun l => ByteArray.mk (List.toArray l)) (rfl))), rfl⟩); simp only [Act.put, pA, pB, pC]
     apply lxF0 (v := .string ⟨(st6 x5).toArray⟩) (wants0 rfl); (· intro w' h0; go_simp; (try go_bits); rw [if_neg (by omega)]; exact ⟨congrArg Value.string ((str_add _ _).trans (congrArg (fun l => ByteArray.mk (List.toArray l)) (rfl))), rfl⟩); simp only [Act.put, pA, pB, pC]
     apply lxF0 (wants0 rfl); (· intro w' h0; go_simp; (try go_bits); exact ⟨rfl, rfl⟩); simp only [Act.put, pA, pB, pC]
     apply lxF0 (wants0 rfl); (· intro w' h0; have k_R5 := (h0.get m0); have c_R5_3 := k_R5.at 3 rfl; go_simp; (try go_bits); exact ⟨rfl, rfl⟩); simp only [Act.put, pA, pB, pC]
     apply lxH1 (v := .string ⟨(decDigits (x5.p).toNat).toArray⟩) (wants0 rfl)
     · intro v1 hv1 w' h0 hK; go_simp; (try go_bits); refine (number_z x5.p w' (by omega) (by omega)).mono ?_; rintro e w5 ⟨rfl, hb⟩; obtain rfl := hv1.out; exact ⟨_, rfl, rfl, hb⟩
     simp only [Act.put, pA, pB, pC]
     apply lxF0 (v := .string ⟨(st7 x5).toArray⟩) (wants0 rfl); (· intro w' h0; go_simp; (try go_bits); rw [if_neg (by omega)]; exact ⟨congrArg Value.string ((str_add _ _).trans (congrArg (fun l => ByteArray.mk (List.toArray l)) (rfl))), rfl⟩); simp only [Act.put, pA, pB, pC]
     apply lxF0 (v := .string ⟨(st8 x5).toArray⟩) (wants0 rfl); (· intro w' h0; go_simp; (try go_bits); rw [if_neg (by omega)]; exact ⟨congrArg Value.string ((str_add _ _).trans (congrArg (fun l => ByteArray.mk (List.toArray l)) (rfl))), rfl⟩); simp only [Act.put, pA, pB, pC]
     apply lxF0 (v := .string ⟨(lnsD (xs.take (k + 1))).toArray⟩) (wants0 rfl); (· intro w' h0; go_simp; (try go_bits); rw [if_neg (by omega)]; exact ⟨congrArg Value.string ((str_add _ _).trans (congrArg (fun l => ByteArray.mk (List.toArray l)) (st_ref ex5.out))), rfl⟩); simp only [Act.put, pA, pB, pC]
     apply lxF0 (wants0 rfl); (· intro w' h0; go_simp; (try go_bits); exact ⟨rfl, rfl⟩); simp only [Act.put, pA, pB, pC]
     refine lxEnd (fun W7 hK => ?_)
     (try go_wp2)
     go_roundw
     case rel => exact ⟨k + 1, (by first | rfl | go_num), (by first | rfl | go_num), (by omega), (hid (.inr hb2.out)), ⟨hK.old, aN⟩⟩
     case measure => simp [intOf]; omega
end Go.Proofs.YtjhgkojbpgakcaaDoor
