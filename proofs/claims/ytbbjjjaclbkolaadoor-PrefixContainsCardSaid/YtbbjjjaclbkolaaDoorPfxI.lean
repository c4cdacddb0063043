/- The laws of prefixes walked: texts, nested prefixes, halves. -/
import Derived.Test.YtbbjjjaclbkolaaDoorPfxH
import Derived.Test.YtbbjjjaclbkolaaDoorAggQ
namespace Go.Proofs.YtbbjjjaclbkolaaDoor
open Go.RowKit
open Go.Lib (decDigits)

theorem parse_good (a : Nat) (n : Int) (w : World) (hB : Bas w) (ha : W32 a) (hv : vld a n = true) :
    Calls Tryd.prog 15 #[.string ⟨(textP a n).toArray⟩] w fun e w' => e = .returned (.tuple #[.agg #[.int .u32 (a : Int), .int .i64 n], .int .i64 0]) ∧ Below w.heap.size w w' := parse_text (textP a n) w hB ha hv rfl
theorem parse_bad (a : Nat) (n : Int) (w : World) (hB : Bas w) (hv : vld a n = false) :
    Calls Tryd.prog 15 #[.string ⟨(textP a n).toArray⟩] w fun e w' => e = .returned (.tuple #[.agg #[.int .u32 0, .int .i64 0], .int .i64 3]) ∧ Below w.heap.size w w' := by
  have h := pr_no (s := textP a n) fun b m ht => by
    have e := ht.2.2
    rw [textP_bad hv, textP_ok ht.2.1] at e
    simp at e
  refine (parse_any _ w hB (by have := text_len a n; omega)).mono ?_
  rintro e w' ⟨rfl, hb⟩
  exact ⟨by rw [h.1, h.2.1, h.2.2]; rfl, hb⟩
theorem sl_zero {a : Nat} {n : Int} (h : (slE a n != 0) = false) : vld a n = true ∧ (n == 32) = false := by
  have h2 : slE a n = 0 := by simpa using h
  unfold slE at h2
  split at h2
  · rename_i hv
    split at h2
    · cases h2
    · rename_i hn; exact ⟨hv, by simpa using hn⟩
  · cases h2
theorem sl_w32 {a : Nat} {n : Int} (ha : W32 a) (h : (slE a n != 0) = false) : (∃ d, n = 32 - ((d + 1 : Nat) : Int) ∧ d + 1 ≤ 32 ∧ slH a n = a + 2 ^ d ∧ slL a n = a ∧ slM a n = n + 1) ∧ OkP (a, n) ∧ n < 32 := by
  obtain ⟨hv, hn⟩ := sl_zero h
  have hp : OkP (a, n) := ⟨ha, hv⟩
  have h0 := hp.lo
  have h1 := hp.hi
  simp only at h0 h1
  have h2 : n ≠ 32 := by simpa using hn
  obtain ⟨e1, e2, e3, _⟩ := sl_ok hv hn
  refine ⟨⟨31 - n.toNat, by omega, by omega, ?_, e1, e2⟩, hp, by omega⟩
  rw [e3]
  exact half_or hp (by omega) (by omega)
theorem par_half {a : Nat} {n : Int} {d : Nat} (hp : OkP (a, n)) (hn : n = 32 - ((d + 1 : Nat) : Int)) (hd : d + 1 ≤ 32) {b : Nat} (hb : OkP (b, n + 1)) (h1 : a ≤ b) (h2 : b ≤ a + 2 ^ d) : paA b (n + 1) = a ∧ paN b (n + 1) = n ∧ paE b (n + 1) = 0 := by
  have h0 := hp.lo
  simp only at h0
  have q := pa_ok hb.2 (show (n + 1 == 0) = false by simpa using (show ¬ n + 1 = 0 by omega))
  have hal := hp.al
  have e1 : siz n = 2 ^ (d + 1) := siz_of hd hn
  have e2 := two_halves d
  have e3 : 0 < 2 ^ d := Nat.two_pow_pos d
  simp only at hal
  refine ⟨?_, by rw [q.2.1]; omega, q.2.2⟩
  rw [q.1, show (n + 1).toNat - 1 = n.toNat by omega]
  unfold siz at hal e1
  exact (base_iff hal).2 ⟨h1, by omega⟩
theorem parent_lo (a : Nat) (n : Int) (w : World) (ha : W32 a) (h : (slE a n != 0) = false) : Calls Tryd.prog 21 #[.agg #[.int .u32 (slL a n : Int), .int .i64 (slM a n)]] w fun e w' => e = .returned (.tuple #[.agg #[.int .u32 (a : Int), .int .i64 n], .int .i64 0]) ∧ Below w.heap.size w w' := by
  obtain ⟨⟨d, hn, hd, e1, e2, e3⟩, hp, hlt⟩ := sl_w32 ha h
  have hh := half_ok hp hlt hn
  rw [e2, e3]
  have q := par_half hp hn hd hh.1 (Nat.le_refl _) (Nat.le_add_right _ _)
  have r := parent_all a (n + 1) w ha
  rw [q.1, q.2.1, q.2.2] at r
  exact r
theorem parent_hi (a : Nat) (n : Int) (w : World) (ha : W32 a) (h : (slE a n != 0) = false) : Calls Tryd.prog 21 #[.agg #[.int .u32 (slH a n : Int), .int .i64 (slM a n)]] w fun e w' => e = .returned (.tuple #[.agg #[.int .u32 (a : Int), .int .i64 n], .int .i64 0]) ∧ Below w.heap.size w w' := by
  obtain ⟨⟨d, hn, hd, e1, e2, e3⟩, hp, hlt⟩ := sl_w32 ha h
  have hh := half_ok hp hlt hn
  rw [e1, e3]
  have q := par_half hp hn hd hh.2.1 (Nat.le_add_right _ _) (Nat.le_refl _)
  have r := parent_all (a + 2 ^ d) (n + 1) w hh.2.1.1
  rw [q.1, q.2.1, q.2.2] at r
  exact r

set_option maxRecDepth 100000 in
theorem prefixText_walk  (a : Nat) (n : Int) (w : World)  (hB0 : Bas w) (ha : W32 a) :
    Calls Tryd.prog 3 #[.agg #[.int .u32 (a : Int), .int .i64 n]] w fun e w' => e = .returned (.bool true) ∧ Below w.heap.size w w' := by
  have hK : KS w [] w := (KS.start w)
  refine Calls.hide (fun Q0 hQ0 => ?_)
  go_enter Tryd.func3, Tryd.ntmps3
  go_upto_region 0 with (fail)
  refine wp_region_tx w hK ?_
  clear hK
  apply txA (.cells #[.int .u32 (a : Int), .int .i64 n] 24) (wants0 rfl)
  · intro w' hK; go_simp; rfl
  intro R1 q_R1
  clear q_R1
  simp only [mkOf, Act.put, pA, pB, pC]
  apply txF (wants0 rfl); (· intro w' hK; go_simp; (try go_bits); exact ⟨rfl, rfl⟩); simp only [Act.put, pA, pB, pC]
  refine txEnd (fun W2 hK => ?_)
  go_upto_region 1 with (fail)
  refine wp_region_tx w hK ?_
  clear hK
  apply txF (wants0 rfl); (· intro w' hK; have k_R1 := (hK.get m0); have ⟨c_R1_0, c_R1_1⟩ := k_R1.c2; go_simp; (try go_bits); exact ⟨rfl, rfl⟩); simp only [Act.put, pA, pB, pC]
  apply txH (v := .string ⟨(textP a n).toArray⟩) (wants0 rfl)
  · intro v1 hv1 w' hK; go_simp; (try go_bits); refine (text_any a n w' (hB0.below hK.old) (by first | assumption | omega | exact W32.zero)).mono ?_; rintro e w5 ⟨rfl, hb⟩; obtain rfl := hv1.out; exact ⟨_, rfl, rfl, hb⟩
  simp only [Act.put, pA, pB, pC]
  apply txF (wants0 rfl); (· intro w' hK; go_simp; (try go_bits); exact ⟨rfl, rfl⟩); simp only [Act.put, pA, pB, pC]
  refine txEnd (fun W3 hK => ?_)
  go_upto_region 2 with (fail)
  have hK0 := hK
  refine wp_region_float0 (w) _ _ [1, 0, 0, 0, 0, 1, 0, 0, 0, 0, 1, 0, 1, 0, 0] (by kernel_rfl) (by kernel_rfl) (by kernel_rfl) (by kernel_rfl) (KS.drew hK0) (KS.drew hK) ?_
  clear hK hK0
  apply lxH1 (v := .bool true) (wants0 rfl)
  · intro v1 hv1 w' h0 hK; go_simp; (try go_bits); refine (awake_any   w' (hB0.below hK.old) ).mono ?_; rintro e w5 ⟨rfl, hb⟩; obtain rfl := hv1.out; exact ⟨_, rfl, rfl, hb⟩
  simp only [Act.put, pA, pB, pC]
  iterate 2 (apply lxF0 (wants0 rfl); (· intro w' h0; go_simp; (try go_bits); exact ⟨rfl, rfl⟩); simp only [Act.put, pA, pB, pC])
  apply lxF0 (wantsg (j := 2) (d := 10) (b := false) rfl rfl rfl rfl); (· intro w' h0; go_simp; (try go_bits); exact ⟨rfl, rfl⟩); simp only [Act.put, pA, pB, pC]
  apply lxF0 (wantsg (j := 2) (d := 10) (b := false) rfl rfl rfl rfl); (· intro w' h0; have k_R1 := (h0.get m0); have ⟨c_R1_0, c_R1_1⟩ := k_R1.c2; go_simp; (try go_bits); exact ⟨rfl, rfl⟩); simp only [Act.put, pA, pB, pC]
  apply lxH1 (v := .string ⟨(textP a n).toArray⟩) (wantsg (j := 2) (d := 10) (b := false) rfl rfl rfl rfl)
  · intro v1 hv1 w' h0 hK; go_simp; (try go_bits); refine (rtext_any a n w' (by first | assumption | omega | exact W32.zero)).mono ?_; rintro e w5 ⟨rfl, hb⟩; obtain rfl := hv1.out; exact ⟨_, rfl, rfl, hb⟩
  simp only [Act.put, pA, pB, pC]
  apply lxF0 (v := .bool false) (wantsg (j := 2) (d := 10) (b := false) rfl rfl rfl rfl); (· intro w' h0; go_simp; (try go_bits); first | exact ⟨rfl, rfl⟩ | exact ⟨congrArg Value.bool (by simp), rfl⟩); simp only [Act.put, pA, pB, pC]
  iterate 2 (apply lxF0 (wants0 rfl); (· intro w' h0; go_simp; (try go_bits); exact ⟨rfl, rfl⟩); simp only [Act.put, pA, pB, pC])
  apply lxF0 (wantsg (j := 8) (d := 16) (b := false) rfl rfl rfl rfl); (· intro w' h0; have k_R1 := (h0.get m0); have ⟨c_R1_0, c_R1_1⟩ := k_R1.c2; go_simp; (try go_bits); exact ⟨rfl, rfl⟩); simp only [Act.put, pA, pB, pC]
  obtain ⟨b1, hb1⟩ : ∃ b : Bool, RowKit.Hid ((vld a n) = b) := ⟨_, hid rfl⟩
  apply lxH1 (v := .bool b1) (wantsg (j := 8) (d := 16) (b := false) rfl rfl rfl rfl)
  · intro v1 hv1 w' h0 hK; go_simp; (try go_bits); refine (valid_any a n w' (by first | assumption | omega | exact W32.zero)).mono ?_; rintro e w5 ⟨rfl, hb⟩; obtain rfl := hv1.out; exact ⟨_, rfl, (by rw [hb1.out]), hb⟩
  simp only [Act.put, pA, pB, pC]
  apply lxF0 (wantsg (j := 8) (d := 16) (b := false) rfl rfl rfl rfl); (· intro w' h0; have k_R1 := (h0.get m0); have ⟨c_R1_0, c_R1_1⟩ := k_R1.c2; go_simp; (try go_bits); exact ⟨rfl, rfl⟩); simp only [Act.put, pA, pB, pC]
  obtain ⟨b2, hb2⟩ : ∃ b : Bool, RowKit.Hid ((vld a n) = b) := ⟨_, hid rfl⟩
  apply lxH1 (v := .bool b2) (wantsg (j := 8) (d := 16) (b := false) rfl rfl rfl rfl)
  · intro v1 hv1 w' h0 hK; go_simp; (try go_bits); refine (rvalid_any a n w' (by first | assumption | omega | exact W32.zero)).mono ?_; rintro e w5 ⟨rfl, hb⟩; obtain rfl := hv1.out; exact ⟨_, rfl, (by rw [hb2.out]), hb⟩
  simp only [Act.put, pA, pB, pC]
  apply lxF0 (v := .bool false) (wantsg (j := 8) (d := 16) (b := false) rfl rfl rfl rfl); (· intro w' h0; go_simp; (try go_bits); exact ⟨congrArg Value.bool (by rw [← hb1.out, ← hb2.out]; simp), rfl⟩); simp only [Act.put, pA, pB, pC]
  apply lxF0 (wants0 rfl); (· intro w' h0; go_simp; (try go_bits); exact ⟨rfl, rfl⟩); simp only [Act.put, pA, pB, pC]
  refine lxEnd (fun W4 hK => ?_)
  cases hv : vld a n
  · --
   go_upto_region 4 with (fail)
   refine wp_region_tx w hK ?_
   clear hK
   apply txF (wants0 rfl); (· intro w' hK; go_simp; (try go_bits); exact ⟨rfl, rfl⟩); simp only [Act.put, pA, pB, pC]
   apply txH (v := .tuple #[.agg #[.int .u32 0, .int .i64 0], .int .i64 3]) (wants0 rfl)
   · intro v1 hv1 w' hK; go_simp; (try go_bits); refine (parse_bad a n w' (hB0.below hK.old) hv).mono ?_; rintro e w5 ⟨rfl, hb⟩; obtain rfl := hv1.out; exact ⟨_, rfl, rfl, hb⟩
   simp only [Act.put, pA, pB, pC]
   iterate 3 (apply txF (wants0 rfl); (· intro w' hK; go_simp; (try go_bits); exact ⟨rfl, rfl⟩); simp only [Act.put, pA, pB, pC])
   apply txA (.cells #[.int .u32 0, .int .i64 0] 24) (wants0 rfl)
   · intro w' hK; go_simp; rfl
   intro R5 q_R5
   have o_R1_R5 : R1 < R5 := q_R5 _ _ _ m0
   clear q_R5
   simp only [mkOf, Act.put, pA, pB, pC]
   apply txU 0 (Has w.heap.size R5 (.cells #[.int .u32 0, .int .i64 0] 24)) (wants0 rfl)
   · intro l1 hl1 w' hK; have k_R5 := (hK.get m0); have ⟨c_R5_0, c_R5_1⟩ := k_R5.c2; have f_R5 := k_R5.fz; go_simp; obtain rfl := hl1.out; exact ⟨rfl, ks_put (R := R5) hK k_R5.1 0 [.int .u32 0, .int .i64 0] (al1 (fun _ => has_put k_R5 _ _) (al1 (spL o_R1_R5 (hK.get m1)) aN))⟩
   simp only [Act.put, pB]
   apply txF (wants0 rfl); (· intro w' hK; go_simp; (try go_bits); exact ⟨rfl, rfl⟩); simp only [Act.put, pA, pB, pC]
   refine txEnd (fun W6 hK => ?_)
   go_upto_region 5 with (fail)
   refine wp_region_tx w hK ?_
   clear hK
   apply txF (wants0 rfl); (· intro w' hK; have k_R1 := (hK.get m1); have ⟨c_R1_0, c_R1_1⟩ := k_R1.c2; go_simp; (try go_bits); exact ⟨rfl, rfl⟩); simp only [Act.put, pA, pB, pC]
   obtain ⟨b3, hb3⟩ : ∃ b : Bool, RowKit.Hid ((vld a n) = b) := ⟨_, hid rfl⟩
   apply txH (v := .bool b3) (wants0 rfl)
   · intro v1 hv1 w' hK; go_simp; (try go_bits); refine (rvalid_any a n w' (by first | assumption | omega | exact W32.zero)).mono ?_; rintro e w5 ⟨rfl, hb⟩; obtain rfl := hv1.out; exact ⟨_, rfl, (by rw [hb3.out]), hb⟩
   simp only [Act.put, pA, pB, pC]
   iterate 2 (apply txF (wants0 rfl); (· intro w' hK; go_simp; (try go_bits); exact ⟨rfl, rfl⟩); simp only [Act.put, pA, pB, pC])
   cases b3
   · --
    iterate 2 (apply txF (wantsg (j := 3) (d := 31) (b := true) rfl rfl rfl rfl); (· intro w' hK; go_simp; (try go_bits); exact ⟨rfl, rfl⟩); simp only [Act.put, pA, pB, pC])
    iterate 2 (apply txF (wants0 rfl); (· intro w' hK; go_simp; (try go_bits); exact ⟨rfl, rfl⟩); simp only [Act.put, pA, pB, pC])
    iterate 3 (apply txN (j := 7) (d := 35) (b := false) rfl rfl rfl rfl; simp only [Act.put, pA, pB, pC])
    iterate 3 (apply txN' (j := 10) (d := 38) (b := true) rfl rfl rfl; simp only [Act.put, pA, pB, pC])
    apply txN (j := 7) (d := 35) (b := false) rfl rfl rfl rfl; simp only [Act.put, pA, pB, pC]
    iterate 2 (apply txF (wants0 rfl); (· intro w' hK; go_simp; (try go_bits); exact ⟨rfl, rfl⟩); simp only [Act.put, pA, pB, pC])
    refine txEnd (fun W7 hK => ?_)
    go_wp2
    try go_ret
    show Q0 (.returned (.bool true)) _
    exact (by obtain rfl := hQ0.out; exact ⟨rfl, hK.old⟩)
   · --
    iterate 2 (apply txN (j := 3) (d := 31) (b := true) rfl rfl rfl rfl; simp only [Act.put, pA, pB, pC])
    iterate 2 (apply txF (wants0 rfl); (· intro w' hK; go_simp; (try go_bits); exact ⟨rfl, rfl⟩); simp only [Act.put, pA, pB, pC])
    iterate 3 (apply txF (wantsg (j := 7) (d := 35) (b := false) rfl rfl rfl rfl); (· intro w' hK; go_simp; (try go_bits); exact ⟨rfl, rfl⟩); simp only [Act.put, pA, pB, pC])
    iterate 3 (apply txN (j := 10) (d := 38) (b := true) rfl rfl rfl rfl; simp only [Act.put, pA, pB, pC])
    apply txF (wantsg (j := 7) (d := 35) (b := false) rfl rfl rfl rfl); (· intro w' hK; go_simp; (try go_bits); exact ⟨rfl, rfl⟩); simp only [Act.put, pA, pB, pC]
    iterate 2 (apply txF (wants0 rfl); (· intro w' hK; go_simp; (try go_bits); exact ⟨rfl, rfl⟩); simp only [Act.put, pA, pB, pC])
    refine txEnd (fun W8 hK => ?_)
    go_wp2
    try go_ret
    show Q0 (.returned (.bool false)) _
    exact (by obtain rfl := hQ0.out; exact ⟨(absurd (hv.symm.trans hb3.out) (by decide)), hK.old⟩)
  · --
   go_upto_region 4 with (fail)
   refine wp_region_tx w hK ?_
   clear hK
   apply txF (wants0 rfl); (· intro w' hK; go_simp; (try go_bits); exact ⟨rfl, rfl⟩); simp only [Act.put, pA, pB, pC]
   apply txH (v := .tuple #[.agg #[.int .u32 (a : Int), .int .i64 n], .int .i64 0]) (wants0 rfl)
   · intro v1 hv1 w' hK; go_simp; (try go_bits); refine (parse_good a n w' (hB0.below hK.old) ha hv).mono ?_; rintro e w5 ⟨rfl, hb⟩; obtain rfl := hv1.out; exact ⟨_, rfl, rfl, hb⟩
   simp only [Act.put, pA, pB, pC]
   iterate 3 (apply txF (wants0 rfl); (· intro w' hK; go_simp; (try go_bits); exact ⟨rfl, rfl⟩); simp only [Act.put, pA, pB, pC])
   apply txA (.cells #[.int .u32 0, .int .i64 0] 24) (wants0 rfl)
   · intro w' hK; go_simp; rfl
   intro R9 q_R9
   have o_R1_R9 : R1 < R9 := q_R9 _ _ _ m0
   clear q_R9
   simp only [mkOf, Act.put, pA, pB, pC]
   apply txU 0 (Has w.heap.size R9 (.cells #[.int .u32 (a : Int), .int .i64 n] 24)) (wants0 rfl)
   · intro l1 hl1 w' hK; have k_R9 := (hK.get m0); have ⟨c_R9_0, c_R9_1⟩ := k_R9.c2; have f_R9 := k_R9.fz; go_simp; obtain rfl := hl1.out; exact ⟨rfl, ks_put (R := R9) hK k_R9.1 0 [.int .u32 (a : Int), .int .i64 n] (al1 (fun _ => has_put k_R9 _ _) (al1 (spL o_R1_R9 (hK.get m1)) aN))⟩
   simp only [Act.put, pB]
   apply txF (wants0 rfl); (· intro w' hK; go_simp; (try go_bits); exact ⟨rfl, rfl⟩); simp only [Act.put, pA, pB, pC]
   refine txEnd (fun W10 hK => ?_)
   go_upto_region 5 with (fail)
   refine wp_region_tx w hK ?_
   clear hK
   apply txF (wants0 rfl); (· intro w' hK; have k_R1 := (hK.get m1); have ⟨c_R1_0, c_R1_1⟩ := k_R1.c2; go_simp; (try go_bits); exact ⟨rfl, rfl⟩); simp only [Act.put, pA, pB, pC]
   obtain ⟨b3, hb3⟩ : ∃ b : Bool, RowKit.Hid ((vld a n) = b) := ⟨_, hid rfl⟩
   apply txH (v := .bool b3) (wants0 rfl)
   · intro v1 hv1 w' hK; go_simp; (try go_bits); refine (rvalid_any a n w' (by first | assumption | omega | exact W32.zero)).mono ?_; rintro e w5 ⟨rfl, hb⟩; obtain rfl := hv1.out; exact ⟨_, rfl, (by rw [hb3.out]), hb⟩
   simp only [Act.put, pA, pB, pC]
   iterate 2 (apply txF (wants0 rfl); (· intro w' hK; go_simp; (try go_bits); exact ⟨rfl, rfl⟩); simp only [Act.put, pA, pB, pC])
   cases b3
   · --
    iterate 2 (apply txF (wantsg (j := 3) (d := 31) (b := true) rfl rfl rfl rfl); (· intro w' hK; go_simp; (try go_bits); exact ⟨rfl, rfl⟩); simp only [Act.put, pA, pB, pC])
    iterate 2 (apply txF (wants0 rfl); (· intro w' hK; go_simp; (try go_bits); exact ⟨rfl, rfl⟩); simp only [Act.put, pA, pB, pC])
    iterate 3 (apply txF (wantsg (j := 7) (d := 35) (b := false) rfl rfl rfl rfl); (· intro w' hK; go_simp; (try go_bits); exact ⟨rfl, rfl⟩); simp only [Act.put, pA, pB, pC])
    apply txF (wantsg (j := 10) (d := 38) (b := true) rfl rfl rfl rfl); (· intro w' hK; have k_R9 := (hK.get m0); have ⟨c_R9_0, c_R9_1⟩ := k_R9.c2; go_simp; (try go_bits); exact ⟨rfl, rfl⟩); simp only [Act.put, pA, pB, pC]
    apply txF (wantsg (j := 10) (d := 38) (b := true) rfl rfl rfl rfl); (· intro w' hK; have k_R1 := (hK.get m1); have ⟨c_R1_0, c_R1_1⟩ := k_R1.c2; go_simp; (try go_bits); exact ⟨rfl, rfl⟩); simp only [Act.put, pA, pB, pC]
    apply txF (v := .bool true) (wantsg (j := 10) (d := 38) (b := true) rfl rfl rfl rfl); (· intro w' hK; go_simp; (try go_bits); first | exact ⟨rfl, rfl⟩ | exact ⟨congrArg Value.bool (by simp), rfl⟩); simp only [Act.put, pA, pB, pC]
    apply txF (wantsg (j := 7) (d := 35) (b := false) rfl rfl rfl rfl); (· intro w' hK; go_simp; (try go_bits); exact ⟨rfl, rfl⟩); simp only [Act.put, pA, pB, pC]
    iterate 2 (apply txF (wants0 rfl); (· intro w' hK; go_simp; (try go_bits); exact ⟨rfl, rfl⟩); simp only [Act.put, pA, pB, pC])
    refine txEnd (fun W11 hK => ?_)
    go_wp2
    try go_ret
    show Q0 (.returned (.bool true)) _
    exact (by obtain rfl := hQ0.out; exact ⟨rfl, hK.old⟩)
   · --
    iterate 2 (apply txN (j := 3) (d := 31) (b := true) rfl rfl rfl rfl; simp only [Act.put, pA, pB, pC])
    iterate 2 (apply txF (wants0 rfl); (· intro w' hK; go_simp; (try go_bits); exact ⟨rfl, rfl⟩); simp only [Act.put, pA, pB, pC])
    iterate 3 (apply txF (wantsg (j := 7) (d := 35) (b := false) rfl rfl rfl rfl); (· intro w' hK; go_simp; (try go_bits); exact ⟨rfl, rfl⟩); simp only [Act.put, pA, pB, pC])
    apply txF (wantsg (j := 10) (d := 38) (b := true) rfl rfl rfl rfl); (· intro w' hK; have k_R9 := (hK.get m0); have ⟨c_R9_0, c_R9_1⟩ := k_R9.c2; go_simp; (try go_bits); exact ⟨rfl, rfl⟩); simp only [Act.put, pA, pB, pC]
    apply txF (wantsg (j := 10) (d := 38) (b := true) rfl rfl rfl rfl); (· intro w' hK; have k_R1 := (hK.get m1); have ⟨c_R1_0, c_R1_1⟩ := k_R1.c2; go_simp; (try go_bits); exact ⟨rfl, rfl⟩); simp only [Act.put, pA, pB, pC]
    apply txF (v := .bool true) (wantsg (j := 10) (d := 38) (b := true) rfl rfl rfl rfl); (· intro w' hK; go_simp; (try go_bits); first | exact ⟨rfl, rfl⟩ | exact ⟨congrArg Value.bool (by simp), rfl⟩); simp only [Act.put, pA, pB, pC]
    apply txF (wantsg (j := 7) (d := 35) (b := false) rfl rfl rfl rfl); (· intro w' hK; go_simp; (try go_bits); exact ⟨rfl, rfl⟩); simp only [Act.put, pA, pB, pC]
    iterate 2 (apply txF (wants0 rfl); (· intro w' hK; go_simp; (try go_bits); exact ⟨rfl, rfl⟩); simp only [Act.put, pA, pB, pC])
    refine txEnd (fun W12 hK => ?_)
    go_wp2
    try go_ret
    show Q0 (.returned (.bool true)) _
    exact (by obtain rfl := hQ0.out; exact ⟨rfl, hK.old⟩)

set_option maxRecDepth 100000 in
theorem prefixSplit_walk  (a : Nat) (n : Int) (w : World)  (hB0 : Bas w) (ha : W32 a) :
    Calls Tryd.prog 6 #[.agg #[.int .u32 (a : Int), .int .i64 n]] w fun e w' => e = .returned (.bool true) ∧ Below w.heap.size w w' := by
  have hK : KS w [] w := (KS.start w)
  refine Calls.hide (fun Q0 hQ0 => ?_)
  go_enter Tryd.func6, Tryd.ntmps6
  go_upto_region 0 with (fail)
  refine wp_region_tx w hK ?_
  clear hK
  apply txA (.cells #[.int .u32 (a : Int), .int .i64 n] 24) (wants0 rfl)
  · intro w' hK; go_simp; rfl
  intro R1 q_R1
  clear q_R1
  simp only [mkOf, Act.put, pA, pB, pC]
  apply txF (wants0 rfl); (· intro w' hK; go_simp; (try go_bits); exact ⟨rfl, rfl⟩); simp only [Act.put, pA, pB, pC]
  refine txEnd (fun W2 hK => ?_)
  go_upto_region 1 with (fail)
  refine wp_region_tx w hK ?_
  clear hK
  apply txF (wants0 rfl); (· intro w' hK; have k_R1 := (hK.get m0); have ⟨c_R1_0, c_R1_1⟩ := k_R1.c2; go_simp; (try go_bits); exact ⟨rfl, rfl⟩); simp only [Act.put, pA, pB, pC]
  apply txH (v := .tuple #[.agg #[.int .u32 (slL a n : Int), .int .i64 (slM a n)], .agg #[.int .u32 (slH a n : Int), .int .i64 (slM a n)], .int .i64 (slE a n)]) (wants0 rfl)
  · intro v1 hv1 w' hK; go_simp; (try go_bits); refine (split_any a n w' (by first | assumption | omega | exact W32.zero)).mono ?_; rintro e w5 ⟨rfl, hb⟩; obtain rfl := hv1.out; exact ⟨_, rfl, rfl, hb⟩
  simp only [Act.put, pA, pB, pC]
  iterate 4 (apply txF (wants0 rfl); (· intro w' hK; go_simp; (try go_bits); exact ⟨rfl, rfl⟩); simp only [Act.put, pA, pB, pC])
  apply txA (.cells #[.int .u32 0, .int .i64 0] 24) (wants0 rfl)
  · intro w' hK; go_simp; rfl
  intro R3 q_R3
  have o_R1_R3 : R1 < R3 := q_R3 _ _ _ m0
  clear q_R3
  simp only [mkOf, Act.put, pA, pB, pC]
  apply txA (.cells #[.int .u32 0, .int .i64 0] 24) (wants0 rfl)
  · intro w' hK; go_simp; rfl
  intro R4 q_R4
  have o_R1_R4 : R1 < R4 := q_R4 _ _ _ m1
  have o_R3_R4 : R3 < R4 := q_R4 _ _ _ m0
  clear q_R4
  simp only [mkOf, Act.put, pA, pB, pC]
  apply txU 1 (Has w.heap.size R3 (.cells #[.int .u32 (slL a n : Int), .int .i64 (slM a n)] 24)) (wants0 rfl)
  · intro l1 hl1 w' hK; have k_R3 := (hK.get m1); have ⟨c_R3_0, c_R3_1⟩ := k_R3.c2; have f_R3 := k_R3.fz; go_simp; obtain rfl := hl1.out; exact ⟨rfl, ks_put (R := R3) hK k_R3.1 0 [.int .u32 (slL a n : Int), .int .i64 (slM a n)] (al1 (spG o_R3_R4 (hK.get m0)) (al1 (fun _ => has_put k_R3 _ _) (al1 (spL o_R1_R3 (hK.get m2)) aN)))⟩
  simp only [Act.put, pB, pC]
  apply txU 0 (Has w.heap.size R4 (.cells #[.int .u32 (slH a n : Int), .int .i64 (slM a n)] 24)) (wants0 rfl)
  · intro l1 hl1 w' hK; have k_R4 := (hK.get m0); have ⟨c_R4_0, c_R4_1⟩ := k_R4.c2; have f_R4 := k_R4.fz; go_simp; obtain rfl := hl1.out; exact ⟨rfl, ks_put (R := R4) hK k_R4.1 0 [.int .u32 (slH a n : Int), .int .i64 (slM a n)] (al1 (fun _ => has_put k_R4 _ _) (al1 (spL o_R3_R4 (hK.get m1)) (al1 (spL o_R1_R4 (hK.get m2)) aN)))⟩
  simp only [Act.put, pB]
  apply txF (wants0 rfl); (· intro w' hK; go_simp; (try go_bits); exact ⟨rfl, rfl⟩); simp only [Act.put, pA, pB, pC]
  refine txEnd (fun W5 hK => ?_)
  go_upto_region 2 with (fail)
  refine wp_region_tx w hK ?_
  clear hK
  apply txF (wants0 rfl); (· intro w' hK; have k_R1 := (hK.get m2); have ⟨c_R1_0, c_R1_1⟩ := k_R1.c2; go_simp; (try go_bits); exact ⟨rfl, rfl⟩); simp only [Act.put, pA, pB, pC]
  apply txH (v := .tuple #[.agg #[.int .u32 (slL a n : Int), .int .i64 (slM a n)], .agg #[.int .u32 (slH a n : Int), .int .i64 (slM a n)], .int .i64 (slE a n)]) (wants0 rfl)
  · intro v1 hv1 w' hK; go_simp; (try go_bits); refine (rsplit_any a n w' (by first | assumption | omega | exact W32.zero)).mono ?_; rintro e w5 ⟨rfl, hb⟩; obtain rfl := hv1.out; exact ⟨_, rfl, rfl, hb⟩
  simp only [Act.put, pA, pB, pC]
  iterate 4 (apply txF (wants0 rfl); (· intro w' hK; go_simp; (try go_bits); exact ⟨rfl, rfl⟩); simp only [Act.put, pA, pB, pC])
  apply txA (.cells #[.int .u32 0, .int .i64 0] 24) (wants0 rfl)
  · intro w' hK; go_simp; rfl
  intro R6 q_R6
  have o_R1_R6 : R1 < R6 := q_R6 _ _ _ m2
  have o_R3_R6 : R3 < R6 := q_R6 _ _ _ m1
  have o_R4_R6 : R4 < R6 := q_R6 _ _ _ m0
  clear q_R6
  simp only [mkOf, Act.put, pA, pB, pC]
  apply txA (.cells #[.int .u32 0, .int .i64 0] 24) (wants0 rfl)
  · intro w' hK; go_simp; rfl
  intro R7 q_R7
  have o_R1_R7 : R1 < R7 := q_R7 _ _ _ m3
  have o_R3_R7 : R3 < R7 := q_R7 _ _ _ m2
  have o_R4_R7 : R4 < R7 := q_R7 _ _ _ m1
  have o_R6_R7 : R6 < R7 := q_R7 _ _ _ m0
  clear q_R7
  simp only [mkOf, Act.put, pA, pB, pC]
  apply txU 1 (Has w.heap.size R6 (.cells #[.int .u32 (slL a n : Int), .int .i64 (slM a n)] 24)) (wants0 rfl)
  · intro l1 hl1 w' hK; have k_R6 := (hK.get m1); have ⟨c_R6_0, c_R6_1⟩ := k_R6.c2; have f_R6 := k_R6.fz; go_simp; obtain rfl := hl1.out; exact ⟨rfl, ks_put (R := R6) hK k_R6.1 0 [.int .u32 (slL a n : Int), .int .i64 (slM a n)] (al1 (spG o_R6_R7 (hK.get m0)) (al1 (fun _ => has_put k_R6 _ _) (al1 (spL o_R4_R6 (hK.get m2)) (al1 (spL o_R3_R6 (hK.get m3)) (al1 (spL o_R1_R6 (hK.get m4)) aN)))))⟩
  simp only [Act.put, pB, pC]
  apply txU 0 (Has w.heap.size R7 (.cells #[.int .u32 (slH a n : Int), .int .i64 (slM a n)] 24)) (wants0 rfl)
  · intro l1 hl1 w' hK; have k_R7 := (hK.get m0); have ⟨c_R7_0, c_R7_1⟩ := k_R7.c2; have f_R7 := k_R7.fz; go_simp; obtain rfl := hl1.out; exact ⟨rfl, ks_put (R := R7) hK k_R7.1 0 [.int .u32 (slH a n : Int), .int .i64 (slM a n)] (al1 (fun _ => has_put k_R7 _ _) (al1 (spL o_R6_R7 (hK.get m1)) (al1 (spL o_R4_R7 (hK.get m2)) (al1 (spL o_R3_R7 (hK.get m3)) (al1 (spL o_R1_R7 (hK.get m4)) aN)))))⟩
  simp only [Act.put, pB]
  apply txF (wants0 rfl); (· intro w' hK; go_simp; (try go_bits); exact ⟨rfl, rfl⟩); simp only [Act.put, pA, pB, pC]
  refine txEnd (fun W8 hK => ?_)
  go_upto_region 3 with (fail)
  refine wp_region_tx w hK ?_
  clear hK
  apply txF (wants0 rfl); (· intro w' hK; have k_R1 := (hK.get m4); have ⟨c_R1_0, c_R1_1⟩ := k_R1.c2; go_simp; (try go_bits); exact ⟨rfl, rfl⟩); simp only [Act.put, pA, pB, pC]
  apply txH (v := .tuple #[.agg #[.int .u32 (paA a n : Int), .int .i64 (paN a n)], .int .i64 (paE a n)]) (wants0 rfl)
  · intro v1 hv1 w' hK; go_simp; (try go_bits); refine (parent_all a n w' (by first | assumption | omega | exact W32.zero)).mono ?_; rintro e w5 ⟨rfl, hb⟩; obtain rfl := hv1.out; exact ⟨_, rfl, rfl, hb⟩
  simp only [Act.put, pA, pB, pC]
  iterate 3 (apply txF (wants0 rfl); (· intro w' hK; go_simp; (try go_bits); exact ⟨rfl, rfl⟩); simp only [Act.put, pA, pB, pC])
  apply txA (.cells #[.int .u32 0, .int .i64 0] 24) (wants0 rfl)
  · intro w' hK; go_simp; rfl
  intro R9 q_R9
  have o_R1_R9 : R1 < R9 := q_R9 _ _ _ m4
  have o_R3_R9 : R3 < R9 := q_R9 _ _ _ m3
  have o_R4_R9 : R4 < R9 := q_R9 _ _ _ m2
  have o_R6_R9 : R6 < R9 := q_R9 _ _ _ m1
  have o_R7_R9 : R7 < R9 := q_R9 _ _ _ m0
  clear q_R9
  simp only [mkOf, Act.put, pA, pB, pC]
  apply txU 0 (Has w.heap.size R9 (.cells #[.int .u32 (paA a n : Int), .int .i64 (paN a n)] 24)) (wants0 rfl)
  · intro l1 hl1 w' hK; have k_R9 := (hK.get m0); have ⟨c_R9_0, c_R9_1⟩ := k_R9.c2; have f_R9 := k_R9.fz; go_simp; obtain rfl := hl1.out; exact ⟨rfl, ks_put (R := R9) hK k_R9.1 0 [.int .u32 (paA a n : Int), .int .i64 (paN a n)] (al1 (fun _ => has_put k_R9 _ _) (al1 (spL o_R7_R9 (hK.get m1)) (al1 (spL o_R6_R9 (hK.get m2)) (al1 (spL o_R4_R9 (hK.get m3)) (al1 (spL o_R3_R9 (hK.get m4)) (al1 (spL o_R1_R9 (hK.get m5)) aN))))))⟩
  simp only [Act.put, pB]
  apply txF (wants0 rfl); (· intro w' hK; go_simp; (try go_bits); exact ⟨rfl, rfl⟩); simp only [Act.put, pA, pB, pC]
  refine txEnd (fun W10 hK => ?_)
  go_upto_region 4 with (fail)
  refine wp_region_tx w hK ?_
  clear hK
  apply txF (wants0 rfl); (· intro w' hK; have k_R1 := (hK.get m5); have ⟨c_R1_0, c_R1_1⟩ := k_R1.c2; go_simp; (try go_bits); exact ⟨rfl, rfl⟩); simp only [Act.put, pA, pB, pC]
  apply txH (v := .tuple #[.agg #[.int .u32 (paA a n : Int), .int .i64 (paN a n)], .int .i64 (paE a n)]) (wants0 rfl)
  · intro v1 hv1 w' hK; go_simp; (try go_bits); refine (rparent_all a n w' (by first | assumption | omega | exact W32.zero)).mono ?_; rintro e w5 ⟨rfl, hb⟩; obtain rfl := hv1.out; exact ⟨_, rfl, rfl, hb⟩
  simp only [Act.put, pA, pB, pC]
  iterate 3 (apply txF (wants0 rfl); (· intro w' hK; go_simp; (try go_bits); exact ⟨rfl, rfl⟩); simp only [Act.put, pA, pB, pC])
  apply txA (.cells #[.int .u32 0, .int .i64 0] 24) (wants0 rfl)
  · intro w' hK; go_simp; rfl
  intro R11 q_R11
  have o_R1_R11 : R1 < R11 := q_R11 _ _ _ m5
  have o_R3_R11 : R3 < R11 := q_R11 _ _ _ m4
  have o_R4_R11 : R4 < R11 := q_R11 _ _ _ m3
  have o_R6_R11 : R6 < R11 := q_R11 _ _ _ m2
  have o_R7_R11 : R7 < R11 := q_R11 _ _ _ m1
  have o_R9_R11 : R9 < R11 := q_R11 _ _ _ m0
  clear q_R11
  simp only [mkOf, Act.put, pA, pB, pC]
  apply txU 0 (Has w.heap.size R11 (.cells #[.int .u32 (paA a n : Int), .int .i64 (paN a n)] 24)) (wants0 rfl)
  · intro l1 hl1 w' hK; have k_R11 := (hK.get m0); have ⟨c_R11_0, c_R11_1⟩ := k_R11.c2; have f_R11 := k_R11.fz; go_simp; obtain rfl := hl1.out; exact ⟨rfl, ks_put (R := R11) hK k_R11.1 0 [.int .u32 (paA a n : Int), .int .i64 (paN a n)] (al1 (fun _ => has_put k_R11 _ _) (al1 (spL o_R9_R11 (hK.get m1)) (al1 (spL o_R7_R11 (hK.get m2)) (al1 (spL o_R6_R11 (hK.get m3)) (al1 (spL o_R4_R11 (hK.get m4)) (al1 (spL o_R3_R11 (hK.get m5)) (al1 (spL o_R1_R11 (hK.get m6)) aN)))))))⟩
  simp only [Act.put, pB]
  apply txF (wants0 rfl); (· intro w' hK; go_simp; (try go_bits); exact ⟨rfl, rfl⟩); simp only [Act.put, pA, pB, pC]
  refine txEnd (fun W12 hK => ?_)
  go_upto_region 5 with (fail)
  refine wp_region_tx w hK ?_
  clear hK
  apply txH (v := .bool true) (wants0 rfl)
  · intro v1 hv1 w' hK; go_simp; (try go_bits); refine (awake_any   w' (hB0.below hK.old) ).mono ?_; rintro e w5 ⟨rfl, hb⟩; obtain rfl := hv1.out; exact ⟨_, rfl, rfl, hb⟩
  simp only [Act.put, pA, pB, pC]
  iterate 2 (apply txF (wants0 rfl); (· intro w' hK; go_simp; (try go_bits); exact ⟨rfl, rfl⟩); simp only [Act.put, pA, pB, pC])
  apply txF (wantsg (j := 2) (d := 41) (b := false) rfl rfl rfl rfl); (· intro w' hK; have k_R3 := (hK.get m5); have ⟨c_R3_0, c_R3_1⟩ := k_R3.c2; go_simp; (try go_bits); exact ⟨rfl, rfl⟩); simp only [Act.put, pA, pB, pC]
  apply txF (wantsg (j := 2) (d := 41) (b := false) rfl rfl rfl rfl); (· intro w' hK; have k_R6 := (hK.get m3); have ⟨c_R6_0, c_R6_1⟩ := k_R6.c2; go_simp; (try go_bits); exact ⟨rfl, rfl⟩); simp only [Act.put, pA, pB, pC]
  apply txF (v := .bool false) (wantsg (j := 2) (d := 41) (b := false) rfl rfl rfl rfl); (· intro w' hK; go_simp; (try go_bits); first | exact ⟨rfl, rfl⟩ | exact ⟨congrArg Value.bool (by simp), rfl⟩); simp only [Act.put, pA, pB, pC]
  iterate 2 (apply txF (wants0 rfl); (· intro w' hK; go_simp; (try go_bits); exact ⟨rfl, rfl⟩); simp only [Act.put, pA, pB, pC])
  apply txF (wantsg (j := 7) (d := 46) (b := false) rfl rfl rfl rfl); (· intro w' hK; have k_R4 := (hK.get m4); have ⟨c_R4_0, c_R4_1⟩ := k_R4.c2; go_simp; (try go_bits); exact ⟨rfl, rfl⟩); simp only [Act.put, pA, pB, pC]
  apply txF (wantsg (j := 7) (d := 46) (b := false) rfl rfl rfl rfl); (· intro w' hK; have k_R7 := (hK.get m2); have ⟨c_R7_0, c_R7_1⟩ := k_R7.c2; go_simp; (try go_bits); exact ⟨rfl, rfl⟩); simp only [Act.put, pA, pB, pC]
  apply txF (v := .bool false) (wantsg (j := 7) (d := 46) (b := false) rfl rfl rfl rfl); (· intro w' hK; go_simp; (try go_bits); first | exact ⟨rfl, rfl⟩ | exact ⟨congrArg Value.bool (by simp), rfl⟩); simp only [Act.put, pA, pB, pC]
  iterate 2 (apply txF (wants0 rfl); (· intro w' hK; go_simp; (try go_bits); exact ⟨rfl, rfl⟩); simp only [Act.put, pA, pB, pC])
  iterate 2 (apply txF (wantsg (j := 12) (d := 51) (b := false) rfl rfl rfl rfl); (· intro w' hK; go_simp; (try go_bits); exact ⟨rfl, rfl⟩); simp only [Act.put, pA, pB, pC])
  apply txF (v := .bool false) (wantsg (j := 12) (d := 51) (b := false) rfl rfl rfl rfl); (· intro w' hK; go_simp; (try go_bits); first | exact ⟨rfl, rfl⟩ | exact ⟨congrArg Value.bool (by simp), rfl⟩); simp only [Act.put, pA, pB, pC]
  iterate 2 (apply txF (wants0 rfl); (· intro w' hK; go_simp; (try go_bits); exact ⟨rfl, rfl⟩); simp only [Act.put, pA, pB, pC])
  apply txF (wantsg (j := 17) (d := 56) (b := false) rfl rfl rfl rfl); (· intro w' hK; have k_R9 := (hK.get m1); have ⟨c_R9_0, c_R9_1⟩ := k_R9.c2; go_simp; (try go_bits); exact ⟨rfl, rfl⟩); simp only [Act.put, pA, pB, pC]
  apply txF (wantsg (j := 17) (d := 56) (b := false) rfl rfl rfl rfl); (· intro w' hK; have k_R11 := (hK.get m0); have ⟨c_R11_0, c_R11_1⟩ := k_R11.c2; go_simp; (try go_bits); exact ⟨rfl, rfl⟩); simp only [Act.put, pA, pB, pC]
  apply txF (v := .bool false) (wantsg (j := 17) (d := 56) (b := false) rfl rfl rfl rfl); (· intro w' hK; go_simp; (try go_bits); first | exact ⟨rfl, rfl⟩ | exact ⟨congrArg Value.bool (by simp), rfl⟩); simp only [Act.put, pA, pB, pC]
  iterate 2 (apply txF (wants0 rfl); (· intro w' hK; go_simp; (try go_bits); exact ⟨rfl, rfl⟩); simp only [Act.put, pA, pB, pC])
  iterate 2 (apply txF (wantsg (j := 22) (d := 61) (b := false) rfl rfl rfl rfl); (· intro w' hK; go_simp; (try go_bits); exact ⟨rfl, rfl⟩); simp only [Act.put, pA, pB, pC])
  apply txF (v := .bool false) (wantsg (j := 22) (d := 61) (b := false) rfl rfl rfl rfl); (· intro w' hK; go_simp; (try go_bits); first | exact ⟨rfl, rfl⟩ | exact ⟨congrArg Value.bool (by simp), rfl⟩); simp only [Act.put, pA, pB, pC]
  apply txF (wants0 rfl); (· intro w' hK; go_simp; (try go_bits); exact ⟨rfl, rfl⟩); simp only [Act.put, pA, pB, pC]
  refine txEnd (fun W13 hK => ?_)
  go_upto_region 7 with (fail)
  refine wp_region_tx w hK ?_
  clear hK
  apply txF (wants0 rfl); (· intro w' hK; go_simp; (try go_bits); exact ⟨rfl, rfl⟩); simp only [Act.put, pA, pB, pC]
  obtain ⟨b1, hb1⟩ : ∃ b : Bool, RowKit.Hid ((((slE a n)) != 0) = b) := ⟨_, hid rfl⟩
  apply txB b1 (wants0 rfl); (· intro w' hK; go_simp; (try go_bits); exact ⟨by have q := hb1.out; subst q; first | rfl | simp, rfl⟩); simp only [Act.put, pA, pB, pC]
  refine txEnd (fun W14 hK => ?_)
  cases b1
  · --
   go_upto_region 9 with (fail)
   refine wp_region_tx w hK ?_
   clear hK
   apply txF (wants0 rfl); (· intro w' hK; have k_R3 := (hK.get m5); have ⟨c_R3_0, c_R3_1⟩ := k_R3.c2; go_simp; (try go_bits); exact ⟨rfl, rfl⟩); simp only [Act.put, pA, pB, pC]
   apply txH (v := .tuple #[.agg #[.int .u32 (a : Int), .int .i64 n], .int .i64 0]) (wants0 rfl)
   · intro v1 hv1 w' hK; go_simp; (try go_bits); refine (parent_lo a n w' ha hb1.out).mono ?_; rintro e w5 ⟨rfl, hb⟩; obtain rfl := hv1.out; exact ⟨_, rfl, rfl, hb⟩
   simp only [Act.put, pA, pB, pC]
   iterate 3 (apply txF (wants0 rfl); (· intro w' hK; go_simp; (try go_bits); exact ⟨rfl, rfl⟩); simp only [Act.put, pA, pB, pC])
   apply txA (.cells #[.int .u32 0, .int .i64 0] 24) (wants0 rfl)
   · intro w' hK; go_simp; rfl
   intro R15 q_R15
   have o_R1_R15 : R1 < R15 := q_R15 _ _ _ m6
   have o_R3_R15 : R3 < R15 := q_R15 _ _ _ m5
   have o_R4_R15 : R4 < R15 := q_R15 _ _ _ m4
   have o_R6_R15 : R6 < R15 := q_R15 _ _ _ m3
   have o_R7_R15 : R7 < R15 := q_R15 _ _ _ m2
   have o_R9_R15 : R9 < R15 := q_R15 _ _ _ m1
   have o_R11_R15 : R11 < R15 := q_R15 _ _ _ m0
   clear q_R15
   simp only [mkOf, Act.put, pA, pB, pC]
   apply txU 0 (Has w.heap.size R15 (.cells #[.int .u32 (a : Int), .int .i64 n] 24)) (wants0 rfl)
   · intro l1 hl1 w' hK; have k_R15 := (hK.get m0); have ⟨c_R15_0, c_R15_1⟩ := k_R15.c2; have f_R15 := k_R15.fz; go_simp; obtain rfl := hl1.out; exact ⟨rfl, ks_put (R := R15) hK k_R15.1 0 [.int .u32 (a : Int), .int .i64 n] (al1 (fun _ => has_put k_R15 _ _) (al1 (spL o_R11_R15 (hK.get m1)) (al1 (spL o_R9_R15 (hK.get m2)) (al1 (spL o_R7_R15 (hK.get m3)) (al1 (spL o_R6_R15 (hK.get m4)) (al1 (spL o_R4_R15 (hK.get m5)) (al1 (spL o_R3_R15 (hK.get m6)) (al1 (spL o_R1_R15 (hK.get m7)) aN))))))))⟩
   simp only [Act.put, pB]
   apply txF (wants0 rfl); (· intro w' hK; go_simp; (try go_bits); exact ⟨rfl, rfl⟩); simp only [Act.put, pA, pB, pC]
   refine txEnd (fun W16 hK => ?_)
   go_upto_region 10 with (fail)
   refine wp_region_tx w hK ?_
   clear hK
   apply txF (wants0 rfl); (· intro w' hK; have k_R4 := (hK.get m5); have ⟨c_R4_0, c_R4_1⟩ := k_R4.c2; go_simp; (try go_bits); exact ⟨rfl, rfl⟩); simp only [Act.put, pA, pB, pC]
   apply txH (v := .tuple #[.agg #[.int .u32 (a : Int), .int .i64 n], .int .i64 0]) (wants0 rfl)
   · intro v1 hv1 w' hK; go_simp; (try go_bits); refine (parent_hi a n w' ha hb1.out).mono ?_; rintro e w5 ⟨rfl, hb⟩; obtain rfl := hv1.out; exact ⟨_, rfl, rfl, hb⟩
   simp only [Act.put, pA, pB, pC]
   iterate 3 (apply txF (wants0 rfl); (· intro w' hK; go_simp; (try go_bits); exact ⟨rfl, rfl⟩); simp only [Act.put, pA, pB, pC])
   apply txA (.cells #[.int .u32 0, .int .i64 0] 24) (wants0 rfl)
   · intro w' hK; go_simp; rfl
   intro R17 q_R17
   have o_R1_R17 : R1 < R17 := q_R17 _ _ _ m7
   have o_R3_R17 : R3 < R17 := q_R17 _ _ _ m6
   have o_R4_R17 : R4 < R17 := q_R17 _ _ _ m5
   have o_R6_R17 : R6 < R17 := q_R17 _ _ _ m4
   have o_R7_R17 : R7 < R17 := q_R17 _ _ _ m3
   have o_R9_R17 : R9 < R17 := q_R17 _ _ _ m2
   have o_R11_R17 : R11 < R17 := q_R17 _ _ _ m1
   have o_R15_R17 : R15 < R17 := q_R17 _ _ _ m0
   clear q_R17
   simp only [mkOf, Act.put, pA, pB, pC]
   apply txU 0 (Has w.heap.size R17 (.cells #[.int .u32 (a : Int), .int .i64 n] 24)) (wants0 rfl)
   · intro l1 hl1 w' hK; have k_R17 := (hK.get m0); have ⟨c_R17_0, c_R17_1⟩ := k_R17.c2; have f_R17 := k_R17.fz; go_simp; obtain rfl := hl1.out; exact ⟨rfl, ks_put (R := R17) hK k_R17.1 0 [.int .u32 (a : Int), .int .i64 n] (al1 (fun _ => has_put k_R17 _ _) (al1 (spL o_R15_R17 (hK.get m1)) (al1 (spL o_R11_R17 (hK.get m2)) (al1 (spL o_R9_R17 (hK.get m3)) (al1 (spL o_R7_R17 (hK.get m4)) (al1 (spL o_R6_R17 (hK.get m5)) (al1 (spL o_R4_R17 (hK.get m6)) (al1 (spL o_R3_R17 (hK.get m7)) (al1 (spL o_R1_R17 (hK.get m8)) aN)))))))))⟩
   simp only [Act.put, pB]
   apply txF (wants0 rfl); (· intro w' hK; go_simp; (try go_bits); exact ⟨rfl, rfl⟩); simp only [Act.put, pA, pB, pC]
   refine txEnd (fun W18 hK => ?_)
   go_upto_region 11 with (fail)
   refine wp_region_tx w hK ?_
   clear hK
   iterate 3 (apply txF (wants0 rfl); (· intro w' hK; go_simp; (try go_bits); exact ⟨rfl, rfl⟩); simp only [Act.put, pA, pB, pC])
   iterate 2 (apply txF (wantsg (j := 2) (d := 80) (b := true) rfl rfl rfl rfl); (· intro w' hK; go_simp; (try go_bits); exact ⟨rfl, rfl⟩); simp only [Act.put, pA, pB, pC])
   iterate 2 (apply txF (wants0 rfl); (· intro w' hK; go_simp; (try go_bits); exact ⟨rfl, rfl⟩); simp only [Act.put, pA, pB, pC])
   apply txF (wantsg (j := 6) (d := 84) (b := true) rfl rfl rfl rfl); (· intro w' hK; have k_R15 := (hK.get m1); have ⟨c_R15_0, c_R15_1⟩ := k_R15.c2; go_simp; (try go_bits); exact ⟨rfl, rfl⟩); simp only [Act.put, pA, pB, pC]
   apply txF (wantsg (j := 6) (d := 84) (b := true) rfl rfl rfl rfl); (· intro w' hK; have k_R1 := (hK.get m8); have ⟨c_R1_0, c_R1_1⟩ := k_R1.c2; go_simp; (try go_bits); exact ⟨rfl, rfl⟩); simp only [Act.put, pA, pB, pC]
   apply txF (v := .bool true) (wantsg (j := 6) (d := 84) (b := true) rfl rfl rfl rfl); (· intro w' hK; go_simp; (try go_bits); first | exact ⟨rfl, rfl⟩ | exact ⟨congrArg Value.bool (by simp), rfl⟩); simp only [Act.put, pA, pB, pC]
   iterate 2 (apply txF (wants0 rfl); (· intro w' hK; go_simp; (try go_bits); exact ⟨rfl, rfl⟩); simp only [Act.put, pA, pB, pC])
   apply txF (wantsg (j := 11) (d := 89) (b := true) rfl rfl rfl rfl); (· intro w' hK; have k_R17 := (hK.get m0); have ⟨c_R17_0, c_R17_1⟩ := k_R17.c2; go_simp; (try go_bits); exact ⟨rfl, rfl⟩); simp only [Act.put, pA, pB, pC]
   apply txF (wantsg (j := 11) (d := 89) (b := true) rfl rfl rfl rfl); (· intro w' hK; have k_R1 := (hK.get m8); have ⟨c_R1_0, c_R1_1⟩ := k_R1.c2; go_simp; (try go_bits); exact ⟨rfl, rfl⟩); simp only [Act.put, pA, pB, pC]
   apply txF (v := .bool true) (wantsg (j := 11) (d := 89) (b := true) rfl rfl rfl rfl); (· intro w' hK; go_simp; (try go_bits); first | exact ⟨rfl, rfl⟩ | exact ⟨congrArg Value.bool (by simp), rfl⟩); simp only [Act.put, pA, pB, pC]
   iterate 2 (apply txF (wants0 rfl); (· intro w' hK; go_simp; (try go_bits); exact ⟨rfl, rfl⟩); simp only [Act.put, pA, pB, pC])
   refine txEnd (fun W19 hK => ?_)
   go_wp2
   try go_ret
   show Q0 (.returned (.bool true)) _
   exact (by obtain rfl := hQ0.out; exact ⟨rfl, hK.old⟩)
  · --
   go_wp2
   try go_ret
   show Q0 (.returned (.bool true)) _
   exact (by obtain rfl := hQ0.out; exact ⟨rfl, hK.old⟩)

set_option maxRecDepth 100000 in
theorem prefixNested_walk  (a : Nat) (n : Int) (c : Nat) (m : Int) (x : Nat) (w : World)  (hB0 : Bas w) (ha : W32 a) (hc : W32 c) (hx : W32 x) :
    Calls Tryd.prog 5 #[.agg #[.int .u32 (a : Int), .int .i64 n], .agg #[.int .u32 (c : Int), .int .i64 m], .int .u32 (x : Int)] w fun e w' => e = .returned (.bool true) ∧ Below w.heap.size w w' := by
  have hK : KS w [] w := (KS.start w)
  refine Calls.hide (fun Q0 hQ0 => ?_)
  go_enter Tryd.func5, Tryd.ntmps5
  go_upto_region 0 with (fail)
  refine wp_region_tx w hK ?_
  clear hK
  apply txA (.cells #[.int .u32 (a : Int), .int .i64 n] 24) (wants0 rfl)
  · intro w' hK; go_simp; rfl
  intro R1 q_R1
  clear q_R1
  simp only [mkOf, Act.put, pA, pB, pC]
  apply txA (.cells #[.int .u32 (c : Int), .int .i64 m] 24) (wants0 rfl)
  · intro w' hK; go_simp; rfl
  intro R2 q_R2
  have o_R1_R2 : R1 < R2 := q_R2 _ _ _ m0
  clear q_R2
  simp only [mkOf, Act.put, pA, pB, pC]
  apply txF (wants0 rfl); (· intro w' hK; go_simp; (try go_bits); exact ⟨rfl, rfl⟩); simp only [Act.put, pA, pB, pC]
  refine txEnd (fun W3 hK => ?_)
  go_upto_region 1 with (fail)
  refine wp_region_tx w hK ?_
  clear hK
  apply txH (v := .bool true) (wants0 rfl)
  · intro v1 hv1 w' hK; go_simp; (try go_bits); refine (awake_any   w' (hB0.below hK.old) ).mono ?_; rintro e w5 ⟨rfl, hb⟩; obtain rfl := hv1.out; exact ⟨_, rfl, rfl, hb⟩
  simp only [Act.put, pA, pB, pC]
  iterate 2 (apply txF (wants0 rfl); (· intro w' hK; go_simp; (try go_bits); exact ⟨rfl, rfl⟩); simp only [Act.put, pA, pB, pC])
  apply txF (wantsg (j := 2) (d := 10) (b := false) rfl rfl rfl rfl); (· intro w' hK; have k_R1 := (hK.get m1); have ⟨c_R1_0, c_R1_1⟩ := k_R1.c2; go_simp; (try go_bits); exact ⟨rfl, rfl⟩); simp only [Act.put, pA, pB, pC]
  obtain ⟨b1, hb1⟩ : ∃ b : Bool, RowKit.Hid ((vld a n) = b) := ⟨_, hid rfl⟩
  apply txH (v := .bool b1) (wantsg (j := 2) (d := 10) (b := false) rfl rfl rfl rfl)
  · intro v1 hv1 w' hK; go_simp; (try go_bits); refine (rvalid_any a n w' (by first | assumption | omega | exact W32.zero)).mono ?_; rintro e w5 ⟨rfl, hb⟩; obtain rfl := hv1.out; exact ⟨_, rfl, (by rw [hb1.out]), hb⟩
  simp only [Act.put, pA, pB, pC]
  apply txF (wantsg (j := 2) (d := 10) (b := false) rfl rfl rfl rfl); (· intro w' hK; go_simp; (try go_bits); exact ⟨rfl, rfl⟩); simp only [Act.put, pA, pB, pC]
  iterate 2 (apply txF (wants0 rfl); (· intro w' hK; go_simp; (try go_bits); exact ⟨rfl, rfl⟩); simp only [Act.put, pA, pB, pC])
  cases b1
  · --
   iterate 3 (apply txN (j := 7) (d := 15) (b := false) rfl rfl rfl rfl; simp only [Act.put, pA, pB, pC])
   apply txF (wants0 rfl); (· intro w' hK; go_simp; (try go_bits); exact ⟨rfl, rfl⟩); simp only [Act.put, pA, pB, pC]
   refine txEnd (fun W4 hK => ?_)
   go_upto_region 2 with (fail)
   refine wp_region_tx w hK ?_
   clear hK
   apply txH (v := .bool true) (wants0 rfl)
   · intro v1 hv1 w' hK; go_simp; (try go_bits); refine (awake_any   w' (hB0.below hK.old) ).mono ?_; rintro e w5 ⟨rfl, hb⟩; obtain rfl := hv1.out; exact ⟨_, rfl, rfl, hb⟩
   simp only [Act.put, pA, pB, pC]
   apply txF (wants0 rfl); (· intro w' hK; go_simp; (try go_bits); exact ⟨rfl, rfl⟩); simp only [Act.put, pA, pB, pC]
   refine txEnd (fun W5 hK => ?_)
   go_wp2
   try go_ret
   show Q0 (.returned (.bool true)) _
   exact (by obtain rfl := hQ0.out; exact ⟨rfl, hK.old⟩)
  · --
   apply txF (wantsg (j := 7) (d := 15) (b := false) rfl rfl rfl rfl); (· intro w' hK; have k_R2 := (hK.get m0); have ⟨c_R2_0, c_R2_1⟩ := k_R2.c2; go_simp; (try go_bits); exact ⟨rfl, rfl⟩); simp only [Act.put, pA, pB, pC]
   obtain ⟨b2, hb2⟩ : ∃ b : Bool, RowKit.Hid ((vld c m) = b) := ⟨_, hid rfl⟩
   apply txH (v := .bool b2) (wantsg (j := 7) (d := 15) (b := false) rfl rfl rfl rfl)
   · intro v1 hv1 w' hK; go_simp; (try go_bits); refine (rvalid_any c m w' (by first | assumption | omega | exact W32.zero)).mono ?_; rintro e w5 ⟨rfl, hb⟩; obtain rfl := hv1.out; exact ⟨_, rfl, (by rw [hb2.out]), hb⟩
   simp only [Act.put, pA, pB, pC]
   apply txF (wantsg (j := 7) (d := 15) (b := false) rfl rfl rfl rfl); (· intro w' hK; go_simp; (try go_bits); exact ⟨rfl, rfl⟩); simp only [Act.put, pA, pB, pC]
   apply txF (wants0 rfl); (· intro w' hK; go_simp; (try go_bits); exact ⟨rfl, rfl⟩); simp only [Act.put, pA, pB, pC]
   refine txEnd (fun W6 hK => ?_)
   cases b2
   · --
    go_upto_region 2 with (fail)
    refine wp_region_tx w hK ?_
    clear hK
    apply txH (v := .bool true) (wants0 rfl)
    · intro v1 hv1 w' hK; go_simp; (try go_bits); refine (awake_any   w' (hB0.below hK.old) ).mono ?_; rintro e w5 ⟨rfl, hb⟩; obtain rfl := hv1.out; exact ⟨_, rfl, rfl, hb⟩
    simp only [Act.put, pA, pB, pC]
    apply txF (wants0 rfl); (· intro w' hK; go_simp; (try go_bits); exact ⟨rfl, rfl⟩); simp only [Act.put, pA, pB, pC]
    refine txEnd (fun W7 hK => ?_)
    go_wp2
    try go_ret
    show Q0 (.returned (.bool true)) _
    exact (by obtain rfl := hQ0.out; exact ⟨rfl, hK.old⟩)
   · --
    go_upto_region 3 with (fail)
    refine wp_region_tx w hK ?_
    clear hK
    apply txF (wants0 rfl); (· intro w' hK; have k_R1 := (hK.get m1); have ⟨c_R1_0, c_R1_1⟩ := k_R1.c2; go_simp; (try go_bits); exact ⟨rfl, rfl⟩); simp only [Act.put, pA, pB, pC]
    apply txF (wants0 rfl); (· intro w' hK; have k_R2 := (hK.get m0); have ⟨c_R2_0, c_R2_1⟩ := k_R2.c2; go_simp; (try go_bits); exact ⟨rfl, rfl⟩); simp only [Act.put, pA, pB, pC]
    obtain ⟨b3, hb3⟩ : ∃ b : Bool, RowKit.Hid ((cvr a n c m) = b) := ⟨_, hid rfl⟩
    apply txH (v := .bool b3) (wants0 rfl)
    · intro v1 hv1 w' hK; go_simp; (try go_bits); refine (covers_any a n c m w' (by first | assumption | omega | exact W32.zero) (by first | assumption | omega | exact W32.zero)).mono ?_; rintro e w5 ⟨rfl, hb⟩; obtain rfl := hv1.out; exact ⟨_, rfl, (by rw [hb3.out]), hb⟩
    simp only [Act.put, pA, pB, pC]
    apply txF (wants0 rfl); (· intro w' hK; go_simp; (try go_bits); exact ⟨rfl, rfl⟩); simp only [Act.put, pA, pB, pC]
    cases b3
    · --
     apply txF (wantsg (j := 3) (d := 24) (b := false) rfl rfl rfl rfl); (· intro w' hK; have k_R2 := (hK.get m0); have ⟨c_R2_0, c_R2_1⟩ := k_R2.c2; go_simp; (try go_bits); exact ⟨rfl, rfl⟩); simp only [Act.put, pA, pB, pC]
     apply txF (wantsg (j := 3) (d := 24) (b := false) rfl rfl rfl rfl); (· intro w' hK; have k_R1 := (hK.get m1); have ⟨c_R1_0, c_R1_1⟩ := k_R1.c2; go_simp; (try go_bits); exact ⟨rfl, rfl⟩); simp only [Act.put, pA, pB, pC]
     obtain ⟨b4, hb4⟩ : ∃ b : Bool, RowKit.Hid ((cvr c m a n) = b) := ⟨_, hid rfl⟩
     apply txH (v := .bool b4) (wantsg (j := 3) (d := 24) (b := false) rfl rfl rfl rfl)
     · intro v1 hv1 w' hK; go_simp; (try go_bits); refine (covers_any c m a n w' (by first | assumption | omega | exact W32.zero) (by first | assumption | omega | exact W32.zero)).mono ?_; rintro e w5 ⟨rfl, hb⟩; obtain rfl := hv1.out; exact ⟨_, rfl, (by rw [hb4.out]), hb⟩
     simp only [Act.put, pA, pB, pC]
     iterate 2 (apply txF (wants0 rfl); (· intro w' hK; go_simp; (try go_bits); exact ⟨rfl, rfl⟩); simp only [Act.put, pA, pB, pC])
     refine txEnd (fun W8 hK => ?_)
     go_upto_region 4 with (fail)
     refine wp_region_tx w hK ?_
     clear hK
     apply txF (wants0 rfl); (· intro w' hK; have k_R1 := (hK.get m1); have ⟨c_R1_0, c_R1_1⟩ := k_R1.c2; go_simp; (try go_bits); exact ⟨rfl, rfl⟩); simp only [Act.put, pA, pB, pC]
     apply txF (wants0 rfl); (· intro w' hK; go_simp; (try go_bits); exact ⟨rfl, rfl⟩); simp only [Act.put, pA, pB, pC]
     obtain ⟨b5, hb5⟩ : ∃ b : Bool, RowKit.Hid ((cts a n x) = b) := ⟨_, hid rfl⟩
     apply txH (v := .bool b5) (wants0 rfl)
     · intro v1 hv1 w' hK; go_simp; (try go_bits); refine (contains_any a n x w' (by first | assumption | omega | exact W32.zero) (by first | assumption | omega | exact W32.zero)).mono ?_; rintro e w5 ⟨rfl, hb⟩; obtain rfl := hv1.out; exact ⟨_, rfl, (by rw [hb5.out]), hb⟩
     simp only [Act.put, pA, pB, pC]
     apply txF (wants0 rfl); (· intro w' hK; go_simp; (try go_bits); exact ⟨rfl, rfl⟩); simp only [Act.put, pA, pB, pC]
     cases b5
     · --
      iterate 3 (apply txN (j := 3) (d := 32) (b := true) rfl rfl rfl rfl; simp only [Act.put, pA, pB, pC])
      iterate 2 (apply txF (wants0 rfl); (· intro w' hK; go_simp; (try go_bits); exact ⟨rfl, rfl⟩); simp only [Act.put, pA, pB, pC])
      iterate 2 (apply txN (j := 8) (d := 37) (b := true) rfl rfl rfl rfl; simp only [Act.put, pA, pB, pC])
      apply txF (wants0 rfl); (· intro w' hK; go_simp; (try go_bits); exact ⟨rfl, rfl⟩); simp only [Act.put, pA, pB, pC]
      refine txEnd (fun W9 hK => ?_)
      go_upto_region 6 with (fail)
      refine wp_region_tx w hK ?_
      clear hK
      apply txF (wants0 rfl); (· intro w' hK; go_simp; (try go_bits); exact ⟨rfl, rfl⟩); simp only [Act.put, pA, pB, pC]
      apply txF (wants0 rfl); (· intro w' hK; have k_R1 := (hK.get m1); have ⟨c_R1_0, c_R1_1⟩ := k_R1.c2; go_simp; (try go_bits); exact ⟨rfl, rfl⟩); simp only [Act.put, pA, pB, pC]
      apply txF (wants0 rfl); (· intro w' hK; go_simp; (try go_bits); exact ⟨rfl, rfl⟩); simp only [Act.put, pA, pB, pC]
      apply txF (wants0 rfl); (· intro w' hK; have k_R2 := (hK.get m0); have c_R2_0 := k_R2.at 0 rfl; go_simp; (try go_bits); exact ⟨rfl, rfl⟩); simp only [Act.put, pA, pB, pC]
      obtain ⟨b6, hb6⟩ : ∃ b : Bool, RowKit.Hid ((cts a n c) = b) := ⟨_, hid rfl⟩
      apply txH (v := .bool b6) (wants0 rfl)
      · intro v1 hv1 w' hK; go_simp; (try go_bits); refine (contains_any a n c w' (by first | assumption | omega | exact W32.zero) (by first | assumption | omega | exact W32.zero)).mono ?_; rintro e w5 ⟨rfl, hb⟩; obtain rfl := hv1.out; exact ⟨_, rfl, (by rw [hb6.out]), hb⟩
      simp only [Act.put, pA, pB, pC]
      apply txF (wants0 rfl); (· intro w' hK; go_simp; (try go_bits); exact ⟨rfl, rfl⟩); simp only [Act.put, pA, pB, pC]
      cases b6
      · --
       apply txF (wantsg (j := 5) (d := 46) (b := false) rfl rfl rfl rfl); (· intro w' hK; have k_R2 := (hK.get m0); have ⟨c_R2_0, c_R2_1⟩ := k_R2.c2; go_simp; (try go_bits); exact ⟨rfl, rfl⟩); simp only [Act.put, pA, pB, pC]
       apply txF (wantsg (j := 5) (d := 46) (b := false) rfl rfl rfl rfl); (· intro w' hK; go_simp; (try go_bits); exact ⟨rfl, rfl⟩); simp only [Act.put, pA, pB, pC]
       apply txF (wantsg (j := 5) (d := 46) (b := false) rfl rfl rfl rfl); (· intro w' hK; have k_R1 := (hK.get m1); have c_R1_0 := k_R1.at 0 rfl; go_simp; (try go_bits); exact ⟨rfl, rfl⟩); simp only [Act.put, pA, pB, pC]
       obtain ⟨b7, hb7⟩ : ∃ b : Bool, RowKit.Hid ((cts c m a) = b) := ⟨_, hid rfl⟩
       apply txH (v := .bool b7) (wantsg (j := 5) (d := 46) (b := false) rfl rfl rfl rfl)
       · intro v1 hv1 w' hK; go_simp; (try go_bits); refine (contains_any c m a w' (by first | assumption | omega | exact W32.zero) (by first | assumption | omega | exact W32.zero)).mono ?_; rintro e w5 ⟨rfl, hb⟩; obtain rfl := hv1.out; exact ⟨_, rfl, (by rw [hb7.out]), hb⟩
       simp only [Act.put, pA, pB, pC]
       apply txF (wants0 rfl); (· intro w' hK; go_simp; (try go_bits); exact ⟨rfl, rfl⟩); simp only [Act.put, pA, pB, pC]
       obtain ⟨b8, hb8⟩ : ∃ b : Bool, RowKit.Hid ((b4 == b7) = b) := ⟨_, hid rfl⟩
       apply txB b8 (wants0 rfl); (· intro w' hK; go_simp; (try go_bits); exact ⟨by have q := hb8.out; subst q; first | rfl | simp, rfl⟩); simp only [Act.put, pA, pB, pC]
       apply txF (wants0 rfl); (· intro w' hK; go_simp; (try go_bits); exact ⟨rfl, rfl⟩); simp only [Act.put, pA, pB, pC]
       refine txEnd (fun W10 hK => ?_)
       go_wp2
       try go_ret
       show Q0 (.returned (.bool b8)) _
       exact (by obtain rfl := hQ0.out; exact ⟨(ret_bool (by have e_b1 := hb1.out; have e_b2 := hb2.out; have e_b3 := hb3.out; have e_b4 := hb4.out; have e_b5 := hb5.out; have e_b6 := hb6.out; have e_b7 := hb7.out; have e_b8 := hb8.out; have q := nested_law (p := (a, n)) (q := (c, m)) ⟨ha, e_b1⟩ ⟨hc, e_b2⟩; have r := nested_no (p := (a, n)) (q := (c, m)) ⟨ha, e_b1⟩ ⟨hc, e_b2⟩ x; simp_all)), hK.old⟩)
      · --
       iterate 4 (apply txN (j := 5) (d := 46) (b := false) rfl rfl rfl rfl; simp only [Act.put, pA, pB, pC])
       apply txF (wants0 rfl); (· intro w' hK; go_simp; (try go_bits); exact ⟨rfl, rfl⟩); simp only [Act.put, pA, pB, pC]
       obtain ⟨b7, hb7⟩ : ∃ b : Bool, RowKit.Hid ((b4 == true) = b) := ⟨_, hid rfl⟩
       apply txB b7 (wants0 rfl); (· intro w' hK; go_simp; (try go_bits); exact ⟨by have q := hb7.out; subst q; first | rfl | simp, rfl⟩); simp only [Act.put, pA, pB, pC]
       apply txF (wants0 rfl); (· intro w' hK; go_simp; (try go_bits); exact ⟨rfl, rfl⟩); simp only [Act.put, pA, pB, pC]
       refine txEnd (fun W11 hK => ?_)
       go_wp2
       try go_ret
       show Q0 (.returned (.bool b7)) _
       exact (by obtain rfl := hQ0.out; exact ⟨(ret_bool (by have e_b1 := hb1.out; have e_b2 := hb2.out; have e_b3 := hb3.out; have e_b4 := hb4.out; have e_b5 := hb5.out; have e_b6 := hb6.out; have e_b7 := hb7.out; have q := nested_law (p := (a, n)) (q := (c, m)) ⟨ha, e_b1⟩ ⟨hc, e_b2⟩; have r := nested_no (p := (a, n)) (q := (c, m)) ⟨ha, e_b1⟩ ⟨hc, e_b2⟩ x; simp_all)), hK.old⟩)
     · --
      apply txF (wantsg (j := 3) (d := 32) (b := true) rfl rfl rfl rfl); (· intro w' hK; have k_R2 := (hK.get m0); have ⟨c_R2_0, c_R2_1⟩ := k_R2.c2; go_simp; (try go_bits); exact ⟨rfl, rfl⟩); simp only [Act.put, pA, pB, pC]
      apply txF (wantsg (j := 3) (d := 32) (b := true) rfl rfl rfl rfl); (· intro w' hK; go_simp; (try go_bits); exact ⟨rfl, rfl⟩); simp only [Act.put, pA, pB, pC]
      obtain ⟨b6, hb6⟩ : ∃ b : Bool, RowKit.Hid ((cts c m x) = b) := ⟨_, hid rfl⟩
      apply txH (v := .bool b6) (wantsg (j := 3) (d := 32) (b := true) rfl rfl rfl rfl)
      · intro v1 hv1 w' hK; go_simp; (try go_bits); refine (contains_any c m x w' (by first | assumption | omega | exact W32.zero) (by first | assumption | omega | exact W32.zero)).mono ?_; rintro e w5 ⟨rfl, hb⟩; obtain rfl := hv1.out; exact ⟨_, rfl, (by rw [hb6.out]), hb⟩
      simp only [Act.put, pA, pB, pC]
      iterate 2 (apply txF (wants0 rfl); (· intro w' hK; go_simp; (try go_bits); exact ⟨rfl, rfl⟩); simp only [Act.put, pA, pB, pC])
      cases b6
      · --
       iterate 2 (apply txN (j := 8) (d := 37) (b := true) rfl rfl rfl rfl; simp only [Act.put, pA, pB, pC])
       apply txF (wants0 rfl); (· intro w' hK; go_simp; (try go_bits); exact ⟨rfl, rfl⟩); simp only [Act.put, pA, pB, pC]
       refine txEnd (fun W12 hK => ?_)
       go_upto_region 6 with (fail)
       refine wp_region_tx w hK ?_
       clear hK
       apply txF (wants0 rfl); (· intro w' hK; go_simp; (try go_bits); exact ⟨rfl, rfl⟩); simp only [Act.put, pA, pB, pC]
       apply txF (wants0 rfl); (· intro w' hK; have k_R1 := (hK.get m1); have ⟨c_R1_0, c_R1_1⟩ := k_R1.c2; go_simp; (try go_bits); exact ⟨rfl, rfl⟩); simp only [Act.put, pA, pB, pC]
       apply txF (wants0 rfl); (· intro w' hK; go_simp; (try go_bits); exact ⟨rfl, rfl⟩); simp only [Act.put, pA, pB, pC]
       apply txF (wants0 rfl); (· intro w' hK; have k_R2 := (hK.get m0); have c_R2_0 := k_R2.at 0 rfl; go_simp; (try go_bits); exact ⟨rfl, rfl⟩); simp only [Act.put, pA, pB, pC]
       obtain ⟨b7, hb7⟩ : ∃ b : Bool, RowKit.Hid ((cts a n c) = b) := ⟨_, hid rfl⟩
       apply txH (v := .bool b7) (wants0 rfl)
       · intro v1 hv1 w' hK; go_simp; (try go_bits); refine (contains_any a n c w' (by first | assumption | omega | exact W32.zero) (by first | assumption | omega | exact W32.zero)).mono ?_; rintro e w5 ⟨rfl, hb⟩; obtain rfl := hv1.out; exact ⟨_, rfl, (by rw [hb7.out]), hb⟩
       simp only [Act.put, pA, pB, pC]
       apply txF (wants0 rfl); (· intro w' hK; go_simp; (try go_bits); exact ⟨rfl, rfl⟩); simp only [Act.put, pA, pB, pC]
       cases b7
       · --
        apply txF (wantsg (j := 5) (d := 46) (b := false) rfl rfl rfl rfl); (· intro w' hK; have k_R2 := (hK.get m0); have ⟨c_R2_0, c_R2_1⟩ := k_R2.c2; go_simp; (try go_bits); exact ⟨rfl, rfl⟩); simp only [Act.put, pA, pB, pC]
        apply txF (wantsg (j := 5) (d := 46) (b := false) rfl rfl rfl rfl); (· intro w' hK; go_simp; (try go_bits); exact ⟨rfl, rfl⟩); simp only [Act.put, pA, pB, pC]
        apply txF (wantsg (j := 5) (d := 46) (b := false) rfl rfl rfl rfl); (· intro w' hK; have k_R1 := (hK.get m1); have c_R1_0 := k_R1.at 0 rfl; go_simp; (try go_bits); exact ⟨rfl, rfl⟩); simp only [Act.put, pA, pB, pC]
        obtain ⟨b8, hb8⟩ : ∃ b : Bool, RowKit.Hid ((cts c m a) = b) := ⟨_, hid rfl⟩
        apply txH (v := .bool b8) (wantsg (j := 5) (d := 46) (b := false) rfl rfl rfl rfl)
        · intro v1 hv1 w' hK; go_simp; (try go_bits); refine (contains_any c m a w' (by first | assumption | omega | exact W32.zero) (by first | assumption | omega | exact W32.zero)).mono ?_; rintro e w5 ⟨rfl, hb⟩; obtain rfl := hv1.out; exact ⟨_, rfl, (by rw [hb8.out]), hb⟩
        simp only [Act.put, pA, pB, pC]
        apply txF (wants0 rfl); (· intro w' hK; go_simp; (try go_bits); exact ⟨rfl, rfl⟩); simp only [Act.put, pA, pB, pC]
        obtain ⟨b9, hb9⟩ : ∃ b : Bool, RowKit.Hid ((b4 == b8) = b) := ⟨_, hid rfl⟩
        apply txB b9 (wants0 rfl); (· intro w' hK; go_simp; (try go_bits); exact ⟨by have q := hb9.out; subst q; first | rfl | simp, rfl⟩); simp only [Act.put, pA, pB, pC]
        apply txF (wants0 rfl); (· intro w' hK; go_simp; (try go_bits); exact ⟨rfl, rfl⟩); simp only [Act.put, pA, pB, pC]
        refine txEnd (fun W13 hK => ?_)
        go_wp2
        try go_ret
        show Q0 (.returned (.bool b9)) _
        exact (by obtain rfl := hQ0.out; exact ⟨(ret_bool (by have e_b1 := hb1.out; have e_b2 := hb2.out; have e_b3 := hb3.out; have e_b4 := hb4.out; have e_b5 := hb5.out; have e_b6 := hb6.out; have e_b7 := hb7.out; have e_b8 := hb8.out; have e_b9 := hb9.out; have q := nested_law (p := (a, n)) (q := (c, m)) ⟨ha, e_b1⟩ ⟨hc, e_b2⟩; have r := nested_no (p := (a, n)) (q := (c, m)) ⟨ha, e_b1⟩ ⟨hc, e_b2⟩ x; simp_all)), hK.old⟩)
       · --
        iterate 4 (apply txN (j := 5) (d := 46) (b := false) rfl rfl rfl rfl; simp only [Act.put, pA, pB, pC])
        apply txF (wants0 rfl); (· intro w' hK; go_simp; (try go_bits); exact ⟨rfl, rfl⟩); simp only [Act.put, pA, pB, pC]
        obtain ⟨b8, hb8⟩ : ∃ b : Bool, RowKit.Hid ((b4 == true) = b) := ⟨_, hid rfl⟩
        apply txB b8 (wants0 rfl); (· intro w' hK; go_simp; (try go_bits); exact ⟨by have q := hb8.out; subst q; first | rfl | simp, rfl⟩); simp only [Act.put, pA, pB, pC]
        apply txF (wants0 rfl); (· intro w' hK; go_simp; (try go_bits); exact ⟨rfl, rfl⟩); simp only [Act.put, pA, pB, pC]
        refine txEnd (fun W14 hK => ?_)
        go_wp2
        try go_ret
        show Q0 (.returned (.bool b8)) _
        exact (by obtain rfl := hQ0.out; exact ⟨(ret_bool (by have e_b1 := hb1.out; have e_b2 := hb2.out; have e_b3 := hb3.out; have e_b4 := hb4.out; have e_b5 := hb5.out; have e_b6 := hb6.out; have e_b7 := hb7.out; have e_b8 := hb8.out; have q := nested_law (p := (a, n)) (q := (c, m)) ⟨ha, e_b1⟩ ⟨hc, e_b2⟩; have r := nested_no (p := (a, n)) (q := (c, m)) ⟨ha, e_b1⟩ ⟨hc, e_b2⟩ x; simp_all)), hK.old⟩)
      · --
       iterate 2 (apply txF (wantsg (j := 8) (d := 37) (b := true) rfl rfl rfl rfl); (· intro w' hK; go_simp; (try go_bits); exact ⟨rfl, rfl⟩); simp only [Act.put, pA, pB, pC])
       apply txF (wants0 rfl); (· intro w' hK; go_simp; (try go_bits); exact ⟨rfl, rfl⟩); simp only [Act.put, pA, pB, pC]
       refine txEnd (fun W15 hK => ?_)
       cases b4
       · --
        go_wp2
        try go_ret
        show Q0 (.returned (.bool false)) _
        exact (by obtain rfl := hQ0.out; exact ⟨(ret_bool (by have e_b1 := hb1.out; have e_b2 := hb2.out; have e_b3 := hb3.out; have e_b4 := hb4.out; have e_b5 := hb5.out; have e_b6 := hb6.out; have q := nested_law (p := (a, n)) (q := (c, m)) ⟨ha, e_b1⟩ ⟨hc, e_b2⟩; have r := nested_no (p := (a, n)) (q := (c, m)) ⟨ha, e_b1⟩ ⟨hc, e_b2⟩ x; simp_all)), hK.old⟩)
       · --
        go_upto_region 6 with (fail)
        refine wp_region_tx w hK ?_
        clear hK
        apply txF (wants0 rfl); (· intro w' hK; go_simp; (try go_bits); exact ⟨rfl, rfl⟩); simp only [Act.put, pA, pB, pC]
        apply txF (wants0 rfl); (· intro w' hK; have k_R1 := (hK.get m1); have ⟨c_R1_0, c_R1_1⟩ := k_R1.c2; go_simp; (try go_bits); exact ⟨rfl, rfl⟩); simp only [Act.put, pA, pB, pC]
        apply txF (wants0 rfl); (· intro w' hK; go_simp; (try go_bits); exact ⟨rfl, rfl⟩); simp only [Act.put, pA, pB, pC]
        apply txF (wants0 rfl); (· intro w' hK; have k_R2 := (hK.get m0); have c_R2_0 := k_R2.at 0 rfl; go_simp; (try go_bits); exact ⟨rfl, rfl⟩); simp only [Act.put, pA, pB, pC]
        obtain ⟨b7, hb7⟩ : ∃ b : Bool, RowKit.Hid ((cts a n c) = b) := ⟨_, hid rfl⟩
        apply txH (v := .bool b7) (wants0 rfl)
        · intro v1 hv1 w' hK; go_simp; (try go_bits); refine (contains_any a n c w' (by first | assumption | omega | exact W32.zero) (by first | assumption | omega | exact W32.zero)).mono ?_; rintro e w5 ⟨rfl, hb⟩; obtain rfl := hv1.out; exact ⟨_, rfl, (by rw [hb7.out]), hb⟩
        simp only [Act.put, pA, pB, pC]
        apply txF (wants0 rfl); (· intro w' hK; go_simp; (try go_bits); exact ⟨rfl, rfl⟩); simp only [Act.put, pA, pB, pC]
        cases b7
        · --
         apply txF (wantsg (j := 5) (d := 46) (b := false) rfl rfl rfl rfl); (· intro w' hK; have k_R2 := (hK.get m0); have ⟨c_R2_0, c_R2_1⟩ := k_R2.c2; go_simp; (try go_bits); exact ⟨rfl, rfl⟩); simp only [Act.put, pA, pB, pC]
         apply txF (wantsg (j := 5) (d := 46) (b := false) rfl rfl rfl rfl); (· intro w' hK; go_simp; (try go_bits); exact ⟨rfl, rfl⟩); simp only [Act.put, pA, pB, pC]
         apply txF (wantsg (j := 5) (d := 46) (b := false) rfl rfl rfl rfl); (· intro w' hK; have k_R1 := (hK.get m1); have c_R1_0 := k_R1.at 0 rfl; go_simp; (try go_bits); exact ⟨rfl, rfl⟩); simp only [Act.put, pA, pB, pC]
         obtain ⟨b8, hb8⟩ : ∃ b : Bool, RowKit.Hid ((cts c m a) = b) := ⟨_, hid rfl⟩
         apply txH (v := .bool b8) (wantsg (j := 5) (d := 46) (b := false) rfl rfl rfl rfl)
         · intro v1 hv1 w' hK; go_simp; (try go_bits); refine (contains_any c m a w' (by first | assumption | omega | exact W32.zero) (by first | assumption | omega | exact W32.zero)).mono ?_; rintro e w5 ⟨rfl, hb⟩; obtain rfl := hv1.out; exact ⟨_, rfl, (by rw [hb8.out]), hb⟩
         simp only [Act.put, pA, pB, pC]
         apply txF (wants0 rfl); (· intro w' hK; go_simp; (try go_bits); exact ⟨rfl, rfl⟩); simp only [Act.put, pA, pB, pC]
         obtain ⟨b9, hb9⟩ : ∃ b : Bool, RowKit.Hid ((true == b8) = b) := ⟨_, hid rfl⟩
         apply txB b9 (wants0 rfl); (· intro w' hK; go_simp; (try go_bits); exact ⟨by have q := hb9.out; subst q; first | rfl | simp, rfl⟩); simp only [Act.put, pA, pB, pC]
         apply txF (wants0 rfl); (· intro w' hK; go_simp; (try go_bits); exact ⟨rfl, rfl⟩); simp only [Act.put, pA, pB, pC]
         refine txEnd (fun W16 hK => ?_)
         go_wp2
         try go_ret
         show Q0 (.returned (.bool b9)) _
         exact (by obtain rfl := hQ0.out; exact ⟨(ret_bool (by have e_b1 := hb1.out; have e_b2 := hb2.out; have e_b3 := hb3.out; have e_b4 := hb4.out; have e_b5 := hb5.out; have e_b6 := hb6.out; have e_b7 := hb7.out; have e_b8 := hb8.out; have e_b9 := hb9.out; have q := nested_law (p := (a, n)) (q := (c, m)) ⟨ha, e_b1⟩ ⟨hc, e_b2⟩; have r := nested_no (p := (a, n)) (q := (c, m)) ⟨ha, e_b1⟩ ⟨hc, e_b2⟩ x; simp_all)), hK.old⟩)
        · --
         iterate 4 (apply txN (j := 5) (d := 46) (b := false) rfl rfl rfl rfl; simp only [Act.put, pA, pB, pC])
         iterate 3 (apply txF (wants0 rfl); (· intro w' hK; go_simp; (try go_bits); exact ⟨rfl, rfl⟩); simp only [Act.put, pA, pB, pC])
         refine txEnd (fun W17 hK => ?_)
         go_wp2
         try go_ret
         show Q0 (.returned (.bool true)) _
         exact (by obtain rfl := hQ0.out; exact ⟨rfl, hK.old⟩)
    · --
     iterate 3 (apply txN (j := 3) (d := 24) (b := false) rfl rfl rfl rfl; simp only [Act.put, pA, pB, pC])
     iterate 2 (apply txF (wants0 rfl); (· intro w' hK; go_simp; (try go_bits); exact ⟨rfl, rfl⟩); simp only [Act.put, pA, pB, pC])
     refine txEnd (fun W18 hK => ?_)
     go_upto_region 4 with (fail)
     refine wp_region_tx w hK ?_
     clear hK
     apply txF (wants0 rfl); (· intro w' hK; have k_R1 := (hK.get m1); have ⟨c_R1_0, c_R1_1⟩ := k_R1.c2; go_simp; (try go_bits); exact ⟨rfl, rfl⟩); simp only [Act.put, pA, pB, pC]
     apply txF (wants0 rfl); (· intro w' hK; go_simp; (try go_bits); exact ⟨rfl, rfl⟩); simp only [Act.put, pA, pB, pC]
     obtain ⟨b4, hb4⟩ : ∃ b : Bool, RowKit.Hid ((cts a n x) = b) := ⟨_, hid rfl⟩
     apply txH (v := .bool b4) (wants0 rfl)
     · intro v1 hv1 w' hK; go_simp; (try go_bits); refine (contains_any a n x w' (by first | assumption | omega | exact W32.zero) (by first | assumption | omega | exact W32.zero)).mono ?_; rintro e w5 ⟨rfl, hb⟩; obtain rfl := hv1.out; exact ⟨_, rfl, (by rw [hb4.out]), hb⟩
     simp only [Act.put, pA, pB, pC]
     apply txF (wants0 rfl); (· intro w' hK; go_simp; (try go_bits); exact ⟨rfl, rfl⟩); simp only [Act.put, pA, pB, pC]
     cases b4
     · --
      iterate 3 (apply txN (j := 3) (d := 32) (b := true) rfl rfl rfl rfl; simp only [Act.put, pA, pB, pC])
      iterate 2 (apply txF (wants0 rfl); (· intro w' hK; go_simp; (try go_bits); exact ⟨rfl, rfl⟩); simp only [Act.put, pA, pB, pC])
      iterate 2 (apply txN (j := 8) (d := 37) (b := true) rfl rfl rfl rfl; simp only [Act.put, pA, pB, pC])
      apply txF (wants0 rfl); (· intro w' hK; go_simp; (try go_bits); exact ⟨rfl, rfl⟩); simp only [Act.put, pA, pB, pC]
      refine txEnd (fun W19 hK => ?_)
      go_upto_region 6 with (fail)
      refine wp_region_tx w hK ?_
      clear hK
      apply txF (wants0 rfl); (· intro w' hK; go_simp; (try go_bits); exact ⟨rfl, rfl⟩); simp only [Act.put, pA, pB, pC]
      apply txF (wants0 rfl); (· intro w' hK; have k_R1 := (hK.get m1); have ⟨c_R1_0, c_R1_1⟩ := k_R1.c2; go_simp; (try go_bits); exact ⟨rfl, rfl⟩); simp only [Act.put, pA, pB, pC]
      apply txF (wants0 rfl); (· intro w' hK; go_simp; (try go_bits); exact ⟨rfl, rfl⟩); simp only [Act.put, pA, pB, pC]
      apply txF (wants0 rfl); (· intro w' hK; have k_R2 := (hK.get m0); have c_R2_0 := k_R2.at 0 rfl; go_simp; (try go_bits); exact ⟨rfl, rfl⟩); simp only [Act.put, pA, pB, pC]
      obtain ⟨b5, hb5⟩ : ∃ b : Bool, RowKit.Hid ((cts a n c) = b) := ⟨_, hid rfl⟩
      apply txH (v := .bool b5) (wants0 rfl)
      · intro v1 hv1 w' hK; go_simp; (try go_bits); refine (contains_any a n c w' (by first | assumption | omega | exact W32.zero) (by first | assumption | omega | exact W32.zero)).mono ?_; rintro e w5 ⟨rfl, hb⟩; obtain rfl := hv1.out; exact ⟨_, rfl, (by rw [hb5.out]), hb⟩
      simp only [Act.put, pA, pB, pC]
      apply txF (wants0 rfl); (· intro w' hK; go_simp; (try go_bits); exact ⟨rfl, rfl⟩); simp only [Act.put, pA, pB, pC]
      cases b5
      · --
       apply txF (wantsg (j := 5) (d := 46) (b := false) rfl rfl rfl rfl); (· intro w' hK; have k_R2 := (hK.get m0); have ⟨c_R2_0, c_R2_1⟩ := k_R2.c2; go_simp; (try go_bits); exact ⟨rfl, rfl⟩); simp only [Act.put, pA, pB, pC]
       apply txF (wantsg (j := 5) (d := 46) (b := false) rfl rfl rfl rfl); (· intro w' hK; go_simp; (try go_bits); exact ⟨rfl, rfl⟩); simp only [Act.put, pA, pB, pC]
       apply txF (wantsg (j := 5) (d := 46) (b := false) rfl rfl rfl rfl); (· intro w' hK; have k_R1 := (hK.get m1); have c_R1_0 := k_R1.at 0 rfl; go_simp; (try go_bits); exact ⟨rfl, rfl⟩); simp only [Act.put, pA, pB, pC]
       obtain ⟨b6, hb6⟩ : ∃ b : Bool, RowKit.Hid ((cts c m a) = b) := ⟨_, hid rfl⟩
       apply txH (v := .bool b6) (wantsg (j := 5) (d := 46) (b := false) rfl rfl rfl rfl)
       · intro v1 hv1 w' hK; go_simp; (try go_bits); refine (contains_any c m a w' (by first | assumption | omega | exact W32.zero) (by first | assumption | omega | exact W32.zero)).mono ?_; rintro e w5 ⟨rfl, hb⟩; obtain rfl := hv1.out; exact ⟨_, rfl, (by rw [hb6.out]), hb⟩
       simp only [Act.put, pA, pB, pC]
       apply txF (wants0 rfl); (· intro w' hK; go_simp; (try go_bits); exact ⟨rfl, rfl⟩); simp only [Act.put, pA, pB, pC]
       obtain ⟨b7, hb7⟩ : ∃ b : Bool, RowKit.Hid ((true == b6) = b) := ⟨_, hid rfl⟩
       apply txB b7 (wants0 rfl); (· intro w' hK; go_simp; (try go_bits); exact ⟨by have q := hb7.out; subst q; first | rfl | simp, rfl⟩); simp only [Act.put, pA, pB, pC]
       apply txF (wants0 rfl); (· intro w' hK; go_simp; (try go_bits); exact ⟨rfl, rfl⟩); simp only [Act.put, pA, pB, pC]
       refine txEnd (fun W20 hK => ?_)
       go_wp2
       try go_ret
       show Q0 (.returned (.bool b7)) _
       exact (by obtain rfl := hQ0.out; exact ⟨(ret_bool (by have e_b1 := hb1.out; have e_b2 := hb2.out; have e_b3 := hb3.out; have e_b4 := hb4.out; have e_b5 := hb5.out; have e_b6 := hb6.out; have e_b7 := hb7.out; have q := nested_law (p := (a, n)) (q := (c, m)) ⟨ha, e_b1⟩ ⟨hc, e_b2⟩; have r := nested_no (p := (a, n)) (q := (c, m)) ⟨ha, e_b1⟩ ⟨hc, e_b2⟩ x; simp_all)), hK.old⟩)
      · --
       iterate 4 (apply txN (j := 5) (d := 46) (b := false) rfl rfl rfl rfl; simp only [Act.put, pA, pB, pC])
       iterate 3 (apply txF (wants0 rfl); (· intro w' hK; go_simp; (try go_bits); exact ⟨rfl, rfl⟩); simp only [Act.put, pA, pB, pC])
       refine txEnd (fun W21 hK => ?_)
       go_wp2
       try go_ret
       show Q0 (.returned (.bool true)) _
       exact (by obtain rfl := hQ0.out; exact ⟨rfl, hK.old⟩)
     · --
      apply txF (wantsg (j := 3) (d := 32) (b := true) rfl rfl rfl rfl); (· intro w' hK; have k_R2 := (hK.get m0); have ⟨c_R2_0, c_R2_1⟩ := k_R2.c2; go_simp; (try go_bits); exact ⟨rfl, rfl⟩); simp only [Act.put, pA, pB, pC]
      apply txF (wantsg (j := 3) (d := 32) (b := true) rfl rfl rfl rfl); (· intro w' hK; go_simp; (try go_bits); exact ⟨rfl, rfl⟩); simp only [Act.put, pA, pB, pC]
      obtain ⟨b5, hb5⟩ : ∃ b : Bool, RowKit.Hid ((cts c m x) = b) := ⟨_, hid rfl⟩
      apply txH (v := .bool b5) (wantsg (j := 3) (d := 32) (b := true) rfl rfl rfl rfl)
      · intro v1 hv1 w' hK; go_simp; (try go_bits); refine (contains_any c m x w' (by first | assumption | omega | exact W32.zero) (by first | assumption | omega | exact W32.zero)).mono ?_; rintro e w5 ⟨rfl, hb⟩; obtain rfl := hv1.out; exact ⟨_, rfl, (by rw [hb5.out]), hb⟩
      simp only [Act.put, pA, pB, pC]
      iterate 2 (apply txF (wants0 rfl); (· intro w' hK; go_simp; (try go_bits); exact ⟨rfl, rfl⟩); simp only [Act.put, pA, pB, pC])
      cases b5
      · --
       iterate 2 (apply txN (j := 8) (d := 37) (b := true) rfl rfl rfl rfl; simp only [Act.put, pA, pB, pC])
       apply txF (wants0 rfl); (· intro w' hK; go_simp; (try go_bits); exact ⟨rfl, rfl⟩); simp only [Act.put, pA, pB, pC]
       refine txEnd (fun W22 hK => ?_)
       go_upto_region 6 with (fail)
       refine wp_region_tx w hK ?_
       clear hK
       apply txF (wants0 rfl); (· intro w' hK; go_simp; (try go_bits); exact ⟨rfl, rfl⟩); simp only [Act.put, pA, pB, pC]
       apply txF (wants0 rfl); (· intro w' hK; have k_R1 := (hK.get m1); have ⟨c_R1_0, c_R1_1⟩ := k_R1.c2; go_simp; (try go_bits); exact ⟨rfl, rfl⟩); simp only [Act.put, pA, pB, pC]
       apply txF (wants0 rfl); (· intro w' hK; go_simp; (try go_bits); exact ⟨rfl, rfl⟩); simp only [Act.put, pA, pB, pC]
       apply txF (wants0 rfl); (· intro w' hK; have k_R2 := (hK.get m0); have c_R2_0 := k_R2.at 0 rfl; go_simp; (try go_bits); exact ⟨rfl, rfl⟩); simp only [Act.put, pA, pB, pC]
       obtain ⟨b6, hb6⟩ : ∃ b : Bool, RowKit.Hid ((cts a n c) = b) := ⟨_, hid rfl⟩
       apply txH (v := .bool b6) (wants0 rfl)
       · intro v1 hv1 w' hK; go_simp; (try go_bits); refine (contains_any a n c w' (by first | assumption | omega | exact W32.zero) (by first | assumption | omega | exact W32.zero)).mono ?_; rintro e w5 ⟨rfl, hb⟩; obtain rfl := hv1.out; exact ⟨_, rfl, (by rw [hb6.out]), hb⟩
       simp only [Act.put, pA, pB, pC]
       apply txF (wants0 rfl); (· intro w' hK; go_simp; (try go_bits); exact ⟨rfl, rfl⟩); simp only [Act.put, pA, pB, pC]
       cases b6
       · --
        apply txF (wantsg (j := 5) (d := 46) (b := false) rfl rfl rfl rfl); (· intro w' hK; have k_R2 := (hK.get m0); have ⟨c_R2_0, c_R2_1⟩ := k_R2.c2; go_simp; (try go_bits); exact ⟨rfl, rfl⟩); simp only [Act.put, pA, pB, pC]
        apply txF (wantsg (j := 5) (d := 46) (b := false) rfl rfl rfl rfl); (· intro w' hK; go_simp; (try go_bits); exact ⟨rfl, rfl⟩); simp only [Act.put, pA, pB, pC]
        apply txF (wantsg (j := 5) (d := 46) (b := false) rfl rfl rfl rfl); (· intro w' hK; have k_R1 := (hK.get m1); have c_R1_0 := k_R1.at 0 rfl; go_simp; (try go_bits); exact ⟨rfl, rfl⟩); simp only [Act.put, pA, pB, pC]
        obtain ⟨b7, hb7⟩ : ∃ b : Bool, RowKit.Hid ((cts c m a) = b) := ⟨_, hid rfl⟩
        apply txH (v := .bool b7) (wantsg (j := 5) (d := 46) (b := false) rfl rfl rfl rfl)
        · intro v1 hv1 w' hK; go_simp; (try go_bits); refine (contains_any c m a w' (by first | assumption | omega | exact W32.zero) (by first | assumption | omega | exact W32.zero)).mono ?_; rintro e w5 ⟨rfl, hb⟩; obtain rfl := hv1.out; exact ⟨_, rfl, (by rw [hb7.out]), hb⟩
        simp only [Act.put, pA, pB, pC]
        apply txF (wants0 rfl); (· intro w' hK; go_simp; (try go_bits); exact ⟨rfl, rfl⟩); simp only [Act.put, pA, pB, pC]
        obtain ⟨b8, hb8⟩ : ∃ b : Bool, RowKit.Hid ((true == b7) = b) := ⟨_, hid rfl⟩
        apply txB b8 (wants0 rfl); (· intro w' hK; go_simp; (try go_bits); exact ⟨by have q := hb8.out; subst q; first | rfl | simp, rfl⟩); simp only [Act.put, pA, pB, pC]
        apply txF (wants0 rfl); (· intro w' hK; go_simp; (try go_bits); exact ⟨rfl, rfl⟩); simp only [Act.put, pA, pB, pC]
        refine txEnd (fun W23 hK => ?_)
        go_wp2
        try go_ret
        show Q0 (.returned (.bool b8)) _
        exact (by obtain rfl := hQ0.out; exact ⟨(ret_bool (by have e_b1 := hb1.out; have e_b2 := hb2.out; have e_b3 := hb3.out; have e_b4 := hb4.out; have e_b5 := hb5.out; have e_b6 := hb6.out; have e_b7 := hb7.out; have e_b8 := hb8.out; have q := nested_law (p := (a, n)) (q := (c, m)) ⟨ha, e_b1⟩ ⟨hc, e_b2⟩; have r := nested_no (p := (a, n)) (q := (c, m)) ⟨ha, e_b1⟩ ⟨hc, e_b2⟩ x; simp_all)), hK.old⟩)
       · --
        iterate 4 (apply txN (j := 5) (d := 46) (b := false) rfl rfl rfl rfl; simp only [Act.put, pA, pB, pC])
        iterate 3 (apply txF (wants0 rfl); (· intro w' hK; go_simp; (try go_bits); exact ⟨rfl, rfl⟩); simp only [Act.put, pA, pB, pC])
        refine txEnd (fun W24 hK => ?_)
        go_wp2
        try go_ret
        show Q0 (.returned (.bool true)) _
        exact (by obtain rfl := hQ0.out; exact ⟨rfl, hK.old⟩)
      · --
       iterate 2 (apply txF (wantsg (j := 8) (d := 37) (b := true) rfl rfl rfl rfl); (· intro w' hK; go_simp; (try go_bits); exact ⟨rfl, rfl⟩); simp only [Act.put, pA, pB, pC])
       apply txF (wants0 rfl); (· intro w' hK; go_simp; (try go_bits); exact ⟨rfl, rfl⟩); simp only [Act.put, pA, pB, pC]
       refine txEnd (fun W25 hK => ?_)
       go_upto_region 6 with (fail)
       refine wp_region_tx w hK ?_
       clear hK
       apply txF (wants0 rfl); (· intro w' hK; go_simp; (try go_bits); exact ⟨rfl, rfl⟩); simp only [Act.put, pA, pB, pC]
       apply txF (wants0 rfl); (· intro w' hK; have k_R1 := (hK.get m1); have ⟨c_R1_0, c_R1_1⟩ := k_R1.c2; go_simp; (try go_bits); exact ⟨rfl, rfl⟩); simp only [Act.put, pA, pB, pC]
       apply txF (wants0 rfl); (· intro w' hK; go_simp; (try go_bits); exact ⟨rfl, rfl⟩); simp only [Act.put, pA, pB, pC]
       apply txF (wants0 rfl); (· intro w' hK; have k_R2 := (hK.get m0); have c_R2_0 := k_R2.at 0 rfl; go_simp; (try go_bits); exact ⟨rfl, rfl⟩); simp only [Act.put, pA, pB, pC]
       obtain ⟨b6, hb6⟩ : ∃ b : Bool, RowKit.Hid ((cts a n c) = b) := ⟨_, hid rfl⟩
       apply txH (v := .bool b6) (wants0 rfl)
       · intro v1 hv1 w' hK; go_simp; (try go_bits); refine (contains_any a n c w' (by first | assumption | omega | exact W32.zero) (by first | assumption | omega | exact W32.zero)).mono ?_; rintro e w5 ⟨rfl, hb⟩; obtain rfl := hv1.out; exact ⟨_, rfl, (by rw [hb6.out]), hb⟩
       simp only [Act.put, pA, pB, pC]
       apply txF (wants0 rfl); (· intro w' hK; go_simp; (try go_bits); exact ⟨rfl, rfl⟩); simp only [Act.put, pA, pB, pC]
       cases b6
       · --
        apply txF (wantsg (j := 5) (d := 46) (b := false) rfl rfl rfl rfl); (· intro w' hK; have k_R2 := (hK.get m0); have ⟨c_R2_0, c_R2_1⟩ := k_R2.c2; go_simp; (try go_bits); exact ⟨rfl, rfl⟩); simp only [Act.put, pA, pB, pC]
        apply txF (wantsg (j := 5) (d := 46) (b := false) rfl rfl rfl rfl); (· intro w' hK; go_simp; (try go_bits); exact ⟨rfl, rfl⟩); simp only [Act.put, pA, pB, pC]
        apply txF (wantsg (j := 5) (d := 46) (b := false) rfl rfl rfl rfl); (· intro w' hK; have k_R1 := (hK.get m1); have c_R1_0 := k_R1.at 0 rfl; go_simp; (try go_bits); exact ⟨rfl, rfl⟩); simp only [Act.put, pA, pB, pC]
        obtain ⟨b7, hb7⟩ : ∃ b : Bool, RowKit.Hid ((cts c m a) = b) := ⟨_, hid rfl⟩
        apply txH (v := .bool b7) (wantsg (j := 5) (d := 46) (b := false) rfl rfl rfl rfl)
        · intro v1 hv1 w' hK; go_simp; (try go_bits); refine (contains_any c m a w' (by first | assumption | omega | exact W32.zero) (by first | assumption | omega | exact W32.zero)).mono ?_; rintro e w5 ⟨rfl, hb⟩; obtain rfl := hv1.out; exact ⟨_, rfl, (by rw [hb7.out]), hb⟩
        simp only [Act.put, pA, pB, pC]
        apply txF (wants0 rfl); (· intro w' hK; go_simp; (try go_bits); exact ⟨rfl, rfl⟩); simp only [Act.put, pA, pB, pC]
        obtain ⟨b8, hb8⟩ : ∃ b : Bool, RowKit.Hid ((true == b7) = b) := ⟨_, hid rfl⟩
        apply txB b8 (wants0 rfl); (· intro w' hK; go_simp; (try go_bits); exact ⟨by have q := hb8.out; subst q; first | rfl | simp, rfl⟩); simp only [Act.put, pA, pB, pC]
        apply txF (wants0 rfl); (· intro w' hK; go_simp; (try go_bits); exact ⟨rfl, rfl⟩); simp only [Act.put, pA, pB, pC]
        refine txEnd (fun W26 hK => ?_)
        go_wp2
        try go_ret
        show Q0 (.returned (.bool b8)) _
        exact (by obtain rfl := hQ0.out; exact ⟨(ret_bool (by have e_b1 := hb1.out; have e_b2 := hb2.out; have e_b3 := hb3.out; have e_b4 := hb4.out; have e_b5 := hb5.out; have e_b6 := hb6.out; have e_b7 := hb7.out; have e_b8 := hb8.out; have q := nested_law (p := (a, n)) (q := (c, m)) ⟨ha, e_b1⟩ ⟨hc, e_b2⟩; have r := nested_no (p := (a, n)) (q := (c, m)) ⟨ha, e_b1⟩ ⟨hc, e_b2⟩ x; simp_all)), hK.old⟩)
       · --
        iterate 4 (apply txN (j := 5) (d := 46) (b := false) rfl rfl rfl rfl; simp only [Act.put, pA, pB, pC])
        iterate 3 (apply txF (wants0 rfl); (· intro w' hK; go_simp; (try go_bits); exact ⟨rfl, rfl⟩); simp only [Act.put, pA, pB, pC])
        refine txEnd (fun W27 hK => ?_)
        go_wp2
        try go_ret
        show Q0 (.returned (.bool true)) _
        exact (by obtain rfl := hQ0.out; exact ⟨rfl, hK.old⟩)
end Go.Proofs.YtbbjjjaclbkolaaDoor
