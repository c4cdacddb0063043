/- Split, Parent, Compare of the program and of the reference. -/
import Derived.Test.YtbbjjjaclbkolaaGreatDoorPA
import Derived.Test.YtbbjjjaclbkolaaGreatDoorRowI
namespace Go.Proofs.YtbbjjjaclbkolaaGreatDoor
open Go.RowKit
def bitP (n : Int) : Nat := 2 ^ (31 - n.toNat)
theorem bitP_lt (n : Int) : bitP n < 4294967296 := Nat.lt_of_le_of_lt (Nat.pow_le_pow_right (by decide) (Nat.sub_le 31 n.toNat)) (by decide)
theorem bitP_shl {n : Int} (h0 : 0 ≤ n) (h1 : n ≤ 32) (_h2 : n ≠ 32) : (2 : Int) ^ (31 - n).toNat % 4294967296 = ((bitP n : Nat) : Int) := by
  have e : (31 - n).toNat = 31 - n.toNat := by omega
  have hb := bitP_lt n
  unfold bitP at hb ⊢
  rw [e]
  have h3 : (2 : Int) ^ (31 - n.toNat) = ((2 ^ (31 - n.toNat) : Nat) : Int) := by rw [Int.natCast_pow]; rfl
  rw [h3]
  generalize 2 ^ (31 - n.toNat) = b at hb
  omega
theorem bitP_or {a : Nat} (n : Int) (ha : W32 a) : bits BinOp.or IntKind.u32 (a : Int) ((bitP n : Nat) : Int) = ((a ||| bitP n : Nat) : Int) := Go.u32_or_nat a _ ha (bitP_lt n)
def slE (a : Nat) (n : Int) : Int := if vld a n = true then (if n = 32 then 2 else 0) else 1
def slL (a : Nat) (n : Int) : Nat := if slE a n = 0 then a else 0
def slM (a : Nat) (n : Int) : Int := if slE a n = 0 then n + 1 else 0
def slH (a : Nat) (n : Int) : Nat := if slE a n = 0 then a ||| bitP n else 0
theorem sl_bad {a : Nat} {n : Int} (h : vld a n = false) : slL a n = 0 ∧ slM a n = 0 ∧ slH a n = 0 ∧ slE a n = 1 := by
  have e : slE a n = 1 := by unfold slE; rw [if_neg (by rw [h]; decide)]
  unfold slL slM slH
  rw [e]
  exact ⟨rfl, rfl, rfl, rfl⟩
theorem sl_full {a : Nat} {n : Int} (h : vld a n = true) (hn : (n == 32) = true) : slL a n = 0 ∧ slM a n = 0 ∧ slH a n = 0 ∧ slE a n = 2 := by
  have e : slE a n = 2 := by unfold slE; rw [if_pos h, if_pos (by simpa using hn)]
  unfold slL slM slH
  rw [e]
  exact ⟨rfl, rfl, rfl, rfl⟩
theorem sl_ok {a : Nat} {n : Int} (h : vld a n = true) (hn : (n == 32) = false) : slL a n = a ∧ slM a n = n + 1 ∧ slH a n = a ||| bitP n ∧ slE a n = 0 := by
  have e : slE a n = 0 := by unfold slE; rw [if_pos h, if_neg (by simpa using hn)]
  unfold slL slM slH
  rw [e]
  exact ⟨rfl, rfl, rfl, rfl⟩
def paE (a : Nat) (n : Int) : Int := if vld a n = true then (if n = 0 then 2 else 0) else 1
def paA (a : Nat) (n : Int) : Nat := if paE a n = 0 then base (n.toNat - 1) a else 0
def paN (a : Nat) (n : Int) : Int := if paE a n = 0 then n - 1 else 0
theorem pa_bad {a : Nat} {n : Int} (h : vld a n = false) : paA a n = 0 ∧ paN a n = 0 ∧ paE a n = 1 := by
  have e : paE a n = 1 := by unfold paE; rw [if_neg (by rw [h]; decide)]
  unfold paA paN
  rw [e]
  exact ⟨rfl, rfl, rfl⟩
theorem pa_full {a : Nat} {n : Int} (h : vld a n = true) (hn : (n == 0) = true) : paA a n = 0 ∧ paN a n = 0 ∧ paE a n = 2 := by
  have e : paE a n = 2 := by unfold paE; rw [if_pos h, if_pos (by simpa using hn)]
  unfold paA paN
  rw [e]
  exact ⟨rfl, rfl, rfl⟩
theorem pa_ok {a : Nat} {n : Int} (h : vld a n = true) (hn : (n == 0) = false) : paA a n = base (n.toNat - 1) a ∧ paN a n = n - 1 ∧ paE a n = 0 := by
  have e : paE a n = 0 := by unfold paE; rw [if_pos h, if_neg (by simpa using hn)]
  unfold paA paN
  rw [e]
  exact ⟨rfl, rfl, rfl⟩
theorem W32.zero : W32 0 := by unfold W32; decide
theorem vld_lo {a : Nat} {n : Int} (h : vld a n = true) : 0 ≤ n := (vld_iff.1 h).1
theorem vld_hi {a : Nat} {n : Int} (h : vld a n = true) : n ≤ 32 := (vld_iff.1 h).2.1
theorem ne_of_beq {n m : Int} (h : (n == m) = false) : n ≠ m := by simpa using h
set_option maxRecDepth 100000 in
theorem split_any  (a : Nat) (n : Int) (w : World)  (ha : W32 a) :
    Calls Tryz.prog 10 #[.agg #[.int .u32 (a : Int), .int .i64 n]] w fun e w' => e = .returned (.tuple #[.agg #[.int .u32 (slL a n : Int), .int .i64 (slM a n)], .agg #[.int .u32 (slH a n : Int), .int .i64 (slM a n)], .int .i64 (slE a n)]) ∧ Below w.heap.size w w' := by
  have hK : KS w [] w := (KS.start w)
  refine Calls.hide (fun Q0 hQ0 => ?_)
  go_enter Tryz.func10, Tryz.ntmps10
  go_upto_region 0 with (fail)
  refine wp_region_tx w hK ?_
  clear hK
  apply txA (.cells #[.int .u32 (a : Int), .int .i64 n] 31) (wants0 rfl)
  · intro w' hK; go_simp; rfl
  intro R1 q_R1
  clear q_R1
  simp only [mkOf, Act.put, pA, pB, pC]
  apply txA (.cells #[.int .u32 0, .int .i64 0] 31) (wants0 rfl)
  · intro w' hK; go_simp; rfl
  intro R2 q_R2
  have o_R1_R2 : R1 < R2 := q_R2 _ _ _ m0
  clear q_R2
  simp only [mkOf, Act.put, pA, pB, pC]
  apply txA (.cells #[.int .u32 0, .int .i64 0] 31) (wants0 rfl)
  · intro w' hK; go_simp; rfl
  intro R3 q_R3
  have o_R1_R3 : R1 < R3 := q_R3 _ _ _ m1
  have o_R2_R3 : R2 < R3 := q_R3 _ _ _ m0
  clear q_R3
  simp only [mkOf, Act.put, pA, pB, pC]
  apply txF (wants0 rfl); (· intro w' hK; go_simp; (try go_bits); exact ⟨rfl, rfl⟩); simp only [Act.put, pA, pB, pC]
  refine txEnd (fun W4 hK => ?_)
  go_upto_region 1 with (fail)
  refine wp_region_tx w hK ?_
  clear hK
  apply txF (wants0 rfl); (· intro w' hK; have k_R1 := (hK.get m2); have ⟨c_R1_0, c_R1_1⟩ := k_R1.c2; go_simp; (try go_bits); exact ⟨rfl, rfl⟩); simp only [Act.put, pA, pB, pC]
  obtain ⟨b1, hb1⟩ : ∃ b : Bool, RowKit.Hid ((vld a n) = b) := ⟨_, hid rfl⟩
  apply txH (v := .bool b1) (wants0 rfl)
  · intro v1 hv1 w' hK; go_simp; (try go_bits); refine (valid_any a n w' (by first | assumption | omega | exact W32.zero)).mono ?_; rintro e w5 ⟨rfl, hb⟩; obtain rfl := hv1.out; exact ⟨_, rfl, (by rw [hb1.out]), hb⟩
  simp only [Act.put, pA, pB, pC]
  apply txF (wants0 rfl); (· intro w' hK; go_simp; (try go_bits); exact ⟨rfl, rfl⟩); simp only [Act.put, pA, pB, pC]
  refine txEnd (fun W5 hK => ?_)
  cases b1
  · --
   go_upto_region 2 with (fail)
   refine wp_region_tx w hK ?_
   clear hK
   iterate 2 (apply txF (wants0 rfl); (· intro w' hK; go_simp; (try go_bits); exact ⟨rfl, rfl⟩); simp only [Act.put, pA, pB, pC])
   apply txU 1 (Has w.heap.size R2 (.cells #[.int .u32 0, .int .i64 0] 31)) (wants0 rfl)
   · intro l1 hl1 w' hK; have k_R2 := (hK.get m1); have ⟨c_R2_0, c_R2_1⟩ := k_R2.c2; have f_R2 := k_R2.fz; go_simp; obtain rfl := hl1.out; exact ⟨rfl, ks_put (R := R2) hK k_R2.1 0 [.int .u32 0, .int .i64 0] (al1 (spG o_R2_R3 (hK.get m0)) (al1 (fun _ => has_put k_R2 _ _) (al1 (spL o_R1_R2 (hK.get m2)) aN)))⟩
   simp only [Act.put, pB, pC]
   apply txU 0 (Has w.heap.size R3 (.cells #[.int .u32 0, .int .i64 0] 31)) (wants0 rfl)
   · intro l1 hl1 w' hK; have k_R3 := (hK.get m0); have ⟨c_R3_0, c_R3_1⟩ := k_R3.c2; have f_R3 := k_R3.fz; go_simp; obtain rfl := hl1.out; exact ⟨rfl, ks_put (R := R3) hK k_R3.1 0 [.int .u32 0, .int .i64 0] (al1 (fun _ => has_put k_R3 _ _) (al1 (spL o_R2_R3 (hK.get m1)) (al1 (spL o_R1_R3 (hK.get m2)) aN)))⟩
   simp only [Act.put, pB]
   apply txF (wants0 rfl); (· intro w' hK; go_simp; (try go_bits); exact ⟨rfl, rfl⟩); simp only [Act.put, pA, pB, pC]
   refine txEnd (fun W6 hK => ?_)
   have k_R2 := (hK.get m1); have ⟨c_R2_0, c_R2_1⟩ := k_R2.c2
   have k_R3 := (hK.get m0); have ⟨c_R3_0, c_R3_1⟩ := k_R3.c2
   go_wp2
   exact bodyPost_ret (v := .tuple #[.agg #[.int .u32 0, .int .i64 0], .agg #[.int .u32 0, .int .i64 0], .int .i64 1]) (by simp [results, Tryz.results10, go_sem, c_R2_0, c_R2_1, c_R3_0, c_R3_1]) rfl ((by obtain rfl := hQ0.out; exact ⟨(by have q := sl_bad hb1.out; rw [q.1, q.2.1, q.2.2.1, q.2.2.2]; rfl), hK.old⟩))
  · --
   go_upto_region 3 with (fail)
   refine wp_region_tx w hK ?_
   clear hK
   apply txF (wants0 rfl); (· intro w' hK; go_simp; (try go_bits); exact ⟨rfl, rfl⟩); simp only [Act.put, pA, pB, pC]
   apply txF (wants0 rfl); (· intro w' hK; have k_R1 := (hK.get m2); have c_R1_1 := k_R1.at 1 rfl; go_simp; (try go_bits); exact ⟨rfl, rfl⟩); simp only [Act.put, pA, pB, pC]
   obtain ⟨b2, hb2⟩ : ∃ b : Bool, RowKit.Hid ((n == 32) = b) := ⟨_, hid rfl⟩
   apply txB b2 (wants0 rfl); (· intro w' hK; go_simp; (try go_bits); exact ⟨by have q := hb2.out; subst q; first | rfl | simp, rfl⟩); simp only [Act.put, pA, pB, pC]
   refine txEnd (fun W7 hK => ?_)
   cases b2
   · --
    have v0 := vld_lo hb1.out
    have v1 := vld_hi hb1.out
    have v2 := ne_of_beq hb2.out
    go_upto_region 5 with (fail)
    refine wp_region_tx w hK ?_
    clear hK
    apply txF (wants0 rfl); (· intro w' hK; go_simp; (try go_bits); exact ⟨rfl, rfl⟩); simp only [Act.put, pA, pB, pC]
    apply txF (wants0 rfl); (· intro w' hK; have k_R1 := (hK.get m2); have c_R1_0 := k_R1.at 0 rfl; go_simp; (try go_bits); exact ⟨rfl, rfl⟩); simp only [Act.put, pA, pB, pC]
    apply txF (wants0 rfl); (· intro w' hK; go_simp; (try go_bits); exact ⟨rfl, rfl⟩); simp only [Act.put, pA, pB, pC]
    apply txF (wants0 rfl); (· intro w' hK; have k_R1 := (hK.get m2); have c_R1_1 := k_R1.at 1 rfl; go_simp; (try go_bits); exact ⟨rfl, rfl⟩); simp only [Act.put, pA, pB, pC]
    apply txF (v := .int .i64 (n + 1)) (wants0 rfl); (· intro w' hK; go_simp; (try go_bits); exact ⟨rfl, rfl⟩); simp only [Act.put, pA, pB, pC]
    apply txF (wants0 rfl); (· intro w' hK; go_simp; (try go_bits); exact ⟨rfl, rfl⟩); simp only [Act.put, pA, pB, pC]
    apply txU 1 (Has w.heap.size R2 (.cells #[.int .u32 (a : Int), .int .i64 (n + 1)] 31)) (wants0 rfl)
    · intro l1 hl1 w' hK; have k_R2 := (hK.get m1); have ⟨c_R2_0, c_R2_1⟩ := k_R2.c2; have f_R2 := k_R2.fz; go_simp; obtain rfl := hl1.out; exact ⟨rfl, ks_put (R := R2) hK k_R2.1 0 [.int .u32 (a : Int), .int .i64 (n + 1)] (al1 (spG o_R2_R3 (hK.get m0)) (al1 (fun _ => has_put k_R2 _ _) (al1 (spL o_R1_R2 (hK.get m2)) aN)))⟩
    simp only [Act.put, pB, pC]
    refine txEnd (fun W8 hK => ?_)
    go_upto_region 6 with (fail)
    have hK0 := hK.subl (sC (sK (sK sZ)))
    refine wp_region_float0 (w) _ _ [0, 0, 0, 0, 0, 0, 0, 0, 0, 0, 0, 4] (by kernel_rfl) (by kernel_rfl) (by kernel_rfl) (by kernel_rfl) (KS.drew hK0) (KS.drew hK) ?_
    clear hK hK0
    apply lxF0 (wants0 rfl); (· intro w' h0; go_simp; (try go_bits); exact ⟨rfl, rfl⟩); simp only [Act.put, pA, pB, pC]
    apply lxF0 (wants0 rfl); (· intro w' h0; have k_R1 := (h0.get m1); have c_R1_0 := k_R1.at 0 rfl; go_simp; (try go_bits); exact ⟨rfl, rfl⟩); simp only [Act.put, pA, pB, pC]
    apply lxF0 (wants0 rfl); (· intro w' h0; go_simp; (try go_bits); exact ⟨rfl, rfl⟩); simp only [Act.put, pA, pB, pC]
    apply lxF0 (wants0 rfl); (· intro w' h0; have k_R1 := (h0.get m1); have c_R1_1 := k_R1.at 1 rfl; go_simp; (try go_bits); exact ⟨rfl, rfl⟩); simp only [Act.put, pA, pB, pC]
    apply lxF0 (wants0 rfl); (· intro w' h0; go_simp; (try go_bits); exact ⟨rfl, rfl⟩); simp only [Act.put, pA, pB, pC]
    apply lxF0 (v := .int .u32 (bitP n : Int)) (wants0 rfl); (· intro w' h0; go_simp; (try go_bits); exact ⟨congrArg _ (bitP_shl v0 v1 v2), rfl⟩); simp only [Act.put, pA, pB, pC]
    apply lxF0 (v := .int .u32 ((a ||| bitP n : Nat) : Int)) (wants0 rfl); (· intro w' h0; go_simp; (try go_bits); exact ⟨congrArg _ (bitP_or n ha), rfl⟩); simp only [Act.put, pA, pB, pC]
    apply lxF0 (wants0 rfl); (· intro w' h0; go_simp; (try go_bits); exact ⟨rfl, rfl⟩); simp only [Act.put, pA, pB, pC]
    apply lxF0 (wants0 rfl); (· intro w' h0; have k_R1 := (h0.get m1); have c_R1_1 := k_R1.at 1 rfl; go_simp; (try go_bits); exact ⟨rfl, rfl⟩); simp only [Act.put, pA, pB, pC]
    apply lxF0 (v := .int .i64 (n + 1)) (wants0 rfl); (· intro w' h0; go_simp; (try go_bits); exact ⟨rfl, rfl⟩); simp only [Act.put, pA, pB, pC]
    apply lxF0 (wants0 rfl); (· intro w' h0; go_simp; (try go_bits); exact ⟨rfl, rfl⟩); simp only [Act.put, pA, pB, pC]
    apply lxU1 0 (Has w.heap.size R3 (.cells #[.int .u32 ((a ||| bitP n : Nat) : Int), .int .i64 (n + 1)] 31)) (wants0 rfl)
    · intro g0 l1 hl1 w' h0 hK; have k_R3 := (hK.get m0); have ⟨c_R3_0, c_R3_1⟩ := k_R3.c2; have f_R3 := k_R3.fz; go_simp; obtain ⟨rfl, rfl⟩ := hl1.out; exact ⟨rfl, ks_put (R := R3) h0 k_R3.1 0 [.int .u32 ((a ||| bitP n : Nat) : Int), .int .i64 (n + 1)] (al1 (spL o_R2_R3 (h0.get m0)) (al1 (spL o_R1_R3 (h0.get m1)) aN)), ks_put (R := R3) hK k_R3.1 0 [.int .u32 ((a ||| bitP n : Nat) : Int), .int .i64 (n + 1)] (al1 (fun _ => has_put k_R3 _ _) (al1 (spL o_R2_R3 (hK.get m1)) (al1 (spL o_R1_R3 (hK.get m2)) aN)))⟩
    simp only [Act.put, pB]
    refine lxEnd (fun W9 hK => ?_)
    go_upto_region 7 with (fail)
    have hK0 := hK
    refine wp_region_float0 (w) _ _ [0, 0, 4, 4, 0] (by kernel_rfl) (by kernel_rfl) (by kernel_rfl) (by kernel_rfl) (KS.drew hK0) (KS.drew hK) ?_
    clear hK hK0
    apply lxF0 (wants0 rfl); (· intro w' h0; have k_R2 := (h0.get m1); have ⟨c_R2_0, c_R2_1⟩ := k_R2.c2; go_simp; (try go_bits); exact ⟨rfl, rfl⟩); simp only [Act.put, pA, pB, pC]
    apply lxF0 (wants0 rfl); (· intro w' h0; have k_R3 := (h0.get m0); have ⟨c_R3_0, c_R3_1⟩ := k_R3.c2; go_simp; (try go_bits); exact ⟨rfl, rfl⟩); simp only [Act.put, pA, pB, pC]
    apply lxU1 1 (Has w.heap.size R2 (.cells #[.int .u32 (a : Int), .int .i64 (n + 1)] 31)) (wants0 rfl)
    · intro g0 l1 hl1 w' h0 hK; have k_R2 := (hK.get m1); have ⟨c_R2_0, c_R2_1⟩ := k_R2.c2; have f_R2 := k_R2.fz; go_simp; obtain ⟨rfl, rfl⟩ := hl1.out; exact ⟨rfl, ks_put (R := R2) h0 k_R2.1 0 [.int .u32 (a : Int), .int .i64 (n + 1)] (al1 (spG o_R2_R3 (h0.get m0)) (al1 (fun _ => has_put k_R2 _ _) (al1 (spL o_R1_R2 (h0.get m2)) aN))), ks_put (R := R2) hK k_R2.1 0 [.int .u32 (a : Int), .int .i64 (n + 1)] (al1 (spG o_R2_R3 (hK.get m0)) (al1 (fun _ => has_put k_R2 _ _) (al1 (spL o_R1_R2 (hK.get m2)) aN)))⟩
    simp only [Act.put, pB, pC]
    apply lxU1 0 (Has w.heap.size R3 (.cells #[.int .u32 ((a ||| bitP n : Nat) : Int), .int .i64 (n + 1)] 31)) (wants0 rfl)
    · intro g0 l1 hl1 w' h0 hK; have k_R3 := (hK.get m0); have ⟨c_R3_0, c_R3_1⟩ := k_R3.c2; have f_R3 := k_R3.fz; go_simp; obtain ⟨rfl, rfl⟩ := hl1.out; exact ⟨rfl, ks_put (R := R3) h0 k_R3.1 0 [.int .u32 ((a ||| bitP n : Nat) : Int), .int .i64 (n + 1)] (al1 (fun _ => has_put k_R3 _ _) (al1 (spL o_R2_R3 (h0.get m1)) (al1 (spL o_R1_R3 (h0.get m2)) aN))), ks_put (R := R3) hK k_R3.1 0 [.int .u32 ((a ||| bitP n : Nat) : Int), .int .i64 (n + 1)] (al1 (fun _ => has_put k_R3 _ _) (al1 (spL o_R2_R3 (hK.get m1)) (al1 (spL o_R1_R3 (hK.get m2)) aN)))⟩
    simp only [Act.put, pB]
    apply lxF0 (wants0 rfl); (· intro w' h0; go_simp; (try go_bits); exact ⟨rfl, rfl⟩); simp only [Act.put, pA, pB, pC]
    refine lxEnd (fun W10 hK => ?_)
    have k_R2 := (hK.get m1); have ⟨c_R2_0, c_R2_1⟩ := k_R2.c2
    have k_R3 := (hK.get m0); have ⟨c_R3_0, c_R3_1⟩ := k_R3.c2
    go_wp2
    exact bodyPost_ret (v := .tuple #[.agg #[.int .u32 (a : Int), .int .i64 (n + 1)], .agg #[.int .u32 ((a ||| bitP n : Nat) : Int), .int .i64 (n + 1)], .int .i64 0]) (by simp [results, Tryz.results10, go_sem, c_R2_0, c_R2_1, c_R3_0, c_R3_1]) rfl ((by obtain rfl := hQ0.out; exact ⟨(by have q := sl_ok hb1.out hb2.out; rw [q.1, q.2.1, q.2.2.1, q.2.2.2]), hK.old⟩))
   · --
    go_upto_region 4 with (fail)
    refine wp_region_tx w hK ?_
    clear hK
    iterate 2 (apply txF (wants0 rfl); (· intro w' hK; go_simp; (try go_bits); exact ⟨rfl, rfl⟩); simp only [Act.put, pA, pB, pC])
    apply txU 1 (Has w.heap.size R2 (.cells #[.int .u32 0, .int .i64 0] 31)) (wants0 rfl)
    · intro l1 hl1 w' hK; have k_R2 := (hK.get m1); have ⟨c_R2_0, c_R2_1⟩ := k_R2.c2; have f_R2 := k_R2.fz; go_simp; obtain rfl := hl1.out; exact ⟨rfl, ks_put (R := R2) hK k_R2.1 0 [.int .u32 0, .int .i64 0] (al1 (spG o_R2_R3 (hK.get m0)) (al1 (fun _ => has_put k_R2 _ _) (al1 (spL o_R1_R2 (hK.get m2)) aN)))⟩
    simp only [Act.put, pB, pC]
    apply txU 0 (Has w.heap.size R3 (.cells #[.int .u32 0, .int .i64 0] 31)) (wants0 rfl)
    · intro l1 hl1 w' hK; have k_R3 := (hK.get m0); have ⟨c_R3_0, c_R3_1⟩ := k_R3.c2; have f_R3 := k_R3.fz; go_simp; obtain rfl := hl1.out; exact ⟨rfl, ks_put (R := R3) hK k_R3.1 0 [.int .u32 0, .int .i64 0] (al1 (fun _ => has_put k_R3 _ _) (al1 (spL o_R2_R3 (hK.get m1)) (al1 (spL o_R1_R3 (hK.get m2)) aN)))⟩
    simp only [Act.put, pB]
    apply txF (wants0 rfl); (· intro w' hK; go_simp; (try go_bits); exact ⟨rfl, rfl⟩); simp only [Act.put, pA, pB, pC]
    refine txEnd (fun W11 hK => ?_)
    have k_R2 := (hK.get m1); have ⟨c_R2_0, c_R2_1⟩ := k_R2.c2
    have k_R3 := (hK.get m0); have ⟨c_R3_0, c_R3_1⟩ := k_R3.c2
    go_wp2
    exact bodyPost_ret (v := .tuple #[.agg #[.int .u32 0, .int .i64 0], .agg #[.int .u32 0, .int .i64 0], .int .i64 2]) (by simp [results, Tryz.results10, go_sem, c_R2_0, c_R2_1, c_R3_0, c_R3_1]) rfl ((by obtain rfl := hQ0.out; exact ⟨(by have q := sl_full hb1.out hb2.out; rw [q.1, q.2.1, q.2.2.1, q.2.2.2]; rfl), hK.old⟩))
set_option maxRecDepth 100000 in
theorem rsplit_any  (a : Nat) (n : Int) (w : World)  (ha : W32 a) :
    Calls Tryz.prog 37 #[.agg #[.int .u32 (a : Int), .int .i64 n]] w fun e w' => e = .returned (.tuple #[.agg #[.int .u32 (slL a n : Int), .int .i64 (slM a n)], .agg #[.int .u32 (slH a n : Int), .int .i64 (slM a n)], .int .i64 (slE a n)]) ∧ Below w.heap.size w w' := by
  have hK : KS w [] w := (KS.start w)
  refine Calls.hide (fun Q0 hQ0 => ?_)
  go_enter Tryz.func37, Tryz.ntmps37
  go_upto_region 0 with (fail)
  refine wp_region_tx w hK ?_
  clear hK
  apply txA (.cells #[.int .u32 (a : Int), .int .i64 n] 31) (wants0 rfl)
  · intro w' hK; go_simp; rfl
  intro R1 q_R1
  clear q_R1
  simp only [mkOf, Act.put, pA, pB, pC]
  apply txA (.cells #[.int .u32 0, .int .i64 0] 31) (wants0 rfl)
  · intro w' hK; go_simp; rfl
  intro R2 q_R2
  have o_R1_R2 : R1 < R2 := q_R2 _ _ _ m0
  clear q_R2
  simp only [mkOf, Act.put, pA, pB, pC]
  apply txA (.cells #[.int .u32 0, .int .i64 0] 31) (wants0 rfl)
  · intro w' hK; go_simp; rfl
  intro R3 q_R3
  have o_R1_R3 : R1 < R3 := q_R3 _ _ _ m1
  have o_R2_R3 : R2 < R3 := q_R3 _ _ _ m0
  clear q_R3
  simp only [mkOf, Act.put, pA, pB, pC]
  apply txF (wants0 rfl); (· intro w' hK; go_simp; (try go_bits); exact ⟨rfl, rfl⟩); simp only [Act.put, pA, pB, pC]
  refine txEnd (fun W4 hK => ?_)
  go_upto_region 1 with (fail)
  refine wp_region_tx w hK ?_
  clear hK
  apply txF (wants0 rfl); (· intro w' hK; have k_R1 := (hK.get m2); have ⟨c_R1_0, c_R1_1⟩ := k_R1.c2; go_simp; (try go_bits); exact ⟨rfl, rfl⟩); simp only [Act.put, pA, pB, pC]
  obtain ⟨b1, hb1⟩ : ∃ b : Bool, RowKit.Hid ((vld a n) = b) := ⟨_, hid rfl⟩
  apply txH (v := .bool b1) (wants0 rfl)
  · intro v1 hv1 w' hK; go_simp; (try go_bits); refine (rvalid_any a n w' (by first | assumption | omega | exact W32.zero)).mono ?_; rintro e w5 ⟨rfl, hb⟩; obtain rfl := hv1.out; exact ⟨_, rfl, (by rw [hb1.out]), hb⟩
  simp only [Act.put, pA, pB, pC]
  apply txF (wants0 rfl); (· intro w' hK; go_simp; (try go_bits); exact ⟨rfl, rfl⟩); simp only [Act.put, pA, pB, pC]
  refine txEnd (fun W5 hK => ?_)
  cases b1
  · --
   go_upto_region 2 with (fail)
   refine wp_region_tx w hK ?_
   clear hK
   iterate 2 (apply txF (wants0 rfl); (· intro w' hK; go_simp; (try go_bits); exact ⟨rfl, rfl⟩); simp only [Act.put, pA, pB, pC])
   apply txU 1 (Has w.heap.size R2 (.cells #[.int .u32 0, .int .i64 0] 31)) (wants0 rfl)
   · intro l1 hl1 w' hK; have k_R2 := (hK.get m1); have ⟨c_R2_0, c_R2_1⟩ := k_R2.c2; have f_R2 := k_R2.fz; go_simp; obtain rfl := hl1.out; exact ⟨rfl, ks_put (R := R2) hK k_R2.1 0 [.int .u32 0, .int .i64 0] (al1 (spG o_R2_R3 (hK.get m0)) (al1 (fun _ => has_put k_R2 _ _) (al1 (spL o_R1_R2 (hK.get m2)) aN)))⟩
   simp only [Act.put, pB, pC]
   apply txU 0 (Has w.heap.size R3 (.cells #[.int .u32 0, .int .i64 0] 31)) (wants0 rfl)
   · intro l1 hl1 w' hK; have k_R3 := (hK.get m0); have ⟨c_R3_0, c_R3_1⟩ := k_R3.c2; have f_R3 := k_R3.fz; go_simp; obtain rfl := hl1.out; exact ⟨rfl, ks_put (R := R3) hK k_R3.1 0 [.int .u32 0, .int .i64 0] (al1 (fun _ => has_put k_R3 _ _) (al1 (spL o_R2_R3 (hK.get m1)) (al1 (spL o_R1_R3 (hK.get m2)) aN)))⟩
   simp only [Act.put, pB]
   apply txF (wants0 rfl); (· intro w' hK; go_simp; (try go_bits); exact ⟨rfl, rfl⟩); simp only [Act.put, pA, pB, pC]
   refine txEnd (fun W6 hK => ?_)
   have k_R2 := (hK.get m1); have ⟨c_R2_0, c_R2_1⟩ := k_R2.c2
   have k_R3 := (hK.get m0); have ⟨c_R3_0, c_R3_1⟩ := k_R3.c2
   go_wp2
   exact bodyPost_ret (v := .tuple #[.agg #[.int .u32 0, .int .i64 0], .agg #[.int .u32 0, .int .i64 0], .int .i64 1]) (by simp [results, Tryz.results37, go_sem, c_R2_0, c_R2_1, c_R3_0, c_R3_1]) rfl ((by obtain rfl := hQ0.out; exact ⟨(by have q := sl_bad hb1.out; rw [q.1, q.2.1, q.2.2.1, q.2.2.2]; rfl), hK.old⟩))
  · --
   go_upto_region 3 with (fail)
   refine wp_region_tx w hK ?_
   clear hK
   apply txF (wants0 rfl); (· intro w' hK; go_simp; (try go_bits); exact ⟨rfl, rfl⟩); simp only [Act.put, pA, pB, pC]
   apply txF (wants0 rfl); (· intro w' hK; have k_R1 := (hK.get m2); have c_R1_1 := k_R1.at 1 rfl; go_simp; (try go_bits); exact ⟨rfl, rfl⟩); simp only [Act.put, pA, pB, pC]
   obtain ⟨b2, hb2⟩ : ∃ b : Bool, RowKit.Hid ((n == 32) = b) := ⟨_, hid rfl⟩
   apply txB b2 (wants0 rfl); (· intro w' hK; go_simp; (try go_bits); exact ⟨by have q := hb2.out; subst q; first | rfl | simp, rfl⟩); simp only [Act.put, pA, pB, pC]
   refine txEnd (fun W7 hK => ?_)
   cases b2
   · --
    have v0 := vld_lo hb1.out
    have v1 := vld_hi hb1.out
    have v2 := ne_of_beq hb2.out
    go_upto_region 5 with (fail)
    have hK0 := hK.subl (sC (sC (sK sZ)))
    refine wp_region_float0 (w) _ _ [0, 0, 0, 0, 0, 0, 0, 0, 0, 0, 0, 0, 0, 0, 0, 0, 0, 0, 4, 4, 0] (by kernel_rfl) (by kernel_rfl) (by kernel_rfl) (by kernel_rfl) (KS.drew hK0) (KS.drew hK) ?_
    clear hK hK0
    apply lxF0 (wants0 rfl); (· intro w' h0; go_simp; (try go_bits); exact ⟨rfl, rfl⟩); simp only [Act.put, pA, pB, pC]
    apply lxF0 (wants0 rfl); (· intro w' h0; have k_R1 := (h0.get m0); have c_R1_0 := k_R1.at 0 rfl; go_simp; (try go_bits); exact ⟨rfl, rfl⟩); simp only [Act.put, pA, pB, pC]
    apply lxF0 (wants0 rfl); (· intro w' h0; go_simp; (try go_bits); exact ⟨rfl, rfl⟩); simp only [Act.put, pA, pB, pC]
    apply lxF0 (wants0 rfl); (· intro w' h0; have k_R1 := (h0.get m0); have c_R1_1 := k_R1.at 1 rfl; go_simp; (try go_bits); exact ⟨rfl, rfl⟩); simp only [Act.put, pA, pB, pC]
    apply lxF0 (v := .int .i64 (n + 1)) (wants0 rfl); (· intro w' h0; go_simp; (try go_bits); exact ⟨rfl, rfl⟩); simp only [Act.put, pA, pB, pC]
    iterate 2 (apply lxF0 (wants0 rfl); (· intro w' h0; go_simp; (try go_bits); exact ⟨rfl, rfl⟩); simp only [Act.put, pA, pB, pC])
    apply lxF0 (wants0 rfl); (· intro w' h0; have k_R1 := (h0.get m0); have c_R1_0 := k_R1.at 0 rfl; go_simp; (try go_bits); exact ⟨rfl, rfl⟩); simp only [Act.put, pA, pB, pC]
    apply lxF0 (wants0 rfl); (· intro w' h0; go_simp; (try go_bits); exact ⟨rfl, rfl⟩); simp only [Act.put, pA, pB, pC]
    apply lxF0 (wants0 rfl); (· intro w' h0; have k_R1 := (h0.get m0); have c_R1_1 := k_R1.at 1 rfl; go_simp; (try go_bits); exact ⟨rfl, rfl⟩); simp only [Act.put, pA, pB, pC]
    iterate 2 (apply lxF0 (wants0 rfl); (· intro w' h0; go_simp; (try go_bits); exact ⟨rfl, rfl⟩); simp only [Act.put, pA, pB, pC])
    apply lxF0 (v := .int .u32 (bitP n : Int)) (wants0 rfl); (· intro w' h0; go_simp; (try go_bits); exact ⟨congrArg _ (bitP_shl v0 v1 v2), rfl⟩); simp only [Act.put, pA, pB, pC]
    apply lxF0 (v := .int .u32 ((a ||| bitP n : Nat) : Int)) (wants0 rfl); (· intro w' h0; go_simp; (try go_bits); exact ⟨congrArg _ (bitP_or n ha), rfl⟩); simp only [Act.put, pA, pB, pC]
    apply lxF0 (wants0 rfl); (· intro w' h0; go_simp; (try go_bits); exact ⟨rfl, rfl⟩); simp only [Act.put, pA, pB, pC]
    apply lxF0 (wants0 rfl); (· intro w' h0; have k_R1 := (h0.get m0); have c_R1_1 := k_R1.at 1 rfl; go_simp; (try go_bits); exact ⟨rfl, rfl⟩); simp only [Act.put, pA, pB, pC]
    apply lxF0 (v := .int .i64 (n + 1)) (wants0 rfl); (· intro w' h0; go_simp; (try go_bits); exact ⟨rfl, rfl⟩); simp only [Act.put, pA, pB, pC]
    apply lxF0 (wants0 rfl); (· intro w' h0; go_simp; (try go_bits); exact ⟨rfl, rfl⟩); simp only [Act.put, pA, pB, pC]
    apply lxU1 1 (Has w.heap.size R2 (.cells #[.int .u32 (a : Int), .int .i64 (n + 1)] 31)) (wants0 rfl)
    · intro g0 l1 hl1 w' h0 hK; have k_R2 := (hK.get m1); have ⟨c_R2_0, c_R2_1⟩ := k_R2.c2; have f_R2 := k_R2.fz; go_simp; obtain ⟨rfl, rfl⟩ := hl1.out; exact ⟨rfl, ks_put (R := R2) h0 k_R2.1 0 [.int .u32 (a : Int), .int .i64 (n + 1)] (al1 (spL o_R1_R2 (h0.get m0)) aN), ks_put (R := R2) hK k_R2.1 0 [.int .u32 (a : Int), .int .i64 (n + 1)] (al1 (spG o_R2_R3 (hK.get m0)) (al1 (fun _ => has_put k_R2 _ _) (al1 (spL o_R1_R2 (hK.get m2)) aN)))⟩
    simp only [Act.put, pB, pC]
    apply lxU1 0 (Has w.heap.size R3 (.cells #[.int .u32 ((a ||| bitP n : Nat) : Int), .int .i64 (n + 1)] 31)) (wants0 rfl)
    · intro g0 l1 hl1 w' h0 hK; have k_R3 := (hK.get m0); have ⟨c_R3_0, c_R3_1⟩ := k_R3.c2; have f_R3 := k_R3.fz; go_simp; obtain ⟨rfl, rfl⟩ := hl1.out; exact ⟨rfl, ks_put (R := R3) h0 k_R3.1 0 [.int .u32 ((a ||| bitP n : Nat) : Int), .int .i64 (n + 1)] (al1 (spL o_R1_R3 (h0.get m0)) aN), ks_put (R := R3) hK k_R3.1 0 [.int .u32 ((a ||| bitP n : Nat) : Int), .int .i64 (n + 1)] (al1 (fun _ => has_put k_R3 _ _) (al1 (spL o_R2_R3 (hK.get m1)) (al1 (spL o_R1_R3 (hK.get m2)) aN)))⟩
    simp only [Act.put, pB]
    apply lxF0 (wants0 rfl); (· intro w' h0; go_simp; (try go_bits); exact ⟨rfl, rfl⟩); simp only [Act.put, pA, pB, pC]
    refine lxEnd (fun W8 hK => ?_)
    have k_R2 := (hK.get m1); have ⟨c_R2_0, c_R2_1⟩ := k_R2.c2
    have k_R3 := (hK.get m0); have ⟨c_R3_0, c_R3_1⟩ := k_R3.c2
    go_wp2
    exact bodyPost_ret (v := .tuple #[.agg #[.int .u32 (a : Int), .int .i64 (n + 1)], .agg #[.int .u32 ((a ||| bitP n : Nat) : Int), .int .i64 (n + 1)], .int .i64 0]) (by simp [results, Tryz.results37, go_sem, c_R2_0, c_R2_1, c_R3_0, c_R3_1]) rfl ((by obtain rfl := hQ0.out; exact ⟨(by have q := sl_ok hb1.out hb2.out; rw [q.1, q.2.1, q.2.2.1, q.2.2.2]), hK.old⟩))
   · --
    go_upto_region 4 with (fail)
    refine wp_region_tx w hK ?_
    clear hK
    iterate 2 (apply txF (wants0 rfl); (· intro w' hK; go_simp; (try go_bits); exact ⟨rfl, rfl⟩); simp only [Act.put, pA, pB, pC])
    apply txU 1 (Has w.heap.size R2 (.cells #[.int .u32 0, .int .i64 0] 31)) (wants0 rfl)
    · intro l1 hl1 w' hK; have k_R2 := (hK.get m1); have ⟨c_R2_0, c_R2_1⟩ := k_R2.c2; have f_R2 := k_R2.fz; go_simp; obtain rfl := hl1.out; exact ⟨rfl, ks_put (R := R2) hK k_R2.1 0 [.int .u32 0, .int .i64 0] (al1 (spG o_R2_R3 (hK.get m0)) (al1 (fun _ => has_put k_R2 _ _) (al1 (spL o_R1_R2 (hK.get m2)) aN)))⟩
    simp only [Act.put, pB, pC]
    apply txU 0 (Has w.heap.size R3 (.cells #[.int .u32 0, .int .i64 0] 31)) (wants0 rfl)
    · intro l1 hl1 w' hK; have k_R3 := (hK.get m0); have ⟨c_R3_0, c_R3_1⟩ := k_R3.c2; have f_R3 := k_R3.fz; go_simp; obtain rfl := hl1.out; exact ⟨rfl, ks_put (R := R3) hK k_R3.1 0 [.int .u32 0, .int .i64 0] (al1 (fun _ => has_put k_R3 _ _) (al1 (spL o_R2_R3 (hK.get m1)) (al1 (spL o_R1_R3 (hK.get m2)) aN)))⟩
    simp only [Act.put, pB]
    apply txF (wants0 rfl); (· intro w' hK; go_simp; (try go_bits); exact ⟨rfl, rfl⟩); simp only [Act.put, pA, pB, pC]
    refine txEnd (fun W9 hK => ?_)
    have k_R2 := (hK.get m1); have ⟨c_R2_0, c_R2_1⟩ := k_R2.c2
    have k_R3 := (hK.get m0); have ⟨c_R3_0, c_R3_1⟩ := k_R3.c2
    go_wp2
    exact bodyPost_ret (v := .tuple #[.agg #[.int .u32 0, .int .i64 0], .agg #[.int .u32 0, .int .i64 0], .int .i64 2]) (by simp [results, Tryz.results37, go_sem, c_R2_0, c_R2_1, c_R3_0, c_R3_1]) rfl ((by obtain rfl := hQ0.out; exact ⟨(by have q := sl_full hb1.out hb2.out; rw [q.1, q.2.1, q.2.2.1, q.2.2.2]; rfl), hK.old⟩))
theorem mask_b (n : Int) (w : World) (h0 : 0 ≤ n) (h1 : n ≤ 32) : Calls Tryz.prog 28 #[.int .i64 n] w fun e w' => e = .returned (.int .u32 (maskI n)) ∧ Below w.heap.size w w' :=
  (mask_any n w h0 h1).mono fun e w' ⟨h, e2⟩ => ⟨h, by subst e2; exact Below.refl _ _⟩
theorem base_m1 {a : Nat} {n : Int} (ha : W32 a) (h0 : 0 ≤ n) (h1 : n ≤ 32) (h2 : n ≠ 0) : bits BinOp.and IntKind.u32 (a : Int) (maskI (n - 1)) = ((base (n.toNat - 1) a : Nat) : Int) := by
  rw [bits_and_mask ha (by omega) (by omega), show (n - 1).toNat = n.toNat - 1 by omega]
set_option maxRecDepth 100000 in
theorem parent_all  (a : Nat) (n : Int) (w : World)  (ha : W32 a) :
    Calls Tryz.prog 34 #[.agg #[.int .u32 (a : Int), .int .i64 n]] w fun e w' => e = .returned (.tuple #[.agg #[.int .u32 (paA a n : Int), .int .i64 (paN a n)], .int .i64 (paE a n)]) ∧ Below w.heap.size w w' := by
  have hK : KS w [] w := (KS.start w)
  refine Calls.hide (fun Q0 hQ0 => ?_)
  go_enter Tryz.func34, Tryz.ntmps34
  go_upto_region 0 with (fail)
  refine wp_region_tx w hK ?_
  clear hK
  apply txA (.cells #[.int .u32 (a : Int), .int .i64 n] 31) (wants0 rfl)
  · intro w' hK; go_simp; rfl
  intro R1 q_R1
  clear q_R1
  simp only [mkOf, Act.put, pA, pB, pC]
  apply txA (.cells #[.int .u32 0, .int .i64 0] 31) (wants0 rfl)
  · intro w' hK; go_simp; rfl
  intro R2 q_R2
  have o_R1_R2 : R1 < R2 := q_R2 _ _ _ m0
  clear q_R2
  simp only [mkOf, Act.put, pA, pB, pC]
  apply txF (wants0 rfl); (· intro w' hK; go_simp; (try go_bits); exact ⟨rfl, rfl⟩); simp only [Act.put, pA, pB, pC]
  refine txEnd (fun W3 hK => ?_)
  go_upto_region 1 with (fail)
  refine wp_region_tx w hK ?_
  clear hK
  apply txF (wants0 rfl); (· intro w' hK; have k_R1 := (hK.get m1); have ⟨c_R1_0, c_R1_1⟩ := k_R1.c2; go_simp; (try go_bits); exact ⟨rfl, rfl⟩); simp only [Act.put, pA, pB, pC]
  obtain ⟨b1, hb1⟩ : ∃ b : Bool, RowKit.Hid ((vld a n) = b) := ⟨_, hid rfl⟩
  apply txH (v := .bool b1) (wants0 rfl)
  · intro v1 hv1 w' hK; go_simp; (try go_bits); refine (valid_any a n w' (by first | assumption | omega | exact W32.zero)).mono ?_; rintro e w5 ⟨rfl, hb⟩; obtain rfl := hv1.out; exact ⟨_, rfl, (by rw [hb1.out]), hb⟩
  simp only [Act.put, pA, pB, pC]
  apply txF (wants0 rfl); (· intro w' hK; go_simp; (try go_bits); exact ⟨rfl, rfl⟩); simp only [Act.put, pA, pB, pC]
  refine txEnd (fun W4 hK => ?_)
  cases b1
  · --
   go_upto_region 2 with (fail)
   refine wp_region_tx w hK ?_
   clear hK
   apply txF (wants0 rfl); (· intro w' hK; go_simp; (try go_bits); exact ⟨rfl, rfl⟩); simp only [Act.put, pA, pB, pC]
   apply txU 0 (Has w.heap.size R2 (.cells #[.int .u32 0, .int .i64 0] 31)) (wants0 rfl)
   · intro l1 hl1 w' hK; have k_R2 := (hK.get m0); have ⟨c_R2_0, c_R2_1⟩ := k_R2.c2; have f_R2 := k_R2.fz; go_simp; obtain rfl := hl1.out; exact ⟨rfl, ks_put (R := R2) hK k_R2.1 0 [.int .u32 0, .int .i64 0] (al1 (fun _ => has_put k_R2 _ _) (al1 (spL o_R1_R2 (hK.get m1)) aN))⟩
   simp only [Act.put, pB]
   apply txF (wants0 rfl); (· intro w' hK; go_simp; (try go_bits); exact ⟨rfl, rfl⟩); simp only [Act.put, pA, pB, pC]
   refine txEnd (fun W5 hK => ?_)
   have k_R2 := (hK.get m0); have ⟨c_R2_0, c_R2_1⟩ := k_R2.c2
   go_wp2
   exact bodyPost_ret (v := .tuple #[.agg #[.int .u32 0, .int .i64 0], .int .i64 1]) (by simp [results, Tryz.results34, go_sem, c_R2_0, c_R2_1]) rfl ((by obtain rfl := hQ0.out; exact ⟨(by have q := pa_bad hb1.out; rw [q.1, q.2.1, q.2.2]; rfl), hK.old⟩))
  · --
   go_upto_region 3 with (fail)
   refine wp_region_tx w hK ?_
   clear hK
   apply txF (wants0 rfl); (· intro w' hK; go_simp; (try go_bits); exact ⟨rfl, rfl⟩); simp only [Act.put, pA, pB, pC]
   apply txF (wants0 rfl); (· intro w' hK; have k_R1 := (hK.get m1); have c_R1_1 := k_R1.at 1 rfl; go_simp; (try go_bits); exact ⟨rfl, rfl⟩); simp only [Act.put, pA, pB, pC]
   obtain ⟨b2, hb2⟩ : ∃ b : Bool, RowKit.Hid ((n == 0) = b) := ⟨_, hid rfl⟩
   apply txB b2 (wants0 rfl); (· intro w' hK; go_simp; (try go_bits); exact ⟨by have q := hb2.out; subst q; first | rfl | simp, rfl⟩); simp only [Act.put, pA, pB, pC]
   refine txEnd (fun W6 hK => ?_)
   cases b2
   · --
    have v0 := vld_lo hb1.out
    have v1 := vld_hi hb1.out
    have v2 := ne_of_beq hb2.out
    go_upto_region 5 with (fail)
    have hK0 := hK.subl (sC (sK sZ))
    refine wp_region_float0 (w) _ _ [0, 0, 0, 0, 0, 1, 0, 0, 0, 0, 0, 4, 0] (by kernel_rfl) (by kernel_rfl) (by kernel_rfl) (by kernel_rfl) (KS.drew hK0) (KS.drew hK) ?_
    clear hK hK0
    apply lxF0 (wants0 rfl); (· intro w' h0; go_simp; (try go_bits); exact ⟨rfl, rfl⟩); simp only [Act.put, pA, pB, pC]
    apply lxF0 (wants0 rfl); (· intro w' h0; have k_R1 := (h0.get m0); have c_R1_0 := k_R1.at 0 rfl; go_simp; (try go_bits); exact ⟨rfl, rfl⟩); simp only [Act.put, pA, pB, pC]
    apply lxF0 (wants0 rfl); (· intro w' h0; go_simp; (try go_bits); exact ⟨rfl, rfl⟩); simp only [Act.put, pA, pB, pC]
    apply lxF0 (wants0 rfl); (· intro w' h0; have k_R1 := (h0.get m0); have c_R1_1 := k_R1.at 1 rfl; go_simp; (try go_bits); exact ⟨rfl, rfl⟩); simp only [Act.put, pA, pB, pC]
    apply lxF0 (v := .int .i64 (n - 1)) (wants0 rfl); (· intro w' h0; go_simp; (try go_bits); exact ⟨rfl, rfl⟩); simp only [Act.put, pA, pB, pC]
    apply lxH1 (v := .int .u32 (maskI ((n - 1)))) (wants0 rfl)
    · intro v1 hv1 w' h0 hK; go_simp; (try go_bits); refine (mask_b ((n - 1)) w' (by omega) (by omega)).mono ?_; rintro e w5 ⟨rfl, hb⟩; obtain rfl := hv1.out; exact ⟨_, rfl, rfl, hb⟩
    simp only [Act.put, pA, pB, pC]
    apply lxF0 (v := .int .u32 (base (n.toNat - 1) a : Int)) (wants0 rfl); (· intro w' h0; go_simp; (try go_bits); exact ⟨congrArg _ (base_m1 ha v0 v1 v2), rfl⟩); simp only [Act.put, pA, pB, pC]
    apply lxF0 (wants0 rfl); (· intro w' h0; go_simp; (try go_bits); exact ⟨rfl, rfl⟩); simp only [Act.put, pA, pB, pC]
    apply lxF0 (wants0 rfl); (· intro w' h0; have k_R1 := (h0.get m0); have c_R1_1 := k_R1.at 1 rfl; go_simp; (try go_bits); exact ⟨rfl, rfl⟩); simp only [Act.put, pA, pB, pC]
    apply lxF0 (v := .int .i64 (n - 1)) (wants0 rfl); (· intro w' h0; go_simp; (try go_bits); exact ⟨rfl, rfl⟩); simp only [Act.put, pA, pB, pC]
    apply lxF0 (wants0 rfl); (· intro w' h0; go_simp; (try go_bits); exact ⟨rfl, rfl⟩); simp only [Act.put, pA, pB, pC]
    apply lxU1 0 (Has w.heap.size R2 (.cells #[.int .u32 (base (n.toNat - 1) a : Int), .int .i64 (n - 1)] 31)) (wants0 rfl)
    · intro g0 l1 hl1 w' h0 hK; have k_R2 := (hK.get m0); have ⟨c_R2_0, c_R2_1⟩ := k_R2.c2; have f_R2 := k_R2.fz; go_simp; obtain ⟨rfl, rfl⟩ := hl1.out; exact ⟨rfl, ks_put (R := R2) h0 k_R2.1 0 [.int .u32 (base (n.toNat - 1) a : Int), .int .i64 (n - 1)] (al1 (spL o_R1_R2 (h0.get m0)) aN), ks_put (R := R2) hK k_R2.1 0 [.int .u32 (base (n.toNat - 1) a : Int), .int .i64 (n - 1)] (al1 (fun _ => has_put k_R2 _ _) (al1 (spL o_R1_R2 (hK.get m1)) aN))⟩
    simp only [Act.put, pB]
    apply lxF0 (wants0 rfl); (· intro w' h0; go_simp; (try go_bits); exact ⟨rfl, rfl⟩); simp only [Act.put, pA, pB, pC]
    refine lxEnd (fun W7 hK => ?_)
    have k_R2 := (hK.get m0); have ⟨c_R2_0, c_R2_1⟩ := k_R2.c2
    go_wp2
    exact bodyPost_ret (v := .tuple #[.agg #[.int .u32 (base (n.toNat - 1) a : Int), .int .i64 (n - 1)], .int .i64 0]) (by simp [results, Tryz.results34, go_sem, c_R2_0, c_R2_1]) rfl ((by obtain rfl := hQ0.out; exact ⟨(by have q := pa_ok hb1.out hb2.out; rw [q.1, q.2.1, q.2.2]), hK.old⟩))
   · --
    go_upto_region 4 with (fail)
    refine wp_region_tx w hK ?_
    clear hK
    apply txF (wants0 rfl); (· intro w' hK; go_simp; (try go_bits); exact ⟨rfl, rfl⟩); simp only [Act.put, pA, pB, pC]
    apply txU 0 (Has w.heap.size R2 (.cells #[.int .u32 0, .int .i64 0] 31)) (wants0 rfl)
    · intro l1 hl1 w' hK; have k_R2 := (hK.get m0); have ⟨c_R2_0, c_R2_1⟩ := k_R2.c2; have f_R2 := k_R2.fz; go_simp; obtain rfl := hl1.out; exact ⟨rfl, ks_put (R := R2) hK k_R2.1 0 [.int .u32 0, .int .i64 0] (al1 (fun _ => has_put k_R2 _ _) (al1 (spL o_R1_R2 (hK.get m1)) aN))⟩
    simp only [Act.put, pB]
    apply txF (wants0 rfl); (· intro w' hK; go_simp; (try go_bits); exact ⟨rfl, rfl⟩); simp only [Act.put, pA, pB, pC]
    refine txEnd (fun W8 hK => ?_)
    have k_R2 := (hK.get m0); have ⟨c_R2_0, c_R2_1⟩ := k_R2.c2
    go_wp2
    exact bodyPost_ret (v := .tuple #[.agg #[.int .u32 0, .int .i64 0], .int .i64 2]) (by simp [results, Tryz.results34, go_sem, c_R2_0, c_R2_1]) rfl ((by obtain rfl := hQ0.out; exact ⟨(by have q := pa_full hb1.out hb2.out; rw [q.1, q.2.1, q.2.2]; rfl), hK.old⟩))
def cmpZ (x y : Int) : Int := if x < y then -1 else if y < x then 1 else 0
def orL : List Int → Int
  | [] => 0
  | x :: l => if x = 0 then orL l else x
theorem orL_hit {xs : List Int} {k : Nat} {x : Int} (hx : xs[k]? = some x) (h : (x != 0) = true) : orL (xs.drop k) = x := by
  obtain ⟨hk, e⟩ := List.getElem?_eq_some_iff.1 hx
  rw [List.drop_eq_getElem_cons hk, e, orL, if_neg (by simpa using h)]
theorem orL_miss {xs : List Int} {k : Nat} {x : Int} (hx : xs[k]? = some x) (h : (x != 0) = false) : orL (xs.drop k) = orL (xs.drop (k + 1)) := by
  obtain ⟨hk, e⟩ := List.getElem?_eq_some_iff.1 hx
  rw [List.drop_eq_getElem_cons hk, e, orL, if_pos (by simpa using h)]
set_option maxRecDepth 100000 in
theorem isNaN_u32  (x : Int) (w : World)   :
    Calls Tryz.prog 54 #[.int .u32 x] w fun e w' => e = .returned (.bool false) ∧ Below w.heap.size w w' := by
  have hK : KS w [] w := (KS.start w)
  refine Calls.hide (fun Q0 hQ0 => ?_)
  go_enter Tryz.func54, Tryz.ntmps54
  go_upto_region 1 with (fail)
  refine wp_region_tx w hK ?_
  clear hK
  iterate 2 (apply txF (wants0 rfl); (· intro w' hK; go_simp; (try go_bits); exact ⟨rfl, rfl⟩); simp only [Act.put, pA, pB, pC])
  apply txF (v := .bool false) (wants0 rfl); (· intro w' hK; go_simp; (try go_bits); exact ⟨congrArg Value.bool (by simp), rfl⟩); simp only [Act.put, pA, pB, pC]
  apply txF (wants0 rfl); (· intro w' hK; go_simp; (try go_bits); exact ⟨rfl, rfl⟩); simp only [Act.put, pA, pB, pC]
  refine txEnd (fun W1 hK => ?_)
  go_wp2
  try go_ret
  show Q0 (.returned (.bool false)) _
  exact (by obtain rfl := hQ0.out; exact ⟨rfl, hK.old⟩)
set_option maxRecDepth 100000 in
theorem compare_u32  (x : Int) (y : Int) (w : World)   :
    Calls Tryz.prog 32 #[.int .u32 x, .int .u32 y] w fun e w' => e = .returned (.int .i64 (cmpZ x y)) ∧ Below w.heap.size w w' := by
  have hK : KS w [] w := (KS.start w)
  refine Calls.hide (fun Q0 hQ0 => ?_)
  go_enter Tryz.func32, Tryz.ntmps32
  go_upto_region 1 with (fail)
  refine wp_region_tx w hK ?_
  clear hK
  apply txF (wants0 rfl); (· intro w' hK; go_simp; (try go_bits); exact ⟨rfl, rfl⟩); simp only [Act.put, pA, pB, pC]
  apply txH (v := .bool false) (wants0 rfl)
  · intro v1 hv1 w' hK; go_simp; (try go_bits); refine (isNaN_u32  x w'  ).mono ?_; rintro e w5 ⟨rfl, hb⟩; obtain rfl := hv1.out; exact ⟨_, rfl, rfl, hb⟩
  simp only [Act.put, pA, pB, pC]
  apply txF (wants0 rfl); (· intro w' hK; go_simp; (try go_bits); exact ⟨rfl, rfl⟩); simp only [Act.put, pA, pB, pC]
  refine txEnd (fun W1 hK => ?_)
  go_upto_region 2 with (fail)
  refine wp_region_tx w hK ?_
  clear hK
  apply txF (wants0 rfl); (· intro w' hK; go_simp; (try go_bits); exact ⟨rfl, rfl⟩); simp only [Act.put, pA, pB, pC]
  apply txH (v := .bool false) (wants0 rfl)
  · intro v1 hv1 w' hK; go_simp; (try go_bits); refine (isNaN_u32  y w'  ).mono ?_; rintro e w5 ⟨rfl, hb⟩; obtain rfl := hv1.out; exact ⟨_, rfl, rfl, hb⟩
  simp only [Act.put, pA, pB, pC]
  apply txF (wants0 rfl); (· intro w' hK; go_simp; (try go_bits); exact ⟨rfl, rfl⟩); simp only [Act.put, pA, pB, pC]
  refine txEnd (fun W2 hK => ?_)
  go_upto_region 9 with (fail)
  refine wp_region_tx w hK ?_
  clear hK
  iterate 2 (apply txF (wants0 rfl); (· intro w' hK; go_simp; (try go_bits); exact ⟨rfl, rfl⟩); simp only [Act.put, pA, pB, pC])
  obtain ⟨b1, hb1⟩ : ∃ b : Bool, RowKit.Hid (decide (x < y) = b) := ⟨_, hid rfl⟩
  apply txB b1 (wants0 rfl); (· intro w' hK; go_simp; (try go_bits); exact ⟨by have q := hb1.out; subst q; first | rfl | simp, rfl⟩); simp only [Act.put, pA, pB, pC]
  refine txEnd (fun W3 hK => ?_)
  cases b1
  · --
   have q_b1 : y ≤ x := Int.not_lt.1 (of_decide_eq_false hb1.out)
   go_upto_region 11 with (fail)
   refine wp_region_tx w hK ?_
   clear hK
   iterate 2 (apply txF (wants0 rfl); (· intro w' hK; go_simp; (try go_bits); exact ⟨rfl, rfl⟩); simp only [Act.put, pA, pB, pC])
   obtain ⟨b2, hb2⟩ : ∃ b : Bool, RowKit.Hid (decide (y < x) = b) := ⟨_, hid rfl⟩
   apply txB b2 (wants0 rfl); (· intro w' hK; go_simp; (try go_bits); exact ⟨by have q := hb2.out; subst q; first | rfl | simp, rfl⟩); simp only [Act.put, pA, pB, pC]
   refine txEnd (fun W4 hK => ?_)
   cases b2
   · --
    have q_b2 : x ≤ y := Int.not_lt.1 (of_decide_eq_false hb2.out)
    go_wp2
    try go_ret
    show Q0 (.returned (.int .i64 0)) _
    exact (by obtain rfl := hQ0.out; exact ⟨(by rw [show cmpZ x y = 0 from (if_neg (by omega)).trans (if_neg (by omega))]), hK.old⟩)
   · --
    have q_b2 : y < x := of_decide_eq_true hb2.out
    go_wp2
    try go_ret
    show Q0 (.returned (.int .i64 1)) _
    exact (by obtain rfl := hQ0.out; exact ⟨(by rw [show cmpZ x y = 1 from (if_neg (by omega)).trans (if_pos q_b2)]), hK.old⟩)
  · --
   have q_b1 : x < y := of_decide_eq_true hb1.out
   go_wp2
   try go_ret
   show Q0 (.returned (.int .i64 (-1))) _
   exact (by obtain rfl := hQ0.out; exact ⟨(by rw [show cmpZ x y = -1 from if_pos q_b1]), hK.old⟩)
set_option maxRecDepth 100000 in
theorem isNaN_i64  (x : Int) (w : World)   :
    Calls Tryz.prog 55 #[.int .i64 x] w fun e w' => e = .returned (.bool false) ∧ Below w.heap.size w w' := by
  have hK : KS w [] w := (KS.start w)
  refine Calls.hide (fun Q0 hQ0 => ?_)
  go_enter Tryz.func55, Tryz.ntmps55
  go_upto_region 1 with (fail)
  refine wp_region_tx w hK ?_
  clear hK
  iterate 2 (apply txF (wants0 rfl); (· intro w' hK; go_simp; (try go_bits); exact ⟨rfl, rfl⟩); simp only [Act.put, pA, pB, pC])
  apply txF (v := .bool false) (wants0 rfl); (· intro w' hK; go_simp; (try go_bits); exact ⟨congrArg Value.bool (by simp), rfl⟩); simp only [Act.put, pA, pB, pC]
  apply txF (wants0 rfl); (· intro w' hK; go_simp; (try go_bits); exact ⟨rfl, rfl⟩); simp only [Act.put, pA, pB, pC]
  refine txEnd (fun W1 hK => ?_)
  go_wp2
  try go_ret
  show Q0 (.returned (.bool false)) _
  exact (by obtain rfl := hQ0.out; exact ⟨rfl, hK.old⟩)
set_option maxRecDepth 100000 in
theorem compare_i64  (x : Int) (y : Int) (w : World)   :
    Calls Tryz.prog 33 #[.int .i64 x, .int .i64 y] w fun e w' => e = .returned (.int .i64 (cmpZ x y)) ∧ Below w.heap.size w w' := by
  have hK : KS w [] w := (KS.start w)
  refine Calls.hide (fun Q0 hQ0 => ?_)
  go_enter Tryz.func33, Tryz.ntmps33
  go_upto_region 1 with (fail)
  refine wp_region_tx w hK ?_
  clear hK
  apply txF (wants0 rfl); (· intro w' hK; go_simp; (try go_bits); exact ⟨rfl, rfl⟩); simp only [Act.put, pA, pB, pC]
  apply txH (v := .bool false) (wants0 rfl)
  · intro v1 hv1 w' hK; go_simp; (try go_bits); refine (isNaN_i64  x w'  ).mono ?_; rintro e w5 ⟨rfl, hb⟩; obtain rfl := hv1.out; exact ⟨_, rfl, rfl, hb⟩
  simp only [Act.put, pA, pB, pC]
  apply txF (wants0 rfl); (· intro w' hK; go_simp; (try go_bits); exact ⟨rfl, rfl⟩); simp only [Act.put, pA, pB, pC]
  refine txEnd (fun W1 hK => ?_)
  go_upto_region 2 with (fail)
  refine wp_region_tx w hK ?_
  clear hK
  apply txF (wants0 rfl); (· intro w' hK; go_simp; (try go_bits); exact ⟨rfl, rfl⟩); simp only [Act.put, pA, pB, pC]
  apply txH (v := .bool false) (wants0 rfl)
  · intro v1 hv1 w' hK; go_simp; (try go_bits); refine (isNaN_i64  y w'  ).mono ?_; rintro e w5 ⟨rfl, hb⟩; obtain rfl := hv1.out; exact ⟨_, rfl, rfl, hb⟩
  simp only [Act.put, pA, pB, pC]
  apply txF (wants0 rfl); (· intro w' hK; go_simp; (try go_bits); exact ⟨rfl, rfl⟩); simp only [Act.put, pA, pB, pC]
  refine txEnd (fun W2 hK => ?_)
  go_upto_region 9 with (fail)
  refine wp_region_tx w hK ?_
  clear hK
  iterate 2 (apply txF (wants0 rfl); (· intro w' hK; go_simp; (try go_bits); exact ⟨rfl, rfl⟩); simp only [Act.put, pA, pB, pC])
  obtain ⟨b1, hb1⟩ : ∃ b : Bool, RowKit.Hid (decide (x < y) = b) := ⟨_, hid rfl⟩
  apply txB b1 (wants0 rfl); (· intro w' hK; go_simp; (try go_bits); exact ⟨by have q := hb1.out; subst q; first | rfl | simp, rfl⟩); simp only [Act.put, pA, pB, pC]
  refine txEnd (fun W3 hK => ?_)
  cases b1
  · --
   have q_b1 : y ≤ x := Int.not_lt.1 (of_decide_eq_false hb1.out)
   go_upto_region 11 with (fail)
   refine wp_region_tx w hK ?_
   clear hK
   iterate 2 (apply txF (wants0 rfl); (· intro w' hK; go_simp; (try go_bits); exact ⟨rfl, rfl⟩); simp only [Act.put, pA, pB, pC])
   obtain ⟨b2, hb2⟩ : ∃ b : Bool, RowKit.Hid (decide (y < x) = b) := ⟨_, hid rfl⟩
   apply txB b2 (wants0 rfl); (· intro w' hK; go_simp; (try go_bits); exact ⟨by have q := hb2.out; subst q; first | rfl | simp, rfl⟩); simp only [Act.put, pA, pB, pC]
   refine txEnd (fun W4 hK => ?_)
   cases b2
   · --
    have q_b2 : x ≤ y := Int.not_lt.1 (of_decide_eq_false hb2.out)
    go_wp2
    try go_ret
    show Q0 (.returned (.int .i64 0)) _
    exact (by obtain rfl := hQ0.out; exact ⟨(by rw [show cmpZ x y = 0 from (if_neg (by omega)).trans (if_neg (by omega))]), hK.old⟩)
   · --
    have q_b2 : y < x := of_decide_eq_true hb2.out
    go_wp2
    try go_ret
    show Q0 (.returned (.int .i64 1)) _
    exact (by obtain rfl := hQ0.out; exact ⟨(by rw [show cmpZ x y = 1 from (if_neg (by omega)).trans (if_pos q_b2)]), hK.old⟩)
  · --
   have q_b1 : x < y := of_decide_eq_true hb1.out
   go_wp2
   try go_ret
   show Q0 (.returned (.int .i64 (-1))) _
   exact (by obtain rfl := hQ0.out; exact ⟨(by rw [show cmpZ x y = -1 from if_pos q_b1]), hK.old⟩)
set_option maxRecDepth 100000 in
theorem or_any (v0 : Value) (xs : List Int) (w : World) (h0 : SlV intK w v0 xs) (hl : xs.length ≤ 100) :
    Calls Tryz.prog 31 #[v0] w fun e w' => e = .returned (.int .i64 (orL xs)) ∧ Below w.heap.size w w' := by
  have h0_0 := h0; obtain ⟨p_h0, c_h0, rfl, n_h0⟩ := h0.sh
  have hK : KS w [] w := (KS.start w)
  refine Calls.hide (fun Q0 hQ0 => ?_)
  go_enter Tryz.func31, Tryz.ntmps31
  go_wp2_with fail
  go_loopw [8] (fun s8 wl => ∃ (k : Nat), s8 = .int .i64 (k : Int) ∧ (k ≤ xs.length) ∧ RowKit.Hid (orL xs = orL (xs.drop k)) ∧ KS w [] wl) (fun s8 _ => xs.length - (intOf s8).toNat)
  case atStart => exact ⟨0, rfl, (by omega), (hid (by rw [List.drop_zero])), ⟨hK.old, aN⟩⟩
  case round =>
   clear hK
   obtain ⟨k, rfl, hk, ho, hK⟩ := hrel
   generalize wr = W1 at hK ⊢
   go_upto_region 3 with (fail)
   refine wp_region_tx w hK ?_
   clear hK
   obtain ⟨b1, hb1⟩ : ∃ b : Bool, RowKit.Hid (decide (((k : Int)) < ((xs.length : Int))) = b) := ⟨_, hid rfl⟩
   apply txB b1 (wants0 rfl); (· intro w' hK; go_simp; (try go_bits); exact ⟨by have q := hb1.out; subst q; first | rfl | simp, rfl⟩); simp only [Act.put, pA, pB, pC]
   refine txEnd (fun W2 hK => ?_)
   cases b1
   · --
    have q_b1 : ((xs.length : Int)) ≤ ((k : Int)) := Int.not_lt.1 (of_decide_eq_false hb1.out)
    go_wp2
    try go_ret
    show Q0 (.returned (.int .i64 0)) _
    exact (by obtain rfl := hQ0.out; exact ⟨(by rw [ho.out, List.drop_eq_nil_of_le (by omega)]; rfl), hK.old⟩)
   · --
    have q_b1 : ((k : Int)) < ((xs.length : Int)) := of_decide_eq_true hb1.out
    obtain ⟨x4, ex4⟩ : ∃ x, RowKit.Hid (xs[k]? = some x) := ⟨_, hid (List.getElem?_eq_getElem (show k < xs.length from (by omega)))⟩
    have i3 : k < xs.length := by have q : k < xs.length := (by omega); first | exact q | (simp at q; omega) | omega
    obtain ⟨g3, o3, q3, l3⟩ := (h0_0).ptr ex4.out
    subst q3
    replace hK := KS.atI hK (h0_0.below hK.old) ex4.out
    go_upto_region 4 with (fail)
    refine wp_region_tx w hK ?_
    clear hK
    apply txF (wants0 rfl); (· intro w' hK; go_simp; (try go_bits); exact ⟨rfl, rfl⟩); simp only [Act.put, pA, pB, pC]
    apply txF (wants0 rfl); (· intro w' hK; have c_CEL3_0 : w'.cell? ⟨g3, o3 + k, none⟩ = some (.int .i64 x4) := (by have q := (hK.get m0).2 0 _ rfl; simpa using q); go_simp; (try go_bits); exact ⟨rfl, rfl⟩); simp only [Act.put, pA, pB, pC]
    apply txF (wants0 rfl); (· intro w' hK; go_simp; (try go_bits); exact ⟨rfl, rfl⟩); simp only [Act.put, pA, pB, pC]
    refine txEnd (fun W4 hK => ?_)
    go_upto_region 5 with (fail)
    refine wp_region_tx w hK ?_
    clear hK
    iterate 2 (apply txF (wants0 rfl); (· intro w' hK; go_simp; (try go_bits); exact ⟨rfl, rfl⟩); simp only [Act.put, pA, pB, pC])
    obtain ⟨b2, hb2⟩ : ∃ b : Bool, RowKit.Hid ((x4 != 0) = b) := ⟨_, hid rfl⟩
    apply txB b2 (wants0 rfl); (· intro w' hK; go_simp; (try go_bits); exact ⟨by have q := hb2.out; subst q; first | rfl | simp, rfl⟩); simp only [Act.put, pA, pB, pC]
    refine txEnd (fun W5 hK => ?_)
    cases b2
    · --
     (try go_wp2)
     go_roundw
     case rel => exact ⟨k + 1, (by first | rfl | go_num), (by omega), (hid (ho.out.trans (orL_miss ex4.out hb2.out))), ⟨hK.old, aN⟩⟩
     case measure => simp [intOf]; omega
    · --
     go_wp2
     try go_ret
     show Q0 (.returned (.int .i64 x4)) _
     exact (by obtain rfl := hQ0.out; exact ⟨(by rw [ho.out, orL_hit ex4.out hb2.out]), hK.old⟩)
theorem cmpZ_lt {x y : Int} (h : x < y) : cmpZ x y = -1 := if_pos h
theorem cmpZ_gt {x y : Int} (h : y < x) : cmpZ x y = 1 := (if_neg (by omega)).trans (if_pos h)
theorem cmpZ_eq (x : Int) : cmpZ x x = 0 := (if_neg (Int.lt_irrefl x)).trans (if_neg (Int.lt_irrefl x))
theorem orL_ne {x : Int} (l : List Int) (h : x ≠ 0) : orL (x :: l) = x := if_neg h
theorem orL_zero (l : List Int) : orL (0 :: l) = orL l := if_pos rfl
theorem orL_one (x : Int) : orL [x] = x := by
  unfold orL
  split
  · rename_i h; rw [h]; rfl
  · rfl
theorem cmp_two {a b : Nat} {n m : Int} : orL [cmpZ (a : Int) (b : Int), cmpZ n m] = cmpI a n b m := by
  unfold cmpI
  rcases Nat.lt_trichotomy a b with h | h | h
  · have h1 : (a : Int) < (b : Int) := by omega
    rw [cmpZ_lt h1, orL_ne _ (by decide), if_pos (Or.inl h)]
  · subst h
    rw [cmpZ_eq, orL_zero, orL_one]
    rcases Int.lt_trichotomy n m with h2 | h2 | h2
    · rw [cmpZ_lt h2, if_pos (Or.inr ⟨rfl, h2⟩)]
    · subst h2
      rw [cmpZ_eq, if_neg (by omega), if_pos ⟨rfl, rfl⟩]
    · rw [cmpZ_gt h2, if_neg (by omega), if_neg (by omega)]
  · have h1 : (b : Int) < (a : Int) := by omega
    rw [cmpZ_gt h1, orL_ne _ (by decide), if_neg (by omega), if_neg (by omega)]
set_option maxRecDepth 100000 in
theorem compare_any  (a : Nat) (n : Int) (c : Nat) (m : Int) (w : World)   :
    Calls Tryz.prog 16 #[.agg #[.int .u32 (a : Int), .int .i64 n], .agg #[.int .u32 (c : Int), .int .i64 m]] w fun e w' => e = .returned (.int .i64 (cmpI a n c m)) ∧ Below w.heap.size w w' := by
  have hK : KS w [] w := (KS.start w)
  refine Calls.hide (fun Q0 hQ0 => ?_)
  go_enter Tryz.func16, Tryz.ntmps16
  go_upto_region 0 with (fail)
  refine wp_region_tx w hK ?_
  clear hK
  apply txA (.cells #[.int .u32 (a : Int), .int .i64 n] 31) (wants0 rfl)
  · intro w' hK; go_simp; rfl
  intro R1 q_R1
  clear q_R1
  simp only [mkOf, Act.put, pA, pB, pC]
  apply txA (.cells #[.int .u32 (c : Int), .int .i64 m] 31) (wants0 rfl)
  · intro w' hK; go_simp; rfl
  intro R2 q_R2
  have o_R1_R2 : R1 < R2 := q_R2 _ _ _ m0
  clear q_R2
  simp only [mkOf, Act.put, pA, pB, pC]
  apply txF (wants0 rfl); (· intro w' hK; go_simp; (try go_bits); exact ⟨rfl, rfl⟩); simp only [Act.put, pA, pB, pC]
  refine txEnd (fun W3 hK => ?_)
  go_upto_region 1 with (fail)
  have z_R1 : R1 < W3.heap.size := (hK.get m1).ltS
  have z_R2 : R2 < W3.heap.size := (hK.get m0).ltS
  have v_W3 := hK.old.size
  have hKo := hK
  replace hK := hK.re
  have hK0 := hK
  refine wp_region_float0 (W3) _ _ [0, 0, 0, 0, 1, 0, 0, 0, 0, 1, 3, 1, 0] (by kernel_rfl) (by kernel_rfl) (by kernel_rfl) (by kernel_rfl) (KS.drew hK0) (KS.drew hK) ?_
  clear hK hK0
  apply lxF0 (wants0 rfl); (· intro w' h0; go_simp; (try go_bits); exact ⟨rfl, rfl⟩); simp only [Act.put, pA, pB, pC]
  apply lxF0 (wants0 rfl); (· intro w' h0; have k_R1 := (h0.get m1); have c_R1_0 := k_R1.at 0 rfl; go_simp; (try go_bits); exact ⟨rfl, rfl⟩); simp only [Act.put, pA, pB, pC]
  apply lxF0 (wants0 rfl); (· intro w' h0; go_simp; (try go_bits); exact ⟨rfl, rfl⟩); simp only [Act.put, pA, pB, pC]
  apply lxF0 (wants0 rfl); (· intro w' h0; have k_R2 := (h0.get m0); have c_R2_0 := k_R2.at 0 rfl; go_simp; (try go_bits); exact ⟨rfl, rfl⟩); simp only [Act.put, pA, pB, pC]
  obtain ⟨z1, hz1⟩ : ∃ b : Int, RowKit.Hid ((cmpZ ((a : Int)) ((c : Int))) = b) := ⟨_, hid rfl⟩
  apply lxH1 (v := .int .i64 z1) (wants0 rfl)
  · intro v1 hv1 w' h0 hK; go_simp; (try go_bits); refine (compare_u32  ((a : Int)) ((c : Int)) w'  ).mono ?_; rintro e w5 ⟨rfl, hb⟩; obtain rfl := hv1.out; exact ⟨_, rfl, (by rw [hz1.out]), hb⟩
  simp only [Act.put, pA, pB, pC]
  apply lxF0 (wants0 rfl); (· intro w' h0; go_simp; (try go_bits); exact ⟨rfl, rfl⟩); simp only [Act.put, pA, pB, pC]
  apply lxF0 (wants0 rfl); (· intro w' h0; have k_R1 := (h0.get m1); have c_R1_1 := k_R1.at 1 rfl; go_simp; (try go_bits); exact ⟨rfl, rfl⟩); simp only [Act.put, pA, pB, pC]
  apply lxF0 (wants0 rfl); (· intro w' h0; go_simp; (try go_bits); exact ⟨rfl, rfl⟩); simp only [Act.put, pA, pB, pC]
  apply lxF0 (wants0 rfl); (· intro w' h0; have k_R2 := (h0.get m0); have c_R2_1 := k_R2.at 1 rfl; go_simp; (try go_bits); exact ⟨rfl, rfl⟩); simp only [Act.put, pA, pB, pC]
  obtain ⟨z2, hz2⟩ : ∃ b : Int, RowKit.Hid ((cmpZ n m) = b) := ⟨_, hid rfl⟩
  apply lxH1 (v := .int .i64 z2) (wants0 rfl)
  · intro v1 hv1 w' h0 hK; go_simp; (try go_bits); refine (compare_i64  n m w'  ).mono ?_; rintro e w5 ⟨rfl, hb⟩; obtain rfl := hv1.out; exact ⟨_, rfl, (by rw [hz2.out]), hb⟩
  simp only [Act.put, pA, pB, pC]
  apply lxA0 (.cells #[.int .i64 z1, .int .i64 z2] 3) (wants0 rfl)
  · intro w' h0; go_simp; rfl
  intro R4
  simp only [mkOf, Act.put, pA, pB, pC]
  obtain ⟨z3, hz3⟩ : ∃ b : Int, RowKit.Hid ((orL ([z1, z2])) = b) := ⟨_, hid rfl⟩
  apply lxH1 (v := .int .i64 z3) (wants0 rfl)
  · intro v1 hv1 w' h0 hK; go_simp; (try go_bits); refine (or_any (.slice (some ⟨R4, 0, none⟩) 2 2) ([z1, z2]) w' (SlV.ofBox (K := intK) (f := fun x => [.int .i64 x]) (xs := [z1, z2]) (fun _ _ => rfl) (hK.get m0) (by simp)) (by simp)).mono ?_; rintro e w5 ⟨rfl, hb⟩; obtain rfl := hv1.out; exact ⟨_, rfl, (by rw [hz3.out]), hb⟩
  simp only [Act.put, pA, pB, pC]
  apply lxF0 (wants0 rfl); (· intro w' h0; go_simp; (try go_bits); exact ⟨rfl, rfl⟩); simp only [Act.put, pA, pB, pC]
  refine lxEnd (fun W5 hK => ?_)
  have o_R1_R4 : R1 < R4 := Nat.lt_of_lt_of_le z_R1 (hK.get m0).1
  have o_R2_R4 : R2 < R4 := Nat.lt_of_lt_of_le z_R2 (hK.get m0).1
  replace hK := hKo.over hK
  clear hKo
  go_wp2
  try go_ret
  show Q0 (.returned (.int .i64 z3)) _
  exact (by obtain rfl := hQ0.out; exact ⟨(by rw [← hz3.out, ← hz1.out, ← hz2.out, cmp_two]), hK.old⟩)
end Go.Proofs.YtbbjjjaclbkolaaGreatDoor
