/- The law RationalParse walked. -/
import Derived.Test.YtiilkcdefpmimaaGreatDoorRatL0
namespace Go.Proofs.YtiilkcdefpmimaaGreatDoor
open Go.RowKit
open Go.Lib (decDigits)
theorem valQ_lm {l : List UInt8} (hl : l.length ≤ 100) : LmQ 50 (valQ l) := by
  have hp : ∀ m : List UInt8, m.length ≤ 101 → Lm 50 (parseVal m) := fun m hm => Nat.lt_of_lt_of_le (parseVal_lt hm) (by decide)
  unfold valQ
  split
  · rename_i h
    exact .ofS _ (hp _ (Nat.le_trans (fir_len l) (by omega))) (hp _ (Nat.le_trans (sec_len l) (by omega))) (errQ_zero h).2.2
  · exact LmQ.zero.up (by decide)
def zr (n : Nat) : List UInt8 := List.replicate n 48
def za (n : Nat) : List UInt8 := [49] ++ zr n
def zb (n : Nat) : List UInt8 := za n ++ [47, 49]
def zz (n d : Nat) : List UInt8 := zb n ++ zr d
theorem zr_len (n : Nat) : (zr n).length = n := List.length_replicate
theorem za_len (n : Nat) : (za n).length = n + 1 := by rw [za, List.length_append, zr_len]; simp; omega
theorem zb_len (n : Nat) : (zb n).length = n + 3 := by rw [zb, List.length_append, za_len]; rfl
theorem za_add (n : Nat) : (⟨#[49]⟩ : ByteArray) ++ ⟨(zr n).toArray⟩ = ⟨(za n).toArray⟩ := str_add [49] (zr n)
theorem zb_add (n : Nat) : (⟨(za n).toArray⟩ : ByteArray) ++ ⟨#[47, 49]⟩ = ⟨(zb n).toArray⟩ := str_add (za n) [47, 49]
theorem zz_add (n d : Nat) : (⟨(zb n).toArray⟩ : ByteArray) ++ ⟨(zr d).toArray⟩ = ⟨(zz n d).toArray⟩ := str_add (zb n) (zr d)
theorem zz_part (n : Nat) : (∀ c ∈ (49 :: List.replicate n 48 : List UInt8), c ≠ 47) ∧ (∀ c ∈ (49 :: List.replicate n 48 : List UInt8), isDig c = true) := by
  refine ⟨fun c hc => ?_, fun c hc => ?_⟩ <;> rcases List.mem_cons.1 hc with rfl | hc
  · decide
  · rw [List.eq_of_mem_replicate hc]; decide
  · decide
  · rw [List.eq_of_mem_replicate hc]; decide
theorem one_err (n : Nat) : parseErr (49 :: List.replicate n 48) = if 1000 < n + 1 then 6 else 0 := by
  have h := parse_good (l := 49 :: List.replicate n 48) (by simp) (.inr (by simp)) (zz_part n).2
  rwa [List.length_cons, List.length_replicate] at h
theorem one_val {n : Nat} (h : n < 1000) : parseVal (49 :: List.replicate n 48) ≠ 0 := by
  have h2 := Nat.pow_pos (n := n) (show 0 < 10 by decide)
  unfold parseVal
  rw [if_pos (by rw [one_err, if_neg (by omega)]), show (49 :: List.replicate n 48 : List UInt8) = [49] ++ List.replicate n 48 from rfl, valT_append, List.length_replicate, show valT [49] = 1 from rfl]
  omega
theorem zz_err (n d : Nat) : errQ (zz n d) = if n < 1000 ∧ d < 1000 then 0 else 6 := by
  have e1 : zz n d = (49 :: List.replicate n 48) ++ 47 :: (49 :: List.replicate d 48) := by simp [zz, zb, za, zr]
  have hm : noMinus (zz n d) = zz n d := by rw [e1]; simp [noMinus]
  have hc := cut_at (l := 49 :: List.replicate n 48) (m := 49 :: List.replicate d 48) (zz_part n).1
  have ef : firQ (zz n d) = 49 :: List.replicate n 48 := by unfold firQ; rw [hm, e1, hc.1]
  have es : secQ (zz n d) = 49 :: List.replicate d 48 := by unfold secQ; rw [hm, e1, hc.2]; rfl
  unfold errQ
  rw [ef, es, one_err, one_err]
  by_cases h1 : n < 1000 <;> by_cases h2 : d < 1000
  · rw [if_neg (by split <;> split <;> simp), if_neg (by rw [if_neg (by omega), if_neg (by omega)]; simp), if_neg (one_val h2), if_pos ⟨h1, h2⟩]
  · rw [if_neg (by split <;> split <;> simp), if_pos (.inr (by rw [if_pos (by omega)]; decide)), if_neg (fun h => h2 h.2)]
  · rw [if_neg (by split <;> split <;> simp), if_pos (.inl (by rw [if_pos (by omega)]; decide)), if_neg (fun h => h1 h.1)]
  · rw [if_neg (by split <;> split <;> simp), if_pos (.inl (by rw [if_pos (by omega)]; decide)), if_neg (fun h => h1 h.1)]
theorem qparse_zz (n d : Nat) (w : World) (hB : Bas w) (hn : n < 1100) (hd : d < 1100) :
    Calls Tryz.prog 12 #[.string ⟨(zz n d).toArray⟩] w fun e w' => ∃ y0, e = .returned (.tuple #[y0, .int .i64 (if n < 1000 ∧ d < 1000 then 0 else 6)]) ∧ RatV w' y0 (valQ (zz n d)) ∧ Below w.heap.size w w' := by
  have c := qparse_q (zz n d) w hB (by rw [zz, List.length_append, zb_len, zr_len]; omega)
  rw [zz_err] at c
  exact c
theorem zeros_q (n : Nat) (w : World) (hn : n ≤ 2000) : Calls Tryz.prog 15 #[.int .i64 (n : Int)] w fun e w' => e = .returned (.string ⟨(zr n).toArray⟩) ∧ Below w.heap.size w w' := zeros_any n w hn
theorem zcon {p q : Nat} {z : Int} (hz : (if p < 1000 ∧ q < 1000 then (0 : Int) else 6) = z) : (z == 0) = (decide ((p : Int) < 1000) && decide ((q : Int) < 1000)) ∧ ((z == 0) = false → (z == 6) = true) := by
  subst hz
  by_cases h1 : p < 1000 <;> by_cases h2 : q < 1000 <;> simp [h1, h2] <;> omega
theorem mod_u16 (p : Nat) : ((p : Int).tmod 1100) = ((p % 1100 : Nat) : Int) := by rw [Int.tmod_eq_emod_of_nonneg (by omega)]; omega
set_option maxRecDepth 100000 in
theorem rationalParse_walk  (l : List UInt8) (p q : Nat) (w : World)  (hB0 : Bas w) (hp : p < 65536) (hq : q < 65536) :
    Calls Tryz.prog 3 #[.string ⟨l.toArray⟩, .agg #[.int .u16 (p : Int), .int .u16 (q : Int)]] w fun e w' => e = .returned (.bool true) ∧ Below w.heap.size w w' := by
  have hK : KS w [] w := (KS.start w)
  refine Calls.hide (fun Q0 hQ0 => ?_)
  go_enter Tryz.func3, Tryz.ntmps3
  go_upto_region 0 with (fail)
  refine wp_region_tx w hK ?_
  clear hK
  apply txA (.cells #[.int .u16 (p : Int), .int .u16 (q : Int)] 23) (wants0 rfl)
  · intro w' hK; go_simp; rfl
  intro R1 q_R1
  clear q_R1
  simp only [mkOf, Act.put, pA, pB, pC]
  apply txF (wants0 rfl); (· intro w' hK; go_simp; (try go_bits); exact ⟨rfl, rfl⟩); simp only [Act.put, pA, pB, pC]
  refine txEnd (fun W2 hK => ?_)
  go_upto_region 1 with (fail)
  refine wp_region_tx w hK ?_
  clear hK
  apply txH (v := .bool true) (wants0 rfl)
  · intro v1 hv1 w' hK; go_simp; (try go_bits); refine (awake_q   w' (hB0.below hK.old) ).mono ?_; rintro e w5 ⟨rfl, hb⟩; obtain rfl := hv1.out; exact ⟨_, rfl, rfl, hb⟩
  simp only [Act.put, pA, pB, pC]
  apply txF (wants0 rfl); (· intro w' hK; go_simp; (try go_bits); exact ⟨rfl, rfl⟩); simp only [Act.put, pA, pB, pC]
  refine txEnd (fun W3 hK => ?_)
  go_upto_region 3 with (fail)
  refine wp_region_tx w hK ?_
  clear hK
  iterate 2 (apply txF (wants0 rfl); (· intro w' hK; go_simp; (try go_bits); exact ⟨rfl, rfl⟩); simp only [Act.put, pA, pB, pC])
  obtain ⟨b1, hb1⟩ : ∃ b : Bool, RowKit.Hid (decide (100 < ((l.length : Int))) = b) := ⟨_, hid rfl⟩
  apply txB b1 (wants0 rfl); (· intro w' hK; go_simp; (try go_bits); exact ⟨by have q := hb1.out; subst q; first | rfl | simp, rfl⟩); simp only [Act.put, pA, pB, pC]
  refine txEnd (fun W4 hK => ?_)
  cases b1
  · --
   have hl : l.length ≤ 100 := by have := hb1.out; simp at this; omega
   go_upto_region 5 with (fail)
   refine wp_region_tx w hK ?_
   clear hK
   apply txF (wants0 rfl); (· intro w' hK; go_simp; (try go_bits); exact ⟨rfl, rfl⟩); simp only [Act.put, pA, pB, pC]
   obtain ⟨z1, hz1⟩ : ∃ b : Int, RowKit.Hid ((errQ l) = b) := ⟨_, hid rfl⟩
   apply txE (α := Duo Sl Sl) (fun sv => .tuple #[.agg #[.bool (isN (valQ l)), .slice sv.a.p sv.a.l sv.a.c, .slice sv.b.p sv.b.l sv.b.c], .int .i64 z1]) (fun sv => [fun w => RatV w (.agg #[.bool (isN (valQ l)), .slice sv.a.p sv.a.l sv.a.c, .slice sv.b.p sv.b.l sv.b.c]) (valQ l), fun w => NatV w (.agg #[.slice sv.a.p sv.a.l sv.a.c]) ((valQ l).num.natAbs), fun w => NatV w (.agg #[.slice sv.b.p sv.b.l sv.b.c]) (den0 (valQ l))]) (wants0 rfl)
   · intro f1 l1 hl1 w' hK; go_simp; (try go_bits); refine (qparse_q  l w' (hB0.below hK.old) (by omega)).mono ?_; rintro e w5 ⟨y0, rfl, u0, hb⟩; obtain ⟨rfl, rfl⟩ := hl1.out; have u0_0 := u0; obtain ⟨p_u0, l_u0, c_u0, q_u0, m_u0, d_u0, rfl, u0_1, u0_2⟩ := u0; exact ⟨_, rfl, (⟨⟨p_u0, l_u0, c_u0⟩, ⟨q_u0, m_u0, d_u0⟩⟩ : Duo Sl Sl), (by rw [hz1.out]), hb, .cons (fun w2 h2 => u0_0.below h2) (.cons (fun w2 h2 => u0_1.below h2) (.cons (fun w2 h2 => u0_2.below h2) (Lasts.nil _)))⟩
   intro sv5
   simp only [Act.put, pA, pB, pC, pD, pE]
   iterate 3 (apply txF (wants0 rfl); (· intro w' hK; go_simp; (try go_bits); exact ⟨rfl, rfl⟩); simp only [Act.put, pA, pB, pC])
   apply txA (.cells #[.bool false, .slice none 0 0, .slice none 0 0] 29) (wants0 rfl)
   · intro w' hK; go_simp; rfl
   intro R6 q_R6
   have o_R1_R6 : R1 < R6 := q_R6 _ _ _ m3
   clear q_R6
   simp only [mkOf, Act.put, pA, pB, pC]
   apply txU 0 (Has w.heap.size R6 (.cells #[.bool (isN (valQ l)), .slice sv5.a.p sv5.a.l sv5.a.c, .slice sv5.b.p sv5.b.l sv5.b.c] 29)) (wants0 rfl)
   · intro l1 hl1 w' hK; have k_R6 := (hK.get m0); have ⟨c_R6_0, c_R6_1, c_R6_2⟩ := k_R6.c3; have f_R6 := k_R6.fz; have ni := noInt_of k_R6 nofun; go_simp; obtain rfl := hl1.out; exact ⟨rfl, ks_put (R := R6) hK k_R6.1 0 [.bool (isN (valQ l)), .slice sv5.a.p sv5.a.l sv5.a.c, .slice sv5.b.p sv5.b.l sv5.b.c] (al1 (fun _ => has_put k_R6 _ _) (al1 (spQ ni (hK.get m1)) (al1 (spN ni (hK.get m2)) (al1 (spN ni (hK.get m3)) (al1 (spL o_R1_R6 (hK.get m4)) aN)))))⟩
   simp only [Act.put, pB]
   apply txF (wants0 rfl); (· intro w' hK; go_simp; (try go_bits); exact ⟨rfl, rfl⟩); simp only [Act.put, pA, pB, pC]
   refine txEnd (fun W7 hK => ?_)
   go_upto_region 6 with (fail)
   refine wp_region_tx w hK ?_
   clear hK
   apply txF (wants0 rfl); (· intro w' hK; go_simp; (try go_bits); exact ⟨rfl, rfl⟩); simp only [Act.put, pA, pB, pC]
   obtain ⟨z2, hz2⟩ : ∃ b : Int, RowKit.Hid ((errQ l) = b) := ⟨_, hid rfl⟩
   apply txE (α := Duo Sl Sl) (fun sv => .tuple #[.agg #[.bool (isN (valQ l)), .slice sv.a.p (digs B6 (numQ (valQ l))).length sv.a.c, .slice sv.b.p (digs B6 (den0 (valQ l))).length sv.b.c], .int .i64 z2]) (fun sv => [fun w => RefR w (.agg #[.bool (isN (valQ l)), .slice sv.a.p (digs B6 (numQ (valQ l))).length sv.a.c, .slice sv.b.p (digs B6 (den0 (valQ l))).length sv.b.c]) (valQ l), fun w => RefV w (.slice sv.a.p (digs B6 (numQ (valQ l))).length sv.a.c) (numQ (valQ l)), fun w => RefV w (.slice sv.b.p (digs B6 (den0 (valQ l))).length sv.b.c) (den0 (valQ l))]) (wants0 rfl)
   · intro f1 l1 hl1 w' hK; go_simp; (try go_bits); refine (qparse_r  l w'  (by omega)).mono ?_; rintro e w5 ⟨y0, rfl, u0, hb⟩; obtain ⟨rfl, rfl⟩ := hl1.out; have u0_0 := u0; obtain ⟨p_u0, c_u0, q_u0, d_u0, rfl, u0_1, u0_2⟩ := u0.slr; exact ⟨_, rfl, (⟨⟨p_u0, 0, c_u0⟩, ⟨q_u0, 0, d_u0⟩⟩ : Duo Sl Sl), (by rw [hz2.out]), hb, .cons (fun w2 h2 => u0_0.below h2) (.cons (fun w2 h2 => u0_1.below h2) (.cons (fun w2 h2 => u0_2.below h2) (Lasts.nil _)))⟩
   intro sv8
   simp only [Act.put, pA, pB, pC, pD, pE]
   iterate 3 (apply txF (wants0 rfl); (· intro w' hK; go_simp; (try go_bits); exact ⟨rfl, rfl⟩); simp only [Act.put, pA, pB, pC])
   apply txA (.cells #[.bool false, .slice none 0 0, .slice none 0 0] 36) (wants0 rfl)
   · intro w' hK; go_simp; rfl
   intro R9 q_R9
   have o_R1_R9 : R1 < R9 := q_R9 _ _ _ m7
   have o_R6_R9 : R6 < R9 := q_R9 _ _ _ m3
   clear q_R9
   simp only [mkOf, Act.put, pA, pB, pC]
   apply txU 0 (Has w.heap.size R9 (.cells #[.bool (isN (valQ l)), .slice sv8.a.p (digs B6 (numQ (valQ l))).length sv8.a.c, .slice sv8.b.p (digs B6 (den0 (valQ l))).length sv8.b.c] 36)) (wants0 rfl)
   · intro l1 hl1 w' hK; have k_R9 := (hK.get m0); have ⟨c_R9_0, c_R9_1, c_R9_2⟩ := k_R9.c3; have f_R9 := k_R9.fz; have ni := noInt_of k_R9 nofun; go_simp; obtain rfl := hl1.out; exact ⟨rfl, ks_put (R := R9) hK k_R9.1 0 [.bool (isN (valQ l)), .slice sv8.a.p (digs B6 (numQ (valQ l))).length sv8.a.c, .slice sv8.b.p (digs B6 (den0 (valQ l))).length sv8.b.c] (al1 (fun _ => has_put k_R9 _ _) (al1 (spS ni (hK.get m1)) (al1 (spR ni (hK.get m2)) (al1 (spR ni (hK.get m3)) (al1 (spL o_R6_R9 (hK.get m4)) (al1 (spQ ni (hK.get m5)) (al1 (spN ni (hK.get m6)) (al1 (spN ni (hK.get m7)) (al1 (spL o_R1_R9 (hK.get m8)) aN)))))))))⟩
   simp only [Act.put, pB]
   apply txF (wants0 rfl); (· intro w' hK; go_simp; (try go_bits); exact ⟨rfl, rfl⟩); simp only [Act.put, pA, pB, pC]
   refine txEnd (fun W10 hK => ?_)
   go_upto_region 7 with (fail)
   refine wp_region_tx w hK ?_
   clear hK
   iterate 2 (apply txF (wants0 rfl); (· intro w' hK; go_simp; (try go_bits); exact ⟨rfl, rfl⟩); simp only [Act.put, pA, pB, pC])
   apply txF (v := .bool false) (wants0 rfl); (· intro w' hK; go_simp; (try go_bits); exact ⟨congrArg Value.bool (by rw [← hz1.out, ← hz2.out]; simp), rfl⟩); simp only [Act.put, pA, pB, pC]
   apply txF (wants0 rfl); (· intro w' hK; go_simp; (try go_bits); exact ⟨rfl, rfl⟩); simp only [Act.put, pA, pB, pC]
   apply txF (wantsg (j := 3) (d := 31) (b := false) rfl rfl rfl rfl); (· intro w' hK; have k_R6 := (hK.get m4); have ⟨c_R6_0, c_R6_1, c_R6_2⟩ := k_R6.c3; go_simp; (try go_bits); exact ⟨rfl, rfl⟩); simp only [Act.put, pA, pB, pC]
   apply txF (wantsg (j := 3) (d := 31) (b := false) rfl rfl rfl rfl); (· intro w' hK; have k_R9 := (hK.get m0); have ⟨c_R9_0, c_R9_1, c_R9_2⟩ := k_R9.c3; go_simp; (try go_bits); exact ⟨rfl, rfl⟩); simp only [Act.put, pA, pB, pC]
   apply txH (v := .bool true) (wantsg (j := 3) (d := 31) (b := false) rfl rfl rfl rfl)
   · intro v1 hv1 w' hK; go_simp; (try go_bits); refine (is_q (.agg #[.bool (isN (valQ l)), .slice sv5.a.p sv5.a.l sv5.a.c, .slice sv5.b.p sv5.b.l sv5.b.c]) (.agg #[.bool (isN (valQ l)), .slice sv8.a.p (digs B6 (numQ (valQ l))).length sv8.a.c, .slice sv8.b.p (digs B6 (den0 (valQ l))).length sv8.b.c]) (valQ l) (valQ l) w' (hK.get m5) (hK.get m1) (hB0.below hK.old) (LmQ.up (b := 50) (valQ_lm hl) (by decide)) (LmQ.up (b := 50) (valQ_lm hl) (by decide)) rfl).mono ?_; rintro e w5 ⟨rfl, hb⟩; obtain rfl := hv1.out; exact ⟨_, rfl, rfl, hb⟩
   simp only [Act.put, pA, pB, pC]
   apply txF (wantsg (j := 3) (d := 31) (b := false) rfl rfl rfl rfl); (· intro w' hK; go_simp; (try go_bits); exact ⟨rfl, rfl⟩); simp only [Act.put, pA, pB, pC]
   apply txF (wants0 rfl); (· intro w' hK; go_simp; (try go_bits); exact ⟨rfl, rfl⟩); simp only [Act.put, pA, pB, pC]
   refine txEnd (fun W11 hK => ?_)
   go_upto_region 9 with (fail)
   have hK0 := hK
   refine wp_region_float0 (w) _ _ [0, 0, 0, 0, 0, 0, 0, 0, 0, 0] (by kernel_rfl) (by kernel_rfl) (by kernel_rfl) (by kernel_rfl) (KS.drew hK0) (KS.drew hK) ?_
   clear hK hK0
   apply lxF0 (wants0 rfl); (· intro w' h0; go_simp; (try go_bits); exact ⟨rfl, rfl⟩); simp only [Act.put, pA, pB, pC]
   apply lxF0 (wants0 rfl); (· intro w' h0; have k_R1 := (h0.get m8); have c_R1_0 := k_R1.at 0 rfl; go_simp; (try go_bits); exact ⟨rfl, rfl⟩); simp only [Act.put, pA, pB, pC]
   apply lxF0 (v := .int .u16 ((p % 1100 : Nat) : Int)) (wants0 rfl); (· intro w' h0; go_simp; (try go_bits); exact ⟨congrArg _ (mod_u16 p), rfl⟩); simp only [Act.put, pA, pB, pC]
   apply lxF0 (v := .int .i64 ((p % 1100 : Nat) : Int)) (wants0 rfl); (· intro w' h0; go_simp; (try go_bits); exact ⟨rfl, rfl⟩); simp only [Act.put, pA, pB, pC]
   apply lxF0 (wants0 rfl); (· intro w' h0; go_simp; (try go_bits); exact ⟨rfl, rfl⟩); simp only [Act.put, pA, pB, pC]
   apply lxF0 (wants0 rfl); (· intro w' h0; have k_R1 := (h0.get m8); have c_R1_1 := k_R1.at 1 rfl; go_simp; (try go_bits); exact ⟨rfl, rfl⟩); simp only [Act.put, pA, pB, pC]
   apply lxF0 (v := .int .u16 ((q % 1100 : Nat) : Int)) (wants0 rfl); (· intro w' h0; go_simp; (try go_bits); exact ⟨congrArg _ (mod_u16 q), rfl⟩); simp only [Act.put, pA, pB, pC]
   apply lxF0 (v := .int .i64 ((q % 1100 : Nat) : Int)) (wants0 rfl); (· intro w' h0; go_simp; (try go_bits); exact ⟨rfl, rfl⟩); simp only [Act.put, pA, pB, pC]
   iterate 2 (apply lxF0 (wants0 rfl); (· intro w' h0; go_simp; (try go_bits); exact ⟨rfl, rfl⟩); simp only [Act.put, pA, pB, pC])
   refine lxEnd (fun W12 hK => ?_)
   have pm : p % 1100 < 1100 := Nat.mod_lt _ (by decide)
   have qm : q % 1100 < 1100 := Nat.mod_lt _ (by decide)
   have zl1 : (zr (p % 1100)).length ≤ 1100 := by rw [zr_len]; omega
   have zl2 : (zr (q % 1100)).length ≤ 1100 := by rw [zr_len]; omega
   have zl3 : (za (p % 1100)).length ≤ 1101 := by rw [za_len]; omega
   have zl4 : (zb (p % 1100)).length ≤ 1103 := by rw [zb_len]; omega
   go_upto_region 10 with (fail)
   refine wp_region_tx w hK ?_
   clear hK
   apply txF (wants0 rfl); (· intro w' hK; go_simp; (try go_bits); exact ⟨rfl, rfl⟩); simp only [Act.put, pA, pB, pC]
   apply txH (v := .string ⟨(zr ((p % 1100 : Nat))).toArray⟩) (wants0 rfl)
   · intro v1 hv1 w' hK; go_simp; (try go_bits); refine (zeros_q  ((p % 1100 : Nat)) w'  (by omega)).mono ?_; rintro e w5 ⟨rfl, hb⟩; obtain rfl := hv1.out; exact ⟨_, rfl, rfl, hb⟩
   simp only [Act.put, pA, pB, pC]
   apply txF (v := .string ⟨(za (p % 1100)).toArray⟩) (wants0 rfl); (· intro w' hK; go_simp; (try go_bits); rw [if_neg (by omega)]; exact ⟨congrArg Value.string (za_add _), rfl⟩); simp only [Act.put, pA, pB, pC]
   apply txF (v := .string ⟨(zb (p % 1100)).toArray⟩) (wants0 rfl); (· intro w' hK; go_simp; (try go_bits); rw [if_neg (by omega)]; exact ⟨congrArg Value.string (zb_add _), rfl⟩); simp only [Act.put, pA, pB, pC]
   apply txF (wants0 rfl); (· intro w' hK; go_simp; (try go_bits); exact ⟨rfl, rfl⟩); simp only [Act.put, pA, pB, pC]
   apply txH (v := .string ⟨(zr ((q % 1100 : Nat))).toArray⟩) (wants0 rfl)
   · intro v1 hv1 w' hK; go_simp; (try go_bits); refine (zeros_q  ((q % 1100 : Nat)) w'  (by omega)).mono ?_; rintro e w5 ⟨rfl, hb⟩; obtain rfl := hv1.out; exact ⟨_, rfl, rfl, hb⟩
   simp only [Act.put, pA, pB, pC]
   apply txF (v := .string ⟨(zz (p % 1100) (q % 1100)).toArray⟩) (wants0 rfl); (· intro w' hK; go_simp; (try go_bits); rw [if_neg (by omega)]; exact ⟨congrArg Value.string (zz_add _ _), rfl⟩); simp only [Act.put, pA, pB, pC]
   obtain ⟨z3, hz3⟩ : ∃ b : Int, RowKit.Hid ((if p % 1100 < 1000 ∧ q % 1100 < 1000 then 0 else 6) = b) := ⟨_, hid rfl⟩
   apply txE (α := Duo Sl Sl) (fun sv => .tuple #[.agg #[.bool (isN (valQ (zz (p % 1100) (q % 1100)))), .slice sv.a.p sv.a.l sv.a.c, .slice sv.b.p sv.b.l sv.b.c], .int .i64 z3]) (fun sv => [fun w => RatV w (.agg #[.bool (isN (valQ (zz (p % 1100) (q % 1100)))), .slice sv.a.p sv.a.l sv.a.c, .slice sv.b.p sv.b.l sv.b.c]) (valQ (zz (p % 1100) (q % 1100))), fun w => NatV w (.agg #[.slice sv.a.p sv.a.l sv.a.c]) ((valQ (zz (p % 1100) (q % 1100))).num.natAbs), fun w => NatV w (.agg #[.slice sv.b.p sv.b.l sv.b.c]) (den0 (valQ (zz (p % 1100) (q % 1100))))]) (wants0 rfl)
   · intro f1 l1 hl1 w' hK; go_simp; (try go_bits); refine (qparse_zz (p % 1100) (q % 1100) w' (hB0.below hK.old) (by omega) (by omega)).mono ?_; rintro e w5 ⟨y0, rfl, u0, hb⟩; obtain ⟨rfl, rfl⟩ := hl1.out; have u0_0 := u0; obtain ⟨p_u0, l_u0, c_u0, q_u0, m_u0, d_u0, rfl, u0_1, u0_2⟩ := u0; exact ⟨_, rfl, (⟨⟨p_u0, l_u0, c_u0⟩, ⟨q_u0, m_u0, d_u0⟩⟩ : Duo Sl Sl), (by rw [hz3.out]), hb, .cons (fun w2 h2 => u0_0.below h2) (.cons (fun w2 h2 => u0_1.below h2) (.cons (fun w2 h2 => u0_2.below h2) (Lasts.nil _)))⟩
   intro sv13
   simp only [Act.put, pA, pB, pC, pD, pE]
   iterate 3 (apply txF (wants0 rfl); (· intro w' hK; go_simp; (try go_bits); exact ⟨rfl, rfl⟩); simp only [Act.put, pA, pB, pC])
   apply txA (.cells #[.bool false, .slice none 0 0, .slice none 0 0] 29) (wants0 rfl)
   · intro w' hK; go_simp; rfl
   intro R14 q_R14
   have o_R1_R14 : R1 < R14 := q_R14 _ _ _ m11
   have o_R6_R14 : R6 < R14 := q_R14 _ _ _ m7
   have o_R9_R14 : R9 < R14 := q_R14 _ _ _ m3
   clear q_R14
   simp only [mkOf, Act.put, pA, pB, pC]
   apply txU 0 (Has w.heap.size R14 (.cells #[.bool (isN (valQ (zz (p % 1100) (q % 1100)))), .slice sv13.a.p sv13.a.l sv13.a.c, .slice sv13.b.p sv13.b.l sv13.b.c] 29)) (wants0 rfl)
   · intro l1 hl1 w' hK; have k_R14 := (hK.get m0); have ⟨c_R14_0, c_R14_1, c_R14_2⟩ := k_R14.c3; have f_R14 := k_R14.fz; have ni := noInt_of k_R14 nofun; go_simp; obtain rfl := hl1.out; exact ⟨rfl, ks_put (R := R14) hK k_R14.1 0 [.bool (isN (valQ (zz (p % 1100) (q % 1100)))), .slice sv13.a.p sv13.a.l sv13.a.c, .slice sv13.b.p sv13.b.l sv13.b.c] (al1 (fun _ => has_put k_R14 _ _) (al1 (spQ ni (hK.get m1)) (al1 (spN ni (hK.get m2)) (al1 (spN ni (hK.get m3)) (al1 (spL o_R9_R14 (hK.get m4)) (al1 (spS ni (hK.get m5)) (al1 (spR ni (hK.get m6)) (al1 (spR ni (hK.get m7)) (al1 (spL o_R6_R14 (hK.get m8)) (al1 (spQ ni (hK.get m9)) (al1 (spN ni (hK.get m10)) (al1 (spN ni (hK.get m11)) (al1 (spL o_R1_R14 (hK.get m12)) aN)))))))))))))⟩
   simp only [Act.put, pB]
   apply txF (wants0 rfl); (· intro w' hK; go_simp; (try go_bits); exact ⟨rfl, rfl⟩); simp only [Act.put, pA, pB, pC]
   refine txEnd (fun W15 hK => ?_)
   go_upto_region 11 with (fail)
   refine wp_region_tx w hK ?_
   clear hK
   apply txF (wants0 rfl); (· intro w' hK; go_simp; (try go_bits); exact ⟨rfl, rfl⟩); simp only [Act.put, pA, pB, pC]
   obtain ⟨b2, hb2⟩ : ∃ b : Bool, RowKit.Hid ((z3 == 0) = b) := ⟨_, hid rfl⟩
   apply txB b2 (wants0 rfl); (· intro w' hK; go_simp; (try go_bits); exact ⟨by have q := hb2.out; subst q; first | rfl | simp, rfl⟩); simp only [Act.put, pA, pB, pC]
   apply txF (wants0 rfl); (· intro w' hK; go_simp; (try go_bits); exact ⟨rfl, rfl⟩); simp only [Act.put, pA, pB, pC]
   obtain ⟨b3, hb3⟩ : ∃ b : Bool, RowKit.Hid (decide ((((p % 1100 : Nat) : Int)) < 1000) = b) := ⟨_, hid rfl⟩
   apply txB b3 (wants0 rfl); (· intro w' hK; go_simp; (try go_bits); exact ⟨by have q := hb3.out; subst q; first | rfl | simp, rfl⟩); simp only [Act.put, pA, pB, pC]
   apply txF (wants0 rfl); (· intro w' hK; go_simp; (try go_bits); exact ⟨rfl, rfl⟩); simp only [Act.put, pA, pB, pC]
   cases b3
   · --
    iterate 2 (apply txN (j := 4) (d := 60) (b := true) rfl rfl rfl rfl; simp only [Act.put, pA, pB, pC])
    apply txF (wants0 rfl); (· intro w' hK; go_simp; (try go_bits); exact ⟨rfl, rfl⟩); simp only [Act.put, pA, pB, pC]
    obtain ⟨b4, hb4⟩ : ∃ b : Bool, RowKit.Hid ((b2 == false) = b) := ⟨_, hid rfl⟩
    apply txB b4 (wants0 rfl); (· intro w' hK; go_simp; (try go_bits); exact ⟨by have q := hb4.out; subst q; first | rfl | simp, rfl⟩); simp only [Act.put, pA, pB, pC]
    apply txF (wants0 rfl); (· intro w' hK; go_simp; (try go_bits); exact ⟨rfl, rfl⟩); simp only [Act.put, pA, pB, pC]
    cases b4
    · --
     iterate 3 (apply txN (j := 9) (d := 65) (b := true) rfl rfl rfl rfl; simp only [Act.put, pA, pB, pC])
     iterate 2 (apply txN' (j := 12) (d := 68) (b := false) rfl rfl rfl; simp only [Act.put, pA, pB, pC])
     apply txN (j := 9) (d := 65) (b := true) rfl rfl rfl rfl; simp only [Act.put, pA, pB, pC]
     iterate 2 (apply txF (wants0 rfl); (· intro w' hK; go_simp; (try go_bits); exact ⟨rfl, rfl⟩); simp only [Act.put, pA, pB, pC])
     refine txEnd (fun W16 hK => ?_)
     go_wp2
     try go_ret
     show Q0 (.returned (.bool false)) _
     exact (by exfalso; have c1 := (zcon hz3.out).1; rw [hb2.out, hb3.out] at c1; have f := hb4.out; rw [c1] at f; simp at f)
    · --
     apply txF (wantsg (j := 9) (d := 65) (b := true) rfl rfl rfl rfl); (· intro w' hK; go_simp; (try go_bits); exact ⟨rfl, rfl⟩); simp only [Act.put, pA, pB, pC]
     obtain ⟨b5, hb5⟩ : ∃ b : Bool, RowKit.Hid ((z3 == 0) = b) := ⟨_, hid rfl⟩
     apply txB b5 (wantsg (j := 9) (d := 65) (b := true) rfl rfl rfl rfl); (· intro w' hK; go_simp; (try go_bits); exact ⟨by have q := hb5.out; subst q; first | rfl | simp, rfl⟩); simp only [Act.put, pA, pB, pC]
     apply txF (wantsg (j := 9) (d := 65) (b := true) rfl rfl rfl rfl); (· intro w' hK; go_simp; (try go_bits); exact ⟨rfl, rfl⟩); simp only [Act.put, pA, pB, pC]
     cases b5
     · --
      apply txF (wantsg (j := 12) (d := 68) (b := false) rfl rfl rfl rfl); (· intro w' hK; go_simp; (try go_bits); exact ⟨rfl, rfl⟩); simp only [Act.put, pA, pB, pC]
      obtain ⟨b6, hb6⟩ : ∃ b : Bool, RowKit.Hid ((z3 == 6) = b) := ⟨_, hid rfl⟩
      apply txB b6 (wantsg (j := 12) (d := 68) (b := false) rfl rfl rfl rfl); (· intro w' hK; go_simp; (try go_bits); exact ⟨by have q := hb6.out; subst q; first | rfl | simp, rfl⟩); simp only [Act.put, pA, pB, pC]
      apply txF (wantsg (j := 9) (d := 65) (b := true) rfl rfl rfl rfl); (· intro w' hK; go_simp; (try go_bits); exact ⟨rfl, rfl⟩); simp only [Act.put, pA, pB, pC]
      iterate 2 (apply txF (wants0 rfl); (· intro w' hK; go_simp; (try go_bits); exact ⟨rfl, rfl⟩); simp only [Act.put, pA, pB, pC])
      refine txEnd (fun W17 hK => ?_)
      go_wp2
      try go_ret
      show Q0 (.returned (.bool b6)) _
      exact (by have c := (zcon hz3.out).2 hb5.out; rw [hb6.out] at c; subst c; obtain rfl := hQ0.out; exact ⟨rfl, hK.old⟩)
     · --
      iterate 2 (apply txN (j := 12) (d := 68) (b := false) rfl rfl rfl rfl; simp only [Act.put, pA, pB, pC])
      apply txF (wantsg (j := 9) (d := 65) (b := true) rfl rfl rfl rfl); (· intro w' hK; go_simp; (try go_bits); exact ⟨rfl, rfl⟩); simp only [Act.put, pA, pB, pC]
      iterate 2 (apply txF (wants0 rfl); (· intro w' hK; go_simp; (try go_bits); exact ⟨rfl, rfl⟩); simp only [Act.put, pA, pB, pC])
      refine txEnd (fun W18 hK => ?_)
      go_wp2
      try go_ret
      show Q0 (.returned (.bool true)) _
      exact (by obtain rfl := hQ0.out; exact ⟨rfl, hK.old⟩)
   · --
    apply txF (wantsg (j := 4) (d := 60) (b := true) rfl rfl rfl rfl); (· intro w' hK; go_simp; (try go_bits); exact ⟨rfl, rfl⟩); simp only [Act.put, pA, pB, pC]
    obtain ⟨b4, hb4⟩ : ∃ b : Bool, RowKit.Hid (decide ((((q % 1100 : Nat) : Int)) < 1000) = b) := ⟨_, hid rfl⟩
    apply txB b4 (wantsg (j := 4) (d := 60) (b := true) rfl rfl rfl rfl); (· intro w' hK; go_simp; (try go_bits); exact ⟨by have q := hb4.out; subst q; first | rfl | simp, rfl⟩); simp only [Act.put, pA, pB, pC]
    apply txF (wants0 rfl); (· intro w' hK; go_simp; (try go_bits); exact ⟨rfl, rfl⟩); simp only [Act.put, pA, pB, pC]
    obtain ⟨b5, hb5⟩ : ∃ b : Bool, RowKit.Hid ((b2 == b4) = b) := ⟨_, hid rfl⟩
    apply txB b5 (wants0 rfl); (· intro w' hK; go_simp; (try go_bits); exact ⟨by have q := hb5.out; subst q; first | rfl | simp, rfl⟩); simp only [Act.put, pA, pB, pC]
    apply txF (wants0 rfl); (· intro w' hK; go_simp; (try go_bits); exact ⟨rfl, rfl⟩); simp only [Act.put, pA, pB, pC]
    cases b5
    · --
     iterate 3 (apply txN (j := 9) (d := 65) (b := true) rfl rfl rfl rfl; simp only [Act.put, pA, pB, pC])
     iterate 2 (apply txN' (j := 12) (d := 68) (b := false) rfl rfl rfl; simp only [Act.put, pA, pB, pC])
     apply txN (j := 9) (d := 65) (b := true) rfl rfl rfl rfl; simp only [Act.put, pA, pB, pC]
     iterate 2 (apply txF (wants0 rfl); (· intro w' hK; go_simp; (try go_bits); exact ⟨rfl, rfl⟩); simp only [Act.put, pA, pB, pC])
     refine txEnd (fun W19 hK => ?_)
     go_wp2
     try go_ret
     show Q0 (.returned (.bool false)) _
     exact (by exfalso; have c1 := (zcon hz3.out).1; rw [hb2.out, hb3.out, hb4.out] at c1; have f := hb5.out; rw [c1] at f; simp at f)
    · --
     apply txF (wantsg (j := 9) (d := 65) (b := true) rfl rfl rfl rfl); (· intro w' hK; go_simp; (try go_bits); exact ⟨rfl, rfl⟩); simp only [Act.put, pA, pB, pC]
     obtain ⟨b6, hb6⟩ : ∃ b : Bool, RowKit.Hid ((z3 == 0) = b) := ⟨_, hid rfl⟩
     apply txB b6 (wantsg (j := 9) (d := 65) (b := true) rfl rfl rfl rfl); (· intro w' hK; go_simp; (try go_bits); exact ⟨by have q := hb6.out; subst q; first | rfl | simp, rfl⟩); simp only [Act.put, pA, pB, pC]
     apply txF (wantsg (j := 9) (d := 65) (b := true) rfl rfl rfl rfl); (· intro w' hK; go_simp; (try go_bits); exact ⟨rfl, rfl⟩); simp only [Act.put, pA, pB, pC]
     cases b6
     · --
      apply txF (wantsg (j := 12) (d := 68) (b := false) rfl rfl rfl rfl); (· intro w' hK; go_simp; (try go_bits); exact ⟨rfl, rfl⟩); simp only [Act.put, pA, pB, pC]
      obtain ⟨b7, hb7⟩ : ∃ b : Bool, RowKit.Hid ((z3 == 6) = b) := ⟨_, hid rfl⟩
      apply txB b7 (wantsg (j := 12) (d := 68) (b := false) rfl rfl rfl rfl); (· intro w' hK; go_simp; (try go_bits); exact ⟨by have q := hb7.out; subst q; first | rfl | simp, rfl⟩); simp only [Act.put, pA, pB, pC]
      apply txF (wantsg (j := 9) (d := 65) (b := true) rfl rfl rfl rfl); (· intro w' hK; go_simp; (try go_bits); exact ⟨rfl, rfl⟩); simp only [Act.put, pA, pB, pC]
      iterate 2 (apply txF (wants0 rfl); (· intro w' hK; go_simp; (try go_bits); exact ⟨rfl, rfl⟩); simp only [Act.put, pA, pB, pC])
      refine txEnd (fun W20 hK => ?_)
      go_wp2
      try go_ret
      show Q0 (.returned (.bool b7)) _
      exact (by have c := (zcon hz3.out).2 hb6.out; rw [hb7.out] at c; subst c; obtain rfl := hQ0.out; exact ⟨rfl, hK.old⟩)
     · --
      iterate 2 (apply txN (j := 12) (d := 68) (b := false) rfl rfl rfl rfl; simp only [Act.put, pA, pB, pC])
      apply txF (wantsg (j := 9) (d := 65) (b := true) rfl rfl rfl rfl); (· intro w' hK; go_simp; (try go_bits); exact ⟨rfl, rfl⟩); simp only [Act.put, pA, pB, pC]
      iterate 2 (apply txF (wants0 rfl); (· intro w' hK; go_simp; (try go_bits); exact ⟨rfl, rfl⟩); simp only [Act.put, pA, pB, pC])
      refine txEnd (fun W21 hK => ?_)
      go_wp2
      try go_ret
      show Q0 (.returned (.bool true)) _
      exact (by obtain rfl := hQ0.out; exact ⟨rfl, hK.old⟩)
  · --
   go_wp2
   try go_ret
   show Q0 (.returned (.bool true)) _
   exact (by obtain rfl := hQ0.out; exact ⟨rfl, hK.old⟩)
end Go.Proofs.YtiilkcdefpmimaaGreatDoor
