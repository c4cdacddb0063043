/- The reference reads rational numbers. -/
import Derived.Test.YtiilkcdefpmimaaGreatDoorRatH
namespace Go.Proofs.YtiilkcdefpmimaaGreatDoor
open Go.RowKit
open Go.Lib (decDigits)
theorem rcut_q (l : List UInt8) (w : World) (hl : l.length ≤ 1000000) :
    Calls Tryz.prog 54 #[.string ⟨l.toArray⟩] w fun e w' => e = .returned (.tuple #[.string ⟨(cutA l).toArray⟩, .string ⟨((cutB l).getD []).toArray⟩, .bool (cutB l).isSome]) ∧ Below w.heap.size w w' := rcut_any ⟨l.toArray⟩ w (by simpa [ByteArray.size] using hl)
theorem secn_t {l n : List UInt8} (hn : noMinus l = n) (h : (cutB n).isSome = true) : (cutB n).getD [] = secQ l := by subst hn; exact sec_t h
theorem secn_f {l n : List UInt8} (hn : noMinus l = n) (h : (cutB n).isSome = false) : [49] = secQ l := by subst hn; exact sec_f h
theorem parse49 : parseVal [49] = 1 ∧ parseErr [49] = 0 := by
  have e : decDigits 1 = [49] := by rw [dec_small (by decide)]; rfl
  have h := parse_dec (n := 1) (by rw [e]; decide)
  rw [e] at h
  exact ⟨h.2, h.1⟩
theorem errn_3 {l n m : List UInt8} {z1 z2 : Int} (hn : noMinus l = n) (hm : m = secQ l) (h1 : parseErr (cutA n) = z1) (h2 : parseErr m = z2) (h : (z1 == 3) = true ∨ (z2 == 3) = true) : errQ l = 3 ∧ valQ l = 0 := by subst hn; exact err_3 hm h1 h2 h
theorem errn_6 {l n m : List UInt8} {z1 z2 : Int} (hn : noMinus l = n) (hm : m = secQ l) (h1 : parseErr (cutA n) = z1) (h2 : parseErr m = z2) (h3 : (z1 == 3) = false) (h4 : (z2 == 3) = false) (h : (z1 != 0) = true ∨ (z2 != 0) = true) : errQ l = 6 ∧ valQ l = 0 := by subst hn; exact err_6 hm h1 h2 h3 h4 h
theorem errn_0 {l n m : List UInt8} {z1 z2 z : Int} {b : Bool} (hb : isMinus l = b) (hn : noMinus l = n) (hm : m = secQ l) (h1 : parseErr (cutA n) = z1) (h2 : parseErr m = z2) (h5 : (z1 != 0) = false) (h6 : (z2 != 0) = false) (hz : (if parseVal m = 0 then (10 : Int) else 0) = z) : errQ l = z ∧ ofS b (parseVal (cutA n)) (parseVal m) = valQ l := by subst hn; subst hb; exact err_0 hm h1 h2 h5 h6 hz
theorem cutB_len0 (l : List UInt8) : ((cutB l).getD []).length ≤ l.length := by
  cases e : cutB l with
  | none => exact Nat.zero_le _
  | some m => exact cutB_len _ m e
set_option maxRecDepth 100000 in
theorem rparseq_nil   (w : World)  (hl : ([] : List UInt8).length ≤ 10000) (hnm : noMinus [] = ([] : List UInt8)) (hmn : isMinus [] = false) :
    Calls Tryz.prog 13 #[.string ⟨([] : List UInt8).toArray⟩] w fun e w' => ∃ y0, e = .returned (.tuple #[y0, .int .i64 (errQ [])]) ∧ RefR w' y0 (valQ []) ∧ Below w.heap.size w w' := by
  have hK : KS w [] w := (KS.start w)
  have e0 : ([] : List UInt8).length ≤ 10000 := by simp
  have e2 := cutA_len ([] : List UInt8)
  have e3 := cutB_len0 ([] : List UInt8)
  have e4 := pv_len6 (cutA ([] : List UInt8))
  have e5 := pv_len6 ((cutB ([] : List UInt8)).getD [])
  have e6 : (digs B6 1).length ≤ 1 := by rw [digs6_1]; exact Nat.le_refl _
  refine Calls.hide (fun Q0 hQ0 => ?_)
  go_enter Tryz.func13, Tryz.ntmps13
  go_upto_region 0 with (fail)
  refine wp_region_tx w hK ?_
  clear hK
  apply txA (.cells #[.bool false, .slice none 0 0, .slice none 0 0] 36) (wants0 rfl)
  · intro w' hK; go_simp; rfl
  intro R1 q_R1
  clear q_R1
  simp only [mkOf, Act.put, pA, pB, pC]
  apply txF (wants0 rfl); (· intro w' hK; go_simp; (try go_bits); exact ⟨rfl, rfl⟩); simp only [Act.put, pA, pB, pC]
  refine txEnd (fun W2 hK => ?_)
  go_upto_region 1 with (fail)
  refine wp_region_tx w hK ?_
  clear hK
  iterate 2 (apply txF (wants0 rfl); (· intro w' hK; go_simp; (try go_bits); exact ⟨rfl, rfl⟩); simp only [Act.put, pA, pB, pC])
  apply txF (v := .bool false) (wants0 rfl); (· intro w' hK; go_simp; (try go_bits); exact ⟨rfl, rfl⟩); simp only [Act.put, pA, pB, pC]
  apply txF (wants0 rfl); (· intro w' hK; go_simp; (try go_bits); exact ⟨rfl, rfl⟩); simp only [Act.put, pA, pB, pC]
  iterate 3 (apply txN (j := 3) (d := 15) (b := true) rfl rfl rfl rfl; simp only [Act.put, pA, pB, pC])
  iterate 2 (apply txF (wants0 rfl); (· intro w' hK; go_simp; (try go_bits); exact ⟨rfl, rfl⟩); simp only [Act.put, pA, pB, pC])
  refine txEnd (fun W3 hK => ?_)
  go_upto_region 4 with (fail)
  refine wp_region_tx w hK ?_
  clear hK
  apply txF (wants0 rfl); (· intro w' hK; go_simp; (try go_bits); exact ⟨rfl, rfl⟩); simp only [Act.put, pA, pB, pC]
  obtain ⟨b1, hb1⟩ : ∃ b : Bool, RowKit.Hid ((cutB ([] : List UInt8)).isSome = b) := ⟨_, hid rfl⟩
  apply txH (v := .tuple #[.string ⟨(cutA ([] : List UInt8)).toArray⟩, .string ⟨((cutB ([] : List UInt8)).getD []).toArray⟩, .bool b1]) (wants0 rfl)
  · intro v1 hv1 w' hK; go_simp; (try go_bits); refine (rcut_q  ([] : List UInt8) w'  (by omega)).mono ?_; rintro e w5 ⟨rfl, hb⟩; obtain rfl := hv1.out; exact ⟨_, rfl, (by rw [hb1.out]), hb⟩
  simp only [Act.put, pA, pB, pC]
  iterate 7 (apply txF (wants0 rfl); (· intro w' hK; go_simp; (try go_bits); exact ⟨rfl, rfl⟩); simp only [Act.put, pA, pB, pC])
  refine txEnd (fun W4 hK => ?_)
  go_upto_region 5 with (fail)
  refine wp_region_tx w hK ?_
  clear hK
  apply txF (wants0 rfl); (· intro w' hK; go_simp; (try go_bits); exact ⟨rfl, rfl⟩); simp only [Act.put, pA, pB, pC]
  obtain ⟨z1, hz1⟩ : ∃ b : Int, RowKit.Hid ((parseErr (cutA ([] : List UInt8))) = b) := ⟨_, hid rfl⟩
  apply txE (α := Sl) (fun sv => .tuple #[.slice sv.p (digs B6 (parseVal (cutA ([] : List UInt8)))).length sv.c, .int .i64 z1]) (fun sv => [fun w => RefV w (.slice sv.p (digs B6 (parseVal (cutA ([] : List UInt8)))).length sv.c) (parseVal (cutA ([] : List UInt8)))]) (wants0 rfl)
  · intro f1 l1 hl1 w' hK; go_simp; (try go_bits); refine (rparse_q0  (cutA ([] : List UInt8)) w'  (by omega)).mono ?_; rintro e w5 ⟨y0, rfl, u0, hb⟩; obtain ⟨rfl, rfl⟩ := hl1.out; obtain ⟨p_u0, c_u0, rfl⟩ := u0.slr; exact ⟨_, rfl, (⟨p_u0, 0, c_u0⟩ : Sl), (by rw [hz1.out]), hb, .cons (fun w2 h2 => u0.below h2) (Lasts.nil _)⟩
  intro sv5
  simp only [Act.put, pA, pB, pC, pD, pE]
  iterate 5 (apply txF (wants0 rfl); (· intro w' hK; go_simp; (try go_bits); exact ⟨rfl, rfl⟩); simp only [Act.put, pA, pB, pC])
  refine txEnd (fun W6 hK => ?_)
  go_upto_region 6 with (fail)
  refine wp_region_tx w hK ?_
  clear hK
  apply txE (α := Sl) (fun sv => .slice sv.p (digs B6 1).length sv.c) (fun sv => [fun w => RefV w (.slice sv.p (digs B6 1).length sv.c) 1]) (wants0 rfl)
  · intro f1 l1 hl1 w' hK; go_simp; (try go_bits); refine (rof_any  1 w'  (by omega)).mono ?_; rintro e w5 ⟨y0, rfl, u0, hb⟩; obtain ⟨rfl, rfl⟩ := hl1.out; obtain ⟨p_u0, c_u0, rfl⟩ := u0.slr; exact ⟨_, rfl, (⟨p_u0, 0, c_u0⟩ : Sl), rfl, hb, .cons (fun w2 h2 => u0.below h2) (Lasts.nil _)⟩
  intro sv7
  simp only [Act.put, pA, pB, pC, pD, pE]
  iterate 2 (apply txF (wants0 rfl); (· intro w' hK; go_simp; (try go_bits); exact ⟨rfl, rfl⟩); simp only [Act.put, pA, pB, pC])
  refine txEnd (fun W8 hK => ?_)
  cases b1
  · --
   go_upto_region 9 with (fail)
   refine wp_region_tx w hK ?_
   clear hK
   apply txF (wants0 rfl); (· intro w' hK; go_simp; (try go_bits); exact ⟨rfl, rfl⟩); simp only [Act.put, pA, pB, pC]
   obtain ⟨b2, hb2⟩ : ∃ b : Bool, RowKit.Hid ((z1 == 3) = b) := ⟨_, hid rfl⟩
   apply txB b2 (wants0 rfl); (· intro w' hK; go_simp; (try go_bits); exact ⟨by have q := hb2.out; subst q; first | rfl | simp, rfl⟩); simp only [Act.put, pA, pB, pC]
   apply txF (wants0 rfl); (· intro w' hK; go_simp; (try go_bits); exact ⟨rfl, rfl⟩); simp only [Act.put, pA, pB, pC]
   cases b2
   · --
    iterate 2 (apply txF (wantsg (j := 2) (d := 44) (b := false) rfl rfl rfl rfl); (· intro w' hK; go_simp; (try go_bits); exact ⟨rfl, rfl⟩); simp only [Act.put, pA, pB, pC])
    iterate 2 (apply txF (wants0 rfl); (· intro w' hK; go_simp; (try go_bits); exact ⟨rfl, rfl⟩); simp only [Act.put, pA, pB, pC])
    refine txEnd (fun W9 hK => ?_)
    go_upto_region 11 with (fail)
    refine wp_region_tx w hK ?_
    clear hK
    apply txF (wants0 rfl); (· intro w' hK; go_simp; (try go_bits); exact ⟨rfl, rfl⟩); simp only [Act.put, pA, pB, pC]
    obtain ⟨b3, hb3⟩ : ∃ b : Bool, RowKit.Hid ((z1 != 0) = b) := ⟨_, hid rfl⟩
    apply txB b3 (wants0 rfl); (· intro w' hK; go_simp; (try go_bits); exact ⟨by have q := hb3.out; subst q; first | rfl | simp, rfl⟩); simp only [Act.put, pA, pB, pC]
    apply txF (wants0 rfl); (· intro w' hK; go_simp; (try go_bits); exact ⟨rfl, rfl⟩); simp only [Act.put, pA, pB, pC]
    cases b3
    · --
     iterate 2 (apply txF (wantsg (j := 2) (d := 52) (b := false) rfl rfl rfl rfl); (· intro w' hK; go_simp; (try go_bits); exact ⟨rfl, rfl⟩); simp only [Act.put, pA, pB, pC])
     iterate 2 (apply txF (wants0 rfl); (· intro w' hK; go_simp; (try go_bits); exact ⟨rfl, rfl⟩); simp only [Act.put, pA, pB, pC])
     refine txEnd (fun W10 hK => ?_)
     go_upto_region 13 with (fail)
     refine wp_region_tx w hK ?_
     clear hK
     iterate 3 (apply txF (wants0 rfl); (· intro w' hK; go_simp; (try go_bits); exact ⟨rfl, rfl⟩); simp only [Act.put, pA, pB, pC])
     obtain ⟨z2, hz2⟩ : ∃ b : Int, RowKit.Hid ((if 1 = 0 then 10 else 0) = b) := ⟨_, hid rfl⟩
     apply txE (α := Duo Sl Sl) (fun sv => .tuple #[.agg #[.bool (isN (ofS false (parseVal (cutA ([] : List UInt8))) 1)), .slice sv.a.p (digs B6 (numQ (ofS false (parseVal (cutA ([] : List UInt8))) 1))).length sv.a.c, .slice sv.b.p (digs B6 (den0 (ofS false (parseVal (cutA ([] : List UInt8))) 1))).length sv.b.c], .int .i64 z2]) (fun sv => [fun w => RefR w (.agg #[.bool (isN (ofS false (parseVal (cutA ([] : List UInt8))) 1)), .slice sv.a.p (digs B6 (numQ (ofS false (parseVal (cutA ([] : List UInt8))) 1))).length sv.a.c, .slice sv.b.p (digs B6 (den0 (ofS false (parseVal (cutA ([] : List UInt8))) 1))).length sv.b.c]) (ofS false (parseVal (cutA ([] : List UInt8))) 1), fun w => RefV w (.slice sv.a.p (digs B6 (numQ (ofS false (parseVal (cutA ([] : List UInt8))) 1))).length sv.a.c) (numQ (ofS false (parseVal (cutA ([] : List UInt8))) 1)), fun w => RefV w (.slice sv.b.p (digs B6 (den0 (ofS false (parseVal (cutA ([] : List UInt8))) 1))).length sv.b.c) (den0 (ofS false (parseVal (cutA ([] : List UInt8))) 1))]) (wants0 rfl)
     · intro f1 l1 hl1 w' hK; go_simp; (try go_bits); refine (rmake_q (.slice sv5.p (digs B6 (parseVal (cutA ([] : List UInt8)))).length sv5.c) (.slice sv7.p (digs B6 1).length sv7.c) false (parseVal (cutA ([] : List UInt8))) 1 w' (hK.get m1) (hK.get m0) (by omega) (by omega)).mono ?_; rintro e w5 ⟨y0, rfl, u0, hb⟩; obtain ⟨rfl, rfl⟩ := hl1.out; have u0_0 := u0; obtain ⟨p_u0, c_u0, q_u0, d_u0, rfl, u0_1, u0_2⟩ := u0.slr; exact ⟨_, rfl, (⟨⟨p_u0, 0, c_u0⟩, ⟨q_u0, 0, d_u0⟩⟩ : Duo Sl Sl), (by rw [hz2.out]), hb, .cons (fun w2 h2 => u0_0.below h2) (.cons (fun w2 h2 => u0_1.below h2) (.cons (fun w2 h2 => u0_2.below h2) (Lasts.nil _)))⟩
     intro sv11
     simp only [Act.put, pA, pB, pC, pD, pE]
     iterate 2 (apply txF (wants0 rfl); (· intro w' hK; go_simp; (try go_bits); exact ⟨rfl, rfl⟩); simp only [Act.put, pA, pB, pC])
     apply txU 5 (Has w.heap.size R1 (.cells #[.bool (isN (ofS false (parseVal (cutA ([] : List UInt8))) 1)), .slice sv11.a.p (digs B6 (numQ (ofS false (parseVal (cutA ([] : List UInt8))) 1))).length sv11.a.c, .slice sv11.b.p (digs B6 (den0 (ofS false (parseVal (cutA ([] : List UInt8))) 1))).length sv11.b.c] 36)) (wants0 rfl)
     · intro l1 hl1 w' hK; have k_R1 := (hK.get m5); have ⟨c_R1_0, c_R1_1, c_R1_2⟩ := k_R1.c3; have f_R1 := k_R1.fz; have ni := noInt_of k_R1 nofun; go_simp; obtain rfl := hl1.out; exact ⟨rfl, ks_put (R := R1) hK k_R1.1 0 [.bool (isN (ofS false (parseVal (cutA ([] : List UInt8))) 1)), .slice sv11.a.p (digs B6 (numQ (ofS false (parseVal (cutA ([] : List UInt8))) 1))).length sv11.a.c, .slice sv11.b.p (digs B6 (den0 (ofS false (parseVal (cutA ([] : List UInt8))) 1))).length sv11.b.c] (al1 (spS ni (hK.get m0)) (al1 (spR ni (hK.get m1)) (al1 (spR ni (hK.get m2)) (al1 (spR ni (hK.get m3)) (al1 (spR ni (hK.get m4)) (al1 (fun _ => has_put k_R1 _ _) aN))))))⟩
     simp only [Act.put, pB, pC]
     apply txF (wants0 rfl); (· intro w' hK; go_simp; (try go_bits); exact ⟨rfl, rfl⟩); simp only [Act.put, pA, pB, pC]
     refine txEnd (fun W12 hK => ?_)
     have k_R1 := (hK.get m5); have ⟨c_R1_0, c_R1_1, c_R1_2⟩ := k_R1.c3
     go_wp2
     exact bodyPost_ret (v := .tuple #[.agg #[.bool (isN (ofS false (parseVal (cutA ([] : List UInt8))) 1)), .slice sv11.a.p (digs B6 (numQ (ofS false (parseVal (cutA ([] : List UInt8))) 1))).length sv11.a.c, .slice sv11.b.p (digs B6 (den0 (ofS false (parseVal (cutA ([] : List UInt8))) 1))).length sv11.b.c], .int .i64 z2]) (by simp [results, Tryz.results13, go_sem, c_R1_0, c_R1_1, c_R1_2]) rfl ((by obtain rfl := hQ0.out; exact ⟨.agg #[.bool (isN (ofS false (parseVal (cutA ([] : List UInt8))) 1)), .slice sv11.a.p (digs B6 (numQ (ofS false (parseVal (cutA ([] : List UInt8))) 1))).length sv11.a.c, .slice sv11.b.p (digs B6 (den0 (ofS false (parseVal (cutA ([] : List UInt8))) 1))).length sv11.b.c], (by rw [(errn_0 hmn hnm (secn_f hnm hb1.out) hz1.out parse49.2 hb3.out rfl (z := z2) (by rw [parse49.1]; exact hz2.out)).1]), (Eq.mp (congrArg (RefR _ _) (show ofS false (parseVal (cutA ([] : List UInt8))) 1 = valQ [] from (by have q := (errn_0 hmn hnm (secn_f hnm hb1.out) hz1.out parse49.2 hb3.out rfl (z := z2) (by rw [parse49.1]; exact hz2.out)).2; rwa [parse49.1] at q))) (hK.get m0)), hK.old⟩))
    · --
     iterate 2 (apply txN (j := 2) (d := 52) (b := false) rfl rfl rfl rfl; simp only [Act.put, pA, pB, pC])
     iterate 2 (apply txF (wants0 rfl); (· intro w' hK; go_simp; (try go_bits); exact ⟨rfl, rfl⟩); simp only [Act.put, pA, pB, pC])
     refine txEnd (fun W13 hK => ?_)
     go_upto_region 12 with (fail)
     refine wp_region_tx w hK ?_
     clear hK
     apply txF (wants0 rfl); (· intro w' hK; go_simp; (try go_bits); exact ⟨rfl, rfl⟩); simp only [Act.put, pA, pB, pC]
     apply txU 2 (Has w.heap.size R1 (.cells #[.bool false, .slice none 0 0, .slice none 0 0] 36)) (wants0 rfl)
     · intro l1 hl1 w' hK; have k_R1 := (hK.get m2); have ⟨c_R1_0, c_R1_1, c_R1_2⟩ := k_R1.c3; have f_R1 := k_R1.fz; have ni := noInt_of k_R1 nofun; go_simp; obtain rfl := hl1.out; exact ⟨rfl, ks_put (R := R1) hK k_R1.1 0 [.bool false, .slice none 0 0, .slice none 0 0] (al1 (spR ni (hK.get m0)) (al1 (spR ni (hK.get m1)) (al1 (fun _ => has_put k_R1 _ _) aN)))⟩
     simp only [Act.put, pB, pC]
     apply txF (wants0 rfl); (· intro w' hK; go_simp; (try go_bits); exact ⟨rfl, rfl⟩); simp only [Act.put, pA, pB, pC]
     refine txEnd (fun W14 hK => ?_)
     have k_R1 := (hK.get m2); have ⟨c_R1_0, c_R1_1, c_R1_2⟩ := k_R1.c3
     go_wp2
     exact bodyPost_ret (v := .tuple #[.agg #[.bool false, .slice none 0 0, .slice none 0 0], .int .i64 6]) (by simp [results, Tryz.results13, go_sem, c_R1_0, c_R1_1, c_R1_2]) rfl ((by obtain rfl := hQ0.out; exact ⟨.agg #[.bool false, .slice none 0 0, .slice none 0 0], (by rw [(errn_6 hnm (secn_f hnm hb1.out) hz1.out parse49.2 hb2.out rfl (.inl hb3.out)).1]), (by rw [(errn_6 hnm (secn_f hnm hb1.out) hz1.out parse49.2 hb2.out rfl (.inl hb3.out)).2]; exact RefR.zero _), hK.old⟩))
   · --
    iterate 2 (apply txN (j := 2) (d := 44) (b := false) rfl rfl rfl rfl; simp only [Act.put, pA, pB, pC])
    iterate 2 (apply txF (wants0 rfl); (· intro w' hK; go_simp; (try go_bits); exact ⟨rfl, rfl⟩); simp only [Act.put, pA, pB, pC])
    refine txEnd (fun W15 hK => ?_)
    go_upto_region 10 with (fail)
    refine wp_region_tx w hK ?_
    clear hK
    apply txF (wants0 rfl); (· intro w' hK; go_simp; (try go_bits); exact ⟨rfl, rfl⟩); simp only [Act.put, pA, pB, pC]
    apply txU 2 (Has w.heap.size R1 (.cells #[.bool false, .slice none 0 0, .slice none 0 0] 36)) (wants0 rfl)
    · intro l1 hl1 w' hK; have k_R1 := (hK.get m2); have ⟨c_R1_0, c_R1_1, c_R1_2⟩ := k_R1.c3; have f_R1 := k_R1.fz; have ni := noInt_of k_R1 nofun; go_simp; obtain rfl := hl1.out; exact ⟨rfl, ks_put (R := R1) hK k_R1.1 0 [.bool false, .slice none 0 0, .slice none 0 0] (al1 (spR ni (hK.get m0)) (al1 (spR ni (hK.get m1)) (al1 (fun _ => has_put k_R1 _ _) aN)))⟩
    simp only [Act.put, pB, pC]
    apply txF (wants0 rfl); (· intro w' hK; go_simp; (try go_bits); exact ⟨rfl, rfl⟩); simp only [Act.put, pA, pB, pC]
    refine txEnd (fun W16 hK => ?_)
    have k_R1 := (hK.get m2); have ⟨c_R1_0, c_R1_1, c_R1_2⟩ := k_R1.c3
    go_wp2
    exact bodyPost_ret (v := .tuple #[.agg #[.bool false, .slice none 0 0, .slice none 0 0], .int .i64 3]) (by simp [results, Tryz.results13, go_sem, c_R1_0, c_R1_1, c_R1_2]) rfl ((by obtain rfl := hQ0.out; exact ⟨.agg #[.bool false, .slice none 0 0, .slice none 0 0], (by rw [(errn_3 hnm (secn_f hnm hb1.out) hz1.out parse49.2 (.inl hb2.out)).1]), (by rw [(errn_3 hnm (secn_f hnm hb1.out) hz1.out parse49.2 (.inl hb2.out)).2]; exact RefR.zero _), hK.old⟩))
  · --
   go_upto_region 8 with (fail)
   refine wp_region_tx w hK ?_
   clear hK
   apply txF (wants0 rfl); (· intro w' hK; go_simp; (try go_bits); exact ⟨rfl, rfl⟩); simp only [Act.put, pA, pB, pC]
   obtain ⟨z2, hz2⟩ : ∃ b : Int, RowKit.Hid ((parseErr ((cutB ([] : List UInt8)).getD [])) = b) := ⟨_, hid rfl⟩
   apply txE (α := Sl) (fun sv => .tuple #[.slice sv.p (digs B6 (parseVal ((cutB ([] : List UInt8)).getD []))).length sv.c, .int .i64 z2]) (fun sv => [fun w => RefV w (.slice sv.p (digs B6 (parseVal ((cutB ([] : List UInt8)).getD []))).length sv.c) (parseVal ((cutB ([] : List UInt8)).getD []))]) (wants0 rfl)
   · intro f1 l1 hl1 w' hK; go_simp; (try go_bits); refine (rparse_q0  ((cutB ([] : List UInt8)).getD []) w'  (by omega)).mono ?_; rintro e w5 ⟨y0, rfl, u0, hb⟩; obtain ⟨rfl, rfl⟩ := hl1.out; obtain ⟨p_u0, c_u0, rfl⟩ := u0.slr; exact ⟨_, rfl, (⟨p_u0, 0, c_u0⟩ : Sl), (by rw [hz2.out]), hb, .cons (fun w2 h2 => u0.below h2) (Lasts.nil _)⟩
   intro sv17
   simp only [Act.put, pA, pB, pC, pD, pE]
   iterate 5 (apply txF (wants0 rfl); (· intro w' hK; go_simp; (try go_bits); exact ⟨rfl, rfl⟩); simp only [Act.put, pA, pB, pC])
   refine txEnd (fun W18 hK => ?_)
   go_upto_region 9 with (fail)
   refine wp_region_tx w hK ?_
   clear hK
   apply txF (wants0 rfl); (· intro w' hK; go_simp; (try go_bits); exact ⟨rfl, rfl⟩); simp only [Act.put, pA, pB, pC]
   obtain ⟨b2, hb2⟩ : ∃ b : Bool, RowKit.Hid ((z1 == 3) = b) := ⟨_, hid rfl⟩
   apply txB b2 (wants0 rfl); (· intro w' hK; go_simp; (try go_bits); exact ⟨by have q := hb2.out; subst q; first | rfl | simp, rfl⟩); simp only [Act.put, pA, pB, pC]
   apply txF (wants0 rfl); (· intro w' hK; go_simp; (try go_bits); exact ⟨rfl, rfl⟩); simp only [Act.put, pA, pB, pC]
   cases b2
   · --
    apply txF (wantsg (j := 2) (d := 44) (b := false) rfl rfl rfl rfl); (· intro w' hK; go_simp; (try go_bits); exact ⟨rfl, rfl⟩); simp only [Act.put, pA, pB, pC]
    obtain ⟨b3, hb3⟩ : ∃ b : Bool, RowKit.Hid ((z2 == 3) = b) := ⟨_, hid rfl⟩
    apply txB b3 (wantsg (j := 2) (d := 44) (b := false) rfl rfl rfl rfl); (· intro w' hK; go_simp; (try go_bits); exact ⟨by have q := hb3.out; subst q; first | rfl | simp, rfl⟩); simp only [Act.put, pA, pB, pC]
    iterate 2 (apply txF (wants0 rfl); (· intro w' hK; go_simp; (try go_bits); exact ⟨rfl, rfl⟩); simp only [Act.put, pA, pB, pC])
    refine txEnd (fun W19 hK => ?_)
    cases b3
    · --
     go_upto_region 11 with (fail)
     refine wp_region_tx w hK ?_
     clear hK
     apply txF (wants0 rfl); (· intro w' hK; go_simp; (try go_bits); exact ⟨rfl, rfl⟩); simp only [Act.put, pA, pB, pC]
     obtain ⟨b4, hb4⟩ : ∃ b : Bool, RowKit.Hid ((z1 != 0) = b) := ⟨_, hid rfl⟩
     apply txB b4 (wants0 rfl); (· intro w' hK; go_simp; (try go_bits); exact ⟨by have q := hb4.out; subst q; first | rfl | simp, rfl⟩); simp only [Act.put, pA, pB, pC]
     apply txF (wants0 rfl); (· intro w' hK; go_simp; (try go_bits); exact ⟨rfl, rfl⟩); simp only [Act.put, pA, pB, pC]
     cases b4
     · --
      apply txF (wantsg (j := 2) (d := 52) (b := false) rfl rfl rfl rfl); (· intro w' hK; go_simp; (try go_bits); exact ⟨rfl, rfl⟩); simp only [Act.put, pA, pB, pC]
      obtain ⟨b5, hb5⟩ : ∃ b : Bool, RowKit.Hid ((z2 != 0) = b) := ⟨_, hid rfl⟩
      apply txB b5 (wantsg (j := 2) (d := 52) (b := false) rfl rfl rfl rfl); (· intro w' hK; go_simp; (try go_bits); exact ⟨by have q := hb5.out; subst q; first | rfl | simp, rfl⟩); simp only [Act.put, pA, pB, pC]
      iterate 2 (apply txF (wants0 rfl); (· intro w' hK; go_simp; (try go_bits); exact ⟨rfl, rfl⟩); simp only [Act.put, pA, pB, pC])
      refine txEnd (fun W20 hK => ?_)
      cases b5
      · --
       go_upto_region 13 with (fail)
       refine wp_region_tx w hK ?_
       clear hK
       iterate 3 (apply txF (wants0 rfl); (· intro w' hK; go_simp; (try go_bits); exact ⟨rfl, rfl⟩); simp only [Act.put, pA, pB, pC])
       obtain ⟨z3, hz3⟩ : ∃ b : Int, RowKit.Hid ((if (parseVal ((cutB ([] : List UInt8)).getD [])) = 0 then 10 else 0) = b) := ⟨_, hid rfl⟩
       apply txE (α := Duo Sl Sl) (fun sv => .tuple #[.agg #[.bool (isN (ofS false (parseVal (cutA ([] : List UInt8))) (parseVal ((cutB ([] : List UInt8)).getD [])))), .slice sv.a.p (digs B6 (numQ (ofS false (parseVal (cutA ([] : List UInt8))) (parseVal ((cutB ([] : List UInt8)).getD []))))).length sv.a.c, .slice sv.b.p (digs B6 (den0 (ofS false (parseVal (cutA ([] : List UInt8))) (parseVal ((cutB ([] : List UInt8)).getD []))))).length sv.b.c], .int .i64 z3]) (fun sv => [fun w => RefR w (.agg #[.bool (isN (ofS false (parseVal (cutA ([] : List UInt8))) (parseVal ((cutB ([] : List UInt8)).getD [])))), .slice sv.a.p (digs B6 (numQ (ofS false (parseVal (cutA ([] : List UInt8))) (parseVal ((cutB ([] : List UInt8)).getD []))))).length sv.a.c, .slice sv.b.p (digs B6 (den0 (ofS false (parseVal (cutA ([] : List UInt8))) (parseVal ((cutB ([] : List UInt8)).getD []))))).length sv.b.c]) (ofS false (parseVal (cutA ([] : List UInt8))) (parseVal ((cutB ([] : List UInt8)).getD []))), fun w => RefV w (.slice sv.a.p (digs B6 (numQ (ofS false (parseVal (cutA ([] : List UInt8))) (parseVal ((cutB ([] : List UInt8)).getD []))))).length sv.a.c) (numQ (ofS false (parseVal (cutA ([] : List UInt8))) (parseVal ((cutB ([] : List UInt8)).getD [])))), fun w => RefV w (.slice sv.b.p (digs B6 (den0 (ofS false (parseVal (cutA ([] : List UInt8))) (parseVal ((cutB ([] : List UInt8)).getD []))))).length sv.b.c) (den0 (ofS false (parseVal (cutA ([] : List UInt8))) (parseVal ((cutB ([] : List UInt8)).getD []))))]) (wants0 rfl)
       · intro f1 l1 hl1 w' hK; go_simp; (try go_bits); refine (rmake_q (.slice sv5.p (digs B6 (parseVal (cutA ([] : List UInt8)))).length sv5.c) (.slice sv17.p (digs B6 (parseVal ((cutB ([] : List UInt8)).getD []))).length sv17.c) false (parseVal (cutA ([] : List UInt8))) (parseVal ((cutB ([] : List UInt8)).getD [])) w' (hK.get m2) (hK.get m0) (by omega) (by omega)).mono ?_; rintro e w5 ⟨y0, rfl, u0, hb⟩; obtain ⟨rfl, rfl⟩ := hl1.out; have u0_0 := u0; obtain ⟨p_u0, c_u0, q_u0, d_u0, rfl, u0_1, u0_2⟩ := u0.slr; exact ⟨_, rfl, (⟨⟨p_u0, 0, c_u0⟩, ⟨q_u0, 0, d_u0⟩⟩ : Duo Sl Sl), (by rw [hz3.out]), hb, .cons (fun w2 h2 => u0_0.below h2) (.cons (fun w2 h2 => u0_1.below h2) (.cons (fun w2 h2 => u0_2.below h2) (Lasts.nil _)))⟩
       intro sv21
       simp only [Act.put, pA, pB, pC, pD, pE]
       iterate 2 (apply txF (wants0 rfl); (· intro w' hK; go_simp; (try go_bits); exact ⟨rfl, rfl⟩); simp only [Act.put, pA, pB, pC])
       apply txU 6 (Has w.heap.size R1 (.cells #[.bool (isN (ofS false (parseVal (cutA ([] : List UInt8))) (parseVal ((cutB ([] : List UInt8)).getD [])))), .slice sv21.a.p (digs B6 (numQ (ofS false (parseVal (cutA ([] : List UInt8))) (parseVal ((cutB ([] : List UInt8)).getD []))))).length sv21.a.c, .slice sv21.b.p (digs B6 (den0 (ofS false (parseVal (cutA ([] : List UInt8))) (parseVal ((cutB ([] : List UInt8)).getD []))))).length sv21.b.c] 36)) (wants0 rfl)
       · intro l1 hl1 w' hK; have k_R1 := (hK.get m6); have ⟨c_R1_0, c_R1_1, c_R1_2⟩ := k_R1.c3; have f_R1 := k_R1.fz; have ni := noInt_of k_R1 nofun; go_simp; obtain rfl := hl1.out; exact ⟨rfl, ks_put (R := R1) hK k_R1.1 0 [.bool (isN (ofS false (parseVal (cutA ([] : List UInt8))) (parseVal ((cutB ([] : List UInt8)).getD [])))), .slice sv21.a.p (digs B6 (numQ (ofS false (parseVal (cutA ([] : List UInt8))) (parseVal ((cutB ([] : List UInt8)).getD []))))).length sv21.a.c, .slice sv21.b.p (digs B6 (den0 (ofS false (parseVal (cutA ([] : List UInt8))) (parseVal ((cutB ([] : List UInt8)).getD []))))).length sv21.b.c] (al1 (spS ni (hK.get m0)) (al1 (spR ni (hK.get m1)) (al1 (spR ni (hK.get m2)) (al1 (spR ni (hK.get m3)) (al1 (spR ni (hK.get m4)) (al1 (spR ni (hK.get m5)) (al1 (fun _ => has_put k_R1 _ _) aN)))))))⟩
       simp only [Act.put, pB, pC]
       apply txF (wants0 rfl); (· intro w' hK; go_simp; (try go_bits); exact ⟨rfl, rfl⟩); simp only [Act.put, pA, pB, pC]
       refine txEnd (fun W22 hK => ?_)
       have k_R1 := (hK.get m6); have ⟨c_R1_0, c_R1_1, c_R1_2⟩ := k_R1.c3
       go_wp2
       exact bodyPost_ret (v := .tuple #[.agg #[.bool (isN (ofS false (parseVal (cutA ([] : List UInt8))) (parseVal ((cutB ([] : List UInt8)).getD [])))), .slice sv21.a.p (digs B6 (numQ (ofS false (parseVal (cutA ([] : List UInt8))) (parseVal ((cutB ([] : List UInt8)).getD []))))).length sv21.a.c, .slice sv21.b.p (digs B6 (den0 (ofS false (parseVal (cutA ([] : List UInt8))) (parseVal ((cutB ([] : List UInt8)).getD []))))).length sv21.b.c], .int .i64 z3]) (by simp [results, Tryz.results13, go_sem, c_R1_0, c_R1_1, c_R1_2]) rfl ((by obtain rfl := hQ0.out; exact ⟨.agg #[.bool (isN (ofS false (parseVal (cutA ([] : List UInt8))) (parseVal ((cutB ([] : List UInt8)).getD [])))), .slice sv21.a.p (digs B6 (numQ (ofS false (parseVal (cutA ([] : List UInt8))) (parseVal ((cutB ([] : List UInt8)).getD []))))).length sv21.a.c, .slice sv21.b.p (digs B6 (den0 (ofS false (parseVal (cutA ([] : List UInt8))) (parseVal ((cutB ([] : List UInt8)).getD []))))).length sv21.b.c], (by rw [(errn_0 hmn hnm (secn_t hnm hb1.out) hz1.out hz2.out hb4.out hb5.out hz3.out).1]), (Eq.mp (congrArg (RefR _ _) (show ofS false (parseVal (cutA ([] : List UInt8))) (parseVal ((cutB ([] : List UInt8)).getD [])) = valQ [] from (errn_0 hmn hnm (secn_t hnm hb1.out) hz1.out hz2.out hb4.out hb5.out hz3.out).2)) (hK.get m0)), hK.old⟩))
      · --
       go_upto_region 12 with (fail)
       refine wp_region_tx w hK ?_
       clear hK
       apply txF (wants0 rfl); (· intro w' hK; go_simp; (try go_bits); exact ⟨rfl, rfl⟩); simp only [Act.put, pA, pB, pC]
       apply txU 3 (Has w.heap.size R1 (.cells #[.bool false, .slice none 0 0, .slice none 0 0] 36)) (wants0 rfl)
       · intro l1 hl1 w' hK; have k_R1 := (hK.get m3); have ⟨c_R1_0, c_R1_1, c_R1_2⟩ := k_R1.c3; have f_R1 := k_R1.fz; have ni := noInt_of k_R1 nofun; go_simp; obtain rfl := hl1.out; exact ⟨rfl, ks_put (R := R1) hK k_R1.1 0 [.bool false, .slice none 0 0, .slice none 0 0] (al1 (spR ni (hK.get m0)) (al1 (spR ni (hK.get m1)) (al1 (spR ni (hK.get m2)) (al1 (fun _ => has_put k_R1 _ _) aN))))⟩
       simp only [Act.put, pB, pC]
       apply txF (wants0 rfl); (· intro w' hK; go_simp; (try go_bits); exact ⟨rfl, rfl⟩); simp only [Act.put, pA, pB, pC]
       refine txEnd (fun W23 hK => ?_)
       have k_R1 := (hK.get m3); have ⟨c_R1_0, c_R1_1, c_R1_2⟩ := k_R1.c3
       go_wp2
       exact bodyPost_ret (v := .tuple #[.agg #[.bool false, .slice none 0 0, .slice none 0 0], .int .i64 6]) (by simp [results, Tryz.results13, go_sem, c_R1_0, c_R1_1, c_R1_2]) rfl ((by obtain rfl := hQ0.out; exact ⟨.agg #[.bool false, .slice none 0 0, .slice none 0 0], (by rw [(errn_6 hnm (secn_t hnm hb1.out) hz1.out hz2.out hb2.out hb3.out (.inr hb5.out)).1]), (by rw [(errn_6 hnm (secn_t hnm hb1.out) hz1.out hz2.out hb2.out hb3.out (.inr hb5.out)).2]; exact RefR.zero _), hK.old⟩))
     · --
      iterate 2 (apply txN (j := 2) (d := 52) (b := false) rfl rfl rfl rfl; simp only [Act.put, pA, pB, pC])
      iterate 2 (apply txF (wants0 rfl); (· intro w' hK; go_simp; (try go_bits); exact ⟨rfl, rfl⟩); simp only [Act.put, pA, pB, pC])
      refine txEnd (fun W24 hK => ?_)
      go_upto_region 12 with (fail)
      refine wp_region_tx w hK ?_
      clear hK
      apply txF (wants0 rfl); (· intro w' hK; go_simp; (try go_bits); exact ⟨rfl, rfl⟩); simp only [Act.put, pA, pB, pC]
      apply txU 3 (Has w.heap.size R1 (.cells #[.bool false, .slice none 0 0, .slice none 0 0] 36)) (wants0 rfl)
      · intro l1 hl1 w' hK; have k_R1 := (hK.get m3); have ⟨c_R1_0, c_R1_1, c_R1_2⟩ := k_R1.c3; have f_R1 := k_R1.fz; have ni := noInt_of k_R1 nofun; go_simp; obtain rfl := hl1.out; exact ⟨rfl, ks_put (R := R1) hK k_R1.1 0 [.bool false, .slice none 0 0, .slice none 0 0] (al1 (spR ni (hK.get m0)) (al1 (spR ni (hK.get m1)) (al1 (spR ni (hK.get m2)) (al1 (fun _ => has_put k_R1 _ _) aN))))⟩
      simp only [Act.put, pB, pC]
      apply txF (wants0 rfl); (· intro w' hK; go_simp; (try go_bits); exact ⟨rfl, rfl⟩); simp only [Act.put, pA, pB, pC]
      refine txEnd (fun W25 hK => ?_)
      have k_R1 := (hK.get m3); have ⟨c_R1_0, c_R1_1, c_R1_2⟩ := k_R1.c3
      go_wp2
      exact bodyPost_ret (v := .tuple #[.agg #[.bool false, .slice none 0 0, .slice none 0 0], .int .i64 6]) (by simp [results, Tryz.results13, go_sem, c_R1_0, c_R1_1, c_R1_2]) rfl ((by obtain rfl := hQ0.out; exact ⟨.agg #[.bool false, .slice none 0 0, .slice none 0 0], (by rw [(errn_6 hnm (secn_t hnm hb1.out) hz1.out hz2.out hb2.out hb3.out (.inl hb4.out)).1]), (by rw [(errn_6 hnm (secn_t hnm hb1.out) hz1.out hz2.out hb2.out hb3.out (.inl hb4.out)).2]; exact RefR.zero _), hK.old⟩))
    · --
     go_upto_region 10 with (fail)
     refine wp_region_tx w hK ?_
     clear hK
     apply txF (wants0 rfl); (· intro w' hK; go_simp; (try go_bits); exact ⟨rfl, rfl⟩); simp only [Act.put, pA, pB, pC]
     apply txU 3 (Has w.heap.size R1 (.cells #[.bool false, .slice none 0 0, .slice none 0 0] 36)) (wants0 rfl)
     · intro l1 hl1 w' hK; have k_R1 := (hK.get m3); have ⟨c_R1_0, c_R1_1, c_R1_2⟩ := k_R1.c3; have f_R1 := k_R1.fz; have ni := noInt_of k_R1 nofun; go_simp; obtain rfl := hl1.out; exact ⟨rfl, ks_put (R := R1) hK k_R1.1 0 [.bool false, .slice none 0 0, .slice none 0 0] (al1 (spR ni (hK.get m0)) (al1 (spR ni (hK.get m1)) (al1 (spR ni (hK.get m2)) (al1 (fun _ => has_put k_R1 _ _) aN))))⟩
     simp only [Act.put, pB, pC]
     apply txF (wants0 rfl); (· intro w' hK; go_simp; (try go_bits); exact ⟨rfl, rfl⟩); simp only [Act.put, pA, pB, pC]
     refine txEnd (fun W26 hK => ?_)
     have k_R1 := (hK.get m3); have ⟨c_R1_0, c_R1_1, c_R1_2⟩ := k_R1.c3
     go_wp2
     exact bodyPost_ret (v := .tuple #[.agg #[.bool false, .slice none 0 0, .slice none 0 0], .int .i64 3]) (by simp [results, Tryz.results13, go_sem, c_R1_0, c_R1_1, c_R1_2]) rfl ((by obtain rfl := hQ0.out; exact ⟨.agg #[.bool false, .slice none 0 0, .slice none 0 0], (by rw [(errn_3 hnm (secn_t hnm hb1.out) hz1.out hz2.out (.inr hb3.out)).1]), (by rw [(errn_3 hnm (secn_t hnm hb1.out) hz1.out hz2.out (.inr hb3.out)).2]; exact RefR.zero _), hK.old⟩))
   · --
    iterate 2 (apply txN (j := 2) (d := 44) (b := false) rfl rfl rfl rfl; simp only [Act.put, pA, pB, pC])
    iterate 2 (apply txF (wants0 rfl); (· intro w' hK; go_simp; (try go_bits); exact ⟨rfl, rfl⟩); simp only [Act.put, pA, pB, pC])
    refine txEnd (fun W27 hK => ?_)
    go_upto_region 10 with (fail)
    refine wp_region_tx w hK ?_
    clear hK
    apply txF (wants0 rfl); (· intro w' hK; go_simp; (try go_bits); exact ⟨rfl, rfl⟩); simp only [Act.put, pA, pB, pC]
    apply txU 3 (Has w.heap.size R1 (.cells #[.bool false, .slice none 0 0, .slice none 0 0] 36)) (wants0 rfl)
    · intro l1 hl1 w' hK; have k_R1 := (hK.get m3); have ⟨c_R1_0, c_R1_1, c_R1_2⟩ := k_R1.c3; have f_R1 := k_R1.fz; have ni := noInt_of k_R1 nofun; go_simp; obtain rfl := hl1.out; exact ⟨rfl, ks_put (R := R1) hK k_R1.1 0 [.bool false, .slice none 0 0, .slice none 0 0] (al1 (spR ni (hK.get m0)) (al1 (spR ni (hK.get m1)) (al1 (spR ni (hK.get m2)) (al1 (fun _ => has_put k_R1 _ _) aN))))⟩
    simp only [Act.put, pB, pC]
    apply txF (wants0 rfl); (· intro w' hK; go_simp; (try go_bits); exact ⟨rfl, rfl⟩); simp only [Act.put, pA, pB, pC]
    refine txEnd (fun W28 hK => ?_)
    have k_R1 := (hK.get m3); have ⟨c_R1_0, c_R1_1, c_R1_2⟩ := k_R1.c3
    go_wp2
    exact bodyPost_ret (v := .tuple #[.agg #[.bool false, .slice none 0 0, .slice none 0 0], .int .i64 3]) (by simp [results, Tryz.results13, go_sem, c_R1_0, c_R1_1, c_R1_2]) rfl ((by obtain rfl := hQ0.out; exact ⟨.agg #[.bool false, .slice none 0 0, .slice none 0 0], (by rw [(errn_3 hnm (secn_t hnm hb1.out) hz1.out hz2.out (.inl hb2.out)).1]), (by rw [(errn_3 hnm (secn_t hnm hb1.out) hz1.out hz2.out (.inl hb2.out)).2]; exact RefR.zero _), hK.old⟩))
set_option maxRecDepth 100000 in
theorem rparseq_min  (t : List UInt8) (w : World)  (hl : ((45 :: t) : List UInt8).length ≤ 10000) (hnm : noMinus (45 :: t) = t) (hmn : isMinus (45 :: t) = true) :
    Calls Tryz.prog 13 #[.string ⟨(45 :: t).toArray⟩] w fun e w' => ∃ y0, e = .returned (.tuple #[y0, .int .i64 (errQ (45 :: t))]) ∧ RefR w' y0 (valQ (45 :: t)) ∧ Below w.heap.size w w' := by
  have hK : KS w [] w := (KS.start w)
  have e0 : t.length ≤ 10000 := by simp at hl; omega
  have e2 := cutA_len t
  have e3 := cutB_len0 t
  have e4 := pv_len6 (cutA t)
  have e5 := pv_len6 ((cutB t).getD [])
  have e6 : (digs B6 1).length ≤ 1 := by rw [digs6_1]; exact Nat.le_refl _
  refine Calls.hide (fun Q0 hQ0 => ?_)
  go_enter Tryz.func13, Tryz.ntmps13
  go_upto_region 0 with (fail)
  refine wp_region_tx w hK ?_
  clear hK
  apply txA (.cells #[.bool false, .slice none 0 0, .slice none 0 0] 36) (wants0 rfl)
  · intro w' hK; go_simp; rfl
  intro R1 q_R1
  clear q_R1
  simp only [mkOf, Act.put, pA, pB, pC]
  apply txF (wants0 rfl); (· intro w' hK; go_simp; (try go_bits); exact ⟨rfl, rfl⟩); simp only [Act.put, pA, pB, pC]
  refine txEnd (fun W2 hK => ?_)
  go_upto_region 1 with (fail)
  refine wp_region_tx w hK ?_
  clear hK
  iterate 2 (apply txF (wants0 rfl); (· intro w' hK; go_simp; (try go_bits); exact ⟨rfl, rfl⟩); simp only [Act.put, pA, pB, pC])
  apply txF (v := .bool true) (wants0 rfl); (· intro w' hK; go_simp; (try go_bits); exact ⟨congrArg Value.bool (by first | (simp; done) | (simp; omega)), rfl⟩); simp only [Act.put, pA, pB, pC]
  apply txF (wants0 rfl); (· intro w' hK; go_simp; (try go_bits); exact ⟨rfl, rfl⟩); simp only [Act.put, pA, pB, pC]
  apply txF (wantsg (j := 3) (d := 15) (b := true) rfl rfl rfl rfl); (· intro w' hK; go_simp; (try go_bits); exact ⟨rfl, rfl⟩); simp only [Act.put, pA, pB, pC]
  apply txF (v := .int .u8 45) (wantsg (j := 3) (d := 15) (b := true) rfl rfl rfl rfl); (· intro w' hK; go_simp; (try go_bits); exact ⟨rfl, rfl⟩); simp only [Act.put, pA, pB, pC]
  apply txF (v := .bool true) (wantsg (j := 3) (d := 15) (b := true) rfl rfl rfl rfl); (· intro w' hK; go_simp; (try go_bits); exact ⟨rfl, rfl⟩); simp only [Act.put, pA, pB, pC]
  iterate 2 (apply txF (wants0 rfl); (· intro w' hK; go_simp; (try go_bits); exact ⟨rfl, rfl⟩); simp only [Act.put, pA, pB, pC])
  refine txEnd (fun W3 hK => ?_)
  go_upto_region 3 with (fail)
  refine wp_region_tx w hK ?_
  clear hK
  apply txF (wants0 rfl); (· intro w' hK; go_simp; (try go_bits); exact ⟨rfl, rfl⟩); simp only [Act.put, pA, pB, pC]
  apply txF (v := .string ⟨t.toArray⟩) (wants0 rfl); (· intro w' hK; go_simp; (try go_bits); first | (rw [if_pos (by omega)]; exact ⟨congrArg Value.string ((ext_drop ⟨(45 :: t).toArray⟩ 1).trans rfl), rfl⟩) | exact ⟨congrArg Value.string ((ext_drop ⟨(45 :: t).toArray⟩ 1).trans rfl), rfl⟩); simp only [Act.put, pA, pB, pC]
  apply txF (wants0 rfl); (· intro w' hK; go_simp; (try go_bits); exact ⟨rfl, rfl⟩); simp only [Act.put, pA, pB]
  refine txEnd (fun W4 hK => ?_)
  go_upto_region 4 with (fail)
  refine wp_region_tx w hK ?_
  clear hK
  apply txF (wants0 rfl); (· intro w' hK; go_simp; (try go_bits); exact ⟨rfl, rfl⟩); simp only [Act.put, pA, pB, pC]
  obtain ⟨b1, hb1⟩ : ∃ b : Bool, RowKit.Hid ((cutB t).isSome = b) := ⟨_, hid rfl⟩
  apply txH (v := .tuple #[.string ⟨(cutA t).toArray⟩, .string ⟨((cutB t).getD []).toArray⟩, .bool b1]) (wants0 rfl)
  · intro v1 hv1 w' hK; go_simp; (try go_bits); refine (rcut_q  t w'  (by omega)).mono ?_; rintro e w5 ⟨rfl, hb⟩; obtain rfl := hv1.out; exact ⟨_, rfl, (by rw [hb1.out]), hb⟩
  simp only [Act.put, pA, pB, pC]
  iterate 7 (apply txF (wants0 rfl); (· intro w' hK; go_simp; (try go_bits); exact ⟨rfl, rfl⟩); simp only [Act.put, pA, pB, pC])
  refine txEnd (fun W5 hK => ?_)
  go_upto_region 5 with (fail)
  refine wp_region_tx w hK ?_
  clear hK
  apply txF (wants0 rfl); (· intro w' hK; go_simp; (try go_bits); exact ⟨rfl, rfl⟩); simp only [Act.put, pA, pB, pC]
  obtain ⟨z1, hz1⟩ : ∃ b : Int, RowKit.Hid ((parseErr (cutA t)) = b) := ⟨_, hid rfl⟩
  apply txE (α := Sl) (fun sv => .tuple #[.slice sv.p (digs B6 (parseVal (cutA t))).length sv.c, .int .i64 z1]) (fun sv => [fun w => RefV w (.slice sv.p (digs B6 (parseVal (cutA t))).length sv.c) (parseVal (cutA t))]) (wants0 rfl)
  · intro f1 l1 hl1 w' hK; go_simp; (try go_bits); refine (rparse_q0  (cutA t) w'  (by omega)).mono ?_; rintro e w5 ⟨y0, rfl, u0, hb⟩; obtain ⟨rfl, rfl⟩ := hl1.out; obtain ⟨p_u0, c_u0, rfl⟩ := u0.slr; exact ⟨_, rfl, (⟨p_u0, 0, c_u0⟩ : Sl), (by rw [hz1.out]), hb, .cons (fun w2 h2 => u0.below h2) (Lasts.nil _)⟩
  intro sv6
  simp only [Act.put, pA, pB, pC, pD, pE]
  iterate 5 (apply txF (wants0 rfl); (· intro w' hK; go_simp; (try go_bits); exact ⟨rfl, rfl⟩); simp only [Act.put, pA, pB, pC])
  refine txEnd (fun W7 hK => ?_)
  go_upto_region 6 with (fail)
  refine wp_region_tx w hK ?_
  clear hK
  apply txE (α := Sl) (fun sv => .slice sv.p (digs B6 1).length sv.c) (fun sv => [fun w => RefV w (.slice sv.p (digs B6 1).length sv.c) 1]) (wants0 rfl)
  · intro f1 l1 hl1 w' hK; go_simp; (try go_bits); refine (rof_any  1 w'  (by omega)).mono ?_; rintro e w5 ⟨y0, rfl, u0, hb⟩; obtain ⟨rfl, rfl⟩ := hl1.out; obtain ⟨p_u0, c_u0, rfl⟩ := u0.slr; exact ⟨_, rfl, (⟨p_u0, 0, c_u0⟩ : Sl), rfl, hb, .cons (fun w2 h2 => u0.below h2) (Lasts.nil _)⟩
  intro sv8
  simp only [Act.put, pA, pB, pC, pD, pE]
  iterate 2 (apply txF (wants0 rfl); (· intro w' hK; go_simp; (try go_bits); exact ⟨rfl, rfl⟩); simp only [Act.put, pA, pB, pC])
  refine txEnd (fun W9 hK => ?_)
  cases b1
  · --
   go_upto_region 9 with (fail)
   refine wp_region_tx w hK ?_
   clear hK
   apply txF (wants0 rfl); (· intro w' hK; go_simp; (try go_bits); exact ⟨rfl, rfl⟩); simp only [Act.put, pA, pB, pC]
   obtain ⟨b2, hb2⟩ : ∃ b : Bool, RowKit.Hid ((z1 == 3) = b) := ⟨_, hid rfl⟩
   apply txB b2 (wants0 rfl); (· intro w' hK; go_simp; (try go_bits); exact ⟨by have q := hb2.out; subst q; first | rfl | simp, rfl⟩); simp only [Act.put, pA, pB, pC]
   apply txF (wants0 rfl); (· intro w' hK; go_simp; (try go_bits); exact ⟨rfl, rfl⟩); simp only [Act.put, pA, pB, pC]
   cases b2
   · --
    iterate 2 (apply txF (wantsg (j := 2) (d := 44) (b := false) rfl rfl rfl rfl); (· intro w' hK; go_simp; (try go_bits); exact ⟨rfl, rfl⟩); simp only [Act.put, pA, pB, pC])
    iterate 2 (apply txF (wants0 rfl); (· intro w' hK; go_simp; (try go_bits); exact ⟨rfl, rfl⟩); simp only [Act.put, pA, pB, pC])
    refine txEnd (fun W10 hK => ?_)
    go_upto_region 11 with (fail)
    refine wp_region_tx w hK ?_
    clear hK
    apply txF (wants0 rfl); (· intro w' hK; go_simp; (try go_bits); exact ⟨rfl, rfl⟩); simp only [Act.put, pA, pB, pC]
    obtain ⟨b3, hb3⟩ : ∃ b : Bool, RowKit.Hid ((z1 != 0) = b) := ⟨_, hid rfl⟩
    apply txB b3 (wants0 rfl); (· intro w' hK; go_simp; (try go_bits); exact ⟨by have q := hb3.out; subst q; first | rfl | simp, rfl⟩); simp only [Act.put, pA, pB, pC]
    apply txF (wants0 rfl); (· intro w' hK; go_simp; (try go_bits); exact ⟨rfl, rfl⟩); simp only [Act.put, pA, pB, pC]
    cases b3
    · --
     iterate 2 (apply txF (wantsg (j := 2) (d := 52) (b := false) rfl rfl rfl rfl); (· intro w' hK; go_simp; (try go_bits); exact ⟨rfl, rfl⟩); simp only [Act.put, pA, pB, pC])
     iterate 2 (apply txF (wants0 rfl); (· intro w' hK; go_simp; (try go_bits); exact ⟨rfl, rfl⟩); simp only [Act.put, pA, pB, pC])
     refine txEnd (fun W11 hK => ?_)
     go_upto_region 13 with (fail)
     refine wp_region_tx w hK ?_
     clear hK
     iterate 3 (apply txF (wants0 rfl); (· intro w' hK; go_simp; (try go_bits); exact ⟨rfl, rfl⟩); simp only [Act.put, pA, pB, pC])
     obtain ⟨z2, hz2⟩ : ∃ b : Int, RowKit.Hid ((if 1 = 0 then 10 else 0) = b) := ⟨_, hid rfl⟩
     apply txE (α := Duo Sl Sl) (fun sv => .tuple #[.agg #[.bool (isN (ofS true (parseVal (cutA t)) 1)), .slice sv.a.p (digs B6 (numQ (ofS true (parseVal (cutA t)) 1))).length sv.a.c, .slice sv.b.p (digs B6 (den0 (ofS true (parseVal (cutA t)) 1))).length sv.b.c], .int .i64 z2]) (fun sv => [fun w => RefR w (.agg #[.bool (isN (ofS true (parseVal (cutA t)) 1)), .slice sv.a.p (digs B6 (numQ (ofS true (parseVal (cutA t)) 1))).length sv.a.c, .slice sv.b.p (digs B6 (den0 (ofS true (parseVal (cutA t)) 1))).length sv.b.c]) (ofS true (parseVal (cutA t)) 1), fun w => RefV w (.slice sv.a.p (digs B6 (numQ (ofS true (parseVal (cutA t)) 1))).length sv.a.c) (numQ (ofS true (parseVal (cutA t)) 1)), fun w => RefV w (.slice sv.b.p (digs B6 (den0 (ofS true (parseVal (cutA t)) 1))).length sv.b.c) (den0 (ofS true (parseVal (cutA t)) 1))]) (wants0 rfl)
     · intro f1 l1 hl1 w' hK; go_simp; (try go_bits); refine (rmake_q (.slice sv6.p (digs B6 (parseVal (cutA t))).length sv6.c) (.slice sv8.p (digs B6 1).length sv8.c) true (parseVal (cutA t)) 1 w' (hK.get m1) (hK.get m0) (by omega) (by omega)).mono ?_; rintro e w5 ⟨y0, rfl, u0, hb⟩; obtain ⟨rfl, rfl⟩ := hl1.out; have u0_0 := u0; obtain ⟨p_u0, c_u0, q_u0, d_u0, rfl, u0_1, u0_2⟩ := u0.slr; exact ⟨_, rfl, (⟨⟨p_u0, 0, c_u0⟩, ⟨q_u0, 0, d_u0⟩⟩ : Duo Sl Sl), (by rw [hz2.out]), hb, .cons (fun w2 h2 => u0_0.below h2) (.cons (fun w2 h2 => u0_1.below h2) (.cons (fun w2 h2 => u0_2.below h2) (Lasts.nil _)))⟩
     intro sv12
     simp only [Act.put, pA, pB, pC, pD, pE]
     iterate 2 (apply txF (wants0 rfl); (· intro w' hK; go_simp; (try go_bits); exact ⟨rfl, rfl⟩); simp only [Act.put, pA, pB, pC])
     apply txU 5 (Has w.heap.size R1 (.cells #[.bool (isN (ofS true (parseVal (cutA t)) 1)), .slice sv12.a.p (digs B6 (numQ (ofS true (parseVal (cutA t)) 1))).length sv12.a.c, .slice sv12.b.p (digs B6 (den0 (ofS true (parseVal (cutA t)) 1))).length sv12.b.c] 36)) (wants0 rfl)
     · intro l1 hl1 w' hK; have k_R1 := (hK.get m5); have ⟨c_R1_0, c_R1_1, c_R1_2⟩ := k_R1.c3; have f_R1 := k_R1.fz; have ni := noInt_of k_R1 nofun; go_simp; obtain rfl := hl1.out; exact ⟨rfl, ks_put (R := R1) hK k_R1.1 0 [.bool (isN (ofS true (parseVal (cutA t)) 1)), .slice sv12.a.p (digs B6 (numQ (ofS true (parseVal (cutA t)) 1))).length sv12.a.c, .slice sv12.b.p (digs B6 (den0 (ofS true (parseVal (cutA t)) 1))).length sv12.b.c] (al1 (spS ni (hK.get m0)) (al1 (spR ni (hK.get m1)) (al1 (spR ni (hK.get m2)) (al1 (spR ni (hK.get m3)) (al1 (spR ni (hK.get m4)) (al1 (fun _ => has_put k_R1 _ _) aN))))))⟩
     simp only [Act.put, pB, pC]
     apply txF (wants0 rfl); (· intro w' hK; go_simp; (try go_bits); exact ⟨rfl, rfl⟩); simp only [Act.put, pA, pB, pC]
     refine txEnd (fun W13 hK => ?_)
     have k_R1 := (hK.get m5); have ⟨c_R1_0, c_R1_1, c_R1_2⟩ := k_R1.c3
     go_wp2
     exact bodyPost_ret (v := .tuple #[.agg #[.bool (isN (ofS true (parseVal (cutA t)) 1)), .slice sv12.a.p (digs B6 (numQ (ofS true (parseVal (cutA t)) 1))).length sv12.a.c, .slice sv12.b.p (digs B6 (den0 (ofS true (parseVal (cutA t)) 1))).length sv12.b.c], .int .i64 z2]) (by simp [results, Tryz.results13, go_sem, c_R1_0, c_R1_1, c_R1_2]) rfl ((by obtain rfl := hQ0.out; exact ⟨.agg #[.bool (isN (ofS true (parseVal (cutA t)) 1)), .slice sv12.a.p (digs B6 (numQ (ofS true (parseVal (cutA t)) 1))).length sv12.a.c, .slice sv12.b.p (digs B6 (den0 (ofS true (parseVal (cutA t)) 1))).length sv12.b.c], (by rw [(errn_0 hmn hnm (secn_f hnm hb1.out) hz1.out parse49.2 hb3.out rfl (z := z2) (by rw [parse49.1]; exact hz2.out)).1]), (Eq.mp (congrArg (RefR _ _) (show ofS true (parseVal (cutA t)) 1 = valQ (45 :: t) from (by have q := (errn_0 hmn hnm (secn_f hnm hb1.out) hz1.out parse49.2 hb3.out rfl (z := z2) (by rw [parse49.1]; exact hz2.out)).2; rwa [parse49.1] at q))) (hK.get m0)), hK.old⟩))
    · --
     iterate 2 (apply txN (j := 2) (d := 52) (b := false) rfl rfl rfl rfl; simp only [Act.put, pA, pB, pC])
     iterate 2 (apply txF (wants0 rfl); (· intro w' hK; go_simp; (try go_bits); exact ⟨rfl, rfl⟩); simp only [Act.put, pA, pB, pC])
     refine txEnd (fun W14 hK => ?_)
     go_upto_region 12 with (fail)
     refine wp_region_tx w hK ?_
     clear hK
     apply txF (wants0 rfl); (· intro w' hK; go_simp; (try go_bits); exact ⟨rfl, rfl⟩); simp only [Act.put, pA, pB, pC]
     apply txU 2 (Has w.heap.size R1 (.cells #[.bool false, .slice none 0 0, .slice none 0 0] 36)) (wants0 rfl)
     · intro l1 hl1 w' hK; have k_R1 := (hK.get m2); have ⟨c_R1_0, c_R1_1, c_R1_2⟩ := k_R1.c3; have f_R1 := k_R1.fz; have ni := noInt_of k_R1 nofun; go_simp; obtain rfl := hl1.out; exact ⟨rfl, ks_put (R := R1) hK k_R1.1 0 [.bool false, .slice none 0 0, .slice none 0 0] (al1 (spR ni (hK.get m0)) (al1 (spR ni (hK.get m1)) (al1 (fun _ => has_put k_R1 _ _) aN)))⟩
     simp only [Act.put, pB, pC]
     apply txF (wants0 rfl); (· intro w' hK; go_simp; (try go_bits); exact ⟨rfl, rfl⟩); simp only [Act.put, pA, pB, pC]
     refine txEnd (fun W15 hK => ?_)
     have k_R1 := (hK.get m2); have ⟨c_R1_0, c_R1_1, c_R1_2⟩ := k_R1.c3
     go_wp2
     exact bodyPost_ret (v := .tuple #[.agg #[.bool false, .slice none 0 0, .slice none 0 0], .int .i64 6]) (by simp [results, Tryz.results13, go_sem, c_R1_0, c_R1_1, c_R1_2]) rfl ((by obtain rfl := hQ0.out; exact ⟨.agg #[.bool false, .slice none 0 0, .slice none 0 0], (by rw [(errn_6 hnm (secn_f hnm hb1.out) hz1.out parse49.2 hb2.out rfl (.inl hb3.out)).1]), (by rw [(errn_6 hnm (secn_f hnm hb1.out) hz1.out parse49.2 hb2.out rfl (.inl hb3.out)).2]; exact RefR.zero _), hK.old⟩))
   · --
    iterate 2 (apply txN (j := 2) (d := 44) (b := false) rfl rfl rfl rfl; simp only [Act.put, pA, pB, pC])
    iterate 2 (apply txF (wants0 rfl); (· intro w' hK; go_simp; (try go_bits); exact ⟨rfl, rfl⟩); simp only [Act.put, pA, pB, pC])
    refine txEnd (fun W16 hK => ?_)
    go_upto_region 10 with (fail)
    refine wp_region_tx w hK ?_
    clear hK
    apply txF (wants0 rfl); (· intro w' hK; go_simp; (try go_bits); exact ⟨rfl, rfl⟩); simp only [Act.put, pA, pB, pC]
    apply txU 2 (Has w.heap.size R1 (.cells #[.bool false, .slice none 0 0, .slice none 0 0] 36)) (wants0 rfl)
    · intro l1 hl1 w' hK; have k_R1 := (hK.get m2); have ⟨c_R1_0, c_R1_1, c_R1_2⟩ := k_R1.c3; have f_R1 := k_R1.fz; have ni := noInt_of k_R1 nofun; go_simp; obtain rfl := hl1.out; exact ⟨rfl, ks_put (R := R1) hK k_R1.1 0 [.bool false, .slice none 0 0, .slice none 0 0] (al1 (spR ni (hK.get m0)) (al1 (spR ni (hK.get m1)) (al1 (fun _ => has_put k_R1 _ _) aN)))⟩
    simp only [Act.put, pB, pC]
    apply txF (wants0 rfl); (· intro w' hK; go_simp; (try go_bits); exact ⟨rfl, rfl⟩); simp only [Act.put, pA, pB, pC]
    refine txEnd (fun W17 hK => ?_)
    have k_R1 := (hK.get m2); have ⟨c_R1_0, c_R1_1, c_R1_2⟩ := k_R1.c3
    go_wp2
    exact bodyPost_ret (v := .tuple #[.agg #[.bool false, .slice none 0 0, .slice none 0 0], .int .i64 3]) (by simp [results, Tryz.results13, go_sem, c_R1_0, c_R1_1, c_R1_2]) rfl ((by obtain rfl := hQ0.out; exact ⟨.agg #[.bool false, .slice none 0 0, .slice none 0 0], (by rw [(errn_3 hnm (secn_f hnm hb1.out) hz1.out parse49.2 (.inl hb2.out)).1]), (by rw [(errn_3 hnm (secn_f hnm hb1.out) hz1.out parse49.2 (.inl hb2.out)).2]; exact RefR.zero _), hK.old⟩))
  · --
   go_upto_region 8 with (fail)
   refine wp_region_tx w hK ?_
   clear hK
   apply txF (wants0 rfl); (· intro w' hK; go_simp; (try go_bits); exact ⟨rfl, rfl⟩); simp only [Act.put, pA, pB, pC]
   obtain ⟨z2, hz2⟩ : ∃ b : Int, RowKit.Hid ((parseErr ((cutB t).getD [])) = b) := ⟨_, hid rfl⟩
   apply txE (α := Sl) (fun sv => .tuple #[.slice sv.p (digs B6 (parseVal ((cutB t).getD []))).length sv.c, .int .i64 z2]) (fun sv => [fun w => RefV w (.slice sv.p (digs B6 (parseVal ((cutB t).getD []))).length sv.c) (parseVal ((cutB t).getD []))]) (wants0 rfl)
   · intro f1 l1 hl1 w' hK; go_simp; (try go_bits); refine (rparse_q0  ((cutB t).getD []) w'  (by omega)).mono ?_; rintro e w5 ⟨y0, rfl, u0, hb⟩; obtain ⟨rfl, rfl⟩ := hl1.out; obtain ⟨p_u0, c_u0, rfl⟩ := u0.slr; exact ⟨_, rfl, (⟨p_u0, 0, c_u0⟩ : Sl), (by rw [hz2.out]), hb, .cons (fun w2 h2 => u0.below h2) (Lasts.nil _)⟩
   intro sv18
   simp only [Act.put, pA, pB, pC, pD, pE]
   iterate 5 (apply txF (wants0 rfl); (· intro w' hK; go_simp; (try go_bits); exact ⟨rfl, rfl⟩); simp only [Act.put, pA, pB, pC])
   refine txEnd (fun W19 hK => ?_)
   go_upto_region 9 with (fail)
   refine wp_region_tx w hK ?_
   clear hK
   apply txF (wants0 rfl); (· intro w' hK; go_simp; (try go_bits); exact ⟨rfl, rfl⟩); simp only [Act.put, pA, pB, pC]
   obtain ⟨b2, hb2⟩ : ∃ b : Bool, RowKit.Hid ((z1 == 3) = b) := ⟨_, hid rfl⟩
   apply txB b2 (wants0 rfl); (· intro w' hK; go_simp; (try go_bits); exact ⟨by have q := hb2.out; subst q; first | rfl | simp, rfl⟩); simp only [Act.put, pA, pB, pC]
   apply txF (wants0 rfl); (· intro w' hK; go_simp; (try go_bits); exact ⟨rfl, rfl⟩); simp only [Act.put, pA, pB, pC]
   cases b2
   · --
    apply txF (wantsg (j := 2) (d := 44) (b := false) rfl rfl rfl rfl); (· intro w' hK; go_simp; (try go_bits); exact ⟨rfl, rfl⟩); simp only [Act.put, pA, pB, pC]
    obtain ⟨b3, hb3⟩ : ∃ b : Bool, RowKit.Hid ((z2 == 3) = b) := ⟨_, hid rfl⟩
    apply txB b3 (wantsg (j := 2) (d := 44) (b := false) rfl rfl rfl rfl); (· intro w' hK; go_simp; (try go_bits); exact ⟨by have q := hb3.out; subst q; first | rfl | simp, rfl⟩); simp only [Act.put, pA, pB, pC]
    iterate 2 (apply txF (wants0 rfl); (· intro w' hK; go_simp; (try go_bits); exact ⟨rfl, rfl⟩); simp only [Act.put, pA, pB, pC])
    refine txEnd (fun W20 hK => ?_)
    cases b3
    · --
     go_upto_region 11 with (fail)
     refine wp_region_tx w hK ?_
     clear hK
     apply txF (wants0 rfl); (· intro w' hK; go_simp; (try go_bits); exact ⟨rfl, rfl⟩); simp only [Act.put, pA, pB, pC]
     obtain ⟨b4, hb4⟩ : ∃ b : Bool, RowKit.Hid ((z1 != 0) = b) := ⟨_, hid rfl⟩
     apply txB b4 (wants0 rfl); (· intro w' hK; go_simp; (try go_bits); exact ⟨by have q := hb4.out; subst q; first | rfl | simp, rfl⟩); simp only [Act.put, pA, pB, pC]
     apply txF (wants0 rfl); (· intro w' hK; go_simp; (try go_bits); exact ⟨rfl, rfl⟩); simp only [Act.put, pA, pB, pC]
     cases b4
     · --
      apply txF (wantsg (j := 2) (d := 52) (b := false) rfl rfl rfl rfl); (· intro w' hK; go_simp; (try go_bits); exact ⟨rfl, rfl⟩); simp only [Act.put, pA, pB, pC]
      obtain ⟨b5, hb5⟩ : ∃ b : Bool, RowKit.Hid ((z2 != 0) = b) := ⟨_, hid rfl⟩
      apply txB b5 (wantsg (j := 2) (d := 52) (b := false) rfl rfl rfl rfl); (· intro w' hK; go_simp; (try go_bits); exact ⟨by have q := hb5.out; subst q; first | rfl | simp, rfl⟩); simp only [Act.put, pA, pB, pC]
      iterate 2 (apply txF (wants0 rfl); (· intro w' hK; go_simp; (try go_bits); exact ⟨rfl, rfl⟩); simp only [Act.put, pA, pB, pC])
      refine txEnd (fun W21 hK => ?_)
      cases b5
      · --
       go_upto_region 13 with (fail)
       refine wp_region_tx w hK ?_
       clear hK
       iterate 3 (apply txF (wants0 rfl); (· intro w' hK; go_simp; (try go_bits); exact ⟨rfl, rfl⟩); simp only [Act.put, pA, pB, pC])
       obtain ⟨z3, hz3⟩ : ∃ b : Int, RowKit.Hid ((if (parseVal ((cutB t).getD [])) = 0 then 10 else 0) = b) := ⟨_, hid rfl⟩
       apply txE (α := Duo Sl Sl) (fun sv => .tuple #[.agg #[.bool (isN (ofS true (parseVal (cutA t)) (parseVal ((cutB t).getD [])))), .slice sv.a.p (digs B6 (numQ (ofS true (parseVal (cutA t)) (parseVal ((cutB t).getD []))))).length sv.a.c, .slice sv.b.p (digs B6 (den0 (ofS true (parseVal (cutA t)) (parseVal ((cutB t).getD []))))).length sv.b.c], .int .i64 z3]) (fun sv => [fun w => RefR w (.agg #[.bool (isN (ofS true (parseVal (cutA t)) (parseVal ((cutB t).getD [])))), .slice sv.a.p (digs B6 (numQ (ofS true (parseVal (cutA t)) (parseVal ((cutB t).getD []))))).length sv.a.c, .slice sv.b.p (digs B6 (den0 (ofS true (parseVal (cutA t)) (parseVal ((cutB t).getD []))))).length sv.b.c]) (ofS true (parseVal (cutA t)) (parseVal ((cutB t).getD []))), fun w => RefV w (.slice sv.a.p (digs B6 (numQ (ofS true (parseVal (cutA t)) (parseVal ((cutB t).getD []))))).length sv.a.c) (numQ (ofS true (parseVal (cutA t)) (parseVal ((cutB t).getD [])))), fun w => RefV w (.slice sv.b.p (digs B6 (den0 (ofS true (parseVal (cutA t)) (parseVal ((cutB t).getD []))))).length sv.b.c) (den0 (ofS true (parseVal (cutA t)) (parseVal ((cutB t).getD []))))]) (wants0 rfl)
       · intro f1 l1 hl1 w' hK; go_simp; (try go_bits); refine (rmake_q (.slice sv6.p (digs B6 (parseVal (cutA t))).length sv6.c) (.slice sv18.p (digs B6 (parseVal ((cutB t).getD []))).length sv18.c) true (parseVal (cutA t)) (parseVal ((cutB t).getD [])) w' (hK.get m2) (hK.get m0) (by omega) (by omega)).mono ?_; rintro e w5 ⟨y0, rfl, u0, hb⟩; obtain ⟨rfl, rfl⟩ := hl1.out; have u0_0 := u0; obtain ⟨p_u0, c_u0, q_u0, d_u0, rfl, u0_1, u0_2⟩ := u0.slr; exact ⟨_, rfl, (⟨⟨p_u0, 0, c_u0⟩, ⟨q_u0, 0, d_u0⟩⟩ : Duo Sl Sl), (by rw [hz3.out]), hb, .cons (fun w2 h2 => u0_0.below h2) (.cons (fun w2 h2 => u0_1.below h2) (.cons (fun w2 h2 => u0_2.below h2) (Lasts.nil _)))⟩
       intro sv22
       simp only [Act.put, pA, pB, pC, pD, pE]
       iterate 2 (apply txF (wants0 rfl); (· intro w' hK; go_simp; (try go_bits); exact ⟨rfl, rfl⟩); simp only [Act.put, pA, pB, pC])
       apply txU 6 (Has w.heap.size R1 (.cells #[.bool (isN (ofS true (parseVal (cutA t)) (parseVal ((cutB t).getD [])))), .slice sv22.a.p (digs B6 (numQ (ofS true (parseVal (cutA t)) (parseVal ((cutB t).getD []))))).length sv22.a.c, .slice sv22.b.p (digs B6 (den0 (ofS true (parseVal (cutA t)) (parseVal ((cutB t).getD []))))).length sv22.b.c] 36)) (wants0 rfl)
       · intro l1 hl1 w' hK; have k_R1 := (hK.get m6); have ⟨c_R1_0, c_R1_1, c_R1_2⟩ := k_R1.c3; have f_R1 := k_R1.fz; have ni := noInt_of k_R1 nofun; go_simp; obtain rfl := hl1.out; exact ⟨rfl, ks_put (R := R1) hK k_R1.1 0 [.bool (isN (ofS true (parseVal (cutA t)) (parseVal ((cutB t).getD [])))), .slice sv22.a.p (digs B6 (numQ (ofS true (parseVal (cutA t)) (parseVal ((cutB t).getD []))))).length sv22.a.c, .slice sv22.b.p (digs B6 (den0 (ofS true (parseVal (cutA t)) (parseVal ((cutB t).getD []))))).length sv22.b.c] (al1 (spS ni (hK.get m0)) (al1 (spR ni (hK.get m1)) (al1 (spR ni (hK.get m2)) (al1 (spR ni (hK.get m3)) (al1 (spR ni (hK.get m4)) (al1 (spR ni (hK.get m5)) (al1 (fun _ => has_put k_R1 _ _) aN)))))))⟩
       simp only [Act.put, pB, pC]
       apply txF (wants0 rfl); (· intro w' hK; go_simp; (try go_bits); exact ⟨rfl, rfl⟩); simp only [Act.put, pA, pB, pC]
       refine txEnd (fun W23 hK => ?_)
       have k_R1 := (hK.get m6); have ⟨c_R1_0, c_R1_1, c_R1_2⟩ := k_R1.c3
       go_wp2
       exact bodyPost_ret (v := .tuple #[.agg #[.bool (isN (ofS true (parseVal (cutA t)) (parseVal ((cutB t).getD [])))), .slice sv22.a.p (digs B6 (numQ (ofS true (parseVal (cutA t)) (parseVal ((cutB t).getD []))))).length sv22.a.c, .slice sv22.b.p (digs B6 (den0 (ofS true (parseVal (cutA t)) (parseVal ((cutB t).getD []))))).length sv22.b.c], .int .i64 z3]) (by simp [results, Tryz.results13, go_sem, c_R1_0, c_R1_1, c_R1_2]) rfl ((by obtain rfl := hQ0.out; exact ⟨.agg #[.bool (isN (ofS true (parseVal (cutA t)) (parseVal ((cutB t).getD [])))), .slice sv22.a.p (digs B6 (numQ (ofS true (parseVal (cutA t)) (parseVal ((cutB t).getD []))))).length sv22.a.c, .slice sv22.b.p (digs B6 (den0 (ofS true (parseVal (cutA t)) (parseVal ((cutB t).getD []))))).length sv22.b.c], (by rw [(errn_0 hmn hnm (secn_t hnm hb1.out) hz1.out hz2.out hb4.out hb5.out hz3.out).1]), (Eq.mp (congrArg (RefR _ _) (show ofS true (parseVal (cutA t)) (parseVal ((cutB t).getD [])) = valQ (45 :: t) from (errn_0 hmn hnm (secn_t hnm hb1.out) hz1.out hz2.out hb4.out hb5.out hz3.out).2)) (hK.get m0)), hK.old⟩))
      · --
       go_upto_region 12 with (fail)
       refine wp_region_tx w hK ?_
       clear hK
       apply txF (wants0 rfl); (· intro w' hK; go_simp; (try go_bits); exact ⟨rfl, rfl⟩); simp only [Act.put, pA, pB, pC]
       apply txU 3 (Has w.heap.size R1 (.cells #[.bool false, .slice none 0 0, .slice none 0 0] 36)) (wants0 rfl)
       · intro l1 hl1 w' hK; have k_R1 := (hK.get m3); have ⟨c_R1_0, c_R1_1, c_R1_2⟩ := k_R1.c3; have f_R1 := k_R1.fz; have ni := noInt_of k_R1 nofun; go_simp; obtain rfl := hl1.out; exact ⟨rfl, ks_put (R := R1) hK k_R1.1 0 [.bool false, .slice none 0 0, .slice none 0 0] (al1 (spR ni (hK.get m0)) (al1 (spR ni (hK.get m1)) (al1 (spR ni (hK.get m2)) (al1 (fun _ => has_put k_R1 _ _) aN))))⟩
       simp only [Act.put, pB, pC]
       apply txF (wants0 rfl); (· intro w' hK; go_simp; (try go_bits); exact ⟨rfl, rfl⟩); simp only [Act.put, pA, pB, pC]
       refine txEnd (fun W24 hK => ?_)
       have k_R1 := (hK.get m3); have ⟨c_R1_0, c_R1_1, c_R1_2⟩ := k_R1.c3
       go_wp2
       exact bodyPost_ret (v := .tuple #[.agg #[.bool false, .slice none 0 0, .slice none 0 0], .int .i64 6]) (by simp [results, Tryz.results13, go_sem, c_R1_0, c_R1_1, c_R1_2]) rfl ((by obtain rfl := hQ0.out; exact ⟨.agg #[.bool false, .slice none 0 0, .slice none 0 0], (by rw [(errn_6 hnm (secn_t hnm hb1.out) hz1.out hz2.out hb2.out hb3.out (.inr hb5.out)).1]), (by rw [(errn_6 hnm (secn_t hnm hb1.out) hz1.out hz2.out hb2.out hb3.out (.inr hb5.out)).2]; exact RefR.zero _), hK.old⟩))
     · --
      iterate 2 (apply txN (j := 2) (d := 52) (b := false) rfl rfl rfl rfl; simp only [Act.put, pA, pB, pC])
      iterate 2 (apply txF (wants0 rfl); (· intro w' hK; go_simp; (try go_bits); exact ⟨rfl, rfl⟩); simp only [Act.put, pA, pB, pC])
      refine txEnd (fun W25 hK => ?_)
      go_upto_region 12 with (fail)
      refine wp_region_tx w hK ?_
      clear hK
      apply txF (wants0 rfl); (· intro w' hK; go_simp; (try go_bits); exact ⟨rfl, rfl⟩); simp only [Act.put, pA, pB, pC]
      apply txU 3 (Has w.heap.size R1 (.cells #[.bool false, .slice none 0 0, .slice none 0 0] 36)) (wants0 rfl)
      · intro l1 hl1 w' hK; have k_R1 := (hK.get m3); have ⟨c_R1_0, c_R1_1, c_R1_2⟩ := k_R1.c3; have f_R1 := k_R1.fz; have ni := noInt_of k_R1 nofun; go_simp; obtain rfl := hl1.out; exact ⟨rfl, ks_put (R := R1) hK k_R1.1 0 [.bool false, .slice none 0 0, .slice none 0 0] (al1 (spR ni (hK.get m0)) (al1 (spR ni (hK.get m1)) (al1 (spR ni (hK.get m2)) (al1 (fun _ => has_put k_R1 _ _) aN))))⟩
      simp only [Act.put, pB, pC]
      apply txF (wants0 rfl); (· intro w' hK; go_simp; (try go_bits); exact ⟨rfl, rfl⟩); simp only [Act.put, pA, pB, pC]
      refine txEnd (fun W26 hK => ?_)
      have k_R1 := (hK.get m3); have ⟨c_R1_0, c_R1_1, c_R1_2⟩ := k_R1.c3
      go_wp2
      exact bodyPost_ret (v := .tuple #[.agg #[.bool false, .slice none 0 0, .slice none 0 0], .int .i64 6]) (by simp [results, Tryz.results13, go_sem, c_R1_0, c_R1_1, c_R1_2]) rfl ((by obtain rfl := hQ0.out; exact ⟨.agg #[.bool false, .slice none 0 0, .slice none 0 0], (by rw [(errn_6 hnm (secn_t hnm hb1.out) hz1.out hz2.out hb2.out hb3.out (.inl hb4.out)).1]), (by rw [(errn_6 hnm (secn_t hnm hb1.out) hz1.out hz2.out hb2.out hb3.out (.inl hb4.out)).2]; exact RefR.zero _), hK.old⟩))
    · --
     go_upto_region 10 with (fail)
     refine wp_region_tx w hK ?_
     clear hK
     apply txF (wants0 rfl); (· intro w' hK; go_simp; (try go_bits); exact ⟨rfl, rfl⟩); simp only [Act.put, pA, pB, pC]
     apply txU 3 (Has w.heap.size R1 (.cells #[.bool false, .slice none 0 0, .slice none 0 0] 36)) (wants0 rfl)
     · intro l1 hl1 w' hK; have k_R1 := (hK.get m3); have ⟨c_R1_0, c_R1_1, c_R1_2⟩ := k_R1.c3; have f_R1 := k_R1.fz; have ni := noInt_of k_R1 nofun; go_simp; obtain rfl := hl1.out; exact ⟨rfl, ks_put (R := R1) hK k_R1.1 0 [.bool false, .slice none 0 0, .slice none 0 0] (al1 (spR ni (hK.get m0)) (al1 (spR ni (hK.get m1)) (al1 (spR ni (hK.get m2)) (al1 (fun _ => has_put k_R1 _ _) aN))))⟩
     simp only [Act.put, pB, pC]
     apply txF (wants0 rfl); (· intro w' hK; go_simp; (try go_bits); exact ⟨rfl, rfl⟩); simp only [Act.put, pA, pB, pC]
     refine txEnd (fun W27 hK => ?_)
     have k_R1 := (hK.get m3); have ⟨c_R1_0, c_R1_1, c_R1_2⟩ := k_R1.c3
     go_wp2
     exact bodyPost_ret (v := .tuple #[.agg #[.bool false, .slice none 0 0, .slice none 0 0], .int .i64 3]) (by simp [results, Tryz.results13, go_sem, c_R1_0, c_R1_1, c_R1_2]) rfl ((by obtain rfl := hQ0.out; exact ⟨.agg #[.bool false, .slice none 0 0, .slice none 0 0], (by rw [(errn_3 hnm (secn_t hnm hb1.out) hz1.out hz2.out (.inr hb3.out)).1]), (by rw [(errn_3 hnm (secn_t hnm hb1.out) hz1.out hz2.out (.inr hb3.out)).2]; exact RefR.zero _), hK.old⟩))
   · --
    iterate 2 (apply txN (j := 2) (d := 44) (b := false) rfl rfl rfl rfl; simp only [Act.put, pA, pB, pC])
    iterate 2 (apply txF (wants0 rfl); (· intro w' hK; go_simp; (try go_bits); exact ⟨rfl, rfl⟩); simp only [Act.put, pA, pB, pC])
    refine txEnd (fun W28 hK => ?_)
    go_upto_region 10 with (fail)
    refine wp_region_tx w hK ?_
    clear hK
    apply txF (wants0 rfl); (· intro w' hK; go_simp; (try go_bits); exact ⟨rfl, rfl⟩); simp only [Act.put, pA, pB, pC]
    apply txU 3 (Has w.heap.size R1 (.cells #[.bool false, .slice none 0 0, .slice none 0 0] 36)) (wants0 rfl)
    · intro l1 hl1 w' hK; have k_R1 := (hK.get m3); have ⟨c_R1_0, c_R1_1, c_R1_2⟩ := k_R1.c3; have f_R1 := k_R1.fz; have ni := noInt_of k_R1 nofun; go_simp; obtain rfl := hl1.out; exact ⟨rfl, ks_put (R := R1) hK k_R1.1 0 [.bool false, .slice none 0 0, .slice none 0 0] (al1 (spR ni (hK.get m0)) (al1 (spR ni (hK.get m1)) (al1 (spR ni (hK.get m2)) (al1 (fun _ => has_put k_R1 _ _) aN))))⟩
    simp only [Act.put, pB, pC]
    apply txF (wants0 rfl); (· intro w' hK; go_simp; (try go_bits); exact ⟨rfl, rfl⟩); simp only [Act.put, pA, pB, pC]
    refine txEnd (fun W29 hK => ?_)
    have k_R1 := (hK.get m3); have ⟨c_R1_0, c_R1_1, c_R1_2⟩ := k_R1.c3
    go_wp2
    exact bodyPost_ret (v := .tuple #[.agg #[.bool false, .slice none 0 0, .slice none 0 0], .int .i64 3]) (by simp [results, Tryz.results13, go_sem, c_R1_0, c_R1_1, c_R1_2]) rfl ((by obtain rfl := hQ0.out; exact ⟨.agg #[.bool false, .slice none 0 0, .slice none 0 0], (by rw [(errn_3 hnm (secn_t hnm hb1.out) hz1.out hz2.out (.inl hb2.out)).1]), (by rw [(errn_3 hnm (secn_t hnm hb1.out) hz1.out hz2.out (.inl hb2.out)).2]; exact RefR.zero _), hK.old⟩))
set_option maxRecDepth 100000 in
theorem rparseq_pos  (c : UInt8) (t : List UInt8) (w : World)  (hl : ((c :: t) : List UInt8).length ≤ 10000) (hnm : noMinus (c :: t) = (c :: t)) (hmn : isMinus (c :: t) = false) (hc0 : RowKit.Hid (((c.toNat : Int) == 45) = false)) :
    Calls Tryz.prog 13 #[.string ⟨(c :: t).toArray⟩] w fun e w' => ∃ y0, e = .returned (.tuple #[y0, .int .i64 (errQ (c :: t))]) ∧ RefR w' y0 (valQ (c :: t)) ∧ Below w.heap.size w w' := by
  have hK : KS w [] w := (KS.start w)
  have e0 : (c :: t).length ≤ 10000 := by exact hl
  have e2 := cutA_len (c :: t)
  have e3 := cutB_len0 (c :: t)
  have e4 := pv_len6 (cutA (c :: t))
  have e5 := pv_len6 ((cutB (c :: t)).getD [])
  have e6 : (digs B6 1).length ≤ 1 := by rw [digs6_1]; exact Nat.le_refl _
  refine Calls.hide (fun Q0 hQ0 => ?_)
  go_enter Tryz.func13, Tryz.ntmps13
  go_upto_region 0 with (fail)
  refine wp_region_tx w hK ?_
  clear hK
  apply txA (.cells #[.bool false, .slice none 0 0, .slice none 0 0] 36) (wants0 rfl)
  · intro w' hK; go_simp; rfl
  intro R1 q_R1
  clear q_R1
  simp only [mkOf, Act.put, pA, pB, pC]
  apply txF (wants0 rfl); (· intro w' hK; go_simp; (try go_bits); exact ⟨rfl, rfl⟩); simp only [Act.put, pA, pB, pC]
  refine txEnd (fun W2 hK => ?_)
  go_upto_region 1 with (fail)
  refine wp_region_tx w hK ?_
  clear hK
  iterate 2 (apply txF (wants0 rfl); (· intro w' hK; go_simp; (try go_bits); exact ⟨rfl, rfl⟩); simp only [Act.put, pA, pB, pC])
  apply txF (v := .bool true) (wants0 rfl); (· intro w' hK; go_simp; (try go_bits); exact ⟨congrArg Value.bool (by first | (simp; done) | (simp; omega)), rfl⟩); simp only [Act.put, pA, pB, pC]
  apply txF (wants0 rfl); (· intro w' hK; go_simp; (try go_bits); exact ⟨rfl, rfl⟩); simp only [Act.put, pA, pB, pC]
  apply txF (wantsg (j := 3) (d := 15) (b := true) rfl rfl rfl rfl); (· intro w' hK; go_simp; (try go_bits); exact ⟨rfl, rfl⟩); simp only [Act.put, pA, pB, pC]
  apply txF (v := .int .u8 (c.toNat : Int)) (wantsg (j := 3) (d := 15) (b := true) rfl rfl rfl rfl); (· intro w' hK; go_simp; (try go_bits); exact ⟨rfl, rfl⟩); simp only [Act.put, pA, pB, pC]
  apply txF (v := .bool false) (wantsg (j := 3) (d := 15) (b := true) rfl rfl rfl rfl); (· intro w' hK; go_simp; (try go_bits); exact ⟨congrArg Value.bool hc0.out, rfl⟩); simp only [Act.put, pA, pB, pC]
  iterate 2 (apply txF (wants0 rfl); (· intro w' hK; go_simp; (try go_bits); exact ⟨rfl, rfl⟩); simp only [Act.put, pA, pB, pC])
  refine txEnd (fun W3 hK => ?_)
  go_upto_region 4 with (fail)
  refine wp_region_tx w hK ?_
  clear hK
  apply txF (wants0 rfl); (· intro w' hK; go_simp; (try go_bits); exact ⟨rfl, rfl⟩); simp only [Act.put, pA, pB, pC]
  obtain ⟨b1, hb1⟩ : ∃ b : Bool, RowKit.Hid ((cutB (c :: t)).isSome = b) := ⟨_, hid rfl⟩
  apply txH (v := .tuple #[.string ⟨(cutA (c :: t)).toArray⟩, .string ⟨((cutB (c :: t)).getD []).toArray⟩, .bool b1]) (wants0 rfl)
  · intro v1 hv1 w' hK; go_simp; (try go_bits); refine (rcut_q  (c :: t) w'  (by omega)).mono ?_; rintro e w5 ⟨rfl, hb⟩; obtain rfl := hv1.out; exact ⟨_, rfl, (by rw [hb1.out]), hb⟩
  simp only [Act.put, pA, pB, pC]
  iterate 7 (apply txF (wants0 rfl); (· intro w' hK; go_simp; (try go_bits); exact ⟨rfl, rfl⟩); simp only [Act.put, pA, pB, pC])
  refine txEnd (fun W4 hK => ?_)
  go_upto_region 5 with (fail)
  refine wp_region_tx w hK ?_
  clear hK
  apply txF (wants0 rfl); (· intro w' hK; go_simp; (try go_bits); exact ⟨rfl, rfl⟩); simp only [Act.put, pA, pB, pC]
  obtain ⟨z1, hz1⟩ : ∃ b : Int, RowKit.Hid ((parseErr (cutA (c :: t))) = b) := ⟨_, hid rfl⟩
  apply txE (α := Sl) (fun sv => .tuple #[.slice sv.p (digs B6 (parseVal (cutA (c :: t)))).length sv.c, .int .i64 z1]) (fun sv => [fun w => RefV w (.slice sv.p (digs B6 (parseVal (cutA (c :: t)))).length sv.c) (parseVal (cutA (c :: t)))]) (wants0 rfl)
  · intro f1 l1 hl1 w' hK; go_simp; (try go_bits); refine (rparse_q0  (cutA (c :: t)) w'  (by omega)).mono ?_; rintro e w5 ⟨y0, rfl, u0, hb⟩; obtain ⟨rfl, rfl⟩ := hl1.out; obtain ⟨p_u0, c_u0, rfl⟩ := u0.slr; exact ⟨_, rfl, (⟨p_u0, 0, c_u0⟩ : Sl), (by rw [hz1.out]), hb, .cons (fun w2 h2 => u0.below h2) (Lasts.nil _)⟩
  intro sv5
  simp only [Act.put, pA, pB, pC, pD, pE]
  iterate 5 (apply txF (wants0 rfl); (· intro w' hK; go_simp; (try go_bits); exact ⟨rfl, rfl⟩); simp only [Act.put, pA, pB, pC])
  refine txEnd (fun W6 hK => ?_)
  go_upto_region 6 with (fail)
  refine wp_region_tx w hK ?_
  clear hK
  apply txE (α := Sl) (fun sv => .slice sv.p (digs B6 1).length sv.c) (fun sv => [fun w => RefV w (.slice sv.p (digs B6 1).length sv.c) 1]) (wants0 rfl)
  · intro f1 l1 hl1 w' hK; go_simp; (try go_bits); refine (rof_any  1 w'  (by omega)).mono ?_; rintro e w5 ⟨y0, rfl, u0, hb⟩; obtain ⟨rfl, rfl⟩ := hl1.out; obtain ⟨p_u0, c_u0, rfl⟩ := u0.slr; exact ⟨_, rfl, (⟨p_u0, 0, c_u0⟩ : Sl), rfl, hb, .cons (fun w2 h2 => u0.below h2) (Lasts.nil _)⟩
  intro sv7
  simp only [Act.put, pA, pB, pC, pD, pE]
  iterate 2 (apply txF (wants0 rfl); (· intro w' hK; go_simp; (try go_bits); exact ⟨rfl, rfl⟩); simp only [Act.put, pA, pB, pC])
  refine txEnd (fun W8 hK => ?_)
  cases b1
  · --
   go_upto_region 9 with (fail)
   refine wp_region_tx w hK ?_
   clear hK
   apply txF (wants0 rfl); (· intro w' hK; go_simp; (try go_bits); exact ⟨rfl, rfl⟩); simp only [Act.put, pA, pB, pC]
   obtain ⟨b2, hb2⟩ : ∃ b : Bool, RowKit.Hid ((z1 == 3) = b) := ⟨_, hid rfl⟩
   apply txB b2 (wants0 rfl); (· intro w' hK; go_simp; (try go_bits); exact ⟨by have q := hb2.out; subst q; first | rfl | simp, rfl⟩); simp only [Act.put, pA, pB, pC]
   apply txF (wants0 rfl); (· intro w' hK; go_simp; (try go_bits); exact ⟨rfl, rfl⟩); simp only [Act.put, pA, pB, pC]
   cases b2
   · --
    iterate 2 (apply txF (wantsg (j := 2) (d := 44) (b := false) rfl rfl rfl rfl); (· intro w' hK; go_simp; (try go_bits); exact ⟨rfl, rfl⟩); simp only [Act.put, pA, pB, pC])
    iterate 2 (apply txF (wants0 rfl); (· intro w' hK; go_simp; (try go_bits); exact ⟨rfl, rfl⟩); simp only [Act.put, pA, pB, pC])
    refine txEnd (fun W9 hK => ?_)
    go_upto_region 11 with (fail)
    refine wp_region_tx w hK ?_
    clear hK
    apply txF (wants0 rfl); (· intro w' hK; go_simp; (try go_bits); exact ⟨rfl, rfl⟩); simp only [Act.put, pA, pB, pC]
    obtain ⟨b3, hb3⟩ : ∃ b : Bool, RowKit.Hid ((z1 != 0) = b) := ⟨_, hid rfl⟩
    apply txB b3 (wants0 rfl); (· intro w' hK; go_simp; (try go_bits); exact ⟨by have q := hb3.out; subst q; first | rfl | simp, rfl⟩); simp only [Act.put, pA, pB, pC]
    apply txF (wants0 rfl); (· intro w' hK; go_simp; (try go_bits); exact ⟨rfl, rfl⟩); simp only [Act.put, pA, pB, pC]
    cases b3
    · --
     iterate 2 (apply txF (wantsg (j := 2) (d := 52) (b := false) rfl rfl rfl rfl); (· intro w' hK; go_simp; (try go_bits); exact ⟨rfl, rfl⟩); simp only [Act.put, pA, pB, pC])
     iterate 2 (apply txF (wants0 rfl); (· intro w' hK; go_simp; (try go_bits); exact ⟨rfl, rfl⟩); simp only [Act.put, pA, pB, pC])
     refine txEnd (fun W10 hK => ?_)
     go_upto_region 13 with (fail)
     refine wp_region_tx w hK ?_
     clear hK
     iterate 3 (apply txF (wants0 rfl); (· intro w' hK; go_simp; (try go_bits); exact ⟨rfl, rfl⟩); simp only [Act.put, pA, pB, pC])
     obtain ⟨z2, hz2⟩ : ∃ b : Int, RowKit.Hid ((if 1 = 0 then 10 else 0) = b) := ⟨_, hid rfl⟩
     apply txE (α := Duo Sl Sl) (fun sv => .tuple #[.agg #[.bool (isN (ofS false (parseVal (cutA (c :: t))) 1)), .slice sv.a.p (digs B6 (numQ (ofS false (parseVal (cutA (c :: t))) 1))).length sv.a.c, .slice sv.b.p (digs B6 (den0 (ofS false (parseVal (cutA (c :: t))) 1))).length sv.b.c], .int .i64 z2]) (fun sv => [fun w => RefR w (.agg #[.bool (isN (ofS false (parseVal (cutA (c :: t))) 1)), .slice sv.a.p (digs B6 (numQ (ofS false (parseVal (cutA (c :: t))) 1))).length sv.a.c, .slice sv.b.p (digs B6 (den0 (ofS false (parseVal (cutA (c :: t))) 1))).length sv.b.c]) (ofS false (parseVal (cutA (c :: t))) 1), fun w => RefV w (.slice sv.a.p (digs B6 (numQ (ofS false (parseVal (cutA (c :: t))) 1))).length sv.a.c) (numQ (ofS false (parseVal (cutA (c :: t))) 1)), fun w => RefV w (.slice sv.b.p (digs B6 (den0 (ofS false (parseVal (cutA (c :: t))) 1))).length sv.b.c) (den0 (ofS false (parseVal (cutA (c :: t))) 1))]) (wants0 rfl)
     · intro f1 l1 hl1 w' hK; go_simp; (try go_bits); refine (rmake_q (.slice sv5.p (digs B6 (parseVal (cutA (c :: t)))).length sv5.c) (.slice sv7.p (digs B6 1).length sv7.c) false (parseVal (cutA (c :: t))) 1 w' (hK.get m1) (hK.get m0) (by omega) (by omega)).mono ?_; rintro e w5 ⟨y0, rfl, u0, hb⟩; obtain ⟨rfl, rfl⟩ := hl1.out; have u0_0 := u0; obtain ⟨p_u0, c_u0, q_u0, d_u0, rfl, u0_1, u0_2⟩ := u0.slr; exact ⟨_, rfl, (⟨⟨p_u0, 0, c_u0⟩, ⟨q_u0, 0, d_u0⟩⟩ : Duo Sl Sl), (by rw [hz2.out]), hb, .cons (fun w2 h2 => u0_0.below h2) (.cons (fun w2 h2 => u0_1.below h2) (.cons (fun w2 h2 => u0_2.below h2) (Lasts.nil _)))⟩
     intro sv11
     simp only [Act.put, pA, pB, pC, pD, pE]
     iterate 2 (apply txF (wants0 rfl); (· intro w' hK; go_simp; (try go_bits); exact ⟨rfl, rfl⟩); simp only [Act.put, pA, pB, pC])
     apply txU 5 (Has w.heap.size R1 (.cells #[.bool (isN (ofS false (parseVal (cutA (c :: t))) 1)), .slice sv11.a.p (digs B6 (numQ (ofS false (parseVal (cutA (c :: t))) 1))).length sv11.a.c, .slice sv11.b.p (digs B6 (den0 (ofS false (parseVal (cutA (c :: t))) 1))).length sv11.b.c] 36)) (wants0 rfl)
     · intro l1 hl1 w' hK; have k_R1 := (hK.get m5); have ⟨c_R1_0, c_R1_1, c_R1_2⟩ := k_R1.c3; have f_R1 := k_R1.fz; have ni := noInt_of k_R1 nofun; go_simp; obtain rfl := hl1.out; exact ⟨rfl, ks_put (R := R1) hK k_R1.1 0 [.bool (isN (ofS false (parseVal (cutA (c :: t))) 1)), .slice sv11.a.p (digs B6 (numQ (ofS false (parseVal (cutA (c :: t))) 1))).length sv11.a.c, .slice sv11.b.p (digs B6 (den0 (ofS false (parseVal (cutA (c :: t))) 1))).length sv11.b.c] (al1 (spS ni (hK.get m0)) (al1 (spR ni (hK.get m1)) (al1 (spR ni (hK.get m2)) (al1 (spR ni (hK.get m3)) (al1 (spR ni (hK.get m4)) (al1 (fun _ => has_put k_R1 _ _) aN))))))⟩
     simp only [Act.put, pB, pC]
     apply txF (wants0 rfl); (· intro w' hK; go_simp; (try go_bits); exact ⟨rfl, rfl⟩); simp only [Act.put, pA, pB, pC]
     refine txEnd (fun W12 hK => ?_)
     have k_R1 := (hK.get m5); have ⟨c_R1_0, c_R1_1, c_R1_2⟩ := k_R1.c3
     go_wp2
     exact bodyPost_ret (v := .tuple #[.agg #[.bool (isN (ofS false (parseVal (cutA (c :: t))) 1)), .slice sv11.a.p (digs B6 (numQ (ofS false (parseVal (cutA (c :: t))) 1))).length sv11.a.c, .slice sv11.b.p (digs B6 (den0 (ofS false (parseVal (cutA (c :: t))) 1))).length sv11.b.c], .int .i64 z2]) (by simp [results, Tryz.results13, go_sem, c_R1_0, c_R1_1, c_R1_2]) rfl ((by obtain rfl := hQ0.out; exact ⟨.agg #[.bool (isN (ofS false (parseVal (cutA (c :: t))) 1)), .slice sv11.a.p (digs B6 (numQ (ofS false (parseVal (cutA (c :: t))) 1))).length sv11.a.c, .slice sv11.b.p (digs B6 (den0 (ofS false (parseVal (cutA (c :: t))) 1))).length sv11.b.c], (by rw [(errn_0 hmn hnm (secn_f hnm hb1.out) hz1.out parse49.2 hb3.out rfl (z := z2) (by rw [parse49.1]; exact hz2.out)).1]), (Eq.mp (congrArg (RefR _ _) (show ofS false (parseVal (cutA (c :: t))) 1 = valQ (c :: t) from (by have q := (errn_0 hmn hnm (secn_f hnm hb1.out) hz1.out parse49.2 hb3.out rfl (z := z2) (by rw [parse49.1]; exact hz2.out)).2; rwa [parse49.1] at q))) (hK.get m0)), hK.old⟩))
    · --
     iterate 2 (apply txN (j := 2) (d := 52) (b := false) rfl rfl rfl rfl; simp only [Act.put, pA, pB, pC])
     iterate 2 (apply txF (wants0 rfl); (· intro w' hK; go_simp; (try go_bits); exact ⟨rfl, rfl⟩); simp only [Act.put, pA, pB, pC])
     refine txEnd (fun W13 hK => ?_)
     go_upto_region 12 with (fail)
     refine wp_region_tx w hK ?_
     clear hK
     apply txF (wants0 rfl); (· intro w' hK; go_simp; (try go_bits); exact ⟨rfl, rfl⟩); simp only [Act.put, pA, pB, pC]
     apply txU 2 (Has w.heap.size R1 (.cells #[.bool false, .slice none 0 0, .slice none 0 0] 36)) (wants0 rfl)
     · intro l1 hl1 w' hK; have k_R1 := (hK.get m2); have ⟨c_R1_0, c_R1_1, c_R1_2⟩ := k_R1.c3; have f_R1 := k_R1.fz; have ni := noInt_of k_R1 nofun; go_simp; obtain rfl := hl1.out; exact ⟨rfl, ks_put (R := R1) hK k_R1.1 0 [.bool false, .slice none 0 0, .slice none 0 0] (al1 (spR ni (hK.get m0)) (al1 (spR ni (hK.get m1)) (al1 (fun _ => has_put k_R1 _ _) aN)))⟩
     simp only [Act.put, pB, pC]
     apply txF (wants0 rfl); (· intro w' hK; go_simp; (try go_bits); exact ⟨rfl, rfl⟩); simp only [Act.put, pA, pB, pC]
     refine txEnd (fun W14 hK => ?_)
     have k_R1 := (hK.get m2); have ⟨c_R1_0, c_R1_1, c_R1_2⟩ := k_R1.c3
     go_wp2
     exact bodyPost_ret (v := .tuple #[.agg #[.bool false, .slice none 0 0, .slice none 0 0], .int .i64 6]) (by simp [results, Tryz.results13, go_sem, c_R1_0, c_R1_1, c_R1_2]) rfl ((by obtain rfl := hQ0.out; exact ⟨.agg #[.bool false, .slice none 0 0, .slice none 0 0], (by rw [(errn_6 hnm (secn_f hnm hb1.out) hz1.out parse49.2 hb2.out rfl (.inl hb3.out)).1]), (by rw [(errn_6 hnm (secn_f hnm hb1.out) hz1.out parse49.2 hb2.out rfl (.inl hb3.out)).2]; exact RefR.zero _), hK.old⟩))
   · --
    iterate 2 (apply txN (j := 2) (d := 44) (b := false) rfl rfl rfl rfl; simp only [Act.put, pA, pB, pC])
    iterate 2 (apply txF (wants0 rfl); (· intro w' hK; go_simp; (try go_bits); exact ⟨rfl, rfl⟩); simp only [Act.put, pA, pB, pC])
    refine txEnd (fun W15 hK => ?_)
    go_upto_region 10 with (fail)
    refine wp_region_tx w hK ?_
    clear hK
    apply txF (wants0 rfl); (· intro w' hK; go_simp; (try go_bits); exact ⟨rfl, rfl⟩); simp only [Act.put, pA, pB, pC]
    apply txU 2 (Has w.heap.size R1 (.cells #[.bool false, .slice none 0 0, .slice none 0 0] 36)) (wants0 rfl)
    · intro l1 hl1 w' hK; have k_R1 := (hK.get m2); have ⟨c_R1_0, c_R1_1, c_R1_2⟩ := k_R1.c3; have f_R1 := k_R1.fz; have ni := noInt_of k_R1 nofun; go_simp; obtain rfl := hl1.out; exact ⟨rfl, ks_put (R := R1) hK k_R1.1 0 [.bool false, .slice none 0 0, .slice none 0 0] (al1 (spR ni (hK.get m0)) (al1 (spR ni (hK.get m1)) (al1 (fun _ => has_put k_R1 _ _) aN)))⟩
    simp only [Act.put, pB, pC]
    apply txF (wants0 rfl); (· intro w' hK; go_simp; (try go_bits); exact ⟨rfl, rfl⟩); simp only [Act.put, pA, pB, pC]
    refine txEnd (fun W16 hK => ?_)
    have k_R1 := (hK.get m2); have ⟨c_R1_0, c_R1_1, c_R1_2⟩ := k_R1.c3
    go_wp2
    exact bodyPost_ret (v := .tuple #[.agg #[.bool false, .slice none 0 0, .slice none 0 0], .int .i64 3]) (by simp [results, Tryz.results13, go_sem, c_R1_0, c_R1_1, c_R1_2]) rfl ((by obtain rfl := hQ0.out; exact ⟨.agg #[.bool false, .slice none 0 0, .slice none 0 0], (by rw [(errn_3 hnm (secn_f hnm hb1.out) hz1.out parse49.2 (.inl hb2.out)).1]), (by rw [(errn_3 hnm (secn_f hnm hb1.out) hz1.out parse49.2 (.inl hb2.out)).2]; exact RefR.zero _), hK.old⟩))
  · --
   go_upto_region 8 with (fail)
   refine wp_region_tx w hK ?_
   clear hK
   apply txF (wants0 rfl); (· intro w' hK; go_simp; (try go_bits); exact ⟨rfl, rfl⟩); simp only [Act.put, pA, pB, pC]
   obtain ⟨z2, hz2⟩ : ∃ b : Int, RowKit.Hid ((parseErr ((cutB (c :: t)).getD [])) = b) := ⟨_, hid rfl⟩
   apply txE (α := Sl) (fun sv => .tuple #[.slice sv.p (digs B6 (parseVal ((cutB (c :: t)).getD []))).length sv.c, .int .i64 z2]) (fun sv => [fun w => RefV w (.slice sv.p (digs B6 (parseVal ((cutB (c :: t)).getD []))).length sv.c) (parseVal ((cutB (c :: t)).getD []))]) (wants0 rfl)
   · intro f1 l1 hl1 w' hK; go_simp; (try go_bits); refine (rparse_q0  ((cutB (c :: t)).getD []) w'  (by omega)).mono ?_; rintro e w5 ⟨y0, rfl, u0, hb⟩; obtain ⟨rfl, rfl⟩ := hl1.out; obtain ⟨p_u0, c_u0, rfl⟩ := u0.slr; exact ⟨_, rfl, (⟨p_u0, 0, c_u0⟩ : Sl), (by rw [hz2.out]), hb, .cons (fun w2 h2 => u0.below h2) (Lasts.nil _)⟩
   intro sv17
   simp only [Act.put, pA, pB, pC, pD, pE]
   iterate 5 (apply txF (wants0 rfl); (· intro w' hK; go_simp; (try go_bits); exact ⟨rfl, rfl⟩); simp only [Act.put, pA, pB, pC])
   refine txEnd (fun W18 hK => ?_)
   go_upto_region 9 with (fail)
   refine wp_region_tx w hK ?_
   clear hK
   apply txF (wants0 rfl); (· intro w' hK; go_simp; (try go_bits); exact ⟨rfl, rfl⟩); simp only [Act.put, pA, pB, pC]
   obtain ⟨b2, hb2⟩ : ∃ b : Bool, RowKit.Hid ((z1 == 3) = b) := ⟨_, hid rfl⟩
   apply txB b2 (wants0 rfl); (· intro w' hK; go_simp; (try go_bits); exact ⟨by have q := hb2.out; subst q; first | rfl | simp, rfl⟩); simp only [Act.put, pA, pB, pC]
   apply txF (wants0 rfl); (· intro w' hK; go_simp; (try go_bits); exact ⟨rfl, rfl⟩); simp only [Act.put, pA, pB, pC]
   cases b2
   · --
    apply txF (wantsg (j := 2) (d := 44) (b := false) rfl rfl rfl rfl); (· intro w' hK; go_simp; (try go_bits); exact ⟨rfl, rfl⟩); simp only [Act.put, pA, pB, pC]
    obtain ⟨b3, hb3⟩ : ∃ b : Bool, RowKit.Hid ((z2 == 3) = b) := ⟨_, hid rfl⟩
    apply txB b3 (wantsg (j := 2) (d := 44) (b := false) rfl rfl rfl rfl); (· intro w' hK; go_simp; (try go_bits); exact ⟨by have q := hb3.out; subst q; first | rfl | simp, rfl⟩); simp only [Act.put, pA, pB, pC]
    iterate 2 (apply txF (wants0 rfl); (· intro w' hK; go_simp; (try go_bits); exact ⟨rfl, rfl⟩); simp only [Act.put, pA, pB, pC])
    refine txEnd (fun W19 hK => ?_)
    cases b3
    · --
     go_upto_region 11 with (fail)
     refine wp_region_tx w hK ?_
     clear hK
     apply txF (wants0 rfl); (· intro w' hK; go_simp; (try go_bits); exact ⟨rfl, rfl⟩); simp only [Act.put, pA, pB, pC]
     obtain ⟨b4, hb4⟩ : ∃ b : Bool, RowKit.Hid ((z1 != 0) = b) := ⟨_, hid rfl⟩
     apply txB b4 (wants0 rfl); (· intro w' hK; go_simp; (try go_bits); exact ⟨by have q := hb4.out; subst q; first | rfl | simp, rfl⟩); simp only [Act.put, pA, pB, pC]
     apply txF (wants0 rfl); (· intro w' hK; go_simp; (try go_bits); exact ⟨rfl, rfl⟩); simp only [Act.put, pA, pB, pC]
     cases b4
     · --
      apply txF (wantsg (j := 2) (d := 52) (b := false) rfl rfl rfl rfl); (· intro w' hK; go_simp; (try go_bits); exact ⟨rfl, rfl⟩); simp only [Act.put, pA, pB, pC]
      obtain ⟨b5, hb5⟩ : ∃ b : Bool, RowKit.Hid ((z2 != 0) = b) := ⟨_, hid rfl⟩
      apply txB b5 (wantsg (j := 2) (d := 52) (b := false) rfl rfl rfl rfl); (· intro w' hK; go_simp; (try go_bits); exact ⟨by have q := hb5.out; subst q; first | rfl | simp, rfl⟩); simp only [Act.put, pA, pB, pC]
      iterate 2 (apply txF (wants0 rfl); (· intro w' hK; go_simp; (try go_bits); exact ⟨rfl, rfl⟩); simp only [Act.put, pA, pB, pC])
      refine txEnd (fun W20 hK => ?_)
      cases b5
      · --
       go_upto_region 13 with (fail)
       refine wp_region_tx w hK ?_
       clear hK
       iterate 3 (apply txF (wants0 rfl); (· intro w' hK; go_simp; (try go_bits); exact ⟨rfl, rfl⟩); simp only [Act.put, pA, pB, pC])
       obtain ⟨z3, hz3⟩ : ∃ b : Int, RowKit.Hid ((if (parseVal ((cutB (c :: t)).getD [])) = 0 then 10 else 0) = b) := ⟨_, hid rfl⟩
       apply txE (α := Duo Sl Sl) (fun sv => .tuple #[.agg #[.bool (isN (ofS false (parseVal (cutA (c :: t))) (parseVal ((cutB (c :: t)).getD [])))), .slice sv.a.p (digs B6 (numQ (ofS false (parseVal (cutA (c :: t))) (parseVal ((cutB (c :: t)).getD []))))).length sv.a.c, .slice sv.b.p (digs B6 (den0 (ofS false (parseVal (cutA (c :: t))) (parseVal ((cutB (c :: t)).getD []))))).length sv.b.c], .int .i64 z3]) (fun sv => [fun w => RefR w (.agg #[.bool (isN (ofS false (parseVal (cutA (c :: t))) (parseVal ((cutB (c :: t)).getD [])))), .slice sv.a.p (digs B6 (numQ (ofS false (parseVal (cutA (c :: t))) (parseVal ((cutB (c :: t)).getD []))))).length sv.a.c, .slice sv.b.p (digs B6 (den0 (ofS false (parseVal (cutA (c :: t))) (parseVal ((cutB (c :: t)).getD []))))).length sv.b.c]) (ofS false (parseVal (cutA (c :: t))) (parseVal ((cutB (c :: t)).getD []))), fun w => RefV w (.slice sv.a.p (digs B6 (numQ (ofS false (parseVal (cutA (c :: t))) (parseVal ((cutB (c :: t)).getD []))))).length sv.a.c) (numQ (ofS false (parseVal (cutA (c :: t))) (parseVal ((cutB (c :: t)).getD [])))), fun w => RefV w (.slice sv.b.p (digs B6 (den0 (ofS false (parseVal (cutA (c :: t))) (parseVal ((cutB (c :: t)).getD []))))).length sv.b.c) (den0 (ofS false (parseVal (cutA (c :: t))) (parseVal ((cutB (c :: t)).getD []))))]) (wants0 rfl)
       · intro f1 l1 hl1 w' hK; go_simp; (try go_bits); refine (rmake_q (.slice sv5.p (digs B6 (parseVal (cutA (c :: t)))).length sv5.c) (.slice sv17.p (digs B6 (parseVal ((cutB (c :: t)).getD []))).length sv17.c) false (parseVal (cutA (c :: t))) (parseVal ((cutB (c :: t)).getD [])) w' (hK.get m2) (hK.get m0) (by omega) (by omega)).mono ?_; rintro e w5 ⟨y0, rfl, u0, hb⟩; obtain ⟨rfl, rfl⟩ := hl1.out; have u0_0 := u0; obtain ⟨p_u0, c_u0, q_u0, d_u0, rfl, u0_1, u0_2⟩ := u0.slr; exact ⟨_, rfl, (⟨⟨p_u0, 0, c_u0⟩, ⟨q_u0, 0, d_u0⟩⟩ : Duo Sl Sl), (by rw [hz3.out]), hb, .cons (fun w2 h2 => u0_0.below h2) (.cons (fun w2 h2 => u0_1.below h2) (.cons (fun w2 h2 => u0_2.below h2) (Lasts.nil _)))⟩
       intro sv21
       simp only [Act.put, pA, pB, pC, pD, pE]
       iterate 2 (apply txF (wants0 rfl); (· intro w' hK; go_simp; (try go_bits); exact ⟨rfl, rfl⟩); simp only [Act.put, pA, pB, pC])
       apply txU 6 (Has w.heap.size R1 (.cells #[.bool (isN (ofS false (parseVal (cutA (c :: t))) (parseVal ((cutB (c :: t)).getD [])))), .slice sv21.a.p (digs B6 (numQ (ofS false (parseVal (cutA (c :: t))) (parseVal ((cutB (c :: t)).getD []))))).length sv21.a.c, .slice sv21.b.p (digs B6 (den0 (ofS false (parseVal (cutA (c :: t))) (parseVal ((cutB (c :: t)).getD []))))).length sv21.b.c] 36)) (wants0 rfl)
       · intro l1 hl1 w' hK; have k_R1 := (hK.get m6); have ⟨c_R1_0, c_R1_1, c_R1_2⟩ := k_R1.c3; have f_R1 := k_R1.fz; have ni := noInt_of k_R1 nofun; go_simp; obtain rfl := hl1.out; exact ⟨rfl, ks_put (R := R1) hK k_R1.1 0 [.bool (isN (ofS false (parseVal (cutA (c :: t))) (parseVal ((cutB (c :: t)).getD [])))), .slice sv21.a.p (digs B6 (numQ (ofS false (parseVal (cutA (c :: t))) (parseVal ((cutB (c :: t)).getD []))))).length sv21.a.c, .slice sv21.b.p (digs B6 (den0 (ofS false (parseVal (cutA (c :: t))) (parseVal ((cutB (c :: t)).getD []))))).length sv21.b.c] (al1 (spS ni (hK.get m0)) (al1 (spR ni (hK.get m1)) (al1 (spR ni (hK.get m2)) (al1 (spR ni (hK.get m3)) (al1 (spR ni (hK.get m4)) (al1 (spR ni (hK.get m5)) (al1 (fun _ => has_put k_R1 _ _) aN)))))))⟩
       simp only [Act.put, pB, pC]
       apply txF (wants0 rfl); (· intro w' hK; go_simp; (try go_bits); exact ⟨rfl, rfl⟩); simp only [Act.put, pA, pB, pC]
       refine txEnd (fun W22 hK => ?_)
       have k_R1 := (hK.get m6); have ⟨c_R1_0, c_R1_1, c_R1_2⟩ := k_R1.c3
       go_wp2
       exact bodyPost_ret (v := .tuple #[.agg #[.bool (isN (ofS false (parseVal (cutA (c :: t))) (parseVal ((cutB (c :: t)).getD [])))), .slice sv21.a.p (digs B6 (numQ (ofS false (parseVal (cutA (c :: t))) (parseVal ((cutB (c :: t)).getD []))))).length sv21.a.c, .slice sv21.b.p (digs B6 (den0 (ofS false (parseVal (cutA (c :: t))) (parseVal ((cutB (c :: t)).getD []))))).length sv21.b.c], .int .i64 z3]) (by simp [results, Tryz.results13, go_sem, c_R1_0, c_R1_1, c_R1_2]) rfl ((by obtain rfl := hQ0.out; exact ⟨.agg #[.bool (isN (ofS false (parseVal (cutA (c :: t))) (parseVal ((cutB (c :: t)).getD [])))), .slice sv21.a.p (digs B6 (numQ (ofS false (parseVal (cutA (c :: t))) (parseVal ((cutB (c :: t)).getD []))))).length sv21.a.c, .slice sv21.b.p (digs B6 (den0 (ofS false (parseVal (cutA (c :: t))) (parseVal ((cutB (c :: t)).getD []))))).length sv21.b.c], (by rw [(errn_0 hmn hnm (secn_t hnm hb1.out) hz1.out hz2.out hb4.out hb5.out hz3.out).1]), (Eq.mp (congrArg (RefR _ _) (show ofS false (parseVal (cutA (c :: t))) (parseVal ((cutB (c :: t)).getD [])) = valQ (c :: t) from (errn_0 hmn hnm (secn_t hnm hb1.out) hz1.out hz2.out hb4.out hb5.out hz3.out).2)) (hK.get m0)), hK.old⟩))
      · --
       go_upto_region 12 with (fail)
       refine wp_region_tx w hK ?_
       clear hK
       apply txF (wants0 rfl); (· intro w' hK; go_simp; (try go_bits); exact ⟨rfl, rfl⟩); simp only [Act.put, pA, pB, pC]
       apply txU 3 (Has w.heap.size R1 (.cells #[.bool false, .slice none 0 0, .slice none 0 0] 36)) (wants0 rfl)
       · intro l1 hl1 w' hK; have k_R1 := (hK.get m3); have ⟨c_R1_0, c_R1_1, c_R1_2⟩ := k_R1.c3; have f_R1 := k_R1.fz; have ni := noInt_of k_R1 nofun; go_simp; obtain rfl := hl1.out; exact ⟨rfl, ks_put (R := R1) hK k_R1.1 0 [.bool false, .slice none 0 0, .slice none 0 0] (al1 (spR ni (hK.get m0)) (al1 (spR ni (hK.get m1)) (al1 (spR ni (hK.get m2)) (al1 (fun _ => has_put k_R1 _ _) aN))))⟩
       simp only [Act.put, pB, pC]
       apply txF (wants0 rfl); (· intro w' hK; go_simp; (try go_bits); exact ⟨rfl, rfl⟩); simp only [Act.put, pA, pB, pC]
       refine txEnd (fun W23 hK => ?_)
       have k_R1 := (hK.get m3); have ⟨c_R1_0, c_R1_1, c_R1_2⟩ := k_R1.c3
       go_wp2
       exact bodyPost_ret (v := .tuple #[.agg #[.bool false, .slice none 0 0, .slice none 0 0], .int .i64 6]) (by simp [results, Tryz.results13, go_sem, c_R1_0, c_R1_1, c_R1_2]) rfl ((by obtain rfl := hQ0.out; exact ⟨.agg #[.bool false, .slice none 0 0, .slice none 0 0], (by rw [(errn_6 hnm (secn_t hnm hb1.out) hz1.out hz2.out hb2.out hb3.out (.inr hb5.out)).1]), (by rw [(errn_6 hnm (secn_t hnm hb1.out) hz1.out hz2.out hb2.out hb3.out (.inr hb5.out)).2]; exact RefR.zero _), hK.old⟩))
     · --
      iterate 2 (apply txN (j := 2) (d := 52) (b := false) rfl rfl rfl rfl; simp only [Act.put, pA, pB, pC])
      iterate 2 (apply txF (wants0 rfl); (· intro w' hK; go_simp; (try go_bits); exact ⟨rfl, rfl⟩); simp only [Act.put, pA, pB, pC])
      refine txEnd (fun W24 hK => ?_)
      go_upto_region 12 with (fail)
      refine wp_region_tx w hK ?_
      clear hK
      apply txF (wants0 rfl); (· intro w' hK; go_simp; (try go_bits); exact ⟨rfl, rfl⟩); simp only [Act.put, pA, pB, pC]
      apply txU 3 (Has w.heap.size R1 (.cells #[.bool false, .slice none 0 0, .slice none 0 0] 36)) (wants0 rfl)
      · intro l1 hl1 w' hK; have k_R1 := (hK.get m3); have ⟨c_R1_0, c_R1_1, c_R1_2⟩ := k_R1.c3; have f_R1 := k_R1.fz; have ni := noInt_of k_R1 nofun; go_simp; obtain rfl := hl1.out; exact ⟨rfl, ks_put (R := R1) hK k_R1.1 0 [.bool false, .slice none 0 0, .slice none 0 0] (al1 (spR ni (hK.get m0)) (al1 (spR ni (hK.get m1)) (al1 (spR ni (hK.get m2)) (al1 (fun _ => has_put k_R1 _ _) aN))))⟩
      simp only [Act.put, pB, pC]
      apply txF (wants0 rfl); (· intro w' hK; go_simp; (try go_bits); exact ⟨rfl, rfl⟩); simp only [Act.put, pA, pB, pC]
      refine txEnd (fun W25 hK => ?_)
      have k_R1 := (hK.get m3); have ⟨c_R1_0, c_R1_1, c_R1_2⟩ := k_R1.c3
      go_wp2
      exact bodyPost_ret (v := .tuple #[.agg #[.bool false, .slice none 0 0, .slice none 0 0], .int .i64 6]) (by simp [results, Tryz.results13, go_sem, c_R1_0, c_R1_1, c_R1_2]) rfl ((by obtain rfl := hQ0.out; exact ⟨.agg #[.bool false, .slice none 0 0, .slice none 0 0], (by rw [(errn_6 hnm (secn_t hnm hb1.out) hz1.out hz2.out hb2.out hb3.out (.inl hb4.out)).1]), (by rw [(errn_6 hnm (secn_t hnm hb1.out) hz1.out hz2.out hb2.out hb3.out (.inl hb4.out)).2]; exact RefR.zero _), hK.old⟩))
    · --
     go_upto_region 10 with (fail)
     refine wp_region_tx w hK ?_
     clear hK
     apply txF (wants0 rfl); (· intro w' hK; go_simp; (try go_bits); exact ⟨rfl, rfl⟩); simp only [Act.put, pA, pB, pC]
     apply txU 3 (Has w.heap.size R1 (.cells #[.bool false, .slice none 0 0, .slice none 0 0] 36)) (wants0 rfl)
     · intro l1 hl1 w' hK; have k_R1 := (hK.get m3); have ⟨c_R1_0, c_R1_1, c_R1_2⟩ := k_R1.c3; have f_R1 := k_R1.fz; have ni := noInt_of k_R1 nofun; go_simp; obtain rfl := hl1.out; exact ⟨rfl, ks_put (R := R1) hK k_R1.1 0 [.bool false, .slice none 0 0, .slice none 0 0] (al1 (spR ni (hK.get m0)) (al1 (spR ni (hK.get m1)) (al1 (spR ni (hK.get m2)) (al1 (fun _ => has_put k_R1 _ _) aN))))⟩
     simp only [Act.put, pB, pC]
     apply txF (wants0 rfl); (· intro w' hK; go_simp; (try go_bits); exact ⟨rfl, rfl⟩); simp only [Act.put, pA, pB, pC]
     refine txEnd (fun W26 hK => ?_)
     have k_R1 := (hK.get m3); have ⟨c_R1_0, c_R1_1, c_R1_2⟩ := k_R1.c3
     go_wp2
     exact bodyPost_ret (v := .tuple #[.agg #[.bool false, .slice none 0 0, .slice none 0 0], .int .i64 3]) (by simp [results, Tryz.results13, go_sem, c_R1_0, c_R1_1, c_R1_2]) rfl ((by obtain rfl := hQ0.out; exact ⟨.agg #[.bool false, .slice none 0 0, .slice none 0 0], (by rw [(errn_3 hnm (secn_t hnm hb1.out) hz1.out hz2.out (.inr hb3.out)).1]), (by rw [(errn_3 hnm (secn_t hnm hb1.out) hz1.out hz2.out (.inr hb3.out)).2]; exact RefR.zero _), hK.old⟩))
   · --
    iterate 2 (apply txN (j := 2) (d := 44) (b := false) rfl rfl rfl rfl; simp only [Act.put, pA, pB, pC])
    iterate 2 (apply txF (wants0 rfl); (· intro w' hK; go_simp; (try go_bits); exact ⟨rfl, rfl⟩); simp only [Act.put, pA, pB, pC])
    refine txEnd (fun W27 hK => ?_)
    go_upto_region 10 with (fail)
    refine wp_region_tx w hK ?_
    clear hK
    apply txF (wants0 rfl); (· intro w' hK; go_simp; (try go_bits); exact ⟨rfl, rfl⟩); simp only [Act.put, pA, pB, pC]
    apply txU 3 (Has w.heap.size R1 (.cells #[.bool false, .slice none 0 0, .slice none 0 0] 36)) (wants0 rfl)
    · intro l1 hl1 w' hK; have k_R1 := (hK.get m3); have ⟨c_R1_0, c_R1_1, c_R1_2⟩ := k_R1.c3; have f_R1 := k_R1.fz; have ni := noInt_of k_R1 nofun; go_simp; obtain rfl := hl1.out; exact ⟨rfl, ks_put (R := R1) hK k_R1.1 0 [.bool false, .slice none 0 0, .slice none 0 0] (al1 (spR ni (hK.get m0)) (al1 (spR ni (hK.get m1)) (al1 (spR ni (hK.get m2)) (al1 (fun _ => has_put k_R1 _ _) aN))))⟩
    simp only [Act.put, pB, pC]
    apply txF (wants0 rfl); (· intro w' hK; go_simp; (try go_bits); exact ⟨rfl, rfl⟩); simp only [Act.put, pA, pB, pC]
    refine txEnd (fun W28 hK => ?_)
    have k_R1 := (hK.get m3); have ⟨c_R1_0, c_R1_1, c_R1_2⟩ := k_R1.c3
    go_wp2
    exact bodyPost_ret (v := .tuple #[.agg #[.bool false, .slice none 0 0, .slice none 0 0], .int .i64 3]) (by simp [results, Tryz.results13, go_sem, c_R1_0, c_R1_1, c_R1_2]) rfl ((by obtain rfl := hQ0.out; exact ⟨.agg #[.bool false, .slice none 0 0, .slice none 0 0], (by rw [(errn_3 hnm (secn_t hnm hb1.out) hz1.out hz2.out (.inl hb2.out)).1]), (by rw [(errn_3 hnm (secn_t hnm hb1.out) hz1.out hz2.out (.inl hb2.out)).2]; exact RefR.zero _), hK.old⟩))
theorem qparse_r (l : List UInt8) (w : World) (hl : l.length ≤ 10000) :
    Calls Tryz.prog 13 #[.string ⟨l.toArray⟩] w fun e w' => ∃ y0, e = .returned (.tuple #[y0, .int .i64 (errQ l)]) ∧ RefR w' y0 (valQ l) ∧ Below w.heap.size w w' := by
  cases l with
  | nil => exact rparseq_nil w hl rfl rfl
  | cons c t =>
    by_cases h : c = 45
    · subst h
      exact rparseq_min t w hl (by simp [noMinus]) (by simp [isMinus])
    · refine rparseq_pos c t w hl (by simp [noMinus, h]) (by simp [isMinus, h]) (hid ?_)
      have h2 : c.toNat ≠ 45 := fun e => h (UInt8.toNat_inj.1 e)
      have : (c.toNat : Int) ≠ 45 := by omega
      simpa using this
end Go.Proofs.YtiilkcdefpmimaaGreatDoor
