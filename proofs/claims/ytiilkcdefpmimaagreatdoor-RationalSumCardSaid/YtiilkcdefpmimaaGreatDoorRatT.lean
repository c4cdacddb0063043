/- The law RationalSum walked. -/
import Derived.Test.YtiilkcdefpmimaaGreatDoorRatS
namespace Go.Proofs.YtiilkcdefpmimaaGreatDoor
open Go.RowKit
open Go.Lib (decDigits)
theorem num_lm3 {n : NumS} (h : NumOk n) (h1 : n.ds.length ≤ 3) (h2 : n.es.length ≤ 3) : LmQ 3 (numX n) := .ofS _ (val_lm h.d h1) (one0_lm (val_lm h.e h2) (by decide)) (one0_ne _)
def numsX (L : List NumS) : List Rat := L.map numX
def backX (L : List NumS) (m : Nat) : List Rat := ((numsX L).drop m).reverse
theorem numsX_len (L : List NumS) : (numsX L).length = L.length := List.length_map ..
theorem backX_len (L : List NumS) (m : Nat) : (backX L m).length = L.length - m := by rw [backX, List.length_reverse, List.length_drop, numsX_len]
theorem numsX_snoc {L : List NumS} {k : Nat} {n : NumS} (h : L[k]? = some n) : numsX (L.take k) ++ [numX n] = numsX (L.take (k + 1)) := snoc_map numX h
theorem numsX_nil {L : List NumS} {k : Nat} {n : NumS} (h : L[k]? = some n) : numsX (L.take (k + 1)) ≠ [] := by
  rw [← numsX_snoc h]; simp
theorem backX_all (L : List NumS) : backX L L.length = [] := by rw [backX, ← numsX_len, List.drop_length]; rfl
theorem backX_zero (L : List NumS) : backX L 0 = (numsX L).reverse := by rw [backX, List.drop_zero]
theorem sumQ_perm_rev (xs : List Rat) : sumQ xs.reverse = sumQ xs := by
  induction xs with
  | nil => rfl
  | cons x xs ih => rw [List.reverse_cons, sumQ_append, ih, sumQ_cons, sumQ_cons, sumQ_nil, Rat.add_zero, Rat.add_comm]
def Few (L : List NumS) (k : Nat) : Prop := ∀ j n, j < k → L[j]? = some n → n.ds.length ≤ 3 ∧ n.es.length ≤ 3
theorem Few.step {L : List NumS} {k : Nat} {n : NumS} (h : Few L k) (hn : L[k]? = some n) (h1 : n.ds.length ≤ 3) (h2 : n.es.length ≤ 3) : Few L (k + 1) := fun j m hj hm => by
  by_cases e : j = k
  · subst e
    rw [hn] at hm
    obtain rfl := Option.some.inj hm
    exact ⟨h1, h2⟩
  · exact h j m (by omega) hm
theorem Few.lm {L : List NumS} (hd : ∀ n ∈ L, (∀ d ∈ n.ds, d < B32) ∧ ∀ d ∈ n.es, d < B32) (h : Few L L.length) : ∀ x ∈ numsX L, LmQ 3 x := fun x hx => by
  obtain ⟨n, hn, rfl⟩ := List.mem_map.1 hx
  obtain ⟨j, hj, rfl⟩ := List.getElem_of_mem hn
  have h2 := h j _ hj (List.getElem?_eq_getElem hj)
  exact num_lm3 ⟨(hd _ hn).1, (hd _ hn).2, by omega, by omega⟩ h2.1 h2.2
theorem backX_snoc {L : List NumS} {j : Nat} {x : Rat} (h : (numsX L)[j]? = some x) : backX L (j + 1) ++ [x] = backX L j := by
  obtain ⟨hj, e⟩ := List.getElem?_eq_some_iff.1 h
  rw [backX, backX, List.drop_eq_getElem_cons hj, List.reverse_cons, e]
theorem backX_nil {L : List NumS} {j : Nat} {x : Rat} (h : (numsX L)[j]? = some x) : backX L j ≠ [] := by
  rw [← backX_snoc h]; simp
theorem len3 {n : Nat} {b : Bool} (h : decide (3 < (n : Int)) = b) : b = false → n ≤ 3 := fun e => by
  subst e
  have := of_decide_eq_false h
  omega
set_option maxRecDepth 100000 in
set_option maxHeartbeats 1000000 in
theorem rationalSum_walk (v0 : Value) (L : List NumS) (w : World) (h0 : SlV numK w v0 L) (hB0 : Bas w) (hd : ∀ n ∈ L, (∀ d ∈ n.ds, d < B32) ∧ ∀ d ∈ n.es, d < B32) :
    Calls Tryz.prog 10 #[v0] w fun e w' => e = .returned (.bool true) ∧ Below w.heap.size w w' := by
  have h0_0 := h0; obtain ⟨p_h0, c_h0, rfl, n_h0⟩ := h0.sh
  have hK : KS w [] w := (KS.start w)
  refine Calls.hide (fun Q0 hQ0 => ?_)
  go_enter Tryz.func10, Tryz.ntmps10
  go_upto_region 1 with (fail)
  refine wp_region_tx w hK ?_
  clear hK
  apply txH (v := .bool true) (wants0 rfl)
  · intro v1 hv1 w' hK; go_simp; (try go_bits); refine (awake_q   w' (hB0.below hK.old) ).mono ?_; rintro e w5 ⟨rfl, hb⟩; obtain rfl := hv1.out; exact ⟨_, rfl, rfl, hb⟩
  simp only [Act.put, pA, pB, pC]
  apply txF (wants0 rfl); (· intro w' hK; go_simp; (try go_bits); exact ⟨rfl, rfl⟩); simp only [Act.put, pA, pB, pC]
  refine txEnd (fun W1 hK => ?_)
  go_upto_region 3 with (fail)
  refine wp_region_tx w hK ?_
  clear hK
  iterate 2 (apply txF (wants0 rfl); (· intro w' hK; go_simp; (try go_bits); exact ⟨rfl, rfl⟩); simp only [Act.put, pA, pB, pC])
  obtain ⟨b1, hb1⟩ : ∃ b : Bool, RowKit.Hid (decide (8 < ((L.length : Int))) = b) := ⟨_, hid rfl⟩
  apply txB b1 (wants0 rfl); (· intro w' hK; go_simp; (try go_bits); exact ⟨by have q := hb1.out; subst q; first | rfl | simp, rfl⟩); simp only [Act.put, pA, pB, pC]
  refine txEnd (fun W2 hK => ?_)
  cases b1
  · --
   have q_b1 : ((L.length : Int)) ≤ 8 := Int.not_lt.1 (of_decide_eq_false hb1.out)
   go_wp2_with fail
   go_loopw [3, 5, 6] (fun s3 s5 s6 wl => ∃ (k : Nat) (pa : Option Addr) (ca : Nat) (px : Option Addr) (cx : Nat), s3 = .slice pa (numsX (L.take k)).length ca ∧ s5 = .slice px (numsX (L.take k)).length cx ∧ s6 = .int .i64 (k : Int) ∧ (k ≤ L.length) ∧ RowKit.Hid (Few L k) ∧ RowKit.Hid (∀ g, ob pa = some g → ob px ≠ some g) ∧ RowKit.Hid (numsX (L.take k) = [] → pa = none) ∧ RowKit.Hid (numsX (L.take k) = [] → px = none) ∧ KS w [fun w1 => OwV ratK 29 w.heap.size w1 (.slice pa (numsX (L.take k)).length ca) (numsX (L.take k)), fun w1 => OwV refK 36 w.heap.size w1 (.slice px (numsX (L.take k)).length cx) (numsX (L.take k))] wl) (fun s3 s5 s6 _ => L.length - (intOf s6).toNat)
   case atStart => exact ⟨0, none, 0, none, 0, rfl, rfl, rfl, (by omega), (hid (fun j n h => absurd h (by omega))), (hid (fun g e => by cases e)), (hid (fun _ => rfl)), (hid (fun _ => rfl)), ⟨hK.old, (al1 (fun w' _ => OwV.nil) (al1 (fun w' _ => OwV.nil) aN))⟩⟩
   case round =>
    clear hK
    obtain ⟨k, pa, ca, px, cx, rfl, rfl, rfl, hk, hf, hax, hea, hex, hK⟩ := hrel
    generalize wr = W3 at hK ⊢
    go_upto_region 8 with (fail)
    refine wp_region_tx w hK ?_
    clear hK
    iterate 3 (apply txF (wants0 rfl); (· intro w' hK; go_simp; (try go_bits); exact ⟨rfl, rfl⟩); simp only [Act.put, pA, pB, pC])
    obtain ⟨b2, hb2⟩ : ∃ b : Bool, RowKit.Hid (decide (((k : Int)) < ((L.length : Int))) = b) := ⟨_, hid rfl⟩
    apply txB b2 (wants0 rfl); (· intro w' hK; go_simp; (try go_bits); exact ⟨by have q := hb2.out; subst q; first | rfl | simp, rfl⟩); simp only [Act.put, pA, pB, pC]
    refine txEnd (fun W4 hK => ?_)
    cases b2
    · --
     have q_b2 : ((L.length : Int)) ≤ ((k : Int)) := Int.not_lt.1 (of_decide_eq_false hb2.out)
     obtain rfl : k = L.length := by omega
     rw [List.take_length] at hK ⊢
     have hln : (numsX L).length ≤ 8 := by rw [numsX_len]; omega
     go_upto_region 16 with (fail)
     refine wp_region_tx w hK ?_
     clear hK
     iterate 2 (apply txF (wants0 rfl); (· intro w' hK; go_simp; (try go_bits); exact ⟨rfl, rfl⟩); simp only [Act.put, pA, pB, pC])
     apply txF (v := .int .i64 ((L.length : Int) - 1)) (wants0 rfl); (· intro w' hK; go_simp; (try go_bits); exact ⟨congrArg _ (by rw [numsX_len]), rfl⟩); simp only [Act.put, pA, pB, pC]
     apply txF (wants0 rfl); (· intro w' hK; go_simp; (try go_bits); exact ⟨rfl, rfl⟩); simp only [Act.put, pA, pB, pC]
     refine txEnd (fun W5 hK => ?_)
     go_wp2_with fail
     go_loopw [4, 10] (fun s4 s10 wl => ∃ (m : Nat) (pb : Option Addr) (cb : Nat), s4 = .slice pb (backX L m).length cb ∧ s10 = .int .i64 ((m : Int) - 1) ∧ (m ≤ L.length) ∧ RowKit.Hid (∀ g, ob pb = some g → ob pa ≠ some g) ∧ RowKit.Hid (∀ g, ob pb = some g → ob px ≠ some g) ∧ RowKit.Hid (backX L m = [] → pb = none) ∧ KS w [fun w1 => OwV ratK 29 w.heap.size w1 (.slice pa (numsX L).length ca) (numsX L), fun w1 => OwV refK 36 w.heap.size w1 (.slice px (numsX L).length cx) (numsX L), fun w1 => OwV ratK 29 w.heap.size w1 (.slice pb (backX L m).length cb) (backX L m)] wl) (fun s4 s10 _ => (intOf s10 + 1).toNat)
     case atStart => exact ⟨L.length, none, 0, (by rw [backX_all]; rfl), rfl, (by omega), (hid (fun g e => by cases e)), (hid (fun g e => by cases e)), (hid (fun _ => rfl)), ⟨hK.old, (al1 (hK.all _ m0) (al1 (hK.all _ m1) (al1 (fun w' _ => by rw [backX_all]; exact OwV.nil) aN)))⟩⟩
     case round =>
      clear hK
      obtain ⟨m, pb, cb, rfl, rfl, hm, hba, hbx, heb, hK⟩ := hrel
      generalize wr = W6 at hK ⊢
      go_upto_region 17 with (fail)
      refine wp_region_tx w hK ?_
      clear hK
      apply txF (wants0 rfl); (· intro w' hK; go_simp; (try go_bits); exact ⟨rfl, rfl⟩); simp only [Act.put, pA, pB, pC]
      obtain ⟨b3, hb3⟩ : ∃ b : Bool, RowKit.Hid (decide (0 ≤ (((m : Int) - 1))) = b) := ⟨_, hid rfl⟩
      apply txB b3 (wants0 rfl); (· intro w' hK; go_simp; (try go_bits); exact ⟨by have q := hb3.out; subst q; first | rfl | simp, rfl⟩); simp only [Act.put, pA, pB, pC]
      refine txEnd (fun W7 hK => ?_)
      cases b3
      · --
       have q_b3 : (((m : Int) - 1)) < 0 := Int.not_le.1 (of_decide_eq_false hb3.out)
       obtain rfl : m = 0 := by omega
       have hs5 : LmQ 50 (sumQ (numsX L)) := (sumQ_lm _ (hf.out.lm hd)).up (by rw [numsX_len]; omega)
       go_upto_region 20 with (fail)
       refine wp_region_tx w hK ?_
       clear hK
       apply txF (wants0 rfl); (· intro w' hK; go_simp; (try go_bits); exact ⟨rfl, rfl⟩); simp only [Act.put, pA, pB, pC]
       apply txE (α := Duo Sl Sl) (fun sv => .agg #[.bool (isN (sumQ (numsX L))), .slice sv.a.p sv.a.l sv.a.c, .slice sv.b.p sv.b.l sv.b.c]) (fun sv => [fun w => RatV w (.agg #[.bool (isN (sumQ (numsX L))), .slice sv.a.p sv.a.l sv.a.c, .slice sv.b.p sv.b.l sv.b.c]) (sumQ (numsX L)), fun w => NatV w (.agg #[.slice sv.a.p sv.a.l sv.a.c]) ((sumQ (numsX L)).num.natAbs), fun w => NatV w (.agg #[.slice sv.b.p sv.b.l sv.b.c]) (den0 (sumQ (numsX L)))]) (wants0 rfl)
       · intro f1 l1 hl1 w' hK; go_simp; (try go_bits); refine (qsum_any (.slice pa (numsX L).length ca) (numsX L) w' (hK.get m0).slv (by rw [numsX_len]; omega) (fun x hx => ((hf.out.lm hd) x hx).up (by decide))).mono ?_; rintro e w5 ⟨y0, rfl, u0, hb⟩; obtain ⟨rfl, rfl⟩ := hl1.out; have u0_0 := u0; obtain ⟨p_u0, l_u0, c_u0, q_u0, m_u0, d_u0, rfl, u0_1, u0_2⟩ := u0; exact ⟨_, rfl, (⟨⟨p_u0, l_u0, c_u0⟩, ⟨q_u0, m_u0, d_u0⟩⟩ : Duo Sl Sl), rfl, hb, .cons (fun w2 h2 => u0_0.below h2) (.cons (fun w2 h2 => u0_1.below h2) (.cons (fun w2 h2 => u0_2.below h2) (Lasts.nil _)))⟩
       intro sv8
       simp only [Act.put, pA, pB, pC, pD, pE]
       apply txA2 (.cells #[.bool false, .slice none 0 0, .slice none 0 0] 29) (wants0 rfl)
       · intro w' hK; go_simp; rfl
       intro R9 q_R9
       have n10 : ob pa ≠ some R9 := q_R9.row m3
       have n11 : ob px ≠ some R9 := q_R9.row m4
       have n12 : ob pb ≠ some R9 := q_R9.row m5
       clear q_R9
       simp only [mkOf, Act.put, pA, pB, pC]
       apply txU 0 (Has w.heap.size R9 (.cells #[.bool (isN (sumQ (numsX L))), .slice sv8.a.p sv8.a.l sv8.a.c, .slice sv8.b.p sv8.b.l sv8.b.c] 29)) (wants0 rfl)
       · intro l1 hl1 w' hK; have k_R9 := (hK.get m0); have ⟨c_R9_0, c_R9_1, c_R9_2⟩ := k_R9.c3; have f_R9 := k_R9.fz; have ni := noInt_of k_R9 nofun; go_simp; obtain rfl := hl1.out; exact ⟨rfl, ks_put (R := R9) hK k_R9.1 0 [.bool (isN (sumQ (numsX L))), .slice sv8.a.p sv8.a.l sv8.a.c, .slice sv8.b.p sv8.b.l sv8.b.c] (al1 (fun _ => has_put k_R9 _ _) (al1 (spQ ni (hK.get m1)) (al1 (spN ni (hK.get m2)) (al1 (spN ni (hK.get m3)) (al1 (spO n10 (.inr ni) (hK.get m4)) (al1 (spO n11 (.inr ni) (hK.get m5)) (al1 (spO n12 (.inr ni) (hK.get m6)) aN)))))))⟩
       simp only [Act.put, pB]
       refine txEnd (fun W13 hK => ?_)
       go_wp2_with fail
       go_loopw [12] (fun s12 wl => ∃ (i : Nat), s12 = .int .i64 (i : Int) ∧ (i ≤ (numsX L).length) ∧ KS w [Has w.heap.size R9 (.cells #[.bool (isN (sumQ (numsX L))), .slice sv8.a.p sv8.a.l sv8.a.c, .slice sv8.b.p sv8.b.l sv8.b.c] 29), fun w => RatV w (.agg #[.bool (isN (sumQ (numsX L))), .slice sv8.a.p sv8.a.l sv8.a.c, .slice sv8.b.p sv8.b.l sv8.b.c]) (sumQ (numsX L)), fun w1 => OwV ratK 29 w.heap.size w1 (.slice pa (numsX L).length ca) (numsX L), fun w1 => OwV refK 36 w.heap.size w1 (.slice px (numsX L).length cx) (numsX L), fun w1 => OwV ratK 29 w.heap.size w1 (.slice pb (backX L 0).length cb) (backX L 0)] wl) (fun s12 _ => (numsX L).length - (intOf s12).toNat)
       case atStart => exact ⟨0, rfl, (by omega), ⟨hK.old, (al1 (hK.all _ m0) (al1 (hK.all _ m1) (al1 (hK.all _ m4) (al1 (hK.all _ m5) (al1 (hK.all _ m6) aN)))))⟩⟩
       case round =>
        clear hK
        obtain ⟨i, rfl, hi, hK⟩ := hrel
        generalize wr = W14 at hK ⊢
        go_upto_region 22 with (fail)
        refine wp_region_tx w hK ?_
        clear hK
        iterate 3 (apply txF (wants0 rfl); (· intro w' hK; go_simp; (try go_bits); exact ⟨rfl, rfl⟩); simp only [Act.put, pA, pB, pC])
        obtain ⟨b4, hb4⟩ : ∃ b : Bool, RowKit.Hid (decide (((i : Int)) < (((numsX L).length : Int))) = b) := ⟨_, hid rfl⟩
        apply txB b4 (wants0 rfl); (· intro w' hK; go_simp; (try go_bits); exact ⟨by have q := hb4.out; subst q; first | rfl | simp, rfl⟩); simp only [Act.put, pA, pB, pC]
        refine txEnd (fun W15 hK => ?_)
        cases b4
        · --
         have q_b4 : (((numsX L).length : Int)) ≤ ((i : Int)) := Int.not_lt.1 (of_decide_eq_false hb4.out)
         go_upto_region 26 with (fail)
         have hK0 := hK
         refine wp_region_float0 (w) _ _ [0, 0, 2, 1, 0, 0, 2, 0, 2, 1, 0, 0] (by kernel_rfl) (by kernel_rfl) (by kernel_rfl) (by kernel_rfl) (KS.drew hK0) (KS.drew hK) ?_
         clear hK hK0
         apply lxF0 (wants0 rfl); (· intro w' h0; have k_R9 := (h0.get m0); have ⟨c_R9_0, c_R9_1, c_R9_2⟩ := k_R9.c3; go_simp; (try go_bits); exact ⟨rfl, rfl⟩); simp only [Act.put, pA, pB, pC]
         apply lxF0 (wants0 rfl); (· intro w' h0; go_simp; (try go_bits); exact ⟨rfl, rfl⟩); simp only [Act.put, pA, pB, pC]
         apply lxE1 (α := Duo Sl Sl) (fun sv => .agg #[.bool (isN (sumQ (numsX L))), .slice sv.a.p (digs B6 (numQ (sumQ (numsX L)))).length sv.a.c, .slice sv.b.p (digs B6 (den0 (sumQ (numsX L)))).length sv.b.c]) (fun sv => [fun w => RefR w (.agg #[.bool (isN (sumQ (numsX L))), .slice sv.a.p (digs B6 (numQ (sumQ (numsX L)))).length sv.a.c, .slice sv.b.p (digs B6 (den0 (sumQ (numsX L)))).length sv.b.c]) (sumQ (numsX L)), fun w => RefV w (.slice sv.a.p (digs B6 (numQ (sumQ (numsX L)))).length sv.a.c) (numQ (sumQ (numsX L))), fun w => RefV w (.slice sv.b.p (digs B6 (den0 (sumQ (numsX L)))).length sv.b.c) (den0 (sumQ (numsX L)))]) (wants0 rfl)
         · intro f1 l1 hl1 w' h0 hK; go_simp; (try go_bits); refine (rsumq_any (.slice px (numsX L).length cx) (numsX L) w' (hK.get m3).slv (by rw [numsX_len]; omega) (fun x hx => ((hf.out.lm hd) x hx).up (by decide))).mono ?_; rintro e w5 ⟨y0, rfl, u0, hb⟩; obtain ⟨rfl, rfl⟩ := hl1.out; have u0_0 := u0; obtain ⟨p_u0, c_u0, q_u0, d_u0, rfl, u0_1, u0_2⟩ := u0.slr; exact ⟨_, rfl, (⟨⟨p_u0, 0, c_u0⟩, ⟨q_u0, 0, d_u0⟩⟩ : Duo Sl Sl), rfl, hb, .cons (fun w2 h2 => u0_0.below h2) (.cons (fun w2 h2 => u0_1.below h2) (.cons (fun w2 h2 => u0_2.below h2) (Lasts.nil _)))⟩
         intro sv16
         simp only [Act.put, pA, pB, pC, pD, pE]
         apply lxH1 (v := .bool true) (wants0 rfl)
         · intro v1 hv1 w' h0 hK; go_simp; (try go_bits); refine (is_q (.agg #[.bool (isN (sumQ (numsX L))), .slice sv8.a.p sv8.a.l sv8.a.c, .slice sv8.b.p sv8.b.l sv8.b.c]) (.agg #[.bool (isN (sumQ (numsX L))), .slice sv16.a.p (digs B6 (numQ (sumQ (numsX L)))).length sv16.a.c, .slice sv16.b.p (digs B6 (den0 (sumQ (numsX L)))).length sv16.b.c]) (sumQ (numsX L)) (sumQ (numsX L)) w' (hK.get m4) (hK.get m0) (hB0.below hK.old) hs5 hs5 rfl).mono ?_; rintro e w5 ⟨rfl, hb⟩; obtain rfl := hv1.out; exact ⟨_, rfl, rfl, hb⟩
         simp only [Act.put, pA, pB, pC]
         apply lxF0 (wants0 rfl); (· intro w' h0; go_simp; (try go_bits); exact ⟨rfl, rfl⟩); simp only [Act.put, pA, pB, pC]
         apply lxF0 (wantsg (j := 4) (d := 95) (b := true) rfl rfl rfl rfl); (· intro w' h0; go_simp; (try go_bits); exact ⟨rfl, rfl⟩); simp only [Act.put, pA, pB, pC]
         apply lxE1 (α := Duo Sl Sl) (fun sv => .agg #[.bool (isN (sumQ (backX L 0))), .slice sv.a.p sv.a.l sv.a.c, .slice sv.b.p sv.b.l sv.b.c]) (fun sv => [fun w => RatV w (.agg #[.bool (isN (sumQ (backX L 0))), .slice sv.a.p sv.a.l sv.a.c, .slice sv.b.p sv.b.l sv.b.c]) (sumQ (backX L 0)), fun w => NatV w (.agg #[.slice sv.a.p sv.a.l sv.a.c]) ((sumQ (backX L 0)).num.natAbs), fun w => NatV w (.agg #[.slice sv.b.p sv.b.l sv.b.c]) (den0 (sumQ (backX L 0)))]) (wantsg (j := 4) (d := 95) (b := true) rfl rfl rfl rfl)
         · intro f1 l1 hl1 w' h0 hK; go_simp; (try go_bits); refine (qsum_any (.slice pb (backX L 0).length cb) (backX L 0) w' (hK.get m7).slv (by rw [backX_len]; omega) (fun x hx => ((hf.out.lm hd) x (by rw [backX_zero] at hx; exact List.mem_reverse.1 hx)).up (by decide))).mono ?_; rintro e w5 ⟨y0, rfl, u0, hb⟩; obtain ⟨rfl, rfl⟩ := hl1.out; have u0_0 := u0; obtain ⟨p_u0, l_u0, c_u0, q_u0, m_u0, d_u0, rfl, u0_1, u0_2⟩ := u0; exact ⟨_, rfl, (⟨⟨p_u0, l_u0, c_u0⟩, ⟨q_u0, m_u0, d_u0⟩⟩ : Duo Sl Sl), rfl, hb, .cons (fun w2 h2 => u0_0.below h2) (.cons (fun w2 h2 => u0_1.below h2) (.cons (fun w2 h2 => u0_2.below h2) (Lasts.nil _)))⟩
         intro sv17
         simp only [Act.put, pA, pB, pC, pD, pE]
         apply lxF0 (wantsg (j := 4) (d := 95) (b := true) rfl rfl rfl rfl); (· intro w' h0; go_simp; (try go_bits); exact ⟨rfl, rfl⟩); simp only [Act.put, pA, pB, pC]
         apply lxE1 (α := Duo Sl Sl) (fun sv => .agg #[.bool (isN (sumQ (numsX L))), .slice sv.a.p (digs B6 (numQ (sumQ (numsX L)))).length sv.a.c, .slice sv.b.p (digs B6 (den0 (sumQ (numsX L)))).length sv.b.c]) (fun sv => [fun w => RefR w (.agg #[.bool (isN (sumQ (numsX L))), .slice sv.a.p (digs B6 (numQ (sumQ (numsX L)))).length sv.a.c, .slice sv.b.p (digs B6 (den0 (sumQ (numsX L)))).length sv.b.c]) (sumQ (numsX L)), fun w => RefV w (.slice sv.a.p (digs B6 (numQ (sumQ (numsX L)))).length sv.a.c) (numQ (sumQ (numsX L))), fun w => RefV w (.slice sv.b.p (digs B6 (den0 (sumQ (numsX L)))).length sv.b.c) (den0 (sumQ (numsX L)))]) (wantsg (j := 4) (d := 95) (b := true) rfl rfl rfl rfl)
         · intro f1 l1 hl1 w' h0 hK; go_simp; (try go_bits); refine (rsumq_any (.slice px (numsX L).length cx) (numsX L) w' (hK.get m9).slv (by rw [numsX_len]; omega) (fun x hx => ((hf.out.lm hd) x hx).up (by decide))).mono ?_; rintro e w5 ⟨y0, rfl, u0, hb⟩; obtain ⟨rfl, rfl⟩ := hl1.out; have u0_0 := u0; obtain ⟨p_u0, c_u0, q_u0, d_u0, rfl, u0_1, u0_2⟩ := u0.slr; exact ⟨_, rfl, (⟨⟨p_u0, 0, c_u0⟩, ⟨q_u0, 0, d_u0⟩⟩ : Duo Sl Sl), rfl, hb, .cons (fun w2 h2 => u0_0.below h2) (.cons (fun w2 h2 => u0_1.below h2) (.cons (fun w2 h2 => u0_2.below h2) (Lasts.nil _)))⟩
         intro sv18
         simp only [Act.put, pA, pB, pC, pD, pE]
         apply lxH1 (v := .bool true) (wantsg (j := 4) (d := 95) (b := true) rfl rfl rfl rfl)
         · intro v1 hv1 w' h0 hK; go_simp; (try go_bits); refine (is_q (.agg #[.bool (isN (sumQ (backX L 0))), .slice sv17.a.p sv17.a.l sv17.a.c, .slice sv17.b.p sv17.b.l sv17.b.c]) (.agg #[.bool (isN (sumQ (numsX L))), .slice sv18.a.p (digs B6 (numQ (sumQ (numsX L)))).length sv18.a.c, .slice sv18.b.p (digs B6 (den0 (sumQ (numsX L)))).length sv18.b.c]) (sumQ (backX L 0)) (sumQ (numsX L)) w' (hK.get m3) (hK.get m0) (hB0.below hK.old) (by rw [backX_zero, sumQ_perm_rev]; exact hs5) hs5 (by rw [backX_zero, sumQ_perm_rev])).mono ?_; rintro e w5 ⟨rfl, hb⟩; obtain rfl := hv1.out; exact ⟨_, rfl, rfl, hb⟩
         simp only [Act.put, pA, pB, pC]
         iterate 2 (apply lxF0 (wants0 rfl); (· intro w' h0; go_simp; (try go_bits); exact ⟨rfl, rfl⟩); simp only [Act.put, pA, pB, pC])
         refine lxEnd (fun W19 hK => ?_)
         go_wp2
         try go_ret
         show Q0 (.returned (.bool true)) _
         exact (by obtain rfl := hQ0.out; exact ⟨rfl, hK.old⟩)
        · --
         have q_b4 : ((i : Int)) < (((numsX L).length : Int)) := of_decide_eq_true hb4.out
         obtain ⟨xi, exi⟩ : ∃ x, RowKit.Hid ((numsX L)[i]? = some x) := ⟨_, hid (List.getElem?_eq_getElem (show i < (numsX L).length from (by omega)))⟩
         have i20 : i < (numsX L).length := by have q : i < (numsX L).length := (by omega); first | exact q | (simp at q; omega) | omega
         obtain ⟨g20, o20, q20, l20⟩ := ((hK.get m2).slv).ptr exi.out
         obtain rfl : o20 = 0 := ((hK.get m2)).off q20
         subst q20
         obtain ⟨c20_0, c20_1, c20_2, hK⟩ := KS.atQ hK (hK.get m2).slv exi.out
         obtain ⟨yi, eyi⟩ : ∃ x, RowKit.Hid ((numsX L)[i]? = some x) := ⟨_, hid (List.getElem?_eq_getElem (show i < (numsX L).length from (by omega)))⟩
         have i21 : i < (numsX L).length := by have q : i < (numsX L).length := (by omega); first | exact q | (simp at q; omega) | omega
         obtain ⟨g21, o21, q21, l21⟩ := ((hK.get m5).slv).ptr eyi.out
         obtain rfl : o21 = 0 := ((hK.get m5)).off q21
         subst q21
         obtain ⟨c21_0, c21_1, c21_2, hK⟩ := KS.atR hK (hK.get m5).slv eyi.out
         go_upto_region 24 with (fail)
         have hK0 := hK
         refine wp_region_float0 (w) _ _ [0, 0, 0, 0, 0, 0, 0, 0, 1, 0] (by kernel_rfl) (by kernel_rfl) (by kernel_rfl) (by kernel_rfl) (KS.drew hK0) (KS.drew hK) ?_
         clear hK hK0
         iterate 3 (apply lxF0 (wants0 rfl); (· intro w' h0; go_simp; (try go_bits); exact ⟨rfl, rfl⟩); simp only [Act.put, pA, pB, pC])
         apply lxF0 (wants0 rfl); (· intro w' h0; have c_CEL20_0 : w'.cell? ⟨g20, i * 3, none⟩ = some (.bool c20_0) := (by have q := (h0.get m2).2 0 _ rfl; simpa using q); have c_CEL20_1 : w'.cell? ⟨g20, i * 3 + 1, none⟩ = some (.slice c20_1.p c20_1.l c20_1.c) := (by have q := (h0.get m2).2 1 _ rfl; simpa using q); have c_CEL20_2 : w'.cell? ⟨g20, i * 3 + 2, none⟩ = some (.slice c20_2.p c20_2.l c20_2.c) := (by have q := (h0.get m2).2 2 _ rfl; simpa using q); go_simp; (try go_bits); exact ⟨rfl, rfl⟩); simp only [Act.put, pA, pB, pC]
         iterate 3 (apply lxF0 (wants0 rfl); (· intro w' h0; go_simp; (try go_bits); exact ⟨rfl, rfl⟩); simp only [Act.put, pA, pB, pC])
         apply lxF0 (wants0 rfl); (· intro w' h0; have c_CEL21_0 : w'.cell? ⟨g21, i * 3, none⟩ = some (.bool c21_0) := (by have q := (h0.get m0).2 0 _ rfl; simpa using q); have c_CEL21_1 : w'.cell? ⟨g21, i * 3 + 1, none⟩ = some (.slice c21_1.p c21_1.l c21_1.c) := (by have q := (h0.get m0).2 1 _ rfl; simpa using q); have c_CEL21_2 : w'.cell? ⟨g21, i * 3 + 2, none⟩ = some (.slice c21_2.p c21_2.l c21_2.c) := (by have q := (h0.get m0).2 2 _ rfl; simpa using q); go_simp; (try go_bits); exact ⟨rfl, rfl⟩); simp only [Act.put, pA, pB, pC]
         apply lxH1 (v := .bool true) (wants0 rfl)
         · intro v1 hv1 w' h0 hK; go_simp; (try go_bits); refine (is_q (.agg #[.bool c20_0, .slice c20_1.p c20_1.l c20_1.c, .slice c20_2.p c20_2.l c20_2.c]) (.agg #[.bool c21_0, .slice c21_1.p c21_1.l c21_1.c, .slice c21_2.p c21_2.l c21_2.c]) xi yi w' (hK.get m3) (hK.get m1) (hB0.below hK.old) (((hf.out.lm hd) _ (List.mem_of_getElem? exi.out)).up (by decide)) (((hf.out.lm hd) _ (List.mem_of_getElem? eyi.out)).up (by decide)) (Option.some.inj (exi.out.symm.trans eyi.out))).mono ?_; rintro e w5 ⟨rfl, hb⟩; obtain rfl := hv1.out; exact ⟨_, rfl, rfl, hb⟩
         simp only [Act.put, pA, pB, pC]
         apply lxF0 (wants0 rfl); (· intro w' h0; go_simp; (try go_bits); exact ⟨rfl, rfl⟩); simp only [Act.put, pA, pB, pC]
         refine lxEnd (fun W22 hK => ?_)
         (try go_wp2)
         go_roundw
         case rel => exact ⟨i + 1, (by first | rfl | go_num), (by omega), ⟨hK.old, (al1 (hK.all _ m4) (al1 (hK.all _ m5) (al1 (hK.all _ m6) (al1 (hK.all _ m7) (al1 (hK.all _ m8) aN)))))⟩⟩
         case measure => simp [intOf]; omega
      · --
       have q_b3 : 0 ≤ (((m : Int) - 1)) := of_decide_eq_true hb3.out
       obtain ⟨j, rfl⟩ : ∃ j, m = j + 1 := ⟨m - 1, by omega⟩
       rw [show (((j + 1 : Nat) : Int) - 1) = ((j : Nat) : Int) from by omega]
       obtain ⟨xj, exj⟩ : ∃ x, RowKit.Hid ((numsX L)[j]? = some x) := ⟨_, hid (List.getElem?_eq_getElem (show j < (numsX L).length from (by rw [numsX_len]; omega)))⟩
       have i23 : j < (numsX L).length := by have q : j < (numsX L).length := (by rw [numsX_len]; omega); first | exact q | (simp at q; omega) | omega
       obtain ⟨g23, o23, q23, l23⟩ := ((hK.get m0).slv).ptr exj.out
       obtain rfl : o23 = 0 := ((hK.get m0)).off q23
       subst q23
       obtain ⟨c23_0, c23_1, c23_2, hK⟩ := KS.atQ hK (hK.get m0).slv exj.out
       go_upto_region 19 with (fail)
       refine wp_region_tx w hK ?_
       clear hK
       iterate 4 (apply txF (wants0 rfl); (· intro w' hK; go_simp; (try go_bits); exact ⟨rfl, rfl⟩); simp only [Act.put, pA, pB, pC])
       apply txF (wants0 rfl); (· intro w' hK; have c_CEL23_0 : w'.cell? ⟨g23, j * 3, none⟩ = some (.bool c23_0) := (by have q := (hK.get m0).2 0 _ rfl; simpa using q); have c_CEL23_1 : w'.cell? ⟨g23, j * 3 + 1, none⟩ = some (.slice c23_1.p c23_1.l c23_1.c) := (by have q := (hK.get m0).2 1 _ rfl; simpa using q); have c_CEL23_2 : w'.cell? ⟨g23, j * 3 + 2, none⟩ = some (.slice c23_2.p c23_2.l c23_2.c) := (by have q := (hK.get m0).2 2 _ rfl; simpa using q); go_simp; (try go_bits); exact ⟨rfl, rfl⟩); simp only [Act.put, pA, pB, pC]
       apply txA2 (.cells #[.bool c23_0, .slice c23_1.p c23_1.l c23_1.c, .slice c23_2.p c23_2.l c23_2.c] 29) (wants0 rfl)
       · intro w' hK; go_simp; rfl
       intro R24 q_R24
       have n25 : ob ((some ⟨g23, 0, none⟩)) ≠ some R24 := q_R24.row m2
       have n26 : ob px ≠ some R24 := q_R24.row m3
       have n27 : ob pb ≠ some R24 := q_R24.row m4
       clear q_R24
       simp only [mkOf, Act.put, pA, pB, pC]
       refine txApp (K := ratK) (t := 29) (xs := backX L (j + 1)) (ys := [xj]) (.tmp 66) (.tmp 71) (wants0 rfl) (by rfl) Tryz.underlying75 Tryz.underlying75 infoQ rfl (by rfl) (by rfl) (by rw [backX_len]; simp [maxLen]; omega) (by rw [backX_len]; simp; omega) (fun r => [Has w.heap.size R24 (.cells #[.bool c23_0, .slice c23_1.p c23_1.l c23_1.c, .slice c23_2.p c23_2.l c23_2.c] 29), fun w => RatV w (.agg #[.bool c23_0, .slice c23_1.p c23_1.l c23_1.c, .slice c23_2.p c23_2.l c23_2.c]) xj, fun w1 => OwV ratK 29 w.heap.size w1 (.slice (some ⟨g23, 0, none⟩) (numsX L).length ca) (numsX L), fun w1 => OwV refK 36 w.heap.size w1 (.slice px (numsX L).length cx) (numsX L), fun _ => ob r ≠ some R24, fun _ => ∀ g, ob r = some g → ob ((some ⟨g23, 0, none⟩)) ≠ some g, fun _ => ∀ g, ob r = some g → ob px ≠ some g]) (fun w' hK => ⟨(hK.get m5), (fun g e => .inr (((hK.get m5).hd' heb.out ratK_hd) g e)), (SlV.one (hK.get m0) ⟨_, _, _, rfl, (hK.get m2)⟩ (Nat.le_refl 1) (by decide))⟩) (fun w' r hK hr => (al1 (gwH (hK.get m0) n27) (al1 (gwP (fun w2 h2 => ((hK.get m2)).below h2) (fun _ h => rat_spare (hK.get m2) h) ((hK.get m5).hd' heb.out ratK_hd)) (al1 (gwO (hK.get m3) hba.out (fun g e => .inr (((hK.get m5).hd' heb.out ratK_hd) g e))) (al1 (gwO (hK.get m4) hbx.out (fun g e => .inr (((hK.get m5).hd' heb.out ratK_hd) g e))) (al1 (gwC (apb hr n27 ((hK.get m0)).ltS)) (al1 (gwC (apr hr hba.out (fun g e => (((hK.get m3)).block e).2))) (al1 (gwC (apr hr hbx.out (fun g e => (((hK.get m4)).block e).2))) aN)))))))) ?_
       intro sv28
       rw [backX_snoc exj.out]
       simp only [Act.put, pA, pB, pC]
       refine Tx.know (Pr := ob sv28.p ≠ some R24) (fun w' hK => hK.get m5) (fun n29 => ?_)
       refine Tx.know (Pr := ∀ g, ob sv28.p = some g → ob ((some ⟨g23, 0, none⟩)) ≠ some g) (fun w' hK => hK.get m6) (fun n30 => ?_)
       refine Tx.know (Pr := ∀ g, ob sv28.p = some g → ob px ≠ some g) (fun w' hK => hK.get m7) (fun n31 => ?_)
       apply txF (wants0 rfl); (· intro w' hK; go_simp; (try go_bits); exact ⟨rfl, rfl⟩); simp only [Act.put, pA, pB, pC]
       refine txEnd (fun W32 hK => ?_)
       (try go_wp2)
       go_roundw
       case rel => exact ⟨j, sv28.p, sv28.c, (by first | rfl | go_num), (by first | rfl | go_num), (by omega), (hid n30), (hid n31), (hid (fun e => absurd e (backX_nil exj.out))), ⟨hK.old, (al1 (hK.all _ m3) (al1 (hK.all _ m4) (al1 (hK.all _ m0) aN)))⟩⟩
       case measure => simp [intOf]
    · --
     have q_b2 : ((k : Int)) < ((L.length : Int)) := of_decide_eq_true hb2.out
     obtain ⟨xn, exn⟩ : ∃ x, RowKit.Hid (L[k]? = some x) := ⟨_, hid (List.getElem?_eq_getElem (show k < L.length from (by omega)))⟩
     have i33 : k < L.length := by have q : k < L.length := (by omega); first | exact q | (simp at q; omega) | omega
     obtain ⟨g33, o33, q33, l33⟩ := (h0_0).ptr exn.out
     subst q33
     obtain ⟨c33_0, c33_1, hK⟩ := KS.atN hK (h0_0.below hK.old) exn.out
     go_upto_region 10 with (fail)
     refine wp_region_tx w hK ?_
     clear hK
     iterate 4 (apply txF (wants0 rfl); (· intro w' hK; go_simp; (try go_bits); exact ⟨rfl, rfl⟩); simp only [Act.put, pA, pB, pC])
     apply txF (wants0 rfl); (· intro w' hK; have c_CEL33_1 : w'.cell? ⟨g33, o33 + k * 3 + 1, none⟩ = some (.slice c33_0.p xn.ds.length c33_0.c) := (by have q := (hK.get m0).2 1 _ rfl; simpa using q); go_simp; (try go_bits); exact ⟨rfl, rfl⟩); simp only [Act.put, pA, pB, pC]
     apply txF (wants0 rfl); (· intro w' hK; go_simp; (try go_bits); exact ⟨rfl, rfl⟩); simp only [Act.put, pA, pB, pC]
     obtain ⟨b3, hb3⟩ : ∃ b : Bool, RowKit.Hid (decide (3 < ((xn.ds.length : Int))) = b) := ⟨_, hid rfl⟩
     apply txB b3 (wants0 rfl); (· intro w' hK; go_simp; (try go_bits); exact ⟨by have q := hb3.out; subst q; first | rfl | simp, rfl⟩); simp only [Act.put, pA, pB, pC]
     apply txF (wants0 rfl); (· intro w' hK; go_simp; (try go_bits); exact ⟨rfl, rfl⟩); simp only [Act.put, pA, pB, pC]
     cases b3
     · --
      have q_b3 : ((xn.ds.length : Int)) ≤ 3 := Int.not_lt.1 (of_decide_eq_false hb3.out)
      iterate 4 (apply txF (wantsg (j := 7) (d := 31) (b := false) rfl rfl rfl rfl); (· intro w' hK; go_simp; (try go_bits); exact ⟨rfl, rfl⟩); simp only [Act.put, pA, pB, pC])
      apply txF (wantsg (j := 7) (d := 31) (b := false) rfl rfl rfl rfl); (· intro w' hK; have c_CEL33_2 : w'.cell? ⟨g33, o33 + k * 3 + 2, none⟩ = some (.slice c33_1.p xn.es.length c33_1.c) := (by have q := (hK.get m0).2 2 _ rfl; simpa using q); go_simp; (try go_bits); exact ⟨rfl, rfl⟩); simp only [Act.put, pA, pB, pC]
      apply txF (wantsg (j := 7) (d := 31) (b := false) rfl rfl rfl rfl); (· intro w' hK; go_simp; (try go_bits); exact ⟨rfl, rfl⟩); simp only [Act.put, pA, pB, pC]
      obtain ⟨b4, hb4⟩ : ∃ b : Bool, RowKit.Hid (decide (3 < ((xn.es.length : Int))) = b) := ⟨_, hid rfl⟩
      apply txB b4 (wantsg (j := 7) (d := 31) (b := false) rfl rfl rfl rfl); (· intro w' hK; go_simp; (try go_bits); exact ⟨by have q := hb4.out; subst q; first | rfl | simp, rfl⟩); simp only [Act.put, pA, pB, pC]
      apply txF (wants0 rfl); (· intro w' hK; go_simp; (try go_bits); exact ⟨rfl, rfl⟩); simp only [Act.put, pA, pB, pC]
      refine txEnd (fun W34 hK => ?_)
      cases b4
      · --
       have q_b4 : ((xn.es.length : Int)) ≤ 3 := Int.not_lt.1 (of_decide_eq_false hb4.out)
       have hd1 := len3 hb3.out rfl
       have hd2 := len3 hb4.out rfl
       have hok : NumOk xn := ⟨(hd _ (List.mem_of_getElem? exn.out)).1, (hd _ (List.mem_of_getElem? exn.out)).2, by omega, by omega⟩
       go_upto_region 12 with (fail)
       refine wp_region_tx w hK ?_
       clear hK
       iterate 3 (apply txF (wants0 rfl); (· intro w' hK; go_simp; (try go_bits); exact ⟨rfl, rfl⟩); simp only [Act.put, pA, pB, pC])
       apply txF (wants0 rfl); (· intro w' hK; have c_CEL33_0 : w'.cell? ⟨g33, o33 + k * 3, none⟩ = some (.bool xn.neg) := (by have q := (hK.get m0).2 0 _ rfl; simpa using q); have c_CEL33_1 : w'.cell? ⟨g33, o33 + k * 3 + 1, none⟩ = some (.slice c33_0.p xn.ds.length c33_0.c) := (by have q := (hK.get m0).2 1 _ rfl; simpa using q); have c_CEL33_2 : w'.cell? ⟨g33, o33 + k * 3 + 2, none⟩ = some (.slice c33_1.p xn.es.length c33_1.c) := (by have q := (hK.get m0).2 2 _ rfl; simpa using q); go_simp; (try go_bits); exact ⟨rfl, rfl⟩); simp only [Act.put, pA, pB, pC]
       apply txE (α := Duo (Duo Sl Sl) (Duo Sl Sl)) (fun sv => .tuple #[.agg #[.bool (isN (numX xn)), .slice sv.a.a.p sv.a.a.l sv.a.a.c, .slice sv.a.b.p sv.a.b.l sv.a.b.c], .agg #[.bool (isN (numX xn)), .slice sv.b.a.p (digs B6 (numQ (numX xn))).length sv.b.a.c, .slice sv.b.b.p (digs B6 (den0 (numX xn))).length sv.b.b.c], .bool true]) (fun sv => [fun w => RatV w (.agg #[.bool (isN (numX xn)), .slice sv.a.a.p sv.a.a.l sv.a.a.c, .slice sv.a.b.p sv.a.b.l sv.a.b.c]) (numX xn), fun w => NatV w (.agg #[.slice sv.a.a.p sv.a.a.l sv.a.a.c]) ((numX xn).num.natAbs), fun w => NatV w (.agg #[.slice sv.a.b.p sv.a.b.l sv.a.b.c]) (den0 (numX xn)), fun w => RefR w (.agg #[.bool (isN (numX xn)), .slice sv.b.a.p (digs B6 (numQ (numX xn))).length sv.b.a.c, .slice sv.b.b.p (digs B6 (den0 (numX xn))).length sv.b.b.c]) (numX xn), fun w => RefV w (.slice sv.b.a.p (digs B6 (numQ (numX xn))).length sv.b.a.c) (numQ (numX xn)), fun w => RefV w (.slice sv.b.b.p (digs B6 (den0 (numX xn))).length sv.b.b.c) (den0 (numX xn))]) (wants0 rfl)
       · intro f1 l1 hl1 w' hK; go_simp; (try go_bits); refine (of_q (.agg #[.bool xn.neg, .slice c33_0.p xn.ds.length c33_0.c, .slice c33_1.p xn.es.length c33_1.c]) xn w' (hK.get m1) (hB0.below hK.old) hok).mono ?_; rintro e w5 ⟨y0, y1, rfl, u0, u1, hb⟩; obtain ⟨rfl, rfl⟩ := hl1.out; have u0_0 := u0; obtain ⟨p_u0, l_u0, c_u0, q_u0, m_u0, d_u0, rfl, u0_1, u0_2⟩ := u0; have u1_0 := u1; obtain ⟨p_u1, c_u1, q_u1, d_u1, rfl, u1_1, u1_2⟩ := u1.slr; exact ⟨_, rfl, (⟨(⟨⟨p_u0, l_u0, c_u0⟩, ⟨q_u0, m_u0, d_u0⟩⟩ : Duo Sl Sl), (⟨⟨p_u1, 0, c_u1⟩, ⟨q_u1, 0, d_u1⟩⟩ : Duo Sl Sl)⟩ : Duo (Duo Sl Sl) (Duo Sl Sl)), rfl, hb, .cons (fun w2 h2 => u0_0.below h2) (.cons (fun w2 h2 => u0_1.below h2) (.cons (fun w2 h2 => u0_2.below h2) (.cons (fun w2 h2 => u1_0.below h2) (.cons (fun w2 h2 => u1_1.below h2) (.cons (fun w2 h2 => u1_2.below h2) (Lasts.nil _))))))⟩
       intro sv35
       simp only [Act.put, pA, pB, pC, pD, pE]
       iterate 4 (apply txF (wants0 rfl); (· intro w' hK; go_simp; (try go_bits); exact ⟨rfl, rfl⟩); simp only [Act.put, pA, pB, pC])
       apply txA2 (.cells #[.bool false, .slice none 0 0, .slice none 0 0] 29) (wants0 rfl)
       · intro w' hK; go_simp; rfl
       intro R36 q_R36
       have n37 : ob pa ≠ some R36 := q_R36.row m8
       have n38 : ob px ≠ some R36 := q_R36.row m9
       clear q_R36
       simp only [mkOf, Act.put, pA, pB, pC]
       apply txA2 (.cells #[.bool false, .slice none 0 0, .slice none 0 0] 36) (wants0 rfl)
       · intro w' hK; go_simp; rfl
       intro R39 q_R39
       have o_R36_R39 : R36 < R39 := q_R39.box m0
       have n40 : ob pa ≠ some R39 := q_R39.row m9
       have n41 : ob px ≠ some R39 := q_R39.row m10
       clear q_R39
       simp only [mkOf, Act.put, pA, pB, pC]
       apply txS [Has w.heap.size R39 (.cells #[.bool false, .slice none 0 0, .slice none 0 0] 36), Has w.heap.size R36 (.cells #[.bool (isN (numX xn)), .slice sv35.a.a.p sv35.a.a.l sv35.a.a.c, .slice sv35.a.b.p sv35.a.b.l sv35.a.b.c] 29), fun w => RatV w (.agg #[.bool (isN (numX xn)), .slice sv35.a.a.p sv35.a.a.l sv35.a.a.c, .slice sv35.a.b.p sv35.a.b.l sv35.a.b.c]) (numX xn), fun w => NatV w (.agg #[.slice sv35.a.a.p sv35.a.a.l sv35.a.a.c]) ((numX xn).num.natAbs), fun w => NatV w (.agg #[.slice sv35.a.b.p sv35.a.b.l sv35.a.b.c]) (den0 (numX xn)), fun w => RefR w (.agg #[.bool (isN (numX xn)), .slice sv35.b.a.p (digs B6 (numQ (numX xn))).length sv35.b.a.c, .slice sv35.b.b.p (digs B6 (den0 (numX xn))).length sv35.b.b.c]) (numX xn), fun w => RefV w (.slice sv35.b.a.p (digs B6 (numQ (numX xn))).length sv35.b.a.c) (numQ (numX xn)), fun w => RefV w (.slice sv35.b.b.p (digs B6 (den0 (numX xn))).length sv35.b.b.c) (den0 (numX xn)), CelAt g33 (o33 + k * 3) [.bool xn.neg, .slice c33_0.p xn.ds.length c33_0.c, .slice c33_1.p xn.es.length c33_1.c], fun w1 => OwV ratK 29 w.heap.size w1 (.slice pa (numsX (L.take k)).length ca) (numsX (L.take k)), fun w1 => OwV refK 36 w.heap.size w1 (.slice px (numsX (L.take k)).length cx) (numsX (L.take k))] (wants0 rfl)
       · intro l1 hl1 w' hK; have k_R36 := (hK.get m1); have ⟨c_R36_0, c_R36_1, c_R36_2⟩ := k_R36.c3; have f_R36 := k_R36.fz; have ni := noInt_of k_R36 nofun; go_simp; obtain rfl := hl1.out; exact ⟨rfl, ks_put (R := R36) hK k_R36.1 0 [.bool (isN (numX xn)), .slice sv35.a.a.p sv35.a.a.l sv35.a.a.c, .slice sv35.a.b.p sv35.a.b.l sv35.a.b.c] (al1 (spG o_R36_R39 (hK.get m0)) (al1 (fun _ => has_put k_R36 _ _) (al1 (spQ ni (hK.get m2)) (al1 (spN ni (hK.get m3)) (al1 (spN ni (hK.get m4)) (al1 (spS ni (hK.get m5)) (al1 (spR ni (hK.get m6)) (al1 (spR ni (hK.get m7)) (al1 (spC (Nat.ne_of_lt (Nat.lt_of_lt_of_le l33 k_R36.1)) (hK.get m8)) (al1 (spO n37 (.inr ni) (hK.get m10)) (al1 (spO n38 (.inr ni) (hK.get m11)) aN)))))))))))⟩
       simp only [Act.put]
       apply txU 0 (Has w.heap.size R39 (.cells #[.bool (isN (numX xn)), .slice sv35.b.a.p (digs B6 (numQ (numX xn))).length sv35.b.a.c, .slice sv35.b.b.p (digs B6 (den0 (numX xn))).length sv35.b.b.c] 36)) (wants0 rfl)
       · intro l1 hl1 w' hK; have k_R39 := (hK.get m0); have ⟨c_R39_0, c_R39_1, c_R39_2⟩ := k_R39.c3; have f_R39 := k_R39.fz; have ni := noInt_of k_R39 nofun; go_simp; obtain rfl := hl1.out; exact ⟨rfl, ks_put (R := R39) hK k_R39.1 0 [.bool (isN (numX xn)), .slice sv35.b.a.p (digs B6 (numQ (numX xn))).length sv35.b.a.c, .slice sv35.b.b.p (digs B6 (den0 (numX xn))).length sv35.b.b.c] (al1 (fun _ => has_put k_R39 _ _) (al1 (spL o_R36_R39 (hK.get m1)) (al1 (spQ ni (hK.get m2)) (al1 (spN ni (hK.get m3)) (al1 (spN ni (hK.get m4)) (al1 (spS ni (hK.get m5)) (al1 (spR ni (hK.get m6)) (al1 (spR ni (hK.get m7)) (al1 (spC (Nat.ne_of_lt (Nat.lt_of_lt_of_le l33 k_R39.1)) (hK.get m8)) (al1 (spO n40 (.inr ni) (hK.get m9)) (al1 (spO n41 (.inr ni) (hK.get m10)) aN)))))))))))⟩
       simp only [Act.put, pB]
       apply txF (wants0 rfl); (· intro w' hK; go_simp; (try go_bits); exact ⟨rfl, rfl⟩); simp only [Act.put, pA, pB, pC]
       refine txEnd (fun W42 hK => ?_)
       go_upto_region 15 with (fail)
       have b43 : ∀ g, ob pa = some g → g < W42.heap.size := fun g e => ((hK.get m9).block e).2
       have b44 : ∀ g, ob px = some g → g < W42.heap.size := fun g e => ((hK.get m10).block e).2
       have hK0 := hK.subl (sK (sK (sC (sC (sC (sC (sC (sC (sC (sC (sC sZ)))))))))))
       replace hK0 := hK0.add (F := fun w1 => W42.heap.size ≤ w1.heap.size) (fun _ hb => hb.size)
       refine wp_region_floatB (w) (W42.heap.size) _ _ [0, 0, 3, 5, 0, 0, 3, 5, 0, 0] (by kernel_rfl) (by kernel_rfl) (by kernel_rfl) (by kernel_rfl) (fun _ h0 => h0.get m0) (KS.drew hK0) (KS.drew hK) ?_
       clear hK hK0
       apply lxF0 (wants0 rfl); (· intro w' h0; go_simp; (try go_bits); exact ⟨rfl, rfl⟩); simp only [Act.put, pA, pB, pC]
       apply lxF0 (wants0 rfl); (· intro w' h0; have k_R36 := (h0.get m2); have ⟨c_R36_0, c_R36_1, c_R36_2⟩ := k_R36.c3; go_simp; (try go_bits); exact ⟨rfl, rfl⟩); simp only [Act.put, pA, pB, pC]
       apply lxA0 (.cells #[.bool (isN (numX xn)), .slice sv35.a.a.p sv35.a.a.l sv35.a.a.c, .slice sv35.a.b.p sv35.a.b.l sv35.a.b.c] 29) (wants0 rfl)
       · intro w' h0; go_simp; rfl
       intro R45
       simp only [mkOf, Act.put, pA, pB, pC]
       refine lxApp (K := ratK) (t := 29) (xs := numsX (L.take k)) (ys := [numX xn]) (.tmp 51) (.tmp 53) (wants0 rfl) (by rfl) Tryz.underlying75 Tryz.underlying75 infoQ rfl (by rfl) (by rfl) (by rw [numsX_len, List.length_take]; simp [maxLen]; omega) (by rw [numsX_len, List.length_take]; simp; omega) (fun r => [Has w.heap.size R39 (.cells #[.bool (isN (numX xn)), .slice sv35.b.a.p (digs B6 (numQ (numX xn))).length sv35.b.a.c, .slice sv35.b.b.p (digs B6 (den0 (numX xn))).length sv35.b.b.c] 36), Has w.heap.size R36 (.cells #[.bool (isN (numX xn)), .slice sv35.a.a.p sv35.a.a.l sv35.a.a.c, .slice sv35.a.b.p sv35.a.b.l sv35.a.b.c] 29), fun w => RatV w (.agg #[.bool (isN (numX xn)), .slice sv35.a.a.p sv35.a.a.l sv35.a.a.c, .slice sv35.a.b.p sv35.a.b.l sv35.a.b.c]) (numX xn), fun w => NatV w (.agg #[.slice sv35.a.a.p sv35.a.a.l sv35.a.a.c]) ((numX xn).num.natAbs), fun w => NatV w (.agg #[.slice sv35.a.b.p sv35.a.b.l sv35.a.b.c]) (den0 (numX xn)), fun w => RefR w (.agg #[.bool (isN (numX xn)), .slice sv35.b.a.p (digs B6 (numQ (numX xn))).length sv35.b.a.c, .slice sv35.b.b.p (digs B6 (den0 (numX xn))).length sv35.b.b.c]) (numX xn), fun w => RefV w (.slice sv35.b.a.p (digs B6 (numQ (numX xn))).length sv35.b.a.c) (numQ (numX xn)), fun w => RefV w (.slice sv35.b.b.p (digs B6 (den0 (numX xn))).length sv35.b.b.c) (den0 (numX xn)), fun w1 => OwV refK 36 w.heap.size w1 (.slice px (numsX (L.take k)).length cx) (numsX (L.take k)), fun _ => ob r ≠ some R39, fun _ => ob r ≠ some R36, fun _ => ∀ g, ob r = some g → ob px ≠ some g]) b43 (fun w' h0 hK => ⟨(hK.get m10), (fun g e => .inr (((hK.get m10).hd' hea.out ratK_hd) g e)), (SlV.one (hK.get m0) ⟨_, _, _, rfl, (hK.get m3)⟩ (Nat.le_refl 1) (by decide))⟩) (fun w' h0 hK => (al1 (gwL (h0.get m0)) (al1 (gwH (h0.get m1) n40) (al1 (gwH (h0.get m2) n37) aN)))) (fun w' r h0 hK hr => (al1 (gwH (hK.get m1) n40) (al1 (gwH (hK.get m2) n37) (al1 (gwP (fun w2 h2 => ((hK.get m3)).below h2) (fun _ h => rat_spare (hK.get m3) h) ((hK.get m10).hd' hea.out ratK_hd)) (al1 (gwP (fun w2 h2 => ((hK.get m4)).below h2) (fun _ h => nat_spare (hK.get m4) h) ((hK.get m10).hd' hea.out ratK_hd)) (al1 (gwP (fun w2 h2 => ((hK.get m5)).below h2) (fun _ h => nat_spare (hK.get m5) h) ((hK.get m10).hd' hea.out ratK_hd)) (al1 (gwP (fun w2 h2 => ((hK.get m6)).below h2) (fun _ h => refr_spare (hK.get m6) h) ((hK.get m10).hd' hea.out ratK_hd)) (al1 (gwP (fun w2 h2 => ((hK.get m7)).below h2) (fun _ h => ref_spare (hK.get m7) h) ((hK.get m10).hd' hea.out ratK_hd)) (al1 (gwP (fun w2 h2 => ((hK.get m8)).below h2) (fun _ h => ref_spare (hK.get m8) h) ((hK.get m10).hd' hea.out ratK_hd)) (al1 (gwO (hK.get m11) hax.out (fun g e => .inr (((hK.get m10).hd' hea.out ratK_hd) g e))) (al1 (gwC (apb hr n40 ((hK.get m1)).ltS)) (al1 (gwC (apb hr n37 ((hK.get m2)).ltS)) (al1 (gwC (apr hr hax.out (fun g e => (((hK.get m11)).block e).2))) aN))))))))))))) ?_
       intro sv46
       rw [numsX_snoc exn.out]
       simp only [Act.put, pA, pB, pC]
       apply lxF0 (wants0 rfl); (· intro w' h0; go_simp; (try go_bits); exact ⟨rfl, rfl⟩); simp only [Act.put, pA, pB, pC]
       apply lxF0 (wants0 rfl); (· intro w' h0; have k_R39 := (h0.get m1); have ⟨c_R39_0, c_R39_1, c_R39_2⟩ := k_R39.c3; go_simp; (try go_bits); exact ⟨rfl, rfl⟩); simp only [Act.put, pA, pB, pC]
       apply lxA0 (.cells #[.bool (isN (numX xn)), .slice sv35.b.a.p (digs B6 (numQ (numX xn))).length sv35.b.a.c, .slice sv35.b.b.p (digs B6 (den0 (numX xn))).length sv35.b.b.c] 36) (wants0 rfl)
       · intro w' h0; go_simp; rfl
       intro R50
       simp only [mkOf, Act.put, pA, pB, pC]
       refine lxApp (K := refK) (t := 36) (xs := numsX (L.take k)) (ys := [numX xn]) (.tmp 55) (.tmp 57) (wants0 rfl) (by rfl) Tryz.underlying76 Tryz.underlying76 infoR rfl (by rfl) (by rfl) (by rw [numsX_len, List.length_take]; simp [maxLen]; omega) (by rw [numsX_len, List.length_take]; simp; omega) (fun r => [fun w1 => OwV ratK 29 w.heap.size w1 (.slice sv46.p (numsX (L.take (k + 1))).length sv46.c) (numsX (L.take (k + 1))), Has w.heap.size R39 (.cells #[.bool (isN (numX xn)), .slice sv35.b.a.p (digs B6 (numQ (numX xn))).length sv35.b.a.c, .slice sv35.b.b.p (digs B6 (den0 (numX xn))).length sv35.b.b.c] 36), Has w.heap.size R36 (.cells #[.bool (isN (numX xn)), .slice sv35.a.a.p sv35.a.a.l sv35.a.a.c, .slice sv35.a.b.p sv35.a.b.l sv35.a.b.c] 29), fun w => RatV w (.agg #[.bool (isN (numX xn)), .slice sv35.a.a.p sv35.a.a.l sv35.a.a.c, .slice sv35.a.b.p sv35.a.b.l sv35.a.b.c]) (numX xn), fun w => NatV w (.agg #[.slice sv35.a.a.p sv35.a.a.l sv35.a.a.c]) ((numX xn).num.natAbs), fun w => NatV w (.agg #[.slice sv35.a.b.p sv35.a.b.l sv35.a.b.c]) (den0 (numX xn)), fun w => RefR w (.agg #[.bool (isN (numX xn)), .slice sv35.b.a.p (digs B6 (numQ (numX xn))).length sv35.b.a.c, .slice sv35.b.b.p (digs B6 (den0 (numX xn))).length sv35.b.b.c]) (numX xn), fun w => RefV w (.slice sv35.b.a.p (digs B6 (numQ (numX xn))).length sv35.b.a.c) (numQ (numX xn)), fun w => RefV w (.slice sv35.b.b.p (digs B6 (den0 (numX xn))).length sv35.b.b.c) (den0 (numX xn)), fun _ => ob sv46.p ≠ some R39, fun _ => ob sv46.p ≠ some R36, fun _ => ∀ g, ob sv46.p = some g → ob px ≠ some g, fun _ => ∀ g, ob r = some g → ob sv46.p ≠ some g, fun _ => ob r ≠ some R39, fun _ => ob r ≠ some R36]) b44 (fun w' h0 hK => ⟨(hK.get m10), (fun g e => .inr (((hK.get m10).hd' hex.out refK_hd) g e)), (SlV.one (hK.get m0) ⟨_, _, _, rfl, (hK.get m7)⟩ (Nat.le_refl 1) (by decide))⟩) (fun w' h0 hK => (al1 (gwL (h0.get m0)) (al1 (gwH (h0.get m1) n41) (al1 (gwH (h0.get m2) n38) aN)))) (fun w' r h0 hK hr => (al1 (gwO (hK.get m1) (fun g e1 e2 => ((hK.get m13)) g e2 e1) (fun g e => .inr (((hK.get m10).hd' hex.out refK_hd) g e))) (al1 (gwH (hK.get m2) n41) (al1 (gwH (hK.get m3) n38) (al1 (gwP (fun w2 h2 => ((hK.get m4)).below h2) (fun _ h => rat_spare (hK.get m4) h) ((hK.get m10).hd' hex.out refK_hd)) (al1 (gwP (fun w2 h2 => ((hK.get m5)).below h2) (fun _ h => nat_spare (hK.get m5) h) ((hK.get m10).hd' hex.out refK_hd)) (al1 (gwP (fun w2 h2 => ((hK.get m6)).below h2) (fun _ h => nat_spare (hK.get m6) h) ((hK.get m10).hd' hex.out refK_hd)) (al1 (gwP (fun w2 h2 => ((hK.get m7)).below h2) (fun _ h => refr_spare (hK.get m7) h) ((hK.get m10).hd' hex.out refK_hd)) (al1 (gwP (fun w2 h2 => ((hK.get m8)).below h2) (fun _ h => ref_spare (hK.get m8) h) ((hK.get m10).hd' hex.out refK_hd)) (al1 (gwP (fun w2 h2 => ((hK.get m9)).below h2) (fun _ h => ref_spare (hK.get m9) h) ((hK.get m10).hd' hex.out refK_hd)) (al1 (gwC (hK.get m11)) (al1 (gwC (hK.get m12)) (al1 (gwC (hK.get m13)) (al1 (gwC (apr hr (fun g e1 e2 => ((hK.get m13)) g e2 e1) (fun g e => (((hK.get m1)).block e).2))) (al1 (gwC (apb hr n41 ((hK.get m2)).ltS)) (al1 (gwC (apb hr n38 ((hK.get m3)).ltS)) aN)))))))))))))))) ?_
       intro sv51
       rw [numsX_snoc exn.out]
       simp only [Act.put, pA, pB, pC]
       iterate 2 (apply lxF0 (wants0 rfl); (· intro w' h0; go_simp; (try go_bits); exact ⟨rfl, rfl⟩); simp only [Act.put, pA, pB, pC])
       refine lxEnd (fun W55 hK => ?_)
       have n47 := hK.get m10
       have n48 := hK.get m11
       have n49 := hK.get m12
       have n52 := hK.get m13
       have n53 := hK.get m14
       have n54 := hK.get m15
       (try go_wp2)
       go_roundw
       case rel => exact ⟨k + 1, sv46.p, sv46.c, sv51.p, sv51.c, (by first | rfl | go_num), (by first | rfl | go_num), (by first | rfl | go_num), (by omega), (hid (hf.out.step exn.out hd1 hd2)), (hid (fun g e1 e2 => n52 g e2 e1)), (hid (fun e => absurd e (numsX_nil exn.out))), (hid (fun e => absurd e (numsX_nil exn.out))), ⟨hK.old, (al1 (hK.all _ m1) (al1 (hK.all _ m0) aN))⟩⟩
       case measure => simp [intOf]; omega
      · --
       have q_b4 : 3 < ((xn.es.length : Int)) := of_decide_eq_true hb4.out
       go_wp2
       try go_ret
       show Q0 (.returned (.bool true)) _
       exact (by obtain rfl := hQ0.out; exact ⟨rfl, hK.old⟩)
     · --
      have q_b3 : 3 < ((xn.ds.length : Int)) := of_decide_eq_true hb3.out
      iterate 7 (apply txN (j := 7) (d := 31) (b := false) rfl rfl rfl rfl; simp only [Act.put, pA, pB, pC])
      apply txF (wants0 rfl); (· intro w' hK; go_simp; (try go_bits); exact ⟨rfl, rfl⟩); simp only [Act.put, pA, pB, pC]
      refine txEnd (fun W56 hK => ?_)
      go_wp2
      try go_ret
      show Q0 (.returned (.bool true)) _
      exact (by obtain rfl := hQ0.out; exact ⟨rfl, hK.old⟩)
  · --
   have q_b1 : 8 < ((L.length : Int)) := of_decide_eq_true hb1.out
   go_wp2
   try go_ret
   show Q0 (.returned (.bool true)) _
   exact (by obtain rfl := hQ0.out; exact ⟨rfl, hK.old⟩)
end Go.Proofs.YtiilkcdefpmimaaGreatDoor
