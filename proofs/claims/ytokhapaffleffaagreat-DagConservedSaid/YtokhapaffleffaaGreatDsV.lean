/- Numbers of paths: the reference; unique paths. -/
import Derived.Test.YtokhapaffleffaaGreatDsU
namespace Go.Proofs.YtokhapaffleffaaGreat
open Go.RowKit
open Go.Lib (decDigits)
set_option maxRecDepth 100000 in
set_option maxHeartbeats 1000000 in
theorem rcount_any (w : World) {v_t : Value} {t : TopD} (ht : TopV w v_t t) {p_d : Option Addr} {n_d c_d : Nat} {down : List Bool} (hd : SlV boolK w (.slice p_d n_d c_d) down) (n : Int) (d : Int) (most : Int) (hl : t.links.length ≤ 100000) (hM : RowKit.Hid (most ≤ 9223372036854775807)) :
    Calls Tryz.prog 26 #[v_t, .slice p_d n_d c_d, .int .i64 n, .int .i64 d, .int .i64 most] w fun e w' => e = .returned (.tuple #[.int .i64 (cntR t down n d most), .int .i64 (chkC t down n d most)]) ∧ Below w.heap.size w w' := by
  have ht_0 := ht
  obtain ⟨p_t, n_t, c_t, q_t, m_t, d_t, rfl, ht_1, ht_2⟩ := ht_0; have b_t : m_t ≤ 100000 := (by rw [ht_2.one0]; exact hl); have a_t : arcsD t ≤ 200000 := (by unfold arcsD; omega)
  have hK := SS.start w
  refine Calls.hide (fun Q0 hQ0 => ?_)
  go_enter Tryz.func26, Tryz.ntmps26
  go_upto_region 0 with (fail)
  refine wp_region_T [3, 0, 0] hK ?_
  clear hK
  refine eA (.cells #[.int .i64 t.nodes, .slice p_t n_t c_t, .slice q_t m_t d_t] 25) (fun R1 => ?_)
  iterate 2 refine e0 ?_
  refine sxEnd (fun W2 hK => ?_)
  go_upto_region 1 with (fail)
  refine wp_region_T [1, 0, 0, 2, 0, 0, 0, 0, 0] hK ?_
  clear hK
  refine eL m0 ?_
  iterate 2 refine e0 ?_
  refine eC (fun w k => rdist_any w (ht.below k.old) (hd.below k.old) d hl) (fun x3 => ?_)
  obtain ⟨p4, n4, c4⟩ := x3; dsimp only
  iterate 5 refine e0 ?_
  refine sxEnd (fun W5 hK => ?_)
  go_upto_region 2 with (fail)
  refine wp_region_T [0, 0] hK ?_
  clear hK
  refine e0 ?_
  refine eB (((chkD t down [d])) != 0) (fun b1 hb1 => ?_)
  refine sxEnd (fun W6 hK => ?_)
  cases b1
  · --
   go_upto_region 4 with (fail)
   refine wp_region_T [0, 0, 0, 0, 0, 1, 0, 0] hK ?_
   clear hK
   refine e0 ?_
   refine eB (decide (n < 0)) (fun b2 hb2 => ?_)
   refine e0 ?_
   cases b2
   · --
    have q_b2 : 0 ≤ n := Int.not_lt.1 (of_decide_eq_false hb2.out)
    iterate 2 refine e0 ?_
    refine eL m2 ?_
    refine eB (decide (t.nodes ≤ n)) (fun b3 hb3 => ?_)
    refine e0 ?_
    refine sxEnd (fun W7 hK => ?_)
    cases b3
    · --
     have q_b3 : n < t.nodes := Int.not_le.1 (of_decide_eq_false hb3.out)
     go_upto_region 6 with (fail)
     refine wp_region_T [0, 0] hK ?_
     clear hK
     refine e0 ?_
     refine eB (decide (most < 0)) (fun b4 hb4 => ?_)
     refine sxEnd (fun W8 hK => ?_)
     cases b4
     · --
      have q_b4 : 0 ≤ most := Int.not_lt.1 (of_decide_eq_false hb4.out)
      have hc := hid (show chkD t down [d] = 0 by have q := hb1.out; simpa using q); have hI0 := hid (hK.get m1 hc.out)
      replace hK := hK.subl (sK2 (sC2 (List.Sublist.refl _)))
      have hok := hid (chk_ok hc.out); obtain ⟨n1, rfl⟩ : ∃ k : Nat, n = (k : Int) := ⟨n.toNat, (Int.toNat_of_nonneg (by omega)).symm⟩; obtain ⟨d1, rfl⟩ : ∃ k : Nat, d = (k : Int) := ⟨d.toNat, (Int.toNat_of_nonneg hok.out.2.2.1).symm⟩; have ht2 := hok.out.1; have hnn := hid (topN ht2).1; have hn1 : n1 < nN t := (by have q := hnn.out; omega); have hI : RowKit.Hid (IsDst t down d1 (dstD t down d1)) := hI0; clear hI0; have hX := hid (show chkN t down n1 d1 = 0 by unfold chkN; rw [if_pos hc.out, if_pos (by omega)])
      rw [show dstR t down d1 = dstD t down d1 from dstR_ok hc.out] at hK
      have hnn := hid (topN ht2); have hnm : nN t ≤ 64 := hnn.out.2.2.1; obtain ⟨M, rfl⟩ : ∃ k : Nat, most = (k : Int) := ⟨most.toNat, (Int.toNat_of_nonneg (by omega)).symm⟩; have hMb := hM.out
      have hd1 : d1 < nN t := (by have q := hok.out.2.2.2; have q2 := hnn.out.1; omega)
      go_upto_region 8 with (fail)
      refine wp_region_T [0, 1, 3, 0] hK ?_
      clear hK
      refine e0 ?_
      refine eL m1 ?_
      refine eMk (K := intK) (t := 3) (x := 0) (nN t) (fun _ => rfl) rfl infoZ (by show nN t * 1 ≤ _; omega) (by decide) (fun g9 => ?_) (hv := (topN ht2).1)
      refine e0 ?_
      refine sxEnd (fun W10 hK => ?_)
      replace hK := hK.made (K := intK) (n := (nN t)) (fun _ => rfl) (by simp [maxLen]; omega)
      have i11 : d1 < (nN t) := hd1
      have l11 : d1 < (List.replicate (nN t) (0 : Int)).length := Nat.lt_of_lt_of_eq i11 (hK.len m0)
      obtain ⟨x0, ex0⟩ : ∃ x, RowKit.Hid ((List.replicate (nN t) (0 : Int))[d1]? = some x) := ⟨_, hid (List.getElem?_eq_getElem l11)⟩
      go_upto_region 9 with (fail)
      refine wp_region_T [0, 0, 0, 0, 0, 4] hK ?_
      clear hK
      iterate 3 refine e0 ?_
      refine eV (.int .i64 ((min 1 M : Nat) : Int)) (fun w' => by go_simp; (try go_bits); exact ⟨congrArg (Value.int .i64) (by first | omega | (unfold wrap64; omega)), rfl⟩) ?_
      refine e0 ?_
      refine eWI (y := ((min 1 M : Nat) : Int)) 0 l11 ?_ (hi := rfl)
      refine sxEnd (fun W12 hK => ?_)
      rw [show (List.replicate (nN t) (0 : Int)).set d1 ((min 1 M : Nat) : Int) = natI (cnt0 (nN t) d1 M) from cnt0_row] at hK
      go_upto_region 10 with (fail)
      refine wp_region_T [1, 0, 0, 2, 0, 0, 0, 0, 0] hK ?_
      clear hK
      refine eL m2 ?_
      iterate 2 refine e0 ?_
      refine eC (fun w k => rorder_any w (ht.below k.old) (hd.below k.old) (d1 : Int) hl) (fun x13 => ?_)
      obtain ⟨p14, n14, c14⟩ := x13; dsimp only
      iterate 5 refine e0 ?_
      refine sxEnd (fun W15 hK => ?_)
      have hio := hid (show IsOrd (nN t) (dstD t down d1) (ordD (dstD t down d1)) from (hK.get m1 hc.out).2); rw [show ordR t down d1 = ordD (dstD t down d1) from if_pos hc.out] at hK; have hon2 : (ordD (dstD t down d1)).length ≤ nN t := Nat.le_trans (nd_len (nd_ord hio.out) (fun x h => List.mem_range.2 ((hio.out.2 x).1 h).1)) (by simp)
      replace hK := hK.subl (sK2 (sC2 (List.Sublist.refl _)))
      have hDn := hid ((hK.len m2).trans hI.out.1); have hDn1 := Nat.le_of_eq hDn.out.symm; have hDn2 := Nat.le_of_eq hDn.out; have hio1 := Nat.le_of_eq ((hK.len m0).trans (natI_len _)); have hio2 := Nat.le_of_eq ((hK.len m0).trans (natI_len _)).symm
      go_upto_region 11 with (fail)
      refine wp_region_T [0, 0, 0, 0] hK ?_
      clear hK
      iterate 2 refine e0 ?_
      refine eV (.int .i64 (((ordD (dstD t down d1)).length : Int) - 1)) (fun w' => by go_simp; (try go_bits); exact ⟨congrArg (Value.int .i64) (by first | omega | (unfold wrap64; omega)), rfl⟩) ?_
      refine e0 ?_
      refine sxEnd (fun W16 hK => ?_)
      go_wp2_with fail
      go_loopg [17] (((ordD (dstD t down d1)).length)) (fun gk0 s17 wl => ∃ (i : Nat) (zi : Int) (c : List Nat), s17 = .int .i64 zi ∧ (i ≤ (ordD (dstD t down d1)).length) ∧ RowKit.Hid (zi = (i : Int) - 1) ∧ RowKit.Hid (CntI t down (dstD t down d1) d1 (nN t) M ((ordD (dstD t down d1)).drop i) c) ∧ RowKit.Hid (gk0 = i) ∧ SS w ([rO intK 3 p4 n4 c4 (dstD t down d1), rO intK 3 (some ⟨g9, 0, none⟩) (nN t) (nN t) (natI c), rO intK 3 p14 n14 c14 (natI (ordD (dstD t down d1))), bx R1 (.cells #[.int .i64 t.nodes, .slice p_t n_t c_t, .slice q_t m_t d_t] 25)]) wl)
      case atStart => exact ⟨(ordD (dstD t down d1)).length, (((ordD (dstD t down d1)).length : Int) - 1), cnt0 (nN t) d1 M, (congrArg (Value.int .i64) (by omega)), (by omega), hid rfl, hid (by rw [List.drop_length]; exact CntI.start hd1), hid rfl, ((((hK.up3).up1).up2).up3)⟩
      case round =>
       clear hK
       obtain ⟨i, zi, c, rfl, hi0, h_z, h_C, hgk17, hK⟩ := hrel
       generalize wr = W18 at hK ⊢
       go_upto_region 12 with (fail)
       refine wp_region_T [0, 0] hK ?_
       clear hK
       refine e0 ?_
       refine eB (decide (0 ≤ zi)) (fun b5 hb5 => ?_)
       refine sxEnd (fun W19 hK => ?_)
       cases b5
       · --
        have q_b5 : zi < 0 := Int.not_le.1 (of_decide_eq_false hb5.out)
        have hCf := hid (h_C.out.full ht2 hI.out (fun x => by rw [show i = 0 by have := h_z.out; omega, List.drop_zero]; exact hio.out.2 x)); have hql := hid ((hK.len m1).trans ((natI_len _).trans h_C.out.len))
        have i20 : n1 < (nN t) := (by have := hql.out; omega)
        have l20 : n1 < (natI c).length := Nat.lt_of_lt_of_eq i20 (hK.len m1)
        obtain ⟨xy, exy⟩ : ∃ x, RowKit.Hid ((natI c)[n1]? = some x) := ⟨_, hid (List.getElem?_eq_getElem l20)⟩
        obtain ⟨y, hy1, rfl⟩ := natI_at exy.out; have hyc := hid (show c.getD n1 0 = y by rw [List.getD_eq_getElem?_getD, hy1]; rfl)
        go_upto_region 20 with (fail)
        refine wp_region_T [0, 0, 0, 1, 0, 0] hK ?_
        clear hK
        iterate 3 refine e0 ?_
        refine eR (fun w k => (k.own m1).int exy.out) ?_
        iterate 2 refine e0 ?_
        refine sxEnd (fun W21 hK => ?_)
        go_wp2
        try go_ret
        show Q0 (.returned (.tuple #[.int .i64 (y : Int), .int .i64 0])) _
        exact (by obtain rfl := hQ0.out; exact ⟨by rw [show cntR t down n1 d1 (M : Int) = ((min (nSP t down (dstD t down d1) d1 n1) M : Nat) : Int) from if_pos ⟨hX.out, by omega⟩, show chkC t down n1 d1 (M : Int) = 0 from (if_pos hX.out).trans (if_neg (by omega)), ← hCf.out n1, hyc.out], hK.old⟩)
       · --
        have q_b5 : 0 ≤ zi := of_decide_eq_true hb5.out
        obtain ⟨j, rfl⟩ : ∃ k : Nat, zi = (k : Int) := ⟨zi.toNat, (Int.toNat_of_nonneg (by have := h_z.out; omega)).symm⟩; have hij := hid (show i = j + 1 by have := h_z.out; omega); have hj : j < (ordD (dstD t down d1)).length := (by have := hij.out; omega)
        clear h_z
        have i22 : j < n14 := (by omega)
        obtain ⟨g22, rfl⟩ := hK.pt m2 i22
        have l22 : j < (natI (ordD (dstD t down d1))).length := Nat.lt_of_lt_of_eq i22 (hK.len m2)
        obtain ⟨xm, exm⟩ : ∃ x, RowKit.Hid ((natI (ordD (dstD t down d1)))[j]? = some x) := ⟨_, hid (List.getElem?_eq_getElem l22)⟩
        obtain ⟨m, hm1, rfl⟩ := natI_at exm.out; have hmN := ((hio.out.2 m).1 (List.mem_of_getElem? hm1)).1
        go_upto_region 14 with (fail)
        refine wp_region_S _ [0, 0, 0, 0, 0, 0, 0, 0, 2, 0] hK ?_ (List.Sublist.refl _)
        clear hK
        refine eL0 m3 ?_
        iterate 5 refine e0 ?_
        refine eR0 (fun w k => (k.own m2).int exm.out) ?_
        refine e0 ?_
        refine eC (fun w k => rnext_any w (ht.below k.old) (hd.below k.old) (k.slv m0) m d1 hl ht2 (hid hok.out.2.1) hI.out.1 (hI.out.small ht2)) (fun x23 => ?_)
        obtain ⟨p24, n24, c24⟩ := x23; dsimp only
        refine e0 ?_
        refine sxEnd (fun W25 hK => ?_)
        rw [show natI c = natI (c.set m (c.getD m 0)) from (by rw [set_self])] at hK
        have hu1 := Nat.le_of_eq ((hK.len m0).trans (natI_len _)); have hu2 := Nat.le_of_eq ((hK.len m0).trans (natI_len _)).symm; have hcl := hid h_C.out.len; have hnl := nxt_len t down (dstD t down d1) m d1
        go_wp2_with fail
        go_loopw [19] (fun s19 wl => ∃ (k : Nat) (v : Nat), s19 = .int .i64 (k : Int) ∧ (k ≤ (nxtD t down (dstD t down d1) m d1).length) ∧ RowKit.Hid (v = foldC t M c m (nxtD t down (dstD t down d1) m d1) k) ∧ (v ≤ M) ∧ SS w ([rO intK 3 p24 n24 c24 (natI (nxtD t down (dstD t down d1) m d1)), rO intK 3 p4 n4 c4 (dstD t down d1), rO intK 3 (some ⟨g9, 0, none⟩) (nN t) (nN t) (natI (c.set m v)), rO intK 3 (some ⟨g22, 0, none⟩) n14 c14 (natI (ordD (dstD t down d1))), bx R1 (.cells #[.int .i64 t.nodes, .slice p_t n_t c_t, .slice q_t m_t d_t] 25)]) wl) (fun s19 _ => (nxtD t down (dstD t down d1) m d1).length - (intOf s19).toNat)
        case atStart => exact ⟨0, (c.getD m 0), rfl, (by omega), hid rfl, (cnt_b h_C.out m), hK⟩
        case round =>
         clear hK
         obtain ⟨k, v, rfl, hk0, h_v, hvM, hK⟩ := hrel
         generalize wr = W26 at hK ⊢
         go_upto_region 16 with (fail)
         refine wp_region_T [0, 0, 0, 0] hK ?_
         clear hK
         iterate 3 refine e0 ?_
         refine eB (decide (((k : Int)) < ((n24 : Int)))) (fun b6 hb6 => ?_)
         refine sxEnd (fun W27 hK => ?_)
         cases b6
         · --
          have q_b6 : ((n24 : Int)) ≤ ((k : Int)) := Int.not_lt.1 (of_decide_eq_false hb6.out)
          (try go_wp2)
          have hCn := hid (cnt_next ht2 hio.out (i := j) (hij.out ▸ h_C.out) hm1); rw [← foldC_all (k := k) (by omega), ← h_v.out] at hCn
          go_roundg (j)
          case measure => rw [hgk17.out]; have := hij.out; omega
          case rel => exact ⟨j, ((j : Int) - 1), (c.set m v), (by first | rfl | go_num), (by omega), hid rfl, hid hCn.out, hid rfl, (hK.subl (sC2 (List.Sublist.refl _)))⟩
         · --
          have q_b6 : ((k : Int)) < ((n24 : Int)) := of_decide_eq_true hb6.out
          have hk : k < (nxtD t down (dstD t down d1) m d1).length := by omega
          have i28 : k < n24 := (by omega)
          obtain ⟨g28, rfl⟩ := hK.pt m0 i28
          have l28 : k < (natI (nxtD t down (dstD t down d1) m d1)).length := Nat.lt_of_lt_of_eq i28 (hK.len m0)
          obtain ⟨xa, exa⟩ : ∃ x, RowKit.Hid ((natI (nxtD t down (dstD t down d1) m d1))[k]? = some x) := ⟨_, hid (List.getElem?_eq_getElem l28)⟩
          obtain ⟨a, ha1, rfl⟩ := natI_at exa.out; have ha2 := mem_nxt.1 (List.mem_of_getElem? ha1); have haA := ha2.1; have hls := nxt_less ht2 (List.mem_of_getElem? ha1); have hhN := hls.2.2.1; have hne : hN t a ≠ m := (by intro e; have q := hls.2.1; rw [e] at q; omega)
          have hql := (hK.len m2).trans ((natI_len _).trans List.length_set)
          replace hql := hid hql
          have i29 : hN t a < (nN t) := (by have := hql.out; omega)
          have l29 : hN t a < (natI (c.set m v)).length := Nat.lt_of_lt_of_eq i29 (hK.len m2)
          obtain ⟨xz, exz⟩ : ∃ x, RowKit.Hid ((natI (c.set m v))[hN t a]? = some x) := ⟨_, hid (List.getElem?_eq_getElem l29)⟩
          obtain ⟨z, hz1, rfl⟩ := natI_at exz.out; have hz2 := hid (other_at hne hz1)
          go_upto_region 18 with (fail)
          refine wp_region_S _ [0, 0, 0, 0, 0, 0, 1, 0, 0, 0] hK ?_ (List.Sublist.refl _)
          clear hK
          refine e0 ?_
          refine eL0 m4 ?_
          iterate 3 refine e0 ?_
          refine eR0 (fun w k => (k.own m0).int exa.out) ?_
          refine eQ (fun w k => rhead_any w (ht.below k.old) a hl ht2 haA) ?_
          refine e0 ?_
          refine eR0 (fun w k => (k.own m2).int exz.out) ?_
          refine e0 ?_
          refine sxEnd (fun W30 hK => ?_)
          have i31 : j < n14 := (by omega)
          have l31 : j < (natI (ordD (dstD t down d1))).length := Nat.lt_of_lt_of_eq i31 (hK.len m3)
          obtain ⟨xm, exm⟩ : ∃ x, RowKit.Hid ((natI (ordD (dstD t down d1)))[j]? = some x) := ⟨_, hid (List.getElem?_eq_getElem l31)⟩
          obtain rfl : xm = (m : Int) := (by have q := exm.out; unfold natI at q; rw [List.getElem?_map, hm1] at q; exact (Option.some.inj q).symm)
          have i32 : m < (nN t) := (by have := hql.out; omega)
          have l32 : m < (natI (c.set m v)).length := Nat.lt_of_lt_of_eq i32 (hK.len m2)
          obtain ⟨xv, exv⟩ : ∃ x, RowKit.Hid ((natI (c.set m v))[m]? = some x) := ⟨_, hid (List.getElem?_eq_getElem l32)⟩
          obtain ⟨v2, hv1, rfl⟩ := natI_at exv.out; obtain rfl : v = v2 := (by rw [List.getElem?_set_self (by have := hql.out; omega)] at hv1; exact Option.some.inj hv1)
          go_upto_region 19 with (fail)
          refine wp_region_S _ [0, 0, 0, 0, 0, 0, 1, 0, 0, 0, 0, 0, 0, 0, 0, 1, 0, 0, 0, 0, 4] hK ?_ (sK2 (sK2 (sC2 (List.Sublist.refl _))))
          clear hK
          iterate 4 refine e0 ?_
          refine eR0 (fun w k => (k.own m2).int exm.out) ?_
          refine e0 ?_
          refine eR (fun w k => (k.own m2).int exv.out) ?_
          iterate 6 refine e0 ?_
          refine eR0 (fun w k => (k.own m2).int exm.out) ?_
          refine e0 ?_
          refine eR (fun w k => (k.own m2).int exv.out) ?_
          refine eV (.int .i64 ((M : Int) - (v : Int))) (fun w' => by go_simp; (try go_bits); exact ⟨congrArg (Value.int .i64) (by first | omega | (unfold wrap64; omega)), rfl⟩) ?_
          refine eV (.int .i64 ((min z (M - v) : Nat) : Int)) (fun w' => by go_simp; (try go_bits); exact ⟨congrArg (Value.int .i64) (by first | omega | (unfold wrap64; omega)), rfl⟩) ?_
          refine eV (.int .i64 ((v : Int) + ((min z (M - v) : Nat) : Int))) (fun w' => by go_simp; (try go_bits); exact ⟨congrArg (Value.int .i64) (by first | omega | (unfold wrap64; omega)), rfl⟩) ?_
          refine e0 ?_
          refine eWI (y := ((v : Int) + ((min z (M - v) : Nat) : Int))) 2 l32 ?_ (hi := rfl) (hs := (sK2 (sK2 (sC2 (List.Sublist.refl _)))))
          refine sxEnd (fun W33 hK => ?_)
          rw [show (natI (c.set m v)).set m ((v : Int) + ((min z (M - v) : Nat) : Int)) = natI (c.set m (satM M v z)) from cs_min] at hK
          (try go_wp2)
          go_roundw
          case rel => exact ⟨k + 1, (satM M v z), (by first | rfl | go_num), (by omega), hid ((by rw [h_v.out, hz2.out, foldC_next ha1] : satM M v z = _)), (sat_le hvM), hK⟩
          case measure => simp [intOf] <;> omega
     · --
      have q_b4 : most < 0 := of_decide_eq_true hb4.out
      go_wp2
      try go_ret
      show Q0 (.returned (.tuple #[.int .i64 0, .int .i64 1])) _
      exact (by obtain rfl := hQ0.out; exact ⟨by have q := hb1.out; simp at q; have hX : chkN t down n d = 0 := (by unfold chkN; rw [if_pos q, if_pos (by omega)]); rw [show cntR t down n d most = 0 from if_neg (fun w => by omega), show chkC t down n d most = 1 from (if_pos hX).trans (if_pos (by omega))], hK.old⟩)
    · --
     have q_b3 : t.nodes ≤ n := of_decide_eq_true hb3.out
     go_wp2
     try go_ret
     show Q0 (.returned (.tuple #[.int .i64 0, .int .i64 2])) _
     exact (by obtain rfl := hQ0.out; exact ⟨by have q := hb1.out; simp at q; have hX : chkN t down n d = 2 := (by unfold chkN; rw [if_pos q, if_neg (by omega)]); rw [show cntR t down n d most = 0 from if_neg (fun w => by rw [hX] at w; cases w.1), show chkC t down n d most = chkN t down n d from if_neg (by rw [hX]; decide), hX], hK.old⟩)
   · --
    have q_b2 : n < 0 := of_decide_eq_true hb2.out
    iterate 4 refine eN ?_
    refine e0 ?_
    refine sxEnd (fun W34 hK => ?_)
    go_wp2
    try go_ret
    show Q0 (.returned (.tuple #[.int .i64 0, .int .i64 2])) _
    exact (by obtain rfl := hQ0.out; exact ⟨by have q := hb1.out; simp at q; have hX : chkN t down n d = 2 := (by unfold chkN; rw [if_pos q, if_neg (by omega)]); rw [show cntR t down n d most = 0 from if_neg (fun w => by rw [hX] at w; cases w.1), show chkC t down n d most = chkN t down n d from if_neg (by rw [hX]; decide), hX], hK.old⟩)
  · --
   go_wp2
   try go_ret
   show Q0 (.returned (.tuple #[.int .i64 0, .int .i64 (chkD t down [d])])) _
   exact (by obtain rfl := hQ0.out; exact ⟨by have q := hb1.out; simp at q; have hX : chkN t down n d = chkD t down [d] := (by unfold chkN; rw [if_neg q]); rw [show cntR t down n d most = 0 from if_neg (fun w => q (hX ▸ w.1)), show chkC t down n d most = chkN t down n d from if_neg (by rw [hX]; exact q), hX], hK.old⟩)
noncomputable def unqR (t : TopD) (down : List Bool) (n d : Int) : Bool := decide (chkC t down n d 2 = 0) && decide (cntR t down n d 2 = 1)
set_option maxRecDepth 100000 in
theorem unique_any (w : World) {v_t : Value} {t : TopD} (ht : TopV w v_t t) {p_d : Option Addr} {n_d c_d : Nat} {down : List Bool} (hd : SlV boolK w (.slice p_d n_d c_d) down) (n : Int) (d : Int) (hl : t.links.length ≤ 100000) :
    Calls Tryz.prog 27 #[v_t, .slice p_d n_d c_d, .int .i64 n, .int .i64 d] w fun e w' => e = .returned (.bool (unqR t down n d)) ∧ Below w.heap.size w w' := by
  have ht_0 := ht
  obtain ⟨p_t, n_t, c_t, q_t, m_t, d_t, rfl, ht_1, ht_2⟩ := ht_0; have b_t : m_t ≤ 100000 := (by rw [ht_2.one0]; exact hl); have a_t : arcsD t ≤ 200000 := (by unfold arcsD; omega)
  have hK := SS.start w
  refine Calls.hide (fun Q0 hQ0 => ?_)
  go_enter Tryz.func27, Tryz.ntmps27
  go_upto_region 0 with (fail)
  refine wp_region_T [3, 0] hK ?_
  clear hK
  refine eA (.cells #[.int .i64 t.nodes, .slice p_t n_t c_t, .slice q_t m_t d_t] 25) (fun R1 => ?_)
  refine e0 ?_
  refine sxEnd (fun W2 hK => ?_)
  go_upto_region 1 with (fail)
  refine wp_region_T [1, 0, 0, 0, 1, 0, 0, 0, 0, 0] hK ?_
  clear hK
  refine eL m0 ?_
  iterate 3 refine e0 ?_
  refine eQ (fun w k => count_any w (ht.below k.old) (hd.below k.old) n d 2 hl (hid (by decide))) ?_
  iterate 5 refine e0 ?_
  refine sxEnd (fun W3 hK => ?_)
  go_upto_region 2 with (fail)
  refine wp_region_T [0, 0, 0, 0, 0, 0, 0] hK ?_
  clear hK
  refine e0 ?_
  refine eB (((chkC t down n d 2)) == 0) (fun b1 hb1 => ?_)
  refine e0 ?_
  cases b1
  · --
   iterate 2 refine eN ?_
   iterate 2 refine e0 ?_
   refine sxEnd (fun W4 hK => ?_)
   go_wp2
   try go_ret
   show Q0 (.returned (.bool false)) _
   exact (by obtain rfl := hQ0.out; exact ⟨by have q := hb1.out; simp at q; rw [show unqR t down n d = false from by unfold unqR; rw [decide_eq_false q]; rfl], hK.old⟩)
  · --
   refine e0 ?_
   refine eB (((cntR t down n d 2)) == 1) (fun b2 hb2 => ?_)
   iterate 2 refine e0 ?_
   refine sxEnd (fun W5 hK => ?_)
   go_wp2
   try go_ret
   show Q0 (.returned (.bool b2)) _
   exact (by obtain rfl := hQ0.out; exact ⟨congrArg (fun z => Ending.returned (.bool z)) (by have q := hb1.out; simp at q; unfold unqR; rw [decide_eq_true q, Bool.true_and, ← hb2.out, Bool.eq_iff_iff]; simp), hK.old⟩)
set_option maxRecDepth 100000 in
theorem runique_any (w : World) {v_t : Value} {t : TopD} (ht : TopV w v_t t) {p_d : Option Addr} {n_d c_d : Nat} {down : List Bool} (hd : SlV boolK w (.slice p_d n_d c_d) down) (n : Int) (d : Int) (hl : t.links.length ≤ 100000) :
    Calls Tryz.prog 28 #[v_t, .slice p_d n_d c_d, .int .i64 n, .int .i64 d] w fun e w' => e = .returned (.bool (unqR t down n d)) ∧ Below w.heap.size w w' := by
  have ht_0 := ht
  obtain ⟨p_t, n_t, c_t, q_t, m_t, d_t, rfl, ht_1, ht_2⟩ := ht_0; have b_t : m_t ≤ 100000 := (by rw [ht_2.one0]; exact hl); have a_t : arcsD t ≤ 200000 := (by unfold arcsD; omega)
  have hK := SS.start w
  refine Calls.hide (fun Q0 hQ0 => ?_)
  go_enter Tryz.func28, Tryz.ntmps28
  go_upto_region 0 with (fail)
  refine wp_region_T [3, 0] hK ?_
  clear hK
  refine eA (.cells #[.int .i64 t.nodes, .slice p_t n_t c_t, .slice q_t m_t d_t] 25) (fun R1 => ?_)
  refine e0 ?_
  refine sxEnd (fun W2 hK => ?_)
  go_upto_region 1 with (fail)
  refine wp_region_T [1, 0, 0, 0, 1, 0, 0, 0, 0, 0] hK ?_
  clear hK
  refine eL m0 ?_
  iterate 3 refine e0 ?_
  refine eQ (fun w k => rcount_any w (ht.below k.old) (hd.below k.old) n d 2 hl (hid (by decide))) ?_
  iterate 5 refine e0 ?_
  refine sxEnd (fun W3 hK => ?_)
  go_upto_region 2 with (fail)
  refine wp_region_T [0, 0, 0, 0, 0, 0, 0] hK ?_
  clear hK
  refine e0 ?_
  refine eB (((chkC t down n d 2)) == 0) (fun b1 hb1 => ?_)
  refine e0 ?_
  cases b1
  · --
   iterate 2 refine eN ?_
   iterate 2 refine e0 ?_
   refine sxEnd (fun W4 hK => ?_)
   go_wp2
   try go_ret
   show Q0 (.returned (.bool false)) _
   exact (by obtain rfl := hQ0.out; exact ⟨by have q := hb1.out; simp at q; rw [show unqR t down n d = false from by unfold unqR; rw [decide_eq_false q]; rfl], hK.old⟩)
  · --
   refine e0 ?_
   refine eB (((cntR t down n d 2)) == 1) (fun b2 hb2 => ?_)
   iterate 2 refine e0 ?_
   refine sxEnd (fun W5 hK => ?_)
   go_wp2
   try go_ret
   show Q0 (.returned (.bool b2)) _
   exact (by obtain rfl := hQ0.out; exact ⟨congrArg (fun z => Ending.returned (.bool z)) (by have q := hb1.out; simp at q; unfold unqR; rw [decide_eq_true q, Bool.true_and, ← hb2.out, Bool.eq_iff_iff]; simp), hK.old⟩)
end Go.Proofs.YtokhapaffleffaaGreat
