/- The reference: next arcs. -/
import Derived.Test.YtokhapaffleffaaGreatDsP
namespace Go.Proofs.YtokhapaffleffaaGreat
open Go.RowKit
open Go.Lib (decDigits)
set_option maxRecDepth 100000 in
theorem rnext_any (w : World) {v_t : Value} {t : TopD} (ht : TopV w v_t t) {p_d : Option Addr} {n_d c_d : Nat} {down : List Bool} (hd : SlV boolK w (.slice p_d n_d c_d) down) {p_D : Option Addr} {n_D c_D : Nat} {D : List Int} (hD : SlV intK w (.slice p_D n_D c_D) D) (n : Nat) (d : Nat) (hl : t.links.length ≤ 100000) (ht2 : topOk t = true) (hdl : RowKit.Hid (down.length = 0 ∨ down.length = arcsD t)) (hDl : D.length = nN t) (hsm : ∀ x, atD D x ≤ 4300000) :
    Calls Tryz.prog 40 #[v_t, .slice p_d n_d c_d, .slice p_D n_D c_D, .int .i64 (n : Int), .int .i64 (d : Int)] w fun e w' => ∃ x : Sl, e = .returned (.slice x.p x.l x.c) ∧ SS w [rO intK 3 x.p x.l x.c (natI (nxtD t down D n d))] w' := by
  have ht_0 := ht
  obtain ⟨p_t, n_t, c_t, q_t, m_t, d_t, rfl, ht_1, ht_2⟩ := ht_0; have b_t : m_t ≤ 100000 := (by rw [ht_2.one0]; exact hl); have a_t : arcsD t ≤ 200000 := (by unfold arcsD; omega)
  have hK := SS.start w
  refine Calls.hide (fun Q0 hQ0 => ?_)
  go_enter Tryz.func40, Tryz.ntmps40
  go_upto_region 0 with (fail)
  refine wp_region_T [3, 0] hK ?_
  clear hK
  refine eA (.cells #[.int .i64 t.nodes, .slice p_t n_t c_t, .slice q_t m_t d_t] 25) (fun R1 => ?_)
  refine e0 ?_
  refine sxEnd (fun W2 hK => ?_)
  replace hK := hK.fact (rO intK 3 none 0 0 (natI (selD (fun a => decide (tN t a = n) && onD t down D d a) 0))) OwV.nil (fun _ h => by cases h)
  go_wp2_with fail
  go_loopw [12, 11] (fun s12 s11 wl => ∃ (j : Nat) (p : Option Addr) (n_ : Nat) (c : Nat), s12 = .int .i64 (j : Int) ∧ s11 = .slice p n_ c ∧ (j ≤ arcsD t) ∧ SS w ([rO intK 3 p n_ c (natI (selD (fun a => decide (tN t a = n) && onD t down D d a) j)), bx R1 (.cells #[.int .i64 t.nodes, .slice p_t n_t c_t, .slice q_t m_t d_t] 25)]) wl) (fun s12 s11 _ => arcsD t - (intOf s12).toNat)
  case atStart => exact ⟨0, none, 0, 0, rfl, rfl, (by omega), hK⟩
  case round =>
   clear hK
   obtain ⟨j, p, n_, c, rfl, rfl, hj0, hK⟩ := hrel
   generalize wr = W3 at hK ⊢
   go_upto_region 3 with (fail)
   refine wp_region_T [0, 0, 1, 0, 0, 0] hK ?_
   clear hK
   iterate 2 refine e0 ?_
   refine eL m1 ?_
   refine e0 ?_
   refine eV (.int .i64 ((arcsD t : Nat) : Int)) (fun w' => by go_simp; (try go_bits); exact ⟨congrArg (Value.int .i64) (by unfold arcsD; have := ht_2.one0; first | omega | (unfold wrap64; omega)), rfl⟩) ?_
   refine eB (decide (((j : Int)) < (((arcsD t : Nat) : Int)))) (fun b1 hb1 => ?_)
   refine sxEnd (fun W4 hK => ?_)
   cases b1
   · --
    have q_b1 : (((arcsD t : Nat) : Int)) ≤ ((j : Int)) := Int.not_lt.1 (of_decide_eq_false hb1.out)
    obtain rfl : j = arcsD t := by omega
    go_wp2
    try go_ret
    show Q0 (.returned (.slice p n_ c)) _
    exact (by obtain rfl := hQ0.out; exact ⟨⟨p, n_, c⟩, rfl, hK.subl (sK2 (sC2 sZ2))⟩)
   · --
    have q_b1 : ((j : Int)) < (((arcsD t : Nat) : Int)) := of_decide_eq_true hb1.out
    have ha : j < arcsD t := by omega
    go_upto_region 5 with (fail)
    refine wp_region_T [1, 0, 1, 0, 0, 0, 1, 0, 0, 0, 0, 1, 0] hK ?_
    clear hK
    refine eL m1 ?_
    refine e0 ?_
    refine eQ (fun w k => rtail_any w (ht.below k.old) j hl ht2 ha) ?_
    refine e0 ?_
    refine eB ((((tN t j : Nat) : Int)) == ((n : Int))) (fun b2 hb2 => ?_)
    refine e0 ?_
    cases b2
    · --
     iterate 6 refine eN ?_
     refine e0 ?_
     refine sxEnd (fun W5 hK => ?_)
     rw [show natI (selD (fun a => decide (tN t a = n) && onD t down D d a) j) = natI (selD (fun a => decide (tN t a = n) && onD t down D d a) (j + 1)) from (by rw [sel_no (by rw [show decide (tN t j = n) = false from decide_eq_false (by have q := hb2.out; simp at q; omega)]; rfl)])] at hK
     (try go_wp2)
     go_roundw
     case rel => exact ⟨j + 1, p, n_, c, (by first | rfl | go_num), (by first | rfl | go_num), (by omega), hK⟩
     case measure => simp [intOf] <;> omega
    · --
     refine eL m1 ?_
     iterate 4 refine e0 ?_
     obtain ⟨b3, hb3⟩ : ∃ b : Bool, RowKit.Hid ((onD t down D d j) = b) := ⟨_, hid rfl⟩
     refine eQ (v := .bool b3) (fun w k => on_any w (ht.below k.old) (hd.below k.old) (hD.below k.old) j d hl ht2 hdl hDl hsm ha) ?_ (hv := by rw [hb3.out])
     refine e0 ?_
     refine sxEnd (fun W6 hK => ?_)
     cases b3
     · --
      rw [show natI (selD (fun a => decide (tN t a = n) && onD t down D d a) j) = natI (selD (fun a => decide (tN t a = n) && onD t down D d a) (j + 1)) from (by rw [sel_no (by rw [hb3.out, Bool.and_false])])] at hK
      (try go_wp2)
      go_roundw
      case rel => exact ⟨j + 1, p, n_, c, (by first | rfl | go_num), (by first | rfl | go_num), (by omega), hK⟩
      case measure => simp [intOf] <;> omega
     · --
      go_upto_region 6 with (fail)
      refine wp_region_T [0, 0, 3, 5, 0] hK ?_
      clear hK
      iterate 2 refine e0 ?_
      refine eA (.cells #[.int .i64 (j : Int)] 3) (fun R7 => ?_)
      refine eApp 1 intK_free rfl infoZ (fun w k => k.one1 (K := intK) (x := (j : Int)) m0 rfl) (by have := sel_len (fun a => decide (tN t a = n) && onD t down D d a) j; rw [natI_len]; simp; omega) (fun x8 => ?_)
      obtain ⟨p8, n8, c8⟩ := x8; dsimp only
      refine e0 ?_
      refine sxEnd (fun W9 hK => ?_)
      rw [show (natI (selD (fun a => decide (tN t a = n) && onD t down D d a) j)) ++ [(j : Int)] = natI (selD (fun a => decide (tN t a = n) && onD t down D d a) (j + 1)) from (by rw [natI_snoc, sel_yes (by rw [show decide (tN t j = n) = true from decide_eq_true (by have q := hb2.out; simp at q; omega), hb3.out]; rfl)])] at hK
      (try go_wp2)
      go_roundw
      case rel => exact ⟨j + 1, p8, n8, c8, (by first | rfl | go_num), (by first | rfl | go_num), (by omega), (hK.subl (sC2 (List.Sublist.refl _)))⟩
      case measure => simp [intOf] <;> omega
set_option maxRecDepth 100000 in
set_option maxHeartbeats 1000000 in
theorem rnextR_any (w : World) {v_t : Value} {t : TopD} (ht : TopV w v_t t) {p_d : Option Addr} {n_d c_d : Nat} {down : List Bool} (hd : SlV boolK w (.slice p_d n_d c_d) down) (n : Int) (d : Int) (hl : t.links.length ≤ 100000) :
    Calls Tryz.prog 13 #[v_t, .slice p_d n_d c_d, .int .i64 n, .int .i64 d] w fun e w' => ∃ x : Sl, e = .returned (.tuple #[.slice x.p x.l x.c, .int .i64 (chkN t down n d)]) ∧ SS w [rO intK 3 x.p x.l x.c (natI (nxtR t down n d))] w' := by
  have ht_0 := ht
  obtain ⟨p_t, n_t, c_t, q_t, m_t, d_t, rfl, ht_1, ht_2⟩ := ht_0; have b_t : m_t ≤ 100000 := (by rw [ht_2.one0]; exact hl); have a_t : arcsD t ≤ 200000 := (by unfold arcsD; omega)
  have hK := SS.start w
  refine Calls.hide (fun Q0 hQ0 => ?_)
  go_enter Tryz.func13, Tryz.ntmps13
  go_upto_region 0 with (fail)
  refine wp_region_T [3, 0, 0] hK ?_
  clear hK
  refine eA (.cells #[.int .i64 t.nodes, .slice p_t n_t c_t, .slice q_t m_t d_t] 25) (fun R1 => ?_)
  iterate 2 refine e0 ?_
  refine sxEnd (fun W2 hK => ?_)
  go_upto_region 1 with (fail)
  refine wp_region_T [1, 0, 0, 2, 0, 0, 0, 0, 0] hK ?_
  clear hK
  refine eL m0 ?_
  iterate 2 refine e0 ?_
  refine eC (fun w k => rdist_any w (ht.below k.old) (hd.below k.old) d hl) (fun x3 => ?_)
  obtain ⟨p4, n4, c4⟩ := x3; dsimp only
  iterate 5 refine e0 ?_
  refine sxEnd (fun W5 hK => ?_)
  go_upto_region 2 with (fail)
  refine wp_region_T [0, 0] hK ?_
  clear hK
  refine e0 ?_
  refine eB (((chkD t down [d])) != 0) (fun b1 hb1 => ?_)
  refine sxEnd (fun W6 hK => ?_)
  cases b1
  · --
   go_upto_region 4 with (fail)
   refine wp_region_T [0, 0, 0, 0, 0, 1, 0, 0] hK ?_
   clear hK
   refine e0 ?_
   refine eB (decide (n < 0)) (fun b2 hb2 => ?_)
   refine e0 ?_
   cases b2
   · --
    have q_b2 : 0 ≤ n := Int.not_lt.1 (of_decide_eq_false hb2.out)
    iterate 2 refine e0 ?_
    refine eL m2 ?_
    refine eB (decide (t.nodes ≤ n)) (fun b3 hb3 => ?_)
    refine e0 ?_
    refine sxEnd (fun W7 hK => ?_)
    cases b3
    · --
     have q_b3 : n < t.nodes := Int.not_le.1 (of_decide_eq_false hb3.out)
     have hc := hid (show chkD t down [d] = 0 by have q := hb1.out; simpa using q); have hI0 := hid (hK.get m1 hc.out)
     replace hK := hK.subl (sK2 (sC2 (List.Sublist.refl _)))
     have hok := hid (chk_ok hc.out); obtain ⟨n1, rfl⟩ : ∃ k : Nat, n = (k : Int) := ⟨n.toNat, (Int.toNat_of_nonneg (by omega)).symm⟩; obtain ⟨d1, rfl⟩ : ∃ k : Nat, d = (k : Int) := ⟨d.toNat, (Int.toNat_of_nonneg hok.out.2.2.1).symm⟩; have ht2 := hok.out.1; have hnn := hid (topN ht2).1; have hn1 : n1 < nN t := (by have q := hnn.out; omega); have hI : RowKit.Hid (IsDst t down d1 (dstD t down d1)) := hI0; clear hI0; have hX := hid (show chkN t down n1 d1 = 0 by unfold chkN; rw [if_pos hc.out, if_pos (by omega)])
     rw [show dstR t down d1 = dstD t down d1 from dstR_ok hc.out] at hK
     go_upto_region 6 with (fail)
     refine wp_region_T [1, 0, 0, 0, 0, 2, 0, 0] hK ?_
     clear hK
     refine eL m1 ?_
     iterate 4 refine e0 ?_
     refine eC (fun w k => rnext_any w (ht.below k.old) (hd.below k.old) (k.slv m0) n1 d1 hl ht2 (hid hok.out.2.1) hI.out.1 (hI.out.small ht2)) (fun x8 => ?_)
     obtain ⟨p9, n9, c9⟩ := x8; dsimp only
     iterate 2 refine e0 ?_
     refine sxEnd (fun W10 hK => ?_)
     go_wp2
     try go_ret
     show Q0 (.returned (.tuple #[.slice p9 n9 c9, .int .i64 0])) _
     exact (by obtain rfl := hQ0.out; rw [show nxtR t down n1 d1 = nxtD t down (dstD t down d1) n1 d1 from if_pos hX.out, hX.out]; exact ⟨⟨p9, n9, c9⟩, rfl, hK.subl (sK2 (sC2 (sC2 sZ2)))⟩)
    · --
     have q_b3 : t.nodes ≤ n := of_decide_eq_true hb3.out
     replace hK := hK.fact (rO intK 3 none 0 0 ([] : List Int)) OwV.nil (fun _ h => by cases h)
     have hX : chkN t down n d = 2 ∧ chkN t down n d ≠ 0 := by unfold chkN; have q := hb1.out; simp at q; rw [if_pos q, if_neg (by omega)]; exact ⟨rfl, by decide⟩
     go_wp2
     try go_ret
     show Q0 (.returned (.tuple #[.slice none 0 0, .int .i64 2])) _
     exact (by obtain rfl := hQ0.out; rw [show nxtR t down n d = [] from if_neg hX.2, hX.1]; exact ⟨⟨none, 0, 0⟩, rfl, hK.subl (sK2 (sC2 (sC2 (sC2 sZ2))))⟩)
   · --
    have q_b2 : n < 0 := of_decide_eq_true hb2.out
    iterate 4 refine eN ?_
    refine e0 ?_
    refine sxEnd (fun W11 hK => ?_)
    replace hK := hK.fact (rO intK 3 none 0 0 ([] : List Int)) OwV.nil (fun _ h => by cases h)
    have hX : chkN t down n d = 2 ∧ chkN t down n d ≠ 0 := by unfold chkN; have q := hb1.out; simp at q; rw [if_pos q, if_neg (by omega)]; exact ⟨rfl, by decide⟩
    go_wp2
    try go_ret
    show Q0 (.returned (.tuple #[.slice none 0 0, .int .i64 2])) _
    exact (by obtain rfl := hQ0.out; rw [show nxtR t down n d = [] from if_neg hX.2, hX.1]; exact ⟨⟨none, 0, 0⟩, rfl, hK.subl (sK2 (sC2 (sC2 (sC2 sZ2))))⟩)
  · --
   replace hK := hK.fact (rO intK 3 none 0 0 ([] : List Int)) OwV.nil (fun _ h => by cases h)
   have hX : chkN t down n d = chkD t down [d] ∧ chkN t down n d ≠ 0 := by unfold chkN; have q := hb1.out; simp at q; rw [if_neg q]; exact ⟨rfl, q⟩
   go_wp2
   try go_ret
   show Q0 (.returned (.tuple #[.slice none 0 0, .int .i64 (chkD t down [d])])) _
   exact (by obtain rfl := hQ0.out; rw [show nxtR t down n d = [] from if_neg hX.2, hX.1]; exact ⟨⟨none, 0, 0⟩, rfl, hK.subl (sK2 (sC2 (sC2 (sC2 sZ2))))⟩)
end Go.Proofs.YtokhapaffleffaaGreat
