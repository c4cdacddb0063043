/- The law of paths that follow next arcs. -/
import Derived.Test.YtokhapaffleffaaGreatDsZB
namespace Go.Proofs.YtokhapaffleffaaGreat
open Go.RowKit
open Go.Lib (decDigits)
set_option maxRecDepth 100000 in
set_option maxHeartbeats 1000000 in
theorem lawFollowed_any (w : World) {v_t : Value} {t : TopD} (ht : TopV w v_t t) {p_d : Option Addr} {n_d c_d : Nat} {down : List Bool} (hd : SlV boolK w (.slice p_d n_d c_d) down) (n d : Int) {p_pk : Option Addr} {n_pk c_pk : Nat} {picks : List Nat} (hpk : SlV byK w (.slice p_pk n_pk c_pk) picks)  :
    Calls Tryz.prog 5 #[v_t, .slice p_d n_d c_d, .agg #[.int .i64 n, .int .i64 d], .slice p_pk n_pk c_pk] w fun e w' => e = .returned (.bool true) ∧ Below w.heap.size w w' := by
  have ht_0 := ht
  obtain ⟨p_t, n_t, c_t, q_t, m_t, d_t, rfl, ht_1, ht_2⟩ := ht_0
  have hK := SS.start w
  refine Calls.hide (fun Q0 hQ0 => ?_)
  go_enter Tryz.func5, Tryz.ntmps5
  go_upto_region 0 with (fail)
  refine wp_region_T [3, 3, 0] hK ?_
  clear hK
  refine eA (.cells #[.int .i64 t.nodes, .slice p_t n_t c_t, .slice q_t m_t d_t] 25) (fun R1 => ?_)
  refine eA (.cells #[.int .i64 n, .int .i64 d] 26) (fun R2 => ?_)
  refine e0 ?_
  refine sxEnd (fun W3 hK => ?_)
  go_upto_region 1 with (fail)
  refine wp_region_T [1, 0] hK ?_
  clear hK
  refine eQ (fun w k => awake_any w  ) ?_
  refine e0 ?_
  refine sxEnd (fun W4 hK => ?_)
  go_upto_region 3 with (fail)
  refine wp_region_T [1, 0, 1, 0, 1, 0, 1, 0, 0, 0, 0, 0, 0, 0] hK ?_
  clear hK
  refine eL m1 ?_
  refine e0 ?_
  obtain ⟨b1, hb1⟩ : ∃ z9 : Bool, RowKit.Hid ((largeD t down) = z9) := ⟨_, hid rfl⟩
  refine eQ (v := .bool b1) (fun w k => large_any w (ht.below k.old) (hd.below k.old) ) ?_ (hv := by rw [hb1.out])
  refine e0 ?_
  cases b1
  · --
   have hlg := hid (show ¬ (100 < t.over.length ∨ 24 < t.links.length ∨ 100 < down.length ∨ 16 < t.nodes) from of_decide_eq_false (show largeD t down = false from hb1.out)); have hl : t.links.length ≤ 100000 := (by have := hlg.out; omega); have hl2 : t.links.length ≤ 24 := (by have := hlg.out; omega); have b_t : m_t ≤ 100000 := (by rw [ht_2.one0]; exact hl); have a_t : arcsD t ≤ 200000 := (by unfold arcsD; omega)
   refine eL m1 ?_
   refine e0 ?_
   obtain ⟨b2, hb2⟩ : ∃ z9 : Bool, RowKit.Hid ((fitsD t down) = z9) := ⟨_, hid rfl⟩
   refine eQ (v := .bool b2) (fun w k => rfits_any w (ht.below k.old) (hd.below k.old) hl) ?_ (hv := by rw [hb2.out])
   iterate 3 refine e0 ?_
   cases b2
   · --
    iterate 3 refine eN ?_
    refine e0 ?_
    refine sxEnd (fun W5 hK => ?_)
    go_wp2
    try go_ret
    show Q0 (.returned (.bool true)) _
    exact (by obtain rfl := hQ0.out; exact ⟨rfl, hK.old⟩)
   · --
    iterate 2 refine e0 ?_
    refine eB (decide (((n_pk : Int)) < 16)) (fun b3 hb3 => ?_)
    refine e0 ?_
    refine sxEnd (fun W6 hK => ?_)
    cases b3
    · --
     have q_b3 : 16 ≤ ((n_pk : Int)) := Int.not_lt.1 (of_decide_eq_false hb3.out)
     have hfit := hid (show fitsD t down = true from hb2.out); have ht2 := (Bool.and_eq_true_iff.1 hfit.out).1; have hdl := hid (show down.length = 0 ∨ down.length = arcsD t from of_decide_eq_true (Bool.and_eq_true_iff.1 hfit.out).2); have hnn := hid (topN ht2).1; have hn16 : nN t ≤ 16 := (by have := hlg.out; have := hnn.out; omega); have hpk16 : 16 ≤ n_pk := (by have qb1 := hb1.out; (try simp at qb1); have qb2 := hb2.out; (try simp at qb2); have qb3 := hb3.out; (try simp at qb3); omega)
     go_upto_region 5 with (fail)
     refine wp_region_S _ [0, 0, 0, 0, 0, 0] hK ?_ (List.Sublist.refl _)
     clear hK
     refine e0 ?_
     refine eL0 m0 ?_
     refine e0 ?_
     refine eL0 m0 ?_
     iterate 2 refine e0 ?_
     refine sxEnd (fun W7 hK => ?_)
     go_upto_region 6 with (fail)
     refine wp_region_T [1, 0, 0, 2, 0, 0, 0, 0, 0] hK ?_
     clear hK
     refine eL m1 ?_
     iterate 2 refine e0 ?_
     refine eC (fun w k => rdist_any w (ht.below k.old) (hd.below k.old) d hl) (fun x8 => ?_)
     obtain ⟨p9, n9, c9⟩ := x8; dsimp only
     iterate 5 refine e0 ?_
     refine sxEnd (fun W10 hK => ?_)
     have hDI := hid (hK.get m1)
     have hO12 := hK.slv m0
     have hO14 := hK.box m2
     have hO15 := hK.box m3
     have hB11 := hK.old
     have hKo := hK.old; clear hK; have hK := SS.start W10
     replace ht := ht.below hKo
     replace ht_1 := ht_1.below hKo
     replace ht_2 := ht_2.below hKo
     replace hd := hd.below hKo
     replace hpk := hpk.below hKo
     clear hKo
     have hOD := hO12
     go_upto_region 7 with (fail)
     refine wp_region_T [0, 0, 0, 0, 0, 0, 0, 0, 0, 0, 0, 0, 0, 0, 0, 0, 0, 0, 0] hK ?_
     clear hK
     refine e0 ?_
     refine eB (((chkD t down [d])) != 0) (fun b4 hb4 => ?_)
     refine e0 ?_
     cases b4
     · --
      refine e0 ?_
      refine eB (decide (n < 0)) (fun b5 hb5 => ?_)
      iterate 2 refine e0 ?_
      cases b5
      · --
       have q_b5 : 0 ≤ n := Int.not_lt.1 (of_decide_eq_false hb5.out)
       iterate 2 refine e0 ?_
       refine eX0 (fun w k => hO15.below k.old) ?_
       refine eB (decide (t.nodes ≤ n)) (fun b6 hb6 => ?_)
       iterate 2 refine e0 ?_
       cases b6
       · --
        have q_b6 : n < t.nodes := Int.not_le.1 (of_decide_eq_false hb6.out)
        have hc := hid (show chkD t down [d] = 0 by have q := hb4.out; simpa using q); have hI := hid (hDI.out hc.out); have hok := hid (chk_ok hc.out); have hdR := hid (show dstR t down d = dstD t down d.toNat from if_pos hc.out); have hDl := hid (hO12.one0.trans ((congrArg List.length hdR.out).trans hI.out.1))
        obtain ⟨n1, rfl⟩ : ∃ k : Nat, n = (k : Int) := ⟨n.toNat, (Int.toNat_of_nonneg (by have qb1 := hb1.out; (try simp at qb1); have qb2 := hb2.out; (try simp at qb2); have qb3 := hb3.out; (try simp at qb3); have qb4 := hb4.out; (try simp at qb4); have qb5 := hb5.out; (try simp at qb5); have qb6 := hb6.out; (try simp at qb6); omega)).symm⟩; have hn1 : n1 < nN t := (by have := hnn.out; have qb1 := hb1.out; (try simp at qb1); have qb2 := hb2.out; (try simp at qb2); have qb3 := hb3.out; (try simp at qb3); have qb4 := hb4.out; (try simp at qb4); have qb5 := hb5.out; (try simp at qb5); have qb6 := hb6.out; (try simp at qb6); omega)
        have i16 : n1 < n9 := (by rw [hDl.out]; exact hn1)
        obtain ⟨g16, o16, rfl⟩ := hO12.pt i16
        have l16 : n1 < (dstR t down d).length := Nat.lt_of_lt_of_eq i16 (hO12.one0)
        obtain ⟨dn, edn⟩ : ∃ z0, RowKit.Hid ((dstR t down d)[n1]? = some z0) := ⟨_, hid (List.getElem?_eq_getElem l16)⟩
        iterate 3 refine e0 ?_
        refine eR0 (fun w k => (hO12.below k.old).int edn.out) ?_
        refine eB (decide (dn < 0)) (fun b7 hb7 => ?_)
        refine e0 ?_
        refine sxEnd (fun W17 hK => ?_)
        cases b7
        · --
         have q_b7 : 0 ≤ dn := Int.not_lt.1 (of_decide_eq_false hb7.out)
         obtain ⟨d1, rfl⟩ : ∃ k : Nat, d = (k : Int) := ⟨d.toNat, (Int.toNat_of_nonneg hok.out.2.2.1).symm⟩; have hI2 : RowKit.Hid (IsDst t down d1 (dstD t down d1)) := hI; have hdn := hid (show atD (dstD t down d1) n1 = dn from atD_of (by have q := edn.out; rw [hdR.out] at q; exact q)); have hdn0 : 0 ≤ dn := by have qb1 := hb1.out; (try simp at qb1); have qb2 := hb2.out; (try simp at qb2); have qb3 := hb3.out; (try simp at qb3); have qb4 := hb4.out; (try simp at qb4); have qb5 := hb5.out; (try simp at qb5); have qb6 := hb6.out; (try simp at qb6); have qb7 := hb7.out; (try simp at qb7); omega
         go_upto_region 9 with (fail)
         refine wp_region_T [0] hK ?_
         clear hK
         refine e0 ?_
         refine sxEnd (fun W18 hK => ?_)
         replace hK := hK.fact (rO intK 3 none 0 0 (natI [])) OwV.nil (fun _ h => by cases h)
         go_wp2_with fail
         go_loopg [9, 13, 14] ((atD (dstD t down d1) n1).toNat) (fun gk0 s9 s13 s14 wl => ∃ (x : Nat) (p : List Nat) (pp : Option Addr) (np : Nat) (cp : Nat), s9 = .int .i64 (x : Int) ∧ s13 = .slice pp np cp ∧ s14 = .int .i64 ((p.length : Nat) : Int) ∧ (x < nN t) ∧ RowKit.Hid (0 ≤ atD (dstD t down d1) x) ∧ RowKit.Hid (NxP t down (dstD t down d1) d1 n1 p x) ∧ RowKit.Hid (gk0 = (atD (dstD t down d1) x).toNat) ∧ SS W10 ([rO intK 3 pp np cp (natI p)]) wl)
         case atStart => exact ⟨n1, [], none, 0, 0, rfl, rfl, rfl, (by omega), hid (by rw [hdn.out]; exact hdn0), hid rfl, hid rfl, hK⟩
         case round =>
          clear hK
          obtain ⟨x, p, pp, np, cp, rfl, rfl, rfl, hx, h_x0, h_F, hgk19, hK⟩ := hrel
          generalize wr = W20 at hK ⊢
          go_upto_region 11 with (fail)
          refine wp_region_T [0, 0, 0] hK ?_
          clear hK
          iterate 2 refine e0 ?_
          refine eB (((x : Int)) != ((d1 : Int))) (fun b8 hb8 => ?_)
          refine sxEnd (fun W21 hK => ?_)
          cases b8
          · --
           obtain rfl : d1 = x := by have qb1 := hb1.out; (try simp at qb1); have qb2 := hb2.out; (try simp at qb2); have qb3 := hb3.out; (try simp at qb3); have qb4 := hb4.out; (try simp at qb4); have qb5 := hb5.out; (try simp at qb5); have qb6 := hb6.out; (try simp at qb6); have qb7 := hb7.out; (try simp at qb7); have qb8 := hb8.out; (try simp at qb8); omega
           have hpl := NxP.short ht2 hI2.out h_F.out (by rw [hdn.out]; exact hdn0); have hcst := hid (NxP.cost ht2 h_F.out); have hcst2 := hid (show costD t p = dn by have q := hcst.out; rw [hdn.out, hI2.out.root] at q; omega)
           go_upto_region 21 with (fail)
           refine wp_region_T [0, 0, 0, 0, 1, 0, 0, 0, 0, 0, 0, 0] hK ?_
           clear hK
           refine eX0 (fun w k => hO15.below k.old) ?_
           refine e0 ?_
           refine eX0 (fun w k => hO14.below k.old) ?_
           refine e0 ?_
           refine eQ (fun w k => rwalk_any w (ht.below k.old) n1 (k.slv m0) hl ht2 (hid rfl) h_F (hI2.out.small ht2) (fun z => hI2.out.2.neg z) hn1 (by omega)) ?_
           iterate 7 refine e0 ?_
           refine sxEnd (fun W22 hK => ?_)
           go_upto_region 22 with (fail)
           refine wp_region_T [0, 0, 0, 0, 0, 0, 0, 0, 0, 0, 0, 0, 0, 0, 0, 0, 0] hK ?_
           clear hK
           iterate 5 refine e0 ?_
           refine eV (.bool true) (fun w' => by go_simp; (try go_bits); first | exact ⟨rfl, rfl⟩ | exact ⟨congrArg Value.bool (by simp), rfl⟩) ?_
           iterate 5 refine e0 ?_
           refine eX0 (fun w k => hO14.below k.old) ?_
           refine e0 ?_
           refine eR0 (fun w k => (hO12.below k.old).int edn.out) ?_
           refine eB (((costD t p)) == dn) (fun b9 hb9 => ?_)
           iterate 2 refine e0 ?_
           refine sxEnd (fun W23 hK => ?_)
           go_wp2
           try go_ret
           show Q0 (.returned (.bool b9)) _
           exact (by obtain rfl := hQ0.out; exact ⟨congrArg (fun z => Ending.returned (.bool z)) (by rw [← hb9.out]; have := hcst2.out; have qb1 := hb1.out; (try simp at qb1); have qb2 := hb2.out; (try simp at qb2); have qb3 := hb3.out; (try simp at qb3); have qb5 := hb5.out; (try simp at qb5); have qb6 := hb6.out; (try simp at qb6); have qb7 := hb7.out; (try simp at qb7); have qb8 := hb8.out; (try simp at qb8); simp; omega), hB11.trans (hK.old.mono hB11.size)⟩)
          · --
           have hxd : x ≠ d1 := (by have qb1 := hb1.out; (try simp at qb1); have qb2 := hb2.out; (try simp at qb2); have qb3 := hb3.out; (try simp at qb3); have qb4 := hb4.out; (try simp at qb4); have qb5 := hb5.out; (try simp at qb5); have qb6 := hb6.out; (try simp at qb6); have qb7 := hb7.out; (try simp at qb7); have qb8 := hb8.out; (try simp at qb8); omega); have hcN := hid (chkN_of hc.out hx); have hnx : RowKit.Hid (nxtR t down (x : Int) (d1 : Int) = nxtD t down (dstD t down d1) x d1) := hid (nxtR_of hcN.out); have hnl2 := nxtR_len t down x d1; have hsh := hid (NxP.short ht2 hI2.out h_F.out (by rw [hdn.out]; exact hdn0)); have hsh1 := hsh.out
           go_upto_region 13 with (fail)
           refine wp_region_T [0, 0, 0, 0, 2, 0, 0, 0, 0, 0] hK ?_
           clear hK
           refine eX0 (fun w k => hO15.below k.old) ?_
           iterate 3 refine e0 ?_
           refine eC (fun w k => nextR_any w (ht.below k.old) (hd.below k.old) (x : Int) (d1 : Int) hl) (fun x24 => ?_)
           obtain ⟨p25, n25, c25⟩ := x24; dsimp only
           iterate 5 refine e0 ?_
           refine sxEnd (fun W26 hK => ?_)
           have hun := hid ((hK.len m0).trans (natI_len _)); have hu1 := Nat.le_of_eq hun.out; have hu2 := Nat.le_of_eq hun.out.symm; have hup : 0 < n25 := (by obtain ⟨a, ha⟩ := nxt_some hI2.out hxd h_x0.out; rw [hun.out, hnx.out]; exact List.length_pos_of_mem ha)
           go_upto_region 14 with (fail)
           refine wp_region_T [0, 0, 0, 0, 0, 0, 0, 0, 0, 0, 0] hK ?_
           clear hK
           refine e0 ?_
           refine eB (((chkN t down (x : Int) (d1 : Int))) != 0) (fun b9 hb9 => ?_)
           refine e0 ?_
           cases b9
           · --
            iterate 2 refine e0 ?_
            refine eB (((n25 : Int)) == 0) (fun b10 hb10 => ?_)
            iterate 2 refine e0 ?_
            cases b10
            · --
             refine e0 ?_
             refine eB (decide (16 ≤ (((p.length : Nat) : Int)))) (fun b11 hb11 => ?_)
             refine e0 ?_
             refine sxEnd (fun W27 hK => ?_)
             cases b11
             · --
              have q_b11 : (((p.length : Nat) : Int)) < 16 := Int.not_le.1 (of_decide_eq_false hb11.out)
              have i28 : p.length < n_pk := (by omega)
              obtain ⟨g28, o28, rfl⟩ := hpk.pt i28
              have l28 : p.length < picks.length := Nat.lt_of_lt_of_eq i28 (hpk.one0)
              obtain ⟨u, eu⟩ : ∃ z0, RowKit.Hid (picks[p.length]? = some z0) := ⟨_, hid (List.getElem?_eq_getElem l28)⟩
              have hu256 := hpk.byt_lt eu.out
              have i29 : (u % n25) < n25 := (Nat.mod_lt _ hup)
              obtain ⟨g29, rfl⟩ := hK.pt m0 i29
              have l29 : (u % n25) < (natI (nxtR t down (x : Int) (d1 : Int))).length := Nat.lt_of_lt_of_eq i29 (hK.len m0)
              obtain ⟨xa, exa⟩ : ∃ z0, RowKit.Hid ((natI (nxtR t down (x : Int) (d1 : Int)))[(u % n25)]? = some z0) := ⟨_, hid (List.getElem?_eq_getElem l29)⟩
              obtain ⟨a, ha0, rfl⟩ := natI_at exa.out; have ha1 := hid (show a ∈ nxtD t down (dstD t down d1) x d1 by rw [← hnx.out]; exact List.mem_of_getElem? ha0); clear ha0; have hmn := mem_nxt.1 ha1.out; have ha := hmn.1; have hti := hid hmn.2.1; have hon := hid (on_three hmn.2.2); have hls := hid (nxt_less ht2 ha1.out); clear hmn; have hti2 := Nat.le_of_eq hti.out; have hti3 := Nat.le_of_eq hti.out.symm
              go_upto_region 16 with (fail)
              refine wp_region_T [0, 0, 0, 0, 0, 0, 0, 0, 0, 0, 1, 0] hK ?_
              clear hK
              iterate 4 refine e0 ?_
              refine eR0 (fun w k => (hpk.below k.old).byt eu.out) ?_
              iterate 3 refine e0 ?_
              refine eV (.int .i64 ((u % n25 : Nat) : Int)) (fun w' => by go_simp; (try go_bits); rw [if_neg (show ¬ n25 = 0 by omega)]; exact ⟨congrArg (Value.int .i64) (by first | exact (Int.natCast_emod ..).symm | simp), rfl⟩) ?_
              refine e0 ?_
              refine eR (fun w k => (k.own m0).int exa.out) ?_
              refine e0 ?_
              refine sxEnd (fun W30 hK => ?_)
              go_upto_region 17 with (fail)
              refine wp_region_T [0, 0, 1, 0, 0, 0, 0, 0, 1, 0, 0] hK ?_
              clear hK
              refine eX0 (fun w k => hO15.below k.old) ?_
              refine e0 ?_
              refine eQ (fun w k => rtail_any w (ht.below k.old) a hl ht2 ha) ?_
              refine e0 ?_
              refine eB ((((tN t a : Nat) : Int)) != ((x : Int))) (fun b12 hb12 => ?_)
              refine e0 ?_
              cases b12
              · --
               iterate 2 refine e0 ?_
               obtain ⟨b13, hb13⟩ : ∃ z9 : Bool, RowKit.Hid ((upD down a) = z9) := ⟨_, hid rfl⟩
               refine eQ (v := .bool b13) (fun w k => rup_any w (hd.below k.old) a (by have := hdl.out; omega)) ?_ (hv := by rw [hb13.out])
               iterate 2 refine e0 ?_
               refine sxEnd (fun W31 hK => ?_)
               cases b13
               · --
                exact absurd hb13.out (by rw [hon.out.1]; decide)
               · --
                go_upto_region 19 with (fail)
                refine wp_region_T [0, 0, 3, 5, 0] hK ?_
                clear hK
                iterate 2 refine e0 ?_
                refine eA (.cells #[.int .i64 (a : Int)] 3) (fun R32 => ?_)
                refine eApp 2 intK_free rfl infoZ (fun w k => k.one1 (K := intK) (x := (a : Int)) m0 rfl) (by rw [natI_len]; simp; omega) (fun x33 => ?_)
                obtain ⟨p33, n33, c33⟩ := x33; dsimp only
                refine e0 ?_
                refine sxEnd (fun W34 hK => ?_)
                go_upto_region 20 with (fail)
                refine wp_region_T [0, 0, 1, 0] hK ?_
                clear hK
                refine eX0 (fun w k => hO15.below k.old) ?_
                refine e0 ?_
                refine eQ (fun w k => rhead_any w (ht.below k.old) a hl ht2 ha) ?_
                refine e0 ?_
                refine sxEnd (fun W35 hK => ?_)
                rw [show (natI p) ++ [(a : Int)] = natI (p ++ [a]) from (by rw [natI_snoc])] at hK
                (try go_wp2)
                go_roundg ((atD (dstD t down d1) (hN t a)).toNat)
                case measure => rw [hgk19.out]; have := hls.out.2.1; have := hls.out.1; omega
                case rel => exact ⟨(hN t a), (p ++ [a]), p33, n33, c33, (by first | rfl | go_num), (by first | rfl | go_num), (congrArg (Value.int .i64) (by simp)), hls.out.2.2.1, hid hls.out.1, hid (h_F.out.snoc ha1.out), hid rfl, (hK.subl (sC2 (sC2 (List.Sublist.refl _))))⟩
              · --
               have qb1 := hb1.out; (try simp at qb1); have qb2 := hb2.out; (try simp at qb2); have qb3 := hb3.out; (try simp at qb3); have qb4 := hb4.out; (try simp at qb4); have qb5 := hb5.out; (try simp at qb5); have qb6 := hb6.out; (try simp at qb6); have qb7 := hb7.out; (try simp at qb7); have qb8 := hb8.out; (try simp at qb8); have qb9 := hb9.out; (try simp at qb9); have qb10 := hb10.out; (try simp at qb10); have qb11 := hb11.out; (try simp at qb11); have qb12 := hb12.out; (try simp at qb12); omega
             · --
              have q_b11 : 16 ≤ (((p.length : Nat) : Int)) := of_decide_eq_true hb11.out
              have qb1 := hb1.out; (try simp at qb1); have qb2 := hb2.out; (try simp at qb2); have qb3 := hb3.out; (try simp at qb3); have qb4 := hb4.out; (try simp at qb4); have qb5 := hb5.out; (try simp at qb5); have qb6 := hb6.out; (try simp at qb6); have qb7 := hb7.out; (try simp at qb7); have qb8 := hb8.out; (try simp at qb8); have qb9 := hb9.out; (try simp at qb9); have qb10 := hb10.out; (try simp at qb10); have qb11 := hb11.out; (try simp at qb11); omega
            · --
             have qb1 := hb1.out; (try simp at qb1); have qb2 := hb2.out; (try simp at qb2); have qb3 := hb3.out; (try simp at qb3); have qb4 := hb4.out; (try simp at qb4); have qb5 := hb5.out; (try simp at qb5); have qb6 := hb6.out; (try simp at qb6); have qb7 := hb7.out; (try simp at qb7); have qb8 := hb8.out; (try simp at qb8); have qb9 := hb9.out; (try simp at qb9); have qb10 := hb10.out; (try simp at qb10); omega
           · --
            exact absurd hb9.out (by rw [hcN.out]; decide)
        · --
         have q_b7 : dn < 0 := of_decide_eq_true hb7.out
         go_wp2
         try go_ret
         show Q0 (.returned (.bool true)) _
         exact (by obtain rfl := hQ0.out; exact ⟨rfl, hB11.trans (hK.old.mono hB11.size)⟩)
       · --
        have q_b6 : t.nodes ≤ n := of_decide_eq_true hb6.out
        iterate 5 refine eN ?_
        refine e0 ?_
        refine sxEnd (fun W36 hK => ?_)
        go_wp2
        try go_ret
        show Q0 (.returned (.bool true)) _
        exact (by obtain rfl := hQ0.out; exact ⟨rfl, hB11.trans (hK.old.mono hB11.size)⟩)
      · --
       have q_b5 : n < 0 := of_decide_eq_true hb5.out
       iterate 4 refine eN ?_
       iterate 2 refine e0 ?_
       iterate 5 refine eN ?_
       refine e0 ?_
       refine sxEnd (fun W37 hK => ?_)
       go_wp2
       try go_ret
       show Q0 (.returned (.bool true)) _
       exact (by obtain rfl := hQ0.out; exact ⟨rfl, hB11.trans (hK.old.mono hB11.size)⟩)
     · --
      iterate 2 refine eN ?_
      iterate 2 refine e0 ?_
      iterate 4 refine eN ?_
      iterate 2 refine e0 ?_
      iterate 5 refine eN ?_
      refine e0 ?_
      refine sxEnd (fun W38 hK => ?_)
      go_wp2
      try go_ret
      show Q0 (.returned (.bool true)) _
      exact (by obtain rfl := hQ0.out; exact ⟨rfl, hB11.trans (hK.old.mono hB11.size)⟩)
    · --
     have q_b3 : ((n_pk : Int)) < 16 := of_decide_eq_true hb3.out
     go_wp2
     try go_ret
     show Q0 (.returned (.bool true)) _
     exact (by obtain rfl := hQ0.out; exact ⟨rfl, hK.old⟩)
  · --
   iterate 4 refine eN ?_
   iterate 2 refine e0 ?_
   iterate 3 refine eN ?_
   refine e0 ?_
   refine sxEnd (fun W39 hK => ?_)
   go_wp2
   try go_ret
   show Q0 (.returned (.bool true)) _
   exact (by obtain rfl := hQ0.out; exact ⟨rfl, hK.old⟩)
end Go.Proofs.YtokhapaffleffaaGreat
