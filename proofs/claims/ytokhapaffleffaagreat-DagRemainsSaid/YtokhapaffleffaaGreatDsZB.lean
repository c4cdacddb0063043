/- The law of the order. -/
import Derived.Test.YtokhapaffleffaaGreatDsZ
namespace Go.Proofs.YtokhapaffleffaaGreat
open Go.RowKit
open Go.Lib (decDigits)
section
variable {t : TopD} {down : List Bool} {l : List Int} {o : List Nat} {d x m a j : Nat}
theorem ordR_pos {d : Int} (h : j < (ordR t down d).length) : chkD t down [d] = 0 ∧ ordR t down d = ordD (dstD t down d.toNat) := by
  unfold ordR at h ⊢
  split at h
  · rename_i e; exact ⟨e, if_pos e⟩
  · exact absurd h (Nat.not_lt_zero _)
theorem ord_later (ht : topOk t = true) (ho : IsOrd (nN t) l o) (hj : o[j]? = some m) (ha : a ∈ nxtD t down l m d) : hN t a ∈ o.drop (j + 1) := by
  obtain ⟨hj, e⟩ := List.getElem?_eq_some_iff.1 hj
  refine ord_tails ht ho (pre := o.take j) ?_ a ha
  rw [← e, ← List.drop_eq_getElem_cons hj, List.take_append_drop]
theorem chkN_of {d : Int} (hc : chkD t down [d] = 0) (hm : m < nN t) : chkN t down (m : Int) d = 0 := by
  have := (topN (chk_ok hc).1).1
  exact (if_pos hc).trans (if_pos ⟨by omega, by omega⟩)
theorem nxtR_of {d : Int} (h : chkN t down (m : Int) d = 0) : nxtR t down (m : Int) d = nxtD t down (dstD t down d.toNat) m d.toNat := by unfold nxtR; rw [if_pos h]; rfl
theorem nxt_zero (hI : IsDst t down d l) (h0 : 0 ≤ atD l m) : (nxtD t down l m d).length = 0 ↔ m = d := by
  constructor
  · intro h
    refine Decidable.byContradiction fun e => ?_
    obtain ⟨a, ha⟩ := nxt_some hI e h0
    rw [List.eq_nil_of_length_eq_zero h] at ha; cases ha
  · intro h
    rw [nxt_none (.inl h)]; rfl
end
theorem natI_drop {o : List Nat} {j : Nat} : natI (o.drop j) = (natI o).drop j := by unfold natI; rw [List.map_drop]
set_option maxRecDepth 100000 in
set_option maxHeartbeats 1000000 in
theorem lawOrder_any (w : World) {v_t : Value} {t : TopD} (ht : TopV w v_t t) {p_d : Option Addr} {n_d c_d : Nat} {down : List Bool} (hd : SlV boolK w (.slice p_d n_d c_d) down) (d : Int)  :
    Calls Tryz.prog 4 #[v_t, .slice p_d n_d c_d, .int .i64 d] w fun e w' => e = .returned (.bool true) ∧ Below w.heap.size w w' := by
  have ht_0 := ht
  obtain ⟨p_t, n_t, c_t, q_t, m_t, d_t, rfl, ht_1, ht_2⟩ := ht_0
  have hK := SS.start w
  refine Calls.hide (fun Q0 hQ0 => ?_)
  go_enter Tryz.func4, Tryz.ntmps4
  go_upto_region 0 with (fail)
  refine wp_region_T [3, 0] hK ?_
  clear hK
  refine eA (.cells #[.int .i64 t.nodes, .slice p_t n_t c_t, .slice q_t m_t d_t] 25) (fun R1 => ?_)
  refine e0 ?_
  refine sxEnd (fun W2 hK => ?_)
  go_upto_region 1 with (fail)
  refine wp_region_T [1, 0] hK ?_
  clear hK
  refine eQ (fun w k => awake_any w  ) ?_
  refine e0 ?_
  refine sxEnd (fun W3 hK => ?_)
  go_upto_region 3 with (fail)
  refine wp_region_T [1, 0, 1] hK ?_
  clear hK
  refine eL m0 ?_
  refine e0 ?_
  obtain ⟨b1, hb1⟩ : ∃ b : Bool, RowKit.Hid ((largeD t down) = b) := ⟨_, hid rfl⟩
  refine eQ (v := .bool b1) (fun w k => large_any w (ht.below k.old) (hd.below k.old) ) ?_ (hv := by rw [hb1.out])
  refine sxEnd (fun W4 hK => ?_)
  cases b1
  · --
   have hlg := hid (show ¬ (100 < t.over.length ∨ 24 < t.links.length ∨ 100 < down.length ∨ 16 < t.nodes) from of_decide_eq_false (show largeD t down = false from hb1.out)); have hl : t.links.length ≤ 100000 := (by have := hlg.out; omega); have hl2 : t.links.length ≤ 24 := (by have := hlg.out; omega); have b_t : m_t ≤ 100000 := (by rw [ht_2.one0]; exact hl); have a_t : arcsD t ≤ 200000 := (by unfold arcsD; omega)
   go_upto_region 5 with (fail)
   refine wp_region_T [1, 0, 0, 2, 0, 0, 0, 0, 0] hK ?_
   clear hK
   refine eL m0 ?_
   iterate 2 refine e0 ?_
   refine eC (fun w k => order_any w (ht.below k.old) (hd.below k.old) d hl) (fun x5 => ?_)
   obtain ⟨p6, n6, c6⟩ := x5; dsimp only
   iterate 5 refine e0 ?_
   refine sxEnd (fun W7 hK => ?_)
   go_upto_region 6 with (fail)
   refine wp_region_T [1, 0, 0, 2, 0, 0, 0, 0, 0] hK ?_
   clear hK
   refine eL m2 ?_
   iterate 2 refine e0 ?_
   refine eC (fun w k => rorder_any w (ht.below k.old) (hd.below k.old) d hl) (fun x8 => ?_)
   obtain ⟨p9, n9, c9⟩ := x8; dsimp only
   iterate 5 refine e0 ?_
   refine sxEnd (fun W10 hK => ?_)
   have hOC := hid (hK.get m1); have hol := ordR_len (fun h => (hOC.out h).2); have hom : nN t ≤ 64 ∨ chkD t down [d] ≠ 0 := (by by_cases hc : chkD t down [d] = 0; exact .inl (topN (chk_ok hc).1).2.2.1; exact .inr hc); have hol2 : (ordR t down d).length ≤ 64 := (by rcases hom with h | h; omega; rw [show ordR t down d = [] from if_neg h]; exact Nat.zero_le _); clear hol hom
   go_upto_region 7 with (fail)
   refine wp_region_T [0, 0, 0, 0, 0, 0, 1, 0, 0] hK ?_
   clear hK
   iterate 2 refine e0 ?_
   refine eV (.bool false) (fun w' => by go_simp; (try go_bits); first | exact ⟨rfl, rfl⟩ | exact ⟨congrArg Value.bool (by simp), rfl⟩) ?_
   iterate 3 refine e0 ?_
   obtain ⟨b2, hb2⟩ : ∃ b : Bool, RowKit.Hid ((decide ((natI (ordR t down d)) = (natI (ordR t down d)))) = b) := ⟨_, hid rfl⟩
   refine eQ (v := .bool b2) (fun w k => same_any w (k.slv m2) (k.slv m0) (by rw [natI_len]; omega) (by rw [natI_len]; omega)) ?_ (hv := by rw [hb2.out])
   iterate 2 refine e0 ?_
   refine sxEnd (fun W11 hK => ?_)
   cases b2
   · --
    exact absurd hb2.out (by rw [decide_eq_true rfl]; decide)
   · --
    have hO13 := hK.slv m2
    have hO14 := hK.box m4
    have hB12 := hK.old
    have hKo := hK.old; clear hK; have hK := SS.start W11
    replace ht := ht.below hKo
    replace ht_1 := ht_1.below hKo
    replace ht_2 := ht_2.below hKo
    replace hd := hd.below hKo
    clear hKo
    have hon := hid (hO13.one0.trans (natI_len _)); have hon1 := Nat.le_of_eq hon.out; have hon2 := Nat.le_of_eq hon.out.symm
    go_upto_region 9 with (fail)
    refine wp_region_T [0, 0, 0] hK ?_
    clear hK
    iterate 3 refine e0 ?_
    refine sxEnd (fun W15 hK => ?_)
    go_wp2_with fail
    go_loopw [47] (fun s47 wl => ∃ (j : Nat), s47 = .int .i64 (j : Int) ∧ (j ≤ n6) ∧ SS W11 ([]) wl) (fun s47 _ => n6 - (intOf s47).toNat)
    case atStart => exact ⟨0, rfl, (by omega), hK⟩
    case round =>
     clear hK
     obtain ⟨j, rfl, hj0, hK⟩ := hrel
     generalize wr = W16 at hK ⊢
     go_upto_region 10 with (fail)
     refine wp_region_T [0] hK ?_
     clear hK
     refine eB (decide (((j : Int)) < ((n6 : Int)))) (fun b3 hb3 => ?_)
     refine sxEnd (fun W17 hK => ?_)
     cases b3
     · --
      have q_b3 : ((n6 : Int)) ≤ ((j : Int)) := Int.not_lt.1 (of_decide_eq_false hb3.out)
      go_wp2
      try go_ret
      show Q0 (.returned (.bool true)) _
      exact (by obtain rfl := hQ0.out; exact ⟨rfl, hB12.trans (hK.old.mono hB12.size)⟩)
     · --
      have q_b3 : ((j : Int)) < ((n6 : Int)) := of_decide_eq_true hb3.out
      have hj : j < n6 := (by omega); have hop := hid (ordR_pos (t := t) (down := down) (d := d) (j := j) (by omega)); have hOC2 := hid (hOC.out hop.out.1); have hok := hid (chk_ok hop.out.1); have ht2 := hok.out.1
      have i18 : j < n6 := hj
      obtain ⟨g18, o18, rfl⟩ := hO13.pt i18
      have l18 : j < (natI (ordR t down d)).length := Nat.lt_of_lt_of_eq i18 (hO13.one0)
      obtain ⟨xm, exm⟩ : ∃ x, RowKit.Hid ((natI (ordR t down d))[j]? = some x) := ⟨_, hid (List.getElem?_eq_getElem l18)⟩
      obtain ⟨m, hm1, rfl⟩ := natI_at exm.out; rw [hop.out.2] at hm1; have hm2 := hid hm1; clear hm1; have hmm := (hOC2.out.2.2 m).1 (List.mem_of_getElem? hm2.out); have hmN := hmm.1; have hcN := hid (chkN_of hop.out.1 hmN); have hnx := hid (nxtR_of hcN.out); have hzl := hid (nxt_zero hOC2.out.1 hmm.2); have hnl2 := nxtR_len t down m d
      have hcap := hO13.cap hj; obtain ⟨q, hq, hdr⟩ := hO13.restI (i := j + 1) hcap.1 (by omega)
      go_upto_region 11 with (fail)
      refine wp_region_T [0, 0, 0, 0, 0] hK ?_
      clear hK
      iterate 2 refine e0 ?_
      refine eR0 (fun w k => (hO13.below k.old).int exm.out) ?_
      iterate 2 refine e0 ?_
      refine sxEnd (fun W19 hK => ?_)
      go_upto_region 12 with (fail)
      refine wp_region_T [0, 0, 0, 0, 2, 0, 0, 0, 0, 0] hK ?_
      clear hK
      refine eX0 (fun w k => hO14.below k.old) ?_
      iterate 3 refine e0 ?_
      refine eC (fun w k => nextR_any w (ht.below k.old) (hd.below k.old) (m : Int) d hl) (fun x20 => ?_)
      obtain ⟨p21, n21, c21⟩ := x20; dsimp only
      iterate 5 refine e0 ?_
      refine sxEnd (fun W22 hK => ?_)
      have hun := hid ((hK.len m0).trans (natI_len _)); have hu1 := Nat.le_of_eq hun.out; have hu2 := Nat.le_of_eq hun.out.symm; have hz2 : n21 = 0 ↔ (m : Int) = d := (by have q := hzl.out; rw [← hnx.out, ← hun.out] at q; rw [q]; have := hok.out.2.2.1; omega)
      go_upto_region 13 with (fail)
      refine wp_region_T [0, 0, 0, 0, 0, 0, 0, 0, 0, 0, 0] hK ?_
      clear hK
      refine e0 ?_
      refine eB (((chkN t down (m : Int) d)) != 0) (fun b4 hb4 => ?_)
      refine e0 ?_
      cases b4
      · --
       iterate 2 refine e0 ?_
       refine eB (((n21 : Int)) == 0) (fun b5 hb5 => ?_)
       iterate 2 refine e0 ?_
       refine eB (((m : Int)) == d) (fun b6 hb6 => ?_)
       obtain rfl : b5 = b6 := by rw [← hb5.out, ← hb6.out, Bool.eq_iff_iff, beq_iff_eq, beq_iff_eq]; omega
       refine eV (.bool false) (fun w' => by go_simp; (try go_bits); first | exact ⟨rfl, rfl⟩ | exact ⟨congrArg Value.bool (by simp), rfl⟩) ?_
       refine e0 ?_
       refine sxEnd (fun W23 hK => ?_)
       go_wp2_with fail
       go_loopw [73] (fun s73 wl => ∃ (k : Nat), s73 = .int .i64 (k : Int) ∧ (k ≤ n21) ∧ SS W11 ([rO intK 3 p21 n21 c21 (natI (nxtR t down (m : Int) d))]) wl) (fun s73 _ => n21 - (intOf s73).toNat)
       case atStart => exact ⟨0, rfl, (by omega), hK⟩
       case round =>
        clear hK
        obtain ⟨k, rfl, hk0, hK⟩ := hrel
        generalize wr = W24 at hK ⊢
        go_upto_region 16 with (fail)
        refine wp_region_T [0] hK ?_
        clear hK
        refine eB (decide (((k : Int)) < ((n21 : Int)))) (fun b7 hb7 => ?_)
        refine sxEnd (fun W25 hK => ?_)
        cases b7
        · --
         have q_b7 : ((n21 : Int)) ≤ ((k : Int)) := Int.not_lt.1 (of_decide_eq_false hb7.out)
         (try go_wp2)
         go_roundw
         case rel => exact ⟨j + 1, (by first | rfl | go_num), (by omega), (hK.subl (sC2 sZ2))⟩
         case measure => simp [intOf] <;> omega
        · --
         have q_b7 : ((k : Int)) < ((n21 : Int)) := of_decide_eq_true hb7.out
         have hk : k < n21 := by omega
         have i26 : k < n21 := hk
         obtain ⟨g26, rfl⟩ := hK.pt m0 i26
         have l26 : k < (natI (nxtR t down (m : Int) d)).length := Nat.lt_of_lt_of_eq i26 (hK.len m0)
         obtain ⟨xa, exa⟩ : ∃ x, RowKit.Hid ((natI (nxtR t down (m : Int) d))[k]? = some x) := ⟨_, hid (List.getElem?_eq_getElem l26)⟩
         obtain ⟨a, ha0, rfl⟩ := natI_at exa.out; have ha1 := hid (show a ∈ nxtD t down (dstD t down d.toNat) m d.toNat by rw [← hnx.out]; exact List.mem_of_getElem? ha0); clear ha0; have ha := (mem_nxt.1 ha1.out).1
         go_upto_region 17 with (fail)
         refine wp_region_T [0, 1, 0] hK ?_
         clear hK
         refine e0 ?_
         refine eR (fun w k => (k.own m0).int exa.out) ?_
         refine e0 ?_
         refine sxEnd (fun W27 hK => ?_)
         go_upto_region 18 with (fail)
         refine wp_region_S _ [0, 0, 0, 0, 0, 0, 1, 1, 0] hK ?_ (List.Sublist.refl _)
         clear hK
         iterate 2 refine e0 ?_
         refine eV (.int .i64 ((j + 1 : Nat) : Int)) (fun w' => by go_simp; (try go_bits); exact ⟨congrArg (Value.int .i64) (by omega), rfl⟩) ?_
         refine eV (.slice q (n6 - (j + 1)) (c6 - (j + 1))) (fun w' => by go_simp; (try go_bits); rw [if_pos (show 0 ≤ (j : Int) + 1 ∧ (j : Int) + 1 ≤ (n6 : Int) by omega), hq.out]; exact ⟨rfl, rfl⟩) ?_
         refine eX0 (fun w k => hO14.below k.old) ?_
         refine e0 ?_
         refine eQ (fun w k => thead_any w (ht.below k.old) a hl ht2 ha) ?_
         obtain ⟨b8, hb8⟩ : ∃ b : Bool, RowKit.Hid ((decide (((hN t a : Nat) : Int) ∈ ((natI (ordR t down d)).drop (j + 1)))) = b) := ⟨_, hid rfl⟩
         refine eQ (v := .bool b8) (fun w k => has_any w (hdr.below k.old) ((hN t a : Nat) : Int) (by rw [List.length_drop, natI_len]; omega)) ?_ (hv := by rw [hb8.out])
         refine e0 ?_
         refine sxEnd (fun W28 hK => ?_)
         cases b8
         · --
          exact absurd hb8.out (by rw [decide_eq_true (by rw [hop.out.2, ← natI_drop]; exact mem_natI.2 (ord_later ht2 hOC2.out.2 hm2.out ha1.out))]; decide)
         · --
          (try go_wp2)
          go_roundw
          case rel => exact ⟨k + 1, (by first | rfl | go_num), (by omega), hK⟩
          case measure => simp [intOf] <;> omega
      · --
       exact absurd hb4.out (by rw [hcN.out]; decide)
  · --
   go_wp2
   try go_ret
   show Q0 (.returned (.bool true)) _
   exact (by obtain rfl := hQ0.out; exact ⟨rfl, hK.old⟩)
end Go.Proofs.YtokhapaffleffaaGreat
