/- The law of sums of numbers of paths. -/
import Derived.Test.YtokhapaffleffaaDsZ
namespace Go.Proofs.Ytokhapaffleffaa
open Go.RowKit
open Go.Lib (decDigits)

section
variable {t : TopD} {down : List Bool} {l : List Int} {d x m a j : Nat}
theorem chkC_eq {n d most : Int} (hm : 0 ≤ most) : chkC t down n d most = chkN t down n d := by
  unfold chkC
  by_cases h : chkN t down n d = 0
  · rw [if_pos h, if_neg (by omega), h]
  · rw [if_neg h]
/-- The number of shortest paths from an arc's end, at most a million. -/
noncomputable def cmN (t : TopD) (down : List Bool) (d : Int) (a : Nat) : Nat := min (nSP t down (dstD t down d.toNat) d.toNat (hN t a)) 1000000
theorem cnt_of {d : Int} (h : chkN t down (hN t a : Int) d = 0) : cntR t down (hN t a : Int) d 1000000 = (cmN t down d a : Int) := by
  unfold cntR
  rw [if_pos ⟨h, by decide⟩]; rfl
theorem cnt_end {n : Int} (h : chkN t down n n = 0) : cntR t down n n 1000000 = 1 := by
  unfold cntR
  rw [if_pos ⟨h, by decide⟩, nSP_end]; rfl
theorem cnt_sum {n d : Int} (h : chkN t down n d = 0) (hnd : n ≠ d) : cntR t down n d 1000000 = ((min (((nxtR t down n d).map (cmN t down d)).sum) 1000000 : Nat) : Int) := by
  obtain ⟨hcd, h1, h2⟩ := chkN_ok h
  have ht := (chk_ok hcd).1
  have h3 := (chk_ok hcd).2.2.1
  unfold cntR
  rw [if_pos ⟨h, by decide⟩, show (1000000 : Int).toNat = 1000000 from rfl, nSP_sum ht (show n.toNat ≠ d.toNat by omega), show nxtR t down n d = nxtD t down (dstD t down d.toNat) n.toNat d.toNat from if_pos h]
  congr 1
  exact (min_sum _).symm
theorem cm_le (us : List Nat) {d : Int} : (us.map (cmN t down d)).sum ≤ 1000000 * us.length := by
  induction us with
  | nil => simp
  | cons b us ih =>
    have : cmN t down d b ≤ 1000000 := Nat.min_le_right ..
    rw [List.map_cons, List.sum_cons, List.length_cons]; omega
theorem cm_next {d : Int} {us : List Nat} (h : us[j]? = some a) : ((us.take (j + 1)).map (cmN t down d)).sum = ((us.take j).map (cmN t down d)).sum + cmN t down d a := by
  obtain ⟨hj, e⟩ := List.getElem?_eq_some_iff.1 h
  rw [List.take_succ_eq_append_getElem hj, e, List.map_append, List.sum_append, List.map_singleton, List.sum_singleton]
/-- The sum over the first j next arcs. -/
noncomputable def smN (t : TopD) (down : List Bool) (n d : Int) (j : Nat) : Nat := (((nxtR t down n d).take j).map (cmN t down d)).sum
theorem smN_zero {n d : Int} : smN t down n d 0 = 0 := rfl
theorem smN_next {n d : Int} (h : (nxtR t down n d)[j]? = some a) : smN t down n d (j + 1) = smN t down n d j + cmN t down d a := cm_next h
theorem smN_all {n d : Int} (h : (nxtR t down n d).length ≤ j) : smN t down n d j = ((nxtR t down n d).map (cmN t down d)).sum := by unfold smN; rw [List.take_of_length_le h]
theorem smN_le {n d : Int} : smN t down n d j ≤ 1000000 * j := Nat.le_trans (cm_le _) (Nat.mul_le_mul_left _ (by simp; omega))
theorem chkN_head {d : Int} (hc : chkD t down [d] = 0) (hm : m < nN t) : chkN t down (m : Int) d = 0 := by
  have := (topN (chk_ok hc).1).1
  exact (if_pos hc).trans (if_pos ⟨by omega, by omega⟩)
end

set_option maxRecDepth 100000 in
set_option maxHeartbeats 1000000 in
theorem lawSums_any (w : World) {v_t : Value} {t : TopD} (ht : TopV w v_t t) {p_d : Option Addr} {n_d c_d : Nat} {down : List Bool} (hd : SlV boolK w (.slice p_d n_d c_d) down) (n d : Int)  :
    Calls Try.prog 3 #[v_t, .slice p_d n_d c_d, .agg #[.int .i64 n, .int .i64 d]] w fun e w' => e = .returned (.bool true) ∧ Below w.heap.size w w' := by
  have ht_0 := ht
  obtain ⟨p_t, n_t, c_t, q_t, m_t, d_t, rfl, ht_1, ht_2⟩ := ht_0
  have hK := SS.start w
  refine Calls.hide (fun Q0 hQ0 => ?_)
  go_enter Try.func3, Try.ntmps3
  go_upto_region 0 with (fail)
  refine wp_region_T [3, 3, 0] hK ?_
  clear hK
  refine eA (.cells #[.int .i64 t.nodes, .slice p_t n_t c_t, .slice q_t m_t d_t] 25) (fun R1 => ?_)
  refine eA (.cells #[.int .i64 n, .int .i64 d] 26) (fun R2 => ?_)
  refine e0 ?_
  refine sxEnd (fun W3 hK => ?_)
  go_upto_region 1 with (fail)
  refine wp_region_T [1, 0] hK ?_
  clear hK
  refine eQ (fun w k => awake_any w  ) ?_
  refine e0 ?_
  refine sxEnd (fun W4 hK => ?_)
  go_upto_region 3 with (fail)
  refine wp_region_T [1, 0, 1] hK ?_
  clear hK
  refine eL m1 ?_
  refine e0 ?_
  obtain ⟨b1, hb1⟩ : ∃ z9 : Bool, RowKit.Hid ((largeD t down) = z9) := ⟨_, hid rfl⟩
  refine eQ (v := .bool b1) (fun w k => large_any w (ht.below k.old) (hd.below k.old) ) ?_ (hv := by rw [hb1.out])
  refine sxEnd (fun W5 hK => ?_)
  cases b1
  · --
   have hlg := hid (show ¬ (100 < t.over.length ∨ 24 < t.links.length ∨ 100 < down.length ∨ 16 < t.nodes) from of_decide_eq_false (show largeD t down = false from hb1.out)); have hl : t.links.length ≤ 100000 := (by have := hlg.out; omega); have hl2 : t.links.length ≤ 24 := (by have := hlg.out; omega); have b_t : m_t ≤ 100000 := (by rw [ht_2.one0]; exact hl); have a_t : arcsD t ≤ 200000 := (by unfold arcsD; omega)
   go_upto_region 5 with (fail)
   refine wp_region_T [1, 0, 0, 1, 0, 1, 1, 0, 0, 0, 0, 0] hK ?_
   clear hK
   refine eL m1 ?_
   iterate 2 refine e0 ?_
   refine eL m0 ?_
   refine e0 ?_
   refine eL m0 ?_
   refine eQ (fun w k => count_any w (ht.below k.old) (hd.below k.old) n d 1000000 hl (hid (by decide))) ?_
   iterate 5 refine e0 ?_
   refine sxEnd (fun W6 hK => ?_)
   go_upto_region 6 with (fail)
   refine wp_region_T [1, 0, 0, 1, 0, 1, 2, 0, 0, 0, 0, 0] hK ?_
   clear hK
   refine eL m1 ?_
   iterate 2 refine e0 ?_
   refine eL m0 ?_
   refine e0 ?_
   refine eL m0 ?_
   refine eC (fun w k => nextR_any w (ht.below k.old) (hd.below k.old) n d hl) (fun x7 => ?_)
   obtain ⟨p8, n8, c8⟩ := x7; dsimp only
   iterate 5 refine e0 ?_
   refine sxEnd (fun W9 hK => ?_)
   have hcc := hid (chkC_eq (t := t) (down := down) (n := n) (d := d) (most := 1000000) (by decide)); rw [hcc.out]
   go_upto_region 7 with (fail)
   refine wp_region_T [0, 0, 0, 0, 0, 0, 0, 0, 1, 0, 1, 0, 0] hK ?_
   clear hK
   refine e0 ?_
   refine eB (((chkN t down n d)) != 0) (fun b2 hb2 => ?_)
   refine e0 ?_
   cases b2
   · --
    refine e0 ?_
    refine eB (((chkN t down n d)) != 0) (fun b3 hb3 => ?_)
    iterate 2 refine e0 ?_
    cases b3
    · --
     refine e0 ?_
     refine eL m1 ?_
     refine e0 ?_
     refine eL m1 ?_
     refine eB (n == d) (fun b4 hb4 => ?_)
     refine e0 ?_
     refine sxEnd (fun W10 hK => ?_)
     cases b4
     · --
      have hc := hid (show chkN t down n d = 0 by have q := hb2.out; simpa using q); have hnd := hid (show n ≠ d by have q := hb4.out; simpa using q); have hok := hid (chk_ok (chkN_ok hc.out).1); have ht2 := hok.out.1; have hun := hid ((hK.len m0).trans (natI_len _)); have hu1 := Nat.le_of_eq hun.out; have hu2 := Nat.le_of_eq hun.out.symm; have hul := nxtR_len t down n d; have ha48 : arcsD t ≤ 48 := (by unfold arcsD; omega)
      go_upto_region 9 with (fail)
      refine wp_region_T [0] hK ?_
      clear hK
      refine e0 ?_
      refine sxEnd (fun W11 hK => ?_)
      go_wp2_with fail
      go_loopw [67, 11] (fun s67 s11 wl => ∃ (j : Nat), s67 = .int .i64 (j : Int) ∧ s11 = .int .i64 ((smN t down n d j : Nat) : Int) ∧ (j ≤ n8) ∧ SS w ([rO intK 3 p8 n8 c8 (natI (nxtR t down n d)), bx R2 (.cells #[.int .i64 n, .int .i64 d] 26), bx R1 (.cells #[.int .i64 t.nodes, .slice p_t n_t c_t, .slice q_t m_t d_t] 25)]) wl) (fun s67 s11 _ => n8 - (intOf s67).toNat)
      case atStart => exact ⟨0, rfl, rfl, (by omega), hK⟩
      case round =>
       clear hK
       obtain ⟨j, rfl, rfl, hj0, hK⟩ := hrel
       generalize wr = W12 at hK ⊢
       go_upto_region 11 with (fail)
       refine wp_region_T [0] hK ?_
       clear hK
       refine eB (decide (((j : Int)) < ((n8 : Int)))) (fun b5 hb5 => ?_)
       refine sxEnd (fun W13 hK => ?_)
       cases b5
       · --
        have q_b5 : ((n8 : Int)) ≤ ((j : Int)) := Int.not_lt.1 (of_decide_eq_false hb5.out)
        have hje := hid (smN_all (t := t) (down := down) (n := n) (d := d) (j := j) (by omega))
        go_upto_region 18 with (fail)
        refine wp_region_T [0, 0, 0, 0, 0] hK ?_
        clear hK
        iterate 2 refine e0 ?_
        refine eV (.int .i64 ((min (smN t down n d j) 1000000 : Nat) : Int)) (fun w' => by go_simp; (try go_bits); exact ⟨congrArg (Value.int .i64) (by omega), rfl⟩) ?_
        refine eB (((cntR t down n d 1000000)) == (((min (smN t down n d j) 1000000 : Nat) : Int))) (fun b6 hb6 => ?_)
        refine e0 ?_
        refine sxEnd (fun W14 hK => ?_)
        go_wp2
        try go_ret
        show Q0 (.returned (.bool b6)) _
        exact (by obtain rfl := hQ0.out; exact ⟨congrArg (fun z => Ending.returned (.bool z)) (by rw [← hb6.out, cnt_sum hc.out hnd.out, hje.out]; simp), hK.old⟩)
       · --
        have q_b5 : ((j : Int)) < ((n8 : Int)) := of_decide_eq_true hb5.out
        have hj : j < n8 := by omega
        have i15 : j < n8 := hj
        obtain ⟨g15, rfl⟩ := hK.pt m0 i15
        have l15 : j < (natI (nxtR t down n d)).length := Nat.lt_of_lt_of_eq i15 (hK.len m0)
        obtain ⟨xa, exa⟩ : ∃ z0, RowKit.Hid ((natI (nxtR t down n d))[j]? = some z0) := ⟨_, hid (List.getElem?_eq_getElem l15)⟩
        obtain ⟨a, ha0, rfl⟩ := natI_at exa.out; have ha1 := hid ha0; clear ha0; have hax := hid (show a ∈ nxtD t down (dstD t down d.toNat) n.toNat d.toNat by have q := List.mem_of_getElem? ha1.out; rwa [show nxtR t down n d = nxtD t down (dstD t down d.toNat) n.toNat d.toNat from if_pos hc.out] at q); have ha := (mem_nxt.1 hax.out).1; have hhN := (nxt_less ht2 hax.out).2.2.1; have hcN := hid (chkN_head (chkN_ok hc.out).1 hhN); have hcl := smN_le (t := t) (down := down) (n := n) (d := d) (j := j); have hcb : cmN t down d a ≤ 1000000 := Nat.min_le_right ..
        go_upto_region 12 with (fail)
        refine wp_region_T [0, 1, 0] hK ?_
        clear hK
        refine e0 ?_
        refine eR (fun w k => (k.own m0).int exa.out) ?_
        refine e0 ?_
        refine sxEnd (fun W16 hK => ?_)
        go_upto_region 13 with (fail)
        refine wp_region_S _ [0, 0, 0, 0, 1, 0, 0, 1, 0, 0, 0, 0, 0] hK ?_ (List.Sublist.refl _)
        clear hK
        refine eL0 m2 ?_
        refine e0 ?_
        refine eL0 m2 ?_
        refine e0 ?_
        refine eQ (fun w k => rhead_any w (ht.below k.old) a hl ht2 ha) ?_
        refine e0 ?_
        refine eL0 m1 ?_
        refine eQ (fun w k => count_any w (ht.below k.old) (hd.below k.old) ((hN t a : Nat) : Int) d 1000000 hl (hid (by decide))) ?_
        iterate 5 refine e0 ?_
        refine sxEnd (fun W17 hK => ?_)
        rw [chkC_eq (by decide), hcN.out, cnt_of hcN.out]
        go_upto_region 14 with (fail)
        refine wp_region_T [0, 0] hK ?_
        clear hK
        iterate 2 refine e0 ?_
        refine sxEnd (fun W18 hK => ?_)
        go_upto_region 16 with (fail)
        refine wp_region_T [0, 0, 0, 0] hK ?_
        clear hK
        iterate 2 refine e0 ?_
        refine eV (.int .i64 (((smN t down n d j + cmN t down d a : Nat)) : Int)) (fun w' => by go_simp; (try go_bits); exact ⟨congrArg (Value.int .i64) (by first | omega | (unfold wrap64; omega)), rfl⟩) ?_
        refine e0 ?_
        refine sxEnd (fun W19 hK => ?_)
        (try go_wp2)
        go_roundw
        case rel => exact ⟨j + 1, (by first | rfl | go_num), (congrArg (Value.int .i64) (congrArg Nat.cast (smN_next ha1.out)).symm), (by omega), hK⟩
        case measure => simp [intOf] <;> omega
     · --
      go_upto_region 8 with (fail)
      refine wp_region_T [0, 0, 0, 0, 0, 0, 0, 0, 0, 0, 0, 0] hK ?_
      clear hK
      iterate 2 refine e0 ?_
      refine eV (.bool true) (fun w' => by go_simp; (try go_bits); first | exact ⟨rfl, rfl⟩ | exact ⟨congrArg Value.bool (by simp), rfl⟩) ?_
      iterate 2 refine e0 ?_
      refine eB (((chkN t down n d)) != 0) (fun b5 hb5 => ?_)
      refine e0 ?_
      cases b5
      · --
       refine e0 ?_
       refine eB (((cntR t down n d 1000000)) == 1) (fun b6 hb6 => ?_)
       iterate 3 refine e0 ?_
       refine sxEnd (fun W20 hK => ?_)
       go_wp2
       try go_ret
       show Q0 (.returned (.bool b6)) _
       exact (by obtain rfl := hQ0.out; exact ⟨congrArg (fun z => Ending.returned (.bool z)) (by rw [← hb6.out]; have hc : chkN t down n d = 0 := (by have q := hb2.out; simpa using q); obtain rfl : n = d := (by have q := hb4.out; simpa using q); rw [cnt_end hc]; rfl), hK.old⟩)
      · --
       exact absurd (hb2.out.symm.trans hb5.out) (by decide)
    · --
     exact absurd (hb2.out.symm.trans hb3.out) (by decide)
   · --
    iterate 2 refine eN ?_
    iterate 2 refine e0 ?_
    iterate 5 refine eN ?_
    refine e0 ?_
    refine sxEnd (fun W21 hK => ?_)
    go_upto_region 8 with (fail)
    refine wp_region_T [0, 0, 0, 0, 0, 0, 0, 0, 0, 0, 0, 0] hK ?_
    clear hK
    iterate 2 refine e0 ?_
    refine eV (.bool true) (fun w' => by go_simp; (try go_bits); first | exact ⟨rfl, rfl⟩ | exact ⟨congrArg Value.bool (by simp), rfl⟩) ?_
    iterate 2 refine e0 ?_
    refine eB (((chkN t down n d)) != 0) (fun b3 hb3 => ?_)
    refine e0 ?_
    cases b3
    · --
     exact absurd (hb2.out.symm.trans hb3.out) (by decide)
    · --
     iterate 2 refine eN ?_
     iterate 3 refine e0 ?_
     refine sxEnd (fun W22 hK => ?_)
     go_wp2
     try go_ret
     show Q0 (.returned (.bool true)) _
     exact (by obtain rfl := hQ0.out; exact ⟨rfl, hK.old⟩)
  · --
   go_wp2
   try go_ret
   show Q0 (.returned (.bool true)) _
   exact (by obtain rfl := hQ0.out; exact ⟨rfl, hK.old⟩)
end Go.Proofs.Ytokhapaffleffaa
