/- The law of what is conserved. -/
import Derived.Test.YtokhapaffleffaaGreatDagP
import Derived.Test.YtokhapaffleffaaGreatDsZ
namespace Go.Proofs.YtokhapaffleffaaGreat
open Go.RowKit
open Go.Lib (decDigits)
section
variable {t : TopD} {down : List Bool} {l : List Int} {s d x n m a k : Nat} {o : List Nat} {am sh : List Rat}
theorem sgQ_nn {x : Rat} (h : 0 ≤ x) : ¬ sgQ x < 0 := by
  have := Rat.num_nonneg.2 h
  unfold sgQ isN
  split
  · decide
  · rw [decide_eq_false (by omega), if_neg (by decide)]; decide
theorem sgQ_0 : sgQ 0 = 0 := sgQ_zero.2 rfl
theorem shr_nn (h : ShrI t down l s d o am sh) (a : Nat) : 0 ≤ sh.getD a 0 := by
  rw [h.hs a]
  split
  · rw [Rat.div_def]
    refine Rat.mul_nonneg (h.nn _) ?_
    rcases Rat.le_iff_lt_or_eq.1 (Rat.natCast_nonneg (a := (nxtD t down l (tN t a) d).length)) with w | w
    · exact Rat.le_of_lt (Rat.inv_pos.2 w)
    · rw [← w, Rat.inv_zero]; exact Rat.le_refl
  · exact Rat.le_refl
theorem shr_am (ht : topOk t = true) (hd : IsDst t down d l) (h : ShrI t down l d d o am sh) : ∀ (k x : Nat), x < nN t → x ≠ d → 0 ≤ atD l x → (4300001 - atD l x).toNat ≤ k → am.getD x 0 = 0 := by
  intro k
  induction k with
  | zero => intro x _ _ _ hk; have := hd.small ht x; omega
  | succ k ih =>
    intro x hx hxd h0 hk
    rw [h.ha x hx, if_neg hxd, sum_zero (fun a ha => ?_), Rat.add_zero]
    obtain ⟨ha1, ha2⟩ := List.mem_filter.1 ha
    have ha1 := List.mem_range.1 ha1
    have ha2 : hN t a = x := of_decide_eq_true ha2
    rw [h.hs a]
    split
    · rename_i w
      obtain ⟨_, o2, o3, _, o5⟩ := on_iff.1 w.2.2
      have hc := arc_ok ht ha1
      rw [ha2] at o3 o5
      have hs := hd.small ht x
      rw [ih (tN t a) hc.2.2.2.1 o2 (by omega) (by omega), Rat.div_def, Rat.zero_mul]
    · rfl
theorem shr_zero (ht : topOk t = true) (hd : IsDst t down d l) (h : ShrI t down l d d o am sh) (a : Nat) : sh.getD a 0 = 0 := by
  rw [h.hs a]
  split
  · rename_i w
    obtain ⟨_, o2, o3, _, o5⟩ := on_iff.1 w.2.2
    have hc := arc_ok ht w.1
    rw [shr_am ht hd h _ (tN t a) hc.2.2.2.1 o2 (by omega) (Nat.le_refl _), Rat.div_def, Rat.zero_mul]
  · rfl
def accQ (t : TopD) (sh : List Rat) (x : Nat) : Nat → Rat
  | 0 => 0
  | k + 1 => accQ t sh x k + (if tN t k = x then sh.getD k 0 else 0) - (if hN t k = x then sh.getD k 0 else 0)
theorem acc_sum : ∀ k, accQ t sh x k = ((List.range k).map fun a => if decide (tN t a = x) then sh.getD a 0 else 0).sum - ((List.range k).map fun a => if decide (hN t a = x) then sh.getD a 0 else 0).sum
  | 0 => by rw [accQ]; simp; exact (Rat.sub_self ..).symm
  | k + 1 => by
    rw [accQ, acc_sum k, List.range_succ, List.map_append, List.map_append, List.sum_append, List.sum_append, List.map_singleton, List.map_singleton, List.sum_singleton, List.sum_singleton]
    simp only [decide_eq_true_eq]
    grind
theorem acc_all : accQ t sh x (arcsD t) = outQ t sh x - inQ t sh x := by
  rw [acc_sum, outQ, inQ, sum_filter, sum_filter]
theorem acc_lm (h : ∀ a, LmQ 101 (sh.getD a 0)) : ∀ k, LmQ (204 * k + 1) (accQ t sh x k)
  | 0 => (LmQ.int (a := 1) (z := 0) (by unfold Lm; decide) (by decide))
  | k + 1 => by
    have hz : LmQ 101 (0 : Rat) := lm_nil 0
    have e : ∀ (p : Prop) [Decidable p], LmQ 101 (if p then sh.getD k 0 else 0) := fun p _ => by
      split
      · exact h k
      · exact hz
    rw [accQ]
    exact (((acc_lm h k).add (e (tN t k = x))).sub (e (hN t k = x))).up (by omega)
theorem acc_t (h1 : tN t k = x) (h2 : hN t k ≠ x) : accQ t sh x k + sh.getD k 0 = accQ t sh x (k + 1) := by rw [accQ, if_pos h1, if_neg h2, Rat.sub_eq_add_neg]; grind
theorem acc_h (h1 : tN t k ≠ x) (h2 : hN t k = x) : accQ t sh x k - sh.getD k 0 = accQ t sh x (k + 1) := by rw [accQ, if_neg h1, if_pos h2, Rat.add_zero]
theorem acc_n (h1 : tN t k ≠ x) (h2 : hN t k ≠ x) : accQ t sh x k = accQ t sh x (k + 1) := by rw [accQ, if_neg h1, if_neg h2, Rat.add_zero]; grind
theorem shr_flow {n d : Int} (h : ShrP t down n d sh) (hc : chkS t down n d = 0) (hnd : n ≠ d) (hx : x < nN t) : accQ t sh x (arcsD t) = if (x : Int) = n then 1 else if (x : Int) = d then -1 else 0 := by
  obtain ⟨hI, hO, am, hS⟩ := h.2.1 hc
  have hcn : chkN t down n d = 0 := by
    unfold chkS at hc
    split at hc
    · rename_i e; exact e
    · rename_i e; exact absurd hc e
  obtain ⟨hcd, h1, h2⟩ := chkN_ok hcn
  obtain ⟨ht, _, h3, h4⟩ := chk_ok hcd
  have h0 : 0 ≤ atD (dstD t down d.toNat) n.toNat := by
    unfold chkS at hc
    rw [if_pos hcn] at hc
    split at hc
    · cases hc
    · omega
  have hn := (topN ht).1
  rw [acc_all, hS.flow ht hI (fun x => by rw [List.mem_reverse]; exact hO.2 x) (by omega) h0 (by omega) hx]
  have e1 : x = n.toNat ↔ (x : Int) = n := by omega
  have e2 : x = d.toNat ↔ (x : Int) = d := by omega
  simp only [e1, e2]
theorem shr_none {n d : Int} (h : ShrP t down n d sh) (hz : chkS t down n d ≠ 0 ∨ n = d) (a : Nat) : sh.getD a 0 = 0 := by
  by_cases hc : chkS t down n d = 0
  · obtain ⟨hI, _, am, hS⟩ := h.2.1 hc
    have e := hz.resolve_left (fun w => w hc)
    subst e
    have hcn : chkN t down n n = 0 := by
      unfold chkS at hc
      split at hc
      · rename_i e; exact e
      · rename_i e; exact absurd hc e
    exact shr_zero (chk_ok (chkN_ok hcn).1).1 hI hS a
  · rw [h.1 hc]; rfl
theorem shr_pos {n d : Int} (h : ShrP t down n d sh) (a : Nat) : 0 ≤ sh.getD a 0 := by
  by_cases hc : chkS t down n d = 0
  · obtain ⟨_, _, am, hS⟩ := h.2.1 hc
    exact shr_nn hS a
  · rw [h.1 hc]; exact Rat.le_refl
theorem shr_ok {n d : Int} (h : ShrP t down n d sh) (hc : chkS t down n d = 0) : topOk t = true ∧ sh.length = arcsD t := by
  obtain ⟨_, _, am, hS⟩ := h.2.1 hc
  have hcn : chkN t down n d = 0 := by
    unfold chkS at hc
    split at hc
    · rename_i e; exact e
    · rename_i e; exact absurd hc e
  exact ⟨(chk_ok (chkN_ok hcn).1).1, hS.ls⟩
theorem shr_le {n d : Int} (h : ShrP t down n d sh) : sh.length ≤ arcsD t := by
  by_cases hc : chkS t down n d = 0
  · exact Nat.le_of_eq (shr_ok h hc).2
  · rw [h.1 hc]; exact Nat.zero_le _
end
set_option maxRecDepth 100000 in
set_option maxHeartbeats 2000000 in
theorem lawConserved_any (w : World) {v_t : Value} {t : TopD} (ht : TopV w v_t t) {p_d : Option Addr} {n_d c_d : Nat} {down : List Bool} (hd : SlV boolK w (.slice p_d n_d c_d) down) (n d : Int)  :
    Calls Tryz.prog 9 #[v_t, .slice p_d n_d c_d, .agg #[.int .i64 n, .int .i64 d]] w fun e w' => e = .returned (.bool true) ∧ Below w.heap.size w w' := by
  have ht_0 := ht
  obtain ⟨p_t, n_t, c_t, q_t, m_t, d_t, rfl, ht_1, ht_2⟩ := ht_0
  have hK := SS.start w
  refine Calls.hide (fun Q0 hQ0 => ?_)
  go_enter Tryz.func9, Tryz.ntmps9
  go_upto_region 0 with (fail)
  refine wp_region_T [3, 3, 0] hK ?_
  clear hK
  refine eA (.cells #[.int .i64 t.nodes, .slice p_t n_t c_t, .slice q_t m_t d_t] 25) (fun R1 => ?_)
  refine eA (.cells #[.int .i64 n, .int .i64 d] 26) (fun R2 => ?_)
  refine e0 ?_
  refine sxEnd (fun W3 hK => ?_)
  go_upto_region 1 with (fail)
  refine wp_region_T [1, 0] hK ?_
  clear hK
  refine eQ (fun w k => awake_any w  ) ?_
  refine e0 ?_
  refine sxEnd (fun W4 hK => ?_)
  go_upto_region 3 with (fail)
  refine wp_region_T [1, 0, 1] hK ?_
  clear hK
  refine eL m1 ?_
  refine e0 ?_
  obtain ⟨b1, hb1⟩ : ∃ z9 : Bool, RowKit.Hid ((largeD t down) = z9) := ⟨_, hid rfl⟩
  refine eQ (v := .bool b1) (fun w k => large_any w (ht.below k.old) (hd.below k.old) ) ?_ (hv := by rw [hb1.out])
  refine sxEnd (fun W5 hK => ?_)
  cases b1
  · --
   have hlg := hid (show ¬ (100 < t.over.length ∨ 24 < t.links.length ∨ 100 < down.length ∨ 16 < t.nodes) from of_decide_eq_false (show largeD t down = false from hb1.out)); have hl : t.links.length ≤ 100000 := (by have := hlg.out; omega); have hl2 : t.links.length ≤ 24 := (by have := hlg.out; omega); have b_t : m_t ≤ 100000 := (by rw [ht_2.one0]; exact hl); have a_t : arcsD t ≤ 200000 := (by unfold arcsD; omega)
   go_upto_region 5 with (fail)
   refine wp_region_T [1, 0, 0, 1, 0, 1, 2, 0, 0, 0, 0, 0] hK ?_
   clear hK
   refine eL m1 ?_
   iterate 2 refine e0 ?_
   refine eL m0 ?_
   refine e0 ?_
   refine eL m0 ?_
   refine eC (fun w k => share_any w (ht.below k.old) (hd.below k.old) n d hl) (fun x6 => ?_)
   obtain ⟨⟨p7, n7, c7⟩, sh7⟩ := x6; dsimp only
   iterate 5 refine e0 ?_
   refine sxEnd (fun W8 hK => ?_)
   have hSP := hid (hK.get m1)
   have hO10 := hK.slv m0
   have hO11 := hK.box m2
   have hO12 := hK.box m3
   have hB9 := hK.old
   have hKo := hK.old; clear hK; have hK := SS.start W8
   replace ht := ht.below hKo
   replace ht_1 := ht_1.below hKo
   replace ht_2 := ht_2.below hKo
   replace hd := hd.below hKo
   clear hKo
   have hsn := hO10.one0; replace hsn := hid hsn; have hsm : n7 ≤ 200000 := (by rw [hsn.out]; exact Nat.le_trans (shr_le hSP.out) a_t)
   go_upto_region 6 with (fail)
   refine wp_region_T [0, 0, 0, 0, 0, 0, 0, 0, 0] hK ?_
   clear hK
   refine e0 ?_
   refine eB (((chkS t down n d)) != 0) (fun b2 hb2 => ?_)
   refine e0 ?_
   cases b2
   · --
    refine e0 ?_
    refine eX0 (fun w k => hO11.below k.old) ?_
    refine e0 ?_
    refine eX0 (fun w k => hO11.below k.old) ?_
    refine eB (n == d) (fun b3 hb3 => ?_)
    refine e0 ?_
    refine sxEnd (fun W13 hK => ?_)
    cases b3
    · --
     have hc := hid (show chkS t down n d = 0 by have q := hb2.out; simpa using q); have hnd := hid (show n ≠ d by have q := hb3.out; simpa using q); have hok := hid (shr_ok hSP.out hc.out); have ht2 := hok.out.1; have hsa := hid (hsn.out.trans hok.out.2); have hsa1 := Nat.le_of_eq hsa.out; have hsa2 := Nat.le_of_eq hsa.out.symm; have hnn := hid (topN ht2).1; have hn1 := Int.le_of_eq hnn.out; have hn2 := Int.le_of_eq hnn.out.symm; have hnm := (topN ht2).2.2.1; have ha48 : arcsD t ≤ 48 := (by unfold arcsD; omega)
     go_upto_region 14 with (fail)
     refine wp_region_T [0, 0, 0, 0, 0, 0, 0] hK ?_
     clear hK
     iterate 3 refine e0 ?_
     refine eX0 (fun w k => hO12.below k.old) ?_
     refine e0 ?_
     refine eV (.int .i64 ((arcsD t : Nat) : Int)) (fun w' => by go_simp; (try go_bits); exact ⟨congrArg (Value.int .i64) (by unfold arcsD; have := ht_2.one0; first | omega | (unfold wrap64; omega)), rfl⟩) ?_
     refine eB (((n7 : Int)) != (((arcsD t : Nat) : Int))) (fun b4 hb4 => ?_)
     refine sxEnd (fun W14 hK => ?_)
     cases b4
     · --
      go_upto_region 16 with (fail)
      refine wp_region_T [0, 0, 0] hK ?_
      clear hK
      refine e0 ?_
      refine eX0 (fun w k => hO12.below k.old) ?_
      refine e0 ?_
      refine sxEnd (fun W15 hK => ?_)
      go_wp2_with fail
      go_loopw [59] (fun s59 wl => ∃ (i : Nat), s59 = .int .i64 (i : Int) ∧ (i ≤ nN t) ∧ SS W8 ([]) wl) (fun s59 _ => nN t - (intOf s59).toNat)
      case atStart => exact ⟨0, rfl, (by omega), hK⟩
      case round =>
       clear hK
       obtain ⟨i, rfl, hi0, hK⟩ := hrel
       generalize wr = W16 at hK ⊢
       go_upto_region 17 with (fail)
       refine wp_region_T [0] hK ?_
       clear hK
       refine eB (decide (((i : Int)) < t.nodes)) (fun b5 hb5 => ?_)
       refine sxEnd (fun W17 hK => ?_)
       cases b5
       · --
        have q_b5 : t.nodes ≤ ((i : Int)) := Int.not_lt.1 (of_decide_eq_false hb5.out)
        go_wp2
        try go_ret
        show Q0 (.returned (.bool true)) _
        exact (by obtain rfl := hQ0.out; exact ⟨rfl, hB9.trans (hK.old.mono hB9.size)⟩)
       · --
        have q_b5 : ((i : Int)) < t.nodes := of_decide_eq_true hb5.out
        go_upto_region 19 with (fail)
        refine wp_region_T [2, 3, 4] hK ?_
        clear hK
        refine eC (fun w k => rat_S (qint_any 0 w (by omega) (by omega))) (fun x18 => ?_)
        obtain ⟨⟨p19, l19, c19⟩, ⟨q19, m19, d19⟩⟩ := x18; dsimp only
        refine eA (.cells #[.bool false, .slice none 0 0, .slice none 0 0] 57) (fun R20 => ?_)
        refine eP 0 0 [.bool (isN (((0 : Int) : Rat))), .slice p19 l19 c19, .slice q19 m19 d19] ?_ (hq := .inr ⟨rfl, trivial⟩)
        refine sxEnd (fun W21 hK => ?_)
        rw [show ((0 : Int) : Rat) = accQ t sh7 i 0 from zero_eq.symm] at hK
        go_wp2_with fail
        go_loopw [65] (fun s65 wl => ∃ (j : Nat) (vp : Option Addr) (vl : Nat) (vc : Nat) (up : Option Addr) (ul : Nat) (uc : Nat), s65 = .int .i64 (j : Int) ∧ (j ≤ arcsD t) ∧ SS W8 ([bx R20 (.cells #[.bool (isN (accQ t sh7 i j)), .slice vp vl vc, .slice up ul uc] 57), qF (.agg #[.bool (isN (accQ t sh7 i j)), .slice vp vl vc, .slice up ul uc]) (accQ t sh7 i j)]) wl) (fun s65 _ => arcsD t - (intOf s65).toNat)
        case atStart => exact ⟨0, p19, l19, c19, q19, m19, d19, rfl, (by omega), hK⟩
        case round =>
         clear hK
         obtain ⟨j, vp, vl, vc, up, ul, uc, rfl, hj0, hK⟩ := hrel
         generalize wr = W22 at hK ⊢
         go_upto_region 21 with (fail)
         refine wp_region_T [0] hK ?_
         clear hK
         refine eB (decide (((j : Int)) < ((n7 : Int)))) (fun b6 hb6 => ?_)
         refine sxEnd (fun W23 hK => ?_)
         cases b6
         · --
          have q_b6 : ((n7 : Int)) ≤ ((j : Int)) := Int.not_lt.1 (of_decide_eq_false hb6.out)
          go_upto_region 31 with (fail)
          refine wp_region_T [0, 0, 0, 0] hK ?_
          clear hK
          iterate 2 refine e0 ?_
          refine eX0 (fun w k => hO11.below k.old) ?_
          refine eB (((i : Int)) == n) (fun b7 hb7 => ?_)
          refine sxEnd (fun W24 hK => ?_)
          cases b7
          · --
           go_upto_region 33 with (fail)
           refine wp_region_T [0, 0, 0, 0] hK ?_
           clear hK
           iterate 2 refine e0 ?_
           refine eX0 (fun w k => hO11.below k.old) ?_
           refine eB (((i : Int)) == d) (fun b8 hb8 => ?_)
           refine sxEnd (fun W25 hK => ?_)
           cases b8
           · --
            have hfl := hid (shr_flow (x := i) hSP.out hc.out hnd.out (by omega)); have hje : j = arcsD t := (by omega); rw [hje] at hK
            clear hje
            have hw := hid (show accQ t sh7 i (arcsD t) = ((0 : Int) : Rat) by rw [hfl.out]; have qb7 := hb7.out; (try simp at qb7); have qb8 := hb8.out; (try simp at qb8); rw [if_neg (by omega), if_neg (by omega)]; decide +kernel)
            go_upto_region 35 with (fail)
            refine wp_region_S _ [0, 0, 2, 1, 0] hK ?_ (List.Sublist.refl _)
            clear hK
            refine eL0 m0 ?_
            refine e0 ?_
            refine eC (fun w k => rat_S (qint_any 0 w (by omega) (by omega))) (fun x26 => ?_)
            obtain ⟨⟨p27, l27, c27⟩, ⟨q27, m27, d27⟩⟩ := x26; dsimp only
            refine eQ (fun w k => qcmp_eq w (k.q m2) (k.q m0) ((acc_lm (t := t) (x := i) hSP.out.2.2 (arcsD t)).up (b := 10000) (by omega)) ((LmQ.int (a := 1) (by unfold Lm; decide) (by decide)).up (b := 10000) (by decide)) (by decide) (hw.out)) ?_
            refine e0 ?_
            refine sxEnd (fun W28 hK => ?_)
            (try go_wp2)
            go_roundw
            case rel => exact ⟨i + 1, (by first | rfl | go_num), (by omega), (hK.subl (sC2 (sC2 (sC2 sZ2))))⟩
            case measure => simp [intOf] <;> omega
           · --
            have hfl := hid (shr_flow (x := i) hSP.out hc.out hnd.out (by omega)); have hje : j = arcsD t := (by omega); rw [hje] at hK
            clear hje
            have hw := hid (show accQ t sh7 i (arcsD t) = (((-1) : Int) : Rat) by rw [hfl.out]; have qb7 := hb7.out; (try simp at qb7); have qb8 := hb8.out; (try simp at qb8); rw [if_neg (by omega), if_pos (by omega)]; decide +kernel)
            go_upto_region 35 with (fail)
            refine wp_region_S _ [0, 0, 2, 1, 0] hK ?_ (List.Sublist.refl _)
            clear hK
            refine eL0 m0 ?_
            refine e0 ?_
            refine eC (fun w k => rat_S (qint_any (-1) w (by omega) (by omega))) (fun x29 => ?_)
            obtain ⟨⟨p30, l30, c30⟩, ⟨q30, m30, d30⟩⟩ := x29; dsimp only
            refine eQ (fun w k => qcmp_eq w (k.q m2) (k.q m0) ((acc_lm (t := t) (x := i) hSP.out.2.2 (arcsD t)).up (b := 10000) (by omega)) ((LmQ.int (a := 1) (by unfold Lm; decide) (by decide)).up (b := 10000) (by decide)) (by decide) (hw.out)) ?_
            refine e0 ?_
            refine sxEnd (fun W31 hK => ?_)
            (try go_wp2)
            go_roundw
            case rel => exact ⟨i + 1, (by first | rfl | go_num), (by omega), (hK.subl (sC2 (sC2 (sC2 sZ2))))⟩
            case measure => simp [intOf] <;> omega
          · --
           go_upto_region 33 with (fail)
           refine wp_region_T [0, 0, 0, 0] hK ?_
           clear hK
           iterate 2 refine e0 ?_
           refine eX0 (fun w k => hO11.below k.old) ?_
           refine eB (((i : Int)) == d) (fun b8 hb8 => ?_)
           refine sxEnd (fun W32 hK => ?_)
           cases b8
           · --
            have hfl := hid (shr_flow (x := i) hSP.out hc.out hnd.out (by omega)); have hje : j = arcsD t := (by omega); rw [hje] at hK
            clear hje
            have hw := hid (show accQ t sh7 i (arcsD t) = ((1 : Int) : Rat) by rw [hfl.out]; have qb7 := hb7.out; (try simp at qb7); have qb8 := hb8.out; (try simp at qb8); rw [if_pos (by omega)]; decide +kernel)
            go_upto_region 35 with (fail)
            refine wp_region_S _ [0, 0, 2, 1, 0] hK ?_ (List.Sublist.refl _)
            clear hK
            refine eL0 m0 ?_
            refine e0 ?_
            refine eC (fun w k => rat_S (qint_any 1 w (by omega) (by omega))) (fun x33 => ?_)
            obtain ⟨⟨p34, l34, c34⟩, ⟨q34, m34, d34⟩⟩ := x33; dsimp only
            refine eQ (fun w k => qcmp_eq w (k.q m2) (k.q m0) ((acc_lm (t := t) (x := i) hSP.out.2.2 (arcsD t)).up (b := 10000) (by omega)) ((LmQ.int (a := 1) (by unfold Lm; decide) (by decide)).up (b := 10000) (by decide)) (by decide) (hw.out)) ?_
            refine e0 ?_
            refine sxEnd (fun W35 hK => ?_)
            (try go_wp2)
            go_roundw
            case rel => exact ⟨i + 1, (by first | rfl | go_num), (by omega), (hK.subl (sC2 (sC2 (sC2 sZ2))))⟩
            case measure => simp [intOf] <;> omega
           · --
            exact absurd (by have qb7 := hb7.out; (try simp at qb7); have qb8 := hb8.out; (try simp at qb8); omega : n = d) hnd.out
         · --
          have q_b6 : ((j : Int)) < ((n7 : Int)) := of_decide_eq_true hb6.out
          have hj : j < arcsD t := (by omega)
          have i36 : j < n7 := (by omega)
          obtain ⟨g36, o36, rfl⟩ := hO10.pt i36
          have l36 : j < sh7.length := Nat.lt_of_lt_of_eq i36 (hO10.one0)
          obtain ⟨y, ey⟩ : ∃ z0, RowKit.Hid (sh7[j]? = some z0) := ⟨_, hid (List.getElem?_eq_getElem l36)⟩
          obtain ⟨y_0, y_1, y_2, y_c, y_r⟩ := hO10.rat ey.out
          obtain ⟨rfl, ⟨y_p, y_n, y_d, rfl⟩, y_q, y_m, y_e, rfl⟩ := ratV_cells' y_r
          have hyn := hid (show 0 ≤ y by have q := shr_pos hSP.out j; rw [List.getD_eq_getElem?_getD, ey.out] at q; exact q); have hyl := hid (show LmQ 101 y by have q := hSP.out.2.2 j; rw [List.getD_eq_getElem?_getD, ey.out] at q; exact q); have hal := hid (acc_lm (t := t) (x := i) hSP.out.2.2 j); have htt := hid (arc_ok ht2 hj).2.2.2.2.2.1
          go_upto_region 22 with (fail)
          refine wp_region_T [0, 0, 0, 3, 0, 4] hK ?_
          clear hK
          iterate 2 refine e0 ?_
          refine eRm0 (F := fun w => C3 w g36 (o36 + j * 3) (.bool (isN y)) (.slice y_p y_n y_d) (.slice y_q y_m y_e)) (fun w k => y_c.below k.old) (h1 := by intro w' k; obtain ⟨_, c0, c1, c2⟩ := k; (try simp at c0 c1 c2); go_simp; (try go_bits); exact ⟨rfl, rfl⟩) ?_
          refine eA (.cells #[.bool false, .slice none 0 0, .slice none 0 0] 57) (fun R37 => ?_)
          refine e0 ?_
          refine eP 0 0 [.bool (isN y), .slice y_p y_n y_d, .slice y_q y_m y_e] ?_ (hq := .inr ⟨rfl, rfl, trivial⟩)
          refine sxEnd (fun W38 hK => ?_)
          go_upto_region 23 with (fail)
          refine wp_region_T [1, 1, 0] hK ?_
          clear hK
          refine eL m0 ?_
          obtain ⟨z1, hz1⟩ : ∃ z9 : Int, RowKit.Hid (sgQ (y) = z9) := ⟨_, hid rfl⟩
          refine eQ (v := .int .i64 z1) (fun w k => sign_any _ _ w (y_r.below k.old)) ?_ (hv := by rw [hz1.out])
          refine eB (decide (z1 < 0)) (fun b7 hb7 => ?_)
          refine sxEnd (fun W39 hK => ?_)
          cases b7
          · --
           have q_b7 : 0 ≤ z1 := Int.not_lt.1 (of_decide_eq_false hb7.out)
           go_upto_region 25 with (fail)
           refine wp_region_T [0, 0, 1, 0, 0] hK ?_
           clear hK
           refine eX0 (fun w k => hO12.below k.old) ?_
           refine e0 ?_
           refine eQ (fun w k => rtail_any w (ht.below k.old) j hl ht2 hj) ?_
           refine e0 ?_
           refine eB ((((tN t j : Nat) : Int)) == ((i : Int))) (fun b8 hb8 => ?_)
           refine sxEnd (fun W40 hK => ?_)
           cases b8
           · --
            go_upto_region 27 with (fail)
            refine wp_region_T [0, 0, 1, 0, 0] hK ?_
            clear hK
            refine eX0 (fun w k => hO12.below k.old) ?_
            refine e0 ?_
            refine eQ (fun w k => rhead_any w (ht.below k.old) j hl ht2 hj) ?_
            refine e0 ?_
            refine eB ((((hN t j : Nat) : Int)) == ((i : Int))) (fun b9 hb9 => ?_)
            refine sxEnd (fun W41 hK => ?_)
            cases b9
            · --
             have hyj := hid (show sh7.getD j 0 = y by rw [List.getD_eq_getElem?_getD, ey.out]; rfl)
             rw [show accQ t sh7 i j = accQ t sh7 i (j + 1) from (acc_n (by have q := hb8.out; simp at q; omega) (by have q := hb9.out; simp at q; omega))] at hK
             (try go_wp2)
             go_roundw
             case rel => exact ⟨j + 1, vp, vl, vc, up, ul, uc, (by first | rfl | go_num), (by omega), (hK.subl (sC2 (List.Sublist.refl _)))⟩
             case measure => simp [intOf] <;> omega
            · --
             go_upto_region 28 with (fail)
             refine wp_region_T [1, 1, 2, 4] hK ?_
             clear hK
             refine eL m1 ?_
             refine eL m0 ?_
             refine eC (fun w k => rat_S (qsub_any _ _ _ _ w (k.q m2) (y_r.below k.old) (hal.out.up (b := 10000) (by omega)) (hyl.out.up (b := 10000) (by decide)) (by decide))) (fun x42 => ?_)
             obtain ⟨⟨p43, l43, c43⟩, ⟨q43, m43, d43⟩⟩ := x42; dsimp only
             refine eP 2 0 [.bool (isN (accQ t sh7 i j - y)), .slice p43 l43 c43, .slice q43 m43 d43] ?_ (hq := .inr ⟨rfl, rfl, rfl, trivial⟩)
             refine sxEnd (fun W44 hK => ?_)
             have hyj := hid (show sh7.getD j 0 = y by rw [List.getD_eq_getElem?_getD, ey.out]; rfl)
             rw [show accQ t sh7 i j - y = accQ t sh7 i (j + 1) from (by rw [← hyj.out]; exact acc_h (by have q := hb8.out; simp at q; omega) (by have q := hb9.out; simp at q; omega))] at hK
             (try go_wp2)
             go_roundw
             case rel => exact ⟨j + 1, p43, l43, c43, q43, m43, d43, (by first | rfl | go_num), (by omega), ((hK.up2).subl (sK2 (sK2 (sC2 (sC2 sZ2)))))⟩
             case measure => simp [intOf] <;> omega
           · --
            go_upto_region 26 with (fail)
            refine wp_region_T [1, 1, 2, 4] hK ?_
            clear hK
            refine eL m1 ?_
            refine eL m0 ?_
            refine eC (fun w k => rat_S (qadd_any _ _ _ _ w (k.q m2) (y_r.below k.old) (hal.out.up (b := 10000) (by omega)) (hyl.out.up (b := 10000) (by decide)) (by decide))) (fun x45 => ?_)
            obtain ⟨⟨p46, l46, c46⟩, ⟨q46, m46, d46⟩⟩ := x45; dsimp only
            refine eP 2 0 [.bool (isN (accQ t sh7 i j + y)), .slice p46 l46 c46, .slice q46 m46 d46] ?_ (hq := .inr ⟨rfl, rfl, rfl, trivial⟩)
            refine sxEnd (fun W47 hK => ?_)
            go_upto_region 27 with (fail)
            refine wp_region_T [0, 0, 1, 0, 0] hK ?_
            clear hK
            refine eX0 (fun w k => hO12.below k.old) ?_
            refine e0 ?_
            refine eQ (fun w k => rhead_any w (ht.below k.old) j hl ht2 hj) ?_
            refine e0 ?_
            refine eB ((((hN t j : Nat) : Int)) == ((i : Int))) (fun b9 hb9 => ?_)
            refine sxEnd (fun W48 hK => ?_)
            cases b9
            · --
             have hyj := hid (show sh7.getD j 0 = y by rw [List.getD_eq_getElem?_getD, ey.out]; rfl)
             rw [show accQ t sh7 i j + y = accQ t sh7 i (j + 1) from (by rw [← hyj.out]; exact acc_t (by have q := hb8.out; simp at q; omega) (by have q := hb9.out; simp at q; omega))] at hK
             (try go_wp2)
             go_roundw
             case rel => exact ⟨j + 1, p46, l46, c46, q46, m46, d46, (by first | rfl | go_num), (by omega), ((hK.up2).subl (sK2 (sK2 (sC2 (sC2 sZ2)))))⟩
             case measure => simp [intOf] <;> omega
            · --
             exact absurd (by have qb8 := hb8.out; (try simp at qb8); have qb9 := hb9.out; (try simp at qb9); omega : tN t j = hN t j) htt.out
          · --
           have q_b7 : z1 < 0 := of_decide_eq_true hb7.out
           exact absurd (hz1.out ▸ of_decide_eq_true hb7.out) (sgQ_nn hyn.out)
     · --
      exact absurd hb4.out (by simp; omega)
    · --
     have hz := hid (shr_none hSP.out (by right; have q := hb3.out; simpa using q))
     go_upto_region 7 with (fail)
     refine wp_region_T [0, 0, 0] hK ?_
     clear hK
     iterate 3 refine e0 ?_
     refine sxEnd (fun W49 hK => ?_)
     go_wp2_with fail
     go_loopw [42] (fun s42 wl => ∃ (j : Nat), s42 = .int .i64 (j : Int) ∧ (j ≤ n7) ∧ SS W8 ([]) wl) (fun s42 _ => n7 - (intOf s42).toNat)
     case atStart => exact ⟨0, rfl, (by omega), hK⟩
     case round =>
      clear hK
      obtain ⟨j, rfl, hj0, hK⟩ := hrel
      generalize wr = W50 at hK ⊢
      go_upto_region 8 with (fail)
      refine wp_region_T [0] hK ?_
      clear hK
      refine eB (decide (((j : Int)) < ((n7 : Int)))) (fun b4 hb4 => ?_)
      refine sxEnd (fun W51 hK => ?_)
      cases b4
      · --
       have q_b4 : ((n7 : Int)) ≤ ((j : Int)) := Int.not_lt.1 (of_decide_eq_false hb4.out)
       go_wp2
       try go_ret
       show Q0 (.returned (.bool true)) _
       exact (by obtain rfl := hQ0.out; exact ⟨rfl, hB9.trans (hK.old.mono hB9.size)⟩)
      · --
       have q_b4 : ((j : Int)) < ((n7 : Int)) := of_decide_eq_true hb4.out
       have hj : j < n7 := (by omega)
       have i52 : j < n7 := hj
       obtain ⟨g52, o52, rfl⟩ := hO10.pt i52
       have l52 : j < sh7.length := Nat.lt_of_lt_of_eq i52 (hO10.one0)
       obtain ⟨y, ey⟩ : ∃ z0, RowKit.Hid (sh7[j]? = some z0) := ⟨_, hid (List.getElem?_eq_getElem l52)⟩
       obtain ⟨y_0, y_1, y_2, y_c, y_r⟩ := hO10.rat ey.out
       obtain ⟨rfl, ⟨y_p, y_n, y_d, rfl⟩, y_q, y_m, y_e, rfl⟩ := ratV_cells' y_r
       have hy0 := hid (show y = 0 by have q := hz.out j; rw [List.getD_eq_getElem?_getD, ey.out] at q; exact q)
       go_upto_region 9 with (fail)
       refine wp_region_T [0, 0, 3, 4] hK ?_
       clear hK
       refine e0 ?_
       refine eRm0 (F := fun w => C3 w g52 (o52 + j * 3) (.bool (isN y)) (.slice y_p y_n y_d) (.slice y_q y_m y_e)) (fun w k => y_c.below k.old) (h1 := by intro w' k; obtain ⟨_, c0, c1, c2⟩ := k; (try simp at c0 c1 c2); go_simp; (try go_bits); exact ⟨rfl, rfl⟩) ?_
       refine eA (.cells #[.bool false, .slice none 0 0, .slice none 0 0] 57) (fun R53 => ?_)
       refine eP 0 0 [.bool (isN y), .slice y_p y_n y_d, .slice y_q y_m y_e] ?_
       refine sxEnd (fun W54 hK => ?_)
       go_upto_region 10 with (fail)
       refine wp_region_T [1, 1, 0] hK ?_
       clear hK
       refine eL m0 ?_
       obtain ⟨z1, hz1⟩ : ∃ z9 : Int, RowKit.Hid (sgQ (y) = z9) := ⟨_, hid rfl⟩
       refine eQ (v := .int .i64 z1) (fun w k => sign_any _ _ w (y_r.below k.old)) ?_ (hv := by rw [hz1.out])
       refine eB (z1 != 0) (fun b5 hb5 => ?_)
       refine sxEnd (fun W55 hK => ?_)
       cases b5
       · --
        (try go_wp2)
        go_roundw
        case rel => exact ⟨j + 1, (by first | rfl | go_num), (by omega), (hK.subl (sC2 sZ2))⟩
        case measure => simp [intOf] <;> omega
       · --
        exact absurd hb5.out (by rw [← hz1.out, hy0.out, sgQ_0]; decide)
   · --
    iterate 5 refine eN ?_
    refine e0 ?_
    refine sxEnd (fun W56 hK => ?_)
    have hz := hid (shr_none hSP.out (by left; have q := hb2.out; simpa using q))
    go_upto_region 7 with (fail)
    refine wp_region_T [0, 0, 0] hK ?_
    clear hK
    iterate 3 refine e0 ?_
    refine sxEnd (fun W57 hK => ?_)
    go_wp2_with fail
    go_loopw [42] (fun s42 wl => ∃ (j : Nat), s42 = .int .i64 (j : Int) ∧ (j ≤ n7) ∧ SS W8 ([]) wl) (fun s42 _ => n7 - (intOf s42).toNat)
    case atStart => exact ⟨0, rfl, (by omega), hK⟩
    case round =>
     clear hK
     obtain ⟨j, rfl, hj0, hK⟩ := hrel
     generalize wr = W58 at hK ⊢
     go_upto_region 8 with (fail)
     refine wp_region_T [0] hK ?_
     clear hK
     refine eB (decide (((j : Int)) < ((n7 : Int)))) (fun b3 hb3 => ?_)
     refine sxEnd (fun W59 hK => ?_)
     cases b3
     · --
      have q_b3 : ((n7 : Int)) ≤ ((j : Int)) := Int.not_lt.1 (of_decide_eq_false hb3.out)
      go_wp2
      try go_ret
      show Q0 (.returned (.bool true)) _
      exact (by obtain rfl := hQ0.out; exact ⟨rfl, hB9.trans (hK.old.mono hB9.size)⟩)
     · --
      have q_b3 : ((j : Int)) < ((n7 : Int)) := of_decide_eq_true hb3.out
      have hj : j < n7 := (by omega)
      have i60 : j < n7 := hj
      obtain ⟨g60, o60, rfl⟩ := hO10.pt i60
      have l60 : j < sh7.length := Nat.lt_of_lt_of_eq i60 (hO10.one0)
      obtain ⟨y, ey⟩ : ∃ z0, RowKit.Hid (sh7[j]? = some z0) := ⟨_, hid (List.getElem?_eq_getElem l60)⟩
      obtain ⟨y_0, y_1, y_2, y_c, y_r⟩ := hO10.rat ey.out
      obtain ⟨rfl, ⟨y_p, y_n, y_d, rfl⟩, y_q, y_m, y_e, rfl⟩ := ratV_cells' y_r
      have hy0 := hid (show y = 0 by have q := hz.out j; rw [List.getD_eq_getElem?_getD, ey.out] at q; exact q)
      go_upto_region 9 with (fail)
      refine wp_region_T [0, 0, 3, 4] hK ?_
      clear hK
      refine e0 ?_
      refine eRm0 (F := fun w => C3 w g60 (o60 + j * 3) (.bool (isN y)) (.slice y_p y_n y_d) (.slice y_q y_m y_e)) (fun w k => y_c.below k.old) (h1 := by intro w' k; obtain ⟨_, c0, c1, c2⟩ := k; (try simp at c0 c1 c2); go_simp; (try go_bits); exact ⟨rfl, rfl⟩) ?_
      refine eA (.cells #[.bool false, .slice none 0 0, .slice none 0 0] 57) (fun R61 => ?_)
      refine eP 0 0 [.bool (isN y), .slice y_p y_n y_d, .slice y_q y_m y_e] ?_
      refine sxEnd (fun W62 hK => ?_)
      go_upto_region 10 with (fail)
      refine wp_region_T [1, 1, 0] hK ?_
      clear hK
      refine eL m0 ?_
      obtain ⟨z1, hz1⟩ : ∃ z9 : Int, RowKit.Hid (sgQ (y) = z9) := ⟨_, hid rfl⟩
      refine eQ (v := .int .i64 z1) (fun w k => sign_any _ _ w (y_r.below k.old)) ?_ (hv := by rw [hz1.out])
      refine eB (z1 != 0) (fun b4 hb4 => ?_)
      refine sxEnd (fun W63 hK => ?_)
      cases b4
      · --
       (try go_wp2)
       go_roundw
       case rel => exact ⟨j + 1, (by first | rfl | go_num), (by omega), (hK.subl (sC2 sZ2))⟩
       case measure => simp [intOf] <;> omega
      · --
       exact absurd hb4.out (by rw [← hz1.out, hy0.out, sgQ_0]; decide)
  · --
   go_wp2
   try go_ret
   show Q0 (.returned (.bool true)) _
   exact (by obtain rfl := hQ0.out; exact ⟨rfl, hK.old⟩)
end Go.Proofs.YtokhapaffleffaaGreat
