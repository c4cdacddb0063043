/- Distances. -/
import Derived.Laws.EntriesVeiled
import Derived.Test.YtmcfomainmppdaaGreatDoorFDsG
namespace Go.Proofs.YtmcfomainmppdaaGreatDoor
open Go.RowKit
open Go.Lib (decDigits)
theorem chk_ok {t : TopD} {down : List Bool} {d : Int} (h : chkD t down [d] = 0) : topOk t = true ∧ (down.length = 0 ∨ down.length = arcsD t) ∧ 0 ≤ d ∧ d < t.nodes := by
  unfold chkD fitsD at h
  split at h
  · rename_i h1
    split at h
    · rename_i h2
      rw [Bool.and_eq_true] at h1
      simp at h2
      exact ⟨h1.1, of_decide_eq_true h1.2, h2.1, h2.2⟩
    · cases h
  · cases h
noncomputable def dstR (t : TopD) (down : List Bool) (d : Int) : List Int := if chkD t down [d] = 0 then dstD t down d.toNat else []
theorem dstR_ok {t : TopD} {down : List Bool} {n : Nat} (h : chkD t down [(n : Int)] = 0) : dstR t down n = dstD t down n := by unfold dstR; rw [if_pos h]; rfl
theorem dstR_no {t : TopD} {down : List Bool} {d : Int} (h : chkD t down [d] ≠ 0) : dstR t down d = [] := if_neg h
set_option maxRecDepth 100000 in
set_option maxHeartbeats 1000000 in
theorem dist_any (w : World) {v_t : Value} {t : TopD} (ht : TopV w v_t t) {p_d : Option Addr} {n_d c_d : Nat} {down : List Bool} (hd : SlV boolK w (.slice p_d n_d c_d) down) (d : Int) (hl : t.links.length ≤ 100000) :
    Calls Tryz.prog 71 #[v_t, .slice p_d n_d c_d, .int .i64 d] w fun e w' => ∃ x : Sl, e = .returned (.tuple #[.slice x.p x.l x.c, .int .i64 (chkD t down [d])]) ∧ SS w [rO intK 3 x.p x.l x.c (dstR t down d), cF (chkD t down [d] = 0 → IsDst t down d.toNat (dstD t down d.toNat))] w' := by
  have ht_0 := ht
  obtain ⟨p_t, n_t, c_t, q_t, m_t, d_t, rfl, ht_1, ht_2⟩ := ht_0; have b_t : m_t ≤ 100000 := (by rw [ht_2.one0]; exact hl); have a_t : arcsD t ≤ 200000 := (by unfold arcsD; omega)
  have hK := SS.start w
  refine Calls.hide (fun Q0 hQ0 => ?_)
  go_enter Tryz.func71, Tryz.ntmps71
  go_upto_region 0 with (fail)
  refine wp_region_T [3, 0, 0] hK ?_
  clear hK
  refine eA (.cells #[.int .i64 t.nodes, .slice p_t n_t c_t, .slice q_t m_t d_t] 25) (fun R1 => ?_)
  iterate 2 refine e0 ?_
  refine sxEnd (fun W2 hK => ?_)
  go_upto_region 1 with (fail)
  refine wp_region_T [1, 0, 0, 3, 1, 0] hK ?_
  clear hK
  refine eL m0 ?_
  iterate 2 refine e0 ?_
  refine eA (.cells #[.int .i64 d] 3) (fun R3 => ?_)
  refine eQ (fun w k => check_any w (ht.below k.old) (hd.below k.old) (slBox1 (K := intK) (k.box m0) rfl) hl (by simp)) ?_
  refine e0 ?_
  refine sxEnd (fun W4 hK => ?_)
  go_upto_region 2 with (fail)
  refine wp_region_T [0, 0] hK ?_
  clear hK
  refine e0 ?_
  refine eB (((chkD t down ([d]))) != 0) (fun b1 hb1 => ?_)
  refine sxEnd (fun W5 hK => ?_)
  cases b1
  · --
   have hc := hid (show chkD t down [d] = 0 by have q := hb1.out; simpa using q); have hok := hid (chk_ok hc.out); obtain ⟨d1, rfl⟩ : ∃ n : Nat, d = (n : Int) := ⟨d.toNat, (Int.toNat_of_nonneg hok.out.2.2.1).symm⟩; have hr : d1 < nN t := (by have q := hok.out.2.2.2; rw [(topN hok.out.1).1] at q; omega); have ht2 := hok.out.1
   go_upto_region 4 with (fail)
   refine wp_region_T [1, 2, 3, 4] hK ?_
   clear hK
   refine eL m1 ?_
   refine eC (fun w k => entering_any w (ht.below k.old) hl ht2) (fun x6 => ?_)
   obtain ⟨⟨p7, n7, c7⟩, ss7⟩ := x6; dsimp only
   refine eA (.cells #[.slice none 0 0] 141) (fun R8 => ?_)
   refine eP 0 0 [.slice p7 n7 c7] ?_
   refine sxEnd (fun W9 hK => ?_)
   go_upto_region 5 with (fail)
   refine wp_region_T [1, 0, 0, 0, 0, 0, 3, 4] hK ?_
   clear hK
   refine eL m3 ?_
   iterate 5 refine e0 ?_
   refine eA (.cells #[.int .i64 0, .slice none 0 0, .slice none 0 0, .slice none 0 0, .int .i64 0, .nilFunc, .nilFunc] 146) (fun R10 => ?_)
   refine eP 0 0 [.int .i64 t.nodes, .slice p_t n_t c_t, .slice q_t m_t d_t, .slice p_d n_d c_d, .int .i64 (d1 : Int), .func (.func 105) #[] #[.pointer (some ⟨R8, 0, none⟩)], .func (.func 106) #[] #[.pointer (some ⟨R1, 0, none⟩)]] ?_
   refine sxEnd (fun W11 hK => ?_)
   go_upto_region 6 with (fail)
   refine wp_region_T [1, 2, 0, 0] hK ?_
   clear hK
   refine eL m0 ?_
   refine eC (fun w k => run_any w (ht_1.below k.old) (ht_2.below k.old) (hd.below k.old) (hid hok.out.2.1) hl hok.out.1 hr (k.box m4) (k.box m1) (k.fam m2)) (fun x12 => ?_)
   obtain ⟨p13, n13, c13⟩ := x12; dsimp only
   iterate 2 refine e0 ?_
   refine sxEnd (fun W14 hK => ?_)
   have hI : IsDst t down d1 (dstD t down d1) := hK.get m1
   replace hK := hK.subl (sK2 (sC2 (sC2 (sC2 (sC2 (sC2 (sC2 sZ2)))))))
   rw [← dstR_ok hc.out] at hK
   go_wp2
   try go_ret
   show Q0 (.returned (.tuple #[.slice p13 n13 c13, .int .i64 0])) _
   exact (by obtain rfl := hQ0.out; have hc2 := hc.out; rw [show Ending.returned (.tuple #[.slice p13 n13 c13, .int .i64 0]) = .returned (.tuple #[.slice p13 n13 c13, .int .i64 (chkD t down [(d1 : Int)])]) from by rw [hc2]]; exact ⟨⟨p13, n13, c13⟩, rfl, ((hK.subl (List.Sublist.refl _)).fact (cF _) (fun _ => hI)).up1⟩)
  · --
   have hc := hid (show chkD t down [d] ≠ 0 by have q := hb1.out; simpa using q)
   replace hK := hK.fact (rO intK 3 none 0 0 ([] : List Int)) OwV.nil (fun _ h => by cases h)
   rw [← dstR_no hc.out] at hK
   go_wp2
   try go_ret
   show Q0 (.returned (.tuple #[.slice none 0 0, .int .i64 (chkD t down ([d]))])) _
   exact (by obtain rfl := hQ0.out; exact ⟨⟨none, 0, 0⟩, rfl, ((hK.subl (sK2 (sC2 (sC2 sZ2)))).fact (cF _) (fun e => absurd e hc.out)).up1⟩)
end Go.Proofs.YtmcfomainmppdaaGreatDoor
