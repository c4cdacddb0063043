/- The order of nodes: the program and the reference. -/
import Derived.Test.YtokhapaffleffaaDsS
import Derived.Test.YtokhapaffleffaaDsQ
namespace Go.Proofs.Ytokhapaffleffaa
open Go.RowKit
open Go.Lib (decDigits)
noncomputable def ordR (t : TopD) (down : List Bool) (d : Int) : List Nat := if chkD t down [d] = 0 then ordD (dstD t down d.toNat) else []
set_option maxRecDepth 100000 in
set_option maxHeartbeats 1000000 in
theorem order_any (w : World) {v_t : Value} {t : TopD} (ht : TopV w v_t t) {p_d : Option Addr} {n_d c_d : Nat} {down : List Bool} (hd : SlV boolK w (.slice p_d n_d c_d) down) (d : Int) (hl : t.links.length ≤ 100000) :
    Calls Try.prog 9 #[v_t, .slice p_d n_d c_d, .int .i64 d] w fun e w' => ∃ x : Sl, e = .returned (.tuple #[.slice x.p x.l x.c, .int .i64 (chkD t down [d])]) ∧ SS w [rO intK 3 x.p x.l x.c (natI (ordR t down d)), cF (chkD t down [d] = 0 → IsDst t down d.toNat (dstD t down d.toNat) ∧ IsOrd (nN t) (dstD t down d.toNat) (ordD (dstD t down d.toNat)))] w' := by
  have ht_0 := ht
  obtain ⟨p_t, n_t, c_t, q_t, m_t, d_t, rfl, ht_1, ht_2⟩ := ht_0; have b_t : m_t ≤ 100000 := (by rw [ht_2.one0]; exact hl); have a_t : arcsD t ≤ 200000 := (by unfold arcsD; omega)
  have hK := SS.start w
  refine Calls.hide (fun Q0 hQ0 => ?_)
  go_enter Try.func9, Try.ntmps9
  go_upto_region 0 with (fail)
  refine wp_region_T [3, 0, 0] hK ?_
  clear hK
  refine eA (.cells #[.int .i64 t.nodes, .slice p_t n_t c_t, .slice q_t m_t d_t] 25) (fun R1 => ?_)
  iterate 2 refine e0 ?_
  refine sxEnd (fun W2 hK => ?_)
  go_upto_region 1 with (fail)
  refine wp_region_T [1, 0, 0, 2, 0, 0, 0, 0, 0] hK ?_
  clear hK
  refine eL m0 ?_
  iterate 2 refine e0 ?_
  refine eC (fun w k => dist_any w (ht.below k.old) (hd.below k.old) d hl) (fun x3 => ?_)
  obtain ⟨p4, n4, c4⟩ := x3; dsimp only
  iterate 5 refine e0 ?_
  refine sxEnd (fun W5 hK => ?_)
  go_upto_region 2 with (fail)
  refine wp_region_T [0, 0] hK ?_
  clear hK
  refine e0 ?_
  refine eB (((chkD t down [d])) != 0) (fun b1 hb1 => ?_)
  refine sxEnd (fun W6 hK => ?_)
  cases b1
  · --
   have hc := hid (show chkD t down [d] = 0 by have q := hb1.out; simpa using q); have hI0 := hid (hK.get m1 hc.out)
   replace hK := hK.subl (sK2 (sC2 (List.Sublist.refl _)))
   have hok := hid (chk_ok hc.out); obtain ⟨d1, rfl⟩ : ∃ k : Nat, d = (k : Int) := ⟨d.toNat, (Int.toNat_of_nonneg hok.out.2.2.1).symm⟩; have ht2 := hok.out.1; have hnn := hid (topN ht2); have hnm : nN t ≤ 64 := hnn.out.2.2.1; have hnz := hnn.out.1; have hI : RowKit.Hid (IsDst t down d1 (dstD t down d1)) := hI0; clear hI0; have hd1 : d1 < nN t := (by have q := hok.out.2.2.2; omega)
   rw [show dstR t down d1 = dstD t down d1 from dstR_ok hc.out] at hK
   go_upto_region 4 with (fail)
   refine wp_region_T [0, 2, 0, 0] hK ?_
   clear hK
   refine e0 ?_
   refine eC (fun w k => sorted_any w (k.slv m0) (by rw [hI.out.1]; omega) (by rw [hI.out.1]; omega)) (fun x7 => ?_)
   obtain ⟨p8, n8, c8⟩ := x7; dsimp only
   iterate 2 refine e0 ?_
   refine sxEnd (fun W9 hK => ?_)
   have hio := hid (hK.get m1)
   go_wp2
   try go_ret
   show Q0 (.returned (.tuple #[.slice p8 n8 c8, .int .i64 0])) _
   exact (by obtain rfl := hQ0.out; have hX := hc.out; have hq := (by have q := hio.out; rw [hI.out.1] at q; exact q : IsOrd (nN t) (dstD t down d1) (ordD (dstD t down d1))); rw [show ordR t down d1 = ordD (dstD t down d1) from if_pos hX, show Ending.returned (.tuple #[.slice p8 n8 c8, .int .i64 0]) = .returned (.tuple #[.slice p8 n8 c8, .int .i64 (chkD t down [(d1 : Int)])]) from by rw [hX]]; exact ⟨⟨p8, n8, c8⟩, rfl, ((hK.subl (sK2 (sC2 (sC2 (sC2 sZ2))))).fact (cF _) (fun _ => ⟨hI.out, hq⟩)).up1⟩)
  · --
   replace hK := hK.fact (rO intK 3 none 0 0 ([] : List Int)) OwV.nil (fun _ h => by cases h)
   have hX : chkD t down [d] ≠ 0 := by have q := hb1.out; simpa using q
   go_wp2
   try go_ret
   show Q0 (.returned (.tuple #[.slice none 0 0, .int .i64 (chkD t down [d])])) _
   exact (by obtain rfl := hQ0.out; rw [show ordR t down d = [] from if_neg hX]; exact ⟨⟨none, 0, 0⟩, rfl, ((hK.subl (sK2 (sC2 (sC2 (sC2 sZ2))))).fact (cF _) (fun e => absurd e hX)).up1⟩)
end Go.Proofs.Ytokhapaffleffaa
