/- Shortest paths of first next arcs. Paths after a failure; paths that are up. -/
import Derived.Test.YtmcfomainmppdaaGreatDoorFWhC
import Derived.Test.YtmcfomainmppdaaGreatDoorFDagL
import Derived.Test.YtmcfomainmppdaaGreatDoorFDsK
namespace Go.Proofs.YtmcfomainmppdaaGreatDoor
open Go.RowKit
open Go.Lib (decDigits)
section
variable {w : World}
theorem litEls (xs : List Int) : Els intK w (xs.map fun x => [.int .i64 x]) xs := ⟨by simp, fun k cs x h1 h2 => by
  rw [List.getElem?_map, h2] at h1
  cases h1; rfl⟩
theorem litV {R : Nat} {ty : TypeId} {vs : List Value} (xs : List Int) (h : Has 0 R (.cells vs.toArray ty) w) (e : vs = xs.map fun x => .int .i64 x) (hl : xs.length ≤ 9223372036854775807) : SlV intK w (.slice (some ⟨R, 0, none⟩) xs.length xs.length) xs := by
  refine ⟨_, litEls xs, .inr ⟨R, 0, _, rfl, h.ltS, Nat.le_refl _, hl, fun k cs j u c1 c2 => ?_⟩⟩
  rw [List.getElem?_map] at c1
  cases hx : xs[k]? with
  | none => rw [hx] at c1; cases c1
  | some x =>
    rw [hx] at c1
    cases c1
    cases j with
    | succ j => simp at c2
    | zero =>
      simp at c2
      subst c2
      rw [show 0 + k * intK.sz + 0 = k by show 0 + k * 1 + 0 = k; omega]
      exact h.at k (by rw [e, List.getElem?_map, hx]; rfl)
theorem slBox2 {R : Nat} {ty : TypeId} {x y : Int} (h : Has 0 R (.cells #[.int .i64 x, .int .i64 y] ty) w) : SlV intK w (.slice (some ⟨R, 0, none⟩) 2 2) [x, y] := litV [x, y] h rfl (by simp)
end
section
variable {t : TopD} {down : List Bool} {a y d1 s1 j : Nat} {l : List Int} {p : List Nat}
theorem chk_of (ht : topOk t = true) (h : down.length = 0 ∨ down.length = arcsD t) (hd : d1 < nN t) : chkD t down [((d1 : Nat) : Int)] = 0 := by
  refine chkD_ok ht (decide_eq_true h) ?_
  have := (topN ht).1
  simp; omega
theorem chk_of2 (ht : topOk t = true) (h : down.length = 0 ∨ down.length = arcsD t) (hs : s1 < nN t) (hd : d1 < nN t) : chkD t down [((s1 : Nat) : Int), ((d1 : Nat) : Int)] = 0 := by
  have h1 : decide (down.length = 0 ∨ down.length = 2 * t.links.length) = true := decide_eq_true h
  have := (topN ht).1
  unfold chkD fitsD
  rw [ht, h1]
  simp only [List.all_cons, List.all_nil, Bool.and_true, Bool.true_and]
  rw [if_pos trivial, if_pos]
  simp; omega
theorem out_len9 (t : TopD) (n : Nat) : (outD t n).length ≤ arcsD t := by unfold outD; exact Nat.le_trans (List.length_filter_le _ _) (by simp)
theorem out_mem (h : a ∈ outD t y) : a < arcsD t ∧ tN t a = y := by
  unfold outD at h
  obtain ⟨h1, h2⟩ := List.mem_filter.1 h
  exact ⟨List.mem_range.1 h1, of_decide_eq_true h2⟩
theorem nxt_out (h : a ∈ nxtD t down l y d1) : a ∈ outD t y := by
  obtain ⟨h1, h2, _⟩ := mem_nxt.1 h
  unfold outD; exact List.mem_filter.2 ⟨List.mem_range.2 h1, decide_eq_true h2⟩
theorem no_up (h : (!upD down a) = true) : a ∉ nxtD t down l y d1 := fun q => by
  have := (on_iff.1 (mem_nxt.1 q).2.2).1
  rw [this] at h; cases h
theorem no_neg (h : atD l (hN t a) < 0) : a ∉ nxtD t down l y d1 := fun q => by
  have := (on_iff.1 (mem_nxt.1 q).2.2).2.2.1
  omega
theorem no_ov (h : hN t a ≠ d1) (ho : ovD t (hN t a) = true) : a ∉ nxtD t down l y d1 := fun q => by
  have := (on_iff.1 (mem_nxt.1 q).2.2).2.2.2.1
  unfold trD at this
  rw [ho, decide_eq_false h] at this; cases this
theorem no_eq (h : ¬ atD l (hN t a) + (cN t a : Int) = atD l (tN t a)) : a ∉ nxtD t down l y d1 := fun q => h (on_iff.1 (mem_nxt.1 q).2.2).2.2.2.2.symm
theorem nxt_fst (hj : (outD t y)[j]? = some a) (ha : a ∈ nxtD t down l y d1) (hno : ∀ b, b < j → ∀ x, (outD t y)[b]? = some x → x ∉ nxtD t down l y d1) : ∃ r, nxtD t down l y d1 = a :: r := by
  have hs : (nxtD t down l y d1).Pairwise (· < ·) := List.Pairwise.filter _ List.pairwise_lt_range
  have ho : (outD t y).Pairwise (· < ·) := List.Pairwise.filter _ List.pairwise_lt_range
  cases hn : nxtD t down l y d1 with
  | nil => rw [hn] at ha; cases ha
  | cons c r =>
    rw [hn] at ha hs
    have hc : c ∈ nxtD t down l y d1 := by rw [hn]; exact List.mem_cons_self ..
    rcases List.mem_cons.1 ha with e | e
    · exact ⟨r, by rw [e]⟩
    · have hlt := List.rel_of_pairwise_cons hs e
      obtain ⟨i, hi⟩ := List.mem_iff_getElem?.1 (nxt_out hc)
      refine absurd hc (hno i ?_ c hi)
      obtain ⟨h1, h2⟩ := List.getElem?_eq_some_iff.1 hi
      obtain ⟨h3, h4⟩ := List.getElem?_eq_some_iff.1 hj
      rcases Nat.lt_trichotomy i j with q | q | q
      · exact q
      · subst q; rw [h4] at h2; omega
      · have := List.pairwise_iff_getElem.1 ho j i h3 h1 q
        omega
noncomputable def chkT (t : TopD) (down : List Bool) (s d : Nat) : Int := if atD (dstD t down d) s < 0 then 11 else 0
noncomputable def pthT (t : TopD) (down : List Bool) (s d : Nat) : List Nat := if chkT t down s d = 0 then Classical.epsilon (fun p => FstP t down (dstD t down d) d s p d) else []
theorem pth_eqT (h0 : chkT t down s1 d1 = 0) (h : FstP t down (dstD t down d1) d1 s1 p d1) : p = pthT t down s1 d1 := by
  unfold pthT
  rw [if_pos h0]
  exact h.eq (Classical.epsilon_spec (p := fun p => FstP t down (dstD t down d1) d1 s1 p d1) ⟨p, h⟩)
theorem ss_trans {V W w : World} {l : List Ft} (h : Below V.heap.size V W) (k : SS W l w) : SS V l w :=
  ⟨h.trans (k.old.mono h.size), k.has, fun f hf g hg => Nat.le_trans h.size (k.lo f hf g hg), k.ap⟩
end
theorem dist_ok (w : World) {v_t : Value} {t : TopD} (ht : TopV w v_t t) {p_d : Option Addr} {n_d c_d : Nat} {down : List Bool} (hd : SlV boolK w (.slice p_d n_d c_d) down) (d : Nat) (hl : t.links.length ≤ 100000) (hc : chkD t down [(d : Int)] = 0) :
    Calls Tryz.prog 71 #[v_t, .slice p_d n_d c_d, .int .i64 (d : Int)] w fun e w' => ∃ x : Sl, e = .returned (.tuple #[.slice x.p x.l x.c, .int .i64 0]) ∧ SS w [rO intK 3 x.p x.l x.c (dstD t down d), cF (IsDst t down d (dstD t down d))] w' := by
  refine (dist_any w ht hd (d : Int) hl).mono ?_
  rintro e w' ⟨x, rfl, h⟩
  rw [hc]
  rw [dstR_ok hc] at h
  have h2 : SS w (cF (chkD t down [(d : Int)] = 0 → IsDst t down (d : Int).toNat (dstD t down (d : Int).toNat)) :: [rO intK 3 x.p x.l x.c (dstD t down d)]) w' := h.up1
  exact ⟨x, rfl, ((h.subl (sK2 (sC2 sZ2))).fact (cF (IsDst t down d (dstD t down d))) (h.get m1 hc)).up1⟩
set_option maxRecDepth 100000 in
set_option maxHeartbeats 2000000 in
theorem spath_any (w : World) {v_t : Value} {t : TopD} (ht : TopV w v_t t) {p_d : Option Addr} {n_d c_d : Nat} {down : List Bool} (hd : SlV boolK w (.slice p_d n_d c_d) down) (s1 : Nat) (d1 : Nat) (hl : t.links.length ≤ 100000) (ht2 : topOk t = true) (hdl : RowKit.Hid (down.length = 0 ∨ down.length = arcsD t)) (hs1 : s1 < nN t) (hd1 : d1 < nN t) :
    Calls Tryz.prog 153 #[v_t, .slice p_d n_d c_d, .int .i64 (s1 : Int), .int .i64 (d1 : Int)] w fun e w' => ∃ x : Sl, e = .returned (.tuple #[.slice x.p x.l x.c, .int .i64 (chkT t down s1 d1)]) ∧ SS w [rO intK 3 x.p x.l x.c (natI (pthT t down s1 d1)), cF (chkT t down s1 d1 = 0 → FstP t down (dstD t down d1) d1 s1 (pthT t down s1 d1) d1)] w' := by
  have ht_0 := ht
  obtain ⟨p_t, n_t, c_t, q_t, m_t, d_t, rfl, ht_1, ht_2⟩ := ht_0; have b_t : m_t ≤ 100000 := (by rw [ht_2.one0]; exact hl); have a_t : arcsD t ≤ 200000 := (by unfold arcsD; omega)
  have hK := SS.start w
  have hnn := hid (topN ht2); have hnt := hnn.out.1; have hnm := hnn.out.2.2.1; replace hnt := hid hnt; have hc0 := hid (show chkD t down [((d1 : Nat) : Int)] = 0 from chk_of ht2 hdl.out hd1); have hck := chk_of2 ht2 hdl.out hs1 hd1
  refine Calls.hide (fun Q0 hQ0 => ?_)
  go_enter Tryz.func153, Tryz.ntmps153
  go_upto_region 0 with (fail)
  refine wp_region_T [3, 0, 0] hK ?_
  clear hK
  refine eA (.cells #[.int .i64 t.nodes, .slice p_t n_t c_t, .slice q_t m_t d_t] 25) (fun R1 => ?_)
  iterate 2 refine e0 ?_
  refine sxEnd (fun W2 hK => ?_)
  go_upto_region 1 with (fail)
  refine wp_region_T [1, 0, 0, 0, 3, 1, 0] hK ?_
  clear hK
  refine eL m0 ?_
  iterate 3 refine e0 ?_
  refine eA (.cells #[.int .i64 (s1 : Int), .int .i64 (d1 : Int)] 3) (fun R3 => ?_)
  refine eQ (fun w k => (check_any w (ht.below k.old) (hd.below k.old) (slBox2 (k.box m0)) hl (by simp)).mono fun _ _ q => by rw [hck] at q; exact q) ?_
  refine e0 ?_
  refine sxEnd (fun W4 hK => ?_)
  go_upto_region 2 with (fail)
  refine wp_region_T [0, 0] hK ?_
  clear hK
  iterate 2 refine e0 ?_
  refine sxEnd (fun W5 hK => ?_)
  go_upto_region 4 with (fail)
  refine wp_region_T [1, 0, 0, 2, 0, 0, 0, 0, 0] hK ?_
  clear hK
  refine eL m1 ?_
  iterate 2 refine e0 ?_
  refine eC (fun w k => dist_ok w (ht.below k.old) (hd.below k.old) d1 hl hc0.out) (fun x6 => ?_)
  obtain ⟨p7, n7, c7⟩ := x6; dsimp only
  iterate 5 refine e0 ?_
  refine sxEnd (fun W8 hK => ?_)
  have hI : RowKit.Hid (IsDst t down d1 (dstD t down d1)) := hid (hK.get m1)
  replace hK := hK.subl (sK2 (sC2 (List.Sublist.refl _)))
  have hDn := hid ((hK.len m0).trans hI.out.1); have hDn1 := Nat.le_of_eq hDn.out.symm; have hDn2 := Nat.le_of_eq hDn.out; have hsm := hid (hI.out.small ht2)
  have i9 : s1 < n7 := (by omega)
  obtain ⟨g9, rfl⟩ := hK.pt m0 i9
  have l9 : s1 < (dstD t down d1).length := Nat.lt_of_lt_of_eq i9 (hK.len m0)
  obtain ⟨dn, edn⟩ : ∃ z0, RowKit.Hid ((dstD t down d1)[s1]? = some z0) := ⟨_, hid (List.getElem?_eq_getElem l9)⟩
  go_upto_region 5 with (fail)
  refine wp_region_T [0, 0, 0, 1, 0] hK ?_
  clear hK
  iterate 3 refine e0 ?_
  refine eR (fun w k => (k.own m0).int edn.out) ?_
  refine eB (decide (dn < 0)) (fun b1 hb1 => ?_)
  refine sxEnd (fun W10 hK => ?_)
  cases b1
  · --
   have q_b1 : 0 ≤ dn := Int.not_lt.1 (of_decide_eq_false hb1.out)
   go_upto_region 7 with (fail)
   refine wp_region_T [1, 2, 0] hK ?_
   clear hK
   refine eL m2 ?_
   refine eC (fun w k => leaving_any w (ht.below k.old) hl ht2) (fun x11 => ?_)
   obtain ⟨⟨ap, an, ac⟩, ss⟩ := x11; dsimp only
   refine e0 ?_
   refine sxEnd (fun W13 hK => ?_)
   have hF := hK.fam m0; have hFl : an = nN t := (by rw [hF.out.len, hF.len, lvD_len]); have hFl1 := Nat.le_of_eq hFl; have hFl2 := Nat.le_of_eq hFl.symm; clear hFl; have hFs := hF.out.slv; have hD9 := hK.slv m1
   have hO15 := hK.box m2
   have hO16 := hK.box m3
   have hB14 := hK.old
   have hKo := hK.old; clear hK; have hK := SS.start W13
   replace ht := ht.below hKo
   replace ht_1 := ht_1.below hKo
   replace ht_2 := ht_2.below hKo
   replace hd := hd.below hKo
   clear hKo
   replace hK := hK.fact (rO intK 3 none 0 0 (natI [])) OwV.nil (fun _ h => by cases h)
   go_wp2_with fail
   go_loopg [15, 14] ((atD (dstD t down d1) s1).toNat) (fun gk0 s15 s14 wl => ∃ (y : Nat) (p : List Nat) (pp : Option Addr) (np : Nat) (cp : Nat), s15 = .int .i64 (y : Int) ∧ s14 = .slice pp np cp ∧ (y < nN t) ∧ RowKit.Hid (0 ≤ atD (dstD t down d1) y) ∧ RowKit.Hid (FstP t down (dstD t down d1) d1 s1 p y) ∧ RowKit.Hid (gk0 = (atD (dstD t down d1) y).toNat) ∧ SS W13 ([rO intK 3 pp np cp (natI p)]) wl)
   case atStart => exact ⟨s1, [], none, 0, 0, rfl, rfl, hs1, hid (by rw [atD_of edn.out]; omega), hid rfl, hid rfl, hK⟩
   case round =>
    clear hK
    obtain ⟨y, p, pp, np, cp, rfl, rfl, hy, h_y0, h_F, hgk17, hK⟩ := hrel
    generalize wr = W18 at hK ⊢
    go_upto_region 10 with (fail)
    refine wp_region_T [0, 0, 0] hK ?_
    clear hK
    iterate 2 refine e0 ?_
    refine eB (((y : Int)) != ((d1 : Int))) (fun b2 hb2 => ?_)
    refine sxEnd (fun W19 hK => ?_)
    cases b2
    · --
     have hX : chkT t down s1 d1 = 0 := if_neg (by rw [atD_of edn.out]; omega); obtain rfl : y = d1 := (by have qb1 := hb1.out; (try simp at qb1); have qb2 := hb2.out; (try simp at qb2); omega); have hpe : p = pthT t down s1 y := pth_eqT hX h_F.out; have hFF := h_F.out
     go_wp2
     try go_ret
     show Q0 (.returned (.tuple #[.slice pp np cp, .int .i64 0])) _
     exact (by obtain rfl := hQ0.out; rw [hpe] at hK hFF; rw [show Ending.returned (.tuple #[.slice pp np cp, .int .i64 0]) = .returned (.tuple #[.slice pp np cp, .int .i64 (chkT t down s1 y)]) from by rw [hX]]; exact ⟨⟨pp, np, cp⟩, rfl, ss_trans hB14 (hK.fact (cF (chkT t down s1 y = 0 → FstP t down (dstD t down y) y s1 (pthT t down s1 y) y)) (fun _ => hFF)).up1⟩)
    · --
     have hyd : y ≠ d1 := (by have qb1 := hb1.out; (try simp at qb1); have qb2 := hb2.out; (try simp at qb2); omega)
     have i20 : y < an := (by omega)
     obtain ⟨g20, o20, rfl⟩ := hFs.pt i20
     have l20 : y < ss.length := Nat.lt_of_lt_of_eq i20 (hFs.one0)
     obtain ⟨s, es⟩ : ∃ z0, RowKit.Hid (ss[y]? = some z0) := ⟨_, hid (List.getElem?_eq_getElem l20)⟩
     obtain ⟨s_p, s_l, s_c⟩ := s
     obtain rfl := hF.out.off rfl
     have hsl := hF.slv (Nat.ne_of_lt (show y < ss.length by have q := hF.out.len; omega)) es.out (lvD_at (tN t) hy); have hsl1 := Nat.le_of_eq (hsl.one0.trans (natI_len _)); have hsl2 := Nat.le_of_eq (hsl.one0.trans (natI_len _)).symm; have hse : selD (fun a => decide (tN t a = y)) (arcsD t) = outD t y := rfl; rw [hse] at hsl hsl1 hsl2; clear hse; have hsl3 := out_len9 t y
     go_upto_region 11 with (fail)
     refine wp_region_T [0, 0, 0, 0, 0, 0] hK ?_
     clear hK
     iterate 3 refine e0 ?_
     refine eR0 (fun w k => (hF.below k.old).out.slc es.out) ?_
     iterate 2 refine e0 ?_
     refine sxEnd (fun W21 hK => ?_)
     go_wp2_with fail
     go_loopw [51, 15, 14] (fun s51 s15 s14 wl => ∃ (j : Nat), s51 = .int .i64 (j : Int) ∧ s15 = .int .i64 (y : Int) ∧ s14 = .slice pp np cp ∧ (j ≤ s_l) ∧ RowKit.Hid (∀ b, b < j → ∀ x, (outD t y)[b]? = some x → x ∉ nxtD t down (dstD t down d1) y d1) ∧ SS W13 ([rO intK 3 pp np cp (natI p)]) wl) (fun s51 s15 s14 _ => s_l - (intOf s51).toNat)
     case atStart => exact ⟨0, rfl, rfl, rfl, (by omega), hid (fun b hb => absurd hb (Nat.not_lt_zero _)), hK⟩
     case round =>
      clear hK
      obtain ⟨j, rfl, rfl, rfl, hj0, h_no, hK⟩ := hrel
      generalize wr = W22 at hK ⊢
      go_upto_region 12 with (fail)
      refine wp_region_T [0] hK ?_
      clear hK
      refine eB (decide (((j : Int)) < ((s_l : Int)))) (fun b3 hb3 => ?_)
      refine sxEnd (fun W23 hK => ?_)
      cases b3
      · --
       have q_b3 : ((s_l : Int)) ≤ ((j : Int)) := Int.not_lt.1 (of_decide_eq_false hb3.out)
       exact absurd (nxt_some hI.out hyd h_y0.out) (fun ⟨a, ha⟩ => by { obtain ⟨i, hi⟩ := List.mem_iff_getElem?.1 (nxt_out ha); exact h_no.out i (by have q := (List.getElem?_eq_some_iff.1 hi).1; omega) a hi ha })
      · --
       have q_b3 : ((j : Int)) < ((s_l : Int)) := of_decide_eq_true hb3.out
       have i24 : j < s_l := (by omega)
       obtain ⟨g24, o24, rfl⟩ := hsl.pt i24
       have l24 : j < (natI (outD t y)).length := Nat.lt_of_lt_of_eq i24 (hsl.one0)
       obtain ⟨xa, exa⟩ : ∃ z0, RowKit.Hid ((natI (outD t y))[j]? = some z0) := ⟨_, hid (List.getElem?_eq_getElem l24)⟩
       obtain ⟨a, ha1, rfl⟩ := natI_at exa.out; have ea1 := hid ha1; have haO := out_mem (List.mem_of_getElem? ha1); have haA := haO.1; have haT := hid haO.2; clear ha1 haO; have hhN : hN t a < nN t := (arc_ok ht2 haA).2.2.2.2.1; have hcl := (arc_ok ht2 haA).2.2.2.2.2.2
       go_upto_region 13 with (fail)
       refine wp_region_T [0, 0, 0] hK ?_
       clear hK
       refine e0 ?_
       refine eR0 (fun w k => (hsl.below k.old).int exa.out) ?_
       refine e0 ?_
       refine sxEnd (fun W25 hK => ?_)
       go_upto_region 14 with (fail)
       refine wp_region_T [0, 0, 1, 0] hK ?_
       clear hK
       refine eX0 (fun w k => hO16.below k.old) ?_
       refine e0 ?_
       refine eQ (fun w k => headN_any w (ht.below k.old) a hl ht2 haA) ?_
       refine e0 ?_
       refine sxEnd (fun W26 hK => ?_)
       have i27 : hN t a < n7 := (by omega)
       have l27 : hN t a < (dstD t down d1).length := Nat.lt_of_lt_of_eq i27 (hD9.one0)
       obtain ⟨dm, edm⟩ : ∃ z0, RowKit.Hid ((dstD t down d1)[hN t a]? = some z0) := ⟨_, hid (List.getElem?_eq_getElem l27)⟩
       have hsm1 := hsm.out (hN t a); rw [atD_of edm.out] at hsm1; replace hsm1 := hsm1
       go_upto_region 15 with (fail)
       refine wp_region_T [0, 0, 1, 0, 0, 0, 0, 0, 0, 0, 0, 0, 0, 0, 0, 0, 0, 1, 0, 0] hK ?_
       clear hK
       iterate 2 refine e0 ?_
       obtain ⟨b4, hb4⟩ : ∃ z9 : Bool, RowKit.Hid ((!upD down a) = z9) := ⟨_, hid rfl⟩
       refine eQ (v := .bool b4) (fun w k => down_any w (hd.below k.old) a (by have q := hdl.out; omega)) ?_ (hv := by rw [hb4.out])
       refine e0 ?_
       cases b4
       · --
        iterate 3 refine e0 ?_
        refine eR0 (fun w k => by have q := (hD9.below k.old).int edm.out; rwa [Nat.zero_add] at q) ?_
        refine eB (decide (dm < 0)) (fun b5 hb5 => ?_)
        iterate 2 refine e0 ?_
        cases b5
        · --
         have q_b5 : 0 ≤ dm := Int.not_lt.1 (of_decide_eq_false hb5.out)
         iterate 2 refine e0 ?_
         refine eB ((((hN t a : Nat) : Int)) != ((d1 : Int))) (fun b6 hb6 => ?_)
         refine e0 ?_
         cases b6
         · --
          iterate 3 refine eN ?_
          iterate 2 refine e0 ?_
          refine sxEnd (fun W28 hK => ?_)
          have i29 : y < n7 := (by omega)
          have l29 : y < (dstD t down d1).length := Nat.lt_of_lt_of_eq i29 (hD9.one0)
          obtain ⟨dy, edy⟩ : ∃ z0, RowKit.Hid ((dstD t down d1)[y]? = some z0) := ⟨_, hid (List.getElem?_eq_getElem l29)⟩
          go_upto_region 16 with (fail)
          refine wp_region_S _ [0, 0, 0, 0, 0, 0, 1, 0, 0, 0, 0, 0, 0] hK ?_ (List.Sublist.refl _)
          clear hK
          iterate 3 refine e0 ?_
          refine eR0 (fun w k => by have q := (hD9.below k.old).int edm.out; rwa [Nat.zero_add] at q) ?_
          refine eX0 (fun w k => hO16.below k.old) ?_
          refine e0 ?_
          refine eQ (fun w k => costN_any w (ht.below k.old) a hl ht2 haA) ?_
          refine eV (.int .i64 (dm + (cN t a : Int))) (fun w' => by go_simp; (try go_bits); first | exact ⟨rfl, rfl⟩ | go_num) ?_
          iterate 3 refine e0 ?_
          refine eR0 (fun w k => by have q := (hD9.below k.old).int edy.out; rwa [Nat.zero_add] at q) ?_
          refine eB (((dm + (cN t a : Int))) == dy) (fun b7 hb7 => ?_)
          refine sxEnd (fun W30 hK => ?_)
          cases b7
          · --
           (try go_wp2)
           go_roundw
           case rel => exact ⟨j + 1, (by first | rfl | go_num), (by first | rfl | go_num), (by first | rfl | go_num), (by omega), hid (fun b hb => by { rcases Nat.lt_succ_iff_lt_or_eq.1 hb with hb | rfl; exact h_no.out b hb; intro x hx; obtain rfl : x = a := Option.some.inj (hx.symm.trans ea1.out); exact no_eq (by rw [atD_of edm.out, haT.out, atD_of edy.out]; have q := hb7.out; simp at q; omega) }), hK⟩
           case measure => simp [intOf] <;> omega
          · --
           have hjm := hid (mem_nxt.2 ⟨haA, haT.out, on_iff.2 ⟨by have q := hb4.out; simpa using q, by rw [haT.out]; exact hyd, by rw [atD_of edm.out]; have q := of_decide_eq_false hb5.out; omega, tr_yes (.inl (by have q := hb6.out; simp at q; omega)), by rw [haT.out, atD_of edy.out, atD_of edm.out]; have q := hb7.out; simp at q; omega⟩⟩ : a ∈ nxtD t down (dstD t down d1) y d1); have hjn := hid (nxt_less ht2 hjm.out); have hfr := hid (nxt_fst ea1.out hjm.out h_no.out); have hsh := hid (NxP.short ht2 hI.out h_F.out.nx (by rw [atD_of edn.out]; omega)); have hshl := hsh.out
           go_upto_region 17 with (fail)
           refine wp_region_T [0, 0, 3, 5, 0] hK ?_
           clear hK
           iterate 2 refine e0 ?_
           refine eA (.cells #[.int .i64 (a : Int)] 3) (fun R31 => ?_)
           refine eApp 1 intK_free rfl infoZ (fun w k => k.one1 (K := intK) (x := (a : Int)) m0 rfl) (by rw [natI_len]; simp; omega) (fun x32 => ?_)
           obtain ⟨p32, n32, c32⟩ := x32; dsimp only
           refine e0 ?_
           refine sxEnd (fun W33 hK => ?_)
           rw [show (natI p) ++ [(a : Int)] = natI (p ++ [a]) from (by rw [natI_snoc])] at hK
           (try go_wp2)
           go_roundg ((atD (dstD t down d1) (hN t a)).toNat)
           case measure => rw [hgk17.out]; have := hjn.out.2.1; have := hjn.out.1; omega
           case rel => exact ⟨(hN t a), (p ++ [a]), p32, n32, c32, (by first | rfl | go_num), (by first | rfl | go_num), hjn.out.2.2.1, hid hjn.out.1, hid (h_F.out.snoc hfr.out.choose_spec), hid rfl, (hK.subl (sC2 (List.Sublist.refl _)))⟩
         · --
          refine eX0 (fun w k => hO16.below k.old) ?_
          refine e0 ?_
          obtain ⟨b7, hb7⟩ : ∃ z9 : Bool, RowKit.Hid ((ovD t (hN t a)) = z9) := ⟨_, hid rfl⟩
          refine eQ (v := .bool b7) (fun w k => over_any w (ht.below k.old) (hN t a) hl (by have q := hnn.out.2.2.2.1; omega)) ?_ (hv := by rw [hb7.out])
          iterate 2 refine e0 ?_
          refine sxEnd (fun W34 hK => ?_)
          cases b7
          · --
           have i35 : y < n7 := (by omega)
           have l35 : y < (dstD t down d1).length := Nat.lt_of_lt_of_eq i35 (hD9.one0)
           obtain ⟨dy, edy⟩ : ∃ z0, RowKit.Hid ((dstD t down d1)[y]? = some z0) := ⟨_, hid (List.getElem?_eq_getElem l35)⟩
           go_upto_region 16 with (fail)
           refine wp_region_S _ [0, 0, 0, 0, 0, 0, 1, 0, 0, 0, 0, 0, 0] hK ?_ (List.Sublist.refl _)
           clear hK
           iterate 3 refine e0 ?_
           refine eR0 (fun w k => by have q := (hD9.below k.old).int edm.out; rwa [Nat.zero_add] at q) ?_
           refine eX0 (fun w k => hO16.below k.old) ?_
           refine e0 ?_
           refine eQ (fun w k => costN_any w (ht.below k.old) a hl ht2 haA) ?_
           refine eV (.int .i64 (dm + (cN t a : Int))) (fun w' => by go_simp; (try go_bits); first | exact ⟨rfl, rfl⟩ | go_num) ?_
           iterate 3 refine e0 ?_
           refine eR0 (fun w k => by have q := (hD9.below k.old).int edy.out; rwa [Nat.zero_add] at q) ?_
           refine eB (((dm + (cN t a : Int))) == dy) (fun b8 hb8 => ?_)
           refine sxEnd (fun W36 hK => ?_)
           cases b8
           · --
            (try go_wp2)
            go_roundw
            case rel => exact ⟨j + 1, (by first | rfl | go_num), (by first | rfl | go_num), (by first | rfl | go_num), (by omega), hid (fun b hb => by { rcases Nat.lt_succ_iff_lt_or_eq.1 hb with hb | rfl; exact h_no.out b hb; intro x hx; obtain rfl : x = a := Option.some.inj (hx.symm.trans ea1.out); exact no_eq (by rw [atD_of edm.out, haT.out, atD_of edy.out]; have q := hb8.out; simp at q; omega) }), hK⟩
            case measure => simp [intOf] <;> omega
           · --
            have hjm := hid (mem_nxt.2 ⟨haA, haT.out, on_iff.2 ⟨by have q := hb4.out; simpa using q, by rw [haT.out]; exact hyd, by rw [atD_of edm.out]; have q := of_decide_eq_false hb5.out; omega, tr_yes (.inr hb7.out), by rw [haT.out, atD_of edy.out, atD_of edm.out]; have q := hb8.out; simp at q; omega⟩⟩ : a ∈ nxtD t down (dstD t down d1) y d1); have hjn := hid (nxt_less ht2 hjm.out); have hfr := hid (nxt_fst ea1.out hjm.out h_no.out); have hsh := hid (NxP.short ht2 hI.out h_F.out.nx (by rw [atD_of edn.out]; omega)); have hshl := hsh.out
            go_upto_region 17 with (fail)
            refine wp_region_T [0, 0, 3, 5, 0] hK ?_
            clear hK
            iterate 2 refine e0 ?_
            refine eA (.cells #[.int .i64 (a : Int)] 3) (fun R37 => ?_)
            refine eApp 1 intK_free rfl infoZ (fun w k => k.one1 (K := intK) (x := (a : Int)) m0 rfl) (by rw [natI_len]; simp; omega) (fun x38 => ?_)
            obtain ⟨p38, n38, c38⟩ := x38; dsimp only
            refine e0 ?_
            refine sxEnd (fun W39 hK => ?_)
            rw [show (natI p) ++ [(a : Int)] = natI (p ++ [a]) from (by rw [natI_snoc])] at hK
            (try go_wp2)
            go_roundg ((atD (dstD t down d1) (hN t a)).toNat)
            case measure => rw [hgk17.out]; have := hjn.out.2.1; have := hjn.out.1; omega
            case rel => exact ⟨(hN t a), (p ++ [a]), p38, n38, c38, (by first | rfl | go_num), (by first | rfl | go_num), hjn.out.2.2.1, hid hjn.out.1, hid (h_F.out.snoc hfr.out.choose_spec), hid rfl, (hK.subl (sC2 (List.Sublist.refl _)))⟩
          · --
           (try go_wp2)
           go_roundw
           case rel => exact ⟨j + 1, (by first | rfl | go_num), (by first | rfl | go_num), (by first | rfl | go_num), (by omega), hid (fun b hb => by { rcases Nat.lt_succ_iff_lt_or_eq.1 hb with hb | rfl; exact h_no.out b hb; intro x hx; obtain rfl : x = a := Option.some.inj (hx.symm.trans ea1.out); exact no_ov (by have q := hb6.out; simp at q; omega) hb7.out }), hK⟩
           case measure => simp [intOf] <;> omega
        · --
         have q_b5 : dm < 0 := of_decide_eq_true hb5.out
         iterate 4 refine eN ?_
         iterate 3 refine eU ?_
         refine eN ?_
         refine e0 ?_
         refine sxEnd (fun W40 hK => ?_)
         (try go_wp2)
         go_roundw
         case rel => exact ⟨j + 1, (by first | rfl | go_num), (by first | rfl | go_num), (by first | rfl | go_num), (by omega), hid (fun b hb => by { rcases Nat.lt_succ_iff_lt_or_eq.1 hb with hb | rfl; exact h_no.out b hb; intro x hx; obtain rfl : x = a := Option.some.inj (hx.symm.trans ea1.out); exact no_neg (by rw [atD_of edm.out]; have q := of_decide_eq_true hb5.out; omega) }), hK⟩
         case measure => simp [intOf] <;> omega
       · --
        iterate 5 refine eN ?_
        iterate 2 refine e0 ?_
        iterate 4 refine eN ?_
        iterate 3 refine eU ?_
        refine eN ?_
        refine e0 ?_
        refine sxEnd (fun W41 hK => ?_)
        (try go_wp2)
        go_roundw
        case rel => exact ⟨j + 1, (by first | rfl | go_num), (by first | rfl | go_num), (by first | rfl | go_num), (by omega), hid (fun b hb => by { rcases Nat.lt_succ_iff_lt_or_eq.1 hb with hb | rfl; exact h_no.out b hb; intro x hx; obtain rfl : x = a := Option.some.inj (hx.symm.trans ea1.out); exact no_up hb4.out }), hK⟩
        case measure => simp [intOf] <;> omega
  · --
   have q_b1 : dn < 0 := of_decide_eq_true hb1.out
   replace hK := hK.fact (rO intK 3 none 0 0 ([] : List Int)) OwV.nil (fun _ h => by cases h)
   have hX : chkT t down s1 d1 = 11 := if_pos (by rw [atD_of edn.out]; omega)
   replace hK := hK.subl (sK2 (sC2 (sC2 (sC2 sZ2))))
   go_wp2
   try go_ret
   show Q0 (.returned (.tuple #[.slice none 0 0, .int .i64 11])) _
   exact (by obtain rfl := hQ0.out; rw [show pthT t down s1 d1 = [] from if_neg (by rw [hX]; decide)]; rw [show Ending.returned (.tuple #[.slice none 0 0, .int .i64 11]) = .returned (.tuple #[.slice none 0 0, .int .i64 (chkT t down s1 d1)]) from by rw [hX]]; exact ⟨⟨none, 0, 0⟩, rfl, (hK.fact (cF (chkT t down s1 d1 = 0 → FstP t down (dstD t down d1) d1 s1 [] d1)) (fun e => absurd (hX.symm.trans e) (by decide))).up1⟩)
end Go.Proofs.YtmcfomainmppdaaGreatDoor
namespace Go.Proofs.YtmcfomainmppdaaGreatDoor
open Go.RowKit
open Go.Lib (decDigits)
theorem WayD.mem_lt {t : TopD} {n a : Nat} {p : List Nat} (h : WayD t n p) (ha : a ∈ p) : a < arcsD t := by
  obtain ⟨i, hi⟩ := List.mem_iff_getElem?.1 ha
  exact (h.at hi).1
set_option maxRecDepth 100000 in
theorem use_any (w V : World) {p : Option Addr} {n c : Nat} {R : Nat} (l : List Ft) (hK : SS V ((bx R (.cells #[.slice none 0 0] 29)) :: l) w) (hz : OzA l)  :
    Calls Tryz.prog 142 #[.slice p n c, .pointer (some ⟨R, 0, none⟩)] w fun e w' => ∃ _x : Unit, e = .returned (.tuple #[]) ∧ SS V (bx R (.cells #[.slice p n c] 29) :: l) w' := by
  refine Calls.hide (fun Q0 hQ0 => ?_)
  go_enter Tryz.func142, Tryz.ntmps142
  go_upto_region 0 with (fail)
  refine wp_region_T [0, 4] hK ?_
  clear hK
  refine e0 ?_
  refine eP 0 0 [.slice p n c] ?_
  refine sxEnd (fun W1 hK => ?_)
  go_wp2
  first | exact bodyPost_ret (v := .tuple #[]) (results_none (by simp [Tryz.results142]) _ _ _) rfl (by obtain rfl := hQ0.out; exact ⟨(), rfl, hK⟩) | exact bodyPost_end (v := .tuple #[]) (results_none (by simp [Tryz.results142]) _ _ _) rfl (by obtain rfl := hQ0.out; exact ⟨(), rfl, hK⟩)
set_option maxRecDepth 100000 in
theorem usr_any (w : World) {p : Option Addr} {n c : Nat}  :
    Calls Tryz.prog 134 #[.slice p n c] w fun e w' => e = .returned (.tuple #[]) ∧ Below w.heap.size w w' := by
  have hK := SS.start w
  refine Calls.hide (fun Q0 hQ0 => ?_)
  go_enter Tryz.func134, Tryz.ntmps134
  go_wp2
  first | exact bodyPost_ret (v := .tuple #[]) (results_none (by simp [Tryz.results134]) _ _ _) rfl (by obtain rfl := hQ0.out; exact ⟨rfl, hK.old⟩) | exact bodyPost_end (v := .tuple #[]) (results_none (by simp [Tryz.results134]) _ _ _) rfl (by obtain rfl := hQ0.out; exact ⟨rfl, hK.old⟩)
set_option maxRecDepth 100000 in
set_option maxHeartbeats 400000 in
theorem findP_any (w V : World) {v_t : Value} {t : TopD} (ht : TopV V v_t t) {p_d : Option Addr} {n_d c_d : Nat} {down : List Bool} (hd : SlV boolK V (.slice p_d n_d c_d) down) (s1 : Nat) (d1 : Nat) {R : Nat} (l : List Ft) (hK : SS V ((bx R (.cells #[.slice none 0 0] 29)) :: l) w) (hz : OzA l) (hl : t.links.length ≤ 100000) (ht2 : topOk t = true) (hdl : RowKit.Hid (down.length = 0 ∨ down.length = arcsD t)) (hs1 : s1 < nN t) (hd1 : d1 < nN t) :
    Calls Tryz.prog 133 #[v_t, .slice p_d n_d c_d, .int .i64 (s1 : Int), .int .i64 (d1 : Int), .func (.func 142) #[] #[.pointer (some ⟨R, 0, none⟩)]] w fun e w' => ∃ x : Sl, e = .returned (.int .i64 (chkT t down s1 d1)) ∧ SS V (bx R (.cells #[.slice x.p x.l x.c] 29) :: rO intK 3 x.p x.l x.c (natI (pthT t down s1 d1)) :: cF (chkT t down s1 d1 = 0 → FstP t down (dstD t down d1) d1 s1 (pthT t down s1 d1) d1) :: l) w' := by
  have ht_0 := ht
  obtain ⟨p_t, n_t, c_t, q_t, m_t, d_t, rfl, ht_1, ht_2⟩ := ht_0; have b_t : m_t ≤ 100000 := (by rw [ht_2.one0]; exact hl); have a_t : arcsD t ≤ 200000 := (by unfold arcsD; omega)
  refine Calls.hide (fun Q0 hQ0 => ?_)
  go_enter Tryz.func133, Tryz.ntmps133
  go_upto_region 0 with (fail)
  refine wp_region_T [3, 0] hK ?_
  clear hK
  refine eA (.cells #[.int .i64 t.nodes, .slice p_t n_t c_t, .slice q_t m_t d_t] 25) (fun R1 => ?_)
  refine e0 ?_
  refine sxEnd (fun W2 hK => ?_)
  go_upto_region 1 with (fail)
  refine wp_region_T [1, 0, 0, 0, 2, 0, 0, 0, 0, 0] hK ?_
  clear hK
  refine eL m0 ?_
  iterate 3 refine e0 ?_
  refine eC (fun w k => spath_any w (ht.below k.old) (hd.below k.old) s1 d1 hl ht2 hdl hs1 hd1) (fun x3 => ?_)
  obtain ⟨p4, n4, c4⟩ := x3; dsimp only
  iterate 5 refine e0 ?_
  refine sxEnd (fun W5 hK => ?_)
  go_upto_region 2 with (fail)
  refine wp_region_T [0, 0] hK ?_
  clear hK
  refine e0 ?_
  refine eB (((chkT t down s1 d1)) == 0) (fun b1 hb1 => ?_)
  refine sxEnd (fun W6 hK => ?_)
  cases b1
  · --
   have hX : chkT t down s1 d1 ≠ 0 := (by have q := hb1.out; simpa using q); have hp0 : pthT t down s1 d1 = [] := if_neg hX
   replace hK := hK.fact (rO intK 3 none 0 0 (natI [])) OwV.nil (fun _ h => by cases h)
   replace hK := hK.subl (sK2 (sC2 (sK2 (sC2 (List.Sublist.refl _)))))
   replace hK := hK.up1
   replace hK := hK.up1
   replace hK := hK.up2
   go_wp2
   try go_ret
   show Q0 (.returned (.int .i64 (chkT t down s1 d1))) _
   exact (by obtain rfl := hQ0.out; rw [hp0]; rw [hp0] at hK; exact ⟨⟨none, 0, 0⟩, rfl, hK⟩)
  · --
   go_upto_region 3 with (fail)
   refine wp_region_T [0, 0, 4] hK ?_
   clear hK
   iterate 2 refine e0 ?_
   refine eM (fun w k => use_any w _ (R := R) (p := p4) (n := n4) (c := c4) _ (k.up3) ⟨rfl, rfl, rfl, hz⟩) (fun x7 => ?_)
   refine sxEnd (fun W8 hK => ?_)
   replace hK := hK.subl (sK2 (sK2 (sK2 (sC2 (List.Sublist.refl _)))))
   go_wp2
   try go_ret
   show Q0 (.returned (.int .i64 (chkT t down s1 d1))) _
   exact (by obtain rfl := hQ0.out; exact ⟨⟨p4, n4, c4⟩, rfl, hK⟩)
set_option maxRecDepth 100000 in
set_option maxHeartbeats 400000 in
theorem findR_any (w : World) {v_t : Value} {t : TopD} (ht : TopV w v_t t) {p_d : Option Addr} {n_d c_d : Nat} {down : List Bool} (hd : SlV boolK w (.slice p_d n_d c_d) down) (s1 : Nat) (d1 : Nat) (hl : t.links.length ≤ 100000) (ht2 : topOk t = true) (hdl : RowKit.Hid (down.length = 0 ∨ down.length = arcsD t)) (hs1 : s1 < nN t) (hd1 : d1 < nN t) :
    Calls Tryz.prog 133 #[v_t, .slice p_d n_d c_d, .int .i64 (s1 : Int), .int .i64 (d1 : Int), .func (.func 134) #[] #[]] w fun e w' => e = .returned (.int .i64 (chkT t down s1 d1)) ∧ Below w.heap.size w w' := by
  have ht_0 := ht
  obtain ⟨p_t, n_t, c_t, q_t, m_t, d_t, rfl, ht_1, ht_2⟩ := ht_0; have b_t : m_t ≤ 100000 := (by rw [ht_2.one0]; exact hl); have a_t : arcsD t ≤ 200000 := (by unfold arcsD; omega)
  have hK := SS.start w
  refine Calls.hide (fun Q0 hQ0 => ?_)
  go_enter Tryz.func133, Tryz.ntmps133
  go_upto_region 0 with (fail)
  refine wp_region_T [3, 0] hK ?_
  clear hK
  refine eA (.cells #[.int .i64 t.nodes, .slice p_t n_t c_t, .slice q_t m_t d_t] 25) (fun R1 => ?_)
  refine e0 ?_
  refine sxEnd (fun W2 hK => ?_)
  go_upto_region 1 with (fail)
  refine wp_region_T [1, 0, 0, 0, 2, 0, 0, 0, 0, 0] hK ?_
  clear hK
  refine eL m0 ?_
  iterate 3 refine e0 ?_
  refine eC (fun w k => spath_any w (ht.below k.old) (hd.below k.old) s1 d1 hl ht2 hdl hs1 hd1) (fun x3 => ?_)
  obtain ⟨p4, n4, c4⟩ := x3; dsimp only
  iterate 5 refine e0 ?_
  refine sxEnd (fun W5 hK => ?_)
  go_upto_region 2 with (fail)
  refine wp_region_T [0, 0] hK ?_
  clear hK
  refine e0 ?_
  refine eB (((chkT t down s1 d1)) == 0) (fun b1 hb1 => ?_)
  refine sxEnd (fun W6 hK => ?_)
  cases b1
  · --
   go_wp2
   try go_ret
   show Q0 (.returned (.int .i64 (chkT t down s1 d1))) _
   exact (by obtain rfl := hQ0.out; exact ⟨rfl, hK.old⟩)
  · --
   go_upto_region 3 with (fail)
   refine wp_region_T [0, 0, 1] hK ?_
   clear hK
   iterate 2 refine e0 ?_
   refine eQ (fun w k => usr_any w) ?_
   refine sxEnd (fun W7 hK => ?_)
   go_wp2
   try go_ret
   show Q0 (.returned (.int .i64 (chkT t down s1 d1))) _
   exact (by obtain rfl := hQ0.out; exact ⟨rfl, hK.old⟩)
set_option maxRecDepth 100000 in
set_option maxHeartbeats 400000 in
theorem ppath_any (w : World) {v_t : Value} {t : TopD} (ht : TopV w v_t t) {p_d : Option Addr} {n_d c_d : Nat} {down : List Bool} (hd : SlV boolK w (.slice p_d n_d c_d) down) (s1 : Nat) (d1 : Nat) (hl : t.links.length ≤ 100000) (ht2 : topOk t = true) (hdl : RowKit.Hid (down.length = 0 ∨ down.length = arcsD t)) (hs1 : s1 < nN t) (hd1 : d1 < nN t) :
    Calls Tryz.prog 113 #[v_t, .slice p_d n_d c_d, .int .i64 (s1 : Int), .int .i64 (d1 : Int)] w fun e w' => ∃ x : Sl, e = .returned (.tuple #[.slice x.p x.l x.c, .int .i64 (chkT t down s1 d1)]) ∧ SS w [rO intK 3 x.p x.l x.c (natI (pthT t down s1 d1)), cF (chkT t down s1 d1 = 0 → FstP t down (dstD t down d1) d1 s1 (pthT t down s1 d1) d1)] w' := by
  have ht_0 := ht
  obtain ⟨p_t, n_t, c_t, q_t, m_t, d_t, rfl, ht_1, ht_2⟩ := ht_0; have b_t : m_t ≤ 100000 := (by rw [ht_2.one0]; exact hl); have a_t : arcsD t ≤ 200000 := (by unfold arcsD; omega)
  have hK := SS.start w
  refine Calls.hide (fun Q0 hQ0 => ?_)
  go_enter Tryz.func113, Tryz.ntmps113
  go_upto_region 0 with (fail)
  refine wp_region_T [3, 0, 0] hK ?_
  clear hK
  refine eA (.cells #[.int .i64 t.nodes, .slice p_t n_t c_t, .slice q_t m_t d_t] 25) (fun R1 => ?_)
  iterate 2 refine e0 ?_
  refine sxEnd (fun W2 hK => ?_)
  go_upto_region 1 with (fail)
  refine wp_region_T [3] hK ?_
  clear hK
  refine eA (.cells #[.slice none 0 0] 29) (fun R3 => ?_)
  refine sxEnd (fun W4 hK => ?_)
  go_upto_region 2 with (fail)
  refine wp_region_T [1, 0, 0, 0, 0, 4, 0] hK ?_
  clear hK
  refine eL m1 ?_
  iterate 4 refine e0 ?_
  refine eM (fun w k => findP_any w _ (ht) (hd) s1 d1 _ (k) ⟨rfl, trivial⟩ hl ht2 hdl hs1 hd1) (fun x6 => ?_)
  obtain ⟨p5, n5, c5⟩ := x6; dsimp only
  refine e0 ?_
  refine sxEnd (fun W7 hK => ?_)
  go_upto_region 3 with (fail)
  refine wp_region_T [1, 0, 0, 0] hK ?_
  clear hK
  refine eL m0 ?_
  iterate 3 refine e0 ?_
  refine sxEnd (fun W8 hK => ?_)
  replace hK := hK.subl (sC2 (sK2 (sK2 (sC2 sZ2))))
  go_wp2
  try go_ret
  show Q0 (.returned (.tuple #[.slice p5 n5 c5, .int .i64 (chkT t down s1 d1)])) _
  exact (by obtain rfl := hQ0.out; exact ⟨⟨p5, n5, c5⟩, rfl, hK⟩)
set_option maxRecDepth 100000 in
set_option maxHeartbeats 400000 in
theorem reach_any (w : World) {v_t : Value} {t : TopD} (ht : TopV w v_t t) {p_d : Option Addr} {n_d c_d : Nat} {down : List Bool} (hd : SlV boolK w (.slice p_d n_d c_d) down) (s1 : Nat) (d1 : Nat) (hl : t.links.length ≤ 100000) (ht2 : topOk t = true) (hdl : RowKit.Hid (down.length = 0 ∨ down.length = arcsD t)) (hs1 : s1 < nN t) (hd1 : d1 < nN t) :
    Calls Tryz.prog 100 #[v_t, .slice p_d n_d c_d, .int .i64 (s1 : Int), .int .i64 (d1 : Int)] w fun e w' => e = .returned (.bool (chkT t down s1 d1 == 0)) ∧ Below w.heap.size w w' := by
  have ht_0 := ht
  obtain ⟨p_t, n_t, c_t, q_t, m_t, d_t, rfl, ht_1, ht_2⟩ := ht_0; have b_t : m_t ≤ 100000 := (by rw [ht_2.one0]; exact hl); have a_t : arcsD t ≤ 200000 := (by unfold arcsD; omega)
  have hK := SS.start w
  refine Calls.hide (fun Q0 hQ0 => ?_)
  go_enter Tryz.func100, Tryz.ntmps100
  go_upto_region 0 with (fail)
  refine wp_region_T [3, 0] hK ?_
  clear hK
  refine eA (.cells #[.int .i64 t.nodes, .slice p_t n_t c_t, .slice q_t m_t d_t] 25) (fun R1 => ?_)
  refine e0 ?_
  refine sxEnd (fun W2 hK => ?_)
  go_upto_region 1 with (fail)
  refine wp_region_T [1, 0, 0, 0, 1, 0, 0] hK ?_
  clear hK
  refine eL m0 ?_
  iterate 3 refine e0 ?_
  refine eQ (fun w k => findR_any w (ht.below k.old) (hd.below k.old) s1 d1 hl ht2 hdl hs1 hd1) ?_
  refine eB (((chkT t down s1 d1)) == 0) (fun b1 hb1 => ?_)
  refine e0 ?_
  refine sxEnd (fun W3 hK => ?_)
  go_wp2
  try go_ret
  show Q0 (.returned (.bool b1)) _
  exact (by obtain rfl := hQ0.out; exact ⟨(by first | rfl | rw [hb1.out]), hK.old⟩)
set_option maxRecDepth 100000 in
theorem up_any (w : World) {p_d : Option Addr} {n_d c_d : Nat} {down : List Bool} (hd : SlV boolK w (.slice p_d n_d c_d) down) {p_P : Option Addr} {n_P c_P : Nat} {P0 : List Int} (hP : SlV intK w (.slice p_P n_P c_P) P0) {p : List Nat} (hP0 : P0 = natI p) (hP1 : p.length ≤ 100000) (hua : ∀ a ∈ p, upD down a = true ∧ (down.length = 0 ∨ a < down.length)) :
    Calls Tryz.prog 160 #[.slice p_d n_d c_d, .slice p_P n_P c_P] w fun e w' => e = .returned (.bool true) ∧ Below w.heap.size w w' := by
  have hK := SS.start w
  obtain rfl := hP0; have hpl := hid (hP.one0.trans (natI_len p)); have hpl1 := Nat.le_of_eq hpl.out; have hpl2 := Nat.le_of_eq hpl.out.symm
  refine Calls.hide (fun Q0 hQ0 => ?_)
  go_enter Tryz.func160, Tryz.ntmps160
  go_wp2_with fail
  go_loopw [9] (fun s9 wl => ∃ (kx : Nat), s9 = .int .i64 (kx : Int) ∧ (kx ≤ n_P) ∧ SS w ([]) wl) (fun s9 _ => n_P - (intOf s9).toNat)
  case atStart => exact ⟨0, rfl, (by omega), hK⟩
  case round =>
   clear hK
   obtain ⟨kx, rfl, hk0, hK⟩ := hrel
   generalize wr = W1 at hK ⊢
   go_upto_region 2 with (fail)
   refine wp_region_T [0] hK ?_
   clear hK
   refine eB (decide (((kx : Int)) < ((n_P : Int)))) (fun b1 hb1 => ?_)
   refine sxEnd (fun W2 hK => ?_)
   cases b1
   · --
    have q_b1 : ((n_P : Int)) ≤ ((kx : Int)) := Int.not_lt.1 (of_decide_eq_false hb1.out)
    go_wp2
    try go_ret
    show Q0 (.returned (.bool true)) _
    exact (by obtain rfl := hQ0.out; exact ⟨rfl, hK.old⟩)
   · --
    have q_b1 : ((kx : Int)) < ((n_P : Int)) := of_decide_eq_true hb1.out
    have i3 : kx < n_P := (by omega)
    obtain ⟨g3, o3, rfl⟩ := hP.pt i3
    have l3 : kx < (natI p).length := Nat.lt_of_lt_of_eq i3 (hP.one0)
    obtain ⟨xa, exa⟩ : ∃ z0, RowKit.Hid ((natI p)[kx]? = some z0) := ⟨_, hid (List.getElem?_eq_getElem l3)⟩
    obtain ⟨a, ha1, rfl⟩ := natI_at exa.out; have hu := hid (hua a (List.mem_of_getElem? ha1)); have hub : (!upD down a) = false := (by rw [hu.out.1]; rfl); clear ha1
    go_upto_region 3 with (fail)
    refine wp_region_T [0, 0, 0] hK ?_
    clear hK
    refine e0 ?_
    refine eR0 (fun w k => (hP.below k.old).int exa.out) ?_
    refine e0 ?_
    refine sxEnd (fun W4 hK => ?_)
    go_upto_region 4 with (fail)
    refine wp_region_T [0, 0, 1] hK ?_
    clear hK
    iterate 2 refine e0 ?_
    refine eQ (fun w k => (down_any w (hd.below k.old) a hu.out.2).mono fun _ _ q => by rw [hub] at q; exact q) ?_
    refine sxEnd (fun W5 hK => ?_)
    (try go_wp2)
    go_roundw
    case rel => exact ⟨kx + 1, (by first | rfl | go_num), (by omega), hK⟩
    case measure => simp [intOf] <;> omega
set_option maxRecDepth 100000 in
set_option maxHeartbeats 400000 in
theorem scheck_any (w : World) {v_t : Value} {t : TopD} (ht : TopV w v_t t) {p_d : Option Addr} {n_d c_d : Nat} {down : List Bool} (hd : SlV boolK w (.slice p_d n_d c_d) down) {p_P : Option Addr} {n_P c_P : Nat} {P0 : List Int} (hP : SlV intK w (.slice p_P n_P c_P) P0) (n1 : Nat) {p : List Nat} (hP0 : P0 = natI p) (hl : t.links.length ≤ 100000) (ht2 : topOk t = true) (hn1 : n1 < nN t) (hW : WayD t n1 p) (hP1 : p.length ≤ 100000) (hdl : RowKit.Hid (down.length = 0 ∨ down.length = arcsD t)) (hup : ∀ a ∈ p, upD down a = true) :
    Calls Tryz.prog 143 #[v_t, .slice p_d n_d c_d, .slice p_P n_P c_P, .int .i64 (n1 : Int)] w fun e w' => e = .returned (.int .i64 0) ∧ Below w.heap.size w w' := by
  have ht_0 := ht
  obtain ⟨p_t, n_t, c_t, q_t, m_t, d_t, rfl, ht_1, ht_2⟩ := ht_0; have b_t : m_t ≤ 100000 := (by rw [ht_2.one0]; exact hl); have a_t : arcsD t ≤ 200000 := (by unfold arcsD; omega)
  have hK := SS.start w
  obtain rfl := hP0
  have hpl := hid (hP.one0.trans (natI_len p)); have hpl1 := Nat.le_of_eq hpl.out; have hpl2 := Nat.le_of_eq hpl.out.symm; have hnt := hid (topN ht2).1; have hnd : (decide (0 ≤ ((n1 : Nat) : Int)) && decide (((n1 : Nat) : Int) < t.nodes)) = true := (by have q := hnt.out; simp; omega)
  have hfb : decide (down.length = 0 ∨ down.length = 2 * t.links.length) = true := decide_eq_true hdl.out; have hua : ∀ a ∈ p, upD down a = true ∧ (down.length = 0 ∨ a < down.length) := fun a ha => ⟨hup a ha, by { have q := hdl.out; have q2 := hW.mem_lt ha; omega }⟩
  refine Calls.hide (fun Q0 hQ0 => ?_)
  go_enter Tryz.func143, Tryz.ntmps143
  go_upto_region 0 with (fail)
  refine wp_region_T [3, 0] hK ?_
  clear hK
  refine eA (.cells #[.int .i64 t.nodes, .slice p_t n_t c_t, .slice q_t m_t d_t] 25) (fun R1 => ?_)
  refine e0 ?_
  refine sxEnd (fun W2 hK => ?_)
  go_upto_region 1 with (fail)
  refine wp_region_T [1, 1, 0, 0, 1, 0, 1, 0, 0] hK ?_
  clear hK
  refine eL m0 ?_
  refine eQ (fun w k => (valid_any w (ht.below k.old) hl).mono fun _ _ q => by rw [ht2] at q; exact q) ?_
  iterate 2 refine e0 ?_
  refine eL m0 ?_
  refine e0 ?_
  refine eQ (fun w k => (fits_any w (ht.below k.old) (hd.below k.old) hl).mono fun _ _ q => by rw [hfb] at q; exact q) ?_
  iterate 2 refine e0 ?_
  refine sxEnd (fun W3 hK => ?_)
  go_upto_region 3 with (fail)
  refine wp_region_T [1, 0, 0, 1, 0, 0, 0, 0, 0, 0, 0] hK ?_
  clear hK
  refine eL m0 ?_
  iterate 2 refine e0 ?_
  refine eQ (fun w k => tpath_any w (ht.below k.old) n1 (hP.below k.old) rfl hl ht2 hn1 hW hP1) ?_
  iterate 7 refine e0 ?_
  refine sxEnd (fun W4 hK => ?_)
  go_upto_region 4 with (fail)
  refine wp_region_T [0, 0] hK ?_
  clear hK
  iterate 2 refine e0 ?_
  refine sxEnd (fun W5 hK => ?_)
  go_upto_region 6 with (fail)
  refine wp_region_T [0, 0, 1, 0] hK ?_
  clear hK
  iterate 2 refine e0 ?_
  refine eQ (fun w k => up_any w (hd.below k.old) (hP.below k.old) rfl hP1 hua) ?_
  refine e0 ?_
  refine sxEnd (fun W6 hK => ?_)
  go_wp2
  try go_ret
  show Q0 (.returned (.int .i64 0)) _
  exact (by obtain rfl := hQ0.out; exact ⟨rfl, hK.old⟩)
end Go.Proofs.YtmcfomainmppdaaGreatDoor
