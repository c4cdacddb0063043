/- The square; tables of routes; paths that are walked. -/
import Derived.Test.YtmcfomainmppdaaGreatDoorFWhA
import Derived.Test.YtmcfomainmppdaaGreatDoorFDsQ
namespace Go.Proofs.YtmcfomainmppdaaGreatDoor
open Go.RowKit
open Go.Lib (decDigits)
def lnS (i : Nat) : LnkD := ⟨(i : Int), (((i + 1) % 4 : Nat) : Int), 1, 1, 3, 1, 0⟩
def topS : TopD := ⟨4, [], (List.range 4).map lnS⟩
def entA (s : Sl) : EntW := ⟨s, false, ⟨none, 0, 0⟩⟩
section
variable {t : TopD} {down : List Bool} {n a k n1 : Nat} {d : Int} {ns : List Int}
theorem chkD_ok (h1 : topOk t = true) (h2 : decide (down.length = 0 ∨ down.length = 2 * t.links.length) = true) (h3 : (decide (0 ≤ d) && decide (d < t.nodes)) = true) : chkD t down [d] = 0 := by
  unfold chkD fitsD; rw [h1, h2]; simp only [List.all_cons, List.all_nil, Bool.and_true, h3, if_true]
theorem chkD_1a (h1 : topOk t = false) : chkD t down ns = 1 := by unfold chkD fitsD; rw [h1]; rfl
theorem chkD_1b (h1 : topOk t = true) (h2 : decide (down.length = 0 ∨ down.length = 2 * t.links.length) = false) : chkD t down ns = 1 := by unfold chkD fitsD; rw [h1, h2]; rfl
theorem chkD_2 (h1 : topOk t = true) (h2 : decide (down.length = 0 ∨ down.length = 2 * t.links.length) = true) (h3 : (decide (0 ≤ d) && decide (d < t.nodes)) = false) : chkD t down [d] = 2 := by
  unfold chkD fitsD; rw [h1, h2]; simp only [List.all_cons, List.all_nil, Bool.and_true, h3, if_true]; rfl
theorem out_lenW (t : TopD) (n : Nat) : (outD t n).length ≤ arcsD t := by unfold outD; exact Nat.le_trans (List.length_filter_le _ _) (by simp)
theorem out_arc (h : a ∈ outD t n) : a < arcsD t := by unfold outD at h; exact List.mem_range.1 (List.mem_filter.1 h).1
def dwnL (t : TopD) (down : List Bool) (n k : Nat) : List Nat := ((outD t n).take k).filter fun a => !upD down a
theorem dwn_all : dwnL t down n (outD t n).length = (outD t n).filter fun a => !upD down a := by unfold dwnL; rw [List.take_length]
theorem dwn_no (h : (outD t n)[k]? = some a) (hu : (!upD down a) = true) : dwnL t down n k ++ [a] = dwnL t down n (k + 1) := by
  obtain ⟨hk, e⟩ := List.getElem?_eq_some_iff.1 h
  unfold dwnL
  rw [List.take_succ_eq_append_getElem hk, e, List.filter_append]
  simp [hu]
theorem dwn_up (h : (outD t n)[k]? = some a) (hu : (!upD down a) = false) : dwnL t down n k = dwnL t down n (k + 1) := by
  obtain ⟨hk, e⟩ := List.getElem?_eq_some_iff.1 h
  unfold dwnL
  rw [List.take_succ_eq_append_getElem hk, e, List.filter_append]
  simp [hu]
theorem dwn_len : (dwnL t down n k).length ≤ k := by unfold dwnL; exact Nat.le_trans (List.length_filter_le _ _) (by rw [List.length_take]; omega)
noncomputable def rtD (t : TopD) (down : List Bool) (n : Nat) : TabD := ⟨n, (List.range (nN t)).map fun (d : Nat) => ⟨nxtR t down (n : Int) (d : Int), false, []⟩, (outD t n).filter fun a => !upD down a⟩
noncomputable def rtR (t : TopD) (down : List Bool) (n : Int) : TabD := if chkD t down [n] = 0 then rtD t down n.toNat else ⟨0, [], []⟩
end
section
variable {V w : World} {l : List Ft}
theorem SS.tb0 (h : SS V l w) : SS V (tbF ⟨⟨none, 0, 0⟩, ⟨none, 0, 0⟩, []⟩ ⟨0, [], []⟩ :: l) w := by
  refine SS.star.2 ?_
  have h1 : SS V (rO intK 3 none 0 0 (natI []) :: l) w := h.fact _ OwV.nil (fun _ h => by cases h)
  have h2 := (h1.rs0 segK 83).vs0 intK
  have h3 : SS V (rO entK 66 none 0 0 [] :: _) w := h2.fact _ OwV.nil (fun _ h => by cases h)
  exact h3.fact (cF ((([] : List EntW).map (·.r)) = ([] : List EntD).map (·.r))) rfl
theorem SS.nulls (h : SS V l w) : ∀ (ss : List Sl), SS V (rsF segK 83 (ss.map fun _ => (⟨none, 0, 0⟩ : Sl)) (ss.map fun _ => ([] : List SegD)) :: l) w := fun ss => by
  refine SS.star.2 ?_
  induction ss with
  | nil => exact h
  | cons s ss ih => exact ih.fact (rO segK 83 none 0 0 []) OwV.nil (fun _ h => by cases h)
theorem SS.routes {t : TopD} {down : List Bool} {n : Nat} {pt pd : Option Addr} {nt ct nd cd : Nat} {ss : List Sl} (h : SS V [rO entK 66 pt nt ct (ss.map entA), rsF intK 3 ss ((List.range (nN t)).map fun (d : Nat) => natI (nxtR t down (n : Int) (d : Int))), rO intK 3 pd nd cd (natI ((outD t n).filter fun a => !upD down a))] w) (hl : ss.length = nN t) :
    SS V [tbF ⟨⟨pt, nt, ct⟩, ⟨pd, nd, cd⟩, ss.map entA⟩ (rtD t down n)] w := by
  replace h := (h.up1.vs).up1
  refine SS.star.2 ?_
  have h2 : SS V (rO intK 3 pd nd cd (natI ((outD t n).filter fun a => !upD down a)) :: _) w := h.up2
  have h3 := SS.nulls h2 ss
  have e1 : (ss.map fun _ => (⟨none, 0, 0⟩ : Sl)) = (ss.map entA).map (·.p) := by rw [List.map_map]; rfl
  have e2 : (ss.map fun _ => ([] : List SegD)) = (rtD t down n).t.map (·.p) := by
    show _ = ((List.range (nN t)).map fun (d : Nat) => (⟨nxtR t down (n : Int) (d : Int), false, []⟩ : EntD)).map (·.p)
    rw [List.map_map]
    refine List.ext_getElem (by simp [hl]) fun i h1 h2 => by simp
  have e3 : ss = (ss.map entA).map (·.a) := by rw [List.map_map]; exact (List.map_id ss).symm
  have e4 : ((List.range (nN t)).map fun (d : Nat) => natI (nxtR t down (n : Int) (d : Int))) = (rtD t down n).t.map fun e => natI e.a := by
    show _ = ((List.range (nN t)).map fun (d : Nat) => (⟨nxtR t down (n : Int) (d : Int), false, []⟩ : EntD)).map fun e => natI e.a
    rw [List.map_map]; rfl
  have e5 : (ss.map entA).map (·.r) = (rtD t down n).t.map (·.r) := by
    show _ = ((List.range (nN t)).map fun (d : Nat) => (⟨nxtR t down (n : Int) (d : Int), false, []⟩ : EntD)).map (·.r)
    rw [List.map_map, List.map_map]
    refine List.ext_getElem (by simp [hl]) fun i h1 h2 => by simp [entA]
  rw [e1, e2] at h3
  have h4 := h3.up3
  generalize hX : ss.map entA = X at *
  rw [e3, e4] at h4
  exact (h4.up3).fact (cF _) e5
end
set_option maxRecDepth 100000 in
theorem square_any (w : World)   :
    Calls Tryz.prog 23 #[] w fun e w' => ∃ s : Sl, e = .returned (.agg #[.int .i64 4, .slice none 0 0, .slice s.p s.l s.c]) ∧ SS w [rO lnkK 59 s.p s.l s.c ((List.range 4).map lnS)] w' := by
  have hK := SS.start w
  refine Calls.hide (fun Q0 hQ0 => ?_)
  go_enter Tryz.func23, Tryz.ntmps23
  go_upto_region 0 with (fail)
  refine wp_region_T [3] hK ?_
  clear hK
  refine eA (.cells #[.int .i64 0, .slice none 0 0, .slice none 0 0] 25) (fun R1 => ?_)
  refine sxEnd (fun W2 hK => ?_)
  go_upto_region 1 with (fail)
  refine wp_region_T [0, 3, 4] hK ?_
  clear hK
  refine e0 ?_
  refine eA (.cells #[.int .i64 0, .slice none 0 0, .slice none 0 0] 25) (fun R3 => ?_)
  refine eP 0 0 [.int .i64 4, .slice none 0 0, .slice none 0 0] ?_
  refine sxEnd (fun W4 hK => ?_)
  replace hK := hK.fact (rO lnkK 59 none 0 0 ((List.range 0).map lnS)) OwV.nil (fun _ h => by cases h)
  go_wp2_with fail
  go_loopw [2] (fun s2 wl => ∃ (j : Nat) (p : Option Addr) (n_ : Nat) (c : Nat), s2 = .int .i64 (j : Int) ∧ (j ≤ 4) ∧ SS w ([rO lnkK 59 p n_ c ((List.range j).map lnS), bx R3 (.cells #[.int .i64 4, .slice none 0 0, .slice p n_ c] 25), bx R1 (.cells #[.int .i64 0, .slice none 0 0, .slice none 0 0] 25)]) wl) (fun s2 _ => 4 - (intOf s2).toNat)
  case atStart => exact ⟨0, none, 0, 0, rfl, (by omega), hK⟩
  case round =>
   clear hK
   obtain ⟨j, p, n_, c, rfl, hj0, hK⟩ := hrel
   generalize wr = W5 at hK ⊢
   go_upto_region 3 with (fail)
   refine wp_region_T [0, 0] hK ?_
   clear hK
   refine e0 ?_
   refine eB (decide (((j : Int)) < 4)) (fun b1 hb1 => ?_)
   refine sxEnd (fun W6 hK => ?_)
   cases b1
   · --
    have q_b1 : 4 ≤ ((j : Int)) := Int.not_lt.1 (of_decide_eq_false hb1.out)
    go_upto_region 6 with (fail)
    refine wp_region_T [1, 4] hK ?_
    clear hK
    refine eL m1 ?_
    refine eP 2 0 [.int .i64 4, .slice none 0 0, .slice p n_ c] ?_
    refine sxEnd (fun W7 hK => ?_)
    obtain rfl : j = 4 := (by omega); have ⟨c90, c91, c92⟩ := (hK.box m2).c3
    replace hK := hK.subl (sK2 (sC2 (sC2 sZ2)))
    go_wp2
    exact bodyPost_ret (v := .agg #[.int .i64 4, .slice none 0 0, .slice p n_ c]) (by simp [results, Tryz.results23, go_sem, c90, c91, c92]) rfl (by obtain rfl := hQ0.out; exact ⟨⟨p, n_, c⟩, rfl, hK⟩)
   · --
    have q_b1 : ((j : Int)) < 4 := of_decide_eq_true hb1.out
    go_upto_region 5 with (fail)
    refine wp_region_T [0, 1, 0, 0, 0, 0, 0, 0, 3, 5, 0, 4] hK ?_
    clear hK
    refine e0 ?_
    refine eL m1 ?_
    iterate 2 refine e0 ?_
    refine eV (.int .i64 ((j + 1 : Nat) : Int)) (fun w' => by go_simp; (try go_bits); exact ⟨congrArg (Value.int .i64) (by omega), rfl⟩) ?_
    refine eV (.int .i64 (((j + 1) % 4 : Nat) : Int)) (fun w' => by go_simp; (try go_bits); exact ⟨congrArg (Value.int .i64) (by omega), rfl⟩) ?_
    iterate 2 refine e0 ?_
    refine eA (.cells #[.int .i64 (j : Int), .int .i64 (((j + 1) % 4 : Nat) : Int), .int .i64 1, .int .i64 1, .int .i64 3, .int .i64 1, .int .i64 0] 59) (fun R8 => ?_)
    refine eApp 1 lnkK_free rfl infoL (fun w k => k.one1 (K := lnkK) (x := (⟨(j : Int), (((j + 1) % 4 : Nat) : Int), 1, 1, 3, 1, 0⟩ : LnkD)) m0 rfl) (by simp; omega) (fun x9 => ?_)
    obtain ⟨p9, n9, c9⟩ := x9; dsimp only
    refine e0 ?_
    refine eP 2 2 [.slice p9 n9 c9] ?_
    refine sxEnd (fun W10 hK => ?_)
    rw [show ((List.range j).map lnS) ++ [(⟨(j : Int), (((j + 1) % 4 : Nat) : Int), 1, 1, 3, 1, 0⟩ : LnkD)] = ((List.range (j + 1)).map lnS) from (by rw [List.range_succ, List.map_append]; rfl)] at hK
    (try go_wp2)
    go_roundw
    case rel => exact ⟨j + 1, p9, n9, c9, (by first | rfl | go_num), (by omega), (hK.subl (sC2 (List.Sublist.refl _)))⟩
    case measure => simp [intOf] <;> omega
set_option maxRecDepth 100000 in
set_option maxHeartbeats 2000000 in
theorem routes_any (w : World) {v_t : Value} {t : TopD} (ht : TopV w v_t t) {p_d : Option Addr} {n_d c_d : Nat} {down : List Bool} (hd : SlV boolK w (.slice p_d n_d c_d) down) (n : Int) (hl : t.links.length ≤ 100000) :
    Calls Tryz.prog 24 #[v_t, .slice p_d n_d c_d, .int .i64 n] w fun e w' => ∃ z : TbS, e = .returned (.tuple #[z.v (rtR t down n), .int .i64 (chkD t down [n])]) ∧ SS w [tbF z (rtR t down n)] w' := by
  have ht_0 := ht
  obtain ⟨p_t, n_t, c_t, q_t, m_t, d_t, rfl, ht_1, ht_2⟩ := ht_0; have b_t : m_t ≤ 100000 := (by rw [ht_2.one0]; exact hl); have a_t : arcsD t ≤ 200000 := (by unfold arcsD; omega)
  have hK := SS.start w
  refine Calls.hide (fun Q0 hQ0 => ?_)
  go_enter Tryz.func24, Tryz.ntmps24
  go_upto_region 0 with (fail)
  refine wp_region_T [3, 3, 0] hK ?_
  clear hK
  refine eA (.cells #[.int .i64 t.nodes, .slice p_t n_t c_t, .slice q_t m_t d_t] 25) (fun R1 => ?_)
  refine eA (.cells #[.int .i64 0, .slice none 0 0, .slice none 0 0] 62) (fun R2 => ?_)
  refine e0 ?_
  refine sxEnd (fun W3 hK => ?_)
  go_upto_region 1 with (fail)
  refine wp_region_T [1, 1, 0, 0, 1, 0, 1, 0, 0] hK ?_
  clear hK
  refine eL m1 ?_
  obtain ⟨b1, hb1⟩ : ∃ z9 : Bool, RowKit.Hid ((topOk t) = z9) := ⟨_, hid rfl⟩
  refine eQ (v := .bool b1) (fun w k => valid_any w (ht.below k.old) hl) ?_ (hv := by rw [hb1.out])
  iterate 2 refine e0 ?_
  cases b1
  · --
   iterate 4 refine eN ?_
   refine e0 ?_
   refine sxEnd (fun W4 hK => ?_)
   go_upto_region 2 with (fail)
   refine wp_region_T [0, 4, 0] hK ?_
   clear hK
   refine e0 ?_
   refine eP 0 0 [.int .i64 0, .slice none 0 0, .slice none 0 0] ?_
   refine e0 ?_
   refine sxEnd (fun W5 hK => ?_)
   have hce : chkD t down [n] = 1 := chkD_1a hb1.out; replace hK := hK.tb0; have ⟨c90, c91, c92⟩ := (hK.box m1).c3
   go_wp2
   exact bodyPost_ret (v := .tuple #[.agg #[.int .i64 0, .slice none 0 0, .slice none 0 0], .int .i64 1]) (by simp [results, Tryz.results24, go_sem, c90, c91, c92]) rfl (by obtain rfl := hQ0.out; rw [hce, show rtR t down n = ⟨0, [], []⟩ from if_neg (by rw [hce]; decide)]; exact ⟨⟨⟨none, 0, 0⟩, ⟨none, 0, 0⟩, []⟩, rfl, hK.subl (List.cons_sublist_cons.2 (List.nil_sublist _))⟩)
  · --
   refine eL m1 ?_
   refine e0 ?_
   obtain ⟨b2, hb2⟩ : ∃ z9 : Bool, RowKit.Hid ((decide (down.length = 0 ∨ down.length = 2 * t.links.length)) = z9) := ⟨_, hid rfl⟩
   refine eQ (v := .bool b2) (fun w k => fits_any w (ht.below k.old) (hd.below k.old) hl) ?_ (hv := by rw [hb2.out])
   iterate 2 refine e0 ?_
   refine sxEnd (fun W6 hK => ?_)
   cases b2
   · --
    go_upto_region 2 with (fail)
    refine wp_region_T [0, 4, 0] hK ?_
    clear hK
    refine e0 ?_
    refine eP 0 0 [.int .i64 0, .slice none 0 0, .slice none 0 0] ?_
    refine e0 ?_
    refine sxEnd (fun W7 hK => ?_)
    have hce : chkD t down [n] = 1 := chkD_1b hb1.out hb2.out; replace hK := hK.tb0; have ⟨c90, c91, c92⟩ := (hK.box m1).c3
    go_wp2
    exact bodyPost_ret (v := .tuple #[.agg #[.int .i64 0, .slice none 0 0, .slice none 0 0], .int .i64 1]) (by simp [results, Tryz.results24, go_sem, c90, c91, c92]) rfl (by obtain rfl := hQ0.out; rw [hce, show rtR t down n = ⟨0, [], []⟩ from if_neg (by rw [hce]; decide)]; exact ⟨⟨⟨none, 0, 0⟩, ⟨none, 0, 0⟩, []⟩, rfl, hK.subl (List.cons_sublist_cons.2 (List.nil_sublist _))⟩)
   · --
    go_upto_region 3 with (fail)
    refine wp_region_T [1, 0, 1, 0] hK ?_
    clear hK
    refine eL m1 ?_
    refine e0 ?_
    obtain ⟨b3, hb3⟩ : ∃ z9 : Bool, RowKit.Hid ((decide (0 ≤ n) && decide (n < t.nodes)) = z9) := ⟨_, hid rfl⟩
    refine eQ (v := .bool b3) (fun w k => node_any w (ht.below k.old) n hl) ?_ (hv := by rw [hb3.out])
    refine e0 ?_
    refine sxEnd (fun W8 hK => ?_)
    cases b3
    · --
     go_upto_region 4 with (fail)
     refine wp_region_T [0, 4, 0] hK ?_
     clear hK
     refine e0 ?_
     refine eP 0 0 [.int .i64 0, .slice none 0 0, .slice none 0 0] ?_
     refine e0 ?_
     refine sxEnd (fun W9 hK => ?_)
     have hce : chkD t down [n] = 2 := chkD_2 hb1.out hb2.out hb3.out; replace hK := hK.tb0; have ⟨c90, c91, c92⟩ := (hK.box m1).c3
     go_wp2
     exact bodyPost_ret (v := .tuple #[.agg #[.int .i64 0, .slice none 0 0, .slice none 0 0], .int .i64 2]) (by simp [results, Tryz.results24, go_sem, c90, c91, c92]) rfl (by obtain rfl := hQ0.out; rw [hce, show rtR t down n = ⟨0, [], []⟩ from if_neg (by rw [hce]; decide)]; exact ⟨⟨⟨none, 0, 0⟩, ⟨none, 0, 0⟩, []⟩, rfl, hK.subl (List.cons_sublist_cons.2 (List.nil_sublist _))⟩)
    · --
     have hc := hid (chkD_ok hb1.out hb2.out hb3.out); have hok := hid (chk_ok hc.out); obtain ⟨n1, rfl⟩ : ∃ k : Nat, n = (k : Int) := ⟨n.toNat, (Int.toNat_of_nonneg hok.out.2.2.1).symm⟩; have ht2 := hok.out.1; have hn1 : n1 < nN t := (by have q := hok.out.2.2.2; rw [(topN ht2).1] at q; omega); have hnm := (topN ht2).2.2.1; have hnt := hid (topN ht2).1; have hnt1 : t.nodes ≤ (nN t : Int) := Int.le_of_eq hnt.out; have hnt2 : (nN t : Int) ≤ t.nodes := Int.le_of_eq hnt.out.symm
     go_upto_region 5 with (fail)
     refine wp_region_T [0, 0, 3, 4] hK ?_
     clear hK
     iterate 2 refine e0 ?_
     refine eA (.cells #[.int .i64 0, .slice none 0 0, .slice none 0 0] 62) (fun R10 => ?_)
     refine eP 0 0 [.int .i64 (n1 : Int), .slice none 0 0, .slice none 0 0] ?_
     refine sxEnd (fun W11 hK => ?_)
     go_upto_region 6 with (fail)
     refine wp_region_T [0, 1, 0] hK ?_
     clear hK
     refine e0 ?_
     refine eL m2 ?_
     refine e0 ?_
     refine sxEnd (fun W12 hK => ?_)
     replace hK := hK.fact (rO entK 66 none 0 0 (([] : List Sl).map entA)) OwV.nil (fun _ h => by cases h)
     replace hK := hK.rs0 intK 3
     go_wp2_with fail
     go_loopw [33] (fun s33 wl => ∃ (dd : Nat) (pt : Option Addr) (nt : Nat) (ct : Nat) (ss : List Sl), s33 = .int .i64 (dd : Int) ∧ (dd ≤ nN t) ∧ RowKit.Hid (ss.length = dd) ∧ SS w ([rsF intK 3 ss ((List.range dd).map fun (d : Nat) => natI (nxtR t down (n1 : Int) (d : Int))), rO entK 66 pt nt ct (ss.map entA), bx R10 (.cells #[.int .i64 (n1 : Int), .slice pt nt ct, .slice none 0 0] 62), bx R2 (.cells #[.int .i64 0, .slice none 0 0, .slice none 0 0] 62), bx R1 (.cells #[.int .i64 t.nodes, .slice p_t n_t c_t, .slice q_t m_t d_t] 25)]) wl) (fun s33 _ => nN t - (intOf s33).toNat)
     case atStart => exact ⟨0, none, 0, 0, ([] : List Sl), rfl, (by omega), hid rfl, hK⟩
     case round =>
      clear hK
      obtain ⟨dd, pt, nt, ct, ss, rfl, hd0, h_l, hK⟩ := hrel
      generalize wr = W13 at hK ⊢
      go_upto_region 7 with (fail)
      refine wp_region_T [0] hK ?_
      clear hK
      refine eB (decide (((dd : Int)) < t.nodes)) (fun b4 hb4 => ?_)
      refine sxEnd (fun W14 hK => ?_)
      cases b4
      · --
       have q_b4 : t.nodes ≤ ((dd : Int)) := Int.not_lt.1 (of_decide_eq_false hb4.out)
       go_upto_region 12 with (fail)
       refine wp_region_T [1, 0, 2, 0, 0] hK ?_
       clear hK
       refine eL m4 ?_
       refine e0 ?_
       refine eC (fun w k => out_any w (ht.below k.old) n1 hl ht2) (fun x15 => ?_)
       obtain ⟨p16, n16, c16⟩ := x15; dsimp only
       iterate 2 refine e0 ?_
       refine sxEnd (fun W17 hK => ?_)
       have hol := hid ((hK.len m0).trans (natI_len _)); have hol1 := Nat.le_of_eq hol.out; have hol2 := Nat.le_of_eq hol.out.symm; have hob := out_lenW t n1; have hlk := (topN ht2).2.2.2.2
       replace hK := hK.fact (rO intK 3 none 0 0 (natI (dwnL t down n1 0))) OwV.nil (fun _ h => by cases h)
       go_wp2_with fail
       go_loopw [56] (fun s56 wl => ∃ (k : Nat) (pd : Option Addr) (nd : Nat) (cd : Nat), s56 = .int .i64 (k : Int) ∧ (k ≤ n16) ∧ SS w ([rO intK 3 pd nd cd (natI (dwnL t down n1 k)), rO intK 3 p16 n16 c16 (natI (outD t n1)), rsF intK 3 ss ((List.range dd).map fun (d : Nat) => natI (nxtR t down (n1 : Int) (d : Int))), rO entK 66 pt nt ct (ss.map entA), bx R10 (.cells #[.int .i64 (n1 : Int), .slice pt nt ct, .slice pd nd cd] 62), bx R2 (.cells #[.int .i64 0, .slice none 0 0, .slice none 0 0] 62), bx R1 (.cells #[.int .i64 t.nodes, .slice p_t n_t c_t, .slice q_t m_t d_t] 25)]) wl) (fun s56 _ => n16 - (intOf s56).toNat)
       case atStart => exact ⟨0, none, 0, 0, rfl, (by omega), hK⟩
       case round =>
        clear hK
        obtain ⟨k, pd, nd, cd, rfl, hk0, hK⟩ := hrel
        generalize wr = W18 at hK ⊢
        go_upto_region 13 with (fail)
        refine wp_region_T [0] hK ?_
        clear hK
        refine eB (decide (((k : Int)) < ((n16 : Int)))) (fun b5 hb5 => ?_)
        refine sxEnd (fun W19 hK => ?_)
        cases b5
        · --
         have q_b5 : ((n16 : Int)) ≤ ((k : Int)) := Int.not_lt.1 (of_decide_eq_false hb5.out)
         go_upto_region 18 with (fail)
         refine wp_region_T [1, 4, 0] hK ?_
         clear hK
         refine eL m4 ?_
         refine eP 5 0 [.int .i64 (n1 : Int), .slice pt nt ct, .slice pd nd cd] ?_ (hq := .inr ⟨rfl, rfl, rfl, rfl, rfl, rfl, trivial⟩)
         refine e0 ?_
         refine sxEnd (fun W20 hK => ?_)
         have ⟨c90, c91, c92⟩ := (hK.box m5).c3; have hde : dd = nN t := (by omega); have hke : k = (outD t n1).length := (by have q := hol.out; omega); rw [hde, hke, dwn_all] at hK; rw [hde] at h_l; have hl9 := h_l.out
         replace hK := hK.subl (sK2 (sC2 (sK2 (sK2 (sC2 (sC2 (sC2 sZ2)))))))
         replace hK := hK.up1
         replace hK := hK.up2
         go_wp2
         exact bodyPost_ret (v := .tuple #[.agg #[.int .i64 (n1 : Int), .slice pt nt ct, .slice pd nd cd], .int .i64 0]) (by simp [results, Tryz.results24, go_sem, c90, c91, c92]) rfl (by obtain rfl := hQ0.out; rw [hc.out, show rtR t down (n1 : Int) = rtD t down n1 from if_pos hc.out]; exact ⟨⟨⟨pt, nt, ct⟩, ⟨pd, nd, cd⟩, ss.map entA⟩, rfl, hK.routes hl9⟩)
        · --
         have q_b5 : ((k : Int)) < ((n16 : Int)) := of_decide_eq_true hb5.out
         have i21 : k < n16 := (by omega)
         obtain ⟨g21, rfl⟩ := hK.pt m1 i21
         have l21 : k < (natI (outD t n1)).length := Nat.lt_of_lt_of_eq i21 (hK.len m1)
         obtain ⟨xa, exa⟩ : ∃ z0, RowKit.Hid ((natI (outD t n1))[k]? = some z0) := ⟨_, hid (List.getElem?_eq_getElem l21)⟩
         obtain ⟨a, ha1, rfl⟩ := natI_at exa.out; have ea1 := hid ha1; have haA := out_arc (List.mem_of_getElem? ha1); clear ha1
         go_upto_region 14 with (fail)
         refine wp_region_T [0, 1, 0] hK ?_
         clear hK
         refine e0 ?_
         refine eR (fun w k => (k.own m1).int exa.out) ?_
         refine e0 ?_
         refine sxEnd (fun W22 hK => ?_)
         go_upto_region 15 with (fail)
         refine wp_region_T [0, 0, 1] hK ?_
         clear hK
         iterate 2 refine e0 ?_
         obtain ⟨b6, hb6⟩ : ∃ z9 : Bool, RowKit.Hid ((!upD down a) = z9) := ⟨_, hid rfl⟩
         refine eQ (v := .bool b6) (fun w k => down_any w (hd.below k.old) a (by have q := hok.out.2.1; omega)) ?_ (hv := by rw [hb6.out])
         refine sxEnd (fun W23 hK => ?_)
         cases b6
         · --
          rw [show natI (dwnL t down n1 k) = natI (dwnL t down n1 (k + 1)) from (by rw [dwn_up ea1.out hb6.out])] at hK
          (try go_wp2)
          go_roundw
          case rel => exact ⟨k + 1, pd, nd, cd, (by first | rfl | go_num), (by omega), hK⟩
          case measure => simp [intOf] <;> omega
         · --
          go_upto_region 16 with (fail)
          refine wp_region_T [0, 1, 0, 3, 5, 0, 4] hK ?_
          clear hK
          refine e0 ?_
          refine eL m4 ?_
          refine e0 ?_
          refine eA (.cells #[.int .i64 (a : Int)] 3) (fun R24 => ?_)
          refine eApp 1 intK_free rfl infoZ (fun w k => k.one1 (K := intK) (x := (a : Int)) m0 rfl) (by rw [natI_len]; have q := dwn_len (t := t) (down := down) (n := n1) (k := k); have q2 : arcsD t = 2 * t.links.length := rfl; simp; omega) (fun x25 => ?_)
          obtain ⟨p25, n25, c25⟩ := x25; dsimp only
          refine e0 ?_
          refine eP 5 2 [.slice p25 n25 c25] ?_ (hq := .inr ⟨rfl, rfl, rfl, rfl, rfl, rfl, rfl, trivial⟩)
          refine sxEnd (fun W26 hK => ?_)
          rw [show (natI (dwnL t down n1 k)) ++ [(a : Int)] = natI (dwnL t down n1 (k + 1)) from (by rw [natI_snoc, dwn_no ea1.out hb6.out])] at hK
          (try go_wp2)
          go_roundw
          case rel => exact ⟨k + 1, p25, n25, c25, (by first | rfl | go_num), (by omega), (hK.subl (sC2 (List.Sublist.refl _)))⟩
          case measure => simp [intOf] <;> omega
      · --
       have q_b4 : ((dd : Int)) < t.nodes := of_decide_eq_true hb4.out
       go_upto_region 9 with (fail)
       refine wp_region_T [1, 0, 0, 0, 2, 0, 0, 0, 0, 0] hK ?_
       clear hK
       refine eL m4 ?_
       iterate 3 refine e0 ?_
       refine eC (fun w k => nextR_any w (ht.below k.old) (hd.below k.old) (n1 : Int) (dd : Int) hl) (fun x27 => ?_)
       obtain ⟨p28, n28, c28⟩ := x27; dsimp only
       iterate 5 refine e0 ?_
       refine sxEnd (fun W29 hK => ?_)
       go_upto_region 10 with (fail)
       refine wp_region_T [0, 1, 0, 0, 3, 5, 0, 4] hK ?_
       clear hK
       refine e0 ?_
       refine eL m3 ?_
       iterate 2 refine e0 ?_
       refine eA (.cells #[.slice p28 n28 c28, .bool false, .slice none 0 0] 66) (fun R30 => ?_)
       refine eApp 3 entK_free rfl infoEnt (fun w k => k.one1 (K := entK) (x := (⟨⟨p28, n28, c28⟩, false, ⟨none, 0, 0⟩⟩ : EntW)) m0 rfl) (by rw [List.length_map, h_l.out]; simp; omega) (fun x31 => ?_)
       obtain ⟨p31, n31, c31⟩ := x31; dsimp only
       refine e0 ?_
       refine eP 4 1 [.slice p31 n31 c31] ?_ (hq := .inr ⟨rfl, rfl, rfl, rfl, rfl, rfl, trivial⟩)
       refine sxEnd (fun W32 hK => ?_)
       rw [show (ss.map entA) ++ [(⟨⟨p28, n28, c28⟩, false, ⟨none, 0, 0⟩⟩ : EntW)] = (ss ++ [(⟨p28, n28, c28⟩ : Sl)]).map entA from (by rw [List.map_append]; rfl)] at hK
       replace hK := hK.up2
       replace hK := hK.up2
       replace hK := SS.rsN (s := ⟨p28, n28, c28⟩) (xs := natI (nxtR t down (n1 : Int) (dd : Int))) hK (by rw [h_l.out, List.length_map, List.length_range])
       rw [show ((List.range dd).map fun (d : Nat) => natI (nxtR t down (n1 : Int) (d : Int))) ++ [natI (nxtR t down (n1 : Int) (dd : Int))] = (List.range (dd + 1)).map fun (d : Nat) => natI (nxtR t down (n1 : Int) (d : Int)) from (by rw [List.range_succ, List.map_append]; rfl)] at hK
       (try go_wp2)
       go_roundw
       case rel => exact ⟨dd + 1, p31, n31, c31, (ss ++ [(⟨p28, n28, c28⟩ : Sl)]), (by first | rfl | go_num), (by omega), hid (by rw [List.length_append, h_l.out]; rfl), (hK.subl (sK2 (sC2 (List.Sublist.refl _))))⟩
       case measure => simp [intOf] <;> omega
end Go.Proofs.YtmcfomainmppdaaGreatDoor
