/- Tables in the state Repair. -/
import Derived.Test.YtmcfomainmppdaaGreatDoorFWqD
namespace Go.Proofs.YtmcfomainmppdaaGreatDoor
open Go.RowKit
open Go.Lib (decDigits)
section
variable {t : TopD} {m : List Bool} {n k a : Nat}
def dwM (t : TopD) (m : List Bool) (n k : Nat) : List Nat := ((outD t n).take k).filter fun a => m.getD a false
theorem dwM_all : dwM t m n (outD t n).length = (outD t n).filter fun a => m.getD a false := by unfold dwM; rw [List.take_length]
theorem dwM_yes (h : (outD t n)[k]? = some a) (hu : m.getD a false = true) : dwM t m n k ++ [a] = dwM t m n (k + 1) := by
  obtain ⟨hk, e⟩ := List.getElem?_eq_some_iff.1 h
  unfold dwM
  rw [List.take_succ_eq_append_getElem hk, e, List.filter_append, List.filter_cons, if_pos hu]; rfl
theorem dwM_no (h : (outD t n)[k]? = some a) (hu : m.getD a false = false) : dwM t m n k = dwM t m n (k + 1) := by
  obtain ⟨hk, e⟩ := List.getElem?_eq_some_iff.1 h
  unfold dwM
  rw [List.take_succ_eq_append_getElem hk, e, List.filter_append, List.filter_cons, if_neg (by rw [hu]; decide), List.filter_nil, List.append_nil]
theorem dwM_len : (dwM t m n k).length ≤ k := by unfold dwM; exact Nat.le_trans (List.length_filter_le _ _) (by rw [List.length_take]; omega)
theorem detK_len : (detK t m n k).length = arcsD t := by unfold detK; simp
theorem detK_0 : detK t m n 0 = List.replicate (arcsD t) false := by
  unfold detK
  apply List.ext_getElem (by simp)
  intro i h1 h2
  simp
theorem detK_at {i : Nat} (hi : i < (detK t m n k).length) : (detK t m n k)[i] = (decide (i ∈ (outD t n).take k) && m.getD i false) := by unfold detK; simp
theorem mem_take1 {l : List Nat} {i : Nat} (h : l[k]? = some a) : i ∈ l.take (k + 1) ↔ i ∈ l.take k ∨ i = a := by
  obtain ⟨hk, e⟩ := List.getElem?_eq_some_iff.1 h
  rw [List.take_succ_eq_append_getElem hk, e, List.mem_append, List.mem_singleton]
theorem detK_no (h : (outD t n)[k]? = some a) (hu : m.getD a false = false) : detK t m n k = detK t m n (k + 1) := by
  apply List.ext_getElem (by rw [detK_len, detK_len])
  intro i h1 h2
  rw [detK_at h1, detK_at h2]
  by_cases e : i = a
  · rw [e, hu, Bool.and_false, Bool.and_false]
  · congr 1
    exact decide_eq_decide.2 ⟨fun q => (mem_take1 h).2 (.inl q), fun q => ((mem_take1 h).1 q).resolve_right e⟩
theorem detK_yes (ha : a < arcsD t) (h : (outD t n)[k]? = some a) (hu : m.getD a false = true) : (detK t m n k).set a true = detK t m n (k + 1) := by
  apply List.ext_getElem (by simp [detK_len])
  intro i h1 h2
  rw [List.getElem_set, detK_at h2]
  have hi : i < (detK t m n k).length := by rw [detK_len] at h2 ⊢; exact h2
  by_cases e : a = i
  · rw [if_pos e, ← e, hu, Bool.and_true]
    exact (decide_eq_true ((mem_take1 h).2 (.inr rfl))).symm
  · rw [if_neg e, detK_at hi]
    congr 1
    exact decide_eq_decide.2 ⟨fun q => (mem_take1 h).2 (.inl q), fun q => ((mem_take1 h).1 q).resolve_right (Ne.symm e)⟩
end
set_option maxRecDepth 100000 in
set_option maxHeartbeats 4000000 in
theorem rtable_any (w : World) {t : TopD} {p_t : Option Addr} {n_t c_t : Nat} {q_t : Option Addr} {m_t d_t : Nat} (ht : TopV w (.agg #[.int .i64 t.nodes, .slice p_t n_t c_t, .slice q_t m_t d_t]) t) {c : CmpD} (n1 : Nat) (hl : t.links.length ≤ 100000) (ht2 : topOk t = true) (hwc : winB t c = true) (hg0 : ∀ x ∈ t.links, x.grp = 0) (hn1 : n1 < nN t) :
    Calls Tryz.prog 25 #[.agg #[.int .i64 t.nodes, .slice p_t n_t c_t, .slice q_t m_t d_t], .agg #[.int .i64 c.k, .int .i64 c.n], .int .i64 (n1 : Int)] w fun e w' => ∃ z : TbS, e = .returned (.tuple #[z.v (repD t c n1), .int .i64 0]) ∧ SS w [tbF z (repD t c n1)] w' := by
  have ht_1 := ht.parts.1; have ht_2 := ht.parts.2; have b_t : m_t ≤ 100000 := (by rw [ht_2.one0]; exact hl); have a_t : arcsD t ≤ 200000 := (by unfold arcsD; omega)
  have hK := SS.start w
  have hnt := hid (topN ht2).1; have hnt1 : t.nodes ≤ (nN t : Int) := Int.le_of_eq hnt.out; have hnt2 : (nN t : Int) ≤ t.nodes := Int.le_of_eq hnt.out.symm; have hnm := (topN ht2).2.2.1; have hnd : (decide (0 ≤ ((n1 : Nat) : Int)) && decide (((n1 : Nat) : Int) < t.nodes)) = true := (by have q := hnt.out; simp; omega)
  refine Calls.hide (fun Q0 hQ0 => ?_)
  go_enter Tryz.func25, Tryz.ntmps25
  go_upto_region 0 with (fail)
  refine wp_region_T [3, 3, 3, 0] hK ?_
  clear hK
  refine eA (.cells #[.int .i64 t.nodes, .slice p_t n_t c_t, .slice q_t m_t d_t] 25) (fun R1 => ?_)
  refine eA (.cells #[.int .i64 c.k, .int .i64 c.n] 44) (fun R2 => ?_)
  refine eA (.cells #[.int .i64 0, .slice none 0 0, .slice none 0 0] 62) (fun R3 => ?_)
  refine e0 ?_
  refine sxEnd (fun W4 hK => ?_)
  go_upto_region 1 with (fail)
  refine wp_region_T [1, 1, 2, 0, 0, 0, 0, 0] hK ?_
  clear hK
  refine eL m2 ?_
  refine eL m1 ?_
  refine eC (fun w k => mask_any w (ht.below k.old) (c := c) hl ht2 hwc) (fun x5 => ?_)
  obtain ⟨p6, n6, c6⟩ := x5; dsimp only
  iterate 5 refine e0 ?_
  refine sxEnd (fun W7 hK => ?_)
  go_upto_region 2 with (fail)
  refine wp_region_T [0, 0] hK ?_
  clear hK
  iterate 2 refine e0 ?_
  refine sxEnd (fun W8 hK => ?_)
  go_upto_region 4 with (fail)
  refine wp_region_T [1, 0, 1, 0] hK ?_
  clear hK
  refine eL m3 ?_
  refine e0 ?_
  refine eQ (fun w k => (node_any w (ht.below k.old) n1 hl).mono fun _ _ q => by rw [hnd] at q; exact q) ?_
  refine e0 ?_
  refine sxEnd (fun W9 hK => ?_)
  go_upto_region 6 with (fail)
  refine wp_region_T [0, 0, 3, 4] hK ?_
  clear hK
  iterate 2 refine e0 ?_
  refine eA (.cells #[.int .i64 0, .slice none 0 0, .slice none 0 0] 62) (fun R10 => ?_)
  refine eP 0 0 [.int .i64 (n1 : Int), .slice none 0 0, .slice none 0 0] ?_
  refine sxEnd (fun W11 hK => ?_)
  go_upto_region 7 with (fail)
  refine wp_region_T [1, 1, 3, 0] hK ?_
  clear hK
  refine eL m4 ?_
  refine eQ (fun w k => arcs_any w (ht.below k.old) hl) ?_
  refine eMk (K := boolK) (t := 4) (x := false) (arcsD t) (fun _ => rfl) rfl infoT (by show arcsD t * 1 ≤ 16777216; omega) (by decide) (fun g12 => ?_)
  refine e0 ?_
  refine sxEnd (fun W13 hK => ?_)
  replace hK := hK.made (K := boolK) (n := (arcsD t)) (fun _ => rfl) (by simp [maxLen]; omega)
  go_upto_region 8 with (fail)
  refine wp_region_T [1, 0, 2, 0, 0] hK ?_
  clear hK
  refine eL m5 ?_
  refine e0 ?_
  refine eC (fun w k => out_any w (ht.below k.old) n1 hl ht2) (fun x14 => ?_)
  obtain ⟨p15, n15, c15⟩ := x14; dsimp only
  iterate 2 refine e0 ?_
  refine sxEnd (fun W16 hK => ?_)
  have hol := hid ((hK.len m0).trans (natI_len _)); have hol1 := Nat.le_of_eq hol.out; have hol2 := Nat.le_of_eq hol.out.symm; have hob := out_lenW t n1; have hml := hid ((hK.len m3).trans mskD_len); have hml1 := Nat.le_of_eq hml.out; have hml2 := Nat.le_of_eq hml.out.symm
  rw [show List.replicate (arcsD t) false = detK t (mskD t c) n1 0 from detK_0.symm] at hK
  replace hK := hK.fact (rO intK 3 none 0 0 (natI (dwM t (mskD t c) n1 0))) OwV.nil (fun _ h => by cases h)
  go_wp2_with fail
  go_loopw [39] (fun s39 wl => ∃ (kx : Nat) (pd : Option Addr) (nd : Nat) (cd : Nat), s39 = .int .i64 (kx : Int) ∧ (kx ≤ n15) ∧ SS w ([rO intK 3 pd nd cd (natI (dwM t (mskD t c) n1 kx)), rO intK 3 p15 n15 c15 (natI (outD t n1)), rO boolK 4 (some ⟨g12, 0, none⟩) (arcsD t) (arcsD t) (detK t (mskD t c) n1 kx), bx R10 (.cells #[.int .i64 (n1 : Int), .slice none 0 0, .slice pd nd cd] 62), rO boolK 4 p6 n6 c6 (mskD t c), bx R3 (.cells #[.int .i64 0, .slice none 0 0, .slice none 0 0] 62), bx R2 (.cells #[.int .i64 c.k, .int .i64 c.n] 44), bx R1 (.cells #[.int .i64 t.nodes, .slice p_t n_t c_t, .slice q_t m_t d_t] 25)]) wl) (fun s39 _ => n15 - (intOf s39).toNat)
  case atStart => exact ⟨0, none, 0, 0, rfl, (by omega), hK⟩
  case round =>
   clear hK
   obtain ⟨kx, pd, nd, cd, rfl, hk0, hK⟩ := hrel
   generalize wr = W17 at hK ⊢
   go_upto_region 9 with (fail)
   refine wp_region_T [0] hK ?_
   clear hK
   refine eB (decide (((kx : Int)) < ((n15 : Int)))) (fun b1 hb1 => ?_)
   refine sxEnd (fun W18 hK => ?_)
   cases b1
   · --
    have q_b1 : ((n15 : Int)) ≤ ((kx : Int)) := Int.not_lt.1 (of_decide_eq_false hb1.out)
    go_upto_region 15 with (fail)
    refine wp_region_T [0, 1, 0] hK ?_
    clear hK
    refine e0 ?_
    refine eL m7 ?_
    refine e0 ?_
    refine sxEnd (fun W19 hK => ?_)
    have hke : kx = (outD t n1).length := (by omega)
    rw [show detK t (mskD t c) n1 kx = detD t (mskD t c) n1 from (by rw [hke]; rfl)] at hK
    rw [show natI (dwM t (mskD t c) n1 kx) = natI ((outD t n1).filter fun a => (mskD t c).getD a false) from (by rw [hke, dwM_all])] at hK
    replace hK := hK.subl (sK2 (sC2 (sK2 (sK2 (sC2 (List.Sublist.refl _))))))
    replace hK := hK.fact (rO entK 66 none 0 0 ([] : List EntW)) OwV.nil (fun _ h => by cases h)
    replace hK := (hK.rs0 segK 83).vs0 intK
    have hdl0 : (detD t (mskD t c) n1).length = arcsD t := detK_len
    go_wp2_with fail
    go_loopw [59] (fun s59 wl => ∃ (dd : Nat) (pt : Option Addr) (nt : Nat) (ct : Nat) (ws : List EntW), s59 = .int .i64 (dd : Int) ∧ (dd ≤ nN t) ∧ RowKit.Hid (ws.length = dd) ∧ RowKit.Hid (ws.map (·.r) = ((List.range dd).map fun (d : Nat) => entR t (detD t (mskD t c) n1) n1 d).map (·.r)) ∧ SS w ([vsF intK (ws.map (·.a)) (((List.range dd).map fun (d : Nat) => entR t (detD t (mskD t c) n1) n1 d).map fun e => natI e.a), rsF segK 83 (ws.map (·.p)) (((List.range dd).map fun (d : Nat) => entR t (detD t (mskD t c) n1) n1 d).map (·.p)), rO entK 66 pt nt ct ws, rO intK 3 pd nd cd (natI ((outD t n1).filter fun a => (mskD t c).getD a false)), rO boolK 4 (some ⟨g12, 0, none⟩) (arcsD t) (arcsD t) (detD t (mskD t c) n1), bx R10 (.cells #[.int .i64 (n1 : Int), .slice pt nt ct, .slice pd nd cd] 62), bx R3 (.cells #[.int .i64 0, .slice none 0 0, .slice none 0 0] 62), bx R2 (.cells #[.int .i64 c.k, .int .i64 c.n] 44), bx R1 (.cells #[.int .i64 t.nodes, .slice p_t n_t c_t, .slice q_t m_t d_t] 25)]) wl) (fun s59 _ => nN t - (intOf s59).toNat)
    case atStart => exact ⟨0, none, 0, 0, ([] : List EntW), rfl, (by omega), hid rfl, hid rfl, hK⟩
    case round =>
     clear hK
     obtain ⟨dd, pt, nt, ct, ws, rfl, hd0, h_l, h_r, hK⟩ := hrel
     generalize wr = W20 at hK ⊢
     go_upto_region 16 with (fail)
     refine wp_region_T [0] hK ?_
     clear hK
     refine eB (decide (((dd : Int)) < t.nodes)) (fun b2 hb2 => ?_)
     refine sxEnd (fun W21 hK => ?_)
     cases b2
     · --
      have q_b2 : t.nodes ≤ ((dd : Int)) := Int.not_lt.1 (of_decide_eq_false hb2.out)
      go_upto_region 20 with (fail)
      refine wp_region_T [1, 4, 0] hK ?_
      clear hK
      refine eL m5 ?_
      refine eP 6 0 [.int .i64 (n1 : Int), .slice pt nt ct, .slice pd nd cd] ?_ (hq := .inr ⟨rfl, rfl, rfl, rfl, rfl, rfl, rfl, rfl, trivial⟩)
      refine e0 ?_
      refine sxEnd (fun W22 hK => ?_)
      have ⟨c90, c91, c92⟩ := (hK.box m6).c3; have hde : dd = nN t := (by omega)
      replace hK := hK.subl (sK2 (sK2 (sK2 (sK2 (sC2 (sC2 (sC2 (sC2 (sC2 sZ2)))))))))
      replace hK := hK.up3
      replace hK := hK.up2
      replace hK := hK.up2
      replace hK := hK.up3
      rw [hde] at hK h_r
      go_wp2
      exact bodyPost_ret (v := .tuple #[.agg #[.int .i64 (n1 : Int), .slice pt nt ct, .slice pd nd cd], .int .i64 0]) (by simp [results, Tryz.results25, go_sem, c90, c91, c92]) rfl (by obtain rfl := hQ0.out; exact ⟨⟨⟨pt, nt, ct⟩, ⟨pd, nd, cd⟩, ws⟩, rfl, SS.star.2 (hK.fact (cF (ws.map (·.r) = (repD t c n1).t.map (·.r))) h_r.out)⟩)
     · --
      have q_b2 : ((dd : Int)) < t.nodes := of_decide_eq_true hb2.out
      go_upto_region 18 with (fail)
      refine wp_region_S _ [0, 1, 0, 0, 0, 0, 2, 3, 5, 0, 4] hK ?_ (sK2 (sK2 (sC2 (sK2 (sK2 (sC2 (List.Sublist.refl _)))))))
      clear hK
      refine e0 ?_
      refine eL m5 ?_
      refine eL0 m6 ?_
      iterate 3 refine e0 ?_
      refine eC (fun w k => entryR_any w (ht.below k.old) (k.slv m4) n1 dd hl ht2 hg0 hdl0 hn1 (by omega)) (fun x23 => ?_)
      obtain ⟨⟨ap24, al24, ac24⟩, ⟨bp24, bl24, bc24⟩⟩ := x23; dsimp only
      refine eA (.cells #[.slice ap24 al24 ac24, .bool (entR t (detD t (mskD t c) n1) n1 dd).r, .slice bp24 bl24 bc24] 66) (fun R25 => ?_)
      refine eApp 5 entK_free rfl infoEnt (fun w k => k.one1 (K := entK) (x := (⟨⟨ap24, al24, ac24⟩, (entR t (detD t (mskD t c) n1) n1 dd).r, ⟨bp24, bl24, bc24⟩⟩ : EntW)) m0 rfl) (by rw [h_l.out]; simp; omega) (fun x26 => ?_) (hs := fun _ => (sC2 (sC2 (sC2 (sK2 (sK2 (sC2 (sK2 (sK2 (sC2 (List.Sublist.refl _)))))))))))
      obtain ⟨p26, n26, c26⟩ := x26; dsimp only
      refine e0 ?_
      refine eP 8 1 [.slice p26 n26 c26] ?_ (hs := (sC2 (sC2 (sC2 (sK2 (sK2 (sC2 (sK2 (sK2 (sC2 (List.Sublist.refl _))))))))))) (hq := .inr ⟨rfl, rfl, rfl, rfl, rfl, rfl, rfl, rfl, rfl, rfl, rfl, trivial⟩)
      refine sxEnd (fun W27 hK => ?_)
      replace hK := hK.up4
      replace hK := hK.up3
      replace hK := SS.rsN (s := ⟨bp24, bl24, bc24⟩) (xs := (entR t (detD t (mskD t c) n1) n1 dd).p) hK (by rw [List.length_map, List.length_map, List.length_map, List.length_range, h_l.out])
      rw [show (ws.map (·.p)) ++ [(⟨bp24, bl24, bc24⟩ : Sl)] = (ws ++ [(⟨⟨ap24, al24, ac24⟩, (entR t (detD t (mskD t c) n1) n1 dd).r, ⟨bp24, bl24, bc24⟩⟩ : EntW)]).map (·.p) from by rw [List.map_append]; rfl, show (((List.range dd).map fun (d : Nat) => entR t (detD t (mskD t c) n1) n1 d).map (·.p)) ++ [(entR t (detD t (mskD t c) n1) n1 dd).p] = ((List.range (dd + 1)).map fun (d : Nat) => entR t (detD t (mskD t c) n1) n1 d).map (·.p) from by rw [List.range_succ, List.map_append, List.map_append]; rfl] at hK
      replace hK := hK.up3
      replace hK := hK.up3
      replace hK := SS.vsN (s := ⟨ap24, al24, ac24⟩) (xs := natI (entR t (detD t (mskD t c) n1) n1 dd).a) hK (by rw [List.length_map, List.length_map, List.length_map, List.length_range, h_l.out])
      rw [show (ws.map (·.a)) ++ [(⟨ap24, al24, ac24⟩ : Sl)] = (ws ++ [(⟨⟨ap24, al24, ac24⟩, (entR t (detD t (mskD t c) n1) n1 dd).r, ⟨bp24, bl24, bc24⟩⟩ : EntW)]).map (·.a) from by rw [List.map_append]; rfl, show (((List.range dd).map fun (d : Nat) => entR t (detD t (mskD t c) n1) n1 d).map fun e => natI e.a) ++ [natI (entR t (detD t (mskD t c) n1) n1 dd).a] = ((List.range (dd + 1)).map fun (d : Nat) => entR t (detD t (mskD t c) n1) n1 d).map fun e => natI e.a from by rw [List.range_succ, List.map_append, List.map_append]; rfl] at hK
      (try go_wp2)
      go_roundw
      case rel => exact ⟨dd + 1, p26, n26, c26, (ws ++ [(⟨⟨ap24, al24, ac24⟩, (entR t (detD t (mskD t c) n1) n1 dd).r, ⟨bp24, bl24, bc24⟩⟩ : EntW)]), (by first | rfl | go_num), (by omega), hid (by rw [List.length_append, h_l.out]; rfl), hid (by rw [List.map_append, h_r.out, List.range_succ, List.map_append, List.map_append]; rfl), (hK.subl (sK2 (sK2 (sC2 (List.Sublist.refl _)))))⟩
      case measure => simp [intOf] <;> omega
   · --
    have q_b1 : ((kx : Int)) < ((n15 : Int)) := of_decide_eq_true hb1.out
    have i28 : kx < n15 := (by omega)
    obtain ⟨g28, rfl⟩ := hK.pt m1 i28
    have l28 : kx < (natI (outD t n1)).length := Nat.lt_of_lt_of_eq i28 (hK.len m1)
    obtain ⟨xa, exa⟩ : ∃ z0, RowKit.Hid ((natI (outD t n1))[kx]? = some z0) := ⟨_, hid (List.getElem?_eq_getElem l28)⟩
    obtain ⟨a, ha1, rfl⟩ := natI_at exa.out; have ea1 := hid ha1; have haA := out_arc (List.mem_of_getElem? ha1); clear ha1
    go_upto_region 10 with (fail)
    refine wp_region_T [0, 1, 0] hK ?_
    clear hK
    refine e0 ?_
    refine eR (fun w k => (k.own m1).int exa.out) ?_
    refine e0 ?_
    refine sxEnd (fun W29 hK => ?_)
    have i30 : a < n6 := (by omega)
    obtain ⟨g30, rfl⟩ := hK.pt m4 i30
    have l30 : a < (mskD t c).length := Nat.lt_of_lt_of_eq i30 (hK.len m4)
    obtain ⟨xm, exm⟩ : ∃ z0, RowKit.Hid ((mskD t c)[a]? = some z0) := ⟨_, hid (List.getElem?_eq_getElem l30)⟩
    have hxm := hid (getD_of (d := false) exm.out)
    go_upto_region 11 with (fail)
    refine wp_region_T [0, 0, 0, 1] hK ?_
    clear hK
    iterate 3 refine e0 ?_
    refine eR (fun w k => (k.own m4).bool exm.out) ?_
    refine sxEnd (fun W31 hK => ?_)
    cases xm
    · --
     rw [show natI (dwM t (mskD t c) n1 kx) = natI (dwM t (mskD t c) n1 (kx + 1)) from (by rw [dwM_no ea1.out hxm.out])] at hK
     rw [show detK t (mskD t c) n1 kx = detK t (mskD t c) n1 (kx + 1) from (detK_no ea1.out hxm.out)] at hK
     (try go_wp2)
     go_roundw
     case rel => exact ⟨kx + 1, pd, nd, cd, (by first | rfl | go_num), (by omega), hK⟩
     case measure => simp [intOf] <;> omega
    · --
     have hdk : (detK t (mskD t c) n1 kx).length = arcsD t := detK_len
     have i32 : a < (arcsD t) := (by have q := hK.len m2; omega)
     have l32 : a < (detK t (mskD t c) n1 kx).length := Nat.lt_of_lt_of_eq i32 (hK.len m2)
     obtain ⟨xz, exz⟩ : ∃ z0, RowKit.Hid ((detK t (mskD t c) n1 kx)[a]? = some z0) := ⟨_, hid (List.getElem?_eq_getElem l32)⟩
     go_upto_region 12 with (fail)
     refine wp_region_T [0, 0, 0, 4] hK ?_
     clear hK
     iterate 3 refine e0 ?_
     refine eWB (y := true) 2 l32 ?_ (hi := rfl)
     refine sxEnd (fun W33 hK => ?_)
     go_upto_region 13 with (fail)
     refine wp_region_T [0, 1, 0, 3, 5, 0, 4] hK ?_
     clear hK
     refine e0 ?_
     refine eL m3 ?_
     refine e0 ?_
     refine eA (.cells #[.int .i64 (a : Int)] 3) (fun R34 => ?_)
     refine eApp 1 intK_free rfl infoZ (fun w k => k.one1 (K := intK) (x := (a : Int)) m0 rfl) (by rw [natI_len]; have q := dwM_len (t := t) (m := mskD t c) (n := n1) (k := kx); simp; omega) (fun x35 => ?_)
     obtain ⟨p35, n35, c35⟩ := x35; dsimp only
     refine e0 ?_
     refine eP 4 2 [.slice p35 n35 c35] ?_
     refine sxEnd (fun W36 hK => ?_)
     rw [show (natI (dwM t (mskD t c) n1 kx)) ++ [(a : Int)] = natI (dwM t (mskD t c) n1 (kx + 1)) from (by rw [natI_snoc, dwM_yes ea1.out hxm.out])] at hK
     rw [show (detK t (mskD t c) n1 kx).set a true = detK t (mskD t c) n1 (kx + 1) from (detK_yes haA ea1.out hxm.out)] at hK
     (try go_wp2)
     go_roundw
     case rel => exact ⟨kx + 1, p35, n35, c35, (by first | rfl | go_num), (by omega), (hK.subl (sC2 (List.Sublist.refl _)))⟩
     case measure => simp [intOf] <;> omega
end Go.Proofs.YtmcfomainmppdaaGreatDoor
