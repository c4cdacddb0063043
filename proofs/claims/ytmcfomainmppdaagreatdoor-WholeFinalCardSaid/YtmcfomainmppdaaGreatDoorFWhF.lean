/- The search for distances from a node. -/
import Derived.Test.YtmcfomainmppdaaGreatDoorFDsG
import Derived.Test.YtmcfomainmppdaaGreatDoorFDsK
namespace Go.Proofs.YtmcfomainmppdaaGreatDoor
open Go.RowKit
open Go.Lib (decDigits)
def arFr (t : TopD) (down : List Bool) (s : Nat) (a : Nat) : Option ArcD := if upD down a && trD t (tN t a) s then some ⟨hN t a, tN t a, cN t a⟩ else none
section
variable {t : TopD} {down : List Bool} {a d n : Nat} {l l' : List Int}
theorem arFr_some {e : ArcD} (h : arFr t down d a = some e) : upD down a = true ∧ trD t (tN t a) d = true ∧ e = ⟨hN t a, tN t a, cN t a⟩ := by
  unfold arFr at h
  split at h
  · rename_i q; rw [Bool.and_eq_true] at q; exact ⟨q.1, q.2, (Option.some.inj h).symm⟩
  · cases h
theorem arFr_of (h1 : upD down a = true) (h2 : trD t (tN t a) d = true) : arFr t down d a = some ⟨hN t a, tN t a, cN t a⟩ := by unfold arFr; rw [h1, h2]; rfl
theorem arc_okF (h : topOk t = true) (ha : a < arcsD t) : hdD t a = (hN t a : Int) ∧ tlD t a = (tN t a : Int) ∧ csD t a = (cN t a : Int) ∧ hN t a < nN t ∧ tN t a < nN t ∧ hN t a ≠ tN t a ∧ 1 ≤ cN t a ∧ cN t a ≤ 65535 := by
  obtain ⟨h1, h2, h3, h4, h5, h6, h7, h8⟩ := arc_ok h ha
  exact ⟨h2, h1, h3, h5, h4, fun e => h6 e.symm, h7, h8⟩
theorem arFr_ok (h : topOk t = true) : ArOk (arFr t down d) (arcsD t) (nN t) 65535 := ⟨fun a e ha he => by
  obtain ⟨_, _, rfl⟩ := arFr_some he
  obtain ⟨_, _, _, h1, h2, _, h3, h4⟩ := arc_okF h ha
  exact ⟨h1, h2, h3, h4⟩⟩
def IsFrm (t : TopD) (down : List Bool) (d : Nat) (l : List Int) : Prop := l.length = nN t ∧ Bel (arFr t down d) (arcsD t) (nN t) d (atD l)
theorem IsFrm.eq (h : topOk t = true) (h1 : IsFrm t down d l) (h2 : IsFrm t down d l') : l = l' := by
  refine List.ext_getElem? fun x => ?_
  by_cases hx : x < nN t
  · have := h1.2.eq (arFr_ok h) h2.2 hx
    unfold atD List.getD at this
    rw [List.getElem?_eq_getElem (by rw [h1.1]; exact hx), List.getElem?_eq_getElem (by rw [h2.1]; exact hx)] at this ⊢
    simpa using this
  · rw [List.getElem?_eq_none (by rw [h1.1]; omega), List.getElem?_eq_none (by rw [h2.1]; omega)]
end
noncomputable def frmD (t : TopD) (down : List Bool) (d : Nat) : List Int := Classical.epsilon (IsFrm t down d)
theorem frm_eq {t : TopD} {down : List Bool} {d : Nat} {l : List Int} (h : topOk t = true) (hl : IsFrm t down d l) : l = frmD t down d := hl.eq h (Classical.epsilon_spec ⟨l, hl⟩)
set_option maxRecDepth 100000 in
theorem followF_any (w : World) (i : Nat) {R9 : Nat} {ap : Option Addr} {an ac : Nat} {ss : List Sl} {t : TopD} {s : Sl} (hB : Has 0 R9 (.cells #[.slice ap an ac] 141) w) (hF : FamO intK 29 3 ss.length ap an ac ss (lvD (tN t) (nN t) (arcsD t)) w) (hi : i < an) (hs : ss[i]? = some s) :
    Calls Tryz.prog 151 #[.int .i64 (i : Int), .pointer (some ⟨R9, 0, none⟩)] w fun e w' => e = .returned (.slice s.p s.l s.c) ∧ Below w.heap.size w w' := by
  have hK := SS.start w
  obtain ⟨ga, oa, rfl⟩ := hF.out.slv.pt hi; obtain rfl := hF.out.off rfl
  refine Calls.hide (fun Q0 hQ0 => ?_)
  go_enter Tryz.func151, Tryz.ntmps151
  go_upto_region 1 with (fail)
  refine wp_region_T [0, 0, 0, 0, 0] hK ?_
  clear hK
  refine eX0 (fun w k => hB.below k.old) ?_
  iterate 2 refine e0 ?_
  refine eR0 (fun w k => (hF.below k.old).out.slc hs) ?_
  refine e0 ?_
  refine sxEnd (fun W1 hK => ?_)
  go_wp2
  try go_ret
  show Q0 (.returned (.slice s.p s.l s.c)) _
  exact (by obtain rfl := hQ0.out; exact ⟨rfl, hK.old⟩)
set_option maxRecDepth 100000 in
theorem endF_any (w : World) (a : Nat) {R8 : Nat} {p_t : Option Addr} {n_t c_t : Nat} {q_t : Option Addr} {m_t d_t : Nat} {t : TopD} (hB : Has 0 R8 (.cells #[.int .i64 t.nodes, .slice p_t n_t c_t, .slice q_t m_t d_t] 25) w) (ht : TopV w (.agg #[.int .i64 t.nodes, .slice p_t n_t c_t, .slice q_t m_t d_t]) t) (hl : t.links.length ≤ 100000) (ht2 : topOk t = true) (ha : a < arcsD t) :
    Calls Tryz.prog 152 #[.int .i64 (a : Int), .pointer (some ⟨R8, 0, none⟩)] w fun e w' => e = .returned (.int .i64 ((hN t a : Nat) : Int)) ∧ Below w.heap.size w w' := by
  have hK := SS.start w
  refine Calls.hide (fun Q0 hQ0 => ?_)
  go_enter Tryz.func152, Tryz.ntmps152
  go_upto_region 1 with (fail)
  refine wp_region_T [0, 0, 1, 0] hK ?_
  clear hK
  refine eX0 (fun w k => hB.below k.old) ?_
  refine e0 ?_
  refine eQ (fun w k => headN_any w (ht.below k.old) a hl ht2 ha) ?_
  refine e0 ?_
  refine sxEnd (fun W1 hK => ?_)
  go_wp2
  try go_ret
  show Q0 (.returned (.int .i64 ((hN t a : Nat) : Int))) _
  exact (by obtain rfl := hQ0.out; exact ⟨rfl, hK.old⟩)
theorem over_noF {t : TopD} {down : List Bool} {r i : Nat} (hne : i ≠ r) (ho : ovD t i = true) : ∀ a e, a < arcsD t → arFr t down r a = some e → ¬ ∃ e', arFr t down r a = some e' ∧ e'.y = i := by
  rintro a e _ _ ⟨e', h1, h2⟩
  obtain ⟨_, h3, rfl⟩ := arFr_some h1
  have h2 : tN t a = i := h2
  rw [h2] at h3
  unfold trD at h3
  rw [ho, decide_eq_false hne] at h3; cases h3
theorem in_arcsF {t : TopD} {i a : Nat} : a ∈ selD (fun a => decide (tN t a = i)) (arcsD t) ↔ a < arcsD t ∧ tN t a = i := by unfold selD; rw [List.mem_filter, List.mem_range, decide_eq_true_iff]
set_option maxRecDepth 100000 in
set_option maxHeartbeats 4000000 in
theorem runF_any (w : World) {p_t : Option Addr} {n_t c_t : Nat} {q_t : Option Addr} {m_t d_t : Nat} {t : TopD} {p_d : Option Addr} {n_d c_d : Nat} {down : List Bool} {r R8 R9 : Nat} {ap : Option Addr} {an ac : Nat} {ss : List Sl} (ht_1 : SlV boolK w (.slice p_t n_t c_t) t.over) (ht_2 : SlV lnkK w (.slice q_t m_t d_t) t.links) (hd : SlV boolK w (.slice p_d n_d c_d) down) (hdl : RowKit.Hid (down.length = 0 ∨ down.length = arcsD t)) (hl : t.links.length ≤ 100000) (ht2 : topOk t = true) (hr : r < nN t) (hB8 : Has 0 R8 (.cells #[.int .i64 t.nodes, .slice p_t n_t c_t, .slice q_t m_t d_t] 25) w) (hB9 : Has 0 R9 (.cells #[.slice ap an ac] 141) w) (hF : FamO intK 29 3 ss.length ap an ac ss (lvD (tN t) (nN t) (arcsD t)) w) :
    Calls Tryz.prog 107 #[.agg #[.int .i64 t.nodes, .slice p_t n_t c_t, .slice q_t m_t d_t, .slice p_d n_d c_d, .int .i64 (r : Int), .func (.func 151) #[] #[.pointer (some ⟨R9, 0, none⟩)], .func (.func 152) #[] #[.pointer (some ⟨R8, 0, none⟩)]]] w fun e w' => ∃ x : Sl, e = .returned (.slice x.p x.l x.c) ∧ SS w [rO intK 3 x.p x.l x.c (frmD t down r), cF (IsFrm t down r (frmD t down r))] w' := by
  have hK := SS.start w
  have ht : TopV w (.agg #[.int .i64 t.nodes, .slice p_t n_t c_t, .slice q_t m_t d_t]) t := ⟨_, _, _, _, _, _, rfl, ht_1, ht_2⟩
  have hnn := hid (topN ht2)
  have hnm : nN t ≤ 64 := hnn.out.2.2.1; have a_t : arcsD t ≤ 200000 := (by unfold arcsD; omega)
  have hov := hid hnn.out.2.2.2.1
  have har := hid (arFr_ok (down := down) (d := r) ht2)
  refine Calls.hide (fun Q0 hQ0 => ?_)
  go_enter Tryz.func107, Tryz.ntmps107
  go_upto_region 0 with (fail)
  refine wp_region_T [3, 0] hK ?_
  clear hK
  refine eA (.cells #[.int .i64 t.nodes, .slice p_t n_t c_t, .slice q_t m_t d_t, .slice p_d n_d c_d, .int .i64 (r : Int), .func (.func 151) #[] #[.pointer (some ⟨R9, 0, none⟩)], .func (.func 152) #[] #[.pointer (some ⟨R8, 0, none⟩)]] 146) (fun R1 => ?_)
  refine e0 ?_
  refine sxEnd (fun W2 hK => ?_)
  go_upto_region 1 with (fail)
  refine wp_region_T [0, 0, 1, 3, 0] hK ?_
  clear hK
  iterate 2 refine e0 ?_
  refine eL m0 ?_
  refine eMk (K := intK) (t := 3) (x := 0) (nN t) (fun _ => rfl) rfl infoZ (by show nN t * 1 ≤ _; omega) (by decide) (fun g3 => ?_) (hv := hnn.out.1)
  refine e0 ?_
  refine sxEnd (fun W4 hK => ?_)
  replace hK := hK.made (K := intK) (n := (nN t)) (fun _ => rfl) (by simp [maxLen]; omega)
  rw [show List.replicate (nN t) 0 = fillD (nN t) 0 from (fill_zero _).symm] at hK
  go_wp2_with fail
  go_loopw [22] (fun s22 wl => ∃ (j : Nat), s22 = .int .i64 (j : Int) ∧ (j ≤ nN t) ∧ SS w ([rO intK 3 (some ⟨g3, 0, none⟩) (nN t) (nN t) (fillD (nN t) j), bx R1 (.cells #[.int .i64 t.nodes, .slice p_t n_t c_t, .slice q_t m_t d_t, .slice p_d n_d c_d, .int .i64 (r : Int), .func (.func 151) #[] #[.pointer (some ⟨R9, 0, none⟩)], .func (.func 152) #[] #[.pointer (some ⟨R8, 0, none⟩)]] 146)]) wl) (fun s22 _ => nN t - (intOf s22).toNat)
  case atStart => exact ⟨0, rfl, (by omega), hK⟩
  case round =>
   clear hK
   obtain ⟨j, rfl, hj0, hK⟩ := hrel
   generalize wr = W5 at hK ⊢
   go_upto_region 3 with (fail)
   refine wp_region_T [0] hK ?_
   clear hK
   refine eB (decide (((j : Int)) < (((nN t) : Int)))) (fun b1 hb1 => ?_)
   refine sxEnd (fun W6 hK => ?_)
   cases b1
   · --
    have q_b1 : (((nN t) : Int)) ≤ ((j : Int)) := Int.not_lt.1 (of_decide_eq_false hb1.out)
    obtain rfl : j = nN t := by omega
    rw [show fillD (nN t) (nN t) = noneD (nN t) from (fill_all _)] at hK
    go_upto_region 7 with (fail)
    refine wp_region_T [0, 0, 1, 2, 0, 0, 0, 0, 0] hK ?_
    clear hK
    iterate 2 refine e0 ?_
    refine eL m1 ?_
    refine eC (fun w k => by have q := new_any w (nN t) (by omega); rw [← hnn.out.1] at q; exact q) (fun x7 => ?_)
    obtain ⟨R, kg, pg⟩ := x7; dsimp only
    iterate 5 refine e0 ?_
    refine sxEnd (fun W8 hK => ?_)
    go_upto_region 8 with (fail)
    refine wp_region_T [0, 0, 1, 4] hK ?_
    clear hK
    iterate 2 refine e0 ?_
    refine eL m5 ?_
    refine eM (fun w k => set_any w _ r 0 _ (k.up3.up3.up3.up3) ⟨rfl, rfl, trivial⟩ (HpI.start (nN t)) hr (by omega)) (fun x10 => ?_)
    obtain ⟨op9, ol9, oc9, pl9, o9⟩ := x10; dsimp only
    refine sxEnd (fun W11 hK => ?_)
    have hS := hid (hK.get m4)
    replace hK := hK.subl (sK2 (sK2 (sK2 (sK2 (sC2 (List.Sublist.refl _))))))
    have hDI : DijI (arFr t down r) (arcsD t) (nN t) r 65535 (noneD (nN t)) (qOf ((List.replicate (nN t) 0).set r 0) pl9) (fun _ => False) := by rw [show qOf _ _ = _ from hS.out.2.1, qOf_start]; exact DijI.start hr
    go_wp2_with fail
    go_loopg [] (nN t - cntD (noneD (nN t))) (fun gk0  wl => ∃ (D : List Int) (K : List Int) (pl : List Int) (o : List Nat) (op : Option Addr) (ol : Nat) (oc : Nat), RowKit.Hid (HpI (nN t) K pl o) ∧ RowKit.Hid (DijI (arFr t down r) (arcsD t) (nN t) r 65535 D (qOf K pl) (fun _ => False)) ∧ RowKit.Hid (o.length ≤ nN t) ∧ RowKit.Hid (gk0 = nN t - cntD D) ∧ SS w ([rO intK 3 (some ⟨g3, 0, none⟩) (nN t) (nN t) D, bx R (.cells #[.slice (some ⟨kg, 0, none⟩) (nN t) (nN t), .slice (some ⟨pg, 0, none⟩) (nN t) (nN t), .slice op ol oc] 195), rO intK 3 (some ⟨kg, 0, none⟩) (nN t) (nN t) K, rO intK 3 (some ⟨pg, 0, none⟩) (nN t) (nN t) pl, rO intK 3 op ol oc (natI o), bx R1 (.cells #[.int .i64 t.nodes, .slice p_t n_t c_t, .slice q_t m_t d_t, .slice p_d n_d c_d, .int .i64 (r : Int), .func (.func 151) #[] #[.pointer (some ⟨R9, 0, none⟩)], .func (.func 152) #[] #[.pointer (some ⟨R8, 0, none⟩)]] 146)]) wl)
    case atStart => exact ⟨noneD (nN t), (List.replicate (nN t) 0).set r 0, pl9, o9, op9, ol9, oc9, hid hS.out.1, hid hDI, hid hS.out.2.2, hid rfl, ((((((hK.up5).up4).up4).up4).up4).up5)⟩
    case round =>
     clear hK
     obtain ⟨D, K, pl, o, op, ol, oc, h_H, h_I, h_o, hgk12, hK⟩ := hrel
     generalize wr = W13 at hK ⊢
     go_upto_region 9 with (fail)
     refine wp_region_T [0, 4, 0, 0, 0, 0, 0, 0, 0] hK ?_
     clear hK
     refine e0 ?_
     refine eM (fun w k => pop_any w _ _ (k.up4.up4.up4.up4) ⟨rfl, rfl, trivial⟩ h_H.out (by have := h_o.out; omega)) (fun x14 => ?_)
     obtain ⟨i, k1, ok1, l1, K1, pl1, o1⟩ := x14; dsimp only
     iterate 7 refine e0 ?_
     refine sxEnd (fun W15 hK => ?_)
     have hP := hid (hK.get m4)
     replace hK := hK.subl (sK2 (sK2 (sK2 (sK2 (sC2 (List.Sublist.refl _))))))
     go_upto_region 10 with (fail)
     refine wp_region_T [0, 0] hK ?_
     clear hK
     iterate 2 refine e0 ?_
     refine sxEnd (fun W16 hK => ?_)
     cases ok1
     · --
      have hP2 := hP.out.no rfl; have hI := (⟨h_I.out.len, h_I.out.bel hP2.1⟩ : IsFrm t down r D); have hD := frm_eq ht2 hI
      rw [show D = frmD t down r from hD] at hK
      go_wp2
      try go_ret
      show Q0 (.returned (.slice (some ⟨g3, 0, none⟩) (nN t) (nN t))) _
      exact (by obtain rfl := hQ0.out; exact ⟨⟨(some ⟨g3, 0, none⟩), nN t, nN t⟩, rfl, ((hK.subl (sC2 (sC2 (sC2 (sC2 (sK2 (sC2 sZ2))))))).fact (cF (IsFrm t down r (frmD t down r))) (hD ▸ hI)).up1⟩)
     · --
      have hpop := hid (hP.out.yes rfl); have hin : i < nN t := (h_I.out.hq i k1 hpop.out.1.1).1
      have i17 : i < (nN t) := hin
      have l17 : i < D.length := Nat.lt_of_lt_of_eq i17 (hK.len m4)
      obtain ⟨di, edi⟩ : ∃ x, RowKit.Hid (D[i]? = some x) := ⟨_, hid (List.getElem?_eq_getElem l17)⟩
      go_upto_region 12 with (fail)
      refine wp_region_T [0, 0, 0, 0, 4] hK ?_
      clear hK
      iterate 4 refine e0 ?_
      refine eWI (y := k1) 4 l17 ?_ (hi := rfl)
      refine sxEnd (fun W18 hK => ?_)
      have hJ := hid (h_I.out.pop har.out hpop.out.1); rw [← hpop.out.2] at hJ
      go_upto_region 13 with (fail)
      refine wp_region_T [0, 0, 1, 0, 0, 0, 1, 0, 1, 0] hK ?_
      clear hK
      iterate 2 refine e0 ?_
      refine eL m5 ?_
      refine eB (((i : Int)) != ((r : Int))) (fun b2 hb2 => ?_)
      refine e0 ?_
      cases b2
      · --
       iterate 4 refine eN ?_
       refine e0 ?_
       refine sxEnd (fun W19 hK => ?_)
       have htr := hid (tr_yes (t := t) (r := r) (i := i) (.inl (by have q := hb2.out; simp at q; omega)))
       obtain ⟨⟨s_p, s_l, s_c⟩, hs⟩ : ∃ s, RowKit.Hid (ss[i]? = some s) := ⟨_, hid (List.getElem?_eq_getElem (show i < ss.length by rw [hF.len, lvD_len]; exact hin))⟩; have hsl := hF.slv (Nat.ne_of_lt (show i < ss.length by rw [hF.len, lvD_len]; exact hin)) hs.out (lvD_at (tN t) hin); have hs1 := Nat.le_of_eq (hsl.one0.trans (natI_len _)); have hs2 := Nat.le_of_eq (hsl.one0.trans (natI_len _)).symm; have hs3 := sel_len (fun a => decide (tN t a = i)) (arcsD t)
       go_upto_region 14 with (fail)
       refine wp_region_T [0, 1, 0, 1, 0, 0] hK ?_
       clear hK
       refine e0 ?_
       refine eL m5 ?_
       refine e0 ?_
       refine eQ (fun w k => followF_any w i (hB9.below k.old) (hF.below k.old) (by rw [hF.out.len, hF.len, lvD_len]; exact hin) hs.out) ?_
       iterate 2 refine e0 ?_
       refine sxEnd (fun W20 hK => ?_)
       go_wp2_with fail
       go_loopw [68] (fun s68 wl => ∃ (j : Nat) (K2 : List Int) (pl2 : List Int) (o2 : List Nat) (op2 : Option Addr) (ol2 : Nat) (oc2 : Nat) (ex : Nat → Prop), s68 = .int .i64 (j : Int) ∧ (j ≤ s_l) ∧ RowKit.Hid (HpI (nN t) K2 pl2 o2) ∧ RowKit.Hid (DijJ (arFr t down r) (arcsD t) (nN t) r 65535 (D.set i k1) (qOf K2 pl2) ex i k1) ∧ RowKit.Hid (∀ b, b < arcsD t → ex b → b ∈ (selD (fun a => decide (tN t a = i)) (arcsD t)).drop j) ∧ SS w ([rO intK 3 (some ⟨g3, 0, none⟩) (nN t) (nN t) (D.set i k1), bx R (.cells #[.slice (some ⟨kg, 0, none⟩) (nN t) (nN t), .slice (some ⟨pg, 0, none⟩) (nN t) (nN t), .slice op2 ol2 oc2] 195), rO intK 3 (some ⟨kg, 0, none⟩) (nN t) (nN t) K2, rO intK 3 (some ⟨pg, 0, none⟩) (nN t) (nN t) pl2, rO intK 3 op2 ol2 oc2 (natI o2), bx R1 (.cells #[.int .i64 t.nodes, .slice p_t n_t c_t, .slice q_t m_t d_t, .slice p_d n_d c_d, .int .i64 (r : Int), .func (.func 151) #[] #[.pointer (some ⟨R9, 0, none⟩)], .func (.func 152) #[] #[.pointer (some ⟨R8, 0, none⟩)]] 146)]) wl) (fun s68 _ => s_l - (intOf s68).toNat)
       case atStart => exact ⟨0, K1, pl1, o1, op, l1, oc, fun a => ∃ e, arFr t down r a = some e ∧ e.y = i, rfl, (by omega), hid hP.out.hp, hid hJ.out, hid (fun a ha ⟨e, h1, h2⟩ => by obtain ⟨_, _, rfl⟩ := arFr_some h1; exact in_arcsF.2 ⟨ha, h2⟩), ((((((hK.up5).up4).up4).up4).up4).up5)⟩
       case round =>
        clear hK
        obtain ⟨j, K2, pl2, o2, op2, ol2, oc2, ex, rfl, hj0, h_H2, h_J, h_ex, hK⟩ := hrel
        generalize wr = W21 at hK ⊢
        go_upto_region 15 with (fail)
        refine wp_region_T [0] hK ?_
        clear hK
        refine eB (decide (((j : Int)) < ((s_l : Int)))) (fun b3 hb3 => ?_)
        refine sxEnd (fun W22 hK => ?_)
        cases b3
        · --
         have q_b3 : ((s_l : Int)) ≤ ((j : Int)) := Int.not_lt.1 (of_decide_eq_false hb3.out)
         (try go_wp2)
         go_roundg (nN t - cntD (D.set i k1))
         case measure => rw [hgk12.out]; exact h_I.out.less hpop.out.1.1
         case rel => exact ⟨(D.set i k1), K2, pl2, o2, op2, ol2, oc2, hid h_H2.out, hid (h_J.out.done fun a e hA he hx => absurd (h_ex.out a hA hx) (by rw [List.drop_of_length_le (by omega)]; exact List.not_mem_nil)), hid (h_H2.out.order_len), hid rfl, hK⟩
        · --
         have q_b3 : ((j : Int)) < ((s_l : Int)) := of_decide_eq_true hb3.out
         have hj : j < s_l := by omega
         have i23 : j < s_l := hj
         obtain ⟨g23, o23, rfl⟩ := hsl.pt i23
         have l23 : j < (natI (selD (fun a => decide (tN t a = i)) (arcsD t))).length := Nat.lt_of_lt_of_eq i23 (hsl.one0)
         obtain ⟨xa, exa⟩ : ∃ x, RowKit.Hid ((natI (selD (fun a => decide (tN t a = i)) (arcsD t)))[j]? = some x) := ⟨_, hid (List.getElem?_eq_getElem l23)⟩
         obtain ⟨a, ha1, rfl⟩ := natI_at exa.out; have ha2 := in_arcsF.1 (List.mem_of_getElem? ha1); have haA := ha2.1; have hhi := ha2.2; obtain ⟨_, _, _, ht_l, _, _, hc1, hc2⟩ := arc_okF ht2 haA
         go_upto_region 16 with (fail)
         refine wp_region_T [0, 0, 0] hK ?_
         clear hK
         refine e0 ?_
         refine eR0 (fun w k => (hsl.below k.old).int exa.out) ?_
         refine e0 ?_
         refine sxEnd (fun W24 hK => ?_)
         go_upto_region 17 with (fail)
         refine wp_region_T [0, 1, 0, 1, 0] hK ?_
         clear hK
         refine e0 ?_
         refine eL m5 ?_
         refine e0 ?_
         refine eQ (fun w k => endF_any w a (hB8.below k.old) (ht.below k.old) hl ht2 haA) ?_
         refine e0 ?_
         refine sxEnd (fun W25 hK => ?_)
         have i26 : hN t a < (nN t) := ht_l
         have l26 : hN t a < (D.set i k1).length := Nat.lt_of_lt_of_eq i26 (hK.len m0)
         obtain ⟨dm, edm⟩ : ∃ x, RowKit.Hid ((D.set i k1)[hN t a]? = some x) := ⟨_, hid (List.getElem?_eq_getElem l26)⟩
         go_upto_region 18 with (fail)
         refine wp_region_T [0, 1, 0, 1, 0, 0, 0, 0, 1, 0, 0] hK ?_
         clear hK
         refine e0 ?_
         refine eL m5 ?_
         refine e0 ?_
         obtain ⟨b4, hb4⟩ : ∃ b : Bool, RowKit.Hid ((!upD down a) = b) := ⟨_, hid rfl⟩
         refine eQ (v := .bool b4) (fun w k => down_any w (hd.below k.old) a (by have := hdl.out; omega)) ?_ (hv := by rw [hb4.out])
         refine e0 ?_
         cases b4
         · --
          iterate 3 refine e0 ?_
          refine eR (fun w k => (k.own m0).int edm.out) ?_
          refine eB (decide (0 ≤ dm)) (fun b5 hb5 => ?_)
          refine e0 ?_
          refine sxEnd (fun W27 hK => ?_)
          cases b5
          · --
           have q_b5 : dm < 0 := Int.not_le.1 (of_decide_eq_false hb5.out)
           have hkb := dij_small h_J.out hnm; have hkb0 := hkb.1; have hkb1 := hkb.2
           go_upto_region 19 with (fail)
           refine wp_region_T [0, 0, 1, 0, 1, 0, 0] hK ?_
           clear hK
           iterate 2 refine e0 ?_
           refine eL m5 ?_
           refine e0 ?_
           refine eQ (fun w k => costN_any w (ht.below k.old) a hl ht2 haA) ?_
           refine eV (.int .i64 (k1 + (cN t a : Int))) (fun w' => by go_simp; (try go_bits); exact ⟨congrArg (Value.int .i64) (by omega), rfl⟩) ?_
           refine e0 ?_
           refine sxEnd (fun W28 hK => ?_)
           go_upto_region 20 with (fail)
           refine wp_region_T [0, 0, 1, 0, 0, 0, 0, 0] hK ?_
           clear hK
           iterate 2 refine e0 ?_
           obtain ⟨z1, hz1⟩ : ∃ b : Int, RowKit.Hid ((keyD (qOf K2 pl2) (hN t a)).1 = b) := ⟨_, hid rfl⟩
           obtain ⟨b6, hb6⟩ : ∃ b : Bool, RowKit.Hid ((keyD (qOf K2 pl2) (hN t a)).2 = b) := ⟨_, hid rfl⟩
           refine eQ (v := .tuple #[.int .i64 z1, .bool b6]) (fun w k => key_any w (hN t a) (k.box m1) (k.slv m2) (k.slv m3) h_H2.out.kl h_H2.out.pi.len ht_l (by omega)) ?_ (hv := by rw [hz1.out, hb6.out])
           iterate 5 refine e0 ?_
           refine sxEnd (fun W29 hK => ?_)
           go_upto_region 21 with (fail)
           refine wp_region_T [0, 0, 0, 0, 0, 0, 0] hK ?_
           clear hK
           iterate 3 refine e0 ?_
           cases b6
           · --
            iterate 3 refine eN ?_
            refine e0 ?_
            refine sxEnd (fun W30 hK => ?_)
            go_upto_region 22 with (fail)
            refine wp_region_T [0, 0, 0, 4] hK ?_
            clear hK
            iterate 3 refine e0 ?_
            refine eM (fun w k => set_any w _ (hN t a) (k1 + (cN t a : Int)) _ (k.up4.up4.up4.up4) ⟨rfl, rfl, trivial⟩ h_H2.out ht_l (by omega)) (fun x32 => ?_)
            obtain ⟨op31, ol31, oc31, pl31, o31⟩ := x32; dsimp only
            refine sxEnd (fun W33 hK => ?_)
            have hS := hid (hK.get m4)
            replace hK := hK.subl (sK2 (sK2 (sK2 (sK2 (sC2 (List.Sublist.refl _))))))
            (try go_wp2)
            go_roundw
            case rel => exact ⟨j + 1, K2.set (hN t a) (k1 + (cN t a : Int)), pl31, o31, op31, ol31, oc31, fun b => ex b ∧ b ≠ a, (by first | rfl | go_num), (by omega), hid hS.out.1, hid (by rw [show qOf _ _ = _ from hS.out.2.1]; exact h_J.out.set har.out haA (arFr_of (by have q := hb4.out; simpa using q) (by rw [hhi]; exact htr.out)) hhi (by show atD _ (hN t a) < 0; rw [atD_of edm.out]; omega) (fun v hv => by have hv : qOf K2 pl2 (hN t a) = some v := hv; rw [key_false hb6.out] at hv; cases hv)), hid (fun b hb hx => drop_at2 ha1 (h_ex.out b hb hx.1) hx.2), ((((((hK.up5).up4).up4).up4).up4).up5)⟩
            case measure => simp [intOf] <;> omega
           · --
            iterate 2 refine e0 ?_
            refine eB (decide (((k1 + (cN t a : Int))) < z1)) (fun b7 hb7 => ?_)
            refine e0 ?_
            refine sxEnd (fun W34 hK => ?_)
            cases b7
            · --
             have q_b7 : z1 ≤ ((k1 + (cN t a : Int))) := Int.not_lt.1 (of_decide_eq_false hb7.out)
             (try go_wp2)
             go_roundw
             case rel => exact ⟨j + 1, K2, pl2, o2, op2, ol2, oc2, fun b => ex b ∧ b ≠ a, (by first | rfl | go_num), (by omega), hid h_H2.out, hid (h_J.out.skip har.out fun e hA he => by obtain ⟨_, _, rfl⟩ := arFr_some he; exact ⟨hhi, .inr ⟨_, key_true hb6.out, by show _ ≤ k1 + (cN t a : Int); rw [hz1.out]; omega⟩⟩), hid (fun b hb hx => drop_at2 ha1 (h_ex.out b hb hx.1) hx.2), hK⟩
             case measure => simp [intOf] <;> omega
            · --
             have q_b7 : ((k1 + (cN t a : Int))) < z1 := of_decide_eq_true hb7.out
             go_upto_region 22 with (fail)
             refine wp_region_T [0, 0, 0, 4] hK ?_
             clear hK
             iterate 3 refine e0 ?_
             refine eM (fun w k => set_any w _ (hN t a) (k1 + (cN t a : Int)) _ (k.up4.up4.up4.up4) ⟨rfl, rfl, trivial⟩ h_H2.out ht_l (by omega)) (fun x36 => ?_)
             obtain ⟨op35, ol35, oc35, pl35, o35⟩ := x36; dsimp only
             refine sxEnd (fun W37 hK => ?_)
             have hS := hid (hK.get m4)
             replace hK := hK.subl (sK2 (sK2 (sK2 (sK2 (sC2 (List.Sublist.refl _))))))
             (try go_wp2)
             go_roundw
             case rel => exact ⟨j + 1, K2.set (hN t a) (k1 + (cN t a : Int)), pl35, o35, op35, ol35, oc35, fun b => ex b ∧ b ≠ a, (by first | rfl | go_num), (by omega), hid hS.out.1, hid (by rw [show qOf _ _ = _ from hS.out.2.1]; exact h_J.out.set har.out haA (arFr_of (by have q := hb4.out; simpa using q) (by rw [hhi]; exact htr.out)) hhi (by show atD _ (hN t a) < 0; rw [atD_of edm.out]; omega) (fun v hv => by have hv : qOf K2 pl2 (hN t a) = some v := hv; rw [key_true hb6.out] at hv; have q := Option.some.inj hv; show k1 + (cN t a : Int) < v; rw [← q, hz1.out]; omega)), hid (fun b hb hx => drop_at2 ha1 (h_ex.out b hb hx.1) hx.2), ((((((hK.up5).up4).up4).up4).up4).up5)⟩
             case measure => simp [intOf] <;> omega
          · --
           have q_b5 : 0 ≤ dm := of_decide_eq_true hb5.out
           (try go_wp2)
           go_roundw
           case rel => exact ⟨j + 1, K2, pl2, o2, op2, ol2, oc2, fun b => ex b ∧ b ≠ a, (by first | rfl | go_num), (by omega), hid h_H2.out, hid (h_J.out.skip har.out fun e hA he => by obtain ⟨_, _, rfl⟩ := arFr_some he; exact ⟨hhi, .inl (by show 0 ≤ atD _ (hN t a); rw [atD_of edm.out]; omega)⟩), hid (fun b hb hx => drop_at2 ha1 (h_ex.out b hb hx.1) hx.2), hK⟩
           case measure => simp [intOf] <;> omega
         · --
          iterate 5 refine eN ?_
          refine e0 ?_
          refine sxEnd (fun W38 hK => ?_)
          (try go_wp2)
          go_roundw
          case rel => exact ⟨j + 1, K2, pl2, o2, op2, ol2, oc2, fun b => ex b ∧ b ≠ a, (by first | rfl | go_num), (by omega), hid h_H2.out, hid (h_J.out.skip har.out fun e hA he => by obtain ⟨q1, _, _⟩ := arFr_some he; have q := hb4.out; rw [q1] at q; cases q), hid (fun b hb hx => drop_at2 ha1 (h_ex.out b hb hx.1) hx.2), hK⟩
          case measure => simp [intOf] <;> omega
      · --
       refine e0 ?_
       refine eL m5 ?_
       refine e0 ?_
       obtain ⟨b3, hb3⟩ : ∃ b : Bool, RowKit.Hid ((ovD t i) = b) := ⟨_, hid rfl⟩
       refine eQ (v := .bool b3) (fun w k => over_any w (ht.below k.old) i hl (by have := hov.out; omega)) ?_ (hv := by rw [hb3.out])
       refine e0 ?_
       refine sxEnd (fun W39 hK => ?_)
       cases b3
       · --
        have htr := hid (tr_yes (t := t) (r := r) (i := i) (.inr hb3.out))
        obtain ⟨⟨s_p, s_l, s_c⟩, hs⟩ : ∃ s, RowKit.Hid (ss[i]? = some s) := ⟨_, hid (List.getElem?_eq_getElem (show i < ss.length by rw [hF.len, lvD_len]; exact hin))⟩; have hsl := hF.slv (Nat.ne_of_lt (show i < ss.length by rw [hF.len, lvD_len]; exact hin)) hs.out (lvD_at (tN t) hin); have hs1 := Nat.le_of_eq (hsl.one0.trans (natI_len _)); have hs2 := Nat.le_of_eq (hsl.one0.trans (natI_len _)).symm; have hs3 := sel_len (fun a => decide (tN t a = i)) (arcsD t)
        go_upto_region 14 with (fail)
        refine wp_region_T [0, 1, 0, 1, 0, 0] hK ?_
        clear hK
        refine e0 ?_
        refine eL m5 ?_
        refine e0 ?_
        refine eQ (fun w k => followF_any w i (hB9.below k.old) (hF.below k.old) (by rw [hF.out.len, hF.len, lvD_len]; exact hin) hs.out) ?_
        iterate 2 refine e0 ?_
        refine sxEnd (fun W40 hK => ?_)
        go_wp2_with fail
        go_loopw [68] (fun s68 wl => ∃ (j : Nat) (K2 : List Int) (pl2 : List Int) (o2 : List Nat) (op2 : Option Addr) (ol2 : Nat) (oc2 : Nat) (ex : Nat → Prop), s68 = .int .i64 (j : Int) ∧ (j ≤ s_l) ∧ RowKit.Hid (HpI (nN t) K2 pl2 o2) ∧ RowKit.Hid (DijJ (arFr t down r) (arcsD t) (nN t) r 65535 (D.set i k1) (qOf K2 pl2) ex i k1) ∧ RowKit.Hid (∀ b, b < arcsD t → ex b → b ∈ (selD (fun a => decide (tN t a = i)) (arcsD t)).drop j) ∧ SS w ([rO intK 3 (some ⟨g3, 0, none⟩) (nN t) (nN t) (D.set i k1), bx R (.cells #[.slice (some ⟨kg, 0, none⟩) (nN t) (nN t), .slice (some ⟨pg, 0, none⟩) (nN t) (nN t), .slice op2 ol2 oc2] 195), rO intK 3 (some ⟨kg, 0, none⟩) (nN t) (nN t) K2, rO intK 3 (some ⟨pg, 0, none⟩) (nN t) (nN t) pl2, rO intK 3 op2 ol2 oc2 (natI o2), bx R1 (.cells #[.int .i64 t.nodes, .slice p_t n_t c_t, .slice q_t m_t d_t, .slice p_d n_d c_d, .int .i64 (r : Int), .func (.func 151) #[] #[.pointer (some ⟨R9, 0, none⟩)], .func (.func 152) #[] #[.pointer (some ⟨R8, 0, none⟩)]] 146)]) wl) (fun s68 _ => s_l - (intOf s68).toNat)
        case atStart => exact ⟨0, K1, pl1, o1, op, l1, oc, fun a => ∃ e, arFr t down r a = some e ∧ e.y = i, rfl, (by omega), hid hP.out.hp, hid hJ.out, hid (fun a ha ⟨e, h1, h2⟩ => by obtain ⟨_, _, rfl⟩ := arFr_some h1; exact in_arcsF.2 ⟨ha, h2⟩), ((((((hK.up5).up4).up4).up4).up4).up5)⟩
        case round =>
         clear hK
         obtain ⟨j, K2, pl2, o2, op2, ol2, oc2, ex, rfl, hj0, h_H2, h_J, h_ex, hK⟩ := hrel
         generalize wr = W41 at hK ⊢
         go_upto_region 15 with (fail)
         refine wp_region_T [0] hK ?_
         clear hK
         refine eB (decide (((j : Int)) < ((s_l : Int)))) (fun b4 hb4 => ?_)
         refine sxEnd (fun W42 hK => ?_)
         cases b4
         · --
          have q_b4 : ((s_l : Int)) ≤ ((j : Int)) := Int.not_lt.1 (of_decide_eq_false hb4.out)
          (try go_wp2)
          go_roundg (nN t - cntD (D.set i k1))
          case measure => rw [hgk12.out]; exact h_I.out.less hpop.out.1.1
          case rel => exact ⟨(D.set i k1), K2, pl2, o2, op2, ol2, oc2, hid h_H2.out, hid (h_J.out.done fun a e hA he hx => absurd (h_ex.out a hA hx) (by rw [List.drop_of_length_le (by omega)]; exact List.not_mem_nil)), hid (h_H2.out.order_len), hid rfl, hK⟩
         · --
          have q_b4 : ((j : Int)) < ((s_l : Int)) := of_decide_eq_true hb4.out
          have hj : j < s_l := by omega
          have i43 : j < s_l := hj
          obtain ⟨g43, o43, rfl⟩ := hsl.pt i43
          have l43 : j < (natI (selD (fun a => decide (tN t a = i)) (arcsD t))).length := Nat.lt_of_lt_of_eq i43 (hsl.one0)
          obtain ⟨xa, exa⟩ : ∃ x, RowKit.Hid ((natI (selD (fun a => decide (tN t a = i)) (arcsD t)))[j]? = some x) := ⟨_, hid (List.getElem?_eq_getElem l43)⟩
          obtain ⟨a, ha1, rfl⟩ := natI_at exa.out; have ha2 := in_arcsF.1 (List.mem_of_getElem? ha1); have haA := ha2.1; have hhi := ha2.2; obtain ⟨_, _, _, ht_l, _, _, hc1, hc2⟩ := arc_okF ht2 haA
          go_upto_region 16 with (fail)
          refine wp_region_T [0, 0, 0] hK ?_
          clear hK
          refine e0 ?_
          refine eR0 (fun w k => (hsl.below k.old).int exa.out) ?_
          refine e0 ?_
          refine sxEnd (fun W44 hK => ?_)
          go_upto_region 17 with (fail)
          refine wp_region_T [0, 1, 0, 1, 0] hK ?_
          clear hK
          refine e0 ?_
          refine eL m5 ?_
          refine e0 ?_
          refine eQ (fun w k => endF_any w a (hB8.below k.old) (ht.below k.old) hl ht2 haA) ?_
          refine e0 ?_
          refine sxEnd (fun W45 hK => ?_)
          have i46 : hN t a < (nN t) := ht_l
          have l46 : hN t a < (D.set i k1).length := Nat.lt_of_lt_of_eq i46 (hK.len m0)
          obtain ⟨dm, edm⟩ : ∃ x, RowKit.Hid ((D.set i k1)[hN t a]? = some x) := ⟨_, hid (List.getElem?_eq_getElem l46)⟩
          go_upto_region 18 with (fail)
          refine wp_region_T [0, 1, 0, 1, 0, 0, 0, 0, 1, 0, 0] hK ?_
          clear hK
          refine e0 ?_
          refine eL m5 ?_
          refine e0 ?_
          obtain ⟨b5, hb5⟩ : ∃ b : Bool, RowKit.Hid ((!upD down a) = b) := ⟨_, hid rfl⟩
          refine eQ (v := .bool b5) (fun w k => down_any w (hd.below k.old) a (by have := hdl.out; omega)) ?_ (hv := by rw [hb5.out])
          refine e0 ?_
          cases b5
          · --
           iterate 3 refine e0 ?_
           refine eR (fun w k => (k.own m0).int edm.out) ?_
           refine eB (decide (0 ≤ dm)) (fun b6 hb6 => ?_)
           refine e0 ?_
           refine sxEnd (fun W47 hK => ?_)
           cases b6
           · --
            have q_b6 : dm < 0 := Int.not_le.1 (of_decide_eq_false hb6.out)
            have hkb := dij_small h_J.out hnm; have hkb0 := hkb.1; have hkb1 := hkb.2
            go_upto_region 19 with (fail)
            refine wp_region_T [0, 0, 1, 0, 1, 0, 0] hK ?_
            clear hK
            iterate 2 refine e0 ?_
            refine eL m5 ?_
            refine e0 ?_
            refine eQ (fun w k => costN_any w (ht.below k.old) a hl ht2 haA) ?_
            refine eV (.int .i64 (k1 + (cN t a : Int))) (fun w' => by go_simp; (try go_bits); exact ⟨congrArg (Value.int .i64) (by omega), rfl⟩) ?_
            refine e0 ?_
            refine sxEnd (fun W48 hK => ?_)
            go_upto_region 20 with (fail)
            refine wp_region_T [0, 0, 1, 0, 0, 0, 0, 0] hK ?_
            clear hK
            iterate 2 refine e0 ?_
            obtain ⟨z1, hz1⟩ : ∃ b : Int, RowKit.Hid ((keyD (qOf K2 pl2) (hN t a)).1 = b) := ⟨_, hid rfl⟩
            obtain ⟨b7, hb7⟩ : ∃ b : Bool, RowKit.Hid ((keyD (qOf K2 pl2) (hN t a)).2 = b) := ⟨_, hid rfl⟩
            refine eQ (v := .tuple #[.int .i64 z1, .bool b7]) (fun w k => key_any w (hN t a) (k.box m1) (k.slv m2) (k.slv m3) h_H2.out.kl h_H2.out.pi.len ht_l (by omega)) ?_ (hv := by rw [hz1.out, hb7.out])
            iterate 5 refine e0 ?_
            refine sxEnd (fun W49 hK => ?_)
            go_upto_region 21 with (fail)
            refine wp_region_T [0, 0, 0, 0, 0, 0, 0] hK ?_
            clear hK
            iterate 3 refine e0 ?_
            cases b7
            · --
             iterate 3 refine eN ?_
             refine e0 ?_
             refine sxEnd (fun W50 hK => ?_)
             go_upto_region 22 with (fail)
             refine wp_region_T [0, 0, 0, 4] hK ?_
             clear hK
             iterate 3 refine e0 ?_
             refine eM (fun w k => set_any w _ (hN t a) (k1 + (cN t a : Int)) _ (k.up4.up4.up4.up4) ⟨rfl, rfl, trivial⟩ h_H2.out ht_l (by omega)) (fun x52 => ?_)
             obtain ⟨op51, ol51, oc51, pl51, o51⟩ := x52; dsimp only
             refine sxEnd (fun W53 hK => ?_)
             have hS := hid (hK.get m4)
             replace hK := hK.subl (sK2 (sK2 (sK2 (sK2 (sC2 (List.Sublist.refl _))))))
             (try go_wp2)
             go_roundw
             case rel => exact ⟨j + 1, K2.set (hN t a) (k1 + (cN t a : Int)), pl51, o51, op51, ol51, oc51, fun b => ex b ∧ b ≠ a, (by first | rfl | go_num), (by omega), hid hS.out.1, hid (by rw [show qOf _ _ = _ from hS.out.2.1]; exact h_J.out.set har.out haA (arFr_of (by have q := hb5.out; simpa using q) (by rw [hhi]; exact htr.out)) hhi (by show atD _ (hN t a) < 0; rw [atD_of edm.out]; omega) (fun v hv => by have hv : qOf K2 pl2 (hN t a) = some v := hv; rw [key_false hb7.out] at hv; cases hv)), hid (fun b hb hx => drop_at2 ha1 (h_ex.out b hb hx.1) hx.2), ((((((hK.up5).up4).up4).up4).up4).up5)⟩
             case measure => simp [intOf] <;> omega
            · --
             iterate 2 refine e0 ?_
             refine eB (decide (((k1 + (cN t a : Int))) < z1)) (fun b8 hb8 => ?_)
             refine e0 ?_
             refine sxEnd (fun W54 hK => ?_)
             cases b8
             · --
              have q_b8 : z1 ≤ ((k1 + (cN t a : Int))) := Int.not_lt.1 (of_decide_eq_false hb8.out)
              (try go_wp2)
              go_roundw
              case rel => exact ⟨j + 1, K2, pl2, o2, op2, ol2, oc2, fun b => ex b ∧ b ≠ a, (by first | rfl | go_num), (by omega), hid h_H2.out, hid (h_J.out.skip har.out fun e hA he => by obtain ⟨_, _, rfl⟩ := arFr_some he; exact ⟨hhi, .inr ⟨_, key_true hb7.out, by show _ ≤ k1 + (cN t a : Int); rw [hz1.out]; omega⟩⟩), hid (fun b hb hx => drop_at2 ha1 (h_ex.out b hb hx.1) hx.2), hK⟩
              case measure => simp [intOf] <;> omega
             · --
              have q_b8 : ((k1 + (cN t a : Int))) < z1 := of_decide_eq_true hb8.out
              go_upto_region 22 with (fail)
              refine wp_region_T [0, 0, 0, 4] hK ?_
              clear hK
              iterate 3 refine e0 ?_
              refine eM (fun w k => set_any w _ (hN t a) (k1 + (cN t a : Int)) _ (k.up4.up4.up4.up4) ⟨rfl, rfl, trivial⟩ h_H2.out ht_l (by omega)) (fun x56 => ?_)
              obtain ⟨op55, ol55, oc55, pl55, o55⟩ := x56; dsimp only
              refine sxEnd (fun W57 hK => ?_)
              have hS := hid (hK.get m4)
              replace hK := hK.subl (sK2 (sK2 (sK2 (sK2 (sC2 (List.Sublist.refl _))))))
              (try go_wp2)
              go_roundw
              case rel => exact ⟨j + 1, K2.set (hN t a) (k1 + (cN t a : Int)), pl55, o55, op55, ol55, oc55, fun b => ex b ∧ b ≠ a, (by first | rfl | go_num), (by omega), hid hS.out.1, hid (by rw [show qOf _ _ = _ from hS.out.2.1]; exact h_J.out.set har.out haA (arFr_of (by have q := hb5.out; simpa using q) (by rw [hhi]; exact htr.out)) hhi (by show atD _ (hN t a) < 0; rw [atD_of edm.out]; omega) (fun v hv => by have hv : qOf K2 pl2 (hN t a) = some v := hv; rw [key_true hb7.out] at hv; have q := Option.some.inj hv; show k1 + (cN t a : Int) < v; rw [← q, hz1.out]; omega)), hid (fun b hb hx => drop_at2 ha1 (h_ex.out b hb hx.1) hx.2), ((((((hK.up5).up4).up4).up4).up4).up5)⟩
              case measure => simp [intOf] <;> omega
           · --
            have q_b6 : 0 ≤ dm := of_decide_eq_true hb6.out
            (try go_wp2)
            go_roundw
            case rel => exact ⟨j + 1, K2, pl2, o2, op2, ol2, oc2, fun b => ex b ∧ b ≠ a, (by first | rfl | go_num), (by omega), hid h_H2.out, hid (h_J.out.skip har.out fun e hA he => by obtain ⟨_, _, rfl⟩ := arFr_some he; exact ⟨hhi, .inl (by show 0 ≤ atD _ (hN t a); rw [atD_of edm.out]; omega)⟩), hid (fun b hb hx => drop_at2 ha1 (h_ex.out b hb hx.1) hx.2), hK⟩
            case measure => simp [intOf] <;> omega
          · --
           iterate 5 refine eN ?_
           refine e0 ?_
           refine sxEnd (fun W58 hK => ?_)
           (try go_wp2)
           go_roundw
           case rel => exact ⟨j + 1, K2, pl2, o2, op2, ol2, oc2, fun b => ex b ∧ b ≠ a, (by first | rfl | go_num), (by omega), hid h_H2.out, hid (h_J.out.skip har.out fun e hA he => by obtain ⟨q1, _, _⟩ := arFr_some he; have q := hb5.out; rw [q1] at q; cases q), hid (fun b hb hx => drop_at2 ha1 (h_ex.out b hb hx.1) hx.2), hK⟩
           case measure => simp [intOf] <;> omega
       · --
        (try go_wp2)
        go_roundg (nN t - cntD (D.set i k1))
        case measure => rw [hgk12.out]; exact h_I.out.less hpop.out.1.1
        case rel => exact ⟨D.set i k1, K1, pl1, o1, op, l1, oc, hid hP.out.hp, hid (hJ.out.done (over_noF (by have q := hb2.out; simp at q; omega) hb3.out)), hid (hP.out.hp.order_len), hid rfl, ((((((hK.up5).up4).up4).up4).up4).up5)⟩
   · --
    have q_b1 : ((j : Int)) < (((nN t) : Int)) := of_decide_eq_true hb1.out
    have hj : j < nN t := by omega
    have i59 : j < (nN t) := hj
    have l59 : j < (fillD (nN t) j).length := Nat.lt_of_lt_of_eq i59 (hK.len m0)
    obtain ⟨x, ex⟩ : ∃ x, RowKit.Hid ((fillD (nN t) j)[j]? = some x) := ⟨_, hid (List.getElem?_eq_getElem l59)⟩
    go_upto_region 5 with (fail)
    refine wp_region_T [0, 0, 0, 4] hK ?_
    clear hK
    iterate 3 refine e0 ?_
    refine eWI (y := (-1)) 0 l59 ?_ (hi := rfl)
    refine sxEnd (fun W60 hK => ?_)
    rw [show (fillD (nN t) j).set j (-1) = fillD (nN t) (j + 1) from (fill_step hj)] at hK
    (try go_wp2)
    go_roundw
    case rel => exact ⟨j + 1, (by first | rfl | go_num), (by omega), hK⟩
    case measure => simp [intOf] <;> omega
noncomputable def frmR (t : TopD) (down : List Bool) (d : Int) : List Int := if chkD t down [d] = 0 then frmD t down d.toNat else []
theorem frmR_ok {t : TopD} {down : List Bool} {n : Nat} (h : chkD t down [(n : Int)] = 0) : frmR t down n = frmD t down n := by unfold frmR; rw [if_pos h]; rfl
theorem frmR_no {t : TopD} {down : List Bool} {d : Int} (h : chkD t down [d] ≠ 0) : frmR t down d = [] := if_neg h
set_option maxRecDepth 100000 in
set_option maxHeartbeats 1000000 in
theorem from_any (w : World) {v_t : Value} {t : TopD} (ht : TopV w v_t t) {p_d : Option Addr} {n_d c_d : Nat} {down : List Bool} (hd : SlV boolK w (.slice p_d n_d c_d) down) (d : Int) (hl : t.links.length ≤ 100000) :
    Calls Tryz.prog 129 #[v_t, .slice p_d n_d c_d, .int .i64 d] w fun e w' => ∃ x : Sl, e = .returned (.tuple #[.slice x.p x.l x.c, .int .i64 (chkD t down [d])]) ∧ SS w [rO intK 3 x.p x.l x.c (frmR t down d), cF (chkD t down [d] = 0 → IsFrm t down d.toNat (frmD t down d.toNat))] w' := by
  have ht_0 := ht
  obtain ⟨p_t, n_t, c_t, q_t, m_t, d_t, rfl, ht_1, ht_2⟩ := ht_0; have b_t : m_t ≤ 100000 := (by rw [ht_2.one0]; exact hl); have a_t : arcsD t ≤ 200000 := (by unfold arcsD; omega)
  have hK := SS.start w
  refine Calls.hide (fun Q0 hQ0 => ?_)
  go_enter Tryz.func129, Tryz.ntmps129
  go_upto_region 0 with (fail)
  refine wp_region_T [3, 0, 0] hK ?_
  clear hK
  refine eA (.cells #[.int .i64 t.nodes, .slice p_t n_t c_t, .slice q_t m_t d_t] 25) (fun R1 => ?_)
  iterate 2 refine e0 ?_
  refine sxEnd (fun W2 hK => ?_)
  go_upto_region 1 with (fail)
  refine wp_region_T [1, 0, 0, 3, 1, 0] hK ?_
  clear hK
  refine eL m0 ?_
  iterate 2 refine e0 ?_
  refine eA (.cells #[.int .i64 d] 3) (fun R3 => ?_)
  refine eQ (fun w k => check_any w (ht.below k.old) (hd.below k.old) (slBox1 (K := intK) (k.box m0) rfl) hl (by simp)) ?_
  refine e0 ?_
  refine sxEnd (fun W4 hK => ?_)
  go_upto_region 2 with (fail)
  refine wp_region_T [0, 0] hK ?_
  clear hK
  refine e0 ?_
  refine eB (((chkD t down ([d]))) != 0) (fun b1 hb1 => ?_)
  refine sxEnd (fun W5 hK => ?_)
  cases b1
  · --
   have hc := hid (show chkD t down [d] = 0 by have q := hb1.out; simpa using q); have hok := hid (chk_ok hc.out); obtain ⟨d1, rfl⟩ : ∃ n : Nat, d = (n : Int) := ⟨d.toNat, (Int.toNat_of_nonneg hok.out.2.2.1).symm⟩; have hr : d1 < nN t := (by have q := hok.out.2.2.2; rw [(topN hok.out.1).1] at q; omega); have ht2 := hok.out.1
   go_upto_region 4 with (fail)
   refine wp_region_T [1, 2, 3, 4] hK ?_
   clear hK
   refine eL m1 ?_
   refine eC (fun w k => leaving_any w (ht.below k.old) hl ht2) (fun x6 => ?_)
   obtain ⟨⟨p7, n7, c7⟩, ss7⟩ := x6; dsimp only
   refine eA (.cells #[.slice none 0 0] 141) (fun R8 => ?_)
   refine eP 0 0 [.slice p7 n7 c7] ?_
   refine sxEnd (fun W9 hK => ?_)
   go_upto_region 5 with (fail)
   refine wp_region_T [1, 0, 0, 0, 0, 0, 3, 4] hK ?_
   clear hK
   refine eL m3 ?_
   iterate 5 refine e0 ?_
   refine eA (.cells #[.int .i64 0, .slice none 0 0, .slice none 0 0, .slice none 0 0, .int .i64 0, .nilFunc, .nilFunc] 146) (fun R10 => ?_)
   refine eP 0 0 [.int .i64 t.nodes, .slice p_t n_t c_t, .slice q_t m_t d_t, .slice p_d n_d c_d, .int .i64 (d1 : Int), .func (.func 151) #[] #[.pointer (some ⟨R8, 0, none⟩)], .func (.func 152) #[] #[.pointer (some ⟨R1, 0, none⟩)]] ?_
   refine sxEnd (fun W11 hK => ?_)
   go_upto_region 6 with (fail)
   refine wp_region_T [1, 2, 0, 0] hK ?_
   clear hK
   refine eL m0 ?_
   refine eC (fun w k => runF_any w (ht_1.below k.old) (ht_2.below k.old) (hd.below k.old) (hid hok.out.2.1) hl hok.out.1 hr (k.box m4) (k.box m1) (k.fam m2)) (fun x12 => ?_)
   obtain ⟨p13, n13, c13⟩ := x12; dsimp only
   iterate 2 refine e0 ?_
   refine sxEnd (fun W14 hK => ?_)
   have hI : IsFrm t down d1 (frmD t down d1) := hK.get m1
   replace hK := hK.subl (sK2 (sC2 (sC2 (sC2 (sC2 (sC2 (sC2 sZ2)))))))
   rw [← frmR_ok hc.out] at hK
   go_wp2
   try go_ret
   show Q0 (.returned (.tuple #[.slice p13 n13 c13, .int .i64 0])) _
   exact (by obtain rfl := hQ0.out; have hc2 := hc.out; rw [show Ending.returned (.tuple #[.slice p13 n13 c13, .int .i64 0]) = .returned (.tuple #[.slice p13 n13 c13, .int .i64 (chkD t down [(d1 : Int)])]) from by rw [hc2]]; exact ⟨⟨p13, n13, c13⟩, rfl, ((hK.subl (List.Sublist.refl _)).fact (cF _) (fun _ => hI)).up1⟩)
  · --
   have hc := hid (show chkD t down [d] ≠ 0 by have q := hb1.out; simpa using q)
   replace hK := hK.fact (rO intK 3 none 0 0 ([] : List Int)) OwV.nil (fun _ h => by cases h)
   rw [← frmR_no hc.out] at hK
   go_wp2
   try go_ret
   show Q0 (.returned (.tuple #[.slice none 0 0, .int .i64 (chkD t down ([d]))])) _
   exact (by obtain rfl := hQ0.out; exact ⟨⟨none, 0, 0⟩, rfl, ((hK.subl (sK2 (sC2 (sC2 sZ2)))).fact (cF _) (fun e => absurd e hc.out)).up1⟩)
end Go.Proofs.YtmcfomainmppdaaGreatDoor
