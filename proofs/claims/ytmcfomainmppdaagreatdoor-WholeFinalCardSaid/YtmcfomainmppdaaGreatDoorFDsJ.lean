/- The indexed heap: comparing, exchanging, settling, taking, setting. The indexed heap: taking, setting, looking. The indexed heap: setting a key; a new heap. -/
import Derived.Test.YtmcfomainmppdaaGreatDoorFDsC
namespace Go.Proofs.YtmcfomainmppdaaGreatDoor
open Go.RowKit
open Go.Lib (decDigits)
theorem at_of {l : List Int} {i : Nat} {x : Int} (h : l[i]? = some x) : atP l i = x := by unfold atP List.getD; rw [h]; rfl
theorem atO_of {l : List Nat} {i x : Nat} (h : l[i]? = some x) : atO l i = x := by unfold atO List.getD; rw [h]; rfl
theorem lt2_ne {K : Nat → Int} {i j : Nat} {x y : Int} (hx : K i = x) (hy : K j = y) (h : x ≠ y) : decide (lt2 K i j) = decide (x < y) := by
  subst hx; subst hy; rw [decide_eq_decide]; unfold lt2; omega
theorem lt2_eq {K : Nat → Int} {i j : Nat} {x y : Int} (hx : K i = x) (hy : K j = y) (h : x = y) : decide (lt2 K i j) = decide ((i : Int) < (j : Int)) := by
  subst hx; subst hy; rw [decide_eq_decide]; unfold lt2; omega
theorem natI_set {o : List Nat} {p i : Nat} : (natI o).set p (i : Int) = natI (o.set p i) := by unfold natI; rw [List.map_set]
theorem natI_sw {o : List Nat} {p q i j : Nat} (hi : atO o p = i) (hj : atO o q = j) : ((natI o).set p (j : Int)).set q (i : Int) = natI (swO o p q) := by
  subst hi; subst hj; rw [natI_set, natI_set]; rfl
set_option maxRecDepth 100000 in
theorem before_any (w : World) {R : Nat} {kp pp op : Option Addr} {kl kc ql pc ol oc : Nat} {K : List Int} {o : List Nat} (p : Nat) (q : Nat) (hB : Has 0 R (.cells #[.slice kp kl kc, .slice pp ql pc, .slice op ol oc] 195) w) (hk : SlV intK w (.slice kp kl kc) K) (ho : SlV intK w (.slice op ol oc) (natI o)) (hp : p < o.length) (hq : q < o.length) (hi : atO o p < K.length) (hj : atO o q < K.length) :
    Calls Tryz.prog 165 #[.pointer (some ⟨R, 0, none⟩), .int .i64 (p : Int), .int .i64 (q : Int)] w fun e w' => e = .returned (.bool (decide (lt2 (atP K) (atO o p) (atO o q)))) ∧ Below w.heap.size w w' := by
  have hK := SS.start w
  have i1 : p < ol := (by have := ho.one0; rw [natI_len] at this; omega)
  obtain ⟨g1, o1, rfl⟩ := ho.pt i1
  have l1 : p < (natI o).length := Nat.lt_of_lt_of_eq i1 (ho.one0)
  obtain ⟨xi, exi⟩ : ∃ x, RowKit.Hid ((natI o)[p]? = some x) := ⟨_, hid (List.getElem?_eq_getElem l1)⟩
  obtain ⟨i, ei, rfl⟩ := natI_at exi.out
  have i2 : q < ol := (by have := ho.one0; rw [natI_len] at this; omega)
  have l2 : q < (natI o).length := Nat.lt_of_lt_of_eq i2 (ho.one0)
  obtain ⟨xj, exj⟩ : ∃ x, RowKit.Hid ((natI o)[q]? = some x) := ⟨_, hid (List.getElem?_eq_getElem l2)⟩
  obtain ⟨j, ej, rfl⟩ := natI_at exj.out
  have i3 : i < kl := (by have := hk.one0; rw [atO_of ei] at hi; omega)
  obtain ⟨g3, o3, rfl⟩ := hk.pt i3
  have l3 : i < K.length := Nat.lt_of_lt_of_eq i3 (hk.one0)
  obtain ⟨ki, eki⟩ : ∃ x, RowKit.Hid (K[i]? = some x) := ⟨_, hid (List.getElem?_eq_getElem l3)⟩
  have i4 : j < kl := (by have := hk.one0; rw [atO_of ej] at hj; omega)
  have l4 : j < K.length := Nat.lt_of_lt_of_eq i4 (hk.one0)
  obtain ⟨kj, ekj⟩ : ∃ x, RowKit.Hid (K[j]? = some x) := ⟨_, hid (List.getElem?_eq_getElem l4)⟩
  refine Calls.hide (fun Q0 hQ0 => ?_)
  go_enter Tryz.func165, Tryz.ntmps165
  go_upto_region 1 with (fail)
  refine wp_region_S _ [0, 0, 0, 0, 0, 0, 0, 0, 0, 0, 0, 0, 0, 0, 0, 0] hK ?_ (List.Sublist.refl _)
  clear hK
  iterate 3 refine e0 ?_
  refine eX0 (fun w k => hB.below k.old) ?_
  iterate 2 refine e0 ?_
  refine eR0 (fun w k => (ho.below k.old).int exi.out) ?_
  iterate 3 refine e0 ?_
  refine eX0 (fun w k => hB.below k.old) ?_
  iterate 2 refine e0 ?_
  refine eR0 (fun w k => (ho.below k.old).int exj.out) ?_
  iterate 2 refine e0 ?_
  refine sxEnd (fun W5 hK => ?_)
  go_upto_region 2 with (fail)
  refine wp_region_S _ [0, 0, 0, 0, 0, 0, 0, 0, 0, 0, 0, 0, 0, 0, 0] hK ?_ (List.Sublist.refl _)
  clear hK
  iterate 3 refine e0 ?_
  refine eX0 (fun w k => hB.below k.old) ?_
  iterate 2 refine e0 ?_
  refine eR0 (fun w k => (hk.below k.old).int eki.out) ?_
  iterate 3 refine e0 ?_
  refine eX0 (fun w k => hB.below k.old) ?_
  iterate 2 refine e0 ?_
  refine eR0 (fun w k => (hk.below k.old).int ekj.out) ?_
  refine eB (ki != kj) (fun b1 hb1 => ?_)
  refine sxEnd (fun W6 hK => ?_)
  cases b1
  · --
   go_upto_region 4 with (fail)
   refine wp_region_T [0, 0, 0, 0] hK ?_
   clear hK
   iterate 2 refine e0 ?_
   refine eB (decide (((i : Int)) < ((j : Int)))) (fun b2 hb2 => ?_)
   refine e0 ?_
   refine sxEnd (fun W7 hK => ?_)
   go_wp2
   try go_ret
   show Q0 (.returned (.bool b2)) _
   exact (by obtain rfl := hQ0.out; exact ⟨congrArg (fun z => Ending.returned (.bool z)) (by rw [atO_of ei, atO_of ej, lt2_eq (at_of eki.out) (at_of ekj.out) (by have q := hb1.out; simpa using q), hb2.out]), hK.old⟩)
  · --
   go_upto_region 3 with (fail)
   refine wp_region_S _ [0, 0, 0, 0, 0, 0, 0, 0, 0, 0, 0, 0, 0, 0, 0, 0] hK ?_ (List.Sublist.refl _)
   clear hK
   iterate 3 refine e0 ?_
   refine eX0 (fun w k => hB.below k.old) ?_
   iterate 2 refine e0 ?_
   refine eR0 (fun w k => (hk.below k.old).int eki.out) ?_
   iterate 3 refine e0 ?_
   refine eX0 (fun w k => hB.below k.old) ?_
   iterate 2 refine e0 ?_
   refine eR0 (fun w k => (hk.below k.old).int ekj.out) ?_
   refine eB (decide (ki < kj)) (fun b2 hb2 => ?_)
   refine e0 ?_
   refine sxEnd (fun W8 hK => ?_)
   go_wp2
   try go_ret
   show Q0 (.returned (.bool b2)) _
   exact (by obtain rfl := hQ0.out; exact ⟨congrArg (fun z => Ending.returned (.bool z)) (by rw [atO_of ei, atO_of ej, lt2_ne (at_of eki.out) (at_of ekj.out) (by have q := hb1.out; simpa using q), hb2.out]), hK.old⟩)
set_option maxRecDepth 100000 in
theorem swap_any (w V : World) {R : Nat} {kp pp op : Option Addr} {kl kc ql pc ol oc : Nat} {K pl : List Int} {o : List Nat} (p : Nat) (q : Nat) (l : List Ft) (hK : SS V ((bx R (.cells #[.slice kp kl kc, .slice pp ql pc, .slice op ol oc] 195)) :: (rO intK 3 kp kl kc K) :: (rO intK 3 pp ql pc pl) :: (rO intK 3 op ol oc (natI o)) :: l) w) (hz : OzA l) {n : Nat} (hpi : PlI n o pl) (hsz : o.length ≤ 100000) (hp : p < o.length) (hq : q < o.length) :
    Calls Tryz.prog 166 #[.pointer (some ⟨R, 0, none⟩), .int .i64 (p : Int), .int .i64 (q : Int)] w fun e w' => ∃ _ : Unit, e = .returned (.tuple #[]) ∧ SS V ((bx R (.cells #[.slice kp kl kc, .slice pp ql pc, .slice op ol oc] 195)) :: (rO intK 3 kp kl kc K) :: (rO intK 3 pp ql pc (swP o pl p q)) :: (rO intK 3 op ol oc (natI (swO o p q))) :: l) w' := by
  have hol := hK.len m3; rw [natI_len] at hol; have hql := hK.len m2; have hb3 := hid hol; have hol1 := Nat.le_of_eq hol; have hol2 := Nat.le_of_eq hol.symm; have hql1 := Nat.le_of_eq hql; have hql2 := Nat.le_of_eq hql.symm; clear hol hql
  refine Calls.hide (fun Q0 hQ0 => ?_)
  go_enter Tryz.func166, Tryz.ntmps166
  have i1 : p < ol := (by omega)
  obtain ⟨g1, rfl⟩ := hK.pt m3 i1
  have l1 : p < (natI o).length := Nat.lt_of_lt_of_eq i1 (hK.len m3)
  obtain ⟨xi, exi⟩ : ∃ x, RowKit.Hid ((natI o)[p]? = some x) := ⟨_, hid (List.getElem?_eq_getElem l1)⟩
  obtain ⟨i, ei, rfl⟩ := natI_at exi.out
  have i2 : q < ol := (by omega)
  have l2 : q < (natI o).length := Nat.lt_of_lt_of_eq i2 (hK.len m3)
  obtain ⟨xj, exj⟩ : ∃ x, RowKit.Hid ((natI o)[q]? = some x) := ⟨_, hid (List.getElem?_eq_getElem l2)⟩
  obtain ⟨j, ej, rfl⟩ := natI_at exj.out
  go_upto_region 0 with (fail)
  refine wp_region_S _ [0, 0, 0, 0, 0, 0, 0, 0, 0, 0, 0, 0, 0, 0, 0, 0, 1, 0, 0, 0, 0, 0, 0, 1, 0, 4, 0, 4] hK ?_ (sK2 (sK2 (sK2 (sC2 (List.Sublist.refl _)))))
  clear hK
  iterate 3 refine e0 ?_
  refine eL0 m0 ?_
  iterate 4 refine e0 ?_
  refine eL0 m0 ?_
  iterate 4 refine e0 ?_
  refine eL0 m0 ?_
  iterate 2 refine e0 ?_
  refine eR (fun w k => (k.own m3).int exj.out) ?_
  iterate 3 refine e0 ?_
  refine eL0 m0 ?_
  iterate 2 refine e0 ?_
  refine eR (fun w k => (k.own m3).int exi.out) ?_
  refine e0 ?_
  refine eWI (y := (j : Int)) 3 l1 ?_ (hi := rfl) (hs := (sK2 (sK2 (sK2 (sC2 (List.Sublist.refl _))))))
  refine e0 ?_
  refine eWI (y := (i : Int)) 3 (by simpa using l2) ?_ (hi := rfl) (hs := (sK2 (sK2 (sK2 (sC2 (List.Sublist.refl _))))))
  refine sxEnd (fun W3 hK => ?_)
  rw [show ((natI o).set p (j : Int)).set q (i : Int) = natI (swO o p q) from (natI_sw (atO_of ei) (atO_of ej))] at hK
  have hpi2 := hpi.swap hp hq; have hn1 : ∀ c, c < o.length → atO (swO o p q) c < pl.length := fun c hc => by rw [hpi.len]; exact (hpi2.here c (by rw [swO_len]; exact hc)).1
  generalize hs2 : swO o p q = o2 at *; have hl2 : o2.length = o.length := by rw [← hs2, swO_len]
  have i4 : p < ol := (by omega)
  have l4 : p < (natI o2).length := Nat.lt_of_lt_of_eq i4 (hK.len m3)
  obtain ⟨xi1, exi1⟩ : ∃ x, RowKit.Hid ((natI o2)[p]? = some x) := ⟨_, hid (List.getElem?_eq_getElem l4)⟩
  obtain ⟨i1, ei1, rfl⟩ := natI_at exi1.out
  have i5 : i1 < ql := (by have := hn1 p hp; rw [atO_of ei1] at this; omega)
  obtain ⟨g5, rfl⟩ := hK.pt m2 i5
  have l5 : i1 < pl.length := Nat.lt_of_lt_of_eq i5 (hK.len m2)
  obtain ⟨y1, ey1⟩ : ∃ x, RowKit.Hid (pl[i1]? = some x) := ⟨_, hid (List.getElem?_eq_getElem l5)⟩
  go_upto_region 1 with (fail)
  refine wp_region_S _ [0, 0, 0, 0, 0, 0, 0, 0, 0, 0, 0, 0, 0, 0, 4] hK ?_ (sK2 (sK2 (sC2 (List.Sublist.refl _))))
  clear hK
  iterate 3 refine e0 ?_
  refine eL0 m0 ?_
  iterate 3 refine e0 ?_
  refine eL0 m0 ?_
  iterate 2 refine e0 ?_
  refine eR0 (fun w k => (k.own m2).int exi1.out) ?_
  refine e0 ?_
  refine eV (.int .i64 ((p + 1 : Nat) : Int)) (fun w' => by go_simp; (try go_bits); exact ⟨congrArg (Value.int .i64) (by omega), rfl⟩) ?_
  refine e0 ?_
  refine eWI (y := ((p + 1 : Nat) : Int)) 2 l5 ?_ (hi := rfl) (hs := (sK2 (sK2 (sC2 (List.Sublist.refl _)))))
  refine sxEnd (fun W6 hK => ?_)
  have i7 : q < ol := (by omega)
  have l7 : q < (natI o2).length := Nat.lt_of_lt_of_eq i7 (hK.len m3)
  obtain ⟨xi2, exi2⟩ : ∃ x, RowKit.Hid ((natI o2)[q]? = some x) := ⟨_, hid (List.getElem?_eq_getElem l7)⟩
  obtain ⟨i2, ei2, rfl⟩ := natI_at exi2.out
  have i8 : i2 < ql := (by have := hn1 q hq; rw [atO_of ei2] at this; omega)
  have l8 : i2 < (pl.set i1 ((p + 1 : Nat) : Int)).length := Nat.lt_of_lt_of_eq i8 (hK.len m2)
  obtain ⟨y2, ey2⟩ : ∃ x, RowKit.Hid ((pl.set i1 ((p + 1 : Nat) : Int))[i2]? = some x) := ⟨_, hid (List.getElem?_eq_getElem l8)⟩
  go_upto_region 2 with (fail)
  refine wp_region_S _ [0, 0, 0, 0, 0, 0, 0, 0, 0, 0, 0, 0, 0, 0, 4] hK ?_ (sK2 (sK2 (sC2 (List.Sublist.refl _))))
  clear hK
  iterate 3 refine e0 ?_
  refine eL0 m0 ?_
  iterate 3 refine e0 ?_
  refine eL0 m0 ?_
  iterate 2 refine e0 ?_
  refine eR0 (fun w k => (k.own m2).int exi2.out) ?_
  refine e0 ?_
  refine eV (.int .i64 ((q + 1 : Nat) : Int)) (fun w' => by go_simp; (try go_bits); exact ⟨congrArg (Value.int .i64) (by omega), rfl⟩) ?_
  refine e0 ?_
  refine eWI (y := ((q + 1 : Nat) : Int)) 2 l8 ?_ (hi := rfl) (hs := (sK2 (sK2 (sC2 (List.Sublist.refl _)))))
  refine sxEnd (fun W9 hK => ?_)
  rw [show (pl.set i1 ((p + 1 : Nat) : Int)).set i2 ((q + 1 : Nat) : Int) = swP o pl p q from (by unfold swP; rw [hs2, atO_of ei1, atO_of ei2]; simp)] at hK
  subst hs2
  go_wp2
  first | exact bodyPost_ret (v := .tuple #[]) (results_none (by simp [Tryz.results166]) _ _ _) rfl (by obtain rfl := hQ0.out; exact ⟨(), rfl, hK⟩) | exact bodyPost_end (v := .tuple #[]) (results_none (by simp [Tryz.results166]) _ _ _) rfl (by obtain rfl := hQ0.out; exact ⟨(), rfl, hK⟩)
set_option maxRecDepth 100000 in
set_option maxHeartbeats 1000000 in
theorem settle_any (w V : World) {R : Nat} {kp pp op : Option Addr} {kl kc ql pc ol oc : Nat} {K pl : List Int} {o : List Nat} (p0 : Nat) (l : List Ft) (hK : SS V ((bx R (.cells #[.slice kp kl kc, .slice pp ql pc, .slice op ol oc] 195)) :: (rO intK 3 kp kl kc K) :: (rO intK 3 pp ql pc pl) :: (rO intK 3 op ol oc (natI o)) :: l) w) (hz : OzA l) {n : Nat} (hkn : K.length = n) (hpi : PlI n o pl) (hsz : o.length ≤ 100000) (hp0 : p0 < o.length) (hHP0 : HP (atP K) o p0) :
    Calls Tryz.prog 154 #[.pointer (some ⟨R, 0, none⟩), .int .i64 (p0 : Int)] w fun e w' => ∃ x : Duo (List Int) (List Nat), e = .returned (.tuple #[]) ∧ SS V ((bx R (.cells #[.slice kp kl kc, .slice pp ql pc, .slice op ol oc] 195)) :: (rO intK 3 kp kl kc K) :: (rO intK 3 pp ql pc x.a) :: (rO intK 3 op ol oc (natI x.b)) :: (cF (StlI n K pl o x.a x.b)) :: l) w' := by
  refine Calls.hide (fun Q0 hQ0 => ?_)
  go_enter Tryz.func154, Tryz.ntmps154
  go_wp2_with fail
  go_loopw [1] (fun s1 wl => ∃ (p : Nat) (pl1 : List Int) (o1 : List Nat), s1 = .int .i64 (p : Int) ∧ (p < o1.length) ∧ (o1.length ≤ 100000) ∧ RowKit.Hid (o1.length = o.length) ∧ RowKit.Hid (PlI n o1 pl1) ∧ RowKit.Hid (∀ x, atP pl1 x = 0 ↔ atP pl x = 0) ∧ RowKit.Hid (HP (atP K) o1 p) ∧ SS V ((bx R (.cells #[.slice kp kl kc, .slice pp ql pc, .slice op ol oc] 195)) :: (rO intK 3 kp kl kc K) :: (rO intK 3 pp ql pc pl1) :: (rO intK 3 op ol oc (natI o1)) :: l) wl) (fun s1 _ => (intOf s1).toNat)
  case atStart => exact ⟨p0, pl, o, rfl, hp0, hsz, hid rfl, hid hpi, hid (fun _ => Iff.rfl), hid hHP0, hK⟩
  case round =>
   clear hK
   obtain ⟨p, pl1, o1, rfl, hp, hsz1, h_len, h_pi, h_sm, h_HP, hK⟩ := hrel
   generalize wr = W1 at hK ⊢
   go_upto_region 0 with (fail)
   refine wp_region_T [0, 0, 0, 0, 0, 0, 0, 0, 1, 0] hK ?_
   clear hK
   refine e0 ?_
   refine eB (decide (0 < ((p : Int)))) (fun b1 hb1 => ?_)
   refine e0 ?_
   cases b1
   · --
    have q_b1 : ((p : Int)) ≤ 0 := Int.not_lt.1 (of_decide_eq_false hb1.out)
    iterate 6 refine eN ?_
    refine e0 ?_
    refine sxEnd (fun W2 hK => ?_)
    go_wp2_with fail
    go_loopw [1] (fun s1 wl => ∃ (p : Nat) (pl1 : List Int) (o1 : List Nat), s1 = .int .i64 (p : Int) ∧ (p < o1.length) ∧ (o1.length ≤ 100000) ∧ RowKit.Hid (o1.length = o.length) ∧ RowKit.Hid (PlI n o1 pl1) ∧ RowKit.Hid (∀ x, atP pl1 x = 0 ↔ atP pl x = 0) ∧ RowKit.Hid (HD (atP K) o1 p) ∧ SS V ((bx R (.cells #[.slice kp kl kc, .slice pp ql pc, .slice op ol oc] 195)) :: (rO intK 3 kp kl kc K) :: (rO intK 3 pp ql pc pl1) :: (rO intK 3 op ol oc (natI o1)) :: l) wl) (fun s1 _ => o.length - (intOf s1).toNat)
    case atStart => exact ⟨p, pl1, o1, rfl, hp, hsz1, hid h_len.out, hid h_pi.out, hid h_sm.out, hid (h_HP.out.stop (.inl (by omega))), hK⟩
    case round =>
     clear hK
     obtain ⟨p, pl1, o1, rfl, hp, hsz1, h_len, h_pi, h_sm, h_HD, hK⟩ := hrel
     generalize wr = W3 at hK ⊢
     have hol := hid ((hK.len m3).trans (natI_len _)); have hol1 := Nat.le_of_eq hol.out; have hol2 := Nat.le_of_eq hol.out.symm
     go_wp2_with fail
     go_loopw [5, 4] (fun s5 s4 wl => ∃ (kd : Nat) (m : Nat), s5 = .int .i64 (kd : Int) ∧ s4 = .int .i64 (m : Int) ∧ (2 * p + 1 ≤ kd) ∧ (kd ≤ 2 * p + 3) ∧ (m < o1.length) ∧ RowKit.Hid (LeI (atP K) o1 p kd m) ∧ SS V ((bx R (.cells #[.slice kp kl kc, .slice pp ql pc, .slice op ol oc] 195)) :: (rO intK 3 kp kl kc K) :: (rO intK 3 pp ql pc pl1) :: (rO intK 3 op ol oc (natI o1)) :: l) wl) (fun s5 s4 _ => 2 * p + 3 - (intOf s5).toNat)
     case atStart => exact ⟨2 * p + 1, p, rfl, rfl, (by omega), (by omega), hp, hid LeI.start, hK⟩
     case round =>
      clear hK
      obtain ⟨kd, m, rfl, rfl, hk1, hk2, hml, h_Le, hK⟩ := hrel
      generalize wr = W4 at hK ⊢
      go_upto_region 5 with (fail)
      refine wp_region_T [0, 0, 0, 0, 0, 0, 0, 0, 0, 0, 1, 0, 0, 0] hK ?_
      clear hK
      iterate 2 refine e0 ?_
      refine eV (.int .i64 ((2 * p : Nat) : Int)) (fun w' => by go_simp; (try go_bits); exact ⟨congrArg (Value.int .i64) (by omega), rfl⟩) ?_
      refine eV (.int .i64 ((2 * p + 2 : Nat) : Int)) (fun w' => by go_simp; (try go_bits); exact ⟨congrArg (Value.int .i64) (by omega), rfl⟩) ?_
      refine eB (decide (((kd : Int)) ≤ (((2 * p + 2 : Nat) : Int)))) (fun b2 hb2 => ?_)
      refine e0 ?_
      cases b2
      · --
       have q_b2 : (((2 * p + 2 : Nat) : Int)) < ((kd : Int)) := Int.not_le.1 (of_decide_eq_false hb2.out)
       iterate 7 refine eN ?_
       refine e0 ?_
       refine sxEnd (fun W5 hK => ?_)
       have hful := hid (h_Le.out.full (by omega))
       go_upto_region 9 with (fail)
       refine wp_region_T [0, 0, 0] hK ?_
       clear hK
       iterate 2 refine e0 ?_
       refine eB (((m : Int)) == ((p : Int))) (fun b3 hb3 => ?_)
       refine sxEnd (fun W6 hK => ?_)
       cases b3
       · --
        have hmp : m ≠ p := (by have q := hb3.out; simp at q; omega); have hkid := hid (h_Le.out.is.resolve_left hmp)
        go_upto_region 10 with (fail)
        refine wp_region_T [0, 0, 0, 4] hK ?_
        clear hK
        iterate 3 refine e0 ?_
        refine eM (fun w k => swap_any w _ p m _ (k.up3.up3.up3.up3) hz h_pi.out hsz1 hp hml) (fun x7 => ?_)
        refine sxEnd (fun W9 hK => ?_)
        (try go_wp2)
        go_roundw
        case rel => exact ⟨m, swP o1 pl1 p m, swO o1 p m, (by first | rfl | go_num), (by rw [swO_len]; exact hml), (by rw [swO_len]; exact hsz1), hid (swO_len.trans h_len.out), hid (h_pi.out.swap hp hml), hid (fun x => (h_pi.out.same hp hml).trans (h_sm.out x)), hid (h_HD.out.down hkid.out.1 hml hkid.out.2.2.1 hkid.out.2.2.2 hful.out), hK⟩
        case measure => have q1 := h_len.out; have q2 := hkid.out.2.2.1; have q3 := hkid.out.1; simp [intOf]; omega
       · --
        go_wp2
        first | exact bodyPost_ret (v := .tuple #[]) (results_none (by simp [Tryz.results154]) _ _ _) rfl (by obtain rfl := hQ0.out; exact (by obtain rfl : m = p := (by have q := hb3.out; simp at q; omega); exact ⟨⟨pl1, o1⟩, rfl, (hK.fact (cF (StlI n K pl o pl1 o1)) ⟨h_pi.out, h_HD.out.stop hful.out, h_len.out, h_sm.out⟩).up4.up4.up4.up4⟩)) | exact bodyPost_end (v := .tuple #[]) (results_none (by simp [Tryz.results154]) _ _ _) rfl (by obtain rfl := hQ0.out; exact (by obtain rfl : m = p := (by have q := hb3.out; simp at q; omega); exact ⟨⟨pl1, o1⟩, rfl, (hK.fact (cF (StlI n K pl o pl1 o1)) ⟨h_pi.out, h_HD.out.stop hful.out, h_len.out, h_sm.out⟩).up4.up4.up4.up4⟩))
      · --
       have q_b2 : ((kd : Int)) ≤ (((2 * p + 2 : Nat) : Int)) := of_decide_eq_true hb2.out
       iterate 4 refine e0 ?_
       refine eL m0 ?_
       refine e0 ?_
       refine eB (decide (((kd : Int)) < ((ol : Int)))) (fun b3 hb3 => ?_)
       refine e0 ?_
       refine sxEnd (fun W10 hK => ?_)
       cases b3
       · --
        have q_b3 : ((ol : Int)) ≤ ((kd : Int)) := Int.not_lt.1 (of_decide_eq_false hb3.out)
        have hful := hid (h_Le.out.full (by omega))
        go_upto_region 9 with (fail)
        refine wp_region_T [0, 0, 0] hK ?_
        clear hK
        iterate 2 refine e0 ?_
        refine eB (((m : Int)) == ((p : Int))) (fun b4 hb4 => ?_)
        refine sxEnd (fun W11 hK => ?_)
        cases b4
        · --
         have hmp : m ≠ p := (by have q := hb4.out; simp at q; omega); have hkid := hid (h_Le.out.is.resolve_left hmp)
         go_upto_region 10 with (fail)
         refine wp_region_T [0, 0, 0, 4] hK ?_
         clear hK
         iterate 3 refine e0 ?_
         refine eM (fun w k => swap_any w _ p m _ (k.up3.up3.up3.up3) hz h_pi.out hsz1 hp hml) (fun x12 => ?_)
         refine sxEnd (fun W14 hK => ?_)
         (try go_wp2)
         go_roundw
         case rel => exact ⟨m, swP o1 pl1 p m, swO o1 p m, (by first | rfl | go_num), (by rw [swO_len]; exact hml), (by rw [swO_len]; exact hsz1), hid (swO_len.trans h_len.out), hid (h_pi.out.swap hp hml), hid (fun x => (h_pi.out.same hp hml).trans (h_sm.out x)), hid (h_HD.out.down hkid.out.1 hml hkid.out.2.2.1 hkid.out.2.2.2 hful.out), hK⟩
         case measure => have q1 := h_len.out; have q2 := hkid.out.2.2.1; have q3 := hkid.out.1; simp [intOf]; omega
        · --
         go_wp2
         first | exact bodyPost_ret (v := .tuple #[]) (results_none (by simp [Tryz.results154]) _ _ _) rfl (by obtain rfl := hQ0.out; exact (by obtain rfl : m = p := (by have q := hb4.out; simp at q; omega); exact ⟨⟨pl1, o1⟩, rfl, (hK.fact (cF (StlI n K pl o pl1 o1)) ⟨h_pi.out, h_HD.out.stop hful.out, h_len.out, h_sm.out⟩).up4.up4.up4.up4⟩)) | exact bodyPost_end (v := .tuple #[]) (results_none (by simp [Tryz.results154]) _ _ _) rfl (by obtain rfl := hQ0.out; exact (by obtain rfl : m = p := (by have q := hb4.out; simp at q; omega); exact ⟨⟨pl1, o1⟩, rfl, (hK.fact (cF (StlI n K pl o pl1 o1)) ⟨h_pi.out, h_HD.out.stop hful.out, h_len.out, h_sm.out⟩).up4.up4.up4.up4⟩))
       · --
        have q_b3 : ((kd : Int)) < ((ol : Int)) := of_decide_eq_true hb3.out
        go_upto_region 7 with (fail)
        refine wp_region_T [0, 0, 0, 1] hK ?_
        clear hK
        iterate 3 refine e0 ?_
        obtain ⟨b4, hb4⟩ : ∃ b : Bool, RowKit.Hid (decide (lt2 (atP K) (atO o1 kd) (atO o1 m)) = b) := ⟨_, hid rfl⟩
        refine eQ (v := .bool b4) (fun w k => before_any w kd m (k.box m0) (k.slv m1) (k.slv m3) (by omega) hml (by rw [hkn]; exact (h_pi.out.here kd (by omega)).1) (by rw [hkn]; exact (h_pi.out.here m hml).1)) ?_ (hv := by rw [hb4.out])
        refine sxEnd (fun W15 hK => ?_)
        cases b4
        · --
         (try go_wp2)
         go_roundw
         case rel => exact ⟨kd + 1, m, (by first | rfl | go_num), (by first | rfl | go_num), (by omega), (by omega), hml, hid (h_Le.out.no (of_decide_eq_false hb4.out)), hK⟩
         case measure => simp [intOf] <;> omega
        · --
         (try go_wp2)
         go_roundw
         case rel => exact ⟨kd + 1, kd, (by first | rfl | go_num), (by first | rfl | go_num), (by omega), (by omega), (by omega), hid (h_Le.out.yes hk1 (by omega) (by omega) (of_decide_eq_true hb4.out)), hK⟩
         case measure => simp [intOf] <;> omega
   · --
    have q_b1 : 0 < ((p : Int)) := of_decide_eq_true hb1.out
    iterate 3 refine e0 ?_
    refine eV (.int .i64 ((p - 1 : Nat) : Int)) (fun w' => by go_simp; (try go_bits); exact ⟨congrArg (Value.int .i64) (by omega), rfl⟩) ?_
    refine eV (.int .i64 (((p - 1) / 2 : Nat) : Int)) (fun w' => by go_simp; (try go_bits); exact ⟨congrArg (Value.int .i64) (by omega), rfl⟩) ?_
    obtain ⟨b2, hb2⟩ : ∃ b : Bool, RowKit.Hid (decide (lt2 (atP K) (atO o1 p) (atO o1 ((p - 1) / 2))) = b) := ⟨_, hid rfl⟩
    refine eQ (v := .bool b2) (fun w k => before_any w p ((p - 1) / 2) (k.box m0) (k.slv m1) (k.slv m3) hp (by omega) (by rw [hkn]; exact (h_pi.out.here p hp).1) (by rw [hkn]; exact (h_pi.out.here _ (by omega)).1)) ?_ (hv := by rw [hb2.out])
    refine e0 ?_
    refine sxEnd (fun W16 hK => ?_)
    cases b2
    · --
     go_wp2_with fail
     go_loopw [1] (fun s1 wl => ∃ (p : Nat) (pl1 : List Int) (o1 : List Nat), s1 = .int .i64 (p : Int) ∧ (p < o1.length) ∧ (o1.length ≤ 100000) ∧ RowKit.Hid (o1.length = o.length) ∧ RowKit.Hid (PlI n o1 pl1) ∧ RowKit.Hid (∀ x, atP pl1 x = 0 ↔ atP pl x = 0) ∧ RowKit.Hid (HD (atP K) o1 p) ∧ SS V ((bx R (.cells #[.slice kp kl kc, .slice pp ql pc, .slice op ol oc] 195)) :: (rO intK 3 kp kl kc K) :: (rO intK 3 pp ql pc pl1) :: (rO intK 3 op ol oc (natI o1)) :: l) wl) (fun s1 _ => o.length - (intOf s1).toNat)
     case atStart => exact ⟨p, pl1, o1, rfl, hp, hsz1, hid h_len.out, hid h_pi.out, hid h_sm.out, hid (h_HP.out.stop (.inr (of_decide_eq_false hb2.out))), hK⟩
     case round =>
      clear hK
      obtain ⟨p, pl1, o1, rfl, hp, hsz1, h_len, h_pi, h_sm, h_HD, hK⟩ := hrel
      generalize wr = W17 at hK ⊢
      have hol := hid ((hK.len m3).trans (natI_len _)); have hol1 := Nat.le_of_eq hol.out; have hol2 := Nat.le_of_eq hol.out.symm
      go_wp2_with fail
      go_loopw [5, 4] (fun s5 s4 wl => ∃ (kd : Nat) (m : Nat), s5 = .int .i64 (kd : Int) ∧ s4 = .int .i64 (m : Int) ∧ (2 * p + 1 ≤ kd) ∧ (kd ≤ 2 * p + 3) ∧ (m < o1.length) ∧ RowKit.Hid (LeI (atP K) o1 p kd m) ∧ SS V ((bx R (.cells #[.slice kp kl kc, .slice pp ql pc, .slice op ol oc] 195)) :: (rO intK 3 kp kl kc K) :: (rO intK 3 pp ql pc pl1) :: (rO intK 3 op ol oc (natI o1)) :: l) wl) (fun s5 s4 _ => 2 * p + 3 - (intOf s5).toNat)
      case atStart => exact ⟨2 * p + 1, p, rfl, rfl, (by omega), (by omega), hp, hid LeI.start, hK⟩
      case round =>
       clear hK
       obtain ⟨kd, m, rfl, rfl, hk1, hk2, hml, h_Le, hK⟩ := hrel
       generalize wr = W18 at hK ⊢
       go_upto_region 5 with (fail)
       refine wp_region_T [0, 0, 0, 0, 0, 0, 0, 0, 0, 0, 1, 0, 0, 0] hK ?_
       clear hK
       iterate 2 refine e0 ?_
       refine eV (.int .i64 ((2 * p : Nat) : Int)) (fun w' => by go_simp; (try go_bits); exact ⟨congrArg (Value.int .i64) (by omega), rfl⟩) ?_
       refine eV (.int .i64 ((2 * p + 2 : Nat) : Int)) (fun w' => by go_simp; (try go_bits); exact ⟨congrArg (Value.int .i64) (by omega), rfl⟩) ?_
       refine eB (decide (((kd : Int)) ≤ (((2 * p + 2 : Nat) : Int)))) (fun b3 hb3 => ?_)
       refine e0 ?_
       cases b3
       · --
        have q_b3 : (((2 * p + 2 : Nat) : Int)) < ((kd : Int)) := Int.not_le.1 (of_decide_eq_false hb3.out)
        iterate 7 refine eN ?_
        refine e0 ?_
        refine sxEnd (fun W19 hK => ?_)
        have hful := hid (h_Le.out.full (by omega))
        go_upto_region 9 with (fail)
        refine wp_region_T [0, 0, 0] hK ?_
        clear hK
        iterate 2 refine e0 ?_
        refine eB (((m : Int)) == ((p : Int))) (fun b4 hb4 => ?_)
        refine sxEnd (fun W20 hK => ?_)
        cases b4
        · --
         have hmp : m ≠ p := (by have q := hb4.out; simp at q; omega); have hkid := hid (h_Le.out.is.resolve_left hmp)
         go_upto_region 10 with (fail)
         refine wp_region_T [0, 0, 0, 4] hK ?_
         clear hK
         iterate 3 refine e0 ?_
         refine eM (fun w k => swap_any w _ p m _ (k.up3.up3.up3.up3) hz h_pi.out hsz1 hp hml) (fun x21 => ?_)
         refine sxEnd (fun W23 hK => ?_)
         (try go_wp2)
         go_roundw
         case rel => exact ⟨m, swP o1 pl1 p m, swO o1 p m, (by first | rfl | go_num), (by rw [swO_len]; exact hml), (by rw [swO_len]; exact hsz1), hid (swO_len.trans h_len.out), hid (h_pi.out.swap hp hml), hid (fun x => (h_pi.out.same hp hml).trans (h_sm.out x)), hid (h_HD.out.down hkid.out.1 hml hkid.out.2.2.1 hkid.out.2.2.2 hful.out), hK⟩
         case measure => have q1 := h_len.out; have q2 := hkid.out.2.2.1; have q3 := hkid.out.1; simp [intOf]; omega
        · --
         go_wp2
         first | exact bodyPost_ret (v := .tuple #[]) (results_none (by simp [Tryz.results154]) _ _ _) rfl (by obtain rfl := hQ0.out; exact (by obtain rfl : m = p := (by have q := hb4.out; simp at q; omega); exact ⟨⟨pl1, o1⟩, rfl, (hK.fact (cF (StlI n K pl o pl1 o1)) ⟨h_pi.out, h_HD.out.stop hful.out, h_len.out, h_sm.out⟩).up4.up4.up4.up4⟩)) | exact bodyPost_end (v := .tuple #[]) (results_none (by simp [Tryz.results154]) _ _ _) rfl (by obtain rfl := hQ0.out; exact (by obtain rfl : m = p := (by have q := hb4.out; simp at q; omega); exact ⟨⟨pl1, o1⟩, rfl, (hK.fact (cF (StlI n K pl o pl1 o1)) ⟨h_pi.out, h_HD.out.stop hful.out, h_len.out, h_sm.out⟩).up4.up4.up4.up4⟩))
       · --
        have q_b3 : ((kd : Int)) ≤ (((2 * p + 2 : Nat) : Int)) := of_decide_eq_true hb3.out
        iterate 4 refine e0 ?_
        refine eL m0 ?_
        refine e0 ?_
        refine eB (decide (((kd : Int)) < ((ol : Int)))) (fun b4 hb4 => ?_)
        refine e0 ?_
        refine sxEnd (fun W24 hK => ?_)
        cases b4
        · --
         have q_b4 : ((ol : Int)) ≤ ((kd : Int)) := Int.not_lt.1 (of_decide_eq_false hb4.out)
         have hful := hid (h_Le.out.full (by omega))
         go_upto_region 9 with (fail)
         refine wp_region_T [0, 0, 0] hK ?_
         clear hK
         iterate 2 refine e0 ?_
         refine eB (((m : Int)) == ((p : Int))) (fun b5 hb5 => ?_)
         refine sxEnd (fun W25 hK => ?_)
         cases b5
         · --
          have hmp : m ≠ p := (by have q := hb5.out; simp at q; omega); have hkid := hid (h_Le.out.is.resolve_left hmp)
          go_upto_region 10 with (fail)
          refine wp_region_T [0, 0, 0, 4] hK ?_
          clear hK
          iterate 3 refine e0 ?_
          refine eM (fun w k => swap_any w _ p m _ (k.up3.up3.up3.up3) hz h_pi.out hsz1 hp hml) (fun x26 => ?_)
          refine sxEnd (fun W28 hK => ?_)
          (try go_wp2)
          go_roundw
          case rel => exact ⟨m, swP o1 pl1 p m, swO o1 p m, (by first | rfl | go_num), (by rw [swO_len]; exact hml), (by rw [swO_len]; exact hsz1), hid (swO_len.trans h_len.out), hid (h_pi.out.swap hp hml), hid (fun x => (h_pi.out.same hp hml).trans (h_sm.out x)), hid (h_HD.out.down hkid.out.1 hml hkid.out.2.2.1 hkid.out.2.2.2 hful.out), hK⟩
          case measure => have q1 := h_len.out; have q2 := hkid.out.2.2.1; have q3 := hkid.out.1; simp [intOf]; omega
         · --
          go_wp2
          first | exact bodyPost_ret (v := .tuple #[]) (results_none (by simp [Tryz.results154]) _ _ _) rfl (by obtain rfl := hQ0.out; exact (by obtain rfl : m = p := (by have q := hb5.out; simp at q; omega); exact ⟨⟨pl1, o1⟩, rfl, (hK.fact (cF (StlI n K pl o pl1 o1)) ⟨h_pi.out, h_HD.out.stop hful.out, h_len.out, h_sm.out⟩).up4.up4.up4.up4⟩)) | exact bodyPost_end (v := .tuple #[]) (results_none (by simp [Tryz.results154]) _ _ _) rfl (by obtain rfl := hQ0.out; exact (by obtain rfl : m = p := (by have q := hb5.out; simp at q; omega); exact ⟨⟨pl1, o1⟩, rfl, (hK.fact (cF (StlI n K pl o pl1 o1)) ⟨h_pi.out, h_HD.out.stop hful.out, h_len.out, h_sm.out⟩).up4.up4.up4.up4⟩))
        · --
         have q_b4 : ((kd : Int)) < ((ol : Int)) := of_decide_eq_true hb4.out
         go_upto_region 7 with (fail)
         refine wp_region_T [0, 0, 0, 1] hK ?_
         clear hK
         iterate 3 refine e0 ?_
         obtain ⟨b5, hb5⟩ : ∃ b : Bool, RowKit.Hid (decide (lt2 (atP K) (atO o1 kd) (atO o1 m)) = b) := ⟨_, hid rfl⟩
         refine eQ (v := .bool b5) (fun w k => before_any w kd m (k.box m0) (k.slv m1) (k.slv m3) (by omega) hml (by rw [hkn]; exact (h_pi.out.here kd (by omega)).1) (by rw [hkn]; exact (h_pi.out.here m hml).1)) ?_ (hv := by rw [hb5.out])
         refine sxEnd (fun W29 hK => ?_)
         cases b5
         · --
          (try go_wp2)
          go_roundw
          case rel => exact ⟨kd + 1, m, (by first | rfl | go_num), (by first | rfl | go_num), (by omega), (by omega), hml, hid (h_Le.out.no (of_decide_eq_false hb5.out)), hK⟩
          case measure => simp [intOf] <;> omega
         · --
          (try go_wp2)
          go_roundw
          case rel => exact ⟨kd + 1, kd, (by first | rfl | go_num), (by first | rfl | go_num), (by omega), (by omega), (by omega), hid (h_Le.out.yes hk1 (by omega) (by omega) (of_decide_eq_true hb5.out)), hK⟩
          case measure => simp [intOf] <;> omega
    · --
     have h0p : 0 < p := (by omega); have hr : (p - 1) / 2 < o1.length := (by omega)
     go_upto_region 1 with (fail)
     refine wp_region_T [0, 0, 0, 0, 0, 4] hK ?_
     clear hK
     iterate 3 refine e0 ?_
     refine eV (.int .i64 ((p - 1 : Nat) : Int)) (fun w' => by go_simp; (try go_bits); exact ⟨congrArg (Value.int .i64) (by omega), rfl⟩) ?_
     refine eV (.int .i64 (((p - 1) / 2 : Nat) : Int)) (fun w' => by go_simp; (try go_bits); exact ⟨congrArg (Value.int .i64) (by omega), rfl⟩) ?_
     refine eM (fun w k => swap_any w _ p ((p - 1) / 2) _ (k.up3.up3.up3.up3) hz h_pi.out hsz1 hp hr) (fun x30 => ?_)
     refine sxEnd (fun W32 hK => ?_)
     (try go_wp2)
     go_roundw
     case rel => exact ⟨((p - 1) / 2), swP o1 pl1 p ((p - 1) / 2), swO o1 p ((p - 1) / 2), (by first | rfl | go_num), (by rw [swO_len]; omega), (by rw [swO_len]; exact hsz1), hid (swO_len.trans h_len.out), hid (h_pi.out.swap hp hr), hid (fun x => (h_pi.out.same hp hr).trans (h_sm.out x)), hid (h_HP.out.up h0p hp (of_decide_eq_true hb2.out)), hK⟩
     case measure => simp [intOf] <;> omega
end Go.Proofs.YtmcfomainmppdaaGreatDoor
namespace Go.Proofs.YtmcfomainmppdaaGreatDoor
open Go.RowKit
open Go.Lib (decDigits)
theorem natI_take {o : List Nat} {L : Nat} : (natI o).take L = natI (o.take L) := by unfold natI; rw [List.map_take]
set_option maxRecDepth 100000 in
set_option maxHeartbeats 1000000 in
theorem take_any (w V : World) {R : Nat} {kp pp op : Option Addr} {kl kc ql pc ol oc : Nat} {K pl : List Int} {o : List Nat} (p : Nat) (l : List Ft) (hK : SS V ((bx R (.cells #[.slice kp kl kc, .slice pp ql pc, .slice op ol oc] 195)) :: (rO intK 3 kp kl kc K) :: (rO intK 3 pp ql pc pl) :: (rO intK 3 op ol oc (natI o)) :: l) w) (hz : OzA l) {n L : Nat} (hH : HpI n K pl o) (hL : o.length = L + 1) (hpL : p ≤ L) (hsz : o.length ≤ 100000) :
    Calls Tryz.prog 155 #[.pointer (some ⟨R, 0, none⟩), .int .i64 (p : Int)] w fun e w' => ∃ x : Duo (List Int) (List Nat), e = .returned (.tuple #[]) ∧ SS V ((bx R (.cells #[.slice kp kl kc, .slice pp ql pc, .slice op L oc] 195)) :: (rO intK 3 kp kl kc (K.set (atO o p) 0)) :: (rO intK 3 pp ql pc x.a) :: (rO intK 3 op L oc (natI x.b)) :: (cF (HpI n (K.set (atO o p) 0) x.a x.b ∧ qOf (K.set (atO o p) 0) x.a = (qOf K pl).del (atO o p))) :: l) w' := by
  have hol := hid ((hK.len m3).trans ((natI_len o).trans hL)); have hol1 := Nat.le_of_eq hol.out; have hol2 := Nat.le_of_eq hol.out.symm; have hLi := hid hL; have hL1 := Nat.le_of_eq hL; have hL2 := Nat.le_of_eq hL.symm; clear hL; have hcap : ol ≤ oc := (by have q := hK.cap m3; rw [natI_len] at q; omega); have hLc : L ≤ oc := by omega
  refine Calls.hide (fun Q0 hQ0 => ?_)
  go_enter Tryz.func155, Tryz.ntmps155
  go_upto_region 0 with (fail)
  refine wp_region_T [0, 0, 0, 1, 0, 0, 0] hK ?_
  clear hK
  iterate 3 refine e0 ?_
  refine eL m0 ?_
  refine e0 ?_
  refine eV (.int .i64 (L : Int)) (fun w' => by go_simp; (try go_bits); exact ⟨congrArg (Value.int .i64) (by omega), rfl⟩) ?_
  refine e0 ?_
  refine sxEnd (fun W1 hK => ?_)
  have i2 : p < ol := (by omega)
  obtain ⟨g2, rfl⟩ := hK.pt m3 i2
  have l2 : p < (natI o).length := Nat.lt_of_lt_of_eq i2 (hK.len m3)
  obtain ⟨xi, exi⟩ : ∃ x, RowKit.Hid ((natI o)[p]? = some x) := ⟨_, hid (List.getElem?_eq_getElem l2)⟩
  obtain ⟨i, ei, rfl⟩ := natI_at exi.out
  go_upto_region 1 with (fail)
  refine wp_region_T [0, 0, 0, 1, 0, 0, 1, 0] hK ?_
  clear hK
  iterate 3 refine e0 ?_
  refine eL m0 ?_
  iterate 2 refine e0 ?_
  refine eR (fun w k => (k.own m3).int exi.out) ?_
  refine e0 ?_
  refine sxEnd (fun W3 hK => ?_)
  go_upto_region 2 with (fail)
  refine wp_region_T [0, 0, 0, 4] hK ?_
  clear hK
  iterate 3 refine e0 ?_
  refine eM (fun w k => swap_any w _ p L _ (k.up3.up3.up3.up3) hz hH.pi hsz (by omega) (by omega)) (fun x4 => ?_)
  refine sxEnd (fun W6 hK => ?_)
  obtain ⟨pl2, hpl2⟩ : ∃ c, RowKit.Hid (swP o pl p L = c) := ⟨_, hid rfl⟩; obtain ⟨o2, ho2⟩ : ∃ c, RowKit.Hid (swO o p L = c) := ⟨_, hid rfl⟩; rw [hpl2.out, ho2.out] at hK
  go_upto_region 3 with (fail)
  refine wp_region_T [0, 0, 0, 0, 1, 0, 0, 0, 0, 4] hK ?_
  clear hK
  iterate 4 refine e0 ?_
  refine eL m0 ?_
  refine e0 ?_
  refine eV (.slice (some ⟨g2, 0, none⟩) L oc) (fun w' => by go_simp; (try go_bits); first | exact ⟨rfl, rfl⟩ | (simp; omega)) ?_
  iterate 2 refine e0 ?_
  refine eP 0 2 [.slice (some ⟨g2, 0, none⟩) L oc] ?_
  refine sxEnd (fun W7 hK => ?_)
  replace hK := hK.up3
  have hl2 := hid (show o2.length = L + 1 by rw [← ho2.out, swO_len, hLi.out]); replace hK := hK.cut (m := L) (by rw [natI_len, hl2.out]; omega); rw [natI_take] at hK
  have hpi2 : PlI n o2 pl2 := (by rw [← ho2.out, ← hpl2.out]; exact hH.pi.swap (by omega) (by omega)); have hin : i < n := (by rw [← atO_of ei]; exact (hH.pi.here p (by omega)).1)
  have i8 : i < ql := (by rw [hK.len m3, hpi2.len]; exact hin)
  obtain ⟨g8, rfl⟩ := hK.pt m3 i8
  have l8 : i < pl2.length := Nat.lt_of_lt_of_eq i8 (hK.len m3)
  obtain ⟨y, ey⟩ : ∃ x, RowKit.Hid (pl2[i]? = some x) := ⟨_, hid (List.getElem?_eq_getElem l8)⟩
  have i9 : i < kl := (by rw [hK.len m2, hH.kl]; exact hin)
  obtain ⟨g9, rfl⟩ := hK.pt m2 i9
  have l9 : i < K.length := Nat.lt_of_lt_of_eq i9 (hK.len m2)
  obtain ⟨z, ez⟩ : ∃ x, RowKit.Hid (K[i]? = some x) := ⟨_, hid (List.getElem?_eq_getElem l9)⟩
  go_upto_region 4 with (fail)
  refine wp_region_S _ [0, 0, 0, 0, 0, 0, 0, 0, 0, 0, 0, 4, 0, 4] hK ?_ (sK2 (sK2 (sC2 (sC2 (List.Sublist.refl _)))))
  clear hK
  iterate 3 refine e0 ?_
  refine eL0 m1 ?_
  iterate 4 refine e0 ?_
  refine eL0 m1 ?_
  iterate 2 refine e0 ?_
  refine eWI (y := 0) 3 l8 ?_ (hi := rfl) (hs := (sK2 (sK2 (sC2 (sC2 (List.Sublist.refl _))))))
  refine e0 ?_
  refine eWI (y := 0) 2 l9 ?_ (hi := rfl) (hs := (sK2 (sK2 (sC2 (sC2 (List.Sublist.refl _))))))
  refine sxEnd (fun W10 hK => ?_)
  have hct := hid (hH.cut hLi.out hpL); rw [ho2.out, hpl2.out, atO_of ei] at hct
  go_upto_region 5 with (fail)
  refine wp_region_T [0, 0, 0] hK ?_
  clear hK
  iterate 2 refine e0 ?_
  refine eB (decide (((p : Int)) < ((L : Int)))) (fun b1 hb1 => ?_)
  refine sxEnd (fun W11 hK => ?_)
  cases b1
  · --
   have q_b1 : ((L : Int)) ≤ ((p : Int)) := Int.not_lt.1 (of_decide_eq_false hb1.out)
   have q := hH.cut_done hLi.out hpL (by rw [atO_of ei]; exact hct.out.2.1) hct.out.1 (by rw [atO_of ei]; exact hct.out.2.2.2 (by omega)) (fun _ => Iff.rfl); rw [atO_of ei] at q
   replace hK := hK.up3
   replace hK := hK.up3
   replace hK := hK.up3
   go_wp2
   first | exact bodyPost_ret (v := .tuple #[]) (results_none (by simp [Tryz.results155]) _ _ _) rfl (by obtain rfl := hQ0.out; rw [atO_of ei]; exact ⟨⟨_, _⟩, rfl, (hK.fact (cF _) q).up4.up4.up4.up4⟩) | exact bodyPost_end (v := .tuple #[]) (results_none (by simp [Tryz.results155]) _ _ _) rfl (by obtain rfl := hQ0.out; rw [atO_of ei]; exact ⟨⟨_, _⟩, rfl, (hK.fact (cF _) q).up4.up4.up4.up4⟩)
  · --
   have q_b1 : ((p : Int)) < ((L : Int)) := of_decide_eq_true hb1.out
   go_upto_region 6 with (fail)
   refine wp_region_T [0, 0, 4] hK ?_
   clear hK
   iterate 2 refine e0 ?_
   refine eM (fun w k => settle_any w _ p _ (k.up3.up3.up3) hz (by rw [List.length_set]; exact hH.kl) hct.out.1 (by rw [List.length_take]; omega) (by rw [List.length_take]; have := hl2.out; omega) (hct.out.2.2.1 (by omega))) (fun x12 => ?_)
   obtain ⟨pl13, o13⟩ := x12; dsimp only
   refine sxEnd (fun W14 hK => ?_)
   have h2 : StlI n (K.set i 0) (pl2.set i 0) (o2.take L) pl13 o13 := hK.get m4; have q := hH.cut_done hLi.out hpL (by rw [atO_of ei]; exact hct.out.2.1) h2.pi (by rw [atO_of ei]; exact h2.hp) h2.same; rw [atO_of ei] at q
   replace hK := hK.up3
   replace hK := hK.up3
   replace hK := hK.up3
   replace hK := hK.up3
   replace hK := hK.subl (sK2 (sK2 (sK2 (sK2 (sC2 (List.Sublist.refl _))))))
   go_wp2
   first | exact bodyPost_ret (v := .tuple #[]) (results_none (by simp [Tryz.results155]) _ _ _) rfl (by obtain rfl := hQ0.out; rw [atO_of ei]; exact ⟨⟨_, _⟩, rfl, (hK.fact (cF _) q).up4.up4.up4.up4⟩) | exact bodyPost_end (v := .tuple #[]) (results_none (by simp [Tryz.results155]) _ _ _) rfl (by obtain rfl := hQ0.out; rw [atO_of ei]; exact ⟨⟨_, _⟩, rfl, (hK.fact (cF _) q).up4.up4.up4.up4⟩)
structure PopX where
  i : Nat
  k : Int
  t : Bool
  l : Nat
  K : List Int
  pl : List Int
  o : List Nat
instance : Nonempty PopX := ⟨⟨0, 0, false, 0, [], [], []⟩⟩
structure PopR (n : Nat) (K pl : List Int) (o : List Nat) (x : PopX) : Prop where
  hp : HpI n x.K x.pl x.o
  no : x.t = false → (∀ y, qOf K pl y = none) ∧ qOf x.K x.pl = qOf K pl
  yes : x.t = true → (qOf K pl).Least x.i x.k ∧ qOf x.K x.pl = (qOf K pl).del x.i
  len : x.o.length ≤ n
theorem PopR.mkNo {n : Nat} {K pl : List Int} {o : List Nat} {l : Nat} (h : HpI n K pl o) (h0 : ∀ y, qOf K pl y = none) : PopR n K pl o ⟨0, 0, false, l, K, pl, o⟩ := ⟨h, fun _ => ⟨h0, rfl⟩, (fun e => by cases e), h.order_len⟩
theorem PopR.mkYes {n : Nat} {K pl : List Int} {o : List Nat} {i L : Nat} {z : Int} {pl' : List Int} {o' : List Nat} (h : HpI n K pl o) (h0 : 0 < o.length) (hi : atO o 0 = i) (hz : atP K i = z) (h2 : HpI n (K.set (atO o 0) 0) pl' o' ∧ qOf (K.set (atO o 0) 0) pl' = (qOf K pl).del (atO o 0)) : PopR n K pl o ⟨i, z, true, L, K.set (atO o 0) 0, pl', o'⟩ := by
  subst hi; subst hz
  exact ⟨h2.1, (fun e => by cases e), fun _ => ⟨h.least h0, h2.2⟩, h2.1.order_len⟩
set_option maxRecDepth 100000 in
set_option maxHeartbeats 1000000 in
theorem pop_any (w V : World) {R : Nat} {kp pp op : Option Addr} {kl kc ql pc ol oc : Nat} {K pl : List Int} {o : List Nat} (l : List Ft) (hK : SS V ((bx R (.cells #[.slice kp kl kc, .slice pp ql pc, .slice op ol oc] 195)) :: (rO intK 3 kp kl kc K) :: (rO intK 3 pp ql pc pl) :: (rO intK 3 op ol oc (natI o)) :: l) w) (hz : OzA l) {n : Nat} (hH : HpI n K pl o) (hsz : o.length ≤ 100000) :
    Calls Tryz.prog 137 #[.pointer (some ⟨R, 0, none⟩)] w fun e w' => ∃ x : PopX, e = .returned (.tuple #[.int .i64 (x.i : Int), .int .i64 x.k, .bool x.t]) ∧ SS V ((bx R (.cells #[.slice kp kl kc, .slice pp ql pc, .slice op x.l oc] 195)) :: (rO intK 3 kp kl kc x.K) :: (rO intK 3 pp ql pc x.pl) :: (rO intK 3 op x.l oc (natI x.o)) :: (cF (PopR n K pl o x)) :: l) w' := by
  have hol := hid ((hK.len m3).trans (natI_len o)); have hol1 := Nat.le_of_eq hol.out; have hol2 := Nat.le_of_eq hol.out.symm
  refine Calls.hide (fun Q0 hQ0 => ?_)
  go_enter Tryz.func137, Tryz.ntmps137
  go_upto_region 1 with (fail)
  refine wp_region_T [0, 0, 0, 0, 0, 0, 1, 0, 0, 0] hK ?_
  clear hK
  refine e0 ?_
  refine eV (.bool false) (fun w' => by go_simp; (try go_bits); exact ⟨rfl, rfl⟩) ?_
  iterate 4 refine e0 ?_
  refine eL m0 ?_
  refine e0 ?_
  refine eB (((ol : Int)) == 0) (fun b1 hb1 => ?_)
  refine e0 ?_
  refine sxEnd (fun W1 hK => ?_)
  cases b1
  · --
   have h0 : 0 < o.length := (by have q := hb1.out; simp at q; omega)
   have i2 : 0 < ol := (by omega)
   obtain ⟨g2, rfl⟩ := hK.pt m3 i2
   have l2 : 0 < (natI o).length := Nat.lt_of_lt_of_eq i2 (hK.len m3)
   obtain ⟨xi, exi⟩ : ∃ x, RowKit.Hid ((natI o)[0]? = some x) := ⟨_, hid (List.getElem?_eq_getElem l2)⟩
   obtain ⟨i, ei, rfl⟩ := natI_at exi.out
   go_upto_region 3 with (fail)
   refine wp_region_T [0, 0, 0, 1, 0, 1, 0] hK ?_
   clear hK
   iterate 3 refine e0 ?_
   refine eL m0 ?_
   refine e0 ?_
   refine eR (fun w k => (k.own m3).int exi.out) ?_
   refine e0 ?_
   refine sxEnd (fun W3 hK => ?_)
   have i4 : i < kl := (by rw [hK.len m1, hH.kl, ← atO_of ei]; exact (hH.pi.here 0 h0).1)
   obtain ⟨g4, rfl⟩ := hK.pt m1 i4
   have l4 : i < K.length := Nat.lt_of_lt_of_eq i4 (hK.len m1)
   obtain ⟨z, ez⟩ : ∃ x, RowKit.Hid (K[i]? = some x) := ⟨_, hid (List.getElem?_eq_getElem l4)⟩
   go_upto_region 4 with (fail)
   refine wp_region_T [0, 0, 0, 1, 0, 0, 1, 0] hK ?_
   clear hK
   iterate 3 refine e0 ?_
   refine eL m0 ?_
   iterate 2 refine e0 ?_
   refine eR (fun w k => (k.own m1).int ez.out) ?_
   refine e0 ?_
   refine sxEnd (fun W5 hK => ?_)
   obtain ⟨L, hL⟩ : ∃ L, RowKit.Hid (o.length = L + 1) := ⟨o.length - 1, hid (by omega)⟩
   go_upto_region 5 with (fail)
   refine wp_region_T [0, 4] hK ?_
   clear hK
   refine e0 ?_
   refine eM (fun w k => take_any w _ 0 _ (k.up3.up3.up3.up3) hz hH hL.out (Nat.zero_le _) hsz) (fun x7 => ?_)
   obtain ⟨pl6, o6⟩ := x7; dsimp only
   refine sxEnd (fun W8 hK => ?_)
   have q := PopR.mkYes (L := L) hH h0 (atO_of ei) (at_of ez.out) (hK.get m4)
   replace hK := hK.up3
   replace hK := hK.up3
   replace hK := hK.up3
   replace hK := hK.up3
   replace hK := hK.subl (sK2 (sK2 (sK2 (sK2 (sC2 (List.Sublist.refl _))))))
   go_wp2
   exact bodyPost_ret (v := .tuple #[.int .i64 (i : Int), .int .i64 z, .bool true]) (by simp [results, Tryz.results137, go_sem]) rfl (by obtain rfl := hQ0.out; exact ⟨⟨i, z, true, L, _, _, _⟩, rfl, (hK.fact (cF _) q).up4.up4.up4.up4⟩)
  · --
   go_wp2
   exact bodyPost_ret (v := .tuple #[.int .i64 0, .int .i64 0, .bool false]) (by simp [results, Tryz.results137, go_sem]) rfl (by obtain rfl := hQ0.out; exact ⟨⟨0, 0, false, ol, K, pl, o⟩, rfl, (hK.fact (cF _) (PopR.mkNo hH (hH.empty (by have q := hb1.out; simp at q; omega)))).up4.up4.up4.up4⟩)
def keyD (q : PQ) (i : Nat) : Int × Bool := match q i with | none => (0, false) | some v => (v, true)
theorem key_no {K pl : List Int} {i : Nat} {y : Int} (h : atP pl i = y) (hy : y = 0) : keyD (qOf K pl) i = (0, false) := by unfold keyD; rw [q_none.2 (h.trans hy)]
theorem key_yes {K pl : List Int} {i : Nat} {y z : Int} (h : atP pl i = y) (hy : y ≠ 0) (hz : atP K i = z) : keyD (qOf K pl) i = (z, true) := by unfold keyD; rw [q_some (by rw [h]; exact hy), hz]
set_option maxRecDepth 100000 in
theorem key_any (w : World) {R : Nat} {kp pp op : Option Addr} {kl kc ql pc ol oc : Nat} {K pl : List Int} (i : Nat) (hB : Has 0 R (.cells #[.slice kp kl kc, .slice pp ql pc, .slice op ol oc] 195) w) (hk : SlV intK w (.slice kp kl kc) K) (hq : SlV intK w (.slice pp ql pc) pl) {n : Nat} (hkn : K.length = n) (hpn : pl.length = n) (hi : i < n) (hbn : n ≤ 100000) :
    Calls Tryz.prog 138 #[.pointer (some ⟨R, 0, none⟩), .int .i64 (i : Int)] w fun e w' => e = .returned (.tuple #[.int .i64 (keyD (qOf K pl) i).1, .bool (keyD (qOf K pl) i).2]) ∧ Below w.heap.size w w' := by
  have hK := SS.start w
  have hk1 := Nat.le_of_eq (hk.one0.trans hkn); have hk2 := Nat.le_of_eq (hk.one0.trans hkn).symm; have hq1 := Nat.le_of_eq (hq.one0.trans hpn); have hq2 := Nat.le_of_eq (hq.one0.trans hpn).symm
  have i1 : i < ql := (by omega)
  obtain ⟨g1, o1, rfl⟩ := hq.pt i1
  have l1 : i < pl.length := Nat.lt_of_lt_of_eq i1 (hq.one0)
  obtain ⟨y, ey⟩ : ∃ x, RowKit.Hid (pl[i]? = some x) := ⟨_, hid (List.getElem?_eq_getElem l1)⟩
  have i2 : i < kl := (by omega)
  obtain ⟨g2, o2, rfl⟩ := hk.pt i2
  have l2 : i < K.length := Nat.lt_of_lt_of_eq i2 (hk.one0)
  obtain ⟨z, ez⟩ : ∃ x, RowKit.Hid (K[i]? = some x) := ⟨_, hid (List.getElem?_eq_getElem l2)⟩
  refine Calls.hide (fun Q0 hQ0 => ?_)
  go_enter Tryz.func138, Tryz.ntmps138
  go_upto_region 1 with (fail)
  refine wp_region_T [0, 0, 0, 0, 0, 0, 0, 0, 0, 0, 0, 0, 0, 0, 0, 0, 0, 0, 0, 0, 0, 0, 0, 0, 0] hK ?_
  clear hK
  refine e0 ?_
  refine eV (.bool false) (fun w' => by go_simp; (try go_bits); exact ⟨rfl, rfl⟩) ?_
  iterate 2 refine e0 ?_
  refine eV (.bool false) (fun w' => by go_simp; (try go_bits); exact ⟨congrArg Value.bool (decide_eq_false (by omega)), rfl⟩) ?_
  iterate 6 refine e0 ?_
  refine eX0 (fun w k => hB.below k.old) ?_
  refine e0 ?_
  refine eV (.bool false) (fun w' => by go_simp; (try go_bits); exact ⟨congrArg Value.bool (decide_eq_false (by omega)), rfl⟩) ?_
  iterate 5 refine e0 ?_
  refine eX0 (fun w k => hB.below k.old) ?_
  iterate 2 refine e0 ?_
  refine eR0 (fun w k => (hq.below k.old).int ey.out) ?_
  refine eB (y == 0) (fun b1 hb1 => ?_)
  refine e0 ?_
  refine sxEnd (fun W3 hK => ?_)
  cases b1
  · --
   go_upto_region 3 with (fail)
   refine wp_region_T [0, 0, 0, 0, 0, 0, 0, 0, 0] hK ?_
   clear hK
   iterate 3 refine e0 ?_
   refine eX0 (fun w k => hB.below k.old) ?_
   iterate 2 refine e0 ?_
   refine eR0 (fun w k => (hk.below k.old).int ez.out) ?_
   iterate 2 refine e0 ?_
   refine sxEnd (fun W4 hK => ?_)
   go_wp2
   try go_ret
   show Q0 (.returned (.tuple #[.int .i64 z, .bool true])) _
   exact (by obtain rfl := hQ0.out; exact ⟨congrArg Ending.returned (by rw [key_yes (at_of ey.out) (by have q := hb1.out; simpa using q) (at_of ez.out)]), hK.old⟩)
  · --
   go_wp2
   try go_ret
   show Q0 (.returned (.tuple #[.int .i64 0, .bool false])) _
   exact (by obtain rfl := hQ0.out; exact ⟨congrArg Ending.returned (by rw [key_no (at_of ey.out) (by have q := hb1.out; simpa using q)]), hK.old⟩)
end Go.Proofs.YtmcfomainmppdaaGreatDoor
namespace Go.Proofs.YtmcfomainmppdaaGreatDoor
open Go.RowKit
open Go.Lib (decDigits)
structure SetX where
  p : Option Addr
  l : Nat
  c : Nat
  pl : List Int
  o : List Nat
instance : Nonempty SetX := ⟨⟨none, 0, 0, [], []⟩⟩
theorem at_self {l : List Int} {i : Nat} {x y : Int} (h : (l.set i x)[i]? = some y) : y = x := by
  have hi := (List.getElem?_eq_some_iff.1 h).1
  rw [List.length_set] at hi
  rw [List.getElem?_set_self hi] at h
  exact (Option.some.inj h).symm
def SetR (n : Nat) (K pl : List Int) (i : Nat) (v : Int) (pl' : List Int) (o' : List Nat) : Prop := HpI n (K.set i v) pl' o' ∧ qOf (K.set i v) pl' = (qOf K pl).put i v ∧ o'.length ≤ n
theorem SetR.mk {n i : Nat} {K pl : List Int} {o : List Nat} {v : Int} {pl' pm : List Int} {o' om : List Nat} (h : HpI n K pl o) (hx : i < n) (hm : ∀ y, atP pm y = 0 ↔ (y ≠ i ∧ atP pl y = 0)) (hs : StlI n (K.set i v) pm om pl' o') : SetR n K pl i v pl' o' := by
  have q := h.set_done hx hm hs
  exact ⟨q.1, q.2, q.1.order_len⟩
theorem h_on {n : Nat} {K pl : List Int} {o : List Nat} (h : HpI n K pl o) : o.length ≤ n := h.order_len
set_option maxRecDepth 100000 in
set_option maxHeartbeats 1000000 in
theorem set_any (w V : World) {R : Nat} {kp pp op : Option Addr} {kl kc ql pc ol oc : Nat} {K pl : List Int} {o : List Nat} (i : Nat) (v : Int) (l : List Ft) (hK : SS V ((bx R (.cells #[.slice kp kl kc, .slice pp ql pc, .slice op ol oc] 195)) :: (rO intK 3 kp kl kc K) :: (rO intK 3 pp ql pc pl) :: (rO intK 3 op ol oc (natI o)) :: l) w) (hz : OzA l) {n : Nat} (hH : HpI n K pl o) (hi : i < n) (hbn : n ≤ 90000) :
    Calls Tryz.prog 136 #[.pointer (some ⟨R, 0, none⟩), .int .i64 (i : Int), .int .i64 v] w fun e w' => ∃ x : SetX, e = .returned (.int .i64 0) ∧ SS V ((bx R (.cells #[.slice kp kl kc, .slice pp ql pc, .slice x.p x.l x.c] 195)) :: (rO intK 3 kp kl kc (K.set i v)) :: (rO intK 3 pp ql pc x.pl) :: (rO intK 3 x.p x.l x.c (natI x.o)) :: (cF (SetR n K pl i v x.pl x.o)) :: l) w' := by
  have hol := hid ((hK.len m3).trans (natI_len o)); have hol1 := Nat.le_of_eq hol.out; have hol2 := Nat.le_of_eq hol.out.symm; have hkl1 := Nat.le_of_eq ((hK.len m1).trans hH.kl); have hkl2 := Nat.le_of_eq ((hK.len m1).trans hH.kl).symm; have hpl1 := Nat.le_of_eq ((hK.len m2).trans hH.pi.len); have hpl2 := Nat.le_of_eq ((hK.len m2).trans hH.pi.len).symm; have hon := h_on hH
  refine Calls.hide (fun Q0 hQ0 => ?_)
  go_enter Tryz.func136, Tryz.ntmps136
  go_upto_region 1 with (fail)
  refine wp_region_T [0, 0] hK ?_
  clear hK
  refine e0 ?_
  refine eV (.bool false) (fun w' => by go_simp; (try go_bits); exact ⟨rfl, rfl⟩) ?_
  refine sxEnd (fun W1 hK => ?_)
  go_upto_region 3 with (fail)
  refine wp_region_T [0, 0, 0, 0, 0, 0, 0, 1, 0, 0, 0] hK ?_
  clear hK
  refine e0 ?_
  refine eV (.bool false) (fun w' => by go_simp; (try go_bits); exact ⟨congrArg Value.bool (decide_eq_false (by omega)), rfl⟩) ?_
  iterate 5 refine e0 ?_
  refine eL m0 ?_
  refine e0 ?_
  refine eV (.bool false) (fun w' => by go_simp; (try go_bits); exact ⟨congrArg Value.bool (decide_eq_false (by omega)), rfl⟩) ?_
  refine e0 ?_
  refine sxEnd (fun W2 hK => ?_)
  have i3 : i < kl := (by omega)
  obtain ⟨g3, rfl⟩ := hK.pt m1 i3
  have l3 : i < K.length := Nat.lt_of_lt_of_eq i3 (hK.len m1)
  obtain ⟨z, ez⟩ : ∃ x, RowKit.Hid (K[i]? = some x) := ⟨_, hid (List.getElem?_eq_getElem l3)⟩
  go_upto_region 5 with (fail)
  refine wp_region_T [0, 0, 0, 1, 0, 0, 0, 4] hK ?_
  clear hK
  iterate 3 refine e0 ?_
  refine eL m0 ?_
  iterate 3 refine e0 ?_
  refine eWI (y := v) 1 l3 ?_ (hi := rfl)
  refine sxEnd (fun W4 hK => ?_)
  have i5 : i < ql := (by omega)
  obtain ⟨g5, rfl⟩ := hK.pt m2 i5
  have l5 : i < pl.length := Nat.lt_of_lt_of_eq i5 (hK.len m2)
  obtain ⟨y, ey⟩ : ∃ x, RowKit.Hid (pl[i]? = some x) := ⟨_, hid (List.getElem?_eq_getElem l5)⟩
  go_upto_region 6 with (fail)
  refine wp_region_T [0, 0, 0, 1, 0, 0, 1, 0] hK ?_
  clear hK
  iterate 3 refine e0 ?_
  refine eL m0 ?_
  iterate 2 refine e0 ?_
  refine eR (fun w k => (k.own m2).int ey.out) ?_
  refine eB (y == 0) (fun b1 hb1 => ?_)
  refine sxEnd (fun W6 hK => ?_)
  cases b1
  · --
   obtain ⟨p, hp, hyp, hop, hHP⟩ := hH.set_held (v := v) hi (by rw [at_of ey.out]; have q := hb1.out; simpa using q)
   rw [at_of ey.out] at hyp; subst hyp
   go_upto_region 9 with (fail)
   refine wp_region_T [0, 0, 0, 0, 1, 0, 0, 1, 0, 4] hK ?_
   clear hK
   iterate 4 refine e0 ?_
   refine eL m0 ?_
   iterate 2 refine e0 ?_
   refine eR (fun w k => (k.own m2).int ey.out) ?_
   refine eV (.int .i64 (p : Int)) (fun w' => by go_simp; (try go_bits); exact ⟨congrArg (Value.int .i64) (by omega), rfl⟩) ?_
   refine eM (fun w k => settle_any w _ p _ (k.up3.up3.up3.up3) hz (by rw [List.length_set]; exact hH.kl) hH.pi (by omega) hp hHP) (fun x7 => ?_)
   obtain ⟨pl8, o8⟩ := x7; dsimp only
   refine sxEnd (fun W9 hK => ?_)
   have q := SetR.mk hH hi (fun y => ⟨fun e => ⟨fun e2 => by subst e2; rw [at_of ey.out] at e; omega, e⟩, fun e => e.2⟩) (hK.get m4)
   replace hK := hK.up3
   replace hK := hK.up3
   replace hK := hK.up3
   replace hK := hK.up3
   replace hK := hK.subl (sK2 (sK2 (sK2 (sK2 (sC2 (List.Sublist.refl _))))))
   go_wp2
   try go_ret
   show Q0 (.returned (.int .i64 0)) _
   exact (by obtain rfl := hQ0.out; exact ⟨⟨op, ol, oc, _, _⟩, rfl, (hK.fact (cF _) q).up4.up4.up4.up4⟩)
  · --
   go_upto_region 7 with (fail)
   refine wp_region_T [0, 0, 0, 0, 1, 0, 3, 5, 0, 0, 4] hK ?_
   clear hK
   iterate 4 refine e0 ?_
   refine eL m0 ?_
   refine e0 ?_
   refine eA (.cells #[.int .i64 (i : Int)] 3) (fun R10 => ?_)
   refine eApp 4 intK_free rfl infoZ (fun w k => k.one1 (K := intK) (x := (i : Int)) m0 rfl) (by rw [natI_len]; simp; omega) (fun x11 => ?_)
   obtain ⟨p11, n11, c11⟩ := x11; dsimp only
   iterate 2 refine e0 ?_
   refine eP 1 2 [.slice p11 n11 c11] ?_
   refine sxEnd (fun W12 hK => ?_)
   rw [show (natI o) ++ [(i : Int)] = natI (o ++ [i]) from natI_snoc o i] at hK
   have hn2 := hid (show n11 = o.length + 1 from by have q := hK.len m4; rw [natI_len] at q; simpa using q)
   go_upto_region 8 with (fail)
   refine wp_region_S _ [0, 0, 0, 0, 0, 0, 0, 0, 0, 0, 0, 4] hK ?_ (sK2 (sK2 (sK2 (sC2 (List.Sublist.refl _)))))
   clear hK
   iterate 3 refine e0 ?_
   refine eL0 m1 ?_
   iterate 4 refine e0 ?_
   refine eL0 m1 ?_
   iterate 2 refine e0 ?_
   refine eWI (y := (n11 : Int)) 3 l5 ?_ (hi := rfl) (hs := (sK2 (sK2 (sK2 (sC2 (List.Sublist.refl _))))))
   refine sxEnd (fun W13 hK => ?_)
   rw [show pl.set i (n11 : Int) = pl.set i ((o.length : Int) + 1) from (by rw [hn2.out]; simp)] at hK
   have i14 : i < ql := (by omega)
   have l14 : i < (pl.set i ((o.length : Int) + 1)).length := Nat.lt_of_lt_of_eq i14 (hK.len m3)
   obtain ⟨y9, ey9⟩ : ∃ x, RowKit.Hid ((pl.set i ((o.length : Int) + 1))[i]? = some x) := ⟨_, hid (List.getElem?_eq_getElem l14)⟩
   obtain rfl : y9 = ((o.length + 1 : Nat) : Int) := at_self ey9.out
   have hsn := hid (hH.set_new (v := v) hi (at_of ey.out ▸ (by have q := hb1.out; simpa using q)))
   go_upto_region 9 with (fail)
   refine wp_region_T [0, 0, 0, 0, 1, 0, 0, 1, 0, 4] hK ?_
   clear hK
   iterate 4 refine e0 ?_
   refine eL m1 ?_
   iterate 2 refine e0 ?_
   refine eR (fun w k => (k.own m3).int ey9.out) ?_
   refine eV (.int .i64 (o.length : Int)) (fun w' => by go_simp; (try go_bits); exact ⟨congrArg (Value.int .i64) (by omega), rfl⟩) ?_
   refine eM (fun w k => settle_any w _ o.length _ (k.up4.up4.up4.up4) ⟨rfl, hz⟩ (by rw [List.length_set]; exact hH.kl) hsn.out.1 (by simp; omega) (by simp) hsn.out.2) (fun x15 => ?_)
   obtain ⟨pl16, o16⟩ := x15; dsimp only
   refine sxEnd (fun W17 hK => ?_)
   have q := SetR.mk hH hi (fun y => by by_cases e : y = i <;> simp [atP_set (show i < pl.length by rw [hH.pi.len]; exact hi), e, Ne.symm] <;> omega) (hK.get m4)
   replace hK := hK.up3
   replace hK := hK.up3
   replace hK := hK.up3
   replace hK := hK.up3
   replace hK := hK.subl (sK2 (sK2 (sK2 (sK2 (sC2 (sC2 (List.Sublist.refl _)))))))
   go_wp2
   try go_ret
   show Q0 (.returned (.int .i64 0)) _
   exact (by obtain rfl := hQ0.out; exact ⟨⟨p11, n11, c11, _, _⟩, rfl, (hK.fact (cF _) q).up4.up4.up4.up4⟩)
structure NewX where
  R : Nat
  kp : Nat
  pp : Nat
instance : Nonempty NewX := ⟨⟨0, 0, 0⟩⟩
set_option maxRecDepth 100000 in
theorem new_any (w : World) (n : Nat) (hn : n ≤ 60000) :
    Calls Tryz.prog 135 #[.int .i64 (n : Int)] w fun e w' => ∃ x : NewX, e = .returned (.tuple #[.pointer (some ⟨x.R, 0, none⟩), .int .i64 0]) ∧ SS w [bx x.R (.cells #[.slice (some ⟨x.kp, 0, none⟩) n n, .slice (some ⟨x.pp, 0, none⟩) n n, .slice none 0 0] 195), rO intK 3 (some ⟨x.kp, 0, none⟩) n n (List.replicate n 0), rO intK 3 (some ⟨x.pp, 0, none⟩) n n (List.replicate n 0), rO intK 3 none 0 0 (natI [])] w' := by
  have hK := SS.start w
  refine Calls.hide (fun Q0 hQ0 => ?_)
  go_enter Tryz.func135, Tryz.ntmps135
  go_upto_region 1 with (fail)
  refine wp_region_T [0, 0, 0, 0, 0, 0] hK ?_
  clear hK
  refine e0 ?_
  refine eV (.bool false) (fun w' => by go_simp; (try go_bits); exact ⟨congrArg Value.bool (decide_eq_false (by omega)), rfl⟩) ?_
  iterate 2 refine e0 ?_
  refine eV (.bool false) (fun w' => by go_simp; (try go_bits); exact ⟨congrArg Value.bool (decide_eq_false (by omega)), rfl⟩) ?_
  refine e0 ?_
  refine sxEnd (fun W1 hK => ?_)
  go_upto_region 3 with (fail)
  refine wp_region_S _ [0, 3, 0, 3, 0, 3, 0, 0] hK ?_ (List.Sublist.refl _)
  clear hK
  refine e0 ?_
  refine eMk (K := intK) (t := 3) (x := 0) n (fun _ => rfl) rfl infoZ (by show n * 1 ≤ _; omega) (by decide) (fun g2 => ?_)
  refine e0 ?_
  refine eMk (K := intK) (t := 3) (x := 0) n (fun _ => rfl) rfl infoZ (by show n * 1 ≤ _; omega) (by decide) (fun g3 => ?_)
  refine e0 ?_
  refine eA (.cells #[.slice (some ⟨g2, 0, none⟩) n n, .slice (some ⟨g3, 0, none⟩) n n, .slice none 0 0] 195) (fun R4 => ?_)
  iterate 2 refine e0 ?_
  refine sxEnd (fun W5 hK => ?_)
  replace hK := hK.up1
  replace hK := hK.made (K := intK) (n := n) (fun _ => rfl) (by simp [maxLen]; omega)
  replace hK := hK.up2
  replace hK := hK.made (K := intK) (n := n) (fun _ => rfl) (by simp [maxLen]; omega)
  replace hK := hK.fact (rO intK 3 none 0 0 (natI [])) OwV.nil (fun _ h => by cases h)
  replace hK := hK.up2
  replace hK := hK.up2
  replace hK := hK.up3
  go_wp2
  try go_ret
  show Q0 (.returned (.tuple #[.pointer (some ⟨R4, 0, none⟩), .int .i64 0])) _
  exact (by obtain rfl := hQ0.out; exact ⟨⟨R4, g2, g3⟩, rfl, hK⟩)
end Go.Proofs.YtmcfomainmppdaaGreatDoor
