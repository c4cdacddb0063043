/- The nodes in their order. -/
import Derived.Test.YtokhapaffleffaaSortI
import Derived.Test.YtokhapaffleffaaDsR
import Derived.Test.YtokhapaffleffaaShelfS
namespace Go.Proofs.Ytokhapaffleffaa
open Go.RowKit
open Go.Lib (decDigits)
open Go.Sort Go.Shelf in
theorem lt_ord {D : List Int} {x y : Nat} : ltOf (Q.cfO D) x y = true ↔ bfO D x y := by
  unfold ltOf Q.cfO Q.cmpZ Q.orL Q.orL Q.orL bfO
  rw [decide_eq_true_iff]
  (repeat' split) <;> omega
open Go.Sort Go.Shelf in
theorem ord_swo (D : List Int) (N : Nat) : SWO (ltOf fun x y => Q.cfO D (nmN N x) (nmN N y)) := by
  have e : ∀ x y, ltOf (fun x y => Q.cfO D (nmN N x) (nmN N y)) x y = true ↔ bfO D (nmN N x) (nmN N y) := fun x y => lt_ord
  have e0 : ∀ x y, ltOf (fun x y => Q.cfO D (nmN N x) (nmN N y)) x y = false ↔ ¬ bfO D (nmN N x) (nmN N y) := fun x y => by rw [← e, Bool.not_eq_true]
  exact ⟨fun x => (e0 x x).2 (by unfold bfO; omega), fun x y z h1 h2 => (e x z).2 (by have q1 := (e x y).1 h1; have q2 := (e y z).1 h2; unfold bfO at *; omega), fun x y z h1 h2 => (e0 x z).2 (by have q1 := (e0 x y).1 h1; have q2 := (e0 y z).1 h2; unfold bfO at *; omega)⟩
def ndsD (D : List Int) : List Nat := selD (fun n => decide (0 ≤ atD D n)) D.length
theorem mem_nds {D : List Int} {x : Nat} : x ∈ ndsD D ↔ x < D.length ∧ 0 ≤ atD D x := by unfold ndsD selD; rw [List.mem_filter, List.mem_range, decide_eq_true_iff]
noncomputable def ordD (D : List Int) : List Nat := Classical.epsilon (IsOrd D.length D)
open Go.Sort Go.Shelf in
theorem ord_of {D : List Int} {ys : List Nat} (hp : ys.Perm (ndsD D)) (hs : ys.Pairwise fun x y => ltOf (fun x y => Q.cfO D (nmN D.length x) (nmN D.length y)) y x = false) : IsOrd D.length D ys := by
  have hm : ∀ x, x ∈ ys ↔ x < D.length ∧ 0 ≤ atD D x := fun x => hp.mem_iff.trans mem_nds
  have hnd : ys.Nodup := hp.nodup_iff.2 (List.Pairwise.filter _ List.nodup_range)
  refine ⟨?_, hm⟩
  refine (hs.and hnd).imp_of_mem fun {x y} hx hy h => ?_
  have q : ¬ bfO D y x := by
    have h1 := h.1
    rw [Bool.eq_false_iff] at h1
    intro q
    refine h1 ?_
    show ltOf (Q.cfO D) (nmN D.length y) (nmN D.length x) = true
    rw [nm_id ((hm x).1 hx).1, nm_id ((hm y).1 hy).1]; exact lt_ord.2 q
  have hne : x ≠ y := h.2
  unfold bfO at *; omega
theorem ord_eq {D : List Int} {ys : List Nat} (h : IsOrd D.length D ys) : ys = ordD D := h.eq (Classical.epsilon_spec ⟨ys, h⟩)
theorem SS.set0 {V w : World} {f f' : Ft} {l : List Ft} (h : SS V ((f :: l).set 0 f') w) : SS V (f' :: l) w := h
theorem sortO_any (w V : World) {p_D : Option Addr} {n_D c_D : Nat} {D : List Int} (hD : SlV intK V (.slice p_D n_D c_D) D) {R n c : Nat} {p : Option Addr} (l : List Ft) (hK : SS V (rO intK 3 p n c (natI (ndsD D)) :: bx R (.cells #[.slice p_D n_D c_D] 32) :: l) w) (hz : OzA l) (hN : 0 < D.length) (hb : D.length ≤ 100000) :
    Calls Try.prog 36 #[.slice p n c, .func (.func 37) #[] #[.pointer (some ⟨R, 0, none⟩)]] w fun e w' => ∃ _ : Unit, e = .returned (.tuple #[]) ∧ SS V (cF (IsOrd D.length D (ordD D)) :: rO intK 3 p n c (natI (ordD D)) :: bx R (.cells #[.slice p_D n_D c_D] 32) :: l) w' := by
  have hxl : (ndsD D).length ≤ D.length := by unfold ndsD selD; exact Nat.le_trans (List.length_filter_le _ _) (by simp)
  have hap := (List.pairwise_cons.1 hK.ap).1 _ (List.mem_cons_self ..)
  refine (sortI_any Try.sortI D.length hN (Q.cfO D) (ord_swo D D.length) 37 #[.pointer (some ⟨R, 0, none⟩)] (enters_of Try.func37 (by kernel_rfl) rfl) (fun x y W hx hy hg => ?_) (hK.own (List.mem_cons_self ..)) (fun x hx => (mem_nds.1 hx).1) (by omega)).mono ?_
  · have h1 := hK.turn (f' := cF True) (i := 0) rfl hg (fun R e => e) (qtZ ⟨rfl, hz⟩) trivial (fun _ h => h.elim)
    exact Q.ord_any 0 R p_D n_D c_D D x y W (h1.box (List.mem_cons_of_mem _ (List.mem_cons_self ..))) (Q.slv_of (hD.below h1.old)) hx hy
  · rintro e w' ⟨ys, rfl, h1, h2, h3, h4⟩
    have hI := ord_of h1 h2
    obtain rfl := ord_eq hI
    exact ⟨(), rfl, (SS.set0 (hK.turn (f' := rO intK 3 p n c (natI (ordD D))) (i := 0) rfl h4 (fun R e => e) (qtZ ⟨rfl, hz⟩) h3 (fun g h => .inl h))).fact (cF (IsOrd D.length D (ordD D))) hI⟩
set_option maxRecDepth 100000 in
theorem sorted_any (w : World) {p_D : Option Addr} {n_D c_D : Nat} {D : List Int} (hD : SlV intK w (.slice p_D n_D c_D) D) (hD0 : 0 < D.length) (hDl : D.length ≤ 100000) :
    Calls Try.prog 17 #[.slice p_D n_D c_D] w fun e w' => ∃ x : Sl, e = .returned (.slice x.p x.l x.c) ∧ SS w [rO intK 3 x.p x.l x.c (natI (ordD D)), cF (IsOrd D.length D (ordD D))] w' := by
  have hK := SS.start w
  have hDn := hD.one0
  refine Calls.hide (fun Q0 hQ0 => ?_)
  go_enter Try.func17, Try.ntmps17
  go_upto_region 0 with (fail)
  refine wp_region_T [3, 0] hK ?_
  clear hK
  refine eA (.cells #[.slice p_D n_D c_D] 32) (fun R1 => ?_)
  refine e0 ?_
  refine sxEnd (fun W2 hK => ?_)
  go_upto_region 2 with (fail)
  refine wp_region_T [1, 0, 0] hK ?_
  clear hK
  refine eL m0 ?_
  iterate 2 refine e0 ?_
  refine sxEnd (fun W3 hK => ?_)
  replace hK := hK.fact (rO intK 3 none 0 0 (natI (selD (fun n => decide (0 ≤ atD D n)) 0))) OwV.nil (fun _ h => by cases h)
  go_wp2_with fail
  go_loopw [8, 3] (fun s8 s3 wl => ∃ (j : Nat) (p : Option Addr) (n_ : Nat) (c : Nat), s8 = .int .i64 (j : Int) ∧ s3 = .slice p n_ c ∧ (j ≤ n_D) ∧ SS w ([rO intK 3 p n_ c (natI (selD (fun n => decide (0 ≤ atD D n)) j)), bx R1 (.cells #[.slice p_D n_D c_D] 32)]) wl) (fun s8 s3 _ => n_D - (intOf s8).toNat)
  case atStart => exact ⟨0, none, 0, 0, rfl, rfl, (by omega), hK⟩
  case round =>
   clear hK
   obtain ⟨j, p, n_, c, rfl, rfl, hj0, hK⟩ := hrel
   generalize wr = W4 at hK ⊢
   go_upto_region 3 with (fail)
   refine wp_region_T [0] hK ?_
   clear hK
   refine eB (decide (((j : Int)) < ((n_D : Int)))) (fun b1 hb1 => ?_)
   refine sxEnd (fun W5 hK => ?_)
   cases b1
   · --
    have q_b1 : ((n_D : Int)) ≤ ((j : Int)) := Int.not_lt.1 (of_decide_eq_false hb1.out)
    have hjn := hid (show j = D.length by have := hD.one0; omega)
    rw [show natI (selD (fun n => decide (0 ≤ atD D n)) j) = natI (ndsD D) from (by unfold ndsD; rw [hjn.out])] at hK
    go_upto_region 8 with (fail)
    refine wp_region_T [0, 0, 4] hK ?_
    clear hK
    iterate 2 refine e0 ?_
    refine eM (fun w k => sortO_any w _ hD _ (k.up1.up1) trivial hD0 hDl) (fun x6 => ?_)
    refine sxEnd (fun W7 hK => ?_)
    go_wp2
    try go_ret
    show Q0 (.returned (.slice p n_ c)) _
    exact (by obtain rfl := hQ0.out; exact ⟨⟨p, n_, c⟩, rfl, (hK.subl (sK2 (sK2 (sC2 sZ2)))).up1⟩)
   · --
    have q_b1 : ((j : Int)) < ((n_D : Int)) := of_decide_eq_true hb1.out
    have hj : j < n_D := by omega
    have i8 : j < n_D := hj
    obtain ⟨g8, o8, rfl⟩ := hD.pt i8
    have l8 : j < D.length := Nat.lt_of_lt_of_eq i8 (hD.one0)
    obtain ⟨dn, edn⟩ : ∃ x, RowKit.Hid (D[j]? = some x) := ⟨_, hid (List.getElem?_eq_getElem l8)⟩
    go_upto_region 4 with (fail)
    refine wp_region_T [0, 0, 0, 0, 0] hK ?_
    clear hK
    iterate 2 refine e0 ?_
    refine eR0 (fun w k => (hD.below k.old).int edn.out) ?_
    iterate 2 refine e0 ?_
    refine sxEnd (fun W9 hK => ?_)
    go_upto_region 5 with (fail)
    refine wp_region_T [0, 0] hK ?_
    clear hK
    refine e0 ?_
    refine eB (decide (0 ≤ dn)) (fun b2 hb2 => ?_)
    refine sxEnd (fun W10 hK => ?_)
    cases b2
    · --
     have q_b2 : dn < 0 := Int.not_le.1 (of_decide_eq_false hb2.out)
     rw [show natI (selD (fun n => decide (0 ≤ atD D n)) j) = natI (selD (fun n => decide (0 ≤ atD D n)) (j + 1)) from (by rw [sel_no (decide_eq_false (by rw [atD_of edn.out]; omega))])] at hK
     (try go_wp2)
     go_roundw
     case rel => exact ⟨j + 1, p, n_, c, (by first | rfl | go_num), (by first | rfl | go_num), (by omega), hK⟩
     case measure => simp [intOf] <;> omega
    · --
     have q_b2 : 0 ≤ dn := of_decide_eq_true hb2.out
     go_upto_region 6 with (fail)
     refine wp_region_T [0, 0, 3, 5, 0] hK ?_
     clear hK
     iterate 2 refine e0 ?_
     refine eA (.cells #[.int .i64 (j : Int)] 3) (fun R11 => ?_)
     refine eApp 1 intK_free rfl infoZ (fun w k => k.one1 (K := intK) (x := (j : Int)) m0 rfl) (by have := sel_len (fun n => decide (0 ≤ atD D n)) j; rw [natI_len]; simp; omega) (fun x12 => ?_)
     obtain ⟨p12, n12, c12⟩ := x12; dsimp only
     refine e0 ?_
     refine sxEnd (fun W13 hK => ?_)
     rw [show (natI (selD (fun n => decide (0 ≤ atD D n)) j)) ++ [(j : Int)] = natI (selD (fun n => decide (0 ≤ atD D n)) (j + 1)) from (by rw [natI_snoc, sel_yes (decide_eq_true (by rw [atD_of edn.out]; omega))])] at hK
     (try go_wp2)
     go_roundw
     case rel => exact ⟨j + 1, p12, n12, c12, (by first | rfl | go_num), (by first | rfl | go_num), (by omega), (hK.subl (sC2 (List.Sublist.refl _)))⟩
     case measure => simp [intOf] <;> omega
end Go.Proofs.Ytokhapaffleffaa
