/- Next arcs, distances checked. Next arcs of a node. -/
import Derived.Test.YtmcfomainmppdaaGreatDoorFDsK
import Derived.Test.YtmcfomainmppdaaGreatDoorFDagL
namespace Go.Proofs.YtmcfomainmppdaaGreatDoor
open Go.RowKit
open Go.Lib (decDigits)
set_option maxRecDepth 100000 in
set_option maxHeartbeats 1000000 in
theorem next_any (w : World) {v_t : Value} {t : TopD} (ht : TopV w v_t t) {p_d : Option Addr} {n_d c_d : Nat} {down : List Bool} (hd : SlV boolK w (.slice p_d n_d c_d) down) {p_D : Option Addr} {n_D c_D : Nat} {D : List Int} (hD : SlV intK w (.slice p_D n_D c_D) D) {p_L : Option Addr} {n_L c_L : Nat} {L : List Int} (hL : SlV intK w (.slice p_L n_L c_L) L) (n : Nat) (d : Nat) (hl : t.links.length ≤ 100000) (ht2 : topOk t = true) (hdl : RowKit.Hid (down.length = 0 ∨ down.length = arcsD t)) (hDl : D.length = nN t) (hsm : ∀ x, atD D x ≤ 4300000) (hn : n < nN t) (hLe : L = natI (outD t n)) :
    Calls Tryz.prog 95 #[v_t, .slice p_d n_d c_d, .slice p_D n_D c_D, .slice p_L n_L c_L, .int .i64 (n : Int), .int .i64 (d : Int)] w fun e w' => ∃ x : Sl, e = .returned (.slice x.p x.l x.c) ∧ SS w [rO intK 3 x.p x.l x.c (natI (nxtD t down D n d))] w' := by
  have ht_0 := ht
  obtain ⟨p_t, n_t, c_t, q_t, m_t, d_t, rfl, ht_1, ht_2⟩ := ht_0; have b_t : m_t ≤ 100000 := (by rw [ht_2.one0]; exact hl); have a_t : arcsD t ≤ 200000 := (by unfold arcsD; omega)
  have hK := SS.start w
  subst hLe
  have hnn := hid (topN ht2); have hnm : nN t ≤ 64 := hnn.out.2.2.1; have hov := hid hnn.out.2.2.2.1; have hDn1 := Nat.le_of_eq (hD.one0.trans hDl); have hDn2 := Nat.le_of_eq (hD.one0.trans hDl).symm; have hL1 := Nat.le_of_eq (hL.one0.trans (natI_len _)); have hL2 := Nat.le_of_eq (hL.one0.trans (natI_len _)).symm; have hL3 := out_len t n
  refine Calls.hide (fun Q0 hQ0 => ?_)
  go_enter Tryz.func95, Tryz.ntmps95
  go_upto_region 0 with (fail)
  refine wp_region_T [3, 0] hK ?_
  clear hK
  refine eA (.cells #[.int .i64 t.nodes, .slice p_t n_t c_t, .slice q_t m_t d_t] 25) (fun R1 => ?_)
  refine e0 ?_
  refine sxEnd (fun W2 hK => ?_)
  have i3 : n < n_D := (by omega)
  obtain ⟨g3, o3, rfl⟩ := hD.pt i3
  have l3 : n < D.length := Nat.lt_of_lt_of_eq i3 (hD.one0)
  obtain ⟨dn, edn⟩ : ∃ x, RowKit.Hid (D[n]? = some x) := ⟨_, hid (List.getElem?_eq_getElem l3)⟩
  go_upto_region 2 with (fail)
  refine wp_region_T [0, 0, 0, 0, 0, 0, 0, 0, 0, 0] hK ?_
  clear hK
  iterate 2 refine e0 ?_
  refine eB (((n : Int)) == ((d : Int))) (fun b1 hb1 => ?_)
  refine e0 ?_
  cases b1
  · --
   iterate 3 refine e0 ?_
   refine eR0 (fun w k => (hD.below k.old).int edn.out) ?_
   refine eB (decide (dn < 0)) (fun b2 hb2 => ?_)
   refine e0 ?_
   refine sxEnd (fun W4 hK => ?_)
   cases b2
   · --
    have q_b2 : 0 ≤ dn := Int.not_lt.1 (of_decide_eq_false hb2.out)
    replace hK := hK.fact (rO intK 3 none 0 0 (natI (selL (onP t down D n d) (outD t n) 0))) OwV.nil (fun _ h => by cases h)
    go_wp2_with fail
    go_loopw [30, 13] (fun s30 s13 wl => ∃ (j : Nat) (p : Option Addr) (n_ : Nat) (c : Nat), s30 = .int .i64 (j : Int) ∧ s13 = .slice p n_ c ∧ (j ≤ n_L) ∧ SS w ([rO intK 3 p n_ c (natI (selL (onP t down D n d) (outD t n) j)), bx R1 (.cells #[.int .i64 t.nodes, .slice p_t n_t c_t, .slice q_t m_t d_t] 25)]) wl) (fun s30 s13 _ => n_L - (intOf s30).toNat)
    case atStart => exact ⟨0, none, 0, 0, rfl, rfl, (by omega), hK⟩
    case round =>
     clear hK
     obtain ⟨j, p, n_, c, rfl, rfl, hj0, hK⟩ := hrel
     generalize wr = W5 at hK ⊢
     go_upto_region 5 with (fail)
     refine wp_region_T [0] hK ?_
     clear hK
     refine eB (decide (((j : Int)) < ((n_L : Int)))) (fun b3 hb3 => ?_)
     refine sxEnd (fun W6 hK => ?_)
     cases b3
     · --
      have q_b3 : ((n_L : Int)) ≤ ((j : Int)) := Int.not_lt.1 (of_decide_eq_false hb3.out)
      rw [show natI (selL (onP t down D n d) (outD t n) j) = natI (nxtD t down D n d) from (by rw [selL_all (by omega), nxt_prog (by have q := hb1.out; simp at q; omega)])] at hK
      go_wp2
      try go_ret
      show Q0 (.returned (.slice p n_ c)) _
      exact (by obtain rfl := hQ0.out; exact ⟨⟨p, n_, c⟩, rfl, hK.subl (sK2 (sC2 sZ2))⟩)
     · --
      have q_b3 : ((j : Int)) < ((n_L : Int)) := of_decide_eq_true hb3.out
      have hj : j < n_L := by omega
      have i7 : j < n_L := hj
      obtain ⟨g7, o7, rfl⟩ := hL.pt i7
      have l7 : j < (natI (outD t n)).length := Nat.lt_of_lt_of_eq i7 (hL.one0)
      obtain ⟨xa, exa⟩ : ∃ x, RowKit.Hid ((natI (outD t n))[j]? = some x) := ⟨_, hid (List.getElem?_eq_getElem l7)⟩
      obtain ⟨a, ha1, rfl⟩ := natI_at exa.out; have ha2 := mem_out.1 (List.mem_of_getElem? ha1); have haA := ha2.1; obtain ⟨_, _, _, _, hh_l, _, hc1, hc2⟩ := arc_ok ht2 haA
      go_upto_region 6 with (fail)
      refine wp_region_T [0, 0, 0] hK ?_
      clear hK
      refine e0 ?_
      refine eR0 (fun w k => (hL.below k.old).int exa.out) ?_
      refine e0 ?_
      refine sxEnd (fun W8 hK => ?_)
      go_upto_region 7 with (fail)
      refine wp_region_T [1, 0, 1, 0] hK ?_
      clear hK
      refine eL m1 ?_
      refine e0 ?_
      refine eQ (fun w k => headN_any w (ht.below k.old) a hl ht2 haA) ?_
      refine e0 ?_
      refine sxEnd (fun W9 hK => ?_)
      have i10 : hN t a < n_D := (by omega)
      have l10 : hN t a < D.length := Nat.lt_of_lt_of_eq i10 (hD.one0)
      obtain ⟨dm, edm⟩ : ∃ x, RowKit.Hid (D[hN t a]? = some x) := ⟨_, hid (List.getElem?_eq_getElem l10)⟩
      have hdm1 : dm ≤ 4300000 := (by have q := hsm (hN t a); rw [atD_of edm.out] at q; exact q)
      go_upto_region 8 with (fail)
      refine wp_region_T [0, 0, 1, 0, 0, 0, 0, 0, 0, 0, 0, 0, 0, 0, 0, 1, 0, 1, 0, 0] hK ?_
      clear hK
      iterate 2 refine e0 ?_
      obtain ⟨b4, hb4⟩ : ∃ b : Bool, RowKit.Hid ((!upD down a) = b) := ⟨_, hid rfl⟩
      refine eQ (v := .bool b4) (fun w k => down_any w (hd.below k.old) a (by have := hdl.out; omega)) ?_ (hv := by rw [hb4.out])
      refine e0 ?_
      cases b4
      · --
       iterate 3 refine e0 ?_
       refine eR0 (fun w k => (hD.below k.old).int edm.out) ?_
       refine eB (decide (dm < 0)) (fun b5 hb5 => ?_)
       iterate 2 refine e0 ?_
       cases b5
       · --
        have q_b5 : 0 ≤ dm := Int.not_lt.1 (of_decide_eq_false hb5.out)
        iterate 2 refine e0 ?_
        refine eB ((((hN t a : Nat) : Int)) != ((d : Int))) (fun b6 hb6 => ?_)
        refine e0 ?_
        cases b6
        · --
         iterate 3 refine eN ?_
         iterate 2 refine e0 ?_
         refine sxEnd (fun W11 hK => ?_)
         go_upto_region 9 with (fail)
         refine wp_region_S _ [0, 0, 0, 0, 0, 0, 1, 0, 0, 0, 0, 0, 0] hK ?_ (List.Sublist.refl _)
         clear hK
         iterate 3 refine e0 ?_
         refine eR0 (fun w k => (hD.below k.old).int edm.out) ?_
         refine eL0 m1 ?_
         refine e0 ?_
         refine eQ (fun w k => costN_any w (ht.below k.old) a hl ht2 haA) ?_
         refine eV (.int .i64 (dm + (cN t a : Int))) (fun w' => by go_simp; (try go_bits); exact ⟨congrArg (Value.int .i64) (by omega), rfl⟩) ?_
         iterate 3 refine e0 ?_
         refine eR0 (fun w k => (hD.below k.old).int edn.out) ?_
         refine eB (((dm + (cN t a : Int))) == dn) (fun b7 hb7 => ?_)
         refine sxEnd (fun W12 hK => ?_)
         cases b7
         · --
          rw [show natI (selL (onP t down D n d) (outD t n) j) = natI (selL (onP t down D n d) (outD t n) (j + 1)) from (by rw [selL_no ha1 (by unfold onP; rw [atD_of edm.out, atD_of edn.out]; have qb3 := hb3.out; (try simp at qb3); have qb4 := hb4.out; (try simp at qb4); have qb5 := hb5.out; (try simp at qb5); have qb6 := hb6.out; (try simp at qb6); have qb7 := hb7.out; (try simp at qb7); simp [qb4, qb7] <;> omega)])] at hK
          (try go_wp2)
          go_roundw
          case rel => exact ⟨j + 1, p, n_, c, (by first | rfl | go_num), (by first | rfl | go_num), (by omega), hK⟩
          case measure => simp [intOf] <;> omega
         · --
          go_upto_region 10 with (fail)
          refine wp_region_T [0, 0, 3, 5, 0] hK ?_
          clear hK
          iterate 2 refine e0 ?_
          refine eA (.cells #[.int .i64 (a : Int)] 3) (fun R13 => ?_)
          refine eApp 1 intK_free rfl infoZ (fun w k => k.one1 (K := intK) (x := (a : Int)) m0 rfl) (by have := selL_len (onP t down D n d) (outD t n) j; rw [natI_len]; simp; omega) (fun x14 => ?_)
          obtain ⟨p14, n14, c14⟩ := x14; dsimp only
          refine e0 ?_
          refine sxEnd (fun W15 hK => ?_)
          rw [show (natI (selL (onP t down D n d) (outD t n) j)) ++ [(a : Int)] = natI (selL (onP t down D n d) (outD t n) (j + 1)) from (by rw [natI_snoc, selL_yes ha1 (by unfold onP; rw [atD_of edm.out, atD_of edn.out]; have qb3 := hb3.out; (try simp at qb3); have qb4 := hb4.out; (try simp at qb4); have qb5 := hb5.out; (try simp at qb5); have qb6 := hb6.out; (try simp at qb6); have qb7 := hb7.out; (try simp at qb7); simp [qb4, qb5, qb7] <;> omega)])] at hK
          (try go_wp2)
          go_roundw
          case rel => exact ⟨j + 1, p14, n14, c14, (by first | rfl | go_num), (by first | rfl | go_num), (by omega), (hK.subl (sC2 (List.Sublist.refl _)))⟩
          case measure => simp [intOf] <;> omega
        · --
         refine eL m1 ?_
         refine e0 ?_
         obtain ⟨b7, hb7⟩ : ∃ b : Bool, RowKit.Hid ((ovD t (hN t a)) = b) := ⟨_, hid rfl⟩
         refine eQ (v := .bool b7) (fun w k => over_any w (ht.below k.old) (hN t a) hl (by have := hov.out; omega)) ?_ (hv := by rw [hb7.out])
         iterate 2 refine e0 ?_
         refine sxEnd (fun W16 hK => ?_)
         cases b7
         · --
          go_upto_region 9 with (fail)
          refine wp_region_S _ [0, 0, 0, 0, 0, 0, 1, 0, 0, 0, 0, 0, 0] hK ?_ (List.Sublist.refl _)
          clear hK
          iterate 3 refine e0 ?_
          refine eR0 (fun w k => (hD.below k.old).int edm.out) ?_
          refine eL0 m1 ?_
          refine e0 ?_
          refine eQ (fun w k => costN_any w (ht.below k.old) a hl ht2 haA) ?_
          refine eV (.int .i64 (dm + (cN t a : Int))) (fun w' => by go_simp; (try go_bits); exact ⟨congrArg (Value.int .i64) (by omega), rfl⟩) ?_
          iterate 3 refine e0 ?_
          refine eR0 (fun w k => (hD.below k.old).int edn.out) ?_
          refine eB (((dm + (cN t a : Int))) == dn) (fun b8 hb8 => ?_)
          refine sxEnd (fun W17 hK => ?_)
          cases b8
          · --
           rw [show natI (selL (onP t down D n d) (outD t n) j) = natI (selL (onP t down D n d) (outD t n) (j + 1)) from (by rw [selL_no ha1 (by unfold onP; rw [atD_of edm.out, atD_of edn.out]; have qb3 := hb3.out; (try simp at qb3); have qb4 := hb4.out; (try simp at qb4); have qb5 := hb5.out; (try simp at qb5); have qb6 := hb6.out; (try simp at qb6); have qb7 := hb7.out; (try simp at qb7); have qb8 := hb8.out; (try simp at qb8); simp [qb4, qb7, qb8] <;> omega)])] at hK
           (try go_wp2)
           go_roundw
           case rel => exact ⟨j + 1, p, n_, c, (by first | rfl | go_num), (by first | rfl | go_num), (by omega), hK⟩
           case measure => simp [intOf] <;> omega
          · --
           go_upto_region 10 with (fail)
           refine wp_region_T [0, 0, 3, 5, 0] hK ?_
           clear hK
           iterate 2 refine e0 ?_
           refine eA (.cells #[.int .i64 (a : Int)] 3) (fun R18 => ?_)
           refine eApp 1 intK_free rfl infoZ (fun w k => k.one1 (K := intK) (x := (a : Int)) m0 rfl) (by have := selL_len (onP t down D n d) (outD t n) j; rw [natI_len]; simp; omega) (fun x19 => ?_)
           obtain ⟨p19, n19, c19⟩ := x19; dsimp only
           refine e0 ?_
           refine sxEnd (fun W20 hK => ?_)
           rw [show (natI (selL (onP t down D n d) (outD t n) j)) ++ [(a : Int)] = natI (selL (onP t down D n d) (outD t n) (j + 1)) from (by rw [natI_snoc, selL_yes ha1 (by unfold onP; rw [atD_of edm.out, atD_of edn.out]; have qb3 := hb3.out; (try simp at qb3); have qb4 := hb4.out; (try simp at qb4); have qb5 := hb5.out; (try simp at qb5); have qb6 := hb6.out; (try simp at qb6); have qb7 := hb7.out; (try simp at qb7); have qb8 := hb8.out; (try simp at qb8); simp [qb4, qb5, qb7, qb8] <;> omega)])] at hK
           (try go_wp2)
           go_roundw
           case rel => exact ⟨j + 1, p19, n19, c19, (by first | rfl | go_num), (by first | rfl | go_num), (by omega), (hK.subl (sC2 (List.Sublist.refl _)))⟩
           case measure => simp [intOf] <;> omega
         · --
          rw [show natI (selL (onP t down D n d) (outD t n) j) = natI (selL (onP t down D n d) (outD t n) (j + 1)) from (by rw [selL_no ha1 (by unfold onP; rw [atD_of edm.out, atD_of edn.out]; have qb3 := hb3.out; (try simp at qb3); have qb4 := hb4.out; (try simp at qb4); have qb5 := hb5.out; (try simp at qb5); have qb6 := hb6.out; (try simp at qb6); have qb7 := hb7.out; (try simp at qb7); simp [qb4, qb7] <;> omega)])] at hK
          (try go_wp2)
          go_roundw
          case rel => exact ⟨j + 1, p, n_, c, (by first | rfl | go_num), (by first | rfl | go_num), (by omega), hK⟩
          case measure => simp [intOf] <;> omega
       · --
        have q_b5 : dm < 0 := of_decide_eq_true hb5.out
        iterate 4 refine eN ?_
        iterate 3 refine eU ?_
        refine eN ?_
        refine e0 ?_
        refine sxEnd (fun W21 hK => ?_)
        rw [show natI (selL (onP t down D n d) (outD t n) j) = natI (selL (onP t down D n d) (outD t n) (j + 1)) from (by rw [selL_no ha1 (by unfold onP; rw [atD_of edm.out, atD_of edn.out]; have qb3 := hb3.out; (try simp at qb3); have qb4 := hb4.out; (try simp at qb4); have qb5 := hb5.out; (try simp at qb5); simp [qb4, qb5] <;> omega)])] at hK
        (try go_wp2)
        go_roundw
        case rel => exact ⟨j + 1, p, n_, c, (by first | rfl | go_num), (by first | rfl | go_num), (by omega), hK⟩
        case measure => simp [intOf] <;> omega
      · --
       iterate 5 refine eN ?_
       iterate 2 refine e0 ?_
       iterate 4 refine eN ?_
       iterate 3 refine eU ?_
       refine eN ?_
       refine e0 ?_
       refine sxEnd (fun W22 hK => ?_)
       rw [show natI (selL (onP t down D n d) (outD t n) j) = natI (selL (onP t down D n d) (outD t n) (j + 1)) from (by rw [selL_no ha1 (by unfold onP; rw [atD_of edm.out, atD_of edn.out]; have qb3 := hb3.out; (try simp at qb3); have qb4 := hb4.out; (try simp at qb4); simp [qb4] <;> omega)])] at hK
       (try go_wp2)
       go_roundw
       case rel => exact ⟨j + 1, p, n_, c, (by first | rfl | go_num), (by first | rfl | go_num), (by omega), hK⟩
       case measure => simp [intOf] <;> omega
   · --
    have q_b2 : dn < 0 := of_decide_eq_true hb2.out
    replace hK := hK.fact (rO intK 3 none 0 0 ([] : List Int)) OwV.nil (fun _ h => by cases h)
    have hX := hid (show nxtD t down D n d = [] from nxt_none (.inr (by rw [atD_of edn.out]; have q := hb2.out; simp at q; omega)))
    go_wp2
    try go_ret
    show Q0 (.returned (.slice none 0 0)) _
    exact (by obtain rfl := hQ0.out; rw [hX.out]; exact ⟨⟨none, 0, 0⟩, rfl, hK.subl (sK2 (sC2 sZ2))⟩)
  · --
   iterate 5 refine eN ?_
   refine e0 ?_
   refine sxEnd (fun W23 hK => ?_)
   replace hK := hK.fact (rO intK 3 none 0 0 ([] : List Int)) OwV.nil (fun _ h => by cases h)
   have hX := hid (show nxtD t down D n d = [] from nxt_none (.inl (by have q := hb1.out; simp at q; omega)))
   go_wp2
   try go_ret
   show Q0 (.returned (.slice none 0 0)) _
   exact (by obtain rfl := hQ0.out; rw [hX.out]; exact ⟨⟨none, 0, 0⟩, rfl, hK.subl (sK2 (sC2 sZ2))⟩)
def chkN (t : TopD) (down : List Bool) (n d : Int) : Int := if chkD t down [d] = 0 then (if 0 ≤ n ∧ n < t.nodes then 0 else 2) else chkD t down [d]
theorem chkN_ok {t : TopD} {down : List Bool} {n d : Int} (h : chkN t down n d = 0) : chkD t down [d] = 0 ∧ 0 ≤ n ∧ n < t.nodes := by
  unfold chkN at h
  split at h
  · rename_i h1
    split at h
    · rename_i h2; exact ⟨h1, h2⟩
    · cases h
  · rename_i h1; exact absurd h h1
noncomputable def dstN (t : TopD) (down : List Bool) (n d : Int) : List Int := if chkN t down n d = 0 then dstD t down d.toNat else []
set_option maxRecDepth 100000 in
set_option maxHeartbeats 1000000 in
theorem dists_any (w : World) {v_t : Value} {t : TopD} (ht : TopV w v_t t) {p_d : Option Addr} {n_d c_d : Nat} {down : List Bool} (hd : SlV boolK w (.slice p_d n_d c_d) down) (n : Int) (d : Int) (hl : t.links.length ≤ 100000) :
    Calls Tryz.prog 94 #[v_t, .slice p_d n_d c_d, .int .i64 n, .int .i64 d] w fun e w' => ∃ x : Sl, e = .returned (.tuple #[.slice x.p x.l x.c, .int .i64 (chkN t down n d)]) ∧ SS w [rO intK 3 x.p x.l x.c (dstN t down n d), cF (chkN t down n d = 0 → IsDst t down d.toNat (dstD t down d.toNat))] w' := by
  have ht_0 := ht
  obtain ⟨p_t, n_t, c_t, q_t, m_t, d_t, rfl, ht_1, ht_2⟩ := ht_0; have b_t : m_t ≤ 100000 := (by rw [ht_2.one0]; exact hl); have a_t : arcsD t ≤ 200000 := (by unfold arcsD; omega)
  have hK := SS.start w
  refine Calls.hide (fun Q0 hQ0 => ?_)
  go_enter Tryz.func94, Tryz.ntmps94
  go_upto_region 0 with (fail)
  refine wp_region_T [3, 0, 0] hK ?_
  clear hK
  refine eA (.cells #[.int .i64 t.nodes, .slice p_t n_t c_t, .slice q_t m_t d_t] 25) (fun R1 => ?_)
  iterate 2 refine e0 ?_
  refine sxEnd (fun W2 hK => ?_)
  go_upto_region 1 with (fail)
  refine wp_region_T [1, 0, 0, 2, 0, 0, 0, 0, 0] hK ?_
  clear hK
  refine eL m0 ?_
  iterate 2 refine e0 ?_
  refine eC (fun w k => dist_any w (ht.below k.old) (hd.below k.old) d hl) (fun x3 => ?_)
  obtain ⟨p4, n4, c4⟩ := x3; dsimp only
  iterate 5 refine e0 ?_
  refine sxEnd (fun W5 hK => ?_)
  go_upto_region 2 with (fail)
  refine wp_region_T [0, 0] hK ?_
  clear hK
  refine e0 ?_
  refine eB (((chkD t down [d])) != 0) (fun b1 hb1 => ?_)
  refine sxEnd (fun W6 hK => ?_)
  cases b1
  · --
   go_upto_region 4 with (fail)
   refine wp_region_T [1, 0, 1, 0] hK ?_
   clear hK
   refine eL m2 ?_
   refine e0 ?_
   obtain ⟨b2, hb2⟩ : ∃ b : Bool, RowKit.Hid ((decide (0 ≤ n) && decide (n < t.nodes)) = b) := ⟨_, hid rfl⟩
   refine eQ (v := .bool b2) (fun w k => node_any w (ht.below k.old) n hl) ?_ (hv := by rw [hb2.out])
   refine e0 ?_
   refine sxEnd (fun W7 hK => ?_)
   cases b2
   · --
    replace hK := hK.fact (rO intK 3 none 0 0 ([] : List Int)) OwV.nil (fun _ h => by cases h)
    have hX : chkN t down n d = 2 ∧ chkN t down n d ≠ 0 := by unfold chkN; have q := hb1.out; simp at q; have q2 := hb2.out; rw [if_pos q, if_neg (by simp at q2; omega)]; exact ⟨rfl, by decide⟩
    go_wp2
    try go_ret
    show Q0 (.returned (.tuple #[.slice none 0 0, .int .i64 2])) _
    exact (by obtain rfl := hQ0.out; rw [show dstN t down n d = [] from if_neg hX.2, hX.1]; exact ⟨⟨none, 0, 0⟩, rfl, ((hK.subl (sK2 (sC2 (sC2 (sC2 sZ2))))).fact (cF _) (fun e => absurd (hX.1.trans e) hX.2)).up1⟩)
   · --
    go_upto_region 6 with (fail)
    refine wp_region_T [0, 0, 0] hK ?_
    clear hK
    iterate 3 refine e0 ?_
    refine sxEnd (fun W8 hK => ?_)
    have hc1 : chkD t down [d] = 0 := by have q := hb1.out; simpa using q
    have hX : chkN t down n d = 0 := by unfold chkN; have q2 := hb2.out; simp at q2; rw [if_pos hc1, if_pos q2]
    have hI := hK.get m1; rw [show dstR t down d = dstD t down d.toNat from if_pos hc1] at hK
    go_wp2
    try go_ret
    show Q0 (.returned (.tuple #[.slice p4 n4 c4, .int .i64 0])) _
    exact (by obtain rfl := hQ0.out; rw [show dstN t down n d = dstD t down d.toNat from if_pos hX, hX]; exact ⟨⟨p4, n4, c4⟩, rfl, ((hK.subl (sK2 (sC2 (sC2 sZ2)))).fact (cF _) (fun _ => hI hc1)).up1⟩)
  · --
   replace hK := hK.fact (rO intK 3 none 0 0 ([] : List Int)) OwV.nil (fun _ h => by cases h)
   have hX : chkN t down n d = chkD t down [d] ∧ chkN t down n d ≠ 0 := by unfold chkN; have q := hb1.out; simp at q; rw [if_neg q]; exact ⟨rfl, q⟩
   go_wp2
   try go_ret
   show Q0 (.returned (.tuple #[.slice none 0 0, .int .i64 (chkD t down [d])])) _
   exact (by obtain rfl := hQ0.out; rw [show dstN t down n d = [] from if_neg hX.2, hX.1]; exact ⟨⟨none, 0, 0⟩, rfl, ((hK.subl (sK2 (sC2 (sC2 (sC2 sZ2))))).fact (cF _) (fun e => absurd (hX.1.trans e) hX.2)).up1⟩)
end Go.Proofs.YtmcfomainmppdaaGreatDoor
namespace Go.Proofs.YtmcfomainmppdaaGreatDoor
open Go.RowKit
open Go.Lib (decDigits)
noncomputable def nxtR (t : TopD) (down : List Bool) (n d : Int) : List Nat := if chkN t down n d = 0 then nxtD t down (dstD t down d.toNat) n.toNat d.toNat else []
set_option maxRecDepth 100000 in
set_option maxHeartbeats 1000000 in
theorem nextR_any (w : World) {v_t : Value} {t : TopD} (ht : TopV w v_t t) {p_d : Option Addr} {n_d c_d : Nat} {down : List Bool} (hd : SlV boolK w (.slice p_d n_d c_d) down) (n : Int) (d : Int) (hl : t.links.length ≤ 100000) :
    Calls Tryz.prog 61 #[v_t, .slice p_d n_d c_d, .int .i64 n, .int .i64 d] w fun e w' => ∃ x : Sl, e = .returned (.tuple #[.slice x.p x.l x.c, .int .i64 (chkN t down n d)]) ∧ SS w [rO intK 3 x.p x.l x.c (natI (nxtR t down n d))] w' := by
  have ht_0 := ht
  obtain ⟨p_t, n_t, c_t, q_t, m_t, d_t, rfl, ht_1, ht_2⟩ := ht_0; have b_t : m_t ≤ 100000 := (by rw [ht_2.one0]; exact hl); have a_t : arcsD t ≤ 200000 := (by unfold arcsD; omega)
  have hK := SS.start w
  refine Calls.hide (fun Q0 hQ0 => ?_)
  go_enter Tryz.func61, Tryz.ntmps61
  go_upto_region 0 with (fail)
  refine wp_region_T [3, 0, 0] hK ?_
  clear hK
  refine eA (.cells #[.int .i64 t.nodes, .slice p_t n_t c_t, .slice q_t m_t d_t] 25) (fun R1 => ?_)
  iterate 2 refine e0 ?_
  refine sxEnd (fun W2 hK => ?_)
  go_upto_region 1 with (fail)
  refine wp_region_T [1, 0, 0, 0, 2, 0, 0, 0, 0, 0] hK ?_
  clear hK
  refine eL m0 ?_
  iterate 3 refine e0 ?_
  refine eC (fun w k => dists_any w (ht.below k.old) (hd.below k.old) n d hl) (fun x3 => ?_)
  obtain ⟨p4, n4, c4⟩ := x3; dsimp only
  iterate 5 refine e0 ?_
  refine sxEnd (fun W5 hK => ?_)
  go_upto_region 2 with (fail)
  refine wp_region_T [0, 0] hK ?_
  clear hK
  refine e0 ?_
  refine eB (((chkN t down n d)) != 0) (fun b1 hb1 => ?_)
  refine sxEnd (fun W6 hK => ?_)
  cases b1
  · --
   have hX := hid (show chkN t down n d = 0 by have q := hb1.out; simpa using q); have hI0 := hid (hK.get m1 hX.out)
   replace hK := hK.subl (sK2 (sC2 (List.Sublist.refl _)))
   have hok := hid (chk_ok (chkN_ok hX.out).1); obtain ⟨n1, rfl⟩ : ∃ k : Nat, n = (k : Int) := ⟨n.toNat, (Int.toNat_of_nonneg (chkN_ok hX.out).2.1).symm⟩; obtain ⟨d1, rfl⟩ : ∃ k : Nat, d = (k : Int) := ⟨d.toNat, (Int.toNat_of_nonneg hok.out.2.2.1).symm⟩; have ht2 := hok.out.1; have hn1 : n1 < nN t := (by have q := (chkN_ok hX.out).2.2; rw [(topN ht2).1] at q; omega); have hd1 : d1 < nN t := (by have q := hok.out.2.2.2; rw [(topN ht2).1] at q; omega); have hI : RowKit.Hid (IsDst t down d1 (dstD t down d1)) := hI0; clear hI0
   rw [show dstN t down n1 d1 = dstD t down d1 from if_pos hX.out] at hK
   go_upto_region 4 with (fail)
   refine wp_region_S _ [0, 0, 0, 0, 0, 2, 0, 0, 2, 0, 0] hK ?_ (List.Sublist.refl _)
   clear hK
   refine eL0 m1 ?_
   iterate 2 refine e0 ?_
   refine eL0 m1 ?_
   refine e0 ?_
   refine eC (fun w k => out_any w (ht.below k.old) n1 hl ht2) (fun x7 => ?_)
   obtain ⟨p8, n8, c8⟩ := x7; dsimp only
   iterate 2 refine e0 ?_
   refine eC (fun w k => next_any w (ht.below k.old) (hd.below k.old) (k.slv m1) (k.slv m0) n1 d1 hl ht2 (hid hok.out.2.1) hI.out.1 (hI.out.small ht2) hn1 rfl) (fun x9 => ?_)
   obtain ⟨p10, n10, c10⟩ := x9; dsimp only
   iterate 2 refine e0 ?_
   refine sxEnd (fun W11 hK => ?_)
   go_wp2
   try go_ret
   show Q0 (.returned (.tuple #[.slice p10 n10 c10, .int .i64 0])) _
   exact (by obtain rfl := hQ0.out; rw [show nxtR t down n1 d1 = nxtD t down (dstD t down d1) n1 d1 from if_pos hX.out, hX.out]; exact ⟨⟨p10, n10, c10⟩, rfl, hK.subl (sK2 (sC2 (sC2 (sC2 sZ2))))⟩)
  · --
   replace hK := hK.fact (rO intK 3 none 0 0 ([] : List Int)) OwV.nil (fun _ h => by cases h)
   have hX : chkN t down n d ≠ 0 := by have q := hb1.out; simpa using q
   go_wp2
   try go_ret
   show Q0 (.returned (.tuple #[.slice none 0 0, .int .i64 (chkN t down n d)])) _
   exact (by obtain rfl := hQ0.out; rw [show nxtR t down n d = [] from if_neg hX]; exact ⟨⟨none, 0, 0⟩, rfl, hK.subl (sK2 (sC2 (sC2 (sC2 sZ2))))⟩)
end Go.Proofs.YtmcfomainmppdaaGreatDoor
