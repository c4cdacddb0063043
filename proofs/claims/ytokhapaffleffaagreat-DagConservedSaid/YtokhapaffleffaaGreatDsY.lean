/- The reference: paths. -/
import Derived.Test.YtokhapaffleffaaGreatDagP
import Derived.Test.YtokhapaffleffaaGreatDsX
import Derived.Test.YtokhapaffleffaaGreatDsQ
namespace Go.Proofs.YtokhapaffleffaaGreat
open Go.RowKit
open Go.Lib (decDigits)
section
variable {t : TopD} {down : List Bool} {l : List Int} {d x y n a j i : Nat} {p : List Nat}
theorem nxt_first (h : j ∈ nxtD t down l y d) (hno : ∀ b, b < j → b ∉ nxtD t down l y d) : ∃ r, nxtD t down l y d = j :: r := by
  have hs : (nxtD t down l y d).Pairwise (· < ·) := List.Pairwise.filter _ List.pairwise_lt_range
  cases hn : nxtD t down l y d with
  | nil => rw [hn] at h; cases h
  | cons c r =>
    rw [hn] at h hs hno
    have hc : ¬ c < j := fun w => hno c w (List.mem_cons_self ..)
    rcases List.mem_cons.1 h with e | e
    · exact ⟨r, by rw [e]⟩
    · exact absurd (List.rel_of_pairwise_cons hs e) hc
noncomputable def pthR (t : TopD) (down : List Bool) (n d : Int) : List Nat := if chkS t down n d = 0 then Classical.epsilon (fun p => FstP t down (dstD t down d.toNat) d.toNat n.toNat p d.toNat) else []
theorem pth_eq {n d : Int} (h0 : chkS t down n d = 0) (h : FstP t down (dstD t down d.toNat) d.toNat n.toNat p d.toNat) : p = pthR t down n d := by
  unfold pthR
  rw [if_pos h0]
  exact h.eq (Classical.epsilon_spec (p := fun p => FstP t down (dstD t down d.toNat) d.toNat n.toNat p d.toNat) ⟨p, h⟩)
theorem pth_no {n d : Int} (h0 : chkS t down n d ≠ 0) : pthR t down n d = [] := if_neg h0
def PthP (t : TopD) (down : List Bool) (n d : Int) : Prop := (chkD t down [d] = 0 → IsDst t down d.toNat (dstD t down d.toNat)) ∧ (chkS t down n d = 0 → FstP t down (dstD t down d.toNat) d.toNat n.toNat (pthR t down n d) d.toNat)
theorem NxP.at (h : NxP t down l d x (p.drop i) y) (hi : p[i]? = some a) : a ∈ nxtD t down l x d ∧ NxP t down l d (hN t a) (p.drop (i + 1)) y := by
  obtain ⟨hi, e⟩ := List.getElem?_eq_some_iff.1 hi
  rw [List.drop_eq_getElem_cons hi, e] at h
  exact h
theorem NxP.snoc_at (h : NxP t down l d x (p.take i) y) (hi : p[i]? = some a) (ha : a ∈ nxtD t down l y d) : NxP t down l d x (p.take (i + 1)) (hN t a) := by
  obtain ⟨hi, e⟩ := List.getElem?_eq_some_iff.1 hi
  rw [List.take_succ_eq_append_getElem hi, e]
  exact h.snoc ha
theorem cost_snoc (hi : p[i]? = some a) : costD t (p.take (i + 1)) = costD t (p.take i) + (cN t a : Int) := by
  obtain ⟨hi, e⟩ := List.getElem?_eq_some_iff.1 hi
  unfold costD
  rw [List.take_succ_eq_append_getElem hi, e, List.map_append, List.sum_append, List.map_singleton, List.sum_singleton]
end
set_option maxRecDepth 100000 in
set_option maxHeartbeats 1000000 in
theorem rpath_any (w : World) {v_t : Value} {t : TopD} (ht : TopV w v_t t) {p_d : Option Addr} {n_d c_d : Nat} {down : List Bool} (hd : SlV boolK w (.slice p_d n_d c_d) down) (n : Int) (d : Int) (hl : t.links.length ≤ 100000) :
    Calls Tryz.prog 29 #[v_t, .slice p_d n_d c_d, .int .i64 n, .int .i64 d] w fun e w' => ∃ x : Sl, e = .returned (.tuple #[.slice x.p x.l x.c, .int .i64 (chkS t down n d)]) ∧ SS w [rO intK 3 x.p x.l x.c (natI (pthR t down n d)), cF (PthP t down n d)] w' := by
  have ht_0 := ht
  obtain ⟨p_t, n_t, c_t, q_t, m_t, d_t, rfl, ht_1, ht_2⟩ := ht_0; have b_t : m_t ≤ 100000 := (by rw [ht_2.one0]; exact hl); have a_t : arcsD t ≤ 200000 := (by unfold arcsD; omega)
  have hK := SS.start w
  refine Calls.hide (fun Q0 hQ0 => ?_)
  go_enter Tryz.func29, Tryz.ntmps29
  go_upto_region 0 with (fail)
  refine wp_region_T [3, 0, 0] hK ?_
  clear hK
  refine eA (.cells #[.int .i64 t.nodes, .slice p_t n_t c_t, .slice q_t m_t d_t] 25) (fun R1 => ?_)
  iterate 2 refine e0 ?_
  refine sxEnd (fun W2 hK => ?_)
  go_upto_region 1 with (fail)
  refine wp_region_T [1, 0, 0, 2, 0, 0, 0, 0, 0] hK ?_
  clear hK
  refine eL m0 ?_
  iterate 2 refine e0 ?_
  refine eC (fun w k => rdist_any w (ht.below k.old) (hd.below k.old) d hl) (fun x3 => ?_)
  obtain ⟨p4, n4, c4⟩ := x3; dsimp only
  iterate 5 refine e0 ?_
  refine sxEnd (fun W5 hK => ?_)
  go_upto_region 2 with (fail)
  refine wp_region_T [0, 0] hK ?_
  clear hK
  refine e0 ?_
  refine eB (((chkD t down [d])) != 0) (fun b1 hb1 => ?_)
  refine sxEnd (fun W6 hK => ?_)
  cases b1
  · --
   go_upto_region 4 with (fail)
   refine wp_region_T [0, 0, 0, 0, 0, 1, 0, 0] hK ?_
   clear hK
   refine e0 ?_
   refine eB (decide (n < 0)) (fun b2 hb2 => ?_)
   refine e0 ?_
   cases b2
   · --
    have q_b2 : 0 ≤ n := Int.not_lt.1 (of_decide_eq_false hb2.out)
    iterate 2 refine e0 ?_
    refine eL m2 ?_
    refine eB (decide (t.nodes ≤ n)) (fun b3 hb3 => ?_)
    refine e0 ?_
    refine sxEnd (fun W7 hK => ?_)
    cases b3
    · --
     have q_b3 : n < t.nodes := Int.not_le.1 (of_decide_eq_false hb3.out)
     have hc := hid (show chkD t down [d] = 0 by have q := hb1.out; simpa using q); have hI0 := hid (hK.get m1 hc.out)
     replace hK := hK.subl (sK2 (sC2 (List.Sublist.refl _)))
     have hok := hid (chk_ok hc.out); obtain ⟨n1, rfl⟩ : ∃ k : Nat, n = (k : Int) := ⟨n.toNat, (Int.toNat_of_nonneg (by omega)).symm⟩; obtain ⟨d1, rfl⟩ : ∃ k : Nat, d = (k : Int) := ⟨d.toNat, (Int.toNat_of_nonneg hok.out.2.2.1).symm⟩; have ht2 := hok.out.1; have hnn := hid (topN ht2).1; have hn1 : n1 < nN t := (by have q := hnn.out; omega); have hI : RowKit.Hid (IsDst t down d1 (dstD t down d1)) := hI0; clear hI0; have hX := hid (show chkN t down n1 d1 = 0 by unfold chkN; rw [if_pos hc.out, if_pos (by omega)])
     rw [show dstR t down d1 = dstD t down d1 from dstR_ok hc.out] at hK
     have hDn := hid ((hK.len m0).trans hI.out.1); have hDn1 := Nat.le_of_eq hDn.out.symm; have hDn2 := Nat.le_of_eq hDn.out; have hnm := (topN ht2).2.2.1; have hd1 : d1 < nN t := (by have q := hok.out.2.2.2; have q2 := hnn.out; omega)
     have i8 : n1 < n4 := (by omega)
     obtain ⟨g8, rfl⟩ := hK.pt m0 i8
     have l8 : n1 < (dstD t down d1).length := Nat.lt_of_lt_of_eq i8 (hK.len m0)
     obtain ⟨dn, edn⟩ : ∃ x, RowKit.Hid ((dstD t down d1)[n1]? = some x) := ⟨_, hid (List.getElem?_eq_getElem l8)⟩
     go_upto_region 6 with (fail)
     refine wp_region_T [0, 0, 0, 1, 0] hK ?_
     clear hK
     iterate 3 refine e0 ?_
     refine eR (fun w k => (k.own m0).int edn.out) ?_
     refine eB (decide (dn < 0)) (fun b4 hb4 => ?_)
     refine sxEnd (fun W9 hK => ?_)
     cases b4
     · --
      have q_b4 : 0 ≤ dn := Int.not_lt.1 (of_decide_eq_false hb4.out)
      replace hK := hK.fact (rO intK 3 none 0 0 (natI [])) OwV.nil (fun _ h => by cases h)
      go_wp2_with fail
      go_loopg [2, 12] ((atD (dstD t down d1) n1).toNat) (fun gk0 s2 s12 wl => ∃ (y : Nat) (p : List Nat) (pp : Option Addr) (np : Nat) (cp : Nat), s2 = .int .i64 (y : Int) ∧ s12 = .slice pp np cp ∧ (y < nN t) ∧ RowKit.Hid (0 ≤ atD (dstD t down d1) y) ∧ RowKit.Hid (FstP t down (dstD t down d1) d1 n1 p y) ∧ RowKit.Hid (gk0 = (atD (dstD t down d1) y).toNat) ∧ SS w ([rO intK 3 (some ⟨g8, 0, none⟩) n4 c4 (dstD t down d1), rO intK 3 pp np cp (natI p), bx R1 (.cells #[.int .i64 t.nodes, .slice p_t n_t c_t, .slice q_t m_t d_t] 25)]) wl)
      case atStart => exact ⟨n1, [], none, 0, 0, rfl, rfl, (by omega), hid (by rw [atD_of edn.out]; omega), hid rfl, hid rfl, (((hK.up2).up1).up2)⟩
      case round =>
       clear hK
       obtain ⟨y, p, pp, np, cp, rfl, rfl, hy, h_y0, h_F, hgk10, hK⟩ := hrel
       generalize wr = W11 at hK ⊢
       go_upto_region 9 with (fail)
       refine wp_region_T [0, 0, 0] hK ?_
       clear hK
       iterate 2 refine e0 ?_
       refine eB (((y : Int)) != ((d1 : Int))) (fun b5 hb5 => ?_)
       refine sxEnd (fun W12 hK => ?_)
       cases b5
       · --
        have hX2 : chkS t down n1 d1 = 0 := by unfold chkS; rw [if_pos hX.out, if_neg (by show ¬ atD (dstD t down d1) n1 < 0; rw [atD_of edn.out]; omega)]
        obtain rfl : y = d1 := by have qb1 := hb1.out; (try simp at qb1); have qb2 := hb2.out; (try simp at qb2); have qb3 := hb3.out; (try simp at qb3); have qb4 := hb4.out; (try simp at qb4); have qb5 := hb5.out; (try simp at qb5); omega
        have hpe : p = pthR t down n1 y := pth_eq hX2 h_F.out
        go_wp2
        try go_ret
        show Q0 (.returned (.tuple #[.slice pp np cp, .int .i64 0])) _
        exact (by obtain rfl := hQ0.out; rw [hX2, ← hpe]; exact ⟨⟨pp, np, cp⟩, rfl, ((hK.subl (sC2 (sK2 (sC2 sZ2)))).fact (cF (PthP t down n1 y)) ⟨fun _ => hI.out, fun _ => by rw [← hpe]; exact h_F.out⟩).up1⟩)
       · --
        go_wp2_with fail
        go_loopw [13, 2, 12] (fun s13 s2 s12 wl => ∃ (j : Nat), s13 = .int .i64 (j : Int) ∧ s2 = .int .i64 (y : Int) ∧ s12 = .slice pp np cp ∧ (j ≤ arcsD t) ∧ RowKit.Hid (∀ b, b < j → b ∉ nxtD t down (dstD t down d1) y d1) ∧ SS w ([rO intK 3 (some ⟨g8, 0, none⟩) n4 c4 (dstD t down d1), rO intK 3 pp np cp (natI p), bx R1 (.cells #[.int .i64 t.nodes, .slice p_t n_t c_t, .slice q_t m_t d_t] 25)]) wl) (fun s13 s2 s12 _ => arcsD t - (intOf s13).toNat)
        case atStart => exact ⟨0, rfl, rfl, rfl, (by omega), hid (fun b hb => absurd hb (Nat.not_lt_zero _)), hK⟩
        case round =>
         clear hK
         obtain ⟨j, rfl, rfl, rfl, hj0, h_no, hK⟩ := hrel
         generalize wr = W13 at hK ⊢
         go_upto_region 11 with (fail)
         refine wp_region_T [0, 0, 1, 0, 0, 0] hK ?_
         clear hK
         iterate 2 refine e0 ?_
         refine eL m2 ?_
         refine e0 ?_
         refine eV (.int .i64 ((arcsD t : Nat) : Int)) (fun w' => by go_simp; (try go_bits); exact ⟨congrArg (Value.int .i64) (by unfold arcsD; have := ht_2.one0; first | omega | (unfold wrap64; omega)), rfl⟩) ?_
         refine eB (decide (((j : Int)) < (((arcsD t : Nat) : Int)))) (fun b6 hb6 => ?_)
         refine sxEnd (fun W14 hK => ?_)
         cases b6
         · --
          have q_b6 : (((arcsD t : Nat) : Int)) ≤ ((j : Int)) := Int.not_lt.1 (of_decide_eq_false hb6.out)
          exact absurd (nxt_some hI.out (show y ≠ d1 by have qb1 := hb1.out; (try simp at qb1); have qb2 := hb2.out; (try simp at qb2); have qb3 := hb3.out; (try simp at qb3); have qb4 := hb4.out; (try simp at qb4); have qb5 := hb5.out; (try simp at qb5); have qb6 := hb6.out; (try simp at qb6); omega) h_y0.out) (fun ⟨a, ha⟩ => h_no.out a (by have := (mem_nxt.1 ha).1; omega) ha)
         · --
          have q_b6 : ((j : Int)) < (((arcsD t : Nat) : Int)) := of_decide_eq_true hb6.out
          have ha : j < arcsD t := by omega
          go_upto_region 13 with (fail)
          refine wp_region_T [1, 0, 1, 0, 0, 0, 1, 0, 0, 0, 0, 1, 0] hK ?_
          clear hK
          refine eL m2 ?_
          refine e0 ?_
          refine eQ (fun w k => rtail_any w (ht.below k.old) j hl ht2 ha) ?_
          refine e0 ?_
          refine eB ((((tN t j : Nat) : Int)) == ((y : Int))) (fun b7 hb7 => ?_)
          refine e0 ?_
          cases b7
          · --
           iterate 6 refine eN ?_
           refine e0 ?_
           refine sxEnd (fun W15 hK => ?_)
           (try go_wp2)
           go_roundw
           case rel => exact ⟨j + 1, (by first | rfl | go_num), (by first | rfl | go_num), (by first | rfl | go_num), (by omega), hid fun b hb => by
   rcases Nat.lt_succ_iff_lt_or_eq.1 hb with hb | rfl
   · exact h_no.out b hb
   · intro q; have e := (mem_nxt.1 q).2.1; have e2 := hb7.out; simp at e2; omega, hK⟩
           case measure => simp [intOf] <;> omega
          · --
           refine eL m2 ?_
           iterate 4 refine e0 ?_
           obtain ⟨b8, hb8⟩ : ∃ b : Bool, RowKit.Hid ((onD t down (dstD t down d1) d1 j) = b) := ⟨_, hid rfl⟩
           refine eQ (v := .bool b8) (fun w k => on_any w (ht.below k.old) (hd.below k.old) (k.slv m0) j d1 hl ht2 (hid hok.out.2.1) hI.out.1 (hI.out.small ht2) ha) ?_ (hv := by rw [hb8.out])
           refine e0 ?_
           refine sxEnd (fun W16 hK => ?_)
           cases b8
           · --
            (try go_wp2)
            go_roundw
            case rel => exact ⟨j + 1, (by first | rfl | go_num), (by first | rfl | go_num), (by first | rfl | go_num), (by omega), hid fun b hb => by
   rcases Nat.lt_succ_iff_lt_or_eq.1 hb with hb | rfl
   · exact h_no.out b hb
   · intro q; have e := (mem_nxt.1 q).2.2; rw [hb8.out] at e; exact Bool.noConfusion e, hK⟩
            case measure => simp [intOf] <;> omega
           · --
            have hjm := hid (mem_nxt.2 ⟨ha, by have e2 := hb7.out; simp at e2; omega, hb8.out⟩ : j ∈ nxtD t down (dstD t down d1) y d1); have hjn := hid (nxt_less ht2 hjm.out); have hfr := hid (nxt_first hjm.out h_no.out); have hsh := hid (NxP.short ht2 hI.out h_F.out.nx (by rw [atD_of edn.out]; omega)); have hshl := hsh.out
            go_upto_region 14 with (fail)
            refine wp_region_T [0, 0, 3, 5, 0] hK ?_
            clear hK
            iterate 2 refine e0 ?_
            refine eA (.cells #[.int .i64 (j : Int)] 3) (fun R17 => ?_)
            refine eApp 2 intK_free rfl infoZ (fun w k => k.one1 (K := intK) (x := (j : Int)) m0 rfl) (by rw [natI_len]; simp; omega) (fun x18 => ?_)
            obtain ⟨p18, n18, c18⟩ := x18; dsimp only
            refine e0 ?_
            refine sxEnd (fun W19 hK => ?_)
            go_upto_region 15 with (fail)
            refine wp_region_T [1, 0, 1, 0] hK ?_
            clear hK
            refine eL m3 ?_
            refine e0 ?_
            refine eQ (fun w k => rhead_any w (ht.below k.old) j hl ht2 ha) ?_
            refine e0 ?_
            refine sxEnd (fun W20 hK => ?_)
            rw [show (natI p) ++ [(j : Int)] = natI (p ++ [j]) from (by rw [natI_snoc])] at hK
            (try go_wp2)
            go_roundg ((atD (dstD t down d1) (hN t j)).toNat)
            case measure => rw [hgk10.out]; have := hjn.out.2.1; have := hjn.out.1; omega
            case rel => exact ⟨(hN t j), (p ++ [j]), p18, n18, c18, (by first | rfl | go_num), (by first | rfl | go_num), hjn.out.2.2.1, hid hjn.out.1, hid (h_F.out.snoc hfr.out.choose_spec), hid rfl, (hK.subl (sC2 (List.Sublist.refl _)))⟩
     · --
      have q_b4 : dn < 0 := of_decide_eq_true hb4.out
      replace hK := hK.fact (rO intK 3 none 0 0 ([] : List Int)) OwV.nil (fun _ h => by cases h)
      have hX : chkS t down n1 d1 = 11 ∧ chkS t down n1 d1 ≠ 0 := by unfold chkS; rw [if_pos hX.out, if_pos (by show atD (dstD t down d1) n1 < 0; rw [atD_of edn.out]; omega)]; exact ⟨rfl, by decide⟩
      go_wp2
      try go_ret
      show Q0 (.returned (.tuple #[.slice none 0 0, .int .i64 11])) _
      exact (by obtain rfl := hQ0.out; rw [show pthR t down n1 d1 = [] from pth_no hX.2, hX.1]; exact ⟨⟨none, 0, 0⟩, rfl, ((hK.subl (sK2 (sC2 (sC2 sZ2)))).fact (cF (PthP t down n1 d1)) ⟨fun _ => hI.out, fun e => absurd e hX.2⟩).up1⟩)
    · --
     have q_b3 : t.nodes ≤ n := of_decide_eq_true hb3.out
     replace hK := hK.fact (rO intK 3 none 0 0 ([] : List Int)) OwV.nil (fun _ h => by cases h)
     have hX : chkS t down n d = 2 ∧ chkS t down n d ≠ 0 := by have q := hb1.out; simp at q; have e : chkN t down n d = 2 := (if_pos q).trans (if_neg (by omega)); unfold chkS; rw [e, if_neg (by decide)]; exact ⟨rfl, by decide⟩
     have hI0 := hK.get m2
     go_wp2
     try go_ret
     show Q0 (.returned (.tuple #[.slice none 0 0, .int .i64 2])) _
     exact (by obtain rfl := hQ0.out; rw [show pthR t down n d = [] from pth_no hX.2, hX.1]; exact ⟨⟨none, 0, 0⟩, rfl, ((hK.subl (sK2 (sC2 (sC2 (sC2 sZ2))))).fact (cF (PthP t down n d)) ⟨hI0, fun e => absurd e hX.2⟩).up1⟩)
   · --
    have q_b2 : n < 0 := of_decide_eq_true hb2.out
    iterate 4 refine eN ?_
    refine e0 ?_
    refine sxEnd (fun W21 hK => ?_)
    replace hK := hK.fact (rO intK 3 none 0 0 ([] : List Int)) OwV.nil (fun _ h => by cases h)
    have hX : chkS t down n d = 2 ∧ chkS t down n d ≠ 0 := by have q := hb1.out; simp at q; have e : chkN t down n d = 2 := (if_pos q).trans (if_neg (by omega)); unfold chkS; rw [e, if_neg (by decide)]; exact ⟨rfl, by decide⟩
    have hI0 := hK.get m2
    go_wp2
    try go_ret
    show Q0 (.returned (.tuple #[.slice none 0 0, .int .i64 2])) _
    exact (by obtain rfl := hQ0.out; rw [show pthR t down n d = [] from pth_no hX.2, hX.1]; exact ⟨⟨none, 0, 0⟩, rfl, ((hK.subl (sK2 (sC2 (sC2 (sC2 sZ2))))).fact (cF (PthP t down n d)) ⟨hI0, fun e => absurd e hX.2⟩).up1⟩)
  · --
   replace hK := hK.fact (rO intK 3 none 0 0 ([] : List Int)) OwV.nil (fun _ h => by cases h)
   have hX : chkS t down n d = chkD t down [d] ∧ chkS t down n d ≠ 0 := by have q := hb1.out; simp at q; have e : chkN t down n d = chkD t down [d] := if_neg q; unfold chkS; rw [e, if_neg q]; exact ⟨rfl, q⟩
   have hI0 := hK.get m2
   go_wp2
   try go_ret
   show Q0 (.returned (.tuple #[.slice none 0 0, .int .i64 (chkD t down [d])])) _
   exact (by obtain rfl := hQ0.out; rw [show pthR t down n d = [] from pth_no hX.2, hX.1]; exact ⟨⟨none, 0, 0⟩, rfl, ((hK.subl (sK2 (sC2 (sC2 (sC2 sZ2))))).fact (cF (PthP t down n d)) ⟨hI0, fun e => absurd e hX.2⟩).up1⟩)
section
variable {t : TopD} {down : List Bool} {D : List Int} {d a : Nat} {p : List Nat}
theorem on_three (h : onD t down D d a = true) : upD down a = true ∧ tN t a ≠ d ∧ trD t (hN t a) d = true := by
  unfold onD at h
  simp only [Bool.and_eq_true, decide_eq_true_eq] at h
  exact ⟨h.1.1.1.1, h.1.1.1.2, h.1.2⟩
theorem cost_nn : 0 ≤ costD t p := by
  unfold costD
  induction p with
  | nil => simp
  | cons b p ih => rw [List.map_cons, List.sum_cons]; omega
end
set_option maxRecDepth 100000 in
set_option maxHeartbeats 1000000 in
theorem rwalk_any (w : World) {v_t : Value} {t : TopD} (ht : TopV w v_t t) (n : Nat) {p_xs : Option Addr} {n_xs c_xs : Nat} {xs : List Int} (hxs : SlV intK w (.slice p_xs n_xs c_xs) xs) (hl : t.links.length ≤ 100000) (ht2 : topOk t = true) {down : List Bool} {D : List Int} {d y : Nat} {p : List Nat} (hxp : RowKit.Hid (xs = natI p)) (hp : RowKit.Hid (NxP t down D d n p y)) (hsm : ∀ x, atD D x ≤ 4300000) (_hD0 : ∀ x, atD D x < 0 → atD D x = -1) (hn : n < nN t) (hpl : p.length ≤ 100000) :
    Calls Tryz.prog 24 #[v_t, .int .i64 (n : Int), .slice p_xs n_xs c_xs] w fun e w' => e = .returned (.tuple #[.int .i64 (y : Int), .int .i64 (costD t p), .int .i64 0]) ∧ Below w.heap.size w w' := by
  have ht_0 := ht
  obtain ⟨p_t, n_t, c_t, q_t, m_t, d_t, rfl, ht_1, ht_2⟩ := ht_0; have b_t : m_t ≤ 100000 := (by rw [ht_2.one0]; exact hl); have a_t : arcsD t ≤ 200000 := (by unfold arcsD; omega)
  have hK := SS.start w
  have b_xs : n_xs ≤ 100000 := by rw [hxs.one0, hxp.out, natI_len]; exact hpl
  have hnn := topN ht2; have hnn1 := Nat.le_of_eq (show nN t = t.nodes.toNat from rfl); have hnd := hid hnn.1; replace hnn := hid hnn
  refine Calls.hide (fun Q0 hQ0 => ?_)
  go_enter Tryz.func24, Tryz.ntmps24
  go_upto_region 0 with (fail)
  refine wp_region_T [3, 0, 0, 0] hK ?_
  clear hK
  refine eA (.cells #[.int .i64 t.nodes, .slice p_t n_t c_t, .slice q_t m_t d_t] 25) (fun R1 => ?_)
  iterate 3 refine e0 ?_
  refine sxEnd (fun W2 hK => ?_)
  go_upto_region 1 with (fail)
  refine wp_region_T [1, 1, 0] hK ?_
  clear hK
  refine eL m0 ?_
  refine eQ (fun w k => rvalidT_any w (ht.below k.old) hl ht2) ?_
  refine e0 ?_
  refine sxEnd (fun W3 hK => ?_)
  go_upto_region 3 with (fail)
  refine wp_region_T [0, 0, 0, 0, 0, 1, 0, 0] hK ?_
  clear hK
  refine e0 ?_
  refine eB (decide (((n : Int)) < 0)) (fun b1 hb1 => ?_)
  refine e0 ?_
  cases b1
  · --
   have q_b1 : 0 ≤ ((n : Int)) := Int.not_lt.1 (of_decide_eq_false hb1.out)
   iterate 2 refine e0 ?_
   refine eL m0 ?_
   refine eB (decide (t.nodes ≤ ((n : Int)))) (fun b2 hb2 => ?_)
   refine e0 ?_
   refine sxEnd (fun W4 hK => ?_)
   cases b2
   · --
    have q_b2 : ((n : Int)) < t.nodes := Int.not_le.1 (of_decide_eq_false hb2.out)
    go_wp2_with fail
    go_loopw [10, 1, 9] (fun s10 s1 s9 wl => ∃ (i : Nat) (x : Nat), s10 = .int .i64 (i : Int) ∧ s1 = .int .i64 (x : Int) ∧ s9 = .int .i64 (costD t (p.take i)) ∧ (i ≤ n_xs) ∧ RowKit.Hid (NxP t down D d n (p.take i) x) ∧ RowKit.Hid (NxP t down D d x (p.drop i) y) ∧ RowKit.Hid (i = 0 ∨ trD t x d = true) ∧ SS w ([bx R1 (.cells #[.int .i64 t.nodes, .slice p_t n_t c_t, .slice q_t m_t d_t] 25)]) wl) (fun s10 s1 s9 _ => n_xs - (intOf s10).toNat)
    case atStart => exact ⟨0, n, rfl, rfl, (by rw [List.take_zero]; rfl), (by omega), hid rfl, hid (by rw [List.drop_zero]; exact hp.out), hid (.inl rfl), hK⟩
    case round =>
     clear hK
     obtain ⟨i, x, rfl, rfl, rfl, hi0, h_A, h_B, h_T, hK⟩ := hrel
     generalize wr = W5 at hK ⊢
     go_upto_region 7 with (fail)
     refine wp_region_T [0, 0, 0, 0] hK ?_
     clear hK
     iterate 3 refine e0 ?_
     refine eB (decide (((i : Int)) < ((n_xs : Int)))) (fun b3 hb3 => ?_)
     refine sxEnd (fun W6 hK => ?_)
     cases b3
     · --
      have q_b3 : ((n_xs : Int)) ≤ ((i : Int)) := Int.not_lt.1 (of_decide_eq_false hb3.out)
      obtain rfl : i = n_xs := by have qb1 := hb1.out; (try simp at qb1); have qb2 := hb2.out; (try simp at qb2); have qb3 := hb3.out; (try simp at qb3); omega
      go_wp2
      exact bodyPost_ret (v := .tuple #[.int .i64 (x : Int), .int .i64 (costD t (p.take i)), .int .i64 0]) (by simp [results, Tryz.results24, go_sem]) rfl (by obtain rfl := hQ0.out; exact ⟨(by rw [List.take_of_length_le (by have := hxs.one0; rw [hxp.out, natI_len] at this; omega), show x = y from (by have q := h_B.out; rw [List.drop_eq_nil_of_le (by have := hxs.one0; rw [hxp.out, natI_len] at this; omega)] at q; exact q)]), hK.old⟩)
     · --
      have q_b3 : ((i : Int)) < ((n_xs : Int)) := of_decide_eq_true hb3.out
      have hi : i < n_xs := by omega
      have i7 : i < n_xs := hi
      obtain ⟨g7, o7, rfl⟩ := hxs.pt i7
      have l7 : i < xs.length := Nat.lt_of_lt_of_eq i7 (hxs.one0)
      obtain ⟨b, eb⟩ : ∃ x, RowKit.Hid (xs[i]? = some x) := ⟨_, hid (List.getElem?_eq_getElem l7)⟩
      rw [hxp.out] at eb; obtain ⟨a, eb1, rfl⟩ := natI_at eb.out; have eb2 := hid eb1; clear eb1; rw [← hxp.out] at eb; have hB2 := hid (h_B.out.at eb2.out); have hmn := mem_nxt.1 hB2.out.1; have ha := hmn.1; have hti := hmn.2.1; obtain ⟨hon1, hon2, hon3⟩ := on_three hmn.2.2; have htr := hid hon3; have hxd : x ≠ d := hti ▸ hon2; have hov := hid (show 0 < i → ovD t x = false from fun h => (trD_iff.1 (h_T.out.resolve_left (by omega))).resolve_left hxd)
      have hcA := NxP.cost ht2 h_A.out; have hsm1 := hsm n; have hx0 := (nxt_less ht2 hB2.out.1); obtain ⟨_, _, _, _, hhN, _, hc1, hc2⟩ := arc_ok ht2 ha; have hcA1 := hid hcA; clear hcA; have hcb : costD t (p.take i) ≤ 4300000 := (by have q := hcA1.out; have q2 := hx0.1; have q3 := hx0.2.1; omega); have hcb0 : 0 ≤ costD t (p.take i) := cost_nn; replace hx0 := hid hx0; replace hsm1 := hid hsm1; replace hti := hid hti; have hti2 := Nat.le_of_eq hti.out; have hti3 := Nat.le_of_eq hti.out.symm
      go_upto_region 9 with (fail)
      refine wp_region_S _ [0, 0, 0, 0, 0, 0, 0, 0, 0, 0, 0, 1, 0, 0] hK ?_ (List.Sublist.refl _)
      clear hK
      iterate 3 refine e0 ?_
      refine eR0 (fun w k => (hxs.below k.old).int eb.out) ?_
      refine eB (decide (((a : Int)) < 0)) (fun b4 hb4 => ?_)
      refine e0 ?_
      cases b4
      · --
       have q_b4 : 0 ≤ ((a : Int)) := Int.not_lt.1 (of_decide_eq_false hb4.out)
       iterate 3 refine e0 ?_
       refine eR0 (fun w k => (hxs.below k.old).int eb.out) ?_
       refine eL0 m0 ?_
       refine eQ (fun w k => rarcs_any w (ht.below k.old) hl ht2) ?_
       refine eB (decide ((((arcsD t : Nat) : Int)) ≤ ((a : Int)))) (fun b5 hb5 => ?_)
       refine e0 ?_
       refine sxEnd (fun W8 hK => ?_)
       cases b5
       · --
        have q_b5 : ((a : Int)) < (((arcsD t : Nat) : Int)) := Int.not_le.1 (of_decide_eq_false hb5.out)
        go_upto_region 11 with (fail)
        refine wp_region_S _ [0, 0, 0, 0, 0, 1, 0, 0, 0, 0, 0, 0, 0, 0, 1, 0, 0] hK ?_ (List.Sublist.refl _)
        clear hK
        refine eL0 m0 ?_
        iterate 3 refine e0 ?_
        refine eR0 (fun w k => (hxs.below k.old).int eb.out) ?_
        refine eQ (fun w k => rtail_any w (ht.below k.old) a hl ht2 ha) ?_
        refine e0 ?_
        refine eB ((((tN t a : Nat) : Int)) != ((x : Int))) (fun b6 hb6 => ?_)
        refine e0 ?_
        cases b6
        · --
         refine e0 ?_
         refine eB (decide (0 < ((i : Int)))) (fun b7 hb7 => ?_)
         refine e0 ?_
         cases b7
         · --
          have q_b7 : ((i : Int)) ≤ 0 := Int.not_lt.1 (of_decide_eq_false hb7.out)
          iterate 3 refine eN ?_
          iterate 2 refine e0 ?_
          refine sxEnd (fun W9 hK => ?_)
          go_upto_region 13 with (fail)
          refine wp_region_S _ [0, 0, 0, 0, 0, 0, 1, 0, 0] hK ?_ (List.Sublist.refl _)
          clear hK
          refine e0 ?_
          refine eL0 m0 ?_
          iterate 3 refine e0 ?_
          refine eR0 (fun w k => (hxs.below k.old).int eb.out) ?_
          refine eQ (fun w k => rcost_any w (ht.below k.old) a hl ht2 ha) ?_
          refine eV (.int .i64 (costD t (p.take i) + (cN t a : Int))) (fun w' => by go_simp; (try go_bits); exact ⟨congrArg (Value.int .i64) (by first | omega | (unfold wrap64; omega)), rfl⟩) ?_
          refine e0 ?_
          refine sxEnd (fun W10 hK => ?_)
          go_upto_region 14 with (fail)
          refine wp_region_S _ [0, 0, 0, 0, 0, 1, 0] hK ?_ (List.Sublist.refl _)
          clear hK
          refine eL0 m0 ?_
          iterate 3 refine e0 ?_
          refine eR0 (fun w k => (hxs.below k.old).int eb.out) ?_
          refine eQ (fun w k => rhead_any w (ht.below k.old) a hl ht2 ha) ?_
          refine e0 ?_
          refine sxEnd (fun W11 hK => ?_)
          (try go_wp2)
          go_roundw
          case rel => exact ⟨i + 1, (hN t a), (by first | rfl | go_num), (by first | rfl | go_num), (congrArg (Value.int .i64) (cost_snoc eb2.out).symm), (by omega), hid (h_A.out.snoc_at eb2.out hB2.out.1), hid hB2.out.2, hid (.inr htr.out), hK⟩
          case measure => simp [intOf] <;> omega
         · --
          have q_b7 : 0 < ((i : Int)) := of_decide_eq_true hb7.out
          refine eL0 m0 ?_
          refine e0 ?_
          obtain ⟨b8, hb8⟩ : ∃ b : Bool, RowKit.Hid ((ovD t x) = b) := ⟨_, hid rfl⟩
          refine eQ (v := .bool b8) (fun w k => rover_any w (ht.below k.old) x hl ht2) ?_ (hv := by rw [hb8.out])
          iterate 2 refine e0 ?_
          refine sxEnd (fun W12 hK => ?_)
          cases b8
          · --
           go_upto_region 13 with (fail)
           refine wp_region_S _ [0, 0, 0, 0, 0, 0, 1, 0, 0] hK ?_ (List.Sublist.refl _)
           clear hK
           refine e0 ?_
           refine eL0 m0 ?_
           iterate 3 refine e0 ?_
           refine eR0 (fun w k => (hxs.below k.old).int eb.out) ?_
           refine eQ (fun w k => rcost_any w (ht.below k.old) a hl ht2 ha) ?_
           refine eV (.int .i64 (costD t (p.take i) + (cN t a : Int))) (fun w' => by go_simp; (try go_bits); exact ⟨congrArg (Value.int .i64) (by first | omega | (unfold wrap64; omega)), rfl⟩) ?_
           refine e0 ?_
           refine sxEnd (fun W13 hK => ?_)
           go_upto_region 14 with (fail)
           refine wp_region_S _ [0, 0, 0, 0, 0, 1, 0] hK ?_ (List.Sublist.refl _)
           clear hK
           refine eL0 m0 ?_
           iterate 3 refine e0 ?_
           refine eR0 (fun w k => (hxs.below k.old).int eb.out) ?_
           refine eQ (fun w k => rhead_any w (ht.below k.old) a hl ht2 ha) ?_
           refine e0 ?_
           refine sxEnd (fun W14 hK => ?_)
           (try go_wp2)
           go_roundw
           case rel => exact ⟨i + 1, (hN t a), (by first | rfl | go_num), (by first | rfl | go_num), (congrArg (Value.int .i64) (cost_snoc eb2.out).symm), (by omega), hid (h_A.out.snoc_at eb2.out hB2.out.1), hid hB2.out.2, hid (.inr htr.out), hK⟩
           case measure => simp [intOf] <;> omega
          · --
           exact absurd hb8.out (by rw [hov.out (by have qb1 := hb1.out; (try simp at qb1); have qb2 := hb2.out; (try simp at qb2); have qb3 := hb3.out; (try simp at qb3); have qb4 := hb4.out; (try simp at qb4); have qb5 := hb5.out; (try simp at qb5); have qb6 := hb6.out; (try simp at qb6); have qb7 := hb7.out; (try simp at qb7); have qb8 := hb8.out; (try simp at qb8); omega)]; decide)
        · --
         have qb1 := hb1.out; (try simp at qb1); have qb2 := hb2.out; (try simp at qb2); have qb3 := hb3.out; (try simp at qb3); have qb4 := hb4.out; (try simp at qb4); have qb5 := hb5.out; (try simp at qb5); have qb6 := hb6.out; (try simp at qb6); omega
       · --
        have q_b5 : (((arcsD t : Nat) : Int)) ≤ ((a : Int)) := of_decide_eq_true hb5.out
        have qb1 := hb1.out; (try simp at qb1); have qb2 := hb2.out; (try simp at qb2); have qb3 := hb3.out; (try simp at qb3); have qb4 := hb4.out; (try simp at qb4); have qb5 := hb5.out; (try simp at qb5); omega
      · --
       have q_b4 : ((a : Int)) < 0 := of_decide_eq_true hb4.out
       have qb1 := hb1.out; (try simp at qb1); have qb2 := hb2.out; (try simp at qb2); have qb3 := hb3.out; (try simp at qb3); have qb4 := hb4.out; (try simp at qb4); omega
   · --
    have q_b2 : t.nodes ≤ ((n : Int)) := of_decide_eq_true hb2.out
    have qb1 := hb1.out; (try simp at qb1); have qb2 := hb2.out; (try simp at qb2); omega
  · --
   have q_b1 : ((n : Int)) < 0 := of_decide_eq_true hb1.out
   have qb1 := hb1.out; (try simp at qb1); omega
end Go.Proofs.YtokhapaffleffaaGreat
