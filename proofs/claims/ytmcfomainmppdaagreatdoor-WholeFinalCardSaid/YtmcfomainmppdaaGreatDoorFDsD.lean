/- Valid topologies, walked. -/
import Derived.Test.YtmcfomainmppdaaGreatDoorFDsC
namespace Go.Proofs.YtmcfomainmppdaaGreatDoor
open Go.RowKit
open Go.Lib (decDigits)
set_option maxRecDepth 100000 in
theorem within_any (w : World) (n : Int) (lo : Int) (hi : Int)  :
    Calls Tryz.prog 73 #[.int .i64 n, .int .i64 lo, .int .i64 hi] w fun e w' => e = .returned (.bool (decide (lo ≤ n) && decide (n ≤ hi))) ∧ Below w.heap.size w w' := by
  have hK := SS.start w
  refine Calls.hide (fun Q0 hQ0 => ?_)
  go_enter Tryz.func73, Tryz.ntmps73
  go_upto_region 1 with (fail)
  refine wp_region_T [0, 0, 0, 0, 0, 0, 0, 0, 0] hK ?_
  clear hK
  iterate 2 refine e0 ?_
  refine eB (decide (lo ≤ n)) (fun b1 hb1 => ?_)
  refine e0 ?_
  cases b1
  · --
   have q_b1 : n < lo := Int.not_le.1 (of_decide_eq_false hb1.out)
   iterate 3 refine eN ?_
   iterate 2 refine e0 ?_
   refine sxEnd (fun W1 hK => ?_)
   go_wp2
   try go_ret
   show Q0 (.returned (.bool false)) _
   exact (by obtain rfl := hQ0.out; exact ⟨by rw [hb1.out]; rfl, hK.old⟩)
  · --
   have q_b1 : lo ≤ n := of_decide_eq_true hb1.out
   iterate 2 refine e0 ?_
   refine eB (decide (n ≤ hi)) (fun b2 hb2 => ?_)
   iterate 2 refine e0 ?_
   refine sxEnd (fun W2 hK => ?_)
   go_wp2
   try go_ret
   show Q0 (.returned (.bool b2)) _
   exact (by obtain rfl := hQ0.out; exact ⟨by rw [hb1.out, hb2.out]; rfl, hK.old⟩)
set_option maxRecDepth 100000 in
set_option maxHeartbeats 4000000 in
theorem valid_any (w : World) {v_t : Value} {t : TopD} (ht : TopV w v_t t) (hl : t.links.length ≤ 100000) :
    Calls Tryz.prog 33 #[v_t] w fun e w' => e = .returned (.bool (topOk t)) ∧ Below w.heap.size w w' := by
  have ht_0 := ht
  obtain ⟨p_t, n_t, c_t, q_t, m_t, d_t, rfl, ht_1, ht_2⟩ := ht_0; have b_t : m_t ≤ 100000 := (by rw [ht_2.one0]; exact hl); have a_t : arcsD t ≤ 200000 := (by unfold arcsD; omega)
  have hK := SS.start w
  refine Calls.hide (fun Q0 hQ0 => ?_)
  go_enter Tryz.func33, Tryz.ntmps33
  go_upto_region 0 with (fail)
  refine wp_region_T [3, 0] hK ?_
  clear hK
  refine eA (.cells #[.int .i64 t.nodes, .slice p_t n_t c_t, .slice q_t m_t d_t] 25) (fun R1 => ?_)
  refine e0 ?_
  refine sxEnd (fun W2 hK => ?_)
  go_upto_region 1 with (fail)
  refine wp_region_T [0, 1, 1, 0, 0, 0, 1, 0, 0, 0] hK ?_
  clear hK
  refine e0 ?_
  refine eL m0 ?_
  obtain ⟨b1, hb1⟩ : ∃ b : Bool, RowKit.Hid ((decide (1 ≤ t.nodes) && decide (t.nodes ≤ 64)) = b) := ⟨_, hid rfl⟩
  refine eQ (v := .bool b1) (fun w k => within_any w t.nodes 1 64 ) ?_ (hv := by rw [hb1.out])
  iterate 2 refine e0 ?_
  cases b1
  · --
   iterate 4 refine eN ?_
   refine e0 ?_
   refine sxEnd (fun W3 hK => ?_)
   go_wp2
   try go_ret
   show Q0 (.returned (.bool false)) _
   exact (by obtain rfl := hQ0.out; exact ⟨congrArg (fun z => Ending.returned (.bool z)) (top_no0 (by have hn1 := ht_1.one0; have hm1 := ht_2.one0; have qb1 := hb1.out; (try simp at qb1); omega)).symm, hK.old⟩)
  · --
   refine e0 ?_
   refine eL m0 ?_
   refine e0 ?_
   refine eB (decide (256 < ((m_t : Int)))) (fun b2 hb2 => ?_)
   refine e0 ?_
   refine sxEnd (fun W4 hK => ?_)
   cases b2
   · --
    have q_b2 : ((m_t : Int)) ≤ 256 := Int.not_lt.1 (of_decide_eq_false hb2.out)
    go_upto_region 3 with (fail)
    refine wp_region_T [0, 1, 0, 0, 0, 0, 1, 0, 0, 1, 0, 0] hK ?_
    clear hK
    refine e0 ?_
    refine eL m0 ?_
    refine e0 ?_
    refine eB (((n_t : Int)) != 0) (fun b3 hb3 => ?_)
    refine e0 ?_
    cases b3
    · --
     iterate 6 refine eN ?_
     refine e0 ?_
     refine sxEnd (fun W5 hK => ?_)
     go_upto_region 5 with (fail)
     refine wp_region_T [0, 1, 0, 0] hK ?_
     clear hK
     refine e0 ?_
     refine eL m0 ?_
     iterate 2 refine e0 ?_
     refine sxEnd (fun W6 hK => ?_)
     go_wp2_with fail
     go_loopw [30] (fun s30 wl => ∃ (j : Nat), s30 = .int .i64 (j : Int) ∧ (j ≤ m_t) ∧ RowKit.Hid (∀ k x, k < j → t.links[k]? = some x → lnkOk t.nodes x = true) ∧ SS w ([bx R1 (.cells #[.int .i64 t.nodes, .slice p_t n_t c_t, .slice q_t m_t d_t] 25)]) wl) (fun s30 _ => m_t - (intOf s30).toNat)
     case atStart => exact ⟨0, rfl, (by omega), hid (fun k x hk => absurd hk (Nat.not_lt_zero _)), hK⟩
     case round =>
      clear hK
      obtain ⟨j, rfl, hj0, h_ok, hK⟩ := hrel
      generalize wr = W7 at hK ⊢
      go_upto_region 6 with (fail)
      refine wp_region_T [0] hK ?_
      clear hK
      refine eB (decide (((j : Int)) < ((m_t : Int)))) (fun b4 hb4 => ?_)
      refine sxEnd (fun W8 hK => ?_)
      cases b4
      · --
       have q_b4 : ((m_t : Int)) ≤ ((j : Int)) := Int.not_lt.1 (of_decide_eq_false hb4.out)
       go_wp2
       try go_ret
       show Q0 (.returned (.bool true)) _
       exact (by obtain rfl := hQ0.out; exact ⟨congrArg (fun z => Ending.returned (.bool z)) (top_yes (by have hn1 := ht_1.one0; have hm1 := ht_2.one0; have qb1 := hb1.out; (try simp at qb1); have qb2 := hb2.out; (try simp at qb2); have qb3 := hb3.out; (try simp at qb3); have qb4 := hb4.out; (try simp at qb4); omega) fun k x hk => h_ok.out k x (by have hn1 := ht_1.one0; have hm1 := ht_2.one0; have qb1 := hb1.out; (try simp at qb1); have qb2 := hb2.out; (try simp at qb2); have qb3 := hb3.out; (try simp at qb3); have qb4 := hb4.out; (try simp at qb4); omega)).symm, hK.old⟩)
      · --
       have q_b4 : ((j : Int)) < ((m_t : Int)) := of_decide_eq_true hb4.out
       have hj : j < m_t := by omega
       have i9 : j < m_t := hj
       obtain ⟨g9, o9, rfl⟩ := ht_2.pt i9
       have l9 : j < t.links.length := Nat.lt_of_lt_of_eq i9 (ht_2.one0)
       obtain ⟨x, ex⟩ : ∃ x, RowKit.Hid (t.links[j]? = some x) := ⟨_, hid (List.getElem?_eq_getElem l9)⟩
       go_upto_region 8 with (fail)
       refine wp_region_T [0, 1, 0, 0, 0] hK ?_
       clear hK
       refine e0 ?_
       refine eL m0 ?_
       iterate 3 refine e0 ?_
       refine sxEnd (fun W10 hK => ?_)
       go_upto_region 9 with (fail)
       refine wp_region_S _ [0, 0, 0, 0, 0, 0, 0, 0, 0, 0, 0, 0, 0, 0, 0, 1, 0, 0, 0, 0, 0, 0, 0, 0, 1, 0, 0] hK ?_ (List.Sublist.refl _)
       clear hK
       iterate 3 refine e0 ?_
       refine eR0 (fun w k => (ht_2.below k.old).lnk0 ex.out rfl) ?_
       iterate 3 refine e0 ?_
       refine eR0 (fun w k => (ht_2.below k.old).lnk ex.out 1 rfl) ?_
       refine eB (x.a == x.b) (fun b5 hb5 => ?_)
       refine e0 ?_
       cases b5
       · --
        refine eL0 m0 ?_
        iterate 3 refine e0 ?_
        refine eR0 (fun w k => (ht_2.below k.old).lnk0 ex.out rfl) ?_
        obtain ⟨b6, hb6⟩ : ∃ b : Bool, RowKit.Hid ((decide (0 ≤ x.a) && decide (x.a < t.nodes)) = b) := ⟨_, hid rfl⟩
        refine eQ (v := .bool b6) (fun w k => node_any w (ht.below k.old) x.a hl) ?_ (hv := by rw [hb6.out])
        iterate 3 refine e0 ?_
        cases b6
        · --
         iterate 7 refine eN ?_
         refine e0 ?_
         refine sxEnd (fun W11 hK => ?_)
         go_wp2
         try go_ret
         show Q0 (.returned (.bool false)) _
         exact (by obtain rfl := hQ0.out; exact ⟨congrArg (fun z => Ending.returned (.bool z)) (top_no ex.out (by unfold lnkOk; rw [decide_eq_false_iff_not]; have qb1 := hb1.out; (try simp at qb1); have qb2 := hb2.out; (try simp at qb2); have qb3 := hb3.out; (try simp at qb3); have qb4 := hb4.out; (try simp at qb4); have qb5 := hb5.out; (try simp at qb5); have qb6 := hb6.out; (try simp at qb6); omega)).symm, hK.old⟩)
        · --
         refine eL0 m0 ?_
         iterate 3 refine e0 ?_
         refine eR0 (fun w k => (ht_2.below k.old).lnk ex.out 1 rfl) ?_
         obtain ⟨b7, hb7⟩ : ∃ b : Bool, RowKit.Hid ((decide (0 ≤ x.b) && decide (x.b < t.nodes)) = b) := ⟨_, hid rfl⟩
         refine eQ (v := .bool b7) (fun w k => node_any w (ht.below k.old) x.b hl) ?_ (hv := by rw [hb7.out])
         iterate 2 refine e0 ?_
         refine sxEnd (fun W12 hK => ?_)
         cases b7
         · --
          go_wp2
          try go_ret
          show Q0 (.returned (.bool false)) _
          exact (by obtain rfl := hQ0.out; exact ⟨congrArg (fun z => Ending.returned (.bool z)) (top_no ex.out (by unfold lnkOk; rw [decide_eq_false_iff_not]; have qb1 := hb1.out; (try simp at qb1); have qb2 := hb2.out; (try simp at qb2); have qb3 := hb3.out; (try simp at qb3); have qb4 := hb4.out; (try simp at qb4); have qb5 := hb5.out; (try simp at qb5); have qb6 := hb6.out; (try simp at qb6); have qb7 := hb7.out; (try simp at qb7); omega)).symm, hK.old⟩)
         · --
          go_upto_region 11 with (fail)
          refine wp_region_T [0, 0, 0, 0, 0, 1, 0, 0, 0, 0, 0, 0, 0, 1, 0, 0] hK ?_
          clear hK
          iterate 4 refine e0 ?_
          refine eR0 (fun w k => (ht_2.below k.old).lnk ex.out 2 rfl) ?_
          obtain ⟨b8, hb8⟩ : ∃ b : Bool, RowKit.Hid ((decide (1 ≤ x.c0) && decide (x.c0 ≤ 65535)) = b) := ⟨_, hid rfl⟩
          refine eQ (v := .bool b8) (fun w k => within_any w x.c0 1 65535 ) ?_ (hv := by rw [hb8.out])
          iterate 2 refine e0 ?_
          cases b8
          · --
           iterate 7 refine eN ?_
           refine e0 ?_
           refine sxEnd (fun W13 hK => ?_)
           go_wp2
           try go_ret
           show Q0 (.returned (.bool false)) _
           exact (by obtain rfl := hQ0.out; exact ⟨congrArg (fun z => Ending.returned (.bool z)) (top_no ex.out (by unfold lnkOk; rw [decide_eq_false_iff_not]; have qb1 := hb1.out; (try simp at qb1); have qb2 := hb2.out; (try simp at qb2); have qb3 := hb3.out; (try simp at qb3); have qb4 := hb4.out; (try simp at qb4); have qb5 := hb5.out; (try simp at qb5); have qb6 := hb6.out; (try simp at qb6); have qb7 := hb7.out; (try simp at qb7); have qb8 := hb8.out; (try simp at qb8); omega)).symm, hK.old⟩)
          · --
           iterate 4 refine e0 ?_
           refine eR0 (fun w k => (ht_2.below k.old).lnk ex.out 3 rfl) ?_
           obtain ⟨b9, hb9⟩ : ∃ b : Bool, RowKit.Hid ((decide (1 ≤ x.c1) && decide (x.c1 ≤ 65535)) = b) := ⟨_, hid rfl⟩
           refine eQ (v := .bool b9) (fun w k => within_any w x.c1 1 65535 ) ?_ (hv := by rw [hb9.out])
           iterate 2 refine e0 ?_
           refine sxEnd (fun W14 hK => ?_)
           cases b9
           · --
            go_wp2
            try go_ret
            show Q0 (.returned (.bool false)) _
            exact (by obtain rfl := hQ0.out; exact ⟨congrArg (fun z => Ending.returned (.bool z)) (top_no ex.out (by unfold lnkOk; rw [decide_eq_false_iff_not]; have qb1 := hb1.out; (try simp at qb1); have qb2 := hb2.out; (try simp at qb2); have qb3 := hb3.out; (try simp at qb3); have qb4 := hb4.out; (try simp at qb4); have qb5 := hb5.out; (try simp at qb5); have qb6 := hb6.out; (try simp at qb6); have qb7 := hb7.out; (try simp at qb7); have qb8 := hb8.out; (try simp at qb8); have qb9 := hb9.out; (try simp at qb9); omega)).symm, hK.old⟩)
           · --
            go_upto_region 13 with (fail)
            refine wp_region_T [0, 0, 0, 0, 1, 0, 0, 0, 0, 0, 0, 1, 0, 0, 0, 0, 0, 0, 0, 1, 0, 0] hK ?_
            clear hK
            iterate 3 refine e0 ?_
            refine eR0 (fun w k => (ht_2.below k.old).lnk ex.out 4 rfl) ?_
            obtain ⟨b10, hb10⟩ : ∃ b : Bool, RowKit.Hid ((decide (0 ≤ x.cap) && decide (x.cap ≤ 1048576)) = b) := ⟨_, hid rfl⟩
            refine eQ (v := .bool b10) (fun w k => within_any w x.cap 0 1048576 ) ?_ (hv := by rw [hb10.out])
            iterate 2 refine e0 ?_
            cases b10
            · --
             iterate 6 refine eN ?_
             iterate 2 refine e0 ?_
             iterate 6 refine eN ?_
             refine e0 ?_
             refine sxEnd (fun W15 hK => ?_)
             go_wp2
             try go_ret
             show Q0 (.returned (.bool false)) _
             exact (by obtain rfl := hQ0.out; exact ⟨congrArg (fun z => Ending.returned (.bool z)) (top_no ex.out (by unfold lnkOk; rw [decide_eq_false_iff_not]; have qb1 := hb1.out; (try simp at qb1); have qb2 := hb2.out; (try simp at qb2); have qb3 := hb3.out; (try simp at qb3); have qb4 := hb4.out; (try simp at qb4); have qb5 := hb5.out; (try simp at qb5); have qb6 := hb6.out; (try simp at qb6); have qb7 := hb7.out; (try simp at qb7); have qb8 := hb8.out; (try simp at qb8); have qb9 := hb9.out; (try simp at qb9); have qb10 := hb10.out; (try simp at qb10); omega)).symm, hK.old⟩)
            · --
             iterate 3 refine e0 ?_
             refine eR0 (fun w k => (ht_2.below k.old).lnk ex.out 5 rfl) ?_
             obtain ⟨b11, hb11⟩ : ∃ b : Bool, RowKit.Hid ((decide (1 ≤ x.dly) && decide (x.dly ≤ 65536)) = b) := ⟨_, hid rfl⟩
             refine eQ (v := .bool b11) (fun w k => within_any w x.dly 1 65536 ) ?_ (hv := by rw [hb11.out])
             iterate 3 refine e0 ?_
             cases b11
             · --
              iterate 6 refine eN ?_
              refine e0 ?_
              refine sxEnd (fun W16 hK => ?_)
              go_wp2
              try go_ret
              show Q0 (.returned (.bool false)) _
              exact (by obtain rfl := hQ0.out; exact ⟨congrArg (fun z => Ending.returned (.bool z)) (top_no ex.out (by unfold lnkOk; rw [decide_eq_false_iff_not]; have qb1 := hb1.out; (try simp at qb1); have qb2 := hb2.out; (try simp at qb2); have qb3 := hb3.out; (try simp at qb3); have qb4 := hb4.out; (try simp at qb4); have qb5 := hb5.out; (try simp at qb5); have qb6 := hb6.out; (try simp at qb6); have qb7 := hb7.out; (try simp at qb7); have qb8 := hb8.out; (try simp at qb8); have qb9 := hb9.out; (try simp at qb9); have qb10 := hb10.out; (try simp at qb10); have qb11 := hb11.out; (try simp at qb11); omega)).symm, hK.old⟩)
             · --
              iterate 3 refine e0 ?_
              refine eR0 (fun w k => (ht_2.below k.old).lnk ex.out 6 rfl) ?_
              obtain ⟨b12, hb12⟩ : ∃ b : Bool, RowKit.Hid ((decide (0 ≤ x.grp) && decide (x.grp ≤ 64)) = b) := ⟨_, hid rfl⟩
              refine eQ (v := .bool b12) (fun w k => within_any w x.grp 0 64 ) ?_ (hv := by rw [hb12.out])
              iterate 2 refine e0 ?_
              refine sxEnd (fun W17 hK => ?_)
              cases b12
              · --
               go_wp2
               try go_ret
               show Q0 (.returned (.bool false)) _
               exact (by obtain rfl := hQ0.out; exact ⟨congrArg (fun z => Ending.returned (.bool z)) (top_no ex.out (by unfold lnkOk; rw [decide_eq_false_iff_not]; have qb1 := hb1.out; (try simp at qb1); have qb2 := hb2.out; (try simp at qb2); have qb3 := hb3.out; (try simp at qb3); have qb4 := hb4.out; (try simp at qb4); have qb5 := hb5.out; (try simp at qb5); have qb6 := hb6.out; (try simp at qb6); have qb7 := hb7.out; (try simp at qb7); have qb8 := hb8.out; (try simp at qb8); have qb9 := hb9.out; (try simp at qb9); have qb10 := hb10.out; (try simp at qb10); have qb11 := hb11.out; (try simp at qb11); have qb12 := hb12.out; (try simp at qb12); omega)).symm, hK.old⟩)
              · --
               (try go_wp2)
               go_roundw
               case rel => exact ⟨j + 1, (by first | rfl | go_num), (by omega), hid fun k y hk e => by
   rcases Nat.lt_succ_iff_lt_or_eq.1 hk with hk | rfl
   · exact h_ok.out k y hk e
   · have e0 := ex.out; rw [e0] at e; obtain rfl := Option.some.inj e; unfold lnkOk; rw [decide_eq_true_iff]; have qb1 := hb1.out; (try simp at qb1); have qb2 := hb2.out; (try simp at qb2); have qb3 := hb3.out; (try simp at qb3); have qb4 := hb4.out; (try simp at qb4); have qb5 := hb5.out; (try simp at qb5); have qb6 := hb6.out; (try simp at qb6); have qb7 := hb7.out; (try simp at qb7); have qb8 := hb8.out; (try simp at qb8); have qb9 := hb9.out; (try simp at qb9); have qb10 := hb10.out; (try simp at qb10); have qb11 := hb11.out; (try simp at qb11); have qb12 := hb12.out; (try simp at qb12); omega, hK⟩
               case measure => simp [intOf] <;> omega
       · --
        iterate 7 refine eN ?_
        iterate 2 refine e0 ?_
        iterate 7 refine eN ?_
        refine e0 ?_
        refine sxEnd (fun W18 hK => ?_)
        go_wp2
        try go_ret
        show Q0 (.returned (.bool false)) _
        exact (by obtain rfl := hQ0.out; exact ⟨congrArg (fun z => Ending.returned (.bool z)) (top_no ex.out (by unfold lnkOk; rw [decide_eq_false_iff_not]; have qb1 := hb1.out; (try simp at qb1); have qb2 := hb2.out; (try simp at qb2); have qb3 := hb3.out; (try simp at qb3); have qb4 := hb4.out; (try simp at qb4); have qb5 := hb5.out; (try simp at qb5); omega)).symm, hK.old⟩)
    · --
     refine e0 ?_
     refine eL m0 ?_
     iterate 2 refine e0 ?_
     refine eL m0 ?_
     refine eB (((n_t : Int)) != t.nodes) (fun b4 hb4 => ?_)
     refine e0 ?_
     refine sxEnd (fun W19 hK => ?_)
     cases b4
     · --
      go_upto_region 5 with (fail)
      refine wp_region_T [0, 1, 0, 0] hK ?_
      clear hK
      refine e0 ?_
      refine eL m0 ?_
      iterate 2 refine e0 ?_
      refine sxEnd (fun W20 hK => ?_)
      go_wp2_with fail
      go_loopw [30] (fun s30 wl => ∃ (j : Nat), s30 = .int .i64 (j : Int) ∧ (j ≤ m_t) ∧ RowKit.Hid (∀ k x, k < j → t.links[k]? = some x → lnkOk t.nodes x = true) ∧ SS w ([bx R1 (.cells #[.int .i64 t.nodes, .slice p_t n_t c_t, .slice q_t m_t d_t] 25)]) wl) (fun s30 _ => m_t - (intOf s30).toNat)
      case atStart => exact ⟨0, rfl, (by omega), hid (fun k x hk => absurd hk (Nat.not_lt_zero _)), hK⟩
      case round =>
       clear hK
       obtain ⟨j, rfl, hj0, h_ok, hK⟩ := hrel
       generalize wr = W21 at hK ⊢
       go_upto_region 6 with (fail)
       refine wp_region_T [0] hK ?_
       clear hK
       refine eB (decide (((j : Int)) < ((m_t : Int)))) (fun b5 hb5 => ?_)
       refine sxEnd (fun W22 hK => ?_)
       cases b5
       · --
        have q_b5 : ((m_t : Int)) ≤ ((j : Int)) := Int.not_lt.1 (of_decide_eq_false hb5.out)
        go_wp2
        try go_ret
        show Q0 (.returned (.bool true)) _
        exact (by obtain rfl := hQ0.out; exact ⟨congrArg (fun z => Ending.returned (.bool z)) (top_yes (by have hn1 := ht_1.one0; have hm1 := ht_2.one0; have qb1 := hb1.out; (try simp at qb1); have qb2 := hb2.out; (try simp at qb2); have qb3 := hb3.out; (try simp at qb3); have qb4 := hb4.out; (try simp at qb4); have qb5 := hb5.out; (try simp at qb5); omega) fun k x hk => h_ok.out k x (by have hn1 := ht_1.one0; have hm1 := ht_2.one0; have qb1 := hb1.out; (try simp at qb1); have qb2 := hb2.out; (try simp at qb2); have qb3 := hb3.out; (try simp at qb3); have qb4 := hb4.out; (try simp at qb4); have qb5 := hb5.out; (try simp at qb5); omega)).symm, hK.old⟩)
       · --
        have q_b5 : ((j : Int)) < ((m_t : Int)) := of_decide_eq_true hb5.out
        have hj : j < m_t := by omega
        have i23 : j < m_t := hj
        obtain ⟨g23, o23, rfl⟩ := ht_2.pt i23
        have l23 : j < t.links.length := Nat.lt_of_lt_of_eq i23 (ht_2.one0)
        obtain ⟨x, ex⟩ : ∃ x, RowKit.Hid (t.links[j]? = some x) := ⟨_, hid (List.getElem?_eq_getElem l23)⟩
        go_upto_region 8 with (fail)
        refine wp_region_T [0, 1, 0, 0, 0] hK ?_
        clear hK
        refine e0 ?_
        refine eL m0 ?_
        iterate 3 refine e0 ?_
        refine sxEnd (fun W24 hK => ?_)
        go_upto_region 9 with (fail)
        refine wp_region_S _ [0, 0, 0, 0, 0, 0, 0, 0, 0, 0, 0, 0, 0, 0, 0, 1, 0, 0, 0, 0, 0, 0, 0, 0, 1, 0, 0] hK ?_ (List.Sublist.refl _)
        clear hK
        iterate 3 refine e0 ?_
        refine eR0 (fun w k => (ht_2.below k.old).lnk0 ex.out rfl) ?_
        iterate 3 refine e0 ?_
        refine eR0 (fun w k => (ht_2.below k.old).lnk ex.out 1 rfl) ?_
        refine eB (x.a == x.b) (fun b6 hb6 => ?_)
        refine e0 ?_
        cases b6
        · --
         refine eL0 m0 ?_
         iterate 3 refine e0 ?_
         refine eR0 (fun w k => (ht_2.below k.old).lnk0 ex.out rfl) ?_
         obtain ⟨b7, hb7⟩ : ∃ b : Bool, RowKit.Hid ((decide (0 ≤ x.a) && decide (x.a < t.nodes)) = b) := ⟨_, hid rfl⟩
         refine eQ (v := .bool b7) (fun w k => node_any w (ht.below k.old) x.a hl) ?_ (hv := by rw [hb7.out])
         iterate 3 refine e0 ?_
         cases b7
         · --
          iterate 7 refine eN ?_
          refine e0 ?_
          refine sxEnd (fun W25 hK => ?_)
          go_wp2
          try go_ret
          show Q0 (.returned (.bool false)) _
          exact (by obtain rfl := hQ0.out; exact ⟨congrArg (fun z => Ending.returned (.bool z)) (top_no ex.out (by unfold lnkOk; rw [decide_eq_false_iff_not]; have qb1 := hb1.out; (try simp at qb1); have qb2 := hb2.out; (try simp at qb2); have qb3 := hb3.out; (try simp at qb3); have qb4 := hb4.out; (try simp at qb4); have qb5 := hb5.out; (try simp at qb5); have qb6 := hb6.out; (try simp at qb6); have qb7 := hb7.out; (try simp at qb7); omega)).symm, hK.old⟩)
         · --
          refine eL0 m0 ?_
          iterate 3 refine e0 ?_
          refine eR0 (fun w k => (ht_2.below k.old).lnk ex.out 1 rfl) ?_
          obtain ⟨b8, hb8⟩ : ∃ b : Bool, RowKit.Hid ((decide (0 ≤ x.b) && decide (x.b < t.nodes)) = b) := ⟨_, hid rfl⟩
          refine eQ (v := .bool b8) (fun w k => node_any w (ht.below k.old) x.b hl) ?_ (hv := by rw [hb8.out])
          iterate 2 refine e0 ?_
          refine sxEnd (fun W26 hK => ?_)
          cases b8
          · --
           go_wp2
           try go_ret
           show Q0 (.returned (.bool false)) _
           exact (by obtain rfl := hQ0.out; exact ⟨congrArg (fun z => Ending.returned (.bool z)) (top_no ex.out (by unfold lnkOk; rw [decide_eq_false_iff_not]; have qb1 := hb1.out; (try simp at qb1); have qb2 := hb2.out; (try simp at qb2); have qb3 := hb3.out; (try simp at qb3); have qb4 := hb4.out; (try simp at qb4); have qb5 := hb5.out; (try simp at qb5); have qb6 := hb6.out; (try simp at qb6); have qb7 := hb7.out; (try simp at qb7); have qb8 := hb8.out; (try simp at qb8); omega)).symm, hK.old⟩)
          · --
           go_upto_region 11 with (fail)
           refine wp_region_T [0, 0, 0, 0, 0, 1, 0, 0, 0, 0, 0, 0, 0, 1, 0, 0] hK ?_
           clear hK
           iterate 4 refine e0 ?_
           refine eR0 (fun w k => (ht_2.below k.old).lnk ex.out 2 rfl) ?_
           obtain ⟨b9, hb9⟩ : ∃ b : Bool, RowKit.Hid ((decide (1 ≤ x.c0) && decide (x.c0 ≤ 65535)) = b) := ⟨_, hid rfl⟩
           refine eQ (v := .bool b9) (fun w k => within_any w x.c0 1 65535 ) ?_ (hv := by rw [hb9.out])
           iterate 2 refine e0 ?_
           cases b9
           · --
            iterate 7 refine eN ?_
            refine e0 ?_
            refine sxEnd (fun W27 hK => ?_)
            go_wp2
            try go_ret
            show Q0 (.returned (.bool false)) _
            exact (by obtain rfl := hQ0.out; exact ⟨congrArg (fun z => Ending.returned (.bool z)) (top_no ex.out (by unfold lnkOk; rw [decide_eq_false_iff_not]; have qb1 := hb1.out; (try simp at qb1); have qb2 := hb2.out; (try simp at qb2); have qb3 := hb3.out; (try simp at qb3); have qb4 := hb4.out; (try simp at qb4); have qb5 := hb5.out; (try simp at qb5); have qb6 := hb6.out; (try simp at qb6); have qb7 := hb7.out; (try simp at qb7); have qb8 := hb8.out; (try simp at qb8); have qb9 := hb9.out; (try simp at qb9); omega)).symm, hK.old⟩)
           · --
            iterate 4 refine e0 ?_
            refine eR0 (fun w k => (ht_2.below k.old).lnk ex.out 3 rfl) ?_
            obtain ⟨b10, hb10⟩ : ∃ b : Bool, RowKit.Hid ((decide (1 ≤ x.c1) && decide (x.c1 ≤ 65535)) = b) := ⟨_, hid rfl⟩
            refine eQ (v := .bool b10) (fun w k => within_any w x.c1 1 65535 ) ?_ (hv := by rw [hb10.out])
            iterate 2 refine e0 ?_
            refine sxEnd (fun W28 hK => ?_)
            cases b10
            · --
             go_wp2
             try go_ret
             show Q0 (.returned (.bool false)) _
             exact (by obtain rfl := hQ0.out; exact ⟨congrArg (fun z => Ending.returned (.bool z)) (top_no ex.out (by unfold lnkOk; rw [decide_eq_false_iff_not]; have qb1 := hb1.out; (try simp at qb1); have qb2 := hb2.out; (try simp at qb2); have qb3 := hb3.out; (try simp at qb3); have qb4 := hb4.out; (try simp at qb4); have qb5 := hb5.out; (try simp at qb5); have qb6 := hb6.out; (try simp at qb6); have qb7 := hb7.out; (try simp at qb7); have qb8 := hb8.out; (try simp at qb8); have qb9 := hb9.out; (try simp at qb9); have qb10 := hb10.out; (try simp at qb10); omega)).symm, hK.old⟩)
            · --
             go_upto_region 13 with (fail)
             refine wp_region_T [0, 0, 0, 0, 1, 0, 0, 0, 0, 0, 0, 1, 0, 0, 0, 0, 0, 0, 0, 1, 0, 0] hK ?_
             clear hK
             iterate 3 refine e0 ?_
             refine eR0 (fun w k => (ht_2.below k.old).lnk ex.out 4 rfl) ?_
             obtain ⟨b11, hb11⟩ : ∃ b : Bool, RowKit.Hid ((decide (0 ≤ x.cap) && decide (x.cap ≤ 1048576)) = b) := ⟨_, hid rfl⟩
             refine eQ (v := .bool b11) (fun w k => within_any w x.cap 0 1048576 ) ?_ (hv := by rw [hb11.out])
             iterate 2 refine e0 ?_
             cases b11
             · --
              iterate 6 refine eN ?_
              iterate 2 refine e0 ?_
              iterate 6 refine eN ?_
              refine e0 ?_
              refine sxEnd (fun W29 hK => ?_)
              go_wp2
              try go_ret
              show Q0 (.returned (.bool false)) _
              exact (by obtain rfl := hQ0.out; exact ⟨congrArg (fun z => Ending.returned (.bool z)) (top_no ex.out (by unfold lnkOk; rw [decide_eq_false_iff_not]; have qb1 := hb1.out; (try simp at qb1); have qb2 := hb2.out; (try simp at qb2); have qb3 := hb3.out; (try simp at qb3); have qb4 := hb4.out; (try simp at qb4); have qb5 := hb5.out; (try simp at qb5); have qb6 := hb6.out; (try simp at qb6); have qb7 := hb7.out; (try simp at qb7); have qb8 := hb8.out; (try simp at qb8); have qb9 := hb9.out; (try simp at qb9); have qb10 := hb10.out; (try simp at qb10); have qb11 := hb11.out; (try simp at qb11); omega)).symm, hK.old⟩)
             · --
              iterate 3 refine e0 ?_
              refine eR0 (fun w k => (ht_2.below k.old).lnk ex.out 5 rfl) ?_
              obtain ⟨b12, hb12⟩ : ∃ b : Bool, RowKit.Hid ((decide (1 ≤ x.dly) && decide (x.dly ≤ 65536)) = b) := ⟨_, hid rfl⟩
              refine eQ (v := .bool b12) (fun w k => within_any w x.dly 1 65536 ) ?_ (hv := by rw [hb12.out])
              iterate 3 refine e0 ?_
              cases b12
              · --
               iterate 6 refine eN ?_
               refine e0 ?_
               refine sxEnd (fun W30 hK => ?_)
               go_wp2
               try go_ret
               show Q0 (.returned (.bool false)) _
               exact (by obtain rfl := hQ0.out; exact ⟨congrArg (fun z => Ending.returned (.bool z)) (top_no ex.out (by unfold lnkOk; rw [decide_eq_false_iff_not]; have qb1 := hb1.out; (try simp at qb1); have qb2 := hb2.out; (try simp at qb2); have qb3 := hb3.out; (try simp at qb3); have qb4 := hb4.out; (try simp at qb4); have qb5 := hb5.out; (try simp at qb5); have qb6 := hb6.out; (try simp at qb6); have qb7 := hb7.out; (try simp at qb7); have qb8 := hb8.out; (try simp at qb8); have qb9 := hb9.out; (try simp at qb9); have qb10 := hb10.out; (try simp at qb10); have qb11 := hb11.out; (try simp at qb11); have qb12 := hb12.out; (try simp at qb12); omega)).symm, hK.old⟩)
              · --
               iterate 3 refine e0 ?_
               refine eR0 (fun w k => (ht_2.below k.old).lnk ex.out 6 rfl) ?_
               obtain ⟨b13, hb13⟩ : ∃ b : Bool, RowKit.Hid ((decide (0 ≤ x.grp) && decide (x.grp ≤ 64)) = b) := ⟨_, hid rfl⟩
               refine eQ (v := .bool b13) (fun w k => within_any w x.grp 0 64 ) ?_ (hv := by rw [hb13.out])
               iterate 2 refine e0 ?_
               refine sxEnd (fun W31 hK => ?_)
               cases b13
               · --
                go_wp2
                try go_ret
                show Q0 (.returned (.bool false)) _
                exact (by obtain rfl := hQ0.out; exact ⟨congrArg (fun z => Ending.returned (.bool z)) (top_no ex.out (by unfold lnkOk; rw [decide_eq_false_iff_not]; have qb1 := hb1.out; (try simp at qb1); have qb2 := hb2.out; (try simp at qb2); have qb3 := hb3.out; (try simp at qb3); have qb4 := hb4.out; (try simp at qb4); have qb5 := hb5.out; (try simp at qb5); have qb6 := hb6.out; (try simp at qb6); have qb7 := hb7.out; (try simp at qb7); have qb8 := hb8.out; (try simp at qb8); have qb9 := hb9.out; (try simp at qb9); have qb10 := hb10.out; (try simp at qb10); have qb11 := hb11.out; (try simp at qb11); have qb12 := hb12.out; (try simp at qb12); have qb13 := hb13.out; (try simp at qb13); omega)).symm, hK.old⟩)
               · --
                (try go_wp2)
                go_roundw
                case rel => exact ⟨j + 1, (by first | rfl | go_num), (by omega), hid fun k y hk e => by
   rcases Nat.lt_succ_iff_lt_or_eq.1 hk with hk | rfl
   · exact h_ok.out k y hk e
   · have e0 := ex.out; rw [e0] at e; obtain rfl := Option.some.inj e; unfold lnkOk; rw [decide_eq_true_iff]; have qb1 := hb1.out; (try simp at qb1); have qb2 := hb2.out; (try simp at qb2); have qb3 := hb3.out; (try simp at qb3); have qb4 := hb4.out; (try simp at qb4); have qb5 := hb5.out; (try simp at qb5); have qb6 := hb6.out; (try simp at qb6); have qb7 := hb7.out; (try simp at qb7); have qb8 := hb8.out; (try simp at qb8); have qb9 := hb9.out; (try simp at qb9); have qb10 := hb10.out; (try simp at qb10); have qb11 := hb11.out; (try simp at qb11); have qb12 := hb12.out; (try simp at qb12); have qb13 := hb13.out; (try simp at qb13); omega, hK⟩
                case measure => simp [intOf] <;> omega
        · --
         iterate 7 refine eN ?_
         iterate 2 refine e0 ?_
         iterate 7 refine eN ?_
         refine e0 ?_
         refine sxEnd (fun W32 hK => ?_)
         go_wp2
         try go_ret
         show Q0 (.returned (.bool false)) _
         exact (by obtain rfl := hQ0.out; exact ⟨congrArg (fun z => Ending.returned (.bool z)) (top_no ex.out (by unfold lnkOk; rw [decide_eq_false_iff_not]; have qb1 := hb1.out; (try simp at qb1); have qb2 := hb2.out; (try simp at qb2); have qb3 := hb3.out; (try simp at qb3); have qb4 := hb4.out; (try simp at qb4); have qb5 := hb5.out; (try simp at qb5); have qb6 := hb6.out; (try simp at qb6); omega)).symm, hK.old⟩)
     · --
      go_wp2
      try go_ret
      show Q0 (.returned (.bool false)) _
      exact (by obtain rfl := hQ0.out; exact ⟨congrArg (fun z => Ending.returned (.bool z)) (top_no0 (by have hn1 := ht_1.one0; have hm1 := ht_2.one0; have qb1 := hb1.out; (try simp at qb1); have qb2 := hb2.out; (try simp at qb2); have qb3 := hb3.out; (try simp at qb3); have qb4 := hb4.out; (try simp at qb4); omega)).symm, hK.old⟩)
   · --
    have q_b2 : 256 < ((m_t : Int)) := of_decide_eq_true hb2.out
    go_wp2
    try go_ret
    show Q0 (.returned (.bool false)) _
    exact (by obtain rfl := hQ0.out; exact ⟨congrArg (fun z => Ending.returned (.bool z)) (top_no0 (by have hn1 := ht_1.one0; have hm1 := ht_2.one0; have qb1 := hb1.out; (try simp at qb1); have qb2 := hb2.out; (try simp at qb2); omega)).symm, hK.old⟩)
end Go.Proofs.YtmcfomainmppdaaGreatDoor
