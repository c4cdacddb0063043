/- The reference: topologies. -/
import Derived.Test.YtmcfomainmppdaaGreatDoorFDsD
namespace Go.Proofs.YtmcfomainmppdaaGreatDoor
open Go.RowKit
open Go.Lib (decDigits)
section
variable {P : Program} {V : World} {ops : Array Oper} {Q : Act → World → Prop} {f0 fs fs' : List Ft} {k : Nat} {ks : List Nat} {o : Oper} {rest : List Oper} {a a' : Act} {v : Value}
theorem eRm {F : World → Prop} (hc : ∀ w, SS V fs w → F w) (h1 : ∀ w, F w → Flt v w ((execOp a.eval o).run P w)) (h : Sx P V ops Q f0 ks rest fs a') (hg : Wants ops o a := by first | exact wants0 rfl | exact wantsg rfl rfl rfl rfl) (ha : a.put o.dst v = a' := by (simp only [mkOf, Act.put, pA, pB, pC, pD, pE]) <;> exact rfl) : Sx P V ops Q f0 (1 :: ks) (o :: rest) fs a :=
  sx1 hg (fun w hw => Flt.does ⟨rfl, Below.refl _ _⟩ (h1 w (hc w hw))) (by rw [ha]; exact h)
theorem eRm0 {F : World → Prop} (hc : ∀ w, SS V f0 w → F w) (h1 : ∀ w, F w → Flt v w ((execOp a.eval o).run P w)) (h : Sx P V ops Q f0 ks rest fs a') (hg : Wants ops o a := by first | exact wants0 rfl | exact wantsg rfl rfl rfl rfl) (ha : a.put o.dst v = a' := by (simp only [mkOf, Act.put, pA, pB, pC, pD, pE]) <;> exact rfl) : Sx P V ops Q f0 (0 :: ks) (o :: rest) fs a :=
  sx0 hg (fun w hw => h1 w (hc w hw)) (by rw [ha]; exact h)
end
theorem fl_val {a : Nat} (h : a ≤ 1000000) : (((a / 2 * 2 + 1 : Nat) : Int) - ((a % 2 : Nat) : Int)) = (flA a : Int) := by
  unfold flA
  split <;> omega
theorem tN_fl {t : TopD} (ht : topOk t = true) {a : Nat} (h : a < arcsD t) : tN t (flA a) = hN t a := by
  have e := flA_hd t a
  rw [(arc_ok ht (flA_lt h)).1, (arc_ok ht h).2.1] at e
  exact Int.ofNat.inj e
set_option maxRecDepth 100000 in
theorem rwithin_any (w : World) (n : Int) (lo : Int) (hi : Int)  :
    Calls Tryz.prog 66 #[.int .i64 n, .int .i64 lo, .int .i64 hi] w fun e w' => e = .returned (.bool (decide (lo ≤ n) && decide (n ≤ hi))) ∧ Below w.heap.size w w' := by
  have hK := SS.start w
  refine Calls.hide (fun Q0 hQ0 => ?_)
  go_enter Tryz.func66, Tryz.ntmps66
  go_upto_region 1 with (fail)
  refine wp_region_T [0, 0, 0, 0, 0, 0, 0, 0, 0] hK ?_
  clear hK
  iterate 2 refine e0 ?_
  refine eB (decide (lo ≤ n)) (fun b1 hb1 => ?_)
  refine e0 ?_
  cases b1
  · --
   have q_b1 : n < lo := Int.not_le.1 (of_decide_eq_false hb1.out)
   iterate 3 refine eN ?_
   iterate 2 refine e0 ?_
   refine sxEnd (fun W1 hK => ?_)
   go_wp2
   try go_ret
   show Q0 (.returned (.bool false)) _
   exact (by obtain rfl := hQ0.out; exact ⟨by rw [hb1.out]; rfl, hK.old⟩)
  · --
   have q_b1 : lo ≤ n := of_decide_eq_true hb1.out
   iterate 2 refine e0 ?_
   refine eB (decide (n ≤ hi)) (fun b2 hb2 => ?_)
   iterate 2 refine e0 ?_
   refine sxEnd (fun W2 hK => ?_)
   go_wp2
   try go_ret
   show Q0 (.returned (.bool b2)) _
   exact (by obtain rfl := hQ0.out; exact ⟨by rw [hb1.out, hb2.out]; rfl, hK.old⟩)
set_option maxRecDepth 100000 in
set_option maxHeartbeats 4000000 in
theorem rvalid_any (w : World) {v_t : Value} {t : TopD} (ht : TopV w v_t t) (hl : t.links.length ≤ 100000) :
    Calls Tryz.prog 27 #[v_t] w fun e w' => e = .returned (.bool (topOk t)) ∧ Below w.heap.size w w' := by
  have ht_0 := ht
  obtain ⟨p_t, n_t, c_t, q_t, m_t, d_t, rfl, ht_1, ht_2⟩ := ht_0; have b_t : m_t ≤ 100000 := (by rw [ht_2.one0]; exact hl); have a_t : arcsD t ≤ 200000 := (by unfold arcsD; omega)
  have hK := SS.start w
  refine Calls.hide (fun Q0 hQ0 => ?_)
  go_enter Tryz.func27, Tryz.ntmps27
  go_upto_region 0 with (fail)
  refine wp_region_T [3, 0] hK ?_
  clear hK
  refine eA (.cells #[.int .i64 t.nodes, .slice p_t n_t c_t, .slice q_t m_t d_t] 25) (fun R1 => ?_)
  refine e0 ?_
  refine sxEnd (fun W2 hK => ?_)
  go_upto_region 1 with (fail)
  refine wp_region_T [0, 1, 1, 0, 0, 0, 1, 0, 0, 0, 0, 1, 0, 0, 1, 0, 0, 0, 0, 0, 1, 0, 0, 0] hK ?_
  clear hK
  refine e0 ?_
  refine eL m0 ?_
  obtain ⟨b1, hb1⟩ : ∃ b : Bool, RowKit.Hid ((decide (1 ≤ t.nodes) && decide (t.nodes ≤ 64)) = b) := ⟨_, hid rfl⟩
  refine eQ (v := .bool b1) (fun w k => rwithin_any w t.nodes 1 64 ) ?_ (hv := by rw [hb1.out])
  iterate 2 refine e0 ?_
  cases b1
  · --
   iterate 5 refine eN ?_
   iterate 6 refine eU ?_
   refine eN ?_
   iterate 2 refine e0 ?_
   iterate 4 refine eN ?_
   refine e0 ?_
   refine sxEnd (fun W3 hK => ?_)
   go_wp2
   try go_ret
   show Q0 (.returned (.bool false)) _
   exact (by obtain rfl := hQ0.out; exact ⟨congrArg (fun z => Ending.returned (.bool z)) (top_no0 (by have hn1 := ht_1.one0; have hm1 := ht_2.one0; have qb1 := hb1.out; (try simp at qb1); omega)).symm, hK.old⟩)
  · --
   refine e0 ?_
   refine eL m0 ?_
   refine e0 ?_
   refine eB (((n_t : Int)) != 0) (fun b2 hb2 => ?_)
   refine e0 ?_
   cases b2
   · --
    iterate 6 refine eN ?_
    iterate 4 refine e0 ?_
    refine eL m0 ?_
    refine e0 ?_
    refine eB (decide (256 < ((m_t : Int)))) (fun b3 hb3 => ?_)
    refine e0 ?_
    refine sxEnd (fun W4 hK => ?_)
    cases b3
    · --
     have q_b3 : ((m_t : Int)) ≤ 256 := Int.not_lt.1 (of_decide_eq_false hb3.out)
     go_wp2_with fail
     go_loopw [3] (fun s3 wl => ∃ (j : Nat), s3 = .int .i64 (j : Int) ∧ (j ≤ m_t) ∧ RowKit.Hid (∀ k x, k < j → t.links[k]? = some x → lnkOk t.nodes x = true) ∧ SS w ([bx R1 (.cells #[.int .i64 t.nodes, .slice p_t n_t c_t, .slice q_t m_t d_t] 25)]) wl) (fun s3 _ => m_t - (intOf s3).toNat)
     case atStart => exact ⟨0, rfl, (by omega), hid (fun k x hk => absurd hk (Nat.not_lt_zero _)), hK⟩
     case round =>
      clear hK
      obtain ⟨j, rfl, hj0, h_ok, hK⟩ := hrel
      generalize wr = W5 at hK ⊢
      go_upto_region 4 with (fail)
      refine wp_region_T [0, 0, 1, 0, 0] hK ?_
      clear hK
      iterate 2 refine e0 ?_
      refine eL m0 ?_
      refine e0 ?_
      refine eB (decide (((j : Int)) < ((m_t : Int)))) (fun b4 hb4 => ?_)
      refine sxEnd (fun W6 hK => ?_)
      cases b4
      · --
       have q_b4 : ((m_t : Int)) ≤ ((j : Int)) := Int.not_lt.1 (of_decide_eq_false hb4.out)
       go_wp2
       try go_ret
       show Q0 (.returned (.bool true)) _
       exact (by obtain rfl := hQ0.out; exact ⟨congrArg (fun z => Ending.returned (.bool z)) (top_yes (by have hn1 := ht_1.one0; have hm1 := ht_2.one0; have qb1 := hb1.out; (try simp at qb1); have qb2 := hb2.out; (try simp at qb2); have qb3 := hb3.out; (try simp at qb3); have qb4 := hb4.out; (try simp at qb4); omega) fun k x hk => h_ok.out k x (by have hn1 := ht_1.one0; have hm1 := ht_2.one0; have qb1 := hb1.out; (try simp at qb1); have qb2 := hb2.out; (try simp at qb2); have qb3 := hb3.out; (try simp at qb3); have qb4 := hb4.out; (try simp at qb4); omega)).symm, hK.old⟩)
      · --
       have q_b4 : ((j : Int)) < ((m_t : Int)) := of_decide_eq_true hb4.out
       have hj : j < m_t := by omega
       have i7 : j < m_t := hj
       obtain ⟨g7, o7, rfl⟩ := ht_2.pt i7
       have l7 : j < t.links.length := Nat.lt_of_lt_of_eq i7 (ht_2.one0)
       obtain ⟨x, ex⟩ : ∃ x, RowKit.Hid (t.links[j]? = some x) := ⟨_, hid (List.getElem?_eq_getElem l7)⟩
       go_upto_region 6 with (fail)
       refine wp_region_T [0, 1, 0, 0, 0, 3, 4] hK ?_
       clear hK
       refine e0 ?_
       refine eL m0 ?_
       iterate 2 refine e0 ?_
       refine eRm0 (F := fun w => SlV lnkK w (.slice (some ⟨g7, o7, none⟩) m_t d_t) t.links) (fun w k => ht_2.below k.old) (h1 := by intro w' k; have c0 := (k).lnk0 ex.out rfl; have c1 := (k).lnk ex.out 1 rfl; have c2 := (k).lnk ex.out 2 rfl; have c3 := (k).lnk ex.out 3 rfl; have c4 := (k).lnk ex.out 4 rfl; have c5 := (k).lnk ex.out 5 rfl; have c6 := (k).lnk ex.out 6 rfl; go_simp; (try go_bits); exact ⟨rfl, rfl⟩) ?_
       refine eA (.cells #[.int .i64 0, .int .i64 0, .int .i64 0, .int .i64 0, .int .i64 0, .int .i64 0, .int .i64 0] 59) (fun R8 => ?_)
       refine eP 0 0 [.int .i64 x.a, .int .i64 x.b, .int .i64 x.c0, .int .i64 x.c1, .int .i64 x.cap, .int .i64 x.dly, .int .i64 x.grp] ?_
       refine sxEnd (fun W9 hK => ?_)
       go_upto_region 7 with (fail)
       refine wp_region_T [0, 1, 0, 1, 0, 1, 0, 0, 0, 1, 0, 1, 0, 1, 0, 0, 0, 0, 1, 0, 1, 0, 0, 0, 0, 0, 1, 1, 0, 0, 0, 0, 0, 1, 1, 0, 0] hK ?_
       clear hK
       refine e0 ?_
       refine eL m0 ?_
       refine e0 ?_
       refine eL m1 ?_
       refine eV (.int .i64 (t.nodes - 1)) (fun w' => by go_simp; (try go_bits); have qb1 := hb1.out; (try simp at qb1); have qb2 := hb2.out; (try simp at qb2); have qb3 := hb3.out; (try simp at qb3); have qb4 := hb4.out; (try simp at qb4); exact ⟨congrArg (Value.int .i64) (by unfold wrap64; omega), rfl⟩) ?_
       obtain ⟨b5, hb5⟩ : ∃ b : Bool, RowKit.Hid ((decide (0 ≤ x.a) && decide (x.a ≤ (t.nodes - 1))) = b) := ⟨_, hid rfl⟩
       refine eQ (v := .bool b5) (fun w k => rwithin_any w x.a 0 (t.nodes - 1) ) ?_ (hv := by rw [hb5.out])
       iterate 2 refine e0 ?_
       cases b5
       · --
        iterate 7 refine eN ?_
        iterate 2 refine e0 ?_
        iterate 5 refine eN ?_
        iterate 2 refine e0 ?_
        iterate 5 refine eN ?_
        iterate 2 refine e0 ?_
        iterate 5 refine eN ?_
        refine e0 ?_
        refine sxEnd (fun W10 hK => ?_)
        go_wp2
        try go_ret
        show Q0 (.returned (.bool false)) _
        exact (by obtain rfl := hQ0.out; exact ⟨congrArg (fun z => Ending.returned (.bool z)) (top_no ex.out (by unfold lnkOk; rw [decide_eq_false_iff_not]; have qb1 := hb1.out; (try simp at qb1); have qb2 := hb2.out; (try simp at qb2); have qb3 := hb3.out; (try simp at qb3); have qb4 := hb4.out; (try simp at qb4); have qb5 := hb5.out; (try simp at qb5); omega)).symm, hK.old⟩)
       · --
        refine e0 ?_
        refine eL m0 ?_
        refine e0 ?_
        refine eL m1 ?_
        refine eV (.int .i64 (t.nodes - 1)) (fun w' => by go_simp; (try go_bits); have qb1 := hb1.out; (try simp at qb1); have qb2 := hb2.out; (try simp at qb2); have qb3 := hb3.out; (try simp at qb3); have qb4 := hb4.out; (try simp at qb4); have qb5 := hb5.out; (try simp at qb5); exact ⟨congrArg (Value.int .i64) (by unfold wrap64; omega), rfl⟩) ?_
        obtain ⟨b6, hb6⟩ : ∃ b : Bool, RowKit.Hid ((decide (0 ≤ x.b) && decide (x.b ≤ (t.nodes - 1))) = b) := ⟨_, hid rfl⟩
        refine eQ (v := .bool b6) (fun w k => rwithin_any w x.b 0 (t.nodes - 1) ) ?_ (hv := by rw [hb6.out])
        iterate 3 refine e0 ?_
        cases b6
        · --
         iterate 5 refine eN ?_
         iterate 2 refine e0 ?_
         iterate 5 refine eN ?_
         iterate 2 refine e0 ?_
         iterate 5 refine eN ?_
         refine e0 ?_
         refine sxEnd (fun W11 hK => ?_)
         go_wp2
         try go_ret
         show Q0 (.returned (.bool false)) _
         exact (by obtain rfl := hQ0.out; exact ⟨congrArg (fun z => Ending.returned (.bool z)) (top_no ex.out (by unfold lnkOk; rw [decide_eq_false_iff_not]; have qb1 := hb1.out; (try simp at qb1); have qb2 := hb2.out; (try simp at qb2); have qb3 := hb3.out; (try simp at qb3); have qb4 := hb4.out; (try simp at qb4); have qb5 := hb5.out; (try simp at qb5); have qb6 := hb6.out; (try simp at qb6); omega)).symm, hK.old⟩)
        · --
         refine e0 ?_
         refine eL m0 ?_
         refine e0 ?_
         refine eL m0 ?_
         refine eB (x.a == x.b) (fun b7 hb7 => ?_)
         iterate 2 refine e0 ?_
         cases b7
         · --
          iterate 2 refine e0 ?_
          refine eL m0 ?_
          obtain ⟨b8, hb8⟩ : ∃ b : Bool, RowKit.Hid ((decide (1 ≤ x.c0) && decide (x.c0 ≤ 65535)) = b) := ⟨_, hid rfl⟩
          refine eQ (v := .bool b8) (fun w k => rwithin_any w x.c0 1 65535 ) ?_ (hv := by rw [hb8.out])
          iterate 3 refine e0 ?_
          cases b8
          · --
           iterate 5 refine eN ?_
           refine e0 ?_
           refine sxEnd (fun W12 hK => ?_)
           go_wp2
           try go_ret
           show Q0 (.returned (.bool false)) _
           exact (by obtain rfl := hQ0.out; exact ⟨congrArg (fun z => Ending.returned (.bool z)) (top_no ex.out (by unfold lnkOk; rw [decide_eq_false_iff_not]; have qb1 := hb1.out; (try simp at qb1); have qb2 := hb2.out; (try simp at qb2); have qb3 := hb3.out; (try simp at qb3); have qb4 := hb4.out; (try simp at qb4); have qb5 := hb5.out; (try simp at qb5); have qb6 := hb6.out; (try simp at qb6); have qb7 := hb7.out; (try simp at qb7); have qb8 := hb8.out; (try simp at qb8); omega)).symm, hK.old⟩)
          · --
           iterate 2 refine e0 ?_
           refine eL m0 ?_
           obtain ⟨b9, hb9⟩ : ∃ b : Bool, RowKit.Hid ((decide (1 ≤ x.c1) && decide (x.c1 ≤ 65535)) = b) := ⟨_, hid rfl⟩
           refine eQ (v := .bool b9) (fun w k => rwithin_any w x.c1 1 65535 ) ?_ (hv := by rw [hb9.out])
           iterate 2 refine e0 ?_
           refine sxEnd (fun W13 hK => ?_)
           cases b9
           · --
            go_wp2
            try go_ret
            show Q0 (.returned (.bool false)) _
            exact (by obtain rfl := hQ0.out; exact ⟨congrArg (fun z => Ending.returned (.bool z)) (top_no ex.out (by unfold lnkOk; rw [decide_eq_false_iff_not]; have qb1 := hb1.out; (try simp at qb1); have qb2 := hb2.out; (try simp at qb2); have qb3 := hb3.out; (try simp at qb3); have qb4 := hb4.out; (try simp at qb4); have qb5 := hb5.out; (try simp at qb5); have qb6 := hb6.out; (try simp at qb6); have qb7 := hb7.out; (try simp at qb7); have qb8 := hb8.out; (try simp at qb8); have qb9 := hb9.out; (try simp at qb9); omega)).symm, hK.old⟩)
           · --
            go_upto_region 9 with (fail)
            refine wp_region_T [0, 1, 1, 0, 0, 0, 1, 1, 0, 0, 0, 0, 1, 1, 0, 0] hK ?_
            clear hK
            refine e0 ?_
            refine eL m0 ?_
            obtain ⟨b10, hb10⟩ : ∃ b : Bool, RowKit.Hid ((decide (0 ≤ x.cap) && decide (x.cap ≤ 1048576)) = b) := ⟨_, hid rfl⟩
            refine eQ (v := .bool b10) (fun w k => rwithin_any w x.cap 0 1048576 ) ?_ (hv := by rw [hb10.out])
            iterate 2 refine e0 ?_
            cases b10
            · --
             iterate 4 refine eN ?_
             iterate 2 refine e0 ?_
             iterate 4 refine eN ?_
             refine e0 ?_
             refine sxEnd (fun W14 hK => ?_)
             go_wp2
             try go_ret
             show Q0 (.returned (.bool false)) _
             exact (by obtain rfl := hQ0.out; exact ⟨congrArg (fun z => Ending.returned (.bool z)) (top_no ex.out (by unfold lnkOk; rw [decide_eq_false_iff_not]; have qb1 := hb1.out; (try simp at qb1); have qb2 := hb2.out; (try simp at qb2); have qb3 := hb3.out; (try simp at qb3); have qb4 := hb4.out; (try simp at qb4); have qb5 := hb5.out; (try simp at qb5); have qb6 := hb6.out; (try simp at qb6); have qb7 := hb7.out; (try simp at qb7); have qb8 := hb8.out; (try simp at qb8); have qb9 := hb9.out; (try simp at qb9); have qb10 := hb10.out; (try simp at qb10); omega)).symm, hK.old⟩)
            · --
             refine e0 ?_
             refine eL m0 ?_
             obtain ⟨b11, hb11⟩ : ∃ b : Bool, RowKit.Hid ((decide (1 ≤ x.dly) && decide (x.dly ≤ 65536)) = b) := ⟨_, hid rfl⟩
             refine eQ (v := .bool b11) (fun w k => rwithin_any w x.dly 1 65536 ) ?_ (hv := by rw [hb11.out])
             iterate 3 refine e0 ?_
             cases b11
             · --
              iterate 4 refine eN ?_
              refine e0 ?_
              refine sxEnd (fun W15 hK => ?_)
              go_wp2
              try go_ret
              show Q0 (.returned (.bool false)) _
              exact (by obtain rfl := hQ0.out; exact ⟨congrArg (fun z => Ending.returned (.bool z)) (top_no ex.out (by unfold lnkOk; rw [decide_eq_false_iff_not]; have qb1 := hb1.out; (try simp at qb1); have qb2 := hb2.out; (try simp at qb2); have qb3 := hb3.out; (try simp at qb3); have qb4 := hb4.out; (try simp at qb4); have qb5 := hb5.out; (try simp at qb5); have qb6 := hb6.out; (try simp at qb6); have qb7 := hb7.out; (try simp at qb7); have qb8 := hb8.out; (try simp at qb8); have qb9 := hb9.out; (try simp at qb9); have qb10 := hb10.out; (try simp at qb10); have qb11 := hb11.out; (try simp at qb11); omega)).symm, hK.old⟩)
             · --
              refine e0 ?_
              refine eL m0 ?_
              obtain ⟨b12, hb12⟩ : ∃ b : Bool, RowKit.Hid ((decide (0 ≤ x.grp) && decide (x.grp ≤ 64)) = b) := ⟨_, hid rfl⟩
              refine eQ (v := .bool b12) (fun w k => rwithin_any w x.grp 0 64 ) ?_ (hv := by rw [hb12.out])
              iterate 2 refine e0 ?_
              refine sxEnd (fun W16 hK => ?_)
              cases b12
              · --
               go_wp2
               try go_ret
               show Q0 (.returned (.bool false)) _
               exact (by obtain rfl := hQ0.out; exact ⟨congrArg (fun z => Ending.returned (.bool z)) (top_no ex.out (by unfold lnkOk; rw [decide_eq_false_iff_not]; have qb1 := hb1.out; (try simp at qb1); have qb2 := hb2.out; (try simp at qb2); have qb3 := hb3.out; (try simp at qb3); have qb4 := hb4.out; (try simp at qb4); have qb5 := hb5.out; (try simp at qb5); have qb6 := hb6.out; (try simp at qb6); have qb7 := hb7.out; (try simp at qb7); have qb8 := hb8.out; (try simp at qb8); have qb9 := hb9.out; (try simp at qb9); have qb10 := hb10.out; (try simp at qb10); have qb11 := hb11.out; (try simp at qb11); have qb12 := hb12.out; (try simp at qb12); omega)).symm, hK.old⟩)
              · --
               (try go_wp2)
               go_roundw
               case rel => exact ⟨j + 1, (by first | rfl | go_num), (by omega), hid fun k y hk e => by
   rcases Nat.lt_succ_iff_lt_or_eq.1 hk with hk | rfl
   · exact h_ok.out k y hk e
   · have e0 := ex.out; rw [e0] at e; obtain rfl := Option.some.inj e; unfold lnkOk; rw [decide_eq_true_iff]; have qb1 := hb1.out; (try simp at qb1); have qb2 := hb2.out; (try simp at qb2); have qb3 := hb3.out; (try simp at qb3); have qb4 := hb4.out; (try simp at qb4); have qb5 := hb5.out; (try simp at qb5); have qb6 := hb6.out; (try simp at qb6); have qb7 := hb7.out; (try simp at qb7); have qb8 := hb8.out; (try simp at qb8); have qb9 := hb9.out; (try simp at qb9); have qb10 := hb10.out; (try simp at qb10); have qb11 := hb11.out; (try simp at qb11); have qb12 := hb12.out; (try simp at qb12); omega, (hK.subl (sC2 (List.Sublist.refl _)))⟩
               case measure => simp [intOf] <;> omega
         · --
          iterate 5 refine eN ?_
          iterate 2 refine e0 ?_
          iterate 5 refine eN ?_
          refine e0 ?_
          refine sxEnd (fun W17 hK => ?_)
          go_wp2
          try go_ret
          show Q0 (.returned (.bool false)) _
          exact (by obtain rfl := hQ0.out; exact ⟨congrArg (fun z => Ending.returned (.bool z)) (top_no ex.out (by unfold lnkOk; rw [decide_eq_false_iff_not]; have qb1 := hb1.out; (try simp at qb1); have qb2 := hb2.out; (try simp at qb2); have qb3 := hb3.out; (try simp at qb3); have qb4 := hb4.out; (try simp at qb4); have qb5 := hb5.out; (try simp at qb5); have qb6 := hb6.out; (try simp at qb6); have qb7 := hb7.out; (try simp at qb7); omega)).symm, hK.old⟩)
    · --
     have q_b3 : 256 < ((m_t : Int)) := of_decide_eq_true hb3.out
     go_wp2
     try go_ret
     show Q0 (.returned (.bool false)) _
     exact (by obtain rfl := hQ0.out; exact ⟨congrArg (fun z => Ending.returned (.bool z)) (top_no0 (by have hn1 := ht_1.one0; have hm1 := ht_2.one0; have qb1 := hb1.out; (try simp at qb1); have qb2 := hb2.out; (try simp at qb2); have qb3 := hb3.out; (try simp at qb3); omega)).symm, hK.old⟩)
   · --
    refine e0 ?_
    refine eL m0 ?_
    iterate 2 refine e0 ?_
    refine eL m0 ?_
    refine eB (((n_t : Int)) != t.nodes) (fun b3 hb3 => ?_)
    iterate 3 refine e0 ?_
    cases b3
    · --
     refine e0 ?_
     refine eL m0 ?_
     refine e0 ?_
     refine eB (decide (256 < ((m_t : Int)))) (fun b4 hb4 => ?_)
     refine e0 ?_
     refine sxEnd (fun W18 hK => ?_)
     cases b4
     · --
      have q_b4 : ((m_t : Int)) ≤ 256 := Int.not_lt.1 (of_decide_eq_false hb4.out)
      go_wp2_with fail
      go_loopw [3] (fun s3 wl => ∃ (j : Nat), s3 = .int .i64 (j : Int) ∧ (j ≤ m_t) ∧ RowKit.Hid (∀ k x, k < j → t.links[k]? = some x → lnkOk t.nodes x = true) ∧ SS w ([bx R1 (.cells #[.int .i64 t.nodes, .slice p_t n_t c_t, .slice q_t m_t d_t] 25)]) wl) (fun s3 _ => m_t - (intOf s3).toNat)
      case atStart => exact ⟨0, rfl, (by omega), hid (fun k x hk => absurd hk (Nat.not_lt_zero _)), hK⟩
      case round =>
       clear hK
       obtain ⟨j, rfl, hj0, h_ok, hK⟩ := hrel
       generalize wr = W19 at hK ⊢
       go_upto_region 4 with (fail)
       refine wp_region_T [0, 0, 1, 0, 0] hK ?_
       clear hK
       iterate 2 refine e0 ?_
       refine eL m0 ?_
       refine e0 ?_
       refine eB (decide (((j : Int)) < ((m_t : Int)))) (fun b5 hb5 => ?_)
       refine sxEnd (fun W20 hK => ?_)
       cases b5
       · --
        have q_b5 : ((m_t : Int)) ≤ ((j : Int)) := Int.not_lt.1 (of_decide_eq_false hb5.out)
        go_wp2
        try go_ret
        show Q0 (.returned (.bool true)) _
        exact (by obtain rfl := hQ0.out; exact ⟨congrArg (fun z => Ending.returned (.bool z)) (top_yes (by have hn1 := ht_1.one0; have hm1 := ht_2.one0; have qb1 := hb1.out; (try simp at qb1); have qb2 := hb2.out; (try simp at qb2); have qb3 := hb3.out; (try simp at qb3); have qb4 := hb4.out; (try simp at qb4); have qb5 := hb5.out; (try simp at qb5); omega) fun k x hk => h_ok.out k x (by have hn1 := ht_1.one0; have hm1 := ht_2.one0; have qb1 := hb1.out; (try simp at qb1); have qb2 := hb2.out; (try simp at qb2); have qb3 := hb3.out; (try simp at qb3); have qb4 := hb4.out; (try simp at qb4); have qb5 := hb5.out; (try simp at qb5); omega)).symm, hK.old⟩)
       · --
        have q_b5 : ((j : Int)) < ((m_t : Int)) := of_decide_eq_true hb5.out
        have hj : j < m_t := by omega
        have i21 : j < m_t := hj
        obtain ⟨g21, o21, rfl⟩ := ht_2.pt i21
        have l21 : j < t.links.length := Nat.lt_of_lt_of_eq i21 (ht_2.one0)
        obtain ⟨x, ex⟩ : ∃ x, RowKit.Hid (t.links[j]? = some x) := ⟨_, hid (List.getElem?_eq_getElem l21)⟩
        go_upto_region 6 with (fail)
        refine wp_region_T [0, 1, 0, 0, 0, 3, 4] hK ?_
        clear hK
        refine e0 ?_
        refine eL m0 ?_
        iterate 2 refine e0 ?_
        refine eRm0 (F := fun w => SlV lnkK w (.slice (some ⟨g21, o21, none⟩) m_t d_t) t.links) (fun w k => ht_2.below k.old) (h1 := by intro w' k; have c0 := (k).lnk0 ex.out rfl; have c1 := (k).lnk ex.out 1 rfl; have c2 := (k).lnk ex.out 2 rfl; have c3 := (k).lnk ex.out 3 rfl; have c4 := (k).lnk ex.out 4 rfl; have c5 := (k).lnk ex.out 5 rfl; have c6 := (k).lnk ex.out 6 rfl; go_simp; (try go_bits); exact ⟨rfl, rfl⟩) ?_
        refine eA (.cells #[.int .i64 0, .int .i64 0, .int .i64 0, .int .i64 0, .int .i64 0, .int .i64 0, .int .i64 0] 59) (fun R22 => ?_)
        refine eP 0 0 [.int .i64 x.a, .int .i64 x.b, .int .i64 x.c0, .int .i64 x.c1, .int .i64 x.cap, .int .i64 x.dly, .int .i64 x.grp] ?_
        refine sxEnd (fun W23 hK => ?_)
        go_upto_region 7 with (fail)
        refine wp_region_T [0, 1, 0, 1, 0, 1, 0, 0, 0, 1, 0, 1, 0, 1, 0, 0, 0, 0, 1, 0, 1, 0, 0, 0, 0, 0, 1, 1, 0, 0, 0, 0, 0, 1, 1, 0, 0] hK ?_
        clear hK
        refine e0 ?_
        refine eL m0 ?_
        refine e0 ?_
        refine eL m1 ?_
        refine eV (.int .i64 (t.nodes - 1)) (fun w' => by go_simp; (try go_bits); have qb1 := hb1.out; (try simp at qb1); have qb2 := hb2.out; (try simp at qb2); have qb3 := hb3.out; (try simp at qb3); have qb4 := hb4.out; (try simp at qb4); have qb5 := hb5.out; (try simp at qb5); exact ⟨congrArg (Value.int .i64) (by unfold wrap64; omega), rfl⟩) ?_
        obtain ⟨b6, hb6⟩ : ∃ b : Bool, RowKit.Hid ((decide (0 ≤ x.a) && decide (x.a ≤ (t.nodes - 1))) = b) := ⟨_, hid rfl⟩
        refine eQ (v := .bool b6) (fun w k => rwithin_any w x.a 0 (t.nodes - 1) ) ?_ (hv := by rw [hb6.out])
        iterate 2 refine e0 ?_
        cases b6
        · --
         iterate 7 refine eN ?_
         iterate 2 refine e0 ?_
         iterate 5 refine eN ?_
         iterate 2 refine e0 ?_
         iterate 5 refine eN ?_
         iterate 2 refine e0 ?_
         iterate 5 refine eN ?_
         refine e0 ?_
         refine sxEnd (fun W24 hK => ?_)
         go_wp2
         try go_ret
         show Q0 (.returned (.bool false)) _
         exact (by obtain rfl := hQ0.out; exact ⟨congrArg (fun z => Ending.returned (.bool z)) (top_no ex.out (by unfold lnkOk; rw [decide_eq_false_iff_not]; have qb1 := hb1.out; (try simp at qb1); have qb2 := hb2.out; (try simp at qb2); have qb3 := hb3.out; (try simp at qb3); have qb4 := hb4.out; (try simp at qb4); have qb5 := hb5.out; (try simp at qb5); have qb6 := hb6.out; (try simp at qb6); omega)).symm, hK.old⟩)
        · --
         refine e0 ?_
         refine eL m0 ?_
         refine e0 ?_
         refine eL m1 ?_
         refine eV (.int .i64 (t.nodes - 1)) (fun w' => by go_simp; (try go_bits); have qb1 := hb1.out; (try simp at qb1); have qb2 := hb2.out; (try simp at qb2); have qb3 := hb3.out; (try simp at qb3); have qb4 := hb4.out; (try simp at qb4); have qb5 := hb5.out; (try simp at qb5); have qb6 := hb6.out; (try simp at qb6); exact ⟨congrArg (Value.int .i64) (by unfold wrap64; omega), rfl⟩) ?_
         obtain ⟨b7, hb7⟩ : ∃ b : Bool, RowKit.Hid ((decide (0 ≤ x.b) && decide (x.b ≤ (t.nodes - 1))) = b) := ⟨_, hid rfl⟩
         refine eQ (v := .bool b7) (fun w k => rwithin_any w x.b 0 (t.nodes - 1) ) ?_ (hv := by rw [hb7.out])
         iterate 3 refine e0 ?_
         cases b7
         · --
          iterate 5 refine eN ?_
          iterate 2 refine e0 ?_
          iterate 5 refine eN ?_
          iterate 2 refine e0 ?_
          iterate 5 refine eN ?_
          refine e0 ?_
          refine sxEnd (fun W25 hK => ?_)
          go_wp2
          try go_ret
          show Q0 (.returned (.bool false)) _
          exact (by obtain rfl := hQ0.out; exact ⟨congrArg (fun z => Ending.returned (.bool z)) (top_no ex.out (by unfold lnkOk; rw [decide_eq_false_iff_not]; have qb1 := hb1.out; (try simp at qb1); have qb2 := hb2.out; (try simp at qb2); have qb3 := hb3.out; (try simp at qb3); have qb4 := hb4.out; (try simp at qb4); have qb5 := hb5.out; (try simp at qb5); have qb6 := hb6.out; (try simp at qb6); have qb7 := hb7.out; (try simp at qb7); omega)).symm, hK.old⟩)
         · --
          refine e0 ?_
          refine eL m0 ?_
          refine e0 ?_
          refine eL m0 ?_
          refine eB (x.a == x.b) (fun b8 hb8 => ?_)
          iterate 2 refine e0 ?_
          cases b8
          · --
           iterate 2 refine e0 ?_
           refine eL m0 ?_
           obtain ⟨b9, hb9⟩ : ∃ b : Bool, RowKit.Hid ((decide (1 ≤ x.c0) && decide (x.c0 ≤ 65535)) = b) := ⟨_, hid rfl⟩
           refine eQ (v := .bool b9) (fun w k => rwithin_any w x.c0 1 65535 ) ?_ (hv := by rw [hb9.out])
           iterate 3 refine e0 ?_
           cases b9
           · --
            iterate 5 refine eN ?_
            refine e0 ?_
            refine sxEnd (fun W26 hK => ?_)
            go_wp2
            try go_ret
            show Q0 (.returned (.bool false)) _
            exact (by obtain rfl := hQ0.out; exact ⟨congrArg (fun z => Ending.returned (.bool z)) (top_no ex.out (by unfold lnkOk; rw [decide_eq_false_iff_not]; have qb1 := hb1.out; (try simp at qb1); have qb2 := hb2.out; (try simp at qb2); have qb3 := hb3.out; (try simp at qb3); have qb4 := hb4.out; (try simp at qb4); have qb5 := hb5.out; (try simp at qb5); have qb6 := hb6.out; (try simp at qb6); have qb7 := hb7.out; (try simp at qb7); have qb8 := hb8.out; (try simp at qb8); have qb9 := hb9.out; (try simp at qb9); omega)).symm, hK.old⟩)
           · --
            iterate 2 refine e0 ?_
            refine eL m0 ?_
            obtain ⟨b10, hb10⟩ : ∃ b : Bool, RowKit.Hid ((decide (1 ≤ x.c1) && decide (x.c1 ≤ 65535)) = b) := ⟨_, hid rfl⟩
            refine eQ (v := .bool b10) (fun w k => rwithin_any w x.c1 1 65535 ) ?_ (hv := by rw [hb10.out])
            iterate 2 refine e0 ?_
            refine sxEnd (fun W27 hK => ?_)
            cases b10
            · --
             go_wp2
             try go_ret
             show Q0 (.returned (.bool false)) _
             exact (by obtain rfl := hQ0.out; exact ⟨congrArg (fun z => Ending.returned (.bool z)) (top_no ex.out (by unfold lnkOk; rw [decide_eq_false_iff_not]; have qb1 := hb1.out; (try simp at qb1); have qb2 := hb2.out; (try simp at qb2); have qb3 := hb3.out; (try simp at qb3); have qb4 := hb4.out; (try simp at qb4); have qb5 := hb5.out; (try simp at qb5); have qb6 := hb6.out; (try simp at qb6); have qb7 := hb7.out; (try simp at qb7); have qb8 := hb8.out; (try simp at qb8); have qb9 := hb9.out; (try simp at qb9); have qb10 := hb10.out; (try simp at qb10); omega)).symm, hK.old⟩)
            · --
             go_upto_region 9 with (fail)
             refine wp_region_T [0, 1, 1, 0, 0, 0, 1, 1, 0, 0, 0, 0, 1, 1, 0, 0] hK ?_
             clear hK
             refine e0 ?_
             refine eL m0 ?_
             obtain ⟨b11, hb11⟩ : ∃ b : Bool, RowKit.Hid ((decide (0 ≤ x.cap) && decide (x.cap ≤ 1048576)) = b) := ⟨_, hid rfl⟩
             refine eQ (v := .bool b11) (fun w k => rwithin_any w x.cap 0 1048576 ) ?_ (hv := by rw [hb11.out])
             iterate 2 refine e0 ?_
             cases b11
             · --
              iterate 4 refine eN ?_
              iterate 2 refine e0 ?_
              iterate 4 refine eN ?_
              refine e0 ?_
              refine sxEnd (fun W28 hK => ?_)
              go_wp2
              try go_ret
              show Q0 (.returned (.bool false)) _
              exact (by obtain rfl := hQ0.out; exact ⟨congrArg (fun z => Ending.returned (.bool z)) (top_no ex.out (by unfold lnkOk; rw [decide_eq_false_iff_not]; have qb1 := hb1.out; (try simp at qb1); have qb2 := hb2.out; (try simp at qb2); have qb3 := hb3.out; (try simp at qb3); have qb4 := hb4.out; (try simp at qb4); have qb5 := hb5.out; (try simp at qb5); have qb6 := hb6.out; (try simp at qb6); have qb7 := hb7.out; (try simp at qb7); have qb8 := hb8.out; (try simp at qb8); have qb9 := hb9.out; (try simp at qb9); have qb10 := hb10.out; (try simp at qb10); have qb11 := hb11.out; (try simp at qb11); omega)).symm, hK.old⟩)
             · --
              refine e0 ?_
              refine eL m0 ?_
              obtain ⟨b12, hb12⟩ : ∃ b : Bool, RowKit.Hid ((decide (1 ≤ x.dly) && decide (x.dly ≤ 65536)) = b) := ⟨_, hid rfl⟩
              refine eQ (v := .bool b12) (fun w k => rwithin_any w x.dly 1 65536 ) ?_ (hv := by rw [hb12.out])
              iterate 3 refine e0 ?_
              cases b12
              · --
               iterate 4 refine eN ?_
               refine e0 ?_
               refine sxEnd (fun W29 hK => ?_)
               go_wp2
               try go_ret
               show Q0 (.returned (.bool false)) _
               exact (by obtain rfl := hQ0.out; exact ⟨congrArg (fun z => Ending.returned (.bool z)) (top_no ex.out (by unfold lnkOk; rw [decide_eq_false_iff_not]; have qb1 := hb1.out; (try simp at qb1); have qb2 := hb2.out; (try simp at qb2); have qb3 := hb3.out; (try simp at qb3); have qb4 := hb4.out; (try simp at qb4); have qb5 := hb5.out; (try simp at qb5); have qb6 := hb6.out; (try simp at qb6); have qb7 := hb7.out; (try simp at qb7); have qb8 := hb8.out; (try simp at qb8); have qb9 := hb9.out; (try simp at qb9); have qb10 := hb10.out; (try simp at qb10); have qb11 := hb11.out; (try simp at qb11); have qb12 := hb12.out; (try simp at qb12); omega)).symm, hK.old⟩)
              · --
               refine e0 ?_
               refine eL m0 ?_
               obtain ⟨b13, hb13⟩ : ∃ b : Bool, RowKit.Hid ((decide (0 ≤ x.grp) && decide (x.grp ≤ 64)) = b) := ⟨_, hid rfl⟩
               refine eQ (v := .bool b13) (fun w k => rwithin_any w x.grp 0 64 ) ?_ (hv := by rw [hb13.out])
               iterate 2 refine e0 ?_
               refine sxEnd (fun W30 hK => ?_)
               cases b13
               · --
                go_wp2
                try go_ret
                show Q0 (.returned (.bool false)) _
                exact (by obtain rfl := hQ0.out; exact ⟨congrArg (fun z => Ending.returned (.bool z)) (top_no ex.out (by unfold lnkOk; rw [decide_eq_false_iff_not]; have qb1 := hb1.out; (try simp at qb1); have qb2 := hb2.out; (try simp at qb2); have qb3 := hb3.out; (try simp at qb3); have qb4 := hb4.out; (try simp at qb4); have qb5 := hb5.out; (try simp at qb5); have qb6 := hb6.out; (try simp at qb6); have qb7 := hb7.out; (try simp at qb7); have qb8 := hb8.out; (try simp at qb8); have qb9 := hb9.out; (try simp at qb9); have qb10 := hb10.out; (try simp at qb10); have qb11 := hb11.out; (try simp at qb11); have qb12 := hb12.out; (try simp at qb12); have qb13 := hb13.out; (try simp at qb13); omega)).symm, hK.old⟩)
               · --
                (try go_wp2)
                go_roundw
                case rel => exact ⟨j + 1, (by first | rfl | go_num), (by omega), hid fun k y hk e => by
   rcases Nat.lt_succ_iff_lt_or_eq.1 hk with hk | rfl
   · exact h_ok.out k y hk e
   · have e0 := ex.out; rw [e0] at e; obtain rfl := Option.some.inj e; unfold lnkOk; rw [decide_eq_true_iff]; have qb1 := hb1.out; (try simp at qb1); have qb2 := hb2.out; (try simp at qb2); have qb3 := hb3.out; (try simp at qb3); have qb4 := hb4.out; (try simp at qb4); have qb5 := hb5.out; (try simp at qb5); have qb6 := hb6.out; (try simp at qb6); have qb7 := hb7.out; (try simp at qb7); have qb8 := hb8.out; (try simp at qb8); have qb9 := hb9.out; (try simp at qb9); have qb10 := hb10.out; (try simp at qb10); have qb11 := hb11.out; (try simp at qb11); have qb12 := hb12.out; (try simp at qb12); have qb13 := hb13.out; (try simp at qb13); omega, (hK.subl (sC2 (List.Sublist.refl _)))⟩
                case measure => simp [intOf] <;> omega
          · --
           iterate 5 refine eN ?_
           iterate 2 refine e0 ?_
           iterate 5 refine eN ?_
           refine e0 ?_
           refine sxEnd (fun W31 hK => ?_)
           go_wp2
           try go_ret
           show Q0 (.returned (.bool false)) _
           exact (by obtain rfl := hQ0.out; exact ⟨congrArg (fun z => Ending.returned (.bool z)) (top_no ex.out (by unfold lnkOk; rw [decide_eq_false_iff_not]; have qb1 := hb1.out; (try simp at qb1); have qb2 := hb2.out; (try simp at qb2); have qb3 := hb3.out; (try simp at qb3); have qb4 := hb4.out; (try simp at qb4); have qb5 := hb5.out; (try simp at qb5); have qb6 := hb6.out; (try simp at qb6); have qb7 := hb7.out; (try simp at qb7); have qb8 := hb8.out; (try simp at qb8); omega)).symm, hK.old⟩)
     · --
      have q_b4 : 256 < ((m_t : Int)) := of_decide_eq_true hb4.out
      go_wp2
      try go_ret
      show Q0 (.returned (.bool false)) _
      exact (by obtain rfl := hQ0.out; exact ⟨congrArg (fun z => Ending.returned (.bool z)) (top_no0 (by have hn1 := ht_1.one0; have hm1 := ht_2.one0; have qb1 := hb1.out; (try simp at qb1); have qb2 := hb2.out; (try simp at qb2); have qb3 := hb3.out; (try simp at qb3); have qb4 := hb4.out; (try simp at qb4); omega)).symm, hK.old⟩)
    · --
     iterate 4 refine eN ?_
     refine e0 ?_
     refine sxEnd (fun W32 hK => ?_)
     go_wp2
     try go_ret
     show Q0 (.returned (.bool false)) _
     exact (by obtain rfl := hQ0.out; exact ⟨congrArg (fun z => Ending.returned (.bool z)) (top_no0 (by have hn1 := ht_1.one0; have hm1 := ht_2.one0; have qb1 := hb1.out; (try simp at qb1); have qb2 := hb2.out; (try simp at qb2); have qb3 := hb3.out; (try simp at qb3); omega)).symm, hK.old⟩)
theorem rvalidT_any (w : World) {v_t : Value} {t : TopD} (ht : TopV w v_t t) (hl : t.links.length ≤ 100000) (ht2 : topOk t = true) : Calls Tryz.prog 27 #[v_t] w fun e w' => e = .returned (.bool true) ∧ Below w.heap.size w w' := by
  rw [← ht2]; exact rvalid_any w ht hl
set_option maxRecDepth 100000 in
theorem rarcs_any (w : World) {v_t : Value} {t : TopD} (ht : TopV w v_t t) (hl : t.links.length ≤ 100000) (ht2 : topOk t = true) :
    Calls Tryz.prog 67 #[v_t] w fun e w' => e = .returned (.int .i64 ((arcsD t : Nat) : Int)) ∧ Below w.heap.size w w' := by
  have ht_0 := ht
  obtain ⟨p_t, n_t, c_t, q_t, m_t, d_t, rfl, ht_1, ht_2⟩ := ht_0; have b_t : m_t ≤ 100000 := (by rw [ht_2.one0]; exact hl); have a_t : arcsD t ≤ 200000 := (by unfold arcsD; omega)
  have hK := SS.start w
  refine Calls.hide (fun Q0 hQ0 => ?_)
  go_enter Tryz.func67, Tryz.ntmps67
  go_upto_region 0 with (fail)
  refine wp_region_T [3, 0] hK ?_
  clear hK
  refine eA (.cells #[.int .i64 t.nodes, .slice p_t n_t c_t, .slice q_t m_t d_t] 25) (fun R1 => ?_)
  refine e0 ?_
  refine sxEnd (fun W2 hK => ?_)
  go_upto_region 1 with (fail)
  refine wp_region_T [1, 1, 0] hK ?_
  clear hK
  refine eL m0 ?_
  refine eQ (fun w k => rvalidT_any w (ht.below k.old) hl ht2) ?_
  refine e0 ?_
  refine sxEnd (fun W3 hK => ?_)
  go_upto_region 3 with (fail)
  refine wp_region_T [0, 1, 0, 0, 0] hK ?_
  clear hK
  refine e0 ?_
  refine eL m0 ?_
  iterate 3 refine e0 ?_
  refine sxEnd (fun W4 hK => ?_)
  go_wp2
  try go_ret
  exact (by obtain rfl := hQ0.out; exact ⟨congrArg (fun z => Ending.returned (.int .i64 z)) (by unfold arcsD; have := ht_2.one0; omega), hK.old⟩)
set_option maxRecDepth 100000 in
theorem rover_any (w : World) {v_t : Value} {t : TopD} (ht : TopV w v_t t) (n : Nat) (hl : t.links.length ≤ 100000) (ht2 : topOk t = true) :
    Calls Tryz.prog 29 #[v_t, .int .i64 (n : Int)] w fun e w' => e = .returned (.bool (ovD t n)) ∧ Below w.heap.size w w' := by
  have ht_0 := ht
  obtain ⟨p_t, n_t, c_t, q_t, m_t, d_t, rfl, ht_1, ht_2⟩ := ht_0; have b_t : m_t ≤ 100000 := (by rw [ht_2.one0]; exact hl); have a_t : arcsD t ≤ 200000 := (by unfold arcsD; omega)
  have hK := SS.start w
  refine Calls.hide (fun Q0 hQ0 => ?_)
  go_enter Tryz.func29, Tryz.ntmps29
  go_upto_region 0 with (fail)
  refine wp_region_T [3, 0] hK ?_
  clear hK
  refine eA (.cells #[.int .i64 t.nodes, .slice p_t n_t c_t, .slice q_t m_t d_t] 25) (fun R1 => ?_)
  refine e0 ?_
  refine sxEnd (fun W2 hK => ?_)
  go_upto_region 1 with (fail)
  refine wp_region_T [1, 1, 0, 0, 0, 0, 0, 0, 0, 1, 0, 0, 0, 0, 0, 1, 0, 0, 0, 0, 0] hK ?_
  clear hK
  refine eL m0 ?_
  refine eQ (fun w k => rvalidT_any w (ht.below k.old) hl ht2) ?_
  iterate 2 refine e0 ?_
  refine eV (.bool true) (fun w' => by go_simp; (try go_bits); first | exact ⟨rfl, rfl⟩ | exact ⟨congrArg Value.bool (decide_eq_true (by omega)), rfl⟩) ?_
  iterate 4 refine e0 ?_
  refine eL m0 ?_
  refine e0 ?_
  refine eB (decide (((n : Int)) < ((n_t : Int)))) (fun b1 hb1 => ?_)
  iterate 2 refine e0 ?_
  cases b1
  · --
   have q_b1 : ((n_t : Int)) ≤ ((n : Int)) := Int.not_lt.1 (of_decide_eq_false hb1.out)
   iterate 5 refine eN ?_
   iterate 2 refine e0 ?_
   refine sxEnd (fun W3 hK => ?_)
   go_wp2
   try go_ret
   show Q0 (.returned (.bool false)) _
   exact (by obtain rfl := hQ0.out; exact ⟨congrArg (fun z => Ending.returned (.bool z)) (by unfold ovD; rw [List.getD_eq_getElem?_getD, List.getElem?_eq_none (by have := ht_1.one0; omega)]; rfl), hK.old⟩)
  · --
   have q_b1 : ((n : Int)) < ((n_t : Int)) := of_decide_eq_true hb1.out
   have i4 : n < n_t := (by omega)
   obtain ⟨g4, o4, rfl⟩ := ht_1.pt i4
   have l4 : n < t.over.length := Nat.lt_of_lt_of_eq i4 (ht_1.one0)
   obtain ⟨x, ex⟩ : ∃ x, RowKit.Hid (t.over[n]? = some x) := ⟨_, hid (List.getElem?_eq_getElem l4)⟩
   refine e0 ?_
   refine eL m0 ?_
   iterate 2 refine e0 ?_
   refine eR0 (fun w k => (ht_1.below k.old).bool ex.out) ?_
   iterate 2 refine e0 ?_
   refine sxEnd (fun W5 hK => ?_)
   go_wp2
   try go_ret
   show Q0 (.returned (.bool x)) _
   exact (by obtain rfl := hQ0.out; exact ⟨by rw [over_at ex.out], hK.old⟩)
set_option maxRecDepth 100000 in
theorem rtail_any (w : World) {v_t : Value} {t : TopD} (ht : TopV w v_t t) (a : Nat) (hl : t.links.length ≤ 100000) (ht2 : topOk t = true) (ha : a < arcsD t) :
    Calls Tryz.prog 38 #[v_t, .int .i64 (a : Int)] w fun e w' => e = .returned (.int .i64 ((tN t a : Nat) : Int)) ∧ Below w.heap.size w w' := by
  have ht_0 := ht
  obtain ⟨p_t, n_t, c_t, q_t, m_t, d_t, rfl, ht_1, ht_2⟩ := ht_0; have b_t : m_t ≤ 100000 := (by rw [ht_2.one0]; exact hl); have a_t : arcsD t ≤ 200000 := (by unfold arcsD; omega)
  have hK := SS.start w
  refine Calls.hide (fun Q0 hQ0 => ?_)
  go_enter Tryz.func38, Tryz.ntmps38
  go_upto_region 0 with (fail)
  refine wp_region_T [3, 0] hK ?_
  clear hK
  refine eA (.cells #[.int .i64 t.nodes, .slice p_t n_t c_t, .slice q_t m_t d_t] 25) (fun R1 => ?_)
  refine e0 ?_
  refine sxEnd (fun W2 hK => ?_)
  go_upto_region 1 with (fail)
  refine wp_region_T [0, 0, 0, 0, 1, 1, 0, 0, 0] hK ?_
  clear hK
  refine e0 ?_
  refine eV (.bool false) (fun w' => by go_simp; (try go_bits); first | exact ⟨rfl, rfl⟩ | exact ⟨congrArg Value.bool (decide_eq_false (by omega)), rfl⟩) ?_
  iterate 2 refine e0 ?_
  refine eL m0 ?_
  refine eQ (fun w k => rarcs_any w (ht.below k.old) hl ht2) ?_
  refine eV (.bool false) (fun w' => by go_simp; (try go_bits); first | exact ⟨rfl, rfl⟩ | exact ⟨congrArg Value.bool (decide_eq_false (by omega)), rfl⟩) ?_
  iterate 2 refine e0 ?_
  refine sxEnd (fun W3 hK => ?_)
  go_upto_region 3 with (fail)
  refine wp_region_T [0, 0, 0, 0] hK ?_
  clear hK
  refine e0 ?_
  refine eV (.int .i64 ((a % 2 : Nat) : Int)) (fun w' => by go_simp; (try go_bits); exact ⟨congrArg (Value.int .i64) (by omega), rfl⟩) ?_
  refine eB ((((a % 2 : Nat) : Int)) == 0) (fun b1 hb1 => ?_)
  refine e0 ?_
  refine sxEnd (fun W4 hK => ?_)
  cases b1
  · --
   have i5 : a / 2 < m_t := (by have := ht_2.one0; unfold arcsD at ha; omega)
   obtain ⟨g5, o5, rfl⟩ := ht_2.pt i5
   have l5 : a / 2 < t.links.length := Nat.lt_of_lt_of_eq i5 (ht_2.one0)
   obtain ⟨x, ex⟩ : ∃ x, RowKit.Hid (t.links[a / 2]? = some x) := ⟨_, hid (List.getElem?_eq_getElem l5)⟩
   go_upto_region 5 with (fail)
   refine wp_region_T [0, 1, 0, 0, 0, 0, 0, 0] hK ?_
   clear hK
   refine e0 ?_
   refine eL m0 ?_
   refine e0 ?_
   refine eV (.int .i64 ((a / 2 : Nat) : Int)) (fun w' => by go_simp; (try go_bits); exact ⟨congrArg (Value.int .i64) (by omega), rfl⟩) ?_
   iterate 2 refine e0 ?_
   refine eR0 (fun w k => (ht_2.below k.old).lnk ex.out 1 rfl) ?_
   refine e0 ?_
   refine sxEnd (fun W6 hK => ?_)
   go_wp2
   try go_ret
   show Q0 (.returned (.int .i64 x.b)) _
   exact (by obtain rfl := hQ0.out; exact ⟨by rw [← (arc_ok ht2 ha).1, show tlD t a = x.b from by unfold tlD; rw [lnk_of ex.out, if_neg ((even_of hb1).2 rfl)]], hK.old⟩)
  · --
   have i7 : a / 2 < m_t := (by have := ht_2.one0; unfold arcsD at ha; omega)
   obtain ⟨g7, o7, rfl⟩ := ht_2.pt i7
   have l7 : a / 2 < t.links.length := Nat.lt_of_lt_of_eq i7 (ht_2.one0)
   obtain ⟨x, ex⟩ : ∃ x, RowKit.Hid (t.links[a / 2]? = some x) := ⟨_, hid (List.getElem?_eq_getElem l7)⟩
   go_upto_region 4 with (fail)
   refine wp_region_T [0, 1, 0, 0, 0, 0, 0, 0] hK ?_
   clear hK
   refine e0 ?_
   refine eL m0 ?_
   refine e0 ?_
   refine eV (.int .i64 ((a / 2 : Nat) : Int)) (fun w' => by go_simp; (try go_bits); exact ⟨congrArg (Value.int .i64) (by omega), rfl⟩) ?_
   iterate 2 refine e0 ?_
   refine eR0 (fun w k => (ht_2.below k.old).lnk0 ex.out rfl) ?_
   refine e0 ?_
   refine sxEnd (fun W8 hK => ?_)
   go_wp2
   try go_ret
   show Q0 (.returned (.int .i64 x.a)) _
   exact (by obtain rfl := hQ0.out; exact ⟨by rw [← (arc_ok ht2 ha).1, show tlD t a = x.a from by unfold tlD; rw [lnk_of ex.out, if_pos ((even_of hb1).1 rfl)]], hK.old⟩)
set_option maxRecDepth 100000 in
theorem rhead_any (w : World) {v_t : Value} {t : TopD} (ht : TopV w v_t t) (a : Nat) (hl : t.links.length ≤ 100000) (ht2 : topOk t = true) (ha : a < arcsD t) :
    Calls Tryz.prog 30 #[v_t, .int .i64 (a : Int)] w fun e w' => e = .returned (.int .i64 ((hN t a : Nat) : Int)) ∧ Below w.heap.size w w' := by
  have ht_0 := ht
  obtain ⟨p_t, n_t, c_t, q_t, m_t, d_t, rfl, ht_1, ht_2⟩ := ht_0; have b_t : m_t ≤ 100000 := (by rw [ht_2.one0]; exact hl); have a_t : arcsD t ≤ 200000 := (by unfold arcsD; omega)
  have hK := SS.start w
  refine Calls.hide (fun Q0 hQ0 => ?_)
  go_enter Tryz.func30, Tryz.ntmps30
  go_upto_region 0 with (fail)
  refine wp_region_T [3, 0] hK ?_
  clear hK
  refine eA (.cells #[.int .i64 t.nodes, .slice p_t n_t c_t, .slice q_t m_t d_t] 25) (fun R1 => ?_)
  refine e0 ?_
  refine sxEnd (fun W2 hK => ?_)
  go_upto_region 1 with (fail)
  refine wp_region_T [0, 0, 0, 0, 1, 1, 0, 0] hK ?_
  clear hK
  refine e0 ?_
  refine eV (.bool false) (fun w' => by go_simp; (try go_bits); first | exact ⟨rfl, rfl⟩ | exact ⟨congrArg Value.bool (decide_eq_false (by omega)), rfl⟩) ?_
  iterate 2 refine e0 ?_
  refine eL m0 ?_
  refine eQ (fun w k => rarcs_any w (ht.below k.old) hl ht2) ?_
  refine eV (.bool false) (fun w' => by go_simp; (try go_bits); first | exact ⟨rfl, rfl⟩ | exact ⟨congrArg Value.bool (decide_eq_false (by omega)), rfl⟩) ?_
  refine e0 ?_
  refine sxEnd (fun W3 hK => ?_)
  go_upto_region 3 with (fail)
  refine wp_region_T [1, 0, 0, 0, 0, 0, 0, 0, 1, 0] hK ?_
  clear hK
  refine eL m0 ?_
  iterate 6 refine e0 ?_
  refine eV (.int .i64 ((flA a : Nat) : Int)) (fun w' => by go_simp; (try go_bits); exact ⟨congrArg (Value.int .i64) (fl_val (by unfold arcsD at ha; omega)), rfl⟩) ?_
  refine eQ (fun w k => rtail_any w (ht.below k.old) (flA a) hl ht2 (flA_lt ha)) ?_
  refine e0 ?_
  refine sxEnd (fun W4 hK => ?_)
  go_wp2
  try go_ret
  show Q0 (.returned (.int .i64 ((tN t (flA a) : Nat) : Int))) _
  exact (by obtain rfl := hQ0.out; exact ⟨by rw [tN_fl ht2 ha], hK.old⟩)
set_option maxRecDepth 100000 in
theorem rcost_any (w : World) {v_t : Value} {t : TopD} (ht : TopV w v_t t) (a : Nat) (hl : t.links.length ≤ 100000) (ht2 : topOk t = true) (ha : a < arcsD t) :
    Calls Tryz.prog 88 #[v_t, .int .i64 (a : Int)] w fun e w' => e = .returned (.int .i64 ((cN t a : Nat) : Int)) ∧ Below w.heap.size w w' := by
  have ht_0 := ht
  obtain ⟨p_t, n_t, c_t, q_t, m_t, d_t, rfl, ht_1, ht_2⟩ := ht_0; have b_t : m_t ≤ 100000 := (by rw [ht_2.one0]; exact hl); have a_t : arcsD t ≤ 200000 := (by unfold arcsD; omega)
  have hK := SS.start w
  refine Calls.hide (fun Q0 hQ0 => ?_)
  go_enter Tryz.func88, Tryz.ntmps88
  go_upto_region 0 with (fail)
  refine wp_region_T [3, 0] hK ?_
  clear hK
  refine eA (.cells #[.int .i64 t.nodes, .slice p_t n_t c_t, .slice q_t m_t d_t] 25) (fun R1 => ?_)
  refine e0 ?_
  refine sxEnd (fun W2 hK => ?_)
  go_upto_region 1 with (fail)
  refine wp_region_T [0, 0, 0, 0, 1, 1, 0, 0] hK ?_
  clear hK
  refine e0 ?_
  refine eV (.bool false) (fun w' => by go_simp; (try go_bits); first | exact ⟨rfl, rfl⟩ | exact ⟨congrArg Value.bool (decide_eq_false (by omega)), rfl⟩) ?_
  iterate 2 refine e0 ?_
  refine eL m0 ?_
  refine eQ (fun w k => rarcs_any w (ht.below k.old) hl ht2) ?_
  refine eV (.bool false) (fun w' => by go_simp; (try go_bits); first | exact ⟨rfl, rfl⟩ | exact ⟨congrArg Value.bool (decide_eq_false (by omega)), rfl⟩) ?_
  refine e0 ?_
  refine sxEnd (fun W3 hK => ?_)
  rcases Nat.mod_two_eq_zero_or_one a with hm | hm
  · --
   have i4 : a / 2 < m_t := (by have := ht_2.one0; unfold arcsD at ha; omega)
   obtain ⟨g4, o4, rfl⟩ := ht_2.pt i4
   have l4 : a / 2 < t.links.length := Nat.lt_of_lt_of_eq i4 (ht_2.one0)
   obtain ⟨x, ex⟩ : ∃ x, RowKit.Hid (t.links[a / 2]? = some x) := ⟨_, hid (List.getElem?_eq_getElem l4)⟩
   go_upto_region 3 with (fail)
   refine wp_region_T [0, 1, 0, 0, 0, 0, 0, 0, 0, 0, 0] hK ?_
   clear hK
   refine e0 ?_
   refine eL m0 ?_
   refine e0 ?_
   refine eV (.int .i64 ((a / 2 : Nat) : Int)) (fun w' => by go_simp; (try go_bits); exact ⟨congrArg (Value.int .i64) (by omega), rfl⟩) ?_
   refine e0 ?_
   refine eV (.int .i64 0) (fun w' => by go_simp; (try go_bits); exact ⟨congrArg (Value.int .i64) (by omega), rfl⟩) ?_
   iterate 3 refine e0 ?_
   refine eR0 (fun w k => (ht_2.below k.old).lnk ex.out 2 rfl) ?_
   refine e0 ?_
   refine sxEnd (fun W5 hK => ?_)
   go_wp2
   try go_ret
   show Q0 (.returned (.int .i64 x.c0)) _
   exact (by obtain rfl := hQ0.out; exact ⟨by rw [← (arc_ok ht2 ha).2.2.1, show csD t a = x.c0 from by unfold csD; rw [lnk_of ex.out, if_pos hm]], hK.old⟩)
  · --
   have i6 : a / 2 < m_t := (by have := ht_2.one0; unfold arcsD at ha; omega)
   obtain ⟨g6, o6, rfl⟩ := ht_2.pt i6
   have l6 : a / 2 < t.links.length := Nat.lt_of_lt_of_eq i6 (ht_2.one0)
   obtain ⟨x, ex⟩ : ∃ x, RowKit.Hid (t.links[a / 2]? = some x) := ⟨_, hid (List.getElem?_eq_getElem l6)⟩
   go_upto_region 3 with (fail)
   refine wp_region_T [0, 1, 0, 0, 0, 0, 0, 0, 0, 0, 0] hK ?_
   clear hK
   refine e0 ?_
   refine eL m0 ?_
   refine e0 ?_
   refine eV (.int .i64 ((a / 2 : Nat) : Int)) (fun w' => by go_simp; (try go_bits); exact ⟨congrArg (Value.int .i64) (by omega), rfl⟩) ?_
   refine e0 ?_
   refine eV (.int .i64 1) (fun w' => by go_simp; (try go_bits); exact ⟨congrArg (Value.int .i64) (by omega), rfl⟩) ?_
   iterate 3 refine e0 ?_
   refine eR0 (fun w k => (ht_2.below k.old).lnk ex.out 3 rfl) ?_
   refine e0 ?_
   refine sxEnd (fun W7 hK => ?_)
   go_wp2
   try go_ret
   show Q0 (.returned (.int .i64 x.c1)) _
   exact (by obtain rfl := hQ0.out; exact ⟨by rw [← (arc_ok ht2 ha).2.2.1, show csD t a = x.c1 from by unfold csD; rw [lnk_of ex.out, if_neg (by omega)]], hK.old⟩)
set_option maxRecDepth 100000 in
theorem same_any (w : World) {p_xs : Option Addr} {n_xs c_xs : Nat} {xs : List Int} (hxs : SlV intK w (.slice p_xs n_xs c_xs) xs) {p_ys : Option Addr} {n_ys c_ys : Nat} {ys : List Int} (hys : SlV intK w (.slice p_ys n_ys c_ys) ys) (hx : xs.length ≤ 1000000) (hy : ys.length ≤ 1000000) :
    Calls Tryz.prog 22 #[.slice p_xs n_xs c_xs, .slice p_ys n_ys c_ys] w fun e w' => e = .returned (.bool (decide (xs = ys))) ∧ Below w.heap.size w w' := by
  have hK := SS.start w
  have b_xs : n_xs ≤ 1000000 := by rw [hxs.one0]; exact hx
  have b_ys : n_ys ≤ 1000000 := by rw [hys.one0]; exact hy
  refine Calls.hide (fun Q0 hQ0 => ?_)
  go_enter Tryz.func22, Tryz.ntmps22
  go_upto_region 1 with (fail)
  refine wp_region_T [0, 0, 0, 0, 0] hK ?_
  clear hK
  iterate 4 refine e0 ?_
  refine eB (((n_xs : Int)) != ((n_ys : Int))) (fun b1 hb1 => ?_)
  refine sxEnd (fun W1 hK => ?_)
  cases b1
  · --
   go_wp2_with fail
   go_loopw [5] (fun s5 wl => ∃ (j : Nat), s5 = .int .i64 (j : Int) ∧ (j ≤ n_xs) ∧ RowKit.Hid (∀ k, k < j → xs[k]? = ys[k]?) ∧ SS w ([]) wl) (fun s5 _ => n_xs - (intOf s5).toNat)
   case atStart => exact ⟨0, rfl, (by omega), hid (fun k hk => absurd hk (Nat.not_lt_zero _)), hK⟩
   case round =>
    clear hK
    obtain ⟨j, rfl, hj0, h_ok, hK⟩ := hrel
    generalize wr = W2 at hK ⊢
    go_upto_region 4 with (fail)
    refine wp_region_T [0, 0, 0, 0] hK ?_
    clear hK
    iterate 3 refine e0 ?_
    refine eB (decide (((j : Int)) < ((n_xs : Int)))) (fun b2 hb2 => ?_)
    refine sxEnd (fun W3 hK => ?_)
    cases b2
    · --
     have q_b2 : ((n_xs : Int)) ≤ ((j : Int)) := Int.not_lt.1 (of_decide_eq_false hb2.out)
     go_wp2
     try go_ret
     show Q0 (.returned (.bool true)) _
     exact (by obtain rfl := hQ0.out; exact ⟨congrArg (fun z => Ending.returned (.bool z)) (decide_eq_true (List.ext_getElem? fun k => by have h1 := hxs.one0; have h2 := hys.one0; have qb1 := hb1.out; (try simp at qb1); have qb2 := hb2.out; (try simp at qb2); by_cases hk : k < j; exact h_ok.out k hk; rw [List.getElem?_eq_none (by omega), List.getElem?_eq_none (by omega)])).symm, hK.old⟩)
    · --
     have q_b2 : ((j : Int)) < ((n_xs : Int)) := of_decide_eq_true hb2.out
     have hj : j < n_xs := by omega
     have i4 : j < n_xs := hj
     obtain ⟨g4, o4, rfl⟩ := hxs.pt i4
     have l4 : j < xs.length := Nat.lt_of_lt_of_eq i4 (hxs.one0)
     obtain ⟨x, ex⟩ : ∃ x, RowKit.Hid (xs[j]? = some x) := ⟨_, hid (List.getElem?_eq_getElem l4)⟩
     have i5 : j < n_ys := (by have qb1 := hb1.out; (try simp at qb1); have qb2 := hb2.out; (try simp at qb2); omega)
     obtain ⟨g5, o5, rfl⟩ := hys.pt i5
     have l5 : j < ys.length := Nat.lt_of_lt_of_eq i5 (hys.one0)
     obtain ⟨y, ey⟩ : ∃ x, RowKit.Hid (ys[j]? = some x) := ⟨_, hid (List.getElem?_eq_getElem l5)⟩
     go_upto_region 6 with (fail)
     refine wp_region_S _ [0, 0, 0, 0, 0, 0, 0, 0, 0] hK ?_ (List.Sublist.refl _)
     clear hK
     iterate 3 refine e0 ?_
     refine eR0 (fun w k => (hxs.below k.old).int ex.out) ?_
     iterate 3 refine e0 ?_
     refine eR0 (fun w k => (hys.below k.old).int ey.out) ?_
     refine eB (x != y) (fun b3 hb3 => ?_)
     refine sxEnd (fun W6 hK => ?_)
     cases b3
     · --
      (try go_wp2)
      go_roundw
      case rel => exact ⟨j + 1, (by first | rfl | go_num), (by omega), hid fun k hk => by
   rcases Nat.lt_succ_iff_lt_or_eq.1 hk with hk | rfl
   · exact h_ok.out k hk
   · rw [ex.out, ey.out]; have qb1 := hb1.out; (try simp at qb1); have qb2 := hb2.out; (try simp at qb2); have qb3 := hb3.out; (try simp at qb3); simp; omega, hK⟩
      case measure => simp [intOf] <;> omega
     · --
      go_wp2
      try go_ret
      show Q0 (.returned (.bool false)) _
      exact (by obtain rfl := hQ0.out; exact ⟨congrArg (fun z => Ending.returned (.bool z)) (decide_eq_false (fun e => by subst e; have e1 := ex.out; rw [ey.out] at e1; have qb1 := hb1.out; (try simp at qb1); have qb2 := hb2.out; (try simp at qb2); have qb3 := hb3.out; (try simp at qb3); simp at e1; omega)).symm, hK.old⟩)
  · --
   go_wp2
   try go_ret
   show Q0 (.returned (.bool false)) _
   exact (by obtain rfl := hQ0.out; exact ⟨congrArg (fun z => Ending.returned (.bool z)) (decide_eq_false (fun e => by subst e; have h1 := hxs.one0; have h2 := hys.one0; have qb1 := hb1.out; (try simp at qb1); omega)).symm, hK.old⟩)
end Go.Proofs.YtmcfomainmppdaaGreatDoor
