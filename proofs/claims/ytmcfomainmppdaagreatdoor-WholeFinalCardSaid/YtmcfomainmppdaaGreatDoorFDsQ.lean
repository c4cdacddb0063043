/- The reference: distances. The reference: next arcs. -/
import Derived.Test.YtmcfomainmppdaaGreatDoorFDsN
import Derived.Test.YtmcfomainmppdaaGreatDoorFDsM
namespace Go.Proofs.YtmcfomainmppdaaGreatDoor
open Go.RowKit
open Go.Lib (decDigits)
set_option maxRecDepth 100000 in
theorem rfits_any (w : World) {v_t : Value} {t : TopD} (ht : TopV w v_t t) {p_d : Option Addr} {n_d c_d : Nat} {down : List Bool} (hd : SlV boolK w (.slice p_d n_d c_d) down) (hl : t.links.length ≤ 100000) :
    Calls Tryz.prog 57 #[v_t, .slice p_d n_d c_d] w fun e w' => e = .returned (.bool (fitsD t down)) ∧ Below w.heap.size w w' := by
  have ht_0 := ht
  obtain ⟨p_t, n_t, c_t, q_t, m_t, d_t, rfl, ht_1, ht_2⟩ := ht_0; have b_t : m_t ≤ 100000 := (by rw [ht_2.one0]; exact hl); have a_t : arcsD t ≤ 200000 := (by unfold arcsD; omega)
  have hK := SS.start w
  refine Calls.hide (fun Q0 hQ0 => ?_)
  go_enter Tryz.func57, Tryz.ntmps57
  go_upto_region 0 with (fail)
  refine wp_region_T [3, 0] hK ?_
  clear hK
  refine eA (.cells #[.int .i64 t.nodes, .slice p_t n_t c_t, .slice q_t m_t d_t] 25) (fun R1 => ?_)
  refine e0 ?_
  refine sxEnd (fun W2 hK => ?_)
  go_upto_region 1 with (fail)
  refine wp_region_T [1, 1, 0, 0, 0, 0, 0, 0, 0, 0, 1, 0, 0, 0, 0, 0, 0] hK ?_
  clear hK
  refine eL m0 ?_
  obtain ⟨b1, hb1⟩ : ∃ b : Bool, RowKit.Hid ((topOk t) = b) := ⟨_, hid rfl⟩
  refine eQ (v := .bool b1) (fun w k => rvalid_any w (ht.below k.old) hl) ?_ (hv := by rw [hb1.out])
  refine e0 ?_
  cases b1
  · --
   iterate 4 refine eN ?_
   iterate 7 refine eU ?_
   refine eN ?_
   iterate 2 refine e0 ?_
   refine sxEnd (fun W3 hK => ?_)
   go_wp2
   try go_ret
   show Q0 (.returned (.bool false)) _
   exact (by obtain rfl := hQ0.out; exact ⟨congrArg (fun z => Ending.returned (.bool z)) (by unfold fitsD; rw [hb1.out]; rfl), hK.old⟩)
  · --
   iterate 2 refine e0 ?_
   refine eB (((n_d : Int)) == 0) (fun b2 hb2 => ?_)
   refine e0 ?_
   cases b2
   · --
    iterate 3 refine e0 ?_
    refine eL m0 ?_
    iterate 6 refine e0 ?_
    refine sxEnd (fun W4 hK => ?_)
    go_wp2
    try go_ret
    exact (by obtain rfl := hQ0.out; exact ⟨congrArg (fun z => Ending.returned (.bool z)) (by unfold fitsD; rw [hb1.out, Bool.true_and]; have := hd.one0; have h2 := ht_2.one0; have q := hb2.out; simp at q; rw [Bool.eq_iff_iff, beq_iff_eq, decide_eq_true_iff]; omega), hK.old⟩)
   · --
    iterate 7 refine eN ?_
    iterate 3 refine e0 ?_
    refine sxEnd (fun W5 hK => ?_)
    go_wp2
    try go_ret
    show Q0 (.returned (.bool true)) _
    exact (by obtain rfl := hQ0.out; exact ⟨congrArg (fun z => Ending.returned (.bool z)) (by unfold fitsD; rw [hb1.out, decide_eq_true (.inl (by have := hd.one0; have q := hb2.out; simp at q; omega))]; rfl), hK.old⟩)
set_option maxRecDepth 100000 in
theorem rup_any (w : World) {p_d : Option Addr} {n_d c_d : Nat} {down : List Bool} (hd : SlV boolK w (.slice p_d n_d c_d) down) (a : Nat) (ha : down.length = 0 ∨ a < down.length) :
    Calls Tryz.prog 59 #[.slice p_d n_d c_d, .int .i64 (a : Int)] w fun e w' => e = .returned (.bool (upD down a)) ∧ Below w.heap.size w w' := by
  have hK := SS.start w
  refine Calls.hide (fun Q0 hQ0 => ?_)
  go_enter Tryz.func59, Tryz.ntmps59
  go_upto_region 1 with (fail)
  refine wp_region_T [0, 0, 0, 0, 0, 0, 0, 0, 0, 0, 0] hK ?_
  clear hK
  iterate 2 refine e0 ?_
  refine eB (((n_d : Int)) == 0) (fun b1 hb1 => ?_)
  refine e0 ?_
  cases b1
  · --
   have ha2 : a < n_d := (by have := hd.one0; have q := hb1.out; simp at q; omega)
   have i1 : a < n_d := ha2
   obtain ⟨g1, o1, rfl⟩ := hd.pt i1
   have l1 : a < down.length := Nat.lt_of_lt_of_eq i1 (hd.one0)
   obtain ⟨x, ex⟩ : ∃ x, RowKit.Hid (down[a]? = some x) := ⟨_, hid (List.getElem?_eq_getElem l1)⟩
   iterate 3 refine e0 ?_
   refine eR0 (fun w k => (hd.below k.old).bool ex.out) ?_
   iterate 3 refine e0 ?_
   refine sxEnd (fun W2 hK => ?_)
   go_wp2
   try go_ret
   show Q0 (.returned (.bool (!x))) _
   exact (by obtain rfl := hQ0.out; exact ⟨congrArg (fun z => Ending.returned (.bool z)) (by rw [← up_at ex.out, Bool.not_not]), hK.old⟩)
  · --
   iterate 5 refine eN ?_
   iterate 2 refine e0 ?_
   refine sxEnd (fun W3 hK => ?_)
   go_wp2
   try go_ret
   show Q0 (.returned (.bool true)) _
   exact (by obtain rfl := hQ0.out; exact ⟨congrArg (fun z => Ending.returned (.bool z)) (by have := hd.one0; have q := hb1.out; simp at q; unfold upD; rw [decide_eq_true (by omega)]; rfl), hK.old⟩)
set_option maxRecDepth 100000 in
theorem rtransit_any (w : World) {v_t : Value} {t : TopD} (ht : TopV w v_t t) (n : Nat) (d : Nat) (hl : t.links.length ≤ 100000) (ht2 : topOk t = true) :
    Calls Tryz.prog 87 #[v_t, .int .i64 (n : Int), .int .i64 (d : Int)] w fun e w' => e = .returned (.bool (trD t n d)) ∧ Below w.heap.size w w' := by
  have ht_0 := ht
  obtain ⟨p_t, n_t, c_t, q_t, m_t, d_t, rfl, ht_1, ht_2⟩ := ht_0; have b_t : m_t ≤ 100000 := (by rw [ht_2.one0]; exact hl); have a_t : arcsD t ≤ 200000 := (by unfold arcsD; omega)
  have hK := SS.start w
  refine Calls.hide (fun Q0 hQ0 => ?_)
  go_enter Tryz.func87, Tryz.ntmps87
  go_upto_region 0 with (fail)
  refine wp_region_T [3, 0] hK ?_
  clear hK
  refine eA (.cells #[.int .i64 t.nodes, .slice p_t n_t c_t, .slice q_t m_t d_t] 25) (fun R1 => ?_)
  refine e0 ?_
  refine sxEnd (fun W2 hK => ?_)
  go_upto_region 1 with (fail)
  refine wp_region_T [0, 0, 0, 0, 1, 0, 1, 0, 0, 0] hK ?_
  clear hK
  iterate 2 refine e0 ?_
  refine eB (((n : Int)) == ((d : Int))) (fun b1 hb1 => ?_)
  refine e0 ?_
  cases b1
  · --
   refine eL m0 ?_
   refine e0 ?_
   obtain ⟨b2, hb2⟩ : ∃ b : Bool, RowKit.Hid ((ovD t n) = b) := ⟨_, hid rfl⟩
   refine eQ (v := .bool b2) (fun w k => rover_any w (ht.below k.old) n hl ht2) ?_ (hv := by rw [hb2.out])
   iterate 3 refine e0 ?_
   refine sxEnd (fun W3 hK => ?_)
   go_wp2
   try go_ret
   show Q0 (.returned (.bool (!b2))) _
   exact (by obtain rfl := hQ0.out; exact ⟨congrArg (fun z => Ending.returned (.bool z)) (by unfold trD; have q := hb1.out; simp at q; rw [show decide (n = d) = false from decide_eq_false (by omega), hb2.out]; rfl), hK.old⟩)
  · --
   iterate 4 refine eN ?_
   iterate 2 refine e0 ?_
   refine sxEnd (fun W4 hK => ?_)
   go_wp2
   try go_ret
   show Q0 (.returned (.bool true)) _
   exact (by obtain rfl := hQ0.out; exact ⟨congrArg (fun z => Ending.returned (.bool z)) (by unfold trD; have q := hb1.out; simp at q; rw [show decide (n = d) = true from decide_eq_true (by omega)]; rfl), hK.old⟩)
set_option maxRecDepth 100000 in
theorem on_any (w : World) {v_t : Value} {t : TopD} (ht : TopV w v_t t) {p_d : Option Addr} {n_d c_d : Nat} {down : List Bool} (hd : SlV boolK w (.slice p_d n_d c_d) down) {p_D : Option Addr} {n_D c_D : Nat} {D : List Int} (hD : SlV intK w (.slice p_D n_D c_D) D) (a : Nat) (d : Nat) (hl : t.links.length ≤ 100000) (ht2 : topOk t = true) (hdl : RowKit.Hid (down.length = 0 ∨ down.length = arcsD t)) (hDl : D.length = nN t) (hsm : ∀ x, atD D x ≤ 4300000) (ha : a < arcsD t) :
    Calls Tryz.prog 126 #[v_t, .slice p_d n_d c_d, .slice p_D n_D c_D, .int .i64 (a : Int), .int .i64 (d : Int)] w fun e w' => e = .returned (.bool (onD t down D d a)) ∧ Below w.heap.size w w' := by
  have ht_0 := ht
  obtain ⟨p_t, n_t, c_t, q_t, m_t, d_t, rfl, ht_1, ht_2⟩ := ht_0; have b_t : m_t ≤ 100000 := (by rw [ht_2.one0]; exact hl); have a_t : arcsD t ≤ 200000 := (by unfold arcsD; omega)
  have hK := SS.start w
  refine Calls.hide (fun Q0 hQ0 => ?_)
  go_enter Tryz.func126, Tryz.ntmps126
  go_upto_region 0 with (fail)
  refine wp_region_T [3, 0] hK ?_
  clear hK
  refine eA (.cells #[.int .i64 t.nodes, .slice p_t n_t c_t, .slice q_t m_t d_t] 25) (fun R1 => ?_)
  refine e0 ?_
  refine sxEnd (fun W2 hK => ?_)
  go_upto_region 1 with (fail)
  refine wp_region_S _ [0, 0, 1, 0, 0, 1, 0, 0] hK ?_ (List.Sublist.refl _)
  clear hK
  refine eL0 m0 ?_
  refine e0 ?_
  refine eQ (fun w k => rtail_any w (ht.below k.old) a hl ht2 ha) ?_
  refine eL0 m0 ?_
  refine e0 ?_
  refine eQ (fun w k => rhead_any w (ht.below k.old) a hl ht2 ha) ?_
  iterate 2 refine e0 ?_
  refine sxEnd (fun W3 hK => ?_)
  obtain ⟨_, _, _, ht_l, hh_l, _, hc1, hc2⟩ := arc_ok ht2 ha; have hDn := Nat.le_of_eq (hD.one0.trans hDl).symm; have hDm := Nat.le_of_eq (hD.one0.trans hDl)
  have i4 : hN t a < n_D := (by omega)
  obtain ⟨g4, o4, rfl⟩ := hD.pt i4
  have l4 : hN t a < D.length := Nat.lt_of_lt_of_eq i4 (hD.one0)
  obtain ⟨dy, edy⟩ : ∃ x, RowKit.Hid (D[hN t a]? = some x) := ⟨_, hid (List.getElem?_eq_getElem l4)⟩
  have i5 : tN t a < n_D := (by omega)
  have l5 : tN t a < D.length := Nat.lt_of_lt_of_eq i5 (hD.one0)
  obtain ⟨dx, edx⟩ : ∃ x, RowKit.Hid (D[tN t a]? = some x) := ⟨_, hid (List.getElem?_eq_getElem l5)⟩
  have hdy1 : dy ≤ 4300000 := (by have q := hsm (hN t a); rw [atD_of edy.out] at q; exact q)
  go_upto_region 2 with (fail)
  refine wp_region_S _ [0, 0, 1, 0, 0, 0, 0, 0, 0, 0, 0, 0, 0, 0, 0, 0, 0, 0, 0, 1, 0, 0, 0, 0, 0, 0, 0, 0, 0, 0, 0, 0, 1, 0, 0, 0, 0] hK ?_ (List.Sublist.refl _)
  clear hK
  iterate 2 refine e0 ?_
  obtain ⟨b1, hb1⟩ : ∃ b : Bool, RowKit.Hid ((upD down a) = b) := ⟨_, hid rfl⟩
  refine eQ (v := .bool b1) (fun w k => rup_any w (hd.below k.old) a (by have := hdl.out; omega)) ?_ (hv := by rw [hb1.out])
  refine e0 ?_
  cases b1
  · --
   iterate 3 refine eN ?_
   iterate 2 refine e0 ?_
   iterate 5 refine eN ?_
   iterate 2 refine e0 ?_
   iterate 4 refine eN ?_
   iterate 2 refine e0 ?_
   iterate 13 refine eN ?_
   iterate 2 refine e0 ?_
   refine sxEnd (fun W6 hK => ?_)
   go_wp2
   try go_ret
   show Q0 (.returned (.bool false)) _
   exact (by obtain rfl := hQ0.out; exact ⟨congrArg (fun z => Ending.returned (.bool z)) (by unfold onD; rw [atD_of edx.out, atD_of edy.out]; have qb1 := hb1.out; (try simp at qb1); simp [qb1] <;> omega), hK.old⟩)
  · --
   iterate 2 refine e0 ?_
   refine eB ((((tN t a : Nat) : Int)) != ((d : Int))) (fun b2 hb2 => ?_)
   iterate 2 refine e0 ?_
   cases b2
   · --
    iterate 5 refine eN ?_
    iterate 2 refine e0 ?_
    iterate 4 refine eN ?_
    iterate 2 refine e0 ?_
    iterate 13 refine eN ?_
    iterate 2 refine e0 ?_
    refine sxEnd (fun W7 hK => ?_)
    go_wp2
    try go_ret
    show Q0 (.returned (.bool false)) _
    exact (by obtain rfl := hQ0.out; exact ⟨congrArg (fun z => Ending.returned (.bool z)) (by unfold onD; rw [atD_of edx.out, atD_of edy.out]; have qb1 := hb1.out; (try simp at qb1); have qb2 := hb2.out; (try simp at qb2); simp [qb1] <;> omega), hK.old⟩)
   · --
    iterate 3 refine e0 ?_
    refine eR0 (fun w k => (hD.below k.old).int edy.out) ?_
    refine eB (decide (0 ≤ dy)) (fun b3 hb3 => ?_)
    iterate 2 refine e0 ?_
    cases b3
    · --
     have q_b3 : dy < 0 := Int.not_le.1 (of_decide_eq_false hb3.out)
     iterate 4 refine eN ?_
     iterate 2 refine e0 ?_
     iterate 13 refine eN ?_
     iterate 2 refine e0 ?_
     refine sxEnd (fun W8 hK => ?_)
     go_wp2
     try go_ret
     show Q0 (.returned (.bool false)) _
     exact (by obtain rfl := hQ0.out; exact ⟨congrArg (fun z => Ending.returned (.bool z)) (by unfold onD; rw [atD_of edx.out, atD_of edy.out]; have qb1 := hb1.out; (try simp at qb1); have qb2 := hb2.out; (try simp at qb2); have qb3 := hb3.out; (try simp at qb3); simp [qb1] <;> omega), hK.old⟩)
    · --
     have q_b3 : 0 ≤ dy := of_decide_eq_true hb3.out
     refine eL0 m0 ?_
     iterate 2 refine e0 ?_
     obtain ⟨b4, hb4⟩ : ∃ b : Bool, RowKit.Hid ((trD t (hN t a) d) = b) := ⟨_, hid rfl⟩
     refine eQ (v := .bool b4) (fun w k => rtransit_any w (ht.below k.old) (hN t a) d hl ht2) ?_ (hv := by rw [hb4.out])
     iterate 2 refine e0 ?_
     cases b4
     · --
      iterate 13 refine eN ?_
      iterate 2 refine e0 ?_
      refine sxEnd (fun W9 hK => ?_)
      go_wp2
      try go_ret
      show Q0 (.returned (.bool false)) _
      exact (by obtain rfl := hQ0.out; exact ⟨congrArg (fun z => Ending.returned (.bool z)) (by unfold onD; rw [atD_of edx.out, atD_of edy.out]; have qb1 := hb1.out; (try simp at qb1); have qb2 := hb2.out; (try simp at qb2); have qb3 := hb3.out; (try simp at qb3); have qb4 := hb4.out; (try simp at qb4); simp [qb1, qb3, qb4] <;> omega), hK.old⟩)
     · --
      iterate 3 refine e0 ?_
      refine eR0 (fun w k => (hD.below k.old).int edx.out) ?_
      iterate 3 refine e0 ?_
      refine eR0 (fun w k => (hD.below k.old).int edy.out) ?_
      refine eL0 m0 ?_
      refine e0 ?_
      refine eQ (fun w k => rcost_any w (ht.below k.old) a hl ht2 ha) ?_
      refine eV (.int .i64 (dy + (cN t a : Int))) (fun w' => by go_simp; (try go_bits); exact ⟨congrArg (Value.int .i64) (by first | omega | (unfold wrap64; omega)), rfl⟩) ?_
      refine eB (dx == ((dy + (cN t a : Int)))) (fun b5 hb5 => ?_)
      iterate 2 refine e0 ?_
      refine sxEnd (fun W10 hK => ?_)
      go_wp2
      try go_ret
      show Q0 (.returned (.bool b5)) _
      exact (by obtain rfl := hQ0.out; exact ⟨congrArg (fun z => Ending.returned (.bool z)) (by unfold onD; rw [atD_of edx.out, atD_of edy.out]; have qb1 := hb1.out; (try simp at qb1); have qb2 := hb2.out; (try simp at qb2); have qb3 := hb3.out; (try simp at qb3); have qb4 := hb4.out; (try simp at qb4); rw [← hb5.out, Bool.eq_iff_iff]; simp [qb1, qb3, qb4] <;> omega), hK.old⟩)
section
variable {ar : Nat → Option ArcD} {l L : List Int} {c : Bool} {j : Nat} {e : ArcD}
theorem pass_none (h : passN ar l j = (L, c)) (hn : ar j = none) : passN ar l (j + 1) = (L, c) := by rw [passN, hn]; exact h
theorem pass_keep (h : passN ar l j = (L, c)) (hn : ar j = some e) (hb : relB L e = false) : passN ar l (j + 1) = (L, c) := by rw [passN, hn, h]; simp [hb]
theorem pass_set (h : passN ar l j = (L, c)) (hn : ar j = some e) (hb : relB L e = true) : passN ar l (j + 1) = (L.set e.x (atD L e.y + (e.c : Int)), true) := by rw [passN, hn, h]; simp [hb, rel1]
end
theorem arTo_no {t : TopD} {down : List Bool} {d a : Nat} (h : upD down a = false ∨ trD t (hN t a) d = false) : arTo t down d a = none := by
  unfold arTo
  rcases h with h | h
  · rw [h]; rfl
  · rw [h, Bool.and_false]; rfl
theorem pass_dead {t : TopD} {down : List Bool} {d j : Nat} {l L : List Int} {c : Bool} (h : passN (arTo t down d) l j = (L, c)) (hy : atD L (hN t j) < 0) : passN (arTo t down d) l (j + 1) = (L, c) := by
  by_cases e : upD down j = true ∧ trD t (hN t j) d = true
  · refine pass_keep h (arTo_of e.1 e.2) ?_
    unfold relB
    rw [decide_eq_false (by show ¬ 0 ≤ atD L (hN t j); omega)]; rfl
  · refine pass_none h (arTo_no ?_)
    by_cases e1 : upD down j = true
    · exact .inr (by rw [Bool.eq_false_iff]; exact fun q => e ⟨e1, q⟩)
    · exact .inl (by rw [Bool.eq_false_iff]; exact e1)
theorem fill_start {n r : Nat} : (fillD n n).set r 0 = startD n r := by rw [fill_all]; rfl
set_option maxRecDepth 100000 in
set_option maxHeartbeats 2000000 in
theorem rsearch_any (w : World) {v_t : Value} {t : TopD} (ht : TopV w v_t t) {p_d : Option Addr} {n_d c_d : Nat} {down : List Bool} (hd : SlV boolK w (.slice p_d n_d c_d) down) (d : Int) (hl : t.links.length ≤ 100000) :
    Calls Tryz.prog 55 #[v_t, .slice p_d n_d c_d, .int .i64 d, .bool false] w fun e w' => ∃ x : Sl, e = .returned (.tuple #[.slice x.p x.l x.c, .int .i64 (chkD t down [d])]) ∧ SS w [rO intK 3 x.p x.l x.c (dstR t down d), cF (chkD t down [d] = 0 → IsDst t down d.toNat (dstD t down d.toNat))] w' := by
  have ht_0 := ht
  obtain ⟨p_t, n_t, c_t, q_t, m_t, d_t, rfl, ht_1, ht_2⟩ := ht_0; have b_t : m_t ≤ 100000 := (by rw [ht_2.one0]; exact hl); have a_t : arcsD t ≤ 200000 := (by unfold arcsD; omega)
  have hK := SS.start w
  refine Calls.hide (fun Q0 hQ0 => ?_)
  go_enter Tryz.func55, Tryz.ntmps55
  go_upto_region 0 with (fail)
  refine wp_region_T [3, 0, 0] hK ?_
  clear hK
  refine eA (.cells #[.int .i64 t.nodes, .slice p_t n_t c_t, .slice q_t m_t d_t] 25) (fun R1 => ?_)
  iterate 2 refine e0 ?_
  refine sxEnd (fun W2 hK => ?_)
  go_upto_region 1 with (fail)
  refine wp_region_T [1, 0, 1, 0] hK ?_
  clear hK
  refine eL m0 ?_
  refine e0 ?_
  obtain ⟨b1, hb1⟩ : ∃ b : Bool, RowKit.Hid ((fitsD t down) = b) := ⟨_, hid rfl⟩
  refine eQ (v := .bool b1) (fun w k => rfits_any w (ht.below k.old) (hd.below k.old) hl) ?_ (hv := by rw [hb1.out])
  refine e0 ?_
  refine sxEnd (fun W3 hK => ?_)
  cases b1
  · --
   replace hK := hK.fact (rO intK 3 none 0 0 ([] : List Int)) OwV.nil (fun _ h => by cases h)
   have hX : chkD t down [d] = 1 := by unfold chkD; rw [if_neg (by rw [hb1.out]; decide)]
   go_wp2
   try go_ret
   show Q0 (.returned (.tuple #[.slice none 0 0, .int .i64 1])) _
   exact (by obtain rfl := hQ0.out; rw [show dstR t down d = [] from dstR_no (by rw [hX]; decide), hX]; exact ⟨⟨none, 0, 0⟩, rfl, ((hK.subl (sK2 (sC2 sZ2))).fact (cF _) (fun e => absurd e (by decide))).up1⟩)
  · --
   go_upto_region 3 with (fail)
   refine wp_region_T [0, 0, 0, 0, 0, 1, 0, 0] hK ?_
   clear hK
   refine e0 ?_
   refine eB (decide (d < 0)) (fun b2 hb2 => ?_)
   refine e0 ?_
   cases b2
   · --
    have q_b2 : 0 ≤ d := Int.not_lt.1 (of_decide_eq_false hb2.out)
    iterate 2 refine e0 ?_
    refine eL m0 ?_
    refine eB (decide (t.nodes ≤ d)) (fun b3 hb3 => ?_)
    refine e0 ?_
    refine sxEnd (fun W4 hK => ?_)
    cases b3
    · --
     have q_b3 : d < t.nodes := Int.not_le.1 (of_decide_eq_false hb3.out)
     have hfit := hid (show fitsD t down = true from hb1.out); obtain ⟨ht2, hdl0⟩ := (Bool.and_eq_true_iff.1 hfit.out); have hdl := hid (show down.length = 0 ∨ down.length = arcsD t from of_decide_eq_true hdl0); clear hdl0; have hnn := hid (topN ht2); have hnm : nN t ≤ 64 := hnn.out.2.2.1; obtain ⟨r, rfl⟩ : ∃ n : Nat, d = (n : Int) := ⟨d.toNat, (Int.toNat_of_nonneg (by omega)).symm⟩; have hr : r < nN t := (by have q := hnn.out.1; omega); have har := hid (arTo_ok (down := down) (d := r) ht2)
     go_upto_region 5 with (fail)
     refine wp_region_T [0, 1, 3, 0] hK ?_
     clear hK
     refine e0 ?_
     refine eL m0 ?_
     refine eMk (K := intK) (t := 3) (x := 0) (nN t) (fun _ => rfl) rfl infoZ (by show nN t * 1 ≤ _; omega) (by decide) (fun g5 => ?_) (hv := hnn.out.1)
     refine e0 ?_
     refine sxEnd (fun W6 hK => ?_)
     replace hK := hK.made (K := intK) (n := (nN t)) (fun _ => rfl) (by simp [maxLen]; omega)
     rw [show List.replicate (nN t) 0 = fillD (nN t) 0 from (fill_zero _).symm] at hK
     go_wp2_with fail
     go_loopw [11] (fun s11 wl => ∃ (j : Nat), s11 = .int .i64 (j : Int) ∧ (j ≤ nN t) ∧ SS w ([rO intK 3 (some ⟨g5, 0, none⟩) (nN t) (nN t) (fillD (nN t) j), bx R1 (.cells #[.int .i64 t.nodes, .slice p_t n_t c_t, .slice q_t m_t d_t] 25)]) wl) (fun s11 _ => nN t - (intOf s11).toNat)
     case atStart => exact ⟨0, rfl, (by omega), hK⟩
     case round =>
      clear hK
      obtain ⟨j, rfl, hj0, hK⟩ := hrel
      generalize wr = W7 at hK ⊢
      go_upto_region 7 with (fail)
      refine wp_region_T [0, 0, 0, 0] hK ?_
      clear hK
      iterate 3 refine e0 ?_
      refine eB (decide (((j : Int)) < (((nN t) : Int)))) (fun b4 hb4 => ?_)
      refine sxEnd (fun W8 hK => ?_)
      cases b4
      · --
       have q_b4 : (((nN t) : Int)) ≤ ((j : Int)) := Int.not_lt.1 (of_decide_eq_false hb4.out)
       obtain rfl : j = nN t := by omega
       have i9 : r < (nN t) := hr
       have l9 : r < (fillD (nN t) (nN t)).length := Nat.lt_of_lt_of_eq i9 (hK.len m0)
       obtain ⟨x, ex⟩ : ∃ x, RowKit.Hid ((fillD (nN t) (nN t))[r]? = some x) := ⟨_, hid (List.getElem?_eq_getElem l9)⟩
       go_upto_region 10 with (fail)
       refine wp_region_T [0, 0, 0, 4] hK ?_
       clear hK
       iterate 3 refine e0 ?_
       refine eWI (y := 0) 0 l9 ?_ (hi := rfl)
       refine sxEnd (fun W10 hK => ?_)
       rw [show (fillD (nN t) (nN t)).set r 0 = startD (nN t) r from fill_start] at hK
       go_wp2_with fail
       go_loopg [12] (2 * muD (nN t * 65535 + 1) (startD (nN t) r) + (if true then 1 else 0)) (fun gk0 s12 wl => ∃ (l : List Int) (ch : Bool), s12 = .bool ch ∧ RowKit.Hid (RelI (arTo t down r) (arcsD t) (nN t) r 65535 l) ∧ RowKit.Hid (ch = false → ∀ a e, a < arcsD t → arTo t down r a = some e → relB l e = false) ∧ RowKit.Hid (gk0 = 2 * muD (nN t * 65535 + 1) l + (if ch then 1 else 0)) ∧ SS w ([rO intK 3 (some ⟨g5, 0, none⟩) (nN t) (nN t) l, bx R1 (.cells #[.int .i64 t.nodes, .slice p_t n_t c_t, .slice q_t m_t d_t] 25)]) wl)
       case atStart => exact ⟨startD (nN t) r, true, rfl, hid (RelI.start hr), hid (fun e => by cases e), hid rfl, hK⟩
       case round =>
        clear hK
        obtain ⟨l, ch, rfl, h_R, h_f, hgk11, hK⟩ := hrel
        generalize wr = W12 at hK ⊢
        cases ch
        · --
         have hI : IsDst t down r l := ⟨h_R.out.len, h_R.out.bel (h_f.out rfl)⟩; have hc : chkD t down [(r : Int)] = 0 := by unfold chkD; rw [if_pos hfit.out, if_pos]; rw [List.all_cons, List.all_nil, Bool.and_true, Bool.and_eq_true, decide_eq_true_iff, decide_eq_true_iff]; omega
         rw [show l = dstR t down (r : Int) from ((dst_eq ht2 hI).trans (dstR_ok hc).symm)] at hK
         go_wp2
         try go_ret
         show Q0 (.returned (.tuple #[.slice (some ⟨g5, 0, none⟩) (nN t) (nN t), .int .i64 0])) _
         exact (by obtain rfl := hQ0.out; rw [hc]; exact ⟨⟨(some ⟨g5, 0, none⟩), nN t, nN t⟩, rfl, ((hK.subl (sK2 (sC2 sZ2))).fact (cF _) (fun _ => dst_eq ht2 hI ▸ hI)).up1⟩)
        · --
         go_wp2_with fail
         go_loopw [13, 12] (fun s13 s12 wl => ∃ (j : Nat) (L : List Int) (cc : Bool), s13 = .int .i64 (j : Int) ∧ s12 = .bool cc ∧ (j ≤ arcsD t) ∧ RowKit.Hid (passN (arTo t down r) l j = (L, cc)) ∧ SS w ([rO intK 3 (some ⟨g5, 0, none⟩) (nN t) (nN t) L, bx R1 (.cells #[.int .i64 t.nodes, .slice p_t n_t c_t, .slice q_t m_t d_t] 25)]) wl) (fun s13 s12 _ => arcsD t - (intOf s13).toNat)
         case atStart => exact ⟨0, l, false, rfl, rfl, (by omega), hid rfl, hK⟩
         case round =>
          clear hK
          obtain ⟨j, L, cc, rfl, rfl, hj0, h_p, hK⟩ := hrel
          generalize wr = W13 at hK ⊢
          go_upto_region 15 with (fail)
          refine wp_region_T [0, 0, 1, 0, 0, 0] hK ?_
          clear hK
          iterate 2 refine e0 ?_
          refine eL m1 ?_
          refine e0 ?_
          refine eV (.int .i64 ((arcsD t : Nat) : Int)) (fun w' => by go_simp; (try go_bits); exact ⟨congrArg (Value.int .i64) (by unfold arcsD; have := ht_2.one0; first | omega | (unfold wrap64; omega)), rfl⟩) ?_
          refine eB (decide (((j : Int)) < (((arcsD t : Nat) : Int)))) (fun b5 hb5 => ?_)
          refine sxEnd (fun W14 hK => ?_)
          cases b5
          · --
           have q_b5 : (((arcsD t : Nat) : Int)) ≤ ((j : Int)) := Int.not_lt.1 (of_decide_eq_false hb5.out)
           (try go_wp2)
           have hP0 := hid (pass_ok har.out h_R.out j hj0); rw [h_p.out] at hP0; have hjA : arcsD t = j := (by omega); have hP : RowKit.Hid (RelI (arTo t down r) (arcsD t) (nN t) r 65535 L ∧ muD (nN t * 65535 + 1) L ≤ muD (nN t * 65535 + 1) l ∧ (cc = true → muD (nN t * 65535 + 1) L < muD (nN t * 65535 + 1) l) ∧ (cc = false → ∀ a e, a < arcsD t → arTo t down r a = some e → relB L e = false)) := hid ⟨hP0.out.1, hP0.out.2.1, hP0.out.2.2.1, fun q a e ha => by have q2 := hP0.out.2.2.2 q; have q3 : L = l := q2.1; rw [q3]; exact q2.2 a e (hjA ▸ ha)⟩; clear hP0 hjA
           go_roundg (2 * muD (nN t * 65535 + 1) L + (if cc then 1 else 0))
           case measure => rw [hgk11.out]; have q1 := hP.out.2.1; have q2 := hP.out.2.2.1; clear h_p; cases cc <;> simp at q2 ⊢ <;> omega
           case rel => exact ⟨L, cc, (by first | rfl | go_num), hid hP.out.1, hid hP.out.2.2.2, hid rfl, hK⟩
          · --
           have q_b5 : ((j : Int)) < (((arcsD t : Nat) : Int)) := of_decide_eq_true hb5.out
           have ha : j < arcsD t := by omega
           obtain ⟨_, _, _, ht_l, hh_l, _, hc1, hc2⟩ := arc_ok ht2 ha; have hRL := hid (pass_ok har.out h_R.out j hj0).1; rw [h_p.out] at hRL
           go_upto_region 17 with (fail)
           refine wp_region_S _ [0, 0, 1, 0, 0, 1, 0, 0] hK ?_ (List.Sublist.refl _)
           clear hK
           refine eL0 m1 ?_
           refine e0 ?_
           refine eQ (fun w k => rtail_any w (ht.below k.old) j hl ht2 ha) ?_
           refine eL0 m1 ?_
           refine e0 ?_
           refine eQ (fun w k => rhead_any w (ht.below k.old) j hl ht2 ha) ?_
           iterate 2 refine e0 ?_
           refine sxEnd (fun W15 hK => ?_)
           have i16 : hN t j < (nN t) := hh_l
           have l16 : hN t j < L.length := Nat.lt_of_lt_of_eq i16 (hK.len m0)
           obtain ⟨dy, edy⟩ : ∃ x, RowKit.Hid (L[hN t j]? = some x) := ⟨_, hid (List.getElem?_eq_getElem l16)⟩
           have hdy1 : dy ≤ 4200000 := (by have q := hRL.out.small (hN t j); rw [atD_of edy.out] at q; have q2 : (nN t - 1) * 65535 ≤ 64 * 65535 := Nat.mul_le_mul_right _ (by omega); omega)
           go_upto_region 20 with (fail)
           refine wp_region_T [0, 0, 1, 0, 0, 0, 0, 0, 1, 0, 0, 0, 1, 0, 0, 1, 0, 0] hK ?_
           clear hK
           iterate 2 refine e0 ?_
           obtain ⟨b6, hb6⟩ : ∃ b : Bool, RowKit.Hid ((upD down j) = b) := ⟨_, hid rfl⟩
           refine eQ (v := .bool b6) (fun w k => rup_any w (hd.below k.old) j (by have := hdl.out; omega)) ?_ (hv := by rw [hb6.out])
           iterate 2 refine e0 ?_
           cases b6
           · --
            iterate 5 refine eN ?_
            iterate 2 refine e0 ?_
            iterate 5 refine eN ?_
            refine e0 ?_
            refine sxEnd (fun W17 hK => ?_)
            (try go_wp2)
            go_roundw
            case rel => exact ⟨j + 1, L, cc, (by first | rfl | go_num), (by first | rfl | go_num), (by omega), hid (pass_none h_p.out (arTo_no (.inl hb6.out))), hK⟩
            case measure => simp [intOf] <;> omega
           · --
            iterate 3 refine e0 ?_
            refine eR (fun w k => (k.own m0).int edy.out) ?_
            refine eB (decide (dy < 0)) (fun b7 hb7 => ?_)
            iterate 2 refine e0 ?_
            cases b7
            · --
             have q_b7 : 0 ≤ dy := Int.not_lt.1 (of_decide_eq_false hb7.out)
             refine eL m1 ?_
             iterate 2 refine e0 ?_
             obtain ⟨b8, hb8⟩ : ∃ b : Bool, RowKit.Hid ((trD t (hN t j) r) = b) := ⟨_, hid rfl⟩
             refine eQ (v := .bool b8) (fun w k => rtransit_any w (ht.below k.old) (hN t j) r hl ht2) ?_ (hv := by rw [hb8.out])
             iterate 2 refine e0 ?_
             refine sxEnd (fun W18 hK => ?_)
             cases b8
             · --
              (try go_wp2)
              go_roundw
              case rel => exact ⟨j + 1, L, cc, (by first | rfl | go_num), (by first | rfl | go_num), (by omega), hid (pass_none h_p.out (arTo_no (.inr hb8.out))), hK⟩
              case measure => simp [intOf] <;> omega
             · --
              go_upto_region 21 with (fail)
              refine wp_region_S _ [0, 0, 0, 0, 0, 0, 1, 0, 0] hK ?_ (List.Sublist.refl _)
              clear hK
              iterate 3 refine e0 ?_
              refine eR0 (fun w k => (k.own m0).int edy.out) ?_
              refine eL0 m1 ?_
              refine e0 ?_
              refine eQ (fun w k => rcost_any w (ht.below k.old) j hl ht2 ha) ?_
              refine eV (.int .i64 (dy + (cN t j : Int))) (fun w' => by go_simp; (try go_bits); exact ⟨congrArg (Value.int .i64) (by first | omega | (unfold wrap64; omega)), rfl⟩) ?_
              refine e0 ?_
              refine sxEnd (fun W19 hK => ?_)
              have i20 : tN t j < (nN t) := ht_l
              have l20 : tN t j < L.length := Nat.lt_of_lt_of_eq i20 (hK.len m0)
              obtain ⟨dx, edx⟩ : ∃ x, RowKit.Hid (L[tN t j]? = some x) := ⟨_, hid (List.getElem?_eq_getElem l20)⟩
              go_upto_region 22 with (fail)
              refine wp_region_T [0, 0, 0, 1, 0, 0, 0, 0, 0, 0, 1, 0, 0] hK ?_
              clear hK
              iterate 3 refine e0 ?_
              refine eR (fun w k => (k.own m0).int edx.out) ?_
              refine eB (decide (dx < 0)) (fun b9 hb9 => ?_)
              refine e0 ?_
              cases b9
              · --
               have q_b9 : 0 ≤ dx := Int.not_lt.1 (of_decide_eq_false hb9.out)
               iterate 4 refine e0 ?_
               refine eR (fun w k => (k.own m0).int edx.out) ?_
               refine eB (decide (((dy + (cN t j : Int))) < dx)) (fun b10 hb10 => ?_)
               refine e0 ?_
               refine sxEnd (fun W21 hK => ?_)
               cases b10
               · --
                have q_b10 : dx ≤ ((dy + (cN t j : Int))) := Int.not_lt.1 (of_decide_eq_false hb10.out)
                (try go_wp2)
                go_roundw
                case rel => exact ⟨j + 1, L, cc, (by first | rfl | go_num), (by first | rfl | go_num), (by omega), hid (pass_keep h_p.out (arTo_of hb6.out hb8.out) (by rw [Bool.eq_false_iff]; intro q; have q := relB_iff.1 q; have q : 0 ≤ atD L (hN t j) ∧ (atD L (tN t j) < 0 ∨ atD L (hN t j) + (cN t j : Int) < atD L (tN t j)) := q; rw [atD_of edy.out, atD_of edx.out] at q; omega)), hK⟩
                case measure => simp [intOf] <;> omega
               · --
                have q_b10 : ((dy + (cN t j : Int))) < dx := of_decide_eq_true hb10.out
                go_upto_region 23 with (fail)
                refine wp_region_T [0, 0, 0, 0, 4] hK ?_
                clear hK
                iterate 4 refine e0 ?_
                refine eWI (y := (dy + (cN t j : Int))) 0 l20 ?_ (hi := rfl)
                refine sxEnd (fun W22 hK => ?_)
                have hst := hid (pass_set h_p.out (arTo_of hb6.out hb8.out) (relB_iff.2 (by show 0 ≤ atD L (hN t j) ∧ (atD L (tN t j) < 0 ∨ atD L (hN t j) + (cN t j : Int) < atD L (tN t j)); rw [atD_of edy.out, atD_of edx.out]; omega)))
                rw [show L.set (tN t j) (dy + (cN t j : Int)) = L.set (tN t j) (atD L (hN t j) + (cN t j : Int)) from (by rw [atD_of edy.out])] at hK
                (try go_wp2)
                go_roundw
                case rel => exact ⟨j + 1, L.set (tN t j) (atD L (hN t j) + (cN t j : Int)), true, (by first | rfl | go_num), (by first | rfl | go_num), (by omega), hid hst.out, hK⟩
                case measure => simp [intOf] <;> omega
              · --
               have q_b9 : dx < 0 := of_decide_eq_true hb9.out
               iterate 6 refine eN ?_
               refine e0 ?_
               refine sxEnd (fun W23 hK => ?_)
               go_upto_region 23 with (fail)
               refine wp_region_T [0, 0, 0, 0, 4] hK ?_
               clear hK
               iterate 4 refine e0 ?_
               refine eWI (y := (dy + (cN t j : Int))) 0 l20 ?_ (hi := rfl)
               refine sxEnd (fun W24 hK => ?_)
               have hst := hid (pass_set h_p.out (arTo_of hb6.out hb8.out) (relB_iff.2 (by show 0 ≤ atD L (hN t j) ∧ (atD L (tN t j) < 0 ∨ atD L (hN t j) + (cN t j : Int) < atD L (tN t j)); rw [atD_of edy.out, atD_of edx.out]; omega)))
               rw [show L.set (tN t j) (dy + (cN t j : Int)) = L.set (tN t j) (atD L (hN t j) + (cN t j : Int)) from (by rw [atD_of edy.out])] at hK
               (try go_wp2)
               go_roundw
               case rel => exact ⟨j + 1, L.set (tN t j) (atD L (hN t j) + (cN t j : Int)), true, (by first | rfl | go_num), (by first | rfl | go_num), (by omega), hid hst.out, hK⟩
               case measure => simp [intOf] <;> omega
            · --
             have q_b7 : dy < 0 := of_decide_eq_true hb7.out
             iterate 5 refine eN ?_
             refine e0 ?_
             refine sxEnd (fun W25 hK => ?_)
             (try go_wp2)
             go_roundw
             case rel => exact ⟨j + 1, L, cc, (by first | rfl | go_num), (by first | rfl | go_num), (by omega), hid (pass_dead h_p.out (by rw [atD_of edy.out]; omega)), hK⟩
             case measure => simp [intOf] <;> omega
      · --
       have q_b4 : ((j : Int)) < (((nN t) : Int)) := of_decide_eq_true hb4.out
       have hj : j < nN t := by omega
       have i26 : j < (nN t) := hj
       have l26 : j < (fillD (nN t) j).length := Nat.lt_of_lt_of_eq i26 (hK.len m0)
       obtain ⟨x, ex⟩ : ∃ x, RowKit.Hid ((fillD (nN t) j)[j]? = some x) := ⟨_, hid (List.getElem?_eq_getElem l26)⟩
       go_upto_region 9 with (fail)
       refine wp_region_T [0, 0, 0, 4] hK ?_
       clear hK
       iterate 3 refine e0 ?_
       refine eWI (y := (-1)) 0 l26 ?_ (hi := rfl)
       refine sxEnd (fun W27 hK => ?_)
       rw [show (fillD (nN t) j).set j (-1) = fillD (nN t) (j + 1) from (fill_step hj)] at hK
       (try go_wp2)
       go_roundw
       case rel => exact ⟨j + 1, (by first | rfl | go_num), (by omega), hK⟩
       case measure => simp [intOf] <;> omega
    · --
     have q_b3 : t.nodes ≤ d := of_decide_eq_true hb3.out
     replace hK := hK.fact (rO intK 3 none 0 0 ([] : List Int)) OwV.nil (fun _ h => by cases h)
     have hX : chkD t down [d] = 2 := by unfold chkD; rw [if_pos hb1.out, if_neg]; rw [List.all_cons, List.all_nil, Bool.and_true, Bool.and_eq_true, decide_eq_true_iff, decide_eq_true_iff]; omega
     go_wp2
     try go_ret
     show Q0 (.returned (.tuple #[.slice none 0 0, .int .i64 2])) _
     exact (by obtain rfl := hQ0.out; rw [show dstR t down d = [] from dstR_no (by rw [hX]; decide), hX]; exact ⟨⟨none, 0, 0⟩, rfl, ((hK.subl (sK2 (sC2 sZ2))).fact (cF _) (fun e => absurd e (by decide))).up1⟩)
   · --
    have q_b2 : d < 0 := of_decide_eq_true hb2.out
    iterate 4 refine eN ?_
    refine e0 ?_
    refine sxEnd (fun W28 hK => ?_)
    replace hK := hK.fact (rO intK 3 none 0 0 ([] : List Int)) OwV.nil (fun _ h => by cases h)
    have hX : chkD t down [d] = 2 := by unfold chkD; rw [if_pos hb1.out, if_neg]; rw [List.all_cons, List.all_nil, Bool.and_true, Bool.and_eq_true, decide_eq_true_iff, decide_eq_true_iff]; omega
    go_wp2
    try go_ret
    show Q0 (.returned (.tuple #[.slice none 0 0, .int .i64 2])) _
    exact (by obtain rfl := hQ0.out; rw [show dstR t down d = [] from dstR_no (by rw [hX]; decide), hX]; exact ⟨⟨none, 0, 0⟩, rfl, ((hK.subl (sK2 (sC2 sZ2))).fact (cF _) (fun e => absurd e (by decide))).up1⟩)
set_option maxRecDepth 100000 in
theorem rdist_any (w : World) {v_t : Value} {t : TopD} (ht : TopV w v_t t) {p_d : Option Addr} {n_d c_d : Nat} {down : List Bool} (hd : SlV boolK w (.slice p_d n_d c_d) down) (d : Int) (hl : t.links.length ≤ 100000) :
    Calls Tryz.prog 19 #[v_t, .slice p_d n_d c_d, .int .i64 d] w fun e w' => ∃ x : Sl, e = .returned (.tuple #[.slice x.p x.l x.c, .int .i64 (chkD t down [d])]) ∧ SS w [rO intK 3 x.p x.l x.c (dstR t down d), cF (chkD t down [d] = 0 → IsDst t down d.toNat (dstD t down d.toNat))] w' := by
  have ht_0 := ht
  obtain ⟨p_t, n_t, c_t, q_t, m_t, d_t, rfl, ht_1, ht_2⟩ := ht_0; have b_t : m_t ≤ 100000 := (by rw [ht_2.one0]; exact hl); have a_t : arcsD t ≤ 200000 := (by unfold arcsD; omega)
  have hK := SS.start w
  refine Calls.hide (fun Q0 hQ0 => ?_)
  go_enter Tryz.func19, Tryz.ntmps19
  go_upto_region 0 with (fail)
  refine wp_region_T [3, 0, 0] hK ?_
  clear hK
  refine eA (.cells #[.int .i64 t.nodes, .slice p_t n_t c_t, .slice q_t m_t d_t] 25) (fun R1 => ?_)
  iterate 2 refine e0 ?_
  refine sxEnd (fun W2 hK => ?_)
  go_upto_region 1 with (fail)
  refine wp_region_T [1, 0, 0, 2, 0, 0, 0, 0] hK ?_
  clear hK
  refine eL m0 ?_
  iterate 2 refine e0 ?_
  refine eC (fun w k => rsearch_any w (ht.below k.old) (hd.below k.old) d hl) (fun x3 => ?_)
  obtain ⟨p4, n4, c4⟩ := x3; dsimp only
  iterate 4 refine e0 ?_
  refine sxEnd (fun W5 hK => ?_)
  go_wp2
  try go_ret
  show Q0 (.returned (.tuple #[.slice p4 n4 c4, .int .i64 (chkD t down [d])])) _
  exact (by obtain rfl := hQ0.out; exact ⟨⟨p4, n4, c4⟩, rfl, hK.subl (sK2 (sK2 (sC2 sZ2)))⟩)
end Go.Proofs.YtmcfomainmppdaaGreatDoor
namespace Go.Proofs.YtmcfomainmppdaaGreatDoor
open Go.RowKit
open Go.Lib (decDigits)
set_option maxRecDepth 100000 in
theorem rnext_any (w : World) {v_t : Value} {t : TopD} (ht : TopV w v_t t) {p_d : Option Addr} {n_d c_d : Nat} {down : List Bool} (hd : SlV boolK w (.slice p_d n_d c_d) down) {p_D : Option Addr} {n_D c_D : Nat} {D : List Int} (hD : SlV intK w (.slice p_D n_D c_D) D) (n : Nat) (d : Nat) (hl : t.links.length ≤ 100000) (ht2 : topOk t = true) (hdl : RowKit.Hid (down.length = 0 ∨ down.length = arcsD t)) (hDl : D.length = nN t) (hsm : ∀ x, atD D x ≤ 4300000) :
    Calls Tryz.prog 93 #[v_t, .slice p_d n_d c_d, .slice p_D n_D c_D, .int .i64 (n : Int), .int .i64 (d : Int)] w fun e w' => ∃ x : Sl, e = .returned (.slice x.p x.l x.c) ∧ SS w [rO intK 3 x.p x.l x.c (natI (nxtD t down D n d))] w' := by
  have ht_0 := ht
  obtain ⟨p_t, n_t, c_t, q_t, m_t, d_t, rfl, ht_1, ht_2⟩ := ht_0; have b_t : m_t ≤ 100000 := (by rw [ht_2.one0]; exact hl); have a_t : arcsD t ≤ 200000 := (by unfold arcsD; omega)
  have hK := SS.start w
  refine Calls.hide (fun Q0 hQ0 => ?_)
  go_enter Tryz.func93, Tryz.ntmps93
  go_upto_region 0 with (fail)
  refine wp_region_T [3, 0] hK ?_
  clear hK
  refine eA (.cells #[.int .i64 t.nodes, .slice p_t n_t c_t, .slice q_t m_t d_t] 25) (fun R1 => ?_)
  refine e0 ?_
  refine sxEnd (fun W2 hK => ?_)
  replace hK := hK.fact (rO intK 3 none 0 0 (natI (selD (fun a => decide (tN t a = n) && onD t down D d a) 0))) OwV.nil (fun _ h => by cases h)
  go_wp2_with fail
  go_loopw [12, 11] (fun s12 s11 wl => ∃ (j : Nat) (p : Option Addr) (n_ : Nat) (c : Nat), s12 = .int .i64 (j : Int) ∧ s11 = .slice p n_ c ∧ (j ≤ arcsD t) ∧ SS w ([rO intK 3 p n_ c (natI (selD (fun a => decide (tN t a = n) && onD t down D d a) j)), bx R1 (.cells #[.int .i64 t.nodes, .slice p_t n_t c_t, .slice q_t m_t d_t] 25)]) wl) (fun s12 s11 _ => arcsD t - (intOf s12).toNat)
  case atStart => exact ⟨0, none, 0, 0, rfl, rfl, (by omega), hK⟩
  case round =>
   clear hK
   obtain ⟨j, p, n_, c, rfl, rfl, hj0, hK⟩ := hrel
   generalize wr = W3 at hK ⊢
   go_upto_region 3 with (fail)
   refine wp_region_T [0, 0, 1, 0, 0, 0] hK ?_
   clear hK
   iterate 2 refine e0 ?_
   refine eL m1 ?_
   refine e0 ?_
   refine eV (.int .i64 ((arcsD t : Nat) : Int)) (fun w' => by go_simp; (try go_bits); exact ⟨congrArg (Value.int .i64) (by unfold arcsD; have := ht_2.one0; first | omega | (unfold wrap64; omega)), rfl⟩) ?_
   refine eB (decide (((j : Int)) < (((arcsD t : Nat) : Int)))) (fun b1 hb1 => ?_)
   refine sxEnd (fun W4 hK => ?_)
   cases b1
   · --
    have q_b1 : (((arcsD t : Nat) : Int)) ≤ ((j : Int)) := Int.not_lt.1 (of_decide_eq_false hb1.out)
    obtain rfl : j = arcsD t := by omega
    go_wp2
    try go_ret
    show Q0 (.returned (.slice p n_ c)) _
    exact (by obtain rfl := hQ0.out; exact ⟨⟨p, n_, c⟩, rfl, hK.subl (sK2 (sC2 sZ2))⟩)
   · --
    have q_b1 : ((j : Int)) < (((arcsD t : Nat) : Int)) := of_decide_eq_true hb1.out
    have ha : j < arcsD t := by omega
    go_upto_region 5 with (fail)
    refine wp_region_T [1, 0, 1, 0, 0, 0, 1, 0, 0, 0, 0, 1, 0] hK ?_
    clear hK
    refine eL m1 ?_
    refine e0 ?_
    refine eQ (fun w k => rtail_any w (ht.below k.old) j hl ht2 ha) ?_
    refine e0 ?_
    refine eB ((((tN t j : Nat) : Int)) == ((n : Int))) (fun b2 hb2 => ?_)
    refine e0 ?_
    cases b2
    · --
     iterate 6 refine eN ?_
     refine e0 ?_
     refine sxEnd (fun W5 hK => ?_)
     rw [show natI (selD (fun a => decide (tN t a = n) && onD t down D d a) j) = natI (selD (fun a => decide (tN t a = n) && onD t down D d a) (j + 1)) from (by rw [sel_no (by rw [show decide (tN t j = n) = false from decide_eq_false (by have q := hb2.out; simp at q; omega)]; rfl)])] at hK
     (try go_wp2)
     go_roundw
     case rel => exact ⟨j + 1, p, n_, c, (by first | rfl | go_num), (by first | rfl | go_num), (by omega), hK⟩
     case measure => simp [intOf] <;> omega
    · --
     refine eL m1 ?_
     iterate 4 refine e0 ?_
     obtain ⟨b3, hb3⟩ : ∃ b : Bool, RowKit.Hid ((onD t down D d j) = b) := ⟨_, hid rfl⟩
     refine eQ (v := .bool b3) (fun w k => on_any w (ht.below k.old) (hd.below k.old) (hD.below k.old) j d hl ht2 hdl hDl hsm ha) ?_ (hv := by rw [hb3.out])
     refine e0 ?_
     refine sxEnd (fun W6 hK => ?_)
     cases b3
     · --
      rw [show natI (selD (fun a => decide (tN t a = n) && onD t down D d a) j) = natI (selD (fun a => decide (tN t a = n) && onD t down D d a) (j + 1)) from (by rw [sel_no (by rw [hb3.out, Bool.and_false])])] at hK
      (try go_wp2)
      go_roundw
      case rel => exact ⟨j + 1, p, n_, c, (by first | rfl | go_num), (by first | rfl | go_num), (by omega), hK⟩
      case measure => simp [intOf] <;> omega
     · --
      go_upto_region 6 with (fail)
      refine wp_region_T [0, 0, 3, 5, 0] hK ?_
      clear hK
      iterate 2 refine e0 ?_
      refine eA (.cells #[.int .i64 (j : Int)] 3) (fun R7 => ?_)
      refine eApp 1 intK_free rfl infoZ (fun w k => k.one1 (K := intK) (x := (j : Int)) m0 rfl) (by have := sel_len (fun a => decide (tN t a = n) && onD t down D d a) j; rw [natI_len]; simp; omega) (fun x8 => ?_)
      obtain ⟨p8, n8, c8⟩ := x8; dsimp only
      refine e0 ?_
      refine sxEnd (fun W9 hK => ?_)
      rw [show (natI (selD (fun a => decide (tN t a = n) && onD t down D d a) j)) ++ [(j : Int)] = natI (selD (fun a => decide (tN t a = n) && onD t down D d a) (j + 1)) from (by rw [natI_snoc, sel_yes (by rw [show decide (tN t j = n) = true from decide_eq_true (by have q := hb2.out; simp at q; omega), hb3.out]; rfl)])] at hK
      (try go_wp2)
      go_roundw
      case rel => exact ⟨j + 1, p8, n8, c8, (by first | rfl | go_num), (by first | rfl | go_num), (by omega), (hK.subl (sC2 (List.Sublist.refl _)))⟩
      case measure => simp [intOf] <;> omega
set_option maxRecDepth 100000 in
set_option maxHeartbeats 1000000 in
theorem rnextR_any (w : World) {v_t : Value} {t : TopD} (ht : TopV w v_t t) {p_d : Option Addr} {n_d c_d : Nat} {down : List Bool} (hd : SlV boolK w (.slice p_d n_d c_d) down) (n : Int) (d : Int) (hl : t.links.length ≤ 100000) :
    Calls Tryz.prog 58 #[v_t, .slice p_d n_d c_d, .int .i64 n, .int .i64 d] w fun e w' => ∃ x : Sl, e = .returned (.tuple #[.slice x.p x.l x.c, .int .i64 (chkN t down n d)]) ∧ SS w [rO intK 3 x.p x.l x.c (natI (nxtR t down n d))] w' := by
  have ht_0 := ht
  obtain ⟨p_t, n_t, c_t, q_t, m_t, d_t, rfl, ht_1, ht_2⟩ := ht_0; have b_t : m_t ≤ 100000 := (by rw [ht_2.one0]; exact hl); have a_t : arcsD t ≤ 200000 := (by unfold arcsD; omega)
  have hK := SS.start w
  refine Calls.hide (fun Q0 hQ0 => ?_)
  go_enter Tryz.func58, Tryz.ntmps58
  go_upto_region 0 with (fail)
  refine wp_region_T [3, 0, 0] hK ?_
  clear hK
  refine eA (.cells #[.int .i64 t.nodes, .slice p_t n_t c_t, .slice q_t m_t d_t] 25) (fun R1 => ?_)
  iterate 2 refine e0 ?_
  refine sxEnd (fun W2 hK => ?_)
  go_upto_region 1 with (fail)
  refine wp_region_T [1, 0, 0, 2, 0, 0, 0, 0, 0] hK ?_
  clear hK
  refine eL m0 ?_
  iterate 2 refine e0 ?_
  refine eC (fun w k => rdist_any w (ht.below k.old) (hd.below k.old) d hl) (fun x3 => ?_)
  obtain ⟨p4, n4, c4⟩ := x3; dsimp only
  iterate 5 refine e0 ?_
  refine sxEnd (fun W5 hK => ?_)
  go_upto_region 2 with (fail)
  refine wp_region_T [0, 0] hK ?_
  clear hK
  refine e0 ?_
  refine eB (((chkD t down [d])) != 0) (fun b1 hb1 => ?_)
  refine sxEnd (fun W6 hK => ?_)
  cases b1
  · --
   go_upto_region 4 with (fail)
   refine wp_region_T [0, 0, 0, 0, 0, 1, 0, 0] hK ?_
   clear hK
   refine e0 ?_
   refine eB (decide (n < 0)) (fun b2 hb2 => ?_)
   refine e0 ?_
   cases b2
   · --
    have q_b2 : 0 ≤ n := Int.not_lt.1 (of_decide_eq_false hb2.out)
    iterate 2 refine e0 ?_
    refine eL m2 ?_
    refine eB (decide (t.nodes ≤ n)) (fun b3 hb3 => ?_)
    refine e0 ?_
    refine sxEnd (fun W7 hK => ?_)
    cases b3
    · --
     have q_b3 : n < t.nodes := Int.not_le.1 (of_decide_eq_false hb3.out)
     have hc := hid (show chkD t down [d] = 0 by have q := hb1.out; simpa using q); have hI0 := hid (hK.get m1 hc.out)
     replace hK := hK.subl (sK2 (sC2 (List.Sublist.refl _)))
     have hok := hid (chk_ok hc.out); obtain ⟨n1, rfl⟩ : ∃ k : Nat, n = (k : Int) := ⟨n.toNat, (Int.toNat_of_nonneg (by omega)).symm⟩; obtain ⟨d1, rfl⟩ : ∃ k : Nat, d = (k : Int) := ⟨d.toNat, (Int.toNat_of_nonneg hok.out.2.2.1).symm⟩; have ht2 := hok.out.1; have hnn := hid (topN ht2).1; have hn1 : n1 < nN t := (by have q := hnn.out; omega); have hI : RowKit.Hid (IsDst t down d1 (dstD t down d1)) := hI0; clear hI0; have hX := hid (show chkN t down n1 d1 = 0 by unfold chkN; rw [if_pos hc.out, if_pos (by omega)])
     rw [show dstR t down d1 = dstD t down d1 from dstR_ok hc.out] at hK
     go_upto_region 6 with (fail)
     refine wp_region_T [1, 0, 0, 0, 0, 2, 0, 0] hK ?_
     clear hK
     refine eL m1 ?_
     iterate 4 refine e0 ?_
     refine eC (fun w k => rnext_any w (ht.below k.old) (hd.below k.old) (k.slv m0) n1 d1 hl ht2 (hid hok.out.2.1) hI.out.1 (hI.out.small ht2)) (fun x8 => ?_)
     obtain ⟨p9, n9, c9⟩ := x8; dsimp only
     iterate 2 refine e0 ?_
     refine sxEnd (fun W10 hK => ?_)
     go_wp2
     try go_ret
     show Q0 (.returned (.tuple #[.slice p9 n9 c9, .int .i64 0])) _
     exact (by obtain rfl := hQ0.out; rw [show nxtR t down n1 d1 = nxtD t down (dstD t down d1) n1 d1 from if_pos hX.out, hX.out]; exact ⟨⟨p9, n9, c9⟩, rfl, hK.subl (sK2 (sC2 (sC2 sZ2)))⟩)
    · --
     have q_b3 : t.nodes ≤ n := of_decide_eq_true hb3.out
     replace hK := hK.fact (rO intK 3 none 0 0 ([] : List Int)) OwV.nil (fun _ h => by cases h)
     have hX : chkN t down n d = 2 ∧ chkN t down n d ≠ 0 := by unfold chkN; have q := hb1.out; simp at q; rw [if_pos q, if_neg (by omega)]; exact ⟨rfl, by decide⟩
     go_wp2
     try go_ret
     show Q0 (.returned (.tuple #[.slice none 0 0, .int .i64 2])) _
     exact (by obtain rfl := hQ0.out; rw [show nxtR t down n d = [] from if_neg hX.2, hX.1]; exact ⟨⟨none, 0, 0⟩, rfl, hK.subl (sK2 (sC2 (sC2 (sC2 sZ2))))⟩)
   · --
    have q_b2 : n < 0 := of_decide_eq_true hb2.out
    iterate 4 refine eN ?_
    refine e0 ?_
    refine sxEnd (fun W11 hK => ?_)
    replace hK := hK.fact (rO intK 3 none 0 0 ([] : List Int)) OwV.nil (fun _ h => by cases h)
    have hX : chkN t down n d = 2 ∧ chkN t down n d ≠ 0 := by unfold chkN; have q := hb1.out; simp at q; rw [if_pos q, if_neg (by omega)]; exact ⟨rfl, by decide⟩
    go_wp2
    try go_ret
    show Q0 (.returned (.tuple #[.slice none 0 0, .int .i64 2])) _
    exact (by obtain rfl := hQ0.out; rw [show nxtR t down n d = [] from if_neg hX.2, hX.1]; exact ⟨⟨none, 0, 0⟩, rfl, hK.subl (sK2 (sC2 (sC2 (sC2 sZ2))))⟩)
  · --
   replace hK := hK.fact (rO intK 3 none 0 0 ([] : List Int)) OwV.nil (fun _ h => by cases h)
   have hX : chkN t down n d = chkD t down [d] ∧ chkN t down n d ≠ 0 := by unfold chkN; have q := hb1.out; simp at q; rw [if_neg q]; exact ⟨rfl, q⟩
   go_wp2
   try go_ret
   show Q0 (.returned (.tuple #[.slice none 0 0, .int .i64 (chkD t down [d])])) _
   exact (by obtain rfl := hQ0.out; rw [show nxtR t down n d = [] from if_neg hX.2, hX.1]; exact ⟨⟨none, 0, 0⟩, rfl, hK.subl (sK2 (sC2 (sC2 (sC2 sZ2))))⟩)
end Go.Proofs.YtmcfomainmppdaaGreatDoor
