/- Laws of next arcs and of numbers of paths. -/
import Derived.Test.YtokhapaffleffaaGreatDsY
namespace Go.Proofs.YtokhapaffleffaaGreat
open Go.RowKit
open Go.Lib (decDigits)
def largeD (t : TopD) (down : List Bool) : Bool := decide (100 < t.over.length ∨ 24 < t.links.length ∨ 100 < down.length ∨ 16 < t.nodes)
theorem nxtR_len (t : TopD) (down : List Bool) (n d : Int) : (nxtR t down n d).length ≤ arcsD t := by
  unfold nxtR
  split
  · exact nxt_len ..
  · exact Nat.zero_le _
theorem ordR_len {t : TopD} {down : List Bool} {d : Int} (h : chkD t down [d] = 0 → IsOrd (nN t) (dstD t down d.toNat) (ordD (dstD t down d.toNat))) : (ordR t down d).length ≤ nN t := by
  unfold ordR
  split
  · rename_i hc
    have ho := h hc
    exact Nat.le_trans (nd_len (nd_ord ho) (fun x h => List.mem_range.2 ((ho.2 x).1 h).1)) (by simp)
  · exact Nat.zero_le _
set_option maxRecDepth 100000 in
theorem large_any (w : World) {v_t : Value} {t : TopD} (ht : TopV w v_t t) {p_d : Option Addr} {n_d c_d : Nat} {down : List Bool} (hd : SlV boolK w (.slice p_d n_d c_d) down)  :
    Calls Tryz.prog 11 #[v_t, .slice p_d n_d c_d] w fun e w' => e = .returned (.bool (largeD t down)) ∧ Below w.heap.size w w' := by
  have ht_0 := ht
  obtain ⟨p_t, n_t, c_t, q_t, m_t, d_t, rfl, ht_1, ht_2⟩ := ht_0
  have hK := SS.start w
  refine Calls.hide (fun Q0 hQ0 => ?_)
  go_enter Tryz.func11, Tryz.ntmps11
  go_upto_region 0 with (fail)
  refine wp_region_T [3, 0] hK ?_
  clear hK
  refine eA (.cells #[.int .i64 t.nodes, .slice p_t n_t c_t, .slice q_t m_t d_t] 25) (fun R1 => ?_)
  refine e0 ?_
  refine sxEnd (fun W2 hK => ?_)
  go_upto_region 1 with (fail)
  refine wp_region_T [0, 1, 0, 0, 0, 0, 1, 0, 0, 0, 0, 0, 0, 0, 0, 0, 0, 1, 0, 0, 0] hK ?_
  clear hK
  refine e0 ?_
  refine eL m0 ?_
  refine e0 ?_
  refine eB (decide (100 < ((n_t : Int)))) (fun b1 hb1 => ?_)
  refine e0 ?_
  cases b1
  · --
   have q_b1 : ((n_t : Int)) ≤ 100 := Int.not_lt.1 (of_decide_eq_false hb1.out)
   refine e0 ?_
   refine eL m0 ?_
   refine e0 ?_
   refine eB (decide (24 < ((m_t : Int)))) (fun b2 hb2 => ?_)
   iterate 2 refine e0 ?_
   cases b2
   · --
    have q_b2 : ((m_t : Int)) ≤ 24 := Int.not_lt.1 (of_decide_eq_false hb2.out)
    iterate 2 refine e0 ?_
    refine eB (decide (100 < ((n_d : Int)))) (fun b3 hb3 => ?_)
    iterate 2 refine e0 ?_
    cases b3
    · --
     have q_b3 : ((n_d : Int)) ≤ 100 := Int.not_lt.1 (of_decide_eq_false hb3.out)
     refine e0 ?_
     refine eL m0 ?_
     refine eB (decide (16 < t.nodes)) (fun b4 hb4 => ?_)
     iterate 2 refine e0 ?_
     refine sxEnd (fun W3 hK => ?_)
     go_wp2
     try go_ret
     show Q0 (.returned (.bool b4)) _
     exact (by obtain rfl := hQ0.out; exact ⟨congrArg (fun z => Ending.returned (.bool z)) (by rw [← hb4.out]; unfold largeD; exact decide_eq_decide.2 (by have e1 := ht_1.one0; have e2 := ht_2.one0; have e3 := hd.one0; have qb1 := hb1.out; (try simp at qb1); have qb2 := hb2.out; (try simp at qb2); have qb3 := hb3.out; (try simp at qb3); omega)), hK.old⟩)
    · --
     have q_b3 : 100 < ((n_d : Int)) := of_decide_eq_true hb3.out
     iterate 3 refine eN ?_
     iterate 2 refine e0 ?_
     refine sxEnd (fun W4 hK => ?_)
     go_wp2
     try go_ret
     show Q0 (.returned (.bool true)) _
     exact (by obtain rfl := hQ0.out; exact ⟨congrArg (fun z => Ending.returned (.bool z)) (by unfold largeD; exact (decide_eq_true (by have e1 := ht_1.one0; have e2 := ht_2.one0; have e3 := hd.one0; have qb1 := hb1.out; (try simp at qb1); have qb2 := hb2.out; (try simp at qb2); have qb3 := hb3.out; (try simp at qb3); omega)).symm), hK.old⟩)
   · --
    have q_b2 : 24 < ((m_t : Int)) := of_decide_eq_true hb2.out
    iterate 3 refine eN ?_
    iterate 2 refine e0 ?_
    iterate 3 refine eN ?_
    iterate 2 refine e0 ?_
    refine sxEnd (fun W5 hK => ?_)
    go_wp2
    try go_ret
    show Q0 (.returned (.bool true)) _
    exact (by obtain rfl := hQ0.out; exact ⟨congrArg (fun z => Ending.returned (.bool z)) (by unfold largeD; exact (decide_eq_true (by have e1 := ht_1.one0; have e2 := ht_2.one0; have e3 := hd.one0; have qb1 := hb1.out; (try simp at qb1); have qb2 := hb2.out; (try simp at qb2); omega)).symm), hK.old⟩)
  · --
   have q_b1 : 100 < ((n_t : Int)) := of_decide_eq_true hb1.out
   iterate 4 refine eN ?_
   iterate 2 refine e0 ?_
   iterate 3 refine eN ?_
   iterate 2 refine e0 ?_
   iterate 3 refine eN ?_
   iterate 2 refine e0 ?_
   refine sxEnd (fun W6 hK => ?_)
   go_wp2
   try go_ret
   show Q0 (.returned (.bool true)) _
   exact (by obtain rfl := hQ0.out; exact ⟨congrArg (fun z => Ending.returned (.bool z)) (by unfold largeD; exact (decide_eq_true (by have e1 := ht_1.one0; have e2 := ht_2.one0; have e3 := hd.one0; have qb1 := hb1.out; (try simp at qb1); omega)).symm), hK.old⟩)
set_option maxRecDepth 100000 in
theorem thead_any (w : World) {v_t : Value} {t : TopD} (ht : TopV w v_t t) (a : Nat) (hl : t.links.length ≤ 100000) (ht2 : topOk t = true) (ha : a < arcsD t) :
    Calls Tryz.prog 18 #[v_t, .int .i64 (a : Int)] w fun e w' => e = .returned (.int .i64 ((hN t a : Nat) : Int)) ∧ Below w.heap.size w w' := by
  have ht_0 := ht
  obtain ⟨p_t, n_t, c_t, q_t, m_t, d_t, rfl, ht_1, ht_2⟩ := ht_0; have b_t : m_t ≤ 100000 := (by rw [ht_2.one0]; exact hl); have a_t : arcsD t ≤ 200000 := (by unfold arcsD; omega)
  have hK := SS.start w
  refine Calls.hide (fun Q0 hQ0 => ?_)
  go_enter Tryz.func18, Tryz.ntmps18
  go_upto_region 0 with (fail)
  refine wp_region_T [3, 0] hK ?_
  clear hK
  refine eA (.cells #[.int .i64 t.nodes, .slice p_t n_t c_t, .slice q_t m_t d_t] 25) (fun R1 => ?_)
  refine e0 ?_
  refine sxEnd (fun W2 hK => ?_)
  go_upto_region 1 with (fail)
  refine wp_region_T [1, 0, 1, 0] hK ?_
  clear hK
  refine eL m0 ?_
  refine e0 ?_
  refine eQ (fun w k => rhead_any w (ht.below k.old) a hl ht2 ha) ?_
  refine e0 ?_
  refine sxEnd (fun W3 hK => ?_)
  go_wp2
  try go_ret
  show Q0 (.returned (.int .i64 ((hN t a : Nat) : Int))) _
  exact (by obtain rfl := hQ0.out; exact ⟨rfl, hK.old⟩)
set_option maxRecDepth 100000 in
theorem lawNext_any (w : World) {v_t : Value} {t : TopD} (ht : TopV w v_t t) {p_d : Option Addr} {n_d c_d : Nat} {down : List Bool} (hd : SlV boolK w (.slice p_d n_d c_d) down) (n d : Int)  :
    Calls Tryz.prog 3 #[v_t, .slice p_d n_d c_d, .agg #[.int .i64 n, .int .i64 d]] w fun e w' => e = .returned (.bool true) ∧ Below w.heap.size w w' := by
  have ht_0 := ht
  obtain ⟨p_t, n_t, c_t, q_t, m_t, d_t, rfl, ht_1, ht_2⟩ := ht_0
  have hK := SS.start w
  refine Calls.hide (fun Q0 hQ0 => ?_)
  go_enter Tryz.func3, Tryz.ntmps3
  go_upto_region 0 with (fail)
  refine wp_region_T [3, 3, 0] hK ?_
  clear hK
  refine eA (.cells #[.int .i64 t.nodes, .slice p_t n_t c_t, .slice q_t m_t d_t] 25) (fun R1 => ?_)
  refine eA (.cells #[.int .i64 n, .int .i64 d] 26) (fun R2 => ?_)
  refine e0 ?_
  refine sxEnd (fun W3 hK => ?_)
  go_upto_region 1 with (fail)
  refine wp_region_T [1, 0] hK ?_
  clear hK
  refine eQ (fun w k => awake_any w  ) ?_
  refine e0 ?_
  refine sxEnd (fun W4 hK => ?_)
  go_upto_region 3 with (fail)
  refine wp_region_T [1, 0, 1] hK ?_
  clear hK
  refine eL m1 ?_
  refine e0 ?_
  obtain ⟨b1, hb1⟩ : ∃ b : Bool, RowKit.Hid ((largeD t down) = b) := ⟨_, hid rfl⟩
  refine eQ (v := .bool b1) (fun w k => large_any w (ht.below k.old) (hd.below k.old) ) ?_ (hv := by rw [hb1.out])
  refine sxEnd (fun W5 hK => ?_)
  cases b1
  · --
   have hlg := hid (show ¬ (100 < t.over.length ∨ 24 < t.links.length ∨ 100 < down.length ∨ 16 < t.nodes) from of_decide_eq_false (show largeD t down = false from hb1.out)); have hl : t.links.length ≤ 100000 := (by have := hlg.out; omega); have hl2 : t.links.length ≤ 24 := (by have := hlg.out; omega); have b_t : m_t ≤ 100000 := (by rw [ht_2.one0]; exact hl); have a_t : arcsD t ≤ 200000 := (by unfold arcsD; omega)
   go_upto_region 5 with (fail)
   refine wp_region_T [1, 0, 0, 1, 0, 1, 2, 0, 0, 0, 0, 0] hK ?_
   clear hK
   refine eL m1 ?_
   iterate 2 refine e0 ?_
   refine eL m0 ?_
   refine e0 ?_
   refine eL m0 ?_
   refine eC (fun w k => nextR_any w (ht.below k.old) (hd.below k.old) n d hl) (fun x6 => ?_)
   obtain ⟨p7, n7, c7⟩ := x6; dsimp only
   iterate 5 refine e0 ?_
   refine sxEnd (fun W8 hK => ?_)
   go_upto_region 6 with (fail)
   refine wp_region_T [1, 0, 0, 1, 0, 1, 2, 0, 0, 0, 0, 0] hK ?_
   clear hK
   refine eL m2 ?_
   iterate 2 refine e0 ?_
   refine eL m1 ?_
   refine e0 ?_
   refine eL m1 ?_
   refine eC (fun w k => rnextR_any w (ht.below k.old) (hd.below k.old) n d hl) (fun x9 => ?_)
   obtain ⟨p10, n10, c10⟩ := x9; dsimp only
   iterate 5 refine e0 ?_
   refine sxEnd (fun W11 hK => ?_)
   go_upto_region 7 with (fail)
   refine wp_region_T [0, 0, 0, 0, 0, 0, 1, 0, 0] hK ?_
   clear hK
   iterate 2 refine e0 ?_
   refine eV (.bool true) (fun w' => by go_simp; (try go_bits); first | exact ⟨rfl, rfl⟩ | exact ⟨congrArg Value.bool (by simp), rfl⟩) ?_
   iterate 3 refine e0 ?_
   obtain ⟨b2, hb2⟩ : ∃ b : Bool, RowKit.Hid ((decide ((natI (nxtR t down n d)) = (natI (nxtR t down n d)))) = b) := ⟨_, hid rfl⟩
   refine eQ (v := .bool b2) (fun w k => same_any w (k.slv m1) (k.slv m0) (by rw [natI_len]; have := nxtR_len t down n d; omega) (by rw [natI_len]; have := nxtR_len t down n d; omega)) ?_ (hv := by rw [hb2.out])
   iterate 2 refine e0 ?_
   refine sxEnd (fun W12 hK => ?_)
   go_wp2
   try go_ret
   show Q0 (.returned (.bool b2)) _
   exact (by obtain rfl := hQ0.out; exact ⟨congrArg (fun z => Ending.returned (.bool z)) (by rw [← hb2.out]; simp), hK.old⟩)
  · --
   go_wp2
   try go_ret
   show Q0 (.returned (.bool true)) _
   exact (by obtain rfl := hQ0.out; exact ⟨rfl, hK.old⟩)
set_option maxRecDepth 100000 in
theorem lawCount_any (w : World) {v_t : Value} {t : TopD} (ht : TopV w v_t t) {p_d : Option Addr} {n_d c_d : Nat} {down : List Bool} (hd : SlV boolK w (.slice p_d n_d c_d) down) (n d most : Int) (hM : most ≤ 9223372036854775807) :
    Calls Tryz.prog 6 #[v_t, .slice p_d n_d c_d, .agg #[.int .i64 n, .int .i64 d, .int .i64 most]] w fun e w' => e = .returned (.bool true) ∧ Below w.heap.size w w' := by
  have ht_0 := ht
  obtain ⟨p_t, n_t, c_t, q_t, m_t, d_t, rfl, ht_1, ht_2⟩ := ht_0
  have hK := SS.start w
  refine Calls.hide (fun Q0 hQ0 => ?_)
  go_enter Tryz.func6, Tryz.ntmps6
  go_upto_region 0 with (fail)
  refine wp_region_T [3, 3, 0] hK ?_
  clear hK
  refine eA (.cells #[.int .i64 t.nodes, .slice p_t n_t c_t, .slice q_t m_t d_t] 25) (fun R1 => ?_)
  refine eA (.cells #[.int .i64 n, .int .i64 d, .int .i64 most] 44) (fun R2 => ?_)
  refine e0 ?_
  refine sxEnd (fun W3 hK => ?_)
  go_upto_region 1 with (fail)
  refine wp_region_T [1, 0] hK ?_
  clear hK
  refine eQ (fun w k => awake_any w  ) ?_
  refine e0 ?_
  refine sxEnd (fun W4 hK => ?_)
  go_upto_region 3 with (fail)
  refine wp_region_T [1, 0, 1] hK ?_
  clear hK
  refine eL m1 ?_
  refine e0 ?_
  obtain ⟨b1, hb1⟩ : ∃ b : Bool, RowKit.Hid ((largeD t down) = b) := ⟨_, hid rfl⟩
  refine eQ (v := .bool b1) (fun w k => large_any w (ht.below k.old) (hd.below k.old) ) ?_ (hv := by rw [hb1.out])
  refine sxEnd (fun W5 hK => ?_)
  cases b1
  · --
   have hlg := hid (show ¬ (100 < t.over.length ∨ 24 < t.links.length ∨ 100 < down.length ∨ 16 < t.nodes) from of_decide_eq_false (show largeD t down = false from hb1.out)); have hl : t.links.length ≤ 100000 := (by have := hlg.out; omega); have hl2 : t.links.length ≤ 24 := (by have := hlg.out; omega); have b_t : m_t ≤ 100000 := (by rw [ht_2.one0]; exact hl); have a_t : arcsD t ≤ 200000 := (by unfold arcsD; omega)
   go_upto_region 5 with (fail)
   refine wp_region_T [1, 0, 0, 1, 0, 1, 0, 1, 1, 0, 0, 0, 0, 0] hK ?_
   clear hK
   refine eL m1 ?_
   iterate 2 refine e0 ?_
   refine eL m0 ?_
   refine e0 ?_
   refine eL m0 ?_
   refine e0 ?_
   refine eL m0 ?_
   refine eQ (fun w k => count_any w (ht.below k.old) (hd.below k.old) n d most hl (hid hM)) ?_
   iterate 5 refine e0 ?_
   refine sxEnd (fun W6 hK => ?_)
   go_upto_region 6 with (fail)
   refine wp_region_T [1, 0, 0, 1, 0, 1, 0, 1, 1, 0, 0, 0, 0, 0] hK ?_
   clear hK
   refine eL m1 ?_
   iterate 2 refine e0 ?_
   refine eL m0 ?_
   refine e0 ?_
   refine eL m0 ?_
   refine e0 ?_
   refine eL m0 ?_
   refine eQ (fun w k => rcount_any w (ht.below k.old) (hd.below k.old) n d most hl (hid hM)) ?_
   iterate 5 refine e0 ?_
   refine sxEnd (fun W7 hK => ?_)
   go_upto_region 7 with (fail)
   refine wp_region_S _ [0, 0, 0, 0, 0, 0, 0, 0, 0, 0, 0, 0, 0, 0, 0, 1, 0, 0, 0, 0, 0, 0, 1, 0, 0, 0] hK ?_ (List.Sublist.refl _)
   clear hK
   iterate 2 refine e0 ?_
   refine eV (.bool true) (fun w' => by go_simp; (try go_bits); first | exact ⟨rfl, rfl⟩ | exact ⟨congrArg Value.bool (by simp), rfl⟩) ?_
   iterate 3 refine e0 ?_
   refine eV (.bool true) (fun w' => by go_simp; (try go_bits); first | exact ⟨rfl, rfl⟩ | exact ⟨congrArg Value.bool (by simp), rfl⟩) ?_
   iterate 2 refine e0 ?_
   refine eL0 m1 ?_
   iterate 2 refine e0 ?_
   refine eL0 m0 ?_
   refine e0 ?_
   refine eL0 m0 ?_
   obtain ⟨b2, hb2⟩ : ∃ b : Bool, RowKit.Hid ((unqR t down n d) = b) := ⟨_, hid rfl⟩
   refine eQ (v := .bool b2) (fun w k => unique_any w (ht.below k.old) (hd.below k.old) n d hl) ?_ (hv := by rw [hb2.out])
   refine eL0 m1 ?_
   iterate 2 refine e0 ?_
   refine eL0 m0 ?_
   refine e0 ?_
   refine eL0 m0 ?_
   obtain ⟨b3, hb3⟩ : ∃ b : Bool, RowKit.Hid ((unqR t down n d) = b) := ⟨_, hid rfl⟩
   refine eQ (v := .bool b3) (fun w k => runique_any w (ht.below k.old) (hd.below k.old) n d hl) ?_ (hv := by rw [hb3.out])
   refine eB (b2 == b3) (fun b4 hb4 => ?_)
   iterate 2 refine e0 ?_
   refine sxEnd (fun W8 hK => ?_)
   go_wp2
   try go_ret
   show Q0 (.returned (.bool b4)) _
   exact (by obtain rfl := hQ0.out; exact ⟨congrArg (fun z => Ending.returned (.bool z)) (by rw [← hb4.out, ← hb2.out, ← hb3.out]; simp), hK.old⟩)
  · --
   go_wp2
   try go_ret
   show Q0 (.returned (.bool true)) _
   exact (by obtain rfl := hQ0.out; exact ⟨rfl, hK.old⟩)
end Go.Proofs.YtokhapaffleffaaGreat
