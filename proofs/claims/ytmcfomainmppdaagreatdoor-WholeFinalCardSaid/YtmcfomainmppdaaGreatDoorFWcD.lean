/- Components of the program: valid ones, their masks. -/
import Derived.Test.YtmcfomainmppdaaGreatDoorFWcC
import Derived.Test.YtmcfomainmppdaaGreatDoorFWhG
import Derived.Laws.EntriesVeiled
import Derived.Sort.CutIn
import Derived.Shelf.RegionOpen
namespace Go.Proofs.YtmcfomainmppdaaGreatDoor
open Go.RowKit
open Go.Shelf
open Go.Lib (decDigits)
section
variable {P : Program} {V : World} {ops : Array Oper} {Q : Act → World → Prop} {f0 fs fs' : List Ft} {ks : List Nat} {o : Oper} {rest : List Oper} {a a' : Act} {t : TypeId}
theorem eWB {g n c j : Nat} {xs : List Bool} {y : Bool} (i : Nat) (hj : j < xs.length) (h : Sx P V ops Q f0 ks rest fs' a') (hi : fs[i]? = some (rO boolK t (some ⟨g, 0, none⟩) n c xs) := by rfl) (hf : fs.set i (rO boolK t (some ⟨g, 0, none⟩) n c (xs.set j y)) = fs' := by (simp only [pB, pC]) <;> exact rfl) (hs : f0.Sublist fs' := by exact List.nil_sublist _) (hq : OzL i fs := by repeat (first | exact trivial | (show OzA _; assumption) | refine ⟨rfl, ?_⟩)) (hg : Wants ops o a := by first | exact wants0 rfl | exact wantsg rfl rfl rfl rfl)
    (h1 : ∀ w u, w.cell? ⟨g, j, none⟩ = some u → (∀ o, w.frozen? ⟨g, o, none⟩ = false) → Does P (fun u w' => u = undef ∧ w' = w.setCell ⟨g, j, none⟩ (.bool y)) ((execOp a.eval o).run P w) := by intro w' u c f; go_simp; exact ⟨rfl, rfl⟩) (ha : a.put o.dst undef = a' := by (simp only [mkOf, Act.put, pA, pB, pC, pD, pE]) <;> exact rfl) : Sx P V ops Q f0 (4 :: ks) (o :: rest) fs a :=
  sxS (R := g) (f2 := rO boolK t (some ⟨g, 0, none⟩) n c (xs.set j y)) hi rfl (fun _ h => h) (fun w k => qtZ hq) (by rw [hf]; exact hs) hg (fun w _ k => by
    obtain ⟨u, hu⟩ := OwV.some_cell k hj (j := 0) (by decide)
    refine (h1 w u (by have : j * boolK.sz + 0 = j := by show j * 1 + 0 = j; omega
                       rwa [this] at hu) (OwV.fz k)).mono fun u w' ⟨e1, e2⟩ => ?_
    have e3 : w' = putAt g (j * boolK.sz) [.bool y] w := by rw [show j * boolK.sz = j by show j * 1 = j; omega]; exact e2
    subst e3
    exact ⟨e1, ⟨_, _, rfl⟩, OwV.put k rfl hj _ (Below.refl _ _)⟩) (by rw [hf, ha]; exact h)
end
attribute [local go_sem] Oper.semAt_some
section
variable {R : Ending → World → Prop} {a : Act} {W V : World} {fs : List Ft} {D : Nat} {v4 v5 : Value}
set_option maxRecDepth 100000 in
theorem tmp_end {fn : Func} (hfn : fn.results = #[.tmp 4, .tmp 5]) (hD : a.defers = [{ target := .collected D, args := #[] }]) (h2 : a.tmps.getD 4 undef = v4) (h3 : a.tmps.getD 5 undef = v5)
    (hK : SS V (bx D (.deferred (some [])) :: fs) W) (hz : OzA fs) (hR : ∀ W', SS V fs W' → R (.returned (.tuple #[v4, v5])) W') :
    bodyPostM Fence.wide 0 Tryz.prog fn R .ret a W := by
  show LeavesInM _ _ _ _ _ _ a.defers .returning W
  rw [hD]
  rw [Array.getD_eq_getD_getElem?] at h2 h3
  have hK2 := hK.putO (o' := .deferred none) hz
  have ht := run_takeDeferred (P := Tryz.prog) (hK.box m0).2
  generalize W.putObj D (.deferred none) = W2 at hK2 ht
  refine ⟨by simp, .inl ⟨_, W2, rfl, ht, ⟨.tuple #[v4, v5], ?_, hR _ (hK2.subl (sC2 (List.Sublist.refl _)))⟩⟩⟩
  simp [results, hfn, go_sem, h2, h3]
end
set_option maxRecDepth 100000 in
theorem cwithin_any (w : World) {v_t : Value} {t : TopD} (ht : TopV w v_t t) {c : CmpD} (hl : t.links.length ≤ 100000) :
    Calls Tryz.prog 79 #[v_t, .agg #[.int .i64 c.k, .int .i64 c.n]] w fun e w' => e = .returned (.bool (winB t c)) ∧ Below w.heap.size w w' := by
  have ht_0 := ht
  obtain ⟨p_t, n_t, c_t, q_t, m_t, d_t, rfl, ht_1, ht_2⟩ := ht_0; have b_t : m_t ≤ 100000 := (by rw [ht_2.one0]; exact hl); have a_t : arcsD t ≤ 200000 := (by unfold arcsD; omega)
  have hK := SS.start w
  refine Calls.hide (fun Q0 hQ0 => ?_)
  go_enter Tryz.func79, Tryz.ntmps79
  go_upto_region 0 with (fail)
  refine wp_region_T [3, 3, 0] hK ?_
  clear hK
  refine eA (.cells #[.int .i64 t.nodes, .slice p_t n_t c_t, .slice q_t m_t d_t] 25) (fun R1 => ?_)
  refine eA (.cells #[.int .i64 c.k, .int .i64 c.n] 44) (fun R2 => ?_)
  refine e0 ?_
  refine sxEnd (fun W3 hK => ?_)
  go_upto_region 1 with (fail)
  refine wp_region_T [0, 1] hK ?_
  clear hK
  refine e0 ?_
  refine eL m0 ?_
  refine sxEnd (fun W4 hK => ?_)
  go_upto_region 2 with (fail)
  refine wp_region_T [0, 0] hK ?_
  clear hK
  refine eB (c.k == 1) (fun b1 hb1 => ?_)
  refine e0 ?_
  refine sxEnd (fun W5 hK => ?_)
  cases b1
  · --
   go_upto_region 4 with (fail)
   refine wp_region_T [0, 0] hK ?_
   clear hK
   refine eB (c.k == 2) (fun b2 hb2 => ?_)
   refine e0 ?_
   refine sxEnd (fun W6 hK => ?_)
   cases b2
   · --
    go_upto_region 6 with (fail)
    refine wp_region_T [0, 0] hK ?_
    clear hK
    refine eB (c.k == 3) (fun b3 hb3 => ?_)
    refine e0 ?_
    refine sxEnd (fun W7 hK => ?_)
    cases b3
    · --
     go_wp2
     try go_ret
     show Q0 (.returned (.bool false)) _
     exact (by obtain rfl := hQ0.out; exact ⟨congrArg (fun z => Ending.returned (.bool z)) (show _ = winB t c from (by unfold winB; rw [if_neg (show ¬ _ from (by have q := hb1.out; simpa using q))]; rw [if_neg (show ¬ _ from (by have q := hb2.out; simpa using q))]; rw [if_neg (show ¬ _ from (by have q := hb3.out; simpa using q))]; (try rfl))), hK.old⟩)
    · --
     go_upto_region 7 with (fail)
     refine wp_region_T [0, 1, 0, 0, 0, 1, 0, 0, 0] hK ?_
     clear hK
     refine e0 ?_
     refine eL m0 ?_
     refine eB (decide (1 ≤ c.n)) (fun b4 hb4 => ?_)
     refine e0 ?_
     cases b4
     · --
      have q_b4 : c.n < 1 := Int.not_le.1 (of_decide_eq_false hb4.out)
      iterate 3 refine eN ?_
      iterate 2 refine e0 ?_
      refine sxEnd (fun W8 hK => ?_)
      go_wp2
      try go_ret
      show Q0 (.returned (.bool false)) _
      exact (by obtain rfl := hQ0.out; exact ⟨congrArg (fun z => Ending.returned (.bool z)) (show _ = winB t c from (by unfold winB; rw [if_neg (show ¬ _ from (by have q := hb1.out; simpa using q))]; rw [if_neg (show ¬ _ from (by have q := hb2.out; simpa using q))]; rw [if_pos (by have q := hb3.out; simpa using q)]; first | rfl | (simp only [hb4.out]; done) | (simp only [hb4.out]; rfl) | (simp only [hb4.out, Bool.true_and, Bool.false_and]; rw [← hb4.out, ht_2.one0]))), hK.old⟩)
     · --
      have q_b4 : 1 ≤ c.n := of_decide_eq_true hb4.out
      refine e0 ?_
      refine eL m0 ?_
      refine eB (decide (c.n ≤ 64)) (fun b5 hb5 => ?_)
      iterate 2 refine e0 ?_
      refine sxEnd (fun W9 hK => ?_)
      go_wp2
      try go_ret
      show Q0 (.returned (.bool b5)) _
      exact (by obtain rfl := hQ0.out; exact ⟨congrArg (fun z => Ending.returned (.bool z)) (show _ = winB t c from (by unfold winB; rw [if_neg (show ¬ _ from (by have q := hb1.out; simpa using q))]; rw [if_neg (show ¬ _ from (by have q := hb2.out; simpa using q))]; rw [if_pos (by have q := hb3.out; simpa using q)]; first | rfl | (simp only [hb4.out, hb5.out]; done) | (simp only [hb4.out, hb5.out]; rfl) | (simp only [hb4.out, hb5.out, Bool.true_and, Bool.false_and]; rw [← hb5.out, ht_2.one0]))), hK.old⟩)
   · --
    go_upto_region 5 with (fail)
    refine wp_region_T [1, 0, 1, 1, 0] hK ?_
    clear hK
    refine eL m1 ?_
    refine e0 ?_
    refine eL m0 ?_
    obtain ⟨b3, hb3⟩ : ∃ z9 : Bool, RowKit.Hid ((decide (0 ≤ c.n) && decide (c.n < t.nodes)) = z9) := ⟨_, hid rfl⟩
    refine eQ (v := .bool b3) (fun w k => node_any w (ht.below k.old) c.n hl) ?_ (hv := by rw [hb3.out])
    refine e0 ?_
    refine sxEnd (fun W10 hK => ?_)
    go_wp2
    try go_ret
    show Q0 (.returned (.bool b3)) _
    exact (by obtain rfl := hQ0.out; exact ⟨congrArg (fun z => Ending.returned (.bool z)) (show _ = winB t c from (by unfold winB; rw [if_neg (show ¬ _ from (by have q := hb1.out; simpa using q))]; rw [if_pos (by have q := hb2.out; simpa using q)]; first | rfl | (simp only [hb3.out]; done) | (simp only [hb3.out]; rfl) | (simp only [hb3.out, Bool.true_and, Bool.false_and]; rw [← hb3.out, ht_2.one0]))), hK.old⟩)
  · --
   go_upto_region 3 with (fail)
   refine wp_region_T [0, 1, 0, 0, 0, 1, 0, 1, 0, 0, 0, 0] hK ?_
   clear hK
   refine e0 ?_
   refine eL m0 ?_
   refine eB (decide (0 ≤ c.n)) (fun b2 hb2 => ?_)
   refine e0 ?_
   cases b2
   · --
    have q_b2 : c.n < 0 := Int.not_le.1 (of_decide_eq_false hb2.out)
    iterate 6 refine eN ?_
    iterate 2 refine e0 ?_
    refine sxEnd (fun W11 hK => ?_)
    go_wp2
    try go_ret
    show Q0 (.returned (.bool false)) _
    exact (by obtain rfl := hQ0.out; exact ⟨congrArg (fun z => Ending.returned (.bool z)) (show _ = winB t c from (by unfold winB; rw [if_pos (by have q := hb1.out; simpa using q)]; first | rfl | (simp only [hb2.out]; done) | (simp only [hb2.out]; rfl) | (simp only [hb2.out, Bool.true_and, Bool.false_and]; rw [← hb2.out, ht_2.one0]))), hK.old⟩)
   · --
    have q_b2 : 0 ≤ c.n := of_decide_eq_true hb2.out
    refine e0 ?_
    refine eL m0 ?_
    refine e0 ?_
    refine eL m1 ?_
    refine e0 ?_
    refine eB (decide (c.n < ((m_t : Int)))) (fun b3 hb3 => ?_)
    iterate 2 refine e0 ?_
    refine sxEnd (fun W12 hK => ?_)
    go_wp2
    try go_ret
    show Q0 (.returned (.bool b3)) _
    exact (by obtain rfl := hQ0.out; exact ⟨congrArg (fun z => Ending.returned (.bool z)) (show _ = winB t c from (by unfold winB; rw [if_pos (by have q := hb1.out; simpa using q)]; first | rfl | (simp only [hb2.out, hb3.out]; done) | (simp only [hb2.out, hb3.out]; rfl) | (simp only [hb2.out, hb3.out, Bool.true_and, Bool.false_and]; rw [← hb3.out, ht_2.one0]))), hK.old⟩)
set_option maxRecDepth 100000 in
theorem links_any (w : World) {t : TopD} {p_t : Option Addr} {n_t c_t : Nat} {q_t : Option Addr} {m_t d_t : Nat} {c : CmpD}  :
    Calls Tryz.prog 127 #[.agg #[.int .i64 t.nodes, .slice p_t n_t c_t, .slice q_t m_t d_t], .agg #[.int .i64 c.k, .int .i64 c.n]] w fun e w' => ∃ x : Nat × Nat, e = .returned (.func (.func 150) #[] #[.pointer (some ⟨x.1, 0, none⟩), .pointer (some ⟨x.2, 0, none⟩)]) ∧ SS w [TPB x.1 t p_t n_t c_t q_t m_t d_t, KB x.2 c] w' := by
  have hK := SS.start w
  refine Calls.hide (fun Q0 hQ0 => ?_)
  go_enter Tryz.func127, Tryz.ntmps127
  go_upto_region 0 with (fail)
  refine wp_region_T [3, 3, 0] hK ?_
  clear hK
  refine eA (.cells #[.int .i64 t.nodes, .slice p_t n_t c_t, .slice q_t m_t d_t] 25) (fun R1 => ?_)
  refine eA (.cells #[.int .i64 c.k, .int .i64 c.n] 44) (fun R2 => ?_)
  refine e0 ?_
  refine sxEnd (fun W3 hK => ?_)
  replace hK := hK.up1
  go_wp2
  try go_ret
  show Q0 (.returned (.func (.func 150) #[] #[.pointer (some ⟨R1, 0, none⟩), .pointer (some ⟨R2, 0, none⟩)])) _
  exact (by obtain rfl := hQ0.out; exact ⟨(R1, R2), rfl, hK⟩)
set_option maxRecDepth 100000 in
set_option maxHeartbeats 4000000 in
theorem union_any (V : World) {t : TopD} {p_t : Option Addr} {n_t c_t : Nat} {q_t : Option Addr} {m_t d_t : Nat} (ht : TopV V (.agg #[.int .i64 t.nodes, .slice p_t n_t c_t, .slice q_t m_t d_t]) t) {c : CmpD} {Rl : Nat} (hC : Has 0 Rl (.cells #[.int .i64 c.k, .int .i64 c.n] 44) V) (hl : t.links.length ≤ 100000) (ht2 : topOk t = true) (hwc : winB t c = true) :
    Calls Tryz.prog 96 #[.agg #[.int .i64 t.nodes, .slice p_t n_t c_t, .slice q_t m_t d_t], .slice (some ⟨Rl, 0, none⟩) 1 1] V fun e w' => ∃ x : Sl, e = .returned (.tuple #[.slice x.p x.l x.c, .int .i64 0]) ∧ SS V [rO boolK 4 x.p x.l x.c (mskD t c)] w' := by
  have ht_1 := ht.parts.1; have ht_2 := ht.parts.2
  have b_t : m_t ≤ 100000 := (by rw [ht_2.one0]; exact hl); have a_t : arcsD t ≤ 200000 := (by unfold arcsD; omega)
  have hlk := hid (show arcsD t = 2 * t.links.length from rfl); have hlk1 := Nat.le_of_eq hlk.out; have hlk2 := Nat.le_of_eq hlk.out.symm
  refine (callsIn_wide (n := 0)).1 ?_
  refine callsIn_of_wp_marks Tryz.func96 rfl trivial ?_ rfl
  simp only [Tryz.ntmps96, List.size_toArray, List.length_cons, List.length_nil, Nat.reduceAdd, Nat.reduceSub, Array.replicate_succ, Array.replicate_zero, List.push_toArray, List.append_toArray, List.nil_append, List.cons_append]
  have hK := SS.start V
  gi_upto_region 0 with (fail)
  refine wpIn_region_T (wide_wide _ _) [3, 0, 0] hK ?_
  clear hK
  refine eA (.cells #[.int .i64 t.nodes, .slice p_t n_t c_t, .slice q_t m_t d_t] 25) (fun R1 => ?_)
  iterate 2 refine e0 ?_
  refine sxEnd (fun W2 hK => ?_)
  gi_upto_region 1 with (fail)
  refine wpIn_region_T (wide_wide _ _) [1, 1, 0] hK ?_
  clear hK
  refine eL m0 ?_
  refine eQ (fun w k => (valid_any w (ht.below k.old) hl).mono fun _ _ q => by rw [ht2] at q; exact q) ?_
  refine e0 ?_
  refine sxEnd (fun W3 hK => ?_)
  gi_upto_region 3 with (fail)
  refine wpIn_region_T (wide_wide _ _) [1, 1, 3, 3, 4] hK ?_
  clear hK
  refine eL m0 ?_
  refine eQ (fun w k => arcs_any w (ht.below k.old) hl) ?_
  refine eMk (K := boolK) (t := 4) (x := false) (arcsD t) (fun _ => rfl) rfl infoT (by show arcsD t * 1 ≤ 16777216; omega) (by decide) (fun g4 => ?_)
  refine eA (.cells #[.slice none 0 0] 22) (fun R5 => ?_)
  refine eP 0 0 [.slice (some ⟨g4, 0, none⟩) (arcsD t) (arcsD t)] ?_
  refine sxEnd (fun W6 hK => ?_)
  replace hK := hK.up1
  replace hK := hK.made (K := boolK) (n := (arcsD t)) (fun _ => rfl) (by simp [maxLen]; omega)
  gi_wp2_with (fail)
  refine wpIn_loop_rounds 2 ?_
  simp only [Code.roundsIn]
  gi_upto_region 6 with (fail)
  refine wpIn_region_T (wide_wide _ _) [0, 0, 3, 4] hK ?_
  clear hK
  refine e0 ?_
  refine eX0 (fun w k => hC.below k.old) ?_
  refine eA (.cells #[.int .i64 0, .int .i64 0] 44) (fun R7 => ?_)
  refine eP 0 0 [.int .i64 c.k, .int .i64 c.n] ?_
  refine sxEnd (fun W8 hK => ?_)
  gi_upto_region 7 with (fail)
  refine wpIn_region_T (wide_wide _ _) [1, 1, 1, 0] hK ?_
  clear hK
  refine eL m3 ?_
  refine eL m0 ?_
  refine eQ (fun w k => (cwithin_any w (ht.below k.old) hl).mono fun _ _ q => by rw [hwc] at q; exact q) ?_
  refine e0 ?_
  refine sxEnd (fun W9 hK => ?_)
  gi_upto_region 9 with (fail)
  refine wpIn_region_T (wide_wide _ _) [1, 1, 2] hK ?_
  clear hK
  refine eL m3 ?_
  refine eL m0 ?_
  refine eC (fun w k => links_any w) (fun x10 => ?_)
  obtain ⟨Rt11, Rc11⟩ := x10; dsimp only
  refine sxEnd (fun W12 hK => ?_)
  rw [show List.replicate (arcsD t) false = mskK t c 0 from mskK_0.symm] at hK
  replace hK := hK.up5
  replace hK := hK.up3
  replace hK := hK.up4
  replace hK := hK.up5
  replace hK := hK.up5
  replace hK := hK.up5
  gi_wp2_with (fail)
  rename_i Q' K hQK
  refine wp_range_I (σ := Nat) (c := c) (t := t) (Rt := Rt11) (Rc := Rc11) (B := [bx Rt11 (.cells #[.int .i64 t.nodes, .slice p_t n_t c_t, .slice q_t m_t d_t] 25), bx Rc11 (.cells #[.int .i64 c.k, .int .i64 c.n] 44)]) (G := fun s => [bx R5 (.cells #[.slice (some ⟨g4, 0, none⟩) (arcsD t) (arcsD t)] 22), rO boolK 4 (some ⟨g4, 0, none⟩) (arcsD t) (arcsD t) (mskK t c s), bx R7 (.cells #[.int .i64 c.k, .int .i64 c.n] 44), bx R1 (.cells #[.int .i64 t.nodes, .slice p_t n_t c_t, .slice q_t m_t d_t] 25)]) (Rel := fun k s => mskK t c k = mskK t c s) (s0 := 0) rfl rfl (fun x => { tmps := #[.agg #[.int .i64 t.nodes, .slice p_t n_t c_t, .slice q_t m_t d_t], .slice (some ⟨Rl, 0, none⟩) 1 1, .pointer (some ⟨R1, 0, none⟩), undef, .slice none 0 0, .int .i64 0, .pointer (some ⟨R5, 0, none⟩), undef, .pointer (some ⟨R7, 0, none⟩), .int .i64 (x : Int), .agg #[.int .i64 t.nodes, .slice p_t n_t c_t, .slice q_t m_t d_t], .bool true, .bool false, .agg #[.int .i64 t.nodes, .slice p_t n_t c_t, .slice q_t m_t d_t], .int .i64 ((arcsD t : Nat) : Int), .slice (some ⟨g4, 0, none⟩) (arcsD t) (arcsD t), .slice (some ⟨Rl, 0, none⟩) 1 1, .int .i64 (1 : Int), .int .i64 0, .bool true, .pointer (some ⟨Rl, 0, none⟩), .agg #[.int .i64 c.k, .int .i64 c.n], .agg #[.int .i64 t.nodes, .slice p_t n_t c_t, .slice q_t m_t d_t], .agg #[.int .i64 c.k, .int .i64 c.n], .bool true, .bool false, .agg #[.int .i64 t.nodes, .slice p_t n_t c_t, .slice q_t m_t d_t], .agg #[.int .i64 c.k, .int .i64 c.n], .func (.func 150) #[] #[.pointer (some ⟨Rt11, 0, none⟩), .pointer (some ⟨Rc11, 0, none⟩)], .int .i64 (x : Int), undef, undef, undef, undef, undef, undef, undef, undef, undef, undef, undef], defers := [] }) ht_2 (winB_k hwc) (fun _ => ⟨rfl, rfl, rfl, rfl, trivial⟩) hl (fun k s h1 h2 => (mskK_no h1).trans h2) rfl hK ?assign ?body ?done
  case assign =>
   clear hK
   intro lp m x W
   gi_wp2
   first | exact ⟨rfl, rfl⟩ | simp
  case body =>
   clear hK
   rintro lp m X kx s W hz hkx hcb hr hK
   replace hr := hid hr; have hK : SS V ((bx Rt11 (.cells #[.int .i64 t.nodes, .slice p_t n_t c_t, .slice q_t m_t d_t] 25)) :: (bx Rc11 (.cells #[.int .i64 c.k, .int .i64 c.n] 44)) :: (bx R5 (.cells #[.slice (some ⟨g4, 0, none⟩) (arcsD t) (arcsD t)] 22)) :: (rO boolK 4 (some ⟨g4, 0, none⟩) (arcsD t) (arcsD t) (mskK t c s)) :: (bx R7 (.cells #[.int .i64 c.k, .int .i64 c.n] 44)) :: (bx R1 (.cells #[.int .i64 t.nodes, .slice p_t n_t c_t, .slice q_t m_t d_t] 25)) :: X) W := hK
   rw [show mskK t c s = mskK t c kx from hr.out.symm] at hK
   clear hr; have hml := hid (mskK_len (t := t) (c := c) (k := kx))
   have i13 : 2 * kx < (arcsD t) := (by omega)
   have l13 : 2 * kx < (mskK t c kx).length := Nat.lt_of_lt_of_eq i13 (hK.len m3)
   obtain ⟨xa, exa⟩ : ∃ z0, RowKit.Hid ((mskK t c kx)[2 * kx]? = some z0) := ⟨_, hid (List.getElem?_eq_getElem l13)⟩
   have i14 : 2 * kx + 1 < (arcsD t) := (by omega)
   have l14 : 2 * kx + 1 < (mskK t c kx).length := Nat.lt_of_lt_of_eq i14 (hK.len m3)
   obtain ⟨xb, exb⟩ : ∃ z0, RowKit.Hid ((mskK t c kx)[2 * kx + 1]? = some z0) := ⟨_, hid (List.getElem?_eq_getElem l14)⟩
   gi_upto_region 11 with (fail)
   refine wpIn_region_S (wide_round _ _ _) _ [0, 0, 0, 0, 0, 0, 0, 0, 4, 0, 4] hK ?_ (sK2 (sK2 (sK2 (sC2 (List.Sublist.refl _)))))
   clear hK
   refine eL0 m2 ?_
   refine e0 ?_
   refine eV (.int .i64 ((2 * kx : Nat) : Int)) (fun w' => by go_simp; (try go_bits); first | exact ⟨rfl, rfl⟩ | (refine ⟨congrArg (Value.int .i64) ?_, rfl⟩; omega) | go_num) ?_
   refine eL0 m2 ?_
   refine e0 ?_
   refine eV (.int .i64 ((2 * kx : Nat) : Int)) (fun w' => by go_simp; (try go_bits); first | exact ⟨rfl, rfl⟩ | (refine ⟨congrArg (Value.int .i64) ?_, rfl⟩; omega) | go_num) ?_
   refine eV (.int .i64 ((2 * kx + 1 : Nat) : Int)) (fun w' => by go_simp; (try go_bits); first | exact ⟨rfl, rfl⟩ | (refine ⟨congrArg (Value.int .i64) ?_, rfl⟩; omega) | go_num) ?_
   refine e0 ?_
   refine eWB (y := true) 3 l13 ?_ (hi := rfl) (hs := (sK2 (sK2 (sK2 (sC2 (List.Sublist.refl _))))))
   refine e0 ?_
   refine eWB (y := true) 3 (by simpa using l14) ?_ (hi := rfl) (hs := (sK2 (sK2 (sK2 (sC2 (List.Sublist.refl _))))))
   refine sxEnd (fun W15 hK => ?_)
   rw [← mskK_yes hcb] at hK
   gi_wp2
   exact LpI.nn (kx + 1) rfl hK
  case done =>
   clear hK
   rintro D s W hr hK
   replace hr := hid hr; have hK : SS V [bx D (.deferred (some [])), bx Rt11 (.cells #[.int .i64 t.nodes, .slice p_t n_t c_t, .slice q_t m_t d_t] 25), bx Rc11 (.cells #[.int .i64 c.k, .int .i64 c.n] 44), bx R5 (.cells #[.slice (some ⟨g4, 0, none⟩) (arcsD t) (arcsD t)] 22), rO boolK 4 (some ⟨g4, 0, none⟩) (arcsD t) (arcsD t) (mskK t c s), bx R7 (.cells #[.int .i64 c.k, .int .i64 c.n] 44), bx R1 (.cells #[.int .i64 t.nodes, .slice p_t n_t c_t, .slice q_t m_t d_t] 25)] W := hK
   rw [show mskK t c s = mskD t c from hr.out.symm.trans mskK_all] at hK
   refine hQK _ _ ?_
   gi_upto_region 13 with (fail)
   refine wpIn_region_T (wide_wide _ _) [1, 0, 0] hK ?_
   clear hK
   refine eL m3 ?_
   iterate 2 refine e0 ?_
   refine sxEnd (fun W16 hK => ?_)
   replace hK := hK.subl (sK2 (sC2 (sC2 (sC2 (sK2 (sC2 (sC2 sZ2)))))))
   gi_wp2
   exact tmp_end Tryz.results96 (by exact rfl) (by exact rfl) (by exact rfl) hK ⟨rfl, trivial⟩ (fun W9 hK9 => ⟨⟨(some ⟨g4, 0, none⟩), arcsD t, arcsD t⟩, rfl, hK9⟩)
set_option maxRecDepth 100000 in
theorem mask_any (w : World) {t : TopD} {p_t : Option Addr} {n_t c_t : Nat} {q_t : Option Addr} {m_t d_t : Nat} (ht : TopV w (.agg #[.int .i64 t.nodes, .slice p_t n_t c_t, .slice q_t m_t d_t]) t) {c : CmpD} (hl : t.links.length ≤ 100000) (ht2 : topOk t = true) (hwc : winB t c = true) :
    Calls Tryz.prog 63 #[.agg #[.int .i64 t.nodes, .slice p_t n_t c_t, .slice q_t m_t d_t], .agg #[.int .i64 c.k, .int .i64 c.n]] w fun e w' => ∃ x : Sl, e = .returned (.tuple #[.slice x.p x.l x.c, .int .i64 0]) ∧ SS w [rO boolK 4 x.p x.l x.c (mskD t c)] w' := by
  have ht_1 := ht.parts.1; have ht_2 := ht.parts.2; have b_t : m_t ≤ 100000 := (by rw [ht_2.one0]; exact hl); have a_t : arcsD t ≤ 200000 := (by unfold arcsD; omega)
  have hK := SS.start w
  refine Calls.hide (fun Q0 hQ0 => ?_)
  go_enter Tryz.func63, Tryz.ntmps63
  go_upto_region 0 with (fail)
  refine wp_region_T [3, 3, 0, 0] hK ?_
  clear hK
  refine eA (.cells #[.int .i64 t.nodes, .slice p_t n_t c_t, .slice q_t m_t d_t] 25) (fun R1 => ?_)
  refine eA (.cells #[.int .i64 c.k, .int .i64 c.n] 44) (fun R2 => ?_)
  iterate 2 refine e0 ?_
  refine sxEnd (fun W3 hK => ?_)
  go_upto_region 1 with (fail)
  refine wp_region_T [1, 1, 3, 2, 0, 0, 0, 0] hK ?_
  clear hK
  refine eL m1 ?_
  refine eL m0 ?_
  refine eA (.cells #[.int .i64 c.k, .int .i64 c.n] 44) (fun R4 => ?_)
  refine eC (fun w k => union_any w (ht.below k.old) (k.box m0) hl ht2 hwc) (fun x5 => ?_)
  obtain ⟨p6, n6, c6⟩ := x5; dsimp only
  iterate 4 refine e0 ?_
  refine sxEnd (fun W7 hK => ?_)
  replace hK := hK.subl (sK2 (sC2 (sC2 (sC2 sZ2))))
  go_wp2
  try go_ret
  show Q0 (.returned (.tuple #[.slice p6 n6 c6, .int .i64 0])) _
  exact (by obtain rfl := hQ0.out; exact ⟨⟨p6, n6, c6⟩, rfl, hK⟩)
set_option maxRecDepth 100000 in
theorem cvalid_any (w : World) {v_t : Value} {t : TopD} (ht : TopV w v_t t) {c : CmpD} (hl : t.links.length ≤ 100000) (ht2 : topOk t = true) (hwc : winB t c = true) :
    Calls Tryz.prog 42 #[v_t, .agg #[.int .i64 c.k, .int .i64 c.n]] w fun e w' => e = .returned (.bool true) ∧ Below w.heap.size w w' := by
  have ht_0 := ht
  obtain ⟨p_t, n_t, c_t, q_t, m_t, d_t, rfl, ht_1, ht_2⟩ := ht_0; have b_t : m_t ≤ 100000 := (by rw [ht_2.one0]; exact hl); have a_t : arcsD t ≤ 200000 := (by unfold arcsD; omega)
  have hK := SS.start w
  refine Calls.hide (fun Q0 hQ0 => ?_)
  go_enter Tryz.func42, Tryz.ntmps42
  go_upto_region 0 with (fail)
  refine wp_region_T [3, 3, 0] hK ?_
  clear hK
  refine eA (.cells #[.int .i64 t.nodes, .slice p_t n_t c_t, .slice q_t m_t d_t] 25) (fun R1 => ?_)
  refine eA (.cells #[.int .i64 c.k, .int .i64 c.n] 44) (fun R2 => ?_)
  refine e0 ?_
  refine sxEnd (fun W3 hK => ?_)
  go_upto_region 1 with (fail)
  refine wp_region_T [1, 1, 0, 1, 1, 1, 0, 0] hK ?_
  clear hK
  refine eL m1 ?_
  refine eQ (fun w k => (valid_any w (ht.below k.old) hl).mono fun _ _ q => by rw [ht2] at q; exact q) ?_
  refine e0 ?_
  refine eL m1 ?_
  refine eL m0 ?_
  refine eQ (fun w k => (cwithin_any w (ht.below k.old) hl).mono fun _ _ q => by rw [hwc] at q; exact q) ?_
  iterate 2 refine e0 ?_
  refine sxEnd (fun W4 hK => ?_)
  go_wp2
  try go_ret
  show Q0 (.returned (.bool true)) _
  exact (by obtain rfl := hQ0.out; exact ⟨rfl, hK.old⟩)
end Go.Proofs.YtmcfomainmppdaaGreatDoor
