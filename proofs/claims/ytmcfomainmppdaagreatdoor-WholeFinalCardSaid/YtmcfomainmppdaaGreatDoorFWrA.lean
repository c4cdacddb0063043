/- What is left of a topology without a component: the plain law of the tables in the state Final. No program in sight. Tables of nodes in the state Final. -/
import Derived.Test.YtmcfomainmppdaaGreatDoorFDagL
import Derived.Test.YtmcfomainmppdaaGreatDoorFWcC
import Derived.Test.YtmcfomainmppdaaGreatDoorFWhB
import Derived.Test.YtmcfomainmppdaaGreatDoorFWqH
namespace Go.Proofs.YtmcfomainmppdaaGreatDoor
section
variable {t : TopD} {c : CmpD} {m : List Bool} {num : List Nat} {k n d : Nat}
def lftK (m : List Bool) (k : Nat) : List Nat := (List.range k).filter fun i => !m.getD (2 * i) false
theorem lftK_yes (h : m.getD (2 * k) false = false) : lftK m (k + 1) = lftK m k ++ [k] := by
  unfold lftK; rw [List.range_succ, List.filter_append, List.filter_cons, if_pos (by rw [h]; rfl), List.filter_nil]
theorem lftK_no (h : m.getD (2 * k) false = true) : lftK m (k + 1) = lftK m k := by
  unfold lftK; rw [List.range_succ, List.filter_append, List.filter_cons, if_neg (by rw [h]; decide), List.filter_nil, List.append_nil]
theorem lftK_len : (lftK m k).length ≤ k := by unfold lftK; exact Nat.le_trans (List.length_filter_le _ _) (by simp)
def lnkL (t : TopD) (num : List Nat) : List LnkD := num.map fun i => t.links.getD i lnk0
theorem lnkL_at {x : LnkD} (h : t.links[k]? = some x) : lnkL t num ++ [x] = lnkL t (num ++ [k]) := by
  unfold lnkL; rw [List.map_append, List.map_cons, List.map_nil, List.getD_eq_getElem?_getD, h]; rfl
theorem restD_eq : restD t num = ⟨t.nodes, t.over, lnkL t num⟩ := rfl
theorem msk_at {i : Nat} (hi : i < arcsD t) : (mskD t c).getD i false = cmpB t c (i / 2) := by
  rw [List.getD_eq_getElem?_getD, List.getElem?_eq_getElem (by rw [mskD_len]; exact hi)]
  unfold mskD; simp
theorem left_msk : LeftD t (mskD t c) (lftK (mskD t c) t.links.length) := by
  have hu : ∀ i, i < t.links.length → upD (mskD t c) (2 * i) = !(mskD t c).getD (2 * i) false := fun i hi => by
    unfold upD
    rw [decide_eq_false (by rw [mskD_len]; unfold arcsD; omega), Bool.false_or]
  refine ⟨List.Pairwise.filter _ List.pairwise_lt_range, fun i => ?_, fun i hi => ?_⟩
  · unfold lftK
    rw [List.mem_filter, List.mem_range]
    exact and_congr_right fun hi => by rw [hu i hi]
  · rw [hu i hi]
    unfold upD
    rw [decide_eq_false (by rw [mskD_len]; unfold arcsD; omega), Bool.false_or, msk_at (by unfold arcsD; omega), msk_at (by unfold arcsD; omega)]
    congr 2; omega
theorem chk_msk (ht : topOk t = true) (hm : m.length = arcsD t) {x : Int} (h0 : 0 ≤ x) (h1 : x < t.nodes) : chkD t m [x] = 0 := by
  unfold chkD fitsD
  rw [ht, decide_eq_true (show m.length = 0 ∨ m.length = 2 * t.links.length from .inr hm)]
  simp only [List.all_cons, List.all_nil, Bool.and_true, decide_eq_true h0, decide_eq_true h1, if_true]
theorem chk_nil (ht : topOk t = true) {x : Int} (h0 : 0 ≤ x) (h1 : x < t.nodes) : chkD t [] [x] = 0 := by
  unfold chkD fitsD
  rw [ht, decide_eq_true (show ([] : List Bool).length = 0 ∨ ([] : List Bool).length = 2 * t.links.length from .inl rfl)]
  simp only [List.all_cons, List.all_nil, Bool.and_true, decide_eq_true h0, decide_eq_true h1, if_true]
theorem nxt_msk (ht : topOk t = true) (hm : chkD t m [(d : Int)] = 0) (hn : n < nN t) : nxtR t m (n : Int) (d : Int) = nxtD t m (dstD t m d) n d := by
  have e : chkN t m (n : Int) (d : Int) = 0 := by
    unfold chkN
    rw [if_pos hm, if_pos ⟨by omega, by have := (topN ht).1; omega⟩]
  unfold nxtR
  rw [if_pos e]; rfl
theorem final_nxt (ht : topOk t = true) (hn : n < nN t) (hd : d < nN t) : (nxtR (restD t (lftK (mskD t c) t.links.length)) [] (n : Int) (d : Int)).map (renD (lftK (mskD t c) t.links.length)) = nxtR t (mskD t c) (n : Int) (d : Int) := by
  have hL := left_msk (t := t) (c := c)
  have hr := rest_ok ht hL
  have hd0 : (0 : Int) ≤ (d : Int) := by omega
  have hd1 : (d : Int) < t.nodes := by have := (topN ht).1; omega
  rw [nxt_msk ht (chk_msk ht mskD_len hd0 hd1) hn, nxt_msk hr (chk_nil hr hd0 hd1) hn]
  have e : dstD (restD t (lftK (mskD t c) t.links.length)) [] d = dstD t (mskD t c) d := by
    unfold dstD
    congr 1
    funext l
    exact propext (rest_dst hL)
  rw [e]
  exact rest_nxt hL
end
end Go.Proofs.YtmcfomainmppdaaGreatDoor
namespace Go.Proofs.YtmcfomainmppdaaGreatDoor
open Go.RowKit
open Go.Lib (decDigits)
def ent0 : EntW := ⟨⟨none, 0, 0⟩, false, ⟨none, 0, 0⟩⟩
def goD (t : TopD) (n : Nat) : TabD := ⟨n, List.replicate (nN t) ⟨[], false, []⟩, outD t n⟩
def isGone (c : CmpD) (n : Nat) : Bool := c.k == 2 && c.n == (n : Int)
noncomputable def finT (t : TopD) (c : CmpD) (n : Nat) : TabD := if isGone c n = true then goD t n else rtD t (mskD t c) n
noncomputable def finL (t : TopD) (c : CmpD) (k : Nat) : List TabD := (List.range k).map fun (n : Nat) => finT t c n
def tabW (z : TbS) (T : TabD) : TabW := ⟨(T.n : Int), z.t, z.d⟩
section
variable {t : TopD} {c : CmpD} {k : Nat} {T : TabD} {zs : List TbS} {Z : TbS}
theorem finT_yes (h : (c.k == 2 && c.n == (k : Int)) = true) : finT t c k = goD t k := if_pos h
theorem finT_no (h : (c.k == 2 && c.n == (k : Int)) = false) : finT t c k = rtD t (mskD t c) k := if_neg (by unfold isGone; rw [h]; decide)
theorem finL_len : (finL t c k).length = k := by unfold finL; simp
theorem finL_snoc (h : finT t c k = T) : finL t c k ++ [T] = finL t c (k + 1) := by unfold finL; rw [List.range_succ, List.map_append, ← h]; rfl
theorem finL_at {n : Nat} (h : n < k) : (finL t c k)[n]? = some (finT t c n) := by unfold finL; rw [List.getElem?_map, List.getElem?_range h]; rfl
theorem zw_snoc (hl : zs.length = k) (h : finT t c k = T) : List.zipWith tabW zs (finL t c k) ++ [tabW Z T] = List.zipWith tabW (zs ++ [Z]) (finL t c (k + 1)) := by
  rw [← finL_snoc h, List.zipWith_append (by rw [hl, finL_len])]; rfl
variable {V w : World} {l : List Ft}
theorem SS.vnull (h : SS V l w) : ∀ n : Nat, SS V (vsF intK (List.replicate n (⟨none, 0, 0⟩ : Sl)) (List.replicate n ([] : List Int)) :: l) w := fun n => by
  refine SS.star.2 ?_
  induction n with
  | zero => exact h
  | succ n ih => exact ih.fact (vO intK none 0 0 []) ⟨fun _ h => (by cases h), SlV.nil⟩ (fun _ h => by cases h)
theorem SS.rnull (h : SS V l w) : ∀ n : Nat, SS V (rsF segK 83 (List.replicate n (⟨none, 0, 0⟩ : Sl)) (List.replicate n ([] : List SegD)) :: l) w := fun n => by
  refine SS.star.2 ?_
  induction n with
  | zero => exact h
  | succ n ih => exact ih.fact (rO segK 83 none 0 0 []) OwV.nil (fun _ h => by cases h)
theorem SS.goneT {pt pd : Option Addr} {nt ct nd cd n : Nat} (h : SS V (rO intK 3 pd nd cd (natI (outD t n)) :: rO entK 66 pt nt ct (List.replicate (nN t) ent0) :: l) w) : SS V (tbF ⟨⟨pt, nt, ct⟩, ⟨pd, nd, cd⟩, List.replicate (nN t) ent0⟩ (goD t n) :: l) w := by
  refine SS.star.2 ?_
  have h3 := (h.rnull (nN t)).vnull (nN t)
  have e1 : List.replicate (nN t) (⟨none, 0, 0⟩ : Sl) = (List.replicate (nN t) ent0).map (·.a) := by rw [List.map_replicate]; rfl
  have e2 : List.replicate (nN t) ([] : List Int) = (goD t n).t.map fun e => natI e.a := by
    show _ = (List.replicate (nN t) (⟨[], false, []⟩ : EntD)).map fun e => natI e.a
    rw [List.map_replicate]; rfl
  have e3 : List.replicate (nN t) (⟨none, 0, 0⟩ : Sl) = (List.replicate (nN t) ent0).map (·.p) := by rw [List.map_replicate]; rfl
  have e4 : List.replicate (nN t) ([] : List SegD) = (goD t n).t.map (·.p) := by
    show _ = (List.replicate (nN t) (⟨[], false, []⟩ : EntD)).map (·.p)
    rw [List.map_replicate]
  have e5 : (List.replicate (nN t) ent0).map (·.r) = (goD t n).t.map (·.r) := by
    show _ = (List.replicate (nN t) (⟨[], false, []⟩ : EntD)).map (·.r)
    rw [List.map_replicate, List.map_replicate]; rfl
  have h4 : SS V (vsF intK ((List.replicate (nN t) ent0).map (·.a)) ((goD t n).t.map fun e => natI e.a) :: rsF segK 83 ((List.replicate (nN t) ent0).map (·.p)) ((goD t n).t.map (·.p)) :: rO intK 3 pd nd cd (natI (outD t n)) :: rO entK 66 pt nt ct (List.replicate (nN t) ent0) :: l) w := by rw [← e1, ← e2, ← e3, ← e4]; exact h3
  exact (h4.up3).fact (cF _) e5
end
theorem routesM (w : World) {v_t : Value} {t : TopD} {c : CmpD} (ht : TopV w v_t t) {p : Option Addr} {n d : Nat} (hd : SlV boolK w (.slice p n d) (mskD t c)) (n1 : Nat) (hl : t.links.length ≤ 100000) (ht2 : topOk t = true) (hn1 : n1 < nN t) : Calls Tryz.prog 24 #[v_t, .slice p n d, .int .i64 (n1 : Int)] w fun e w' => ∃ z : TbS, e = .returned (.tuple #[z.v (rtD t (mskD t c) n1), .int .i64 0]) ∧ SS w [tbF z (rtD t (mskD t c) n1)] w' := by
  have hc : chkD t (mskD t c) [(n1 : Int)] = 0 := chk_msk ht2 mskD_len (by omega) (by have := (topN ht2).1; omega)
  have h := routes_any w ht hd (n1 : Int) hl
  rw [hc, show rtR t (mskD t c) (n1 : Int) = rtD t (mskD t c) n1 from if_pos hc] at h
  exact h
set_option maxRecDepth 100000 in
theorem gone_any (w : World) {c : CmpD} (n : Int)  :
    Calls Tryz.prog 51 #[.agg #[.int .i64 c.k, .int .i64 c.n], .int .i64 n] w fun e w' => e = .returned (.bool (c.k == 2 && c.n == n)) ∧ Below w.heap.size w w' := by
  have hK := SS.start w
  refine Calls.hide (fun Q0 hQ0 => ?_)
  go_enter Tryz.func51, Tryz.ntmps51
  go_upto_region 0 with (fail)
  refine wp_region_T [3, 0] hK ?_
  clear hK
  refine eA (.cells #[.int .i64 c.k, .int .i64 c.n] 44) (fun R1 => ?_)
  refine e0 ?_
  refine sxEnd (fun W2 hK => ?_)
  go_upto_region 1 with (fail)
  refine wp_region_T [0, 1, 0, 0, 0, 1, 0, 0, 0, 0] hK ?_
  clear hK
  refine e0 ?_
  refine eL m0 ?_
  refine eB (c.k == 2) (fun b1 hb1 => ?_)
  refine e0 ?_
  cases b1
  · --
   iterate 4 refine eN ?_
   iterate 2 refine e0 ?_
   refine sxEnd (fun W3 hK => ?_)
   go_wp2
   try go_ret
   show Q0 (.returned (.bool false)) _
   exact (by obtain rfl := hQ0.out; exact ⟨(by rw [hb1.out]; first | rfl | simp), hK.old⟩)
  · --
   refine e0 ?_
   refine eL m0 ?_
   refine e0 ?_
   refine eB (c.n == n) (fun b2 hb2 => ?_)
   iterate 2 refine e0 ?_
   refine sxEnd (fun W4 hK => ?_)
   go_wp2
   try go_ret
   show Q0 (.returned (.bool b2)) _
   exact (by obtain rfl := hQ0.out; exact ⟨(by rw [hb1.out, hb2.out]; first | rfl | simp), hK.old⟩)
set_option maxRecDepth 100000 in
set_option maxHeartbeats 4000000 in
theorem permit_any (w : World) {t : TopD} {p_t : Option Addr} {n_t c_t : Nat} {q_t : Option Addr} {m_t d_t : Nat} (ht : TopV w (.agg #[.int .i64 t.nodes, .slice p_t n_t c_t, .slice q_t m_t d_t]) t) {c : CmpD} {p_P : Option Addr} {n_P c_P : Nat} {P0 : List Int} (hP : SlV intK w (.slice p_P n_P c_P) P0) (hP0 : P0 = List.replicate (nN t) 3) (hl : t.links.length ≤ 100000) (ht2 : topOk t = true) (hwc : winB t c = true) :
    Calls Tryz.prog 43 #[.agg #[.int .i64 t.nodes, .slice p_t n_t c_t, .slice q_t m_t d_t], .agg #[.int .i64 c.k, .int .i64 c.n], .slice p_P n_P c_P] w fun e w' => e = .returned (.bool true) ∧ Below w.heap.size w w' := by
  have ht_1 := ht.parts.1; have ht_2 := ht.parts.2; have b_t : m_t ≤ 100000 := (by rw [ht_2.one0]; exact hl); have a_t : arcsD t ≤ 200000 := (by unfold arcsD; omega)
  have hK := SS.start w
  have hnt := hid (topN ht2).1; have hnt1 : t.nodes ≤ (nN t : Int) := Int.le_of_eq hnt.out; have hnt2 : (nN t : Int) ≤ t.nodes := Int.le_of_eq hnt.out.symm; have hnm := (topN ht2).2.2.1
  obtain rfl := hP0; have hpl := hid (hP.one0.trans (by simp : (List.replicate (nN t) (3 : Int)).length = nN t)); have hpl1 := Nat.le_of_eq hpl.out; have hpl2 := Nat.le_of_eq hpl.out.symm
  refine Calls.hide (fun Q0 hQ0 => ?_)
  go_enter Tryz.func43, Tryz.ntmps43
  go_upto_region 0 with (fail)
  refine wp_region_T [3, 3, 0] hK ?_
  clear hK
  refine eA (.cells #[.int .i64 t.nodes, .slice p_t n_t c_t, .slice q_t m_t d_t] 25) (fun R1 => ?_)
  refine eA (.cells #[.int .i64 c.k, .int .i64 c.n] 44) (fun R2 => ?_)
  refine e0 ?_
  refine sxEnd (fun W3 hK => ?_)
  go_upto_region 1 with (fail)
  refine wp_region_T [1, 1, 2, 0, 0, 0, 0, 0] hK ?_
  clear hK
  refine eL m1 ?_
  refine eL m0 ?_
  refine eC (fun w k => mask_any w (ht.below k.old) (c := c) hl ht2 hwc) (fun x4 => ?_)
  obtain ⟨p5, n5, c5⟩ := x4; dsimp only
  iterate 5 refine e0 ?_
  refine sxEnd (fun W6 hK => ?_)
  go_upto_region 2 with (fail)
  refine wp_region_T [0, 0, 0, 0, 0, 0, 1, 0, 0] hK ?_
  clear hK
  iterate 6 refine e0 ?_
  refine eL m2 ?_
  refine eV (.bool false) (fun w' => by go_simp; (try go_bits); first | exact ⟨rfl, rfl⟩ | exact ⟨congrArg Value.bool (by simp; omega), rfl⟩) ?_
  refine e0 ?_
  refine sxEnd (fun W7 hK => ?_)
  go_upto_region 4 with (fail)
  refine wp_region_T [0, 1, 3, 0] hK ?_
  clear hK
  refine e0 ?_
  refine eL m2 ?_
  refine eMk (K := boolK) (t := 4) (x := false) (nN t) (fun _ => rfl) rfl infoT (by show nN t * 1 ≤ 16777216; omega) (by decide) (fun g8 => ?_) (hv := hnt.out)
  refine e0 ?_
  refine sxEnd (fun W9 hK => ?_)
  replace hK := hK.made (K := boolK) (n := (nN t)) (fun _ => rfl) (by simp [maxLen]; omega)
  have hml := hid ((hK.len m1).trans mskD_len); have hml1 := Nat.le_of_eq hml.out; have hml2 := Nat.le_of_eq hml.out.symm
  go_wp2_with fail
  go_loopw [36] (fun s36 wl => ∃ (kx : Nat) (xs : List Bool), s36 = .int .i64 (kx : Int) ∧ (kx ≤ n5) ∧ RowKit.Hid (xs.length = nN t) ∧ SS w ([rO boolK 4 (some ⟨g8, 0, none⟩) (nN t) (nN t) xs, rO boolK 4 p5 n5 c5 (mskD t c), bx R2 (.cells #[.int .i64 c.k, .int .i64 c.n] 44), bx R1 (.cells #[.int .i64 t.nodes, .slice p_t n_t c_t, .slice q_t m_t d_t] 25)]) wl) (fun s36 _ => n5 - (intOf s36).toNat)
  case atStart => exact ⟨0, (List.replicate (nN t) false), rfl, (by omega), hid (by simp), hK⟩
  case round =>
   clear hK
   obtain ⟨kx, xs, rfl, hk0, h_x, hK⟩ := hrel
   generalize wr = W10 at hK ⊢
   go_upto_region 6 with (fail)
   refine wp_region_T [0] hK ?_
   clear hK
   refine eB (decide (((kx : Int)) < ((n5 : Int)))) (fun b1 hb1 => ?_)
   refine sxEnd (fun W11 hK => ?_)
   cases b1
   · --
    have q_b1 : ((n5 : Int)) ≤ ((kx : Int)) := Int.not_lt.1 (of_decide_eq_false hb1.out)
    go_wp2_with fail
    go_loopw [50, 12, 13] (fun s50 s12 s13 wl => ∃ (kx : Nat) (eb : Bool), s50 = .int .i64 (kx : Int) ∧ s12 = .bool eb ∧ s13 = .bool true ∧ (kx ≤ n_P) ∧ SS w ([rO boolK 4 (some ⟨g8, 0, none⟩) (nN t) (nN t) xs, rO boolK 4 p5 n5 c5 (mskD t c), bx R2 (.cells #[.int .i64 c.k, .int .i64 c.n] 44), bx R1 (.cells #[.int .i64 t.nodes, .slice p_t n_t c_t, .slice q_t m_t d_t] 25)]) wl) (fun s50 s12 s13 _ => n_P - (intOf s50).toNat)
    case atStart => exact ⟨0, true, rfl, rfl, rfl, (by omega), hK⟩
    case round =>
     clear hK
     obtain ⟨kx, eb, rfl, rfl, rfl, hk0, hK⟩ := hrel
     generalize wr = W12 at hK ⊢
     go_upto_region 13 with (fail)
     refine wp_region_T [0] hK ?_
     clear hK
     refine eB (decide (((kx : Int)) < ((n_P : Int)))) (fun b2 hb2 => ?_)
     refine sxEnd (fun W13 hK => ?_)
     cases b2
     · --
      have q_b2 : ((n_P : Int)) ≤ ((kx : Int)) := Int.not_lt.1 (of_decide_eq_false hb2.out)
      cases eb
      · --
       go_wp2
       try go_ret
       show Q0 (.returned (.bool true)) _
       exact (by obtain rfl := hQ0.out; exact ⟨rfl, hK.old⟩)
      · --
       go_wp2
       try go_ret
       show Q0 (.returned (.bool true)) _
       exact (by obtain rfl := hQ0.out; exact ⟨rfl, hK.old⟩)
     · --
      have q_b2 : ((kx : Int)) < ((n_P : Int)) := of_decide_eq_true hb2.out
      have i14 : kx < n_P := (by omega)
      obtain ⟨g14, o14, rfl⟩ := hP.pt i14
      have l14 : kx < (List.replicate (nN t) (3 : Int)).length := Nat.lt_of_lt_of_eq i14 (hP.one0)
      obtain ⟨xa, exa⟩ : ∃ z0, RowKit.Hid ((List.replicate (nN t) (3 : Int))[kx]? = some z0) := ⟨_, hid (List.getElem?_eq_getElem l14)⟩
      obtain rfl : xa = 3 := (by have q := List.mem_of_getElem? exa.out; exact (List.mem_replicate.1 q).2)
      go_upto_region 14 with (fail)
      refine wp_region_T [0, 0, 0, 0, 0] hK ?_
      clear hK
      iterate 2 refine e0 ?_
      refine eR0 (fun w k => (hP.below k.old).int exa.out) ?_
      iterate 2 refine e0 ?_
      refine sxEnd (fun W15 hK => ?_)
      go_upto_region 15 with (fail)
      refine wp_region_T [1, 0, 1] hK ?_
      clear hK
      refine eL m2 ?_
      refine e0 ?_
      obtain ⟨b3, hb3⟩ : ∃ z9 : Bool, RowKit.Hid ((c.k == 2 && c.n == (kx : Int)) = z9) := ⟨_, hid rfl⟩
      refine eQ (v := .bool b3) (fun w k => gone_any w (c := c) (kx : Int)) ?_ (hv := by rw [hb3.out])
      refine sxEnd (fun W16 hK => ?_)
      cases b3
      · --
       go_upto_region 18 with (fail)
       refine wp_region_T [0, 0] hK ?_
       clear hK
       refine eV (.bool false) (fun w' => by go_simp; (try go_bits); exact ⟨rfl, rfl⟩) ?_
       refine e0 ?_
       refine sxEnd (fun W17 hK => ?_)
       go_upto_region 21 with (fail)
       refine wp_region_T [0, 0] hK ?_
       clear hK
       refine eV (.bool false) (fun w' => by go_simp; (try go_bits); exact ⟨rfl, rfl⟩) ?_
       refine e0 ?_
       refine sxEnd (fun W18 hK => ?_)
       go_upto_region 24 with (fail)
       refine wp_region_T [0, 0] hK ?_
       clear hK
       refine eV (.bool false) (fun w' => by go_simp; (try go_bits); exact ⟨rfl, rfl⟩) ?_
       refine e0 ?_
       refine sxEnd (fun W19 hK => ?_)
       go_upto_region 25 with (fail)
       refine wp_region_T [0, 0] hK ?_
       clear hK
       refine eV (.bool true) (fun w' => by go_simp; (try go_bits); exact ⟨rfl, rfl⟩) ?_
       refine e0 ?_
       refine sxEnd (fun W20 hK => ?_)
       (try go_wp2)
       go_roundw
       case rel => exact ⟨kx + 1, false, (by first | rfl | go_num), (by first | rfl | go_num), (by first | rfl | go_num), (by omega), hK⟩
       case measure => simp [intOf] <;> omega
      · --
       (try go_wp2)
       go_roundw
       case rel => exact ⟨kx + 1, eb, (by first | rfl | go_num), (by first | rfl | go_num), (by first | rfl | go_num), (by omega), hK⟩
       case measure => simp [intOf] <;> omega
   · --
    have q_b1 : ((kx : Int)) < ((n5 : Int)) := of_decide_eq_true hb1.out
    have i21 : kx < n5 := (by omega)
    obtain ⟨g21, rfl⟩ := hK.pt m1 i21
    have l21 : kx < (mskD t c).length := Nat.lt_of_lt_of_eq i21 (hK.len m1)
    obtain ⟨xm, exm⟩ : ∃ z0, RowKit.Hid ((mskD t c)[kx]? = some z0) := ⟨_, hid (List.getElem?_eq_getElem l21)⟩
    go_upto_region 7 with (fail)
    refine wp_region_T [0, 0, 1, 0, 0] hK ?_
    clear hK
    iterate 2 refine e0 ?_
    refine eR (fun w k => (k.own m1).bool exm.out) ?_
    iterate 2 refine e0 ?_
    refine sxEnd (fun W22 hK => ?_)
    cases xm
    · --
     (try go_wp2)
     go_roundw
     case rel => exact ⟨kx + 1, xs, (by first | rfl | go_num), (by omega), hid h_x.out, hK⟩
     case measure => simp [intOf] <;> omega
    · --
     have haA : kx < arcsD t := (by omega); have htl := (arc_ok ht2 haA).2.2.2.1
     have i23 : tN t kx < (nN t) := (by rw [hK.len m0, h_x.out]; exact htl)
     have l23 : tN t kx < xs.length := Nat.lt_of_lt_of_eq i23 (hK.len m0)
     obtain ⟨xz, exz⟩ : ∃ z0, RowKit.Hid (xs[tN t kx]? = some z0) := ⟨_, hid (List.getElem?_eq_getElem l23)⟩
     go_upto_region 9 with (fail)
     refine wp_region_T [0, 1, 0, 1, 0, 4] hK ?_
     clear hK
     refine e0 ?_
     refine eL m3 ?_
     refine e0 ?_
     refine eQ (fun w k => tailN_any w (ht.below k.old) kx hl ht2 haA) ?_
     refine e0 ?_
     refine eWB (y := true) 0 l23 ?_ (hi := rfl)
     refine sxEnd (fun W24 hK => ?_)
     (try go_wp2)
     go_roundw
     case rel => exact ⟨kx + 1, xs.set (tN t kx) true, (by first | rfl | go_num), (by omega), hid (by rw [List.length_set, h_x.out]), hK⟩
     case measure => simp [intOf] <;> omega
set_option maxRecDepth 100000 in
theorem final1_any (w : World) {p : Option Addr} {n c : Nat} {x : Int} {p2 p3 : Option Addr} {n2 c2 n3 c3 : Nat}  :
    Calls Tryz.prog 84 #[.slice p n c, .agg #[.int .i64 x, .slice p2 n2 c2, .slice p3 n3 c3]] w fun e w' => e = .returned (.tuple #[]) ∧ Below w.heap.size w w' := by
  have hK := SS.start w
  refine Calls.hide (fun Q0 hQ0 => ?_)
  go_enter Tryz.func84, Tryz.ntmps84
  go_upto_region 0 with (fail)
  refine wp_region_T [3] hK ?_
  clear hK
  refine eA (.cells #[.int .i64 x, .slice p2 n2 c2, .slice p3 n3 c3] 62) (fun R1 => ?_)
  refine sxEnd (fun W2 hK => ?_)
  go_wp2
  first | exact bodyPost_ret (v := .tuple #[]) (results_none (by simp [Tryz.results84]) _ _ _) rfl (by obtain rfl := hQ0.out; exact ⟨rfl, hK.old⟩) | exact bodyPost_end (v := .tuple #[]) (results_none (by simp [Tryz.results84]) _ _ _) rfl (by obtain rfl := hQ0.out; exact ⟨rfl, hK.old⟩)
set_option maxRecDepth 100000 in
theorem after_any (w : World) {t : TopD} {p_t : Option Addr} {n_t c_t : Nat} {q_t : Option Addr} {m_t d_t : Nat} (ht : TopV w (.agg #[.int .i64 t.nodes, .slice p_t n_t c_t, .slice q_t m_t d_t]) t) {c : CmpD} (n1 : Nat) (hl : t.links.length ≤ 100000) (ht2 : topOk t = true) (hwc : winB t c = true) (hn1 : n1 < nN t) :
    Calls Tryz.prog 81 #[.agg #[.int .i64 t.nodes, .slice p_t n_t c_t, .slice q_t m_t d_t], .agg #[.int .i64 c.k, .int .i64 c.n], .int .i64 (n1 : Int), .func (.func 84) #[] #[]] w fun e w' => ∃ z : TbS, e = .returned (.tuple #[z.v (rtD t (mskD t c) n1), .int .i64 0]) ∧ SS w [tbF z (rtD t (mskD t c) n1)] w' := by
  have ht_1 := ht.parts.1; have ht_2 := ht.parts.2; have b_t : m_t ≤ 100000 := (by rw [ht_2.one0]; exact hl); have a_t : arcsD t ≤ 200000 := (by unfold arcsD; omega)
  have hK := SS.start w
  have hnt := hid (topN ht2).1; have hnt1 : t.nodes ≤ (nN t : Int) := Int.le_of_eq hnt.out; have hnt2 : (nN t : Int) ≤ t.nodes := Int.le_of_eq hnt.out.symm; have hnm := (topN ht2).2.2.1
  refine Calls.hide (fun Q0 hQ0 => ?_)
  go_enter Tryz.func81, Tryz.ntmps81
  go_upto_region 0 with (fail)
  refine wp_region_T [3, 3, 3, 0] hK ?_
  clear hK
  refine eA (.cells #[.int .i64 t.nodes, .slice p_t n_t c_t, .slice q_t m_t d_t] 25) (fun R1 => ?_)
  refine eA (.cells #[.int .i64 c.k, .int .i64 c.n] 44) (fun R2 => ?_)
  refine eA (.cells #[.int .i64 0, .slice none 0 0, .slice none 0 0] 62) (fun R3 => ?_)
  refine e0 ?_
  refine sxEnd (fun W4 hK => ?_)
  go_upto_region 1 with (fail)
  refine wp_region_T [1, 1, 2, 0, 0, 0, 0, 0] hK ?_
  clear hK
  refine eL m2 ?_
  refine eL m1 ?_
  refine eC (fun w k => mask_any w (ht.below k.old) (c := c) hl ht2 hwc) (fun x5 => ?_)
  obtain ⟨p6, n6, c6⟩ := x5; dsimp only
  iterate 5 refine e0 ?_
  refine sxEnd (fun W7 hK => ?_)
  go_upto_region 2 with (fail)
  refine wp_region_T [0, 0] hK ?_
  clear hK
  iterate 2 refine e0 ?_
  refine sxEnd (fun W8 hK => ?_)
  go_upto_region 4 with (fail)
  refine wp_region_T [1, 0, 0, 2, 0, 0, 0, 3, 4, 0] hK ?_
  clear hK
  refine eL m3 ?_
  iterate 2 refine e0 ?_
  refine eC (fun w k => routesM w (ht.below k.old) (k.slv m0) n1 hl ht2 hn1) (fun x10 => ?_)
  obtain ⟨⟨tp9, tl9, tc9⟩, ⟨dp9, dl9, dc9⟩, ws9⟩ := x10; dsimp only [TbS.v]
  iterate 3 refine e0 ?_
  refine eA (.cells #[.int .i64 0, .slice none 0 0, .slice none 0 0] 62) (fun R11 => ?_)
  refine eP 0 0 [.int .i64 ((rtD t (mskD t c) n1).n : Int), .slice tp9 tl9 tc9, .slice dp9 dl9 dc9] ?_
  refine e0 ?_
  refine sxEnd (fun W12 hK => ?_)
  go_upto_region 5 with (fail)
  refine wp_region_T [0, 0] hK ?_
  clear hK
  iterate 2 refine e0 ?_
  refine sxEnd (fun W13 hK => ?_)
  go_upto_region 7 with (fail)
  refine wp_region_T [0, 0, 1, 1] hK ?_
  clear hK
  iterate 2 refine e0 ?_
  refine eL m0 ?_
  refine eQ (fun w k => final1_any w) ?_
  refine sxEnd (fun W14 hK => ?_)
  go_upto_region 8 with (fail)
  refine wp_region_T [1, 4, 0] hK ?_
  clear hK
  refine eL m0 ?_
  refine eP 3 0 [.int .i64 ((rtD t (mskD t c) n1).n : Int), .slice tp9 tl9 tc9, .slice dp9 dl9 dc9] ?_
  refine e0 ?_
  refine sxEnd (fun W15 hK => ?_)
  have ⟨c90, c91, c92⟩ := (hK.box m3).c3
  replace hK := hK.subl (sC2 (sK2 (sC2 (sC2 (sC2 (sC2 sZ2))))))
  go_wp2
  exact bodyPost_ret (v := .tuple #[.agg #[.int .i64 ((rtD t (mskD t c) n1).n : Int), .slice tp9 tl9 tc9, .slice dp9 dl9 dc9], .int .i64 0]) (by simp [results, Tryz.results81, go_sem, c90, c91, c92]) rfl (by obtain rfl := hQ0.out; exact ⟨⟨⟨tp9, tl9, tc9⟩, ⟨dp9, dl9, dc9⟩, ws9⟩, rfl, hK⟩)
set_option maxRecDepth 100000 in
theorem final_any (w : World) {t : TopD} {p_t : Option Addr} {n_t c_t : Nat} {q_t : Option Addr} {m_t d_t : Nat} (ht : TopV w (.agg #[.int .i64 t.nodes, .slice p_t n_t c_t, .slice q_t m_t d_t]) t) {c : CmpD} (n1 : Nat) (hl : t.links.length ≤ 100000) (ht2 : topOk t = true) (hwc : winB t c = true) (hn1 : n1 < nN t) :
    Calls Tryz.prog 50 #[.agg #[.int .i64 t.nodes, .slice p_t n_t c_t, .slice q_t m_t d_t], .agg #[.int .i64 c.k, .int .i64 c.n], .int .i64 (n1 : Int)] w fun e w' => ∃ z : TbS, e = .returned (.tuple #[z.v (rtD t (mskD t c) n1), .int .i64 0]) ∧ SS w [tbF z (rtD t (mskD t c) n1)] w' := by
  have ht_1 := ht.parts.1; have ht_2 := ht.parts.2; have b_t : m_t ≤ 100000 := (by rw [ht_2.one0]; exact hl); have a_t : arcsD t ≤ 200000 := (by unfold arcsD; omega)
  have hK := SS.start w
  refine Calls.hide (fun Q0 hQ0 => ?_)
  go_enter Tryz.func50, Tryz.ntmps50
  go_upto_region 0 with (fail)
  refine wp_region_T [3, 3, 3, 0] hK ?_
  clear hK
  refine eA (.cells #[.int .i64 t.nodes, .slice p_t n_t c_t, .slice q_t m_t d_t] 25) (fun R1 => ?_)
  refine eA (.cells #[.int .i64 c.k, .int .i64 c.n] 44) (fun R2 => ?_)
  refine eA (.cells #[.int .i64 0, .slice none 0 0, .slice none 0 0] 62) (fun R3 => ?_)
  refine e0 ?_
  refine sxEnd (fun W4 hK => ?_)
  go_upto_region 1 with (fail)
  refine wp_region_T [1, 1, 0, 2, 0, 0, 4, 0] hK ?_
  clear hK
  refine eL m2 ?_
  refine eL m1 ?_
  refine e0 ?_
  refine eC (fun w k => after_any w (ht.below k.old) (c := c) n1 hl ht2 hwc hn1) (fun x6 => ?_)
  obtain ⟨⟨tp5, tl5, tc5⟩, ⟨dp5, dl5, dc5⟩, ws5⟩ := x6; dsimp only [TbS.v]
  iterate 2 refine e0 ?_
  refine eP 1 0 [.int .i64 ((rtD t (mskD t c) n1).n : Int), .slice tp5 tl5 tc5, .slice dp5 dl5 dc5] ?_
  refine e0 ?_
  refine sxEnd (fun W7 hK => ?_)
  have ⟨c90, c91, c92⟩ := (hK.box m1).c3
  replace hK := hK.subl (sK2 (sC2 (sC2 (sC2 sZ2))))
  go_wp2
  exact bodyPost_ret (v := .tuple #[.agg #[.int .i64 ((rtD t (mskD t c) n1).n : Int), .slice tp5 tl5 tc5, .slice dp5 dl5 dc5], .int .i64 0]) (by simp [results, Tryz.results50, go_sem, c90, c91, c92]) rfl (by obtain rfl := hQ0.out; exact ⟨⟨⟨tp5, tl5, tc5⟩, ⟨dp5, dl5, dc5⟩, ws5⟩, rfl, hK⟩)
set_option maxRecDepth 100000 in
theorem tabs4_any (w : World) (n1 : Nat) {Rt : Nat} {Rc : Nat} {t : TopD} {p_t : Option Addr} {n_t c_t : Nat} {q_t : Option Addr} {m_t d_t : Nat} (ht : TopV w (.agg #[.int .i64 t.nodes, .slice p_t n_t c_t, .slice q_t m_t d_t]) t) {c : CmpD} (hbt : Has 0 Rt (.cells #[.int .i64 t.nodes, .slice p_t n_t c_t, .slice q_t m_t d_t] 25) w) (hbc : Has 0 Rc (.cells #[.int .i64 c.k, .int .i64 c.n] 44) w) (hl : t.links.length ≤ 100000) (ht2 : topOk t = true) (hwc : winB t c = true) (hn1 : n1 < nN t) :
    Calls Tryz.prog 49 #[.int .i64 (n1 : Int), .pointer (some ⟨Rt, 0, none⟩), .pointer (some ⟨Rc, 0, none⟩)] w fun e w' => ∃ z : TbS, e = .returned (.tuple #[z.v (rtD t (mskD t c) n1), .int .i64 0]) ∧ SS w [tbF z (rtD t (mskD t c) n1)] w' := by
  have hK := SS.start w
  refine Calls.hide (fun Q0 hQ0 => ?_)
  go_enter Tryz.func49, Tryz.ntmps49
  go_upto_region 0 with (fail)
  refine wp_region_T [3, 0] hK ?_
  clear hK
  refine eA (.cells #[.int .i64 0, .slice none 0 0, .slice none 0 0] 62) (fun R1 => ?_)
  refine e0 ?_
  refine sxEnd (fun W2 hK => ?_)
  go_upto_region 1 with (fail)
  refine wp_region_T [0, 0, 0, 2, 0, 0, 4, 0] hK ?_
  clear hK
  refine eX0 (fun w k => hbt.below k.old) ?_
  refine eX0 (fun w k => hbc.below k.old) ?_
  refine e0 ?_
  refine eC (fun w k => final_any w (ht.below k.old) (c := c) n1 hl ht2 hwc hn1) (fun x4 => ?_)
  obtain ⟨⟨tp3, tl3, tc3⟩, ⟨dp3, dl3, dc3⟩, ws3⟩ := x4; dsimp only [TbS.v]
  iterate 2 refine e0 ?_
  refine eP 1 0 [.int .i64 ((rtD t (mskD t c) n1).n : Int), .slice tp3 tl3 tc3, .slice dp3 dl3 dc3] ?_
  refine e0 ?_
  refine sxEnd (fun W5 hK => ?_)
  have ⟨c90, c91, c92⟩ := (hK.box m1).c3
  replace hK := hK.subl (sK2 (sC2 sZ2))
  go_wp2
  exact bodyPost_ret (v := .tuple #[.agg #[.int .i64 ((rtD t (mskD t c) n1).n : Int), .slice tp3 tl3 tc3, .slice dp3 dl3 dc3], .int .i64 0]) (by simp [results, Tryz.results49, go_sem, c90, c91, c92]) rfl (by obtain rfl := hQ0.out; exact ⟨⟨⟨tp3, tl3, tc3⟩, ⟨dp3, dl3, dc3⟩, ws3⟩, rfl, hK⟩)
set_option maxRecDepth 100000 in
set_option maxHeartbeats 1000000 in
theorem tables_any (w : World) {t : TopD} {p_t : Option Addr} {n_t c_t : Nat} {q_t : Option Addr} {m_t d_t : Nat} (ht : TopV w (.agg #[.int .i64 t.nodes, .slice p_t n_t c_t, .slice q_t m_t d_t]) t) {c : CmpD} {p_P : Option Addr} {n_P c_P : Nat} {P0 : List Int} (hP : SlV intK w (.slice p_P n_P c_P) P0) (hP0 : P0 = List.replicate (nN t) 3) (hl : t.links.length ≤ 100000) (ht2 : topOk t = true) (hwc : winB t c = true) :
    Calls Tryz.prog 15 #[.agg #[.int .i64 t.nodes, .slice p_t n_t c_t, .slice q_t m_t d_t], .agg #[.int .i64 c.k, .int .i64 c.n], .slice p_P n_P c_P] w fun e w' => ∃ x : Sl × List TbS, e = .returned (.tuple #[.slice x.1.p x.1.l x.1.c, .int .i64 0]) ∧ SS w [rO tabK 62 x.1.p x.1.l x.1.c (List.zipWith tabW x.2 (finL t c (nN t))), tsF x.2 (finL t c (nN t)), cF (x.2.length = nN t)] w' := by
  have ht_1 := ht.parts.1; have ht_2 := ht.parts.2; have b_t : m_t ≤ 100000 := (by rw [ht_2.one0]; exact hl); have a_t : arcsD t ≤ 200000 := (by unfold arcsD; omega)
  have hK := SS.start w
  have hnt := hid (topN ht2).1; have hnt1 : t.nodes ≤ (nN t : Int) := Int.le_of_eq hnt.out; have hnt2 : (nN t : Int) ≤ t.nodes := Int.le_of_eq hnt.out.symm; have hnm := (topN ht2).2.2.1
  obtain rfl := hP0; have hpl := hid (hP.one0.trans (by simp : (List.replicate (nN t) (3 : Int)).length = nN t)); have hpl1 := Nat.le_of_eq hpl.out; have hpl2 := Nat.le_of_eq hpl.out.symm
  refine Calls.hide (fun Q0 hQ0 => ?_)
  go_enter Tryz.func15, Tryz.ntmps15
  go_upto_region 0 with (fail)
  refine wp_region_T [3, 3, 0, 0] hK ?_
  clear hK
  refine eA (.cells #[.int .i64 t.nodes, .slice p_t n_t c_t, .slice q_t m_t d_t] 25) (fun R1 => ?_)
  refine eA (.cells #[.int .i64 c.k, .int .i64 c.n] 44) (fun R2 => ?_)
  iterate 2 refine e0 ?_
  refine sxEnd (fun W3 hK => ?_)
  go_upto_region 1 with (fail)
  refine wp_region_T [1, 1, 1, 0, 0, 0, 0, 0, 1, 0, 0] hK ?_
  clear hK
  refine eL m1 ?_
  refine eL m0 ?_
  refine eQ (fun w k => cvalid_any w (ht.below k.old) hl ht2 hwc) ?_
  iterate 5 refine e0 ?_
  refine eL m1 ?_
  refine eV (.bool false) (fun w' => by go_simp; (try go_bits); first | exact ⟨rfl, rfl⟩ | exact ⟨congrArg Value.bool (by simp; omega), rfl⟩) ?_
  refine e0 ?_
  refine sxEnd (fun W4 hK => ?_)
  go_upto_region 3 with (fail)
  refine wp_region_T [1, 1, 0, 1, 0] hK ?_
  clear hK
  refine eL m1 ?_
  refine eL m0 ?_
  refine e0 ?_
  refine eQ (fun w k => permit_any w (ht.below k.old) (hP.below k.old) rfl hl ht2 hwc) ?_
  refine e0 ?_
  refine sxEnd (fun W5 hK => ?_)
  go_upto_region 5 with (fail)
  refine wp_region_T [0, 0, 0, 0, 0, 3, 4] hK ?_
  clear hK
  iterate 5 refine e0 ?_
  refine eA (.cells #[.nilFunc, .nilFunc, .nilFunc, .nilFunc] 97) (fun R6 => ?_)
  refine eP 0 0 [.func (.func 44) #[] #[.pointer (some ⟨R1, 0, none⟩)], .func (.func 46) #[] #[.pointer (some ⟨R1, 0, none⟩), .pointer (some ⟨R2, 0, none⟩)], .func (.func 47) #[] #[.pointer (some ⟨R1, 0, none⟩), .pointer (some ⟨R2, 0, none⟩)], .func (.func 49) #[] #[.pointer (some ⟨R1, 0, none⟩), .pointer (some ⟨R2, 0, none⟩)]] ?_
  refine sxEnd (fun W7 hK => ?_)
  replace hK := hK.fact (rO tabK 62 none 0 0 (List.zipWith tabW ([] : List TbS) (finL t c 0))) OwV.nil (fun _ h => by cases h)
  replace hK := hK.ts0
  go_wp2_with fail
  go_loopw [36, 9] (fun s36 s9 wl => ∃ (kx : Nat) (pt : Option Addr) (nt : Nat) (ct : Nat) (zs : List TbS), s36 = .int .i64 (kx : Int) ∧ s9 = .slice pt nt ct ∧ (kx ≤ n_P) ∧ RowKit.Hid (zs.length = kx) ∧ SS w ([tsF zs (finL t c kx), rO tabK 62 pt nt ct (List.zipWith tabW zs (finL t c kx)), bx R6 (.cells #[.func (.func 44) #[] #[.pointer (some ⟨R1, 0, none⟩)], .func (.func 46) #[] #[.pointer (some ⟨R1, 0, none⟩), .pointer (some ⟨R2, 0, none⟩)], .func (.func 47) #[] #[.pointer (some ⟨R1, 0, none⟩), .pointer (some ⟨R2, 0, none⟩)], .func (.func 49) #[] #[.pointer (some ⟨R1, 0, none⟩), .pointer (some ⟨R2, 0, none⟩)]] 97), bx R2 (.cells #[.int .i64 c.k, .int .i64 c.n] 44), bx R1 (.cells #[.int .i64 t.nodes, .slice p_t n_t c_t, .slice q_t m_t d_t] 25)]) wl) (fun s36 s9 _ => n_P - (intOf s36).toNat)
  case atStart => exact ⟨0, none, 0, 0, ([] : List TbS), rfl, rfl, (by omega), hid rfl, hK⟩
  case round =>
   clear hK
   obtain ⟨kx, pt, nt, ct, zs, rfl, rfl, hk0, h_l, hK⟩ := hrel
   generalize wr = W8 at hK ⊢
   go_upto_region 8 with (fail)
   refine wp_region_T [0] hK ?_
   clear hK
   refine eB (decide (((kx : Int)) < ((n_P : Int)))) (fun b1 hb1 => ?_)
   refine sxEnd (fun W9 hK => ?_)
   cases b1
   · --
    have q_b1 : ((n_P : Int)) ≤ ((kx : Int)) := Int.not_lt.1 (of_decide_eq_false hb1.out)
    have hke : kx = nN t := (by omega); rw [hke] at hK h_l; replace hK := (hK.fact (cF (zs.length = nN t)) h_l.out)
    replace hK := hK.subl (sK2 (sK2 (sK2 (sC2 (sC2 (sC2 sZ2))))))
    replace hK := hK.up1
    replace hK := hK.up2
    go_wp2
    try go_ret
    show Q0 (.returned (.tuple #[.slice pt nt ct, .int .i64 0])) _
    exact (by obtain rfl := hQ0.out; exact ⟨(⟨pt, nt, ct⟩, zs), rfl, hK⟩)
   · --
    have q_b1 : ((kx : Int)) < ((n_P : Int)) := of_decide_eq_true hb1.out
    have i10 : kx < n_P := (by omega)
    obtain ⟨g10, o10, rfl⟩ := hP.pt i10
    have l10 : kx < (List.replicate (nN t) (3 : Int)).length := Nat.lt_of_lt_of_eq i10 (hP.one0)
    obtain ⟨xa, exa⟩ : ∃ z0, RowKit.Hid ((List.replicate (nN t) (3 : Int))[kx]? = some z0) := ⟨_, hid (List.getElem?_eq_getElem l10)⟩
    obtain rfl : xa = 3 := (by have q := List.mem_of_getElem? exa.out; exact (List.mem_replicate.1 q).2)
    go_upto_region 9 with (fail)
    refine wp_region_T [0, 0, 0, 0, 0] hK ?_
    clear hK
    iterate 2 refine e0 ?_
    refine eR0 (fun w k => (hP.below k.old).int exa.out) ?_
    iterate 2 refine e0 ?_
    refine sxEnd (fun W11 hK => ?_)
    go_upto_region 10 with (fail)
    refine wp_region_T [0, 0, 1, 3, 0, 3, 4] hK ?_
    clear hK
    iterate 2 refine e0 ?_
    refine eL m4 ?_
    refine eMk (K := entK) (t := 66) (x := (ent0 : EntW)) (nN t) (fun _ => rfl) rfl infoEnt (by show nN t * 3 ≤ 16777216; omega) (by decide) (fun g12 => ?_) (hv := hnt.out)
    refine e0 ?_
    refine eA (.cells #[.int .i64 0, .slice none 0 0, .slice none 0 0] 62) (fun R13 => ?_)
    refine eP 0 0 [.int .i64 (kx : Int), .slice (some ⟨g12, 0, none⟩) (nN t) (nN t), .slice none 0 0] ?_
    refine sxEnd (fun W14 hK => ?_)
    replace hK := hK.up1
    replace hK := hK.made (K := entK) (n := (nN t)) (fun _ => rfl) (by simp [maxLen]; omega)
    go_upto_region 11 with (fail)
    refine wp_region_T [1, 0, 1] hK ?_
    clear hK
    refine eL m5 ?_
    refine e0 ?_
    obtain ⟨b2, hb2⟩ : ∃ z9 : Bool, RowKit.Hid ((c.k == 2 && c.n == (kx : Int)) = z9) := ⟨_, hid rfl⟩
    refine eQ (v := .bool b2) (fun w k => gone_any w (c := c) (kx : Int)) ?_ (hv := by rw [hb2.out])
    refine sxEnd (fun W15 hK => ?_)
    cases b2
    · --
     go_upto_region 13 with (fail)
     refine wp_region_T [0, 0, 1, 0, 2, 0, 0, 0, 4] hK ?_
     clear hK
     iterate 2 refine e0 ?_
     refine eL m4 ?_
     refine e0 ?_
     refine eC (fun w k => tabs4_any w kx (ht.below k.old) (k.box m6) (k.box m5) hl ht2 hwc (by omega)) (fun x17 => ?_)
     obtain ⟨⟨tp16, tl16, tc16⟩, ⟨dp16, dl16, dc16⟩, ws16⟩ := x17; dsimp only [TbS.v]
     iterate 3 refine e0 ?_
     refine eP 2 0 [.int .i64 ((rtD t (mskD t c) kx).n : Int), .slice tp16 tl16 tc16, .slice dp16 dl16 dc16] ?_
     refine sxEnd (fun W18 hK => ?_)
     go_upto_region 14 with (fail)
     refine wp_region_T [0, 1, 3, 5, 0] hK ?_
     clear hK
     refine e0 ?_
     refine eL m2 ?_
     refine eA (.cells #[.int .i64 ((rtD t (mskD t c) kx).n : Int), .slice tp16 tl16 tc16, .slice dp16 dl16 dc16] 62) (fun R19 => ?_)
     refine eApp 5 tabK_free rfl infoTab (fun w k => k.one1 (K := tabK) (x := (⟨((rtD t (mskD t c) kx).n : Int), ⟨tp16, tl16, tc16⟩, ⟨dp16, dl16, dc16⟩⟩ : TabW)) m0 rfl) (by rw [List.length_zipWith, h_l.out, finL_len]; simp; omega) (fun x20 => ?_)
     obtain ⟨p20, n20, c20⟩ := x20; dsimp only
     refine e0 ?_
     refine sxEnd (fun W21 hK => ?_)
     rw [show (List.zipWith tabW zs (finL t c kx)) ++ [(⟨((rtD t (mskD t c) kx).n : Int), ⟨tp16, tl16, tc16⟩, ⟨dp16, dl16, dc16⟩⟩ : TabW)] = List.zipWith tabW (zs ++ [⟨⟨tp16, tl16, tc16⟩, ⟨dp16, dl16, dc16⟩, ws16⟩]) (finL t c (kx + 1)) from (zw_snoc (Z := ⟨⟨tp16, tl16, tc16⟩, ⟨dp16, dl16, dc16⟩, ws16⟩) h_l.out (finT_no hb2.out))] at hK
     replace hK := hK.up4
     replace hK := hK.up2
     replace hK := hK.tsN (by rw [h_l.out, finL_len]); rw [finL_snoc (finT_no hb2.out)] at hK
     (try go_wp2)
     go_roundw
     case rel => exact ⟨kx + 1, p20, n20, c20, (zs ++ [⟨⟨tp16, tl16, tc16⟩, ⟨dp16, dl16, dc16⟩, ws16⟩]), (by first | rfl | go_num), (by first | rfl | go_num), (by omega), hid (by rw [List.length_append, h_l.out]; rfl), (hK.subl (sK2 (sC2 (sC2 (sC2 (List.Sublist.refl _))))))⟩
     case measure => simp [intOf] <;> omega
    · --
     go_upto_region 12 with (fail)
     refine wp_region_T [1, 0, 2, 0, 4] hK ?_
     clear hK
     refine eL m6 ?_
     refine e0 ?_
     refine eC (fun w k => out_any w (ht.below k.old) kx hl ht2) (fun x22 => ?_)
     obtain ⟨p23, n23, c23⟩ := x22; dsimp only
     refine e0 ?_
     refine eP 2 2 [.slice p23 n23 c23] ?_
     refine sxEnd (fun W24 hK => ?_)
     go_upto_region 14 with (fail)
     refine wp_region_T [0, 1, 3, 5, 0] hK ?_
     clear hK
     refine e0 ?_
     refine eL m2 ?_
     refine eA (.cells #[.int .i64 (kx : Int), .slice (some ⟨g12, 0, none⟩) (nN t) (nN t), .slice p23 n23 c23] 62) (fun R25 => ?_)
     refine eApp 5 tabK_free rfl infoTab (fun w k => k.one1 (K := tabK) (x := (⟨(kx : Int), ⟨(some ⟨g12, 0, none⟩), (nN t), (nN t)⟩, ⟨p23, n23, c23⟩⟩ : TabW)) m0 rfl) (by rw [List.length_zipWith, h_l.out, finL_len]; simp; omega) (fun x26 => ?_)
     obtain ⟨p26, n26, c26⟩ := x26; dsimp only
     refine e0 ?_
     refine sxEnd (fun W27 hK => ?_)
     replace hK := hK.up2
     replace hK := hK.up2
     replace hK := hK.goneT
     rw [show (List.zipWith tabW zs (finL t c kx)) ++ [(⟨(kx : Int), ⟨(some ⟨g12, 0, none⟩), (nN t), (nN t)⟩, ⟨p23, n23, c23⟩⟩ : TabW)] = List.zipWith tabW (zs ++ [⟨⟨(some ⟨g12, 0, none⟩), nN t, nN t⟩, ⟨p23, n23, c23⟩, List.replicate (nN t) ent0⟩]) (finL t c (kx + 1)) from (zw_snoc (Z := ⟨⟨(some ⟨g12, 0, none⟩), nN t, nN t⟩, ⟨p23, n23, c23⟩, List.replicate (nN t) ent0⟩) h_l.out (finT_yes hb2.out))] at hK
     replace hK := hK.up3
     replace hK := hK.up1
     replace hK := hK.tsN (by rw [h_l.out, finL_len]); rw [finL_snoc (finT_yes hb2.out)] at hK
     (try go_wp2)
     go_roundw
     case rel => exact ⟨kx + 1, p26, n26, c26, (zs ++ [⟨⟨(some ⟨g12, 0, none⟩), nN t, nN t⟩, ⟨p23, n23, c23⟩, List.replicate (nN t) ent0⟩]), (by first | rfl | go_num), (by first | rfl | go_num), (by omega), hid (by rw [List.length_append, h_l.out]; rfl), (hK.subl (sK2 (sC2 (sC2 (List.Sublist.refl _)))))⟩
     case measure => simp [intOf] <;> omega
end Go.Proofs.YtmcfomainmppdaaGreatDoor
