/- Segment lists of paths (encode). -/
import Derived.Test.YtmcfomainmppdaaGreatDoorFWhE
import Derived.Test.YtmcfomainmppdaaGreatDoorFWmA
import Derived.WalkMore
namespace Go.Proofs.YtmcfomainmppdaaGreatDoor
open Go.RowKit
open Go.Lib (decDigits)
set_option maxRecDepth 100000 in
set_option maxHeartbeats 1000000 in
theorem efollow_any (w : World) {t : TopD} {p_t : Option Addr} {n_t c_t : Nat} {q_t : Option Addr} {m_t d_t : Nat} (ht : TopV w (.agg #[.int .i64 t.nodes, .slice p_t n_t c_t, .slice q_t m_t d_t]) t) {p_d : Option Addr} {n_d c_d : Nat} {down : List Bool} (hd : SlV boolK w (.slice p_d n_d c_d) down) {p_P : Option Addr} {n_P c_P : Nat} {P0 : List Int} (hP : SlV intK w (.slice p_P n_P c_P) P0) (n1 : Nat) {p : List Nat} (hP0 : P0 = natI p) (hl : t.links.length ≤ 100000) (ht2 : topOk t = true) (hn1 : n1 < nN t) (hW : WayD t n1 p) (hP1 : p.length ≤ 100000) (hdl : RowKit.Hid (down.length = 0 ∨ down.length = arcsD t)) (hup : ∀ a ∈ p, upD down a = true) :
    Calls Tryz.prog 31 #[.agg #[.int .i64 t.nodes, .slice p_t n_t c_t, .slice q_t m_t d_t], .slice p_d n_d c_d, .slice p_P n_P c_P, .int .i64 (n1 : Int)] w fun e w' => ∃ x : TrkZ, e = .returned (.tuple #[.pointer (some ⟨x.R, 0, none⟩), .int .i64 0]) ∧ SS w [bx x.R (.cells #[.int .i64 t.nodes, .slice p_t n_t c_t, .slice q_t m_t d_t, .slice p_d n_d c_d, .slice p_P n_P c_P, .slice x.n.p x.n.l x.n.c, .slice x.c.p x.c.l x.c.c, .map (some x.a), .map (some x.b)] 82), rO intK 3 x.n.p x.n.l x.n.c (natI (nodW t n1 p p.length)), rO intK 3 x.c.p x.c.l x.c.c (cosW t p p.length), bx x.a (mapD []), bx x.b (map2 [])] w' := by
  have ht_1 := ht.parts.1; have ht_2 := ht.parts.2; have b_t : m_t ≤ 100000 := (by rw [ht_2.one0]; exact hl); have a_t : arcsD t ≤ 200000 := (by unfold arcsD; omega)
  have hK := SS.start w
  obtain rfl := hP0
  have hpl := hid (hP.one0.trans (natI_len p)); have hpl1 := Nat.le_of_eq hpl.out; have hpl2 := Nat.le_of_eq hpl.out.symm; have hnt := hid (topN ht2).1; have hnd : (decide (0 ≤ ((n1 : Nat) : Int)) && decide (((n1 : Nat) : Int) < t.nodes)) = true := (by have q := hnt.out; simp; omega)
  have hfb : decide (down.length = 0 ∨ down.length = 2 * t.links.length) = true := decide_eq_true hdl.out; have hua : ∀ a ∈ p, upD down a = true ∧ (down.length = 0 ∨ a < down.length) := fun a ha => ⟨hup a ha, by { have q := hdl.out; have q2 := hW.mem_lt ha; omega }⟩
  refine Calls.hide (fun Q0 hQ0 => ?_)
  go_enter Tryz.func31, Tryz.ntmps31
  go_upto_region 0 with (fail)
  refine wp_region_T [3, 0, 0] hK ?_
  clear hK
  refine eA (.cells #[.int .i64 t.nodes, .slice p_t n_t c_t, .slice q_t m_t d_t] 25) (fun R1 => ?_)
  iterate 2 refine e0 ?_
  refine sxEnd (fun W2 hK => ?_)
  go_upto_region 1 with (fail)
  refine wp_region_T [1, 1, 0, 0, 1, 0, 1, 0, 0] hK ?_
  clear hK
  refine eL m0 ?_
  refine eQ (fun w k => (valid_any w (ht.below k.old) hl).mono fun _ _ q => by rw [ht2] at q; exact q) ?_
  iterate 2 refine e0 ?_
  refine eL m0 ?_
  refine e0 ?_
  refine eQ (fun w k => (fits_any w (ht.below k.old) (hd.below k.old) hl).mono fun _ _ q => by rw [hfb] at q; exact q) ?_
  iterate 2 refine e0 ?_
  refine sxEnd (fun W3 hK => ?_)
  go_upto_region 3 with (fail)
  refine wp_region_T [1, 0, 0, 1, 0, 0, 0, 0, 0, 0, 0] hK ?_
  clear hK
  refine eL m0 ?_
  iterate 2 refine e0 ?_
  refine eQ (fun w k => tpath_any w (ht.below k.old) n1 (hP.below k.old) rfl hl ht2 hn1 hW hP1) ?_
  iterate 7 refine e0 ?_
  refine sxEnd (fun W4 hK => ?_)
  go_upto_region 4 with (fail)
  refine wp_region_T [0, 0] hK ?_
  clear hK
  iterate 2 refine e0 ?_
  refine sxEnd (fun W5 hK => ?_)
  go_upto_region 6 with (fail)
  refine wp_region_T [1, 0, 0, 0, 3, 3, 3, 3, 0, 3, 0] hK ?_
  clear hK
  refine eL m0 ?_
  iterate 3 refine e0 ?_
  refine eA (.cells #[.int .i64 (n1 : Int)] 3) (fun R6 => ?_)
  refine eA (.cells #[.int .i64 0] 3) (fun R7 => ?_)
  refine eMm (fun RM8 => ?_)
  refine eMm2 (fun RM9 => ?_)
  refine e0 ?_
  refine eA (.cells #[.int .i64 t.nodes, .slice p_t n_t c_t, .slice q_t m_t d_t, .slice p_d n_d c_d, .slice p_P n_P c_P, .slice (some ⟨R6, 0, none⟩) 1 1, .slice (some ⟨R7, 0, none⟩) 1 1, .map (some RM8), .map (some RM9)] 82) (fun R10 => ?_)
  refine e0 ?_
  refine sxEnd (fun W11 hK => ?_)
  replace hK := hK.up4
  replace hK := hK.lit1
  rw [show [(n1 : Int)] = natI (nodW t n1 p 0) from rfl] at hK
  replace hK := hK.up4
  replace hK := hK.lit1
  rw [show [0] = cosW t p 0 from rfl] at hK
  go_wp2_with fail
  go_loopw [49, 14] (fun s49 s14 wl => ∃ (kx : Nat) (pn : Option Addr) (nn : Nat) (cn : Nat) (pc : Option Addr) (nc : Nat) (cc : Nat), s49 = .int .i64 (kx : Int) ∧ s14 = .int .i64 (csW t p kx) ∧ (kx ≤ n_P) ∧ SS w ([rO intK 3 pc nc cc (cosW t p kx), rO intK 3 pn nn cn (natI (nodW t n1 p kx)), bx R10 (.cells #[.int .i64 t.nodes, .slice p_t n_t c_t, .slice q_t m_t d_t, .slice p_d n_d c_d, .slice p_P n_P c_P, .slice pn nn cn, .slice pc nc cc, .map (some RM8), .map (some RM9)] 82), bx RM9 (map2 ([])), bx RM8 (mapD ([])), bx R1 (.cells #[.int .i64 t.nodes, .slice p_t n_t c_t, .slice q_t m_t d_t] 25)]) wl) (fun s49 s14 _ => n_P - (intOf s49).toNat)
  case atStart => exact ⟨0, (some ⟨R6, 0, none⟩), 1, 1, (some ⟨R7, 0, none⟩), 1, 1, rfl, rfl, (by omega), hK⟩
  case round =>
   clear hK
   obtain ⟨kx, pn, nn, cn, pc, nc, cc, rfl, rfl, hk0, hK⟩ := hrel
   generalize wr = W12 at hK ⊢
   go_upto_region 9 with (fail)
   refine wp_region_T [0] hK ?_
   clear hK
   refine eB (decide (((kx : Int)) < ((n_P : Int)))) (fun b1 hb1 => ?_)
   refine sxEnd (fun W13 hK => ?_)
   cases b1
   · --
    have q_b1 : ((n_P : Int)) ≤ ((kx : Int)) := Int.not_lt.1 (of_decide_eq_false hb1.out)
    obtain rfl : kx = p.length := (by omega)
    replace hK := hK.subl (sK2 (sK2 (sK2 (sK2 (sK2 (sC2 sZ2))))))
    replace hK := hK.up3
    replace hK := hK.up4
    replace hK := hK.up2
    replace hK := hK.up3
    replace hK := hK.up4
    go_wp2
    try go_ret
    show Q0 (.returned (.tuple #[.pointer (some ⟨R10, 0, none⟩), .int .i64 0])) _
    exact (by obtain rfl := hQ0.out; exact ⟨⟨R10, ⟨pn, nn, cn⟩, ⟨pc, nc, cc⟩, RM8, RM9⟩, rfl, hK⟩)
   · --
    have q_b1 : ((kx : Int)) < ((n_P : Int)) := of_decide_eq_true hb1.out
    have i14 : kx < n_P := (by omega)
    obtain ⟨g14, o14, rfl⟩ := hP.pt i14
    have l14 : kx < (natI p).length := Nat.lt_of_lt_of_eq i14 (hP.one0)
    obtain ⟨xa, exa⟩ : ∃ z0, RowKit.Hid ((natI p)[kx]? = some z0) := ⟨_, hid (List.getElem?_eq_getElem l14)⟩
    obtain ⟨a, ha1, rfl⟩ := natI_at exa.out; have ea1 := hid ha1; have haW := hid (hW.at ha1); have haA := haW.out.1; have hu := hid (hua a (List.mem_of_getElem? ha1)); have hub : (!upD down a) = false := (by rw [hu.out.1]; rfl); clear ha1; have hcb := hid (csW_bd ht2 hW kx); have hcl := (arc_ok ht2 haA).2.2.2.2.2.2.2; have hcb1 := hcb.out.1; have hcb2 := hcb.out.2
    go_upto_region 10 with (fail)
    refine wp_region_T [0, 0, 0] hK ?_
    clear hK
    refine e0 ?_
    refine eR0 (fun w k => (hP.below k.old).int exa.out) ?_
    refine e0 ?_
    refine sxEnd (fun W15 hK => ?_)
    go_upto_region 11 with (fail)
    refine wp_region_T [0, 0, 1] hK ?_
    clear hK
    iterate 2 refine e0 ?_
    refine eQ (fun w k => (down_any w (hd.below k.old) a hu.out.2).mono fun _ _ q => by rw [hub] at q; exact q) ?_
    refine sxEnd (fun W16 hK => ?_)
    go_upto_region 13 with (fail)
    refine wp_region_T [0, 1, 0, 1, 0, 0] hK ?_
    clear hK
    refine e0 ?_
    refine eL m5 ?_
    refine e0 ?_
    refine eQ (fun w k => costN_any w (ht.below k.old) a hl ht2 haA) ?_
    refine eV (.int .i64 (csW t p kx + (cN t a : Int))) (fun w' => by go_simp; (try go_bits); first | exact ⟨rfl, rfl⟩ | go_num) ?_
    refine e0 ?_
    refine sxEnd (fun W17 hK => ?_)
    go_upto_region 14 with (fail)
    refine wp_region_S _ [0, 0, 0, 0, 1, 0, 0, 1, 3, 5, 0, 0, 4] hK ?_ (sK2 (sC2 (sC2 (List.Sublist.refl _))))
    clear hK
    iterate 4 refine e0 ?_
    refine eL m2 ?_ (h1 := by intro w' k; have k0 := k.at 5 rfl; go_simp; (try go_bits); exact ⟨rfl, rfl⟩)
    refine eL0 m3 ?_
    refine e0 ?_
    refine eQ (fun w k => headN_any w (ht.below k.old) a hl ht2 haA) ?_
    refine eA (.cells #[.int .i64 ((hN t a : Nat) : Int)] 3) (fun R18 => ?_)
    refine eApp 2 intK_free rfl infoZ (fun w k => k.one1 (K := intK) (x := ((hN t a : Nat) : Int)) m0 rfl) (by rw [natI_len, nodW_len]; simp; omega) (fun x19 => ?_) (hs := fun _ => (sC2 (sK2 (sC2 (sC2 (List.Sublist.refl _))))))
    obtain ⟨p19, n19, c19⟩ := x19; dsimp only
    iterate 2 refine e0 ?_
    refine eP 3 5 [.slice p19 n19 c19] ?_ (hs := (sC2 (sK2 (sC2 (sC2 (List.Sublist.refl _)))))) (h1 := by intro w' k; have k0 := k.at 5 rfl; have f := k.fz; go_simp; exact ⟨rfl, rfl⟩)
    refine sxEnd (fun W20 hK => ?_)
    go_upto_region 15 with (fail)
    refine wp_region_T [0, 0, 0, 0, 1, 0, 3, 5, 0, 0, 4] hK ?_
    clear hK
    iterate 4 refine e0 ?_
    refine eL m3 ?_ (h1 := by intro w' k; have k0 := k.at 6 rfl; go_simp; (try go_bits); exact ⟨rfl, rfl⟩)
    refine e0 ?_
    refine eA (.cells #[.int .i64 (csW t p kx + (cN t a : Int))] 3) (fun R21 => ?_)
    refine eApp 2 intK_free rfl infoZ (fun w k => k.one1 (K := intK) (x := (csW t p kx + (cN t a : Int))) m0 rfl) (by rw [cosW_len]; simp; omega) (fun x22 => ?_)
    obtain ⟨p22, n22, c22⟩ := x22; dsimp only
    iterate 2 refine e0 ?_
    refine eP 4 6 [.slice p22 n22 c22] ?_ (h1 := by intro w' k; have k0 := k.at 6 rfl; have f := k.fz; go_simp; exact ⟨rfl, rfl⟩)
    refine sxEnd (fun W23 hK => ?_)
    rw [show (natI (nodW t n1 p kx)) ++ [((hN t a : Nat) : Int)] = natI (nodW t n1 p (kx + 1)) from (by rw [natI_snoc, nodW_snoc ea1.out])] at hK
    rw [show (cosW t p kx) ++ [(csW t p kx + (cN t a : Int))] = cosW t p (kx + 1) from (cosW_snoc ea1.out)] at hK
    (try go_wp2)
    go_roundw
    case rel => exact ⟨kx + 1, p19, n19, c19, p22, n22, c22, (by first | rfl | go_num), (congrArg (Value.int .i64) (csW_succ ea1.out).symm), (by omega), (hK.subl (sC2 (sC2 (List.Sublist.refl _))))⟩
    case measure => simp [intOf] <;> omega
set_option maxRecDepth 100000 in
set_option maxHeartbeats 2000000 in
theorem covered_any (w V : World) {t : TopD} {p_t : Option Addr} {n_t c_t : Nat} {q_t : Option Addr} {m_t d_t : Nat} {p_d : Option Addr} {n_d c_d : Nat} {down : List Bool} {p_P : Option Addr} {n_P c_P : Nat} {p : List Nat} {n1 : Nat} {pn pc : Option Addr} {nn cn nc cc Ra Rb : Nat} {M W : List (Nat × Sl)} {U : List (Duk × Bool)} (ht : TopV V (.agg #[.int .i64 t.nodes, .slice p_t n_t c_t, .slice q_t m_t d_t]) t) (hd : SlV boolK V (.slice p_d n_d c_d) down) {R : Nat} (i : Nat) (j : Nat) (l9 : List Ft) (hK : SS V ((bx R (.cells #[.int .i64 t.nodes, .slice p_t n_t c_t, .slice q_t m_t d_t, .slice p_d n_d c_d, .slice p_P n_P c_P, .slice pn nn cn, .slice pc nc cc, .map (some Ra), .map (some Rb)] 82)) :: (rO intK 3 pn nn cn (natI (nodW t n1 p p.length))) :: (rO intK 3 pc nc cc (cosW t p p.length)) :: (bx Ra (mapD M)) :: (bx Rb (map2 U)) :: (cF (TrkI t down M W U)) :: l9) w) (hz : OzA l9) (hl9 : ∀ e ∈ W, drF t down e ∈ l9) (hl : t.links.length ≤ 100000) (ht2 : topOk t = true) (hn1 : n1 < nN t) (hW : WayD t n1 p) (hP1 : p.length ≤ 100000) (hdl : RowKit.Hid (down.length = 0 ∨ down.length = arcsD t)) (hij : i < j) (hj : j ≤ p.length) :
    Calls Tryz.prog 32 #[.pointer (some ⟨R, 0, none⟩), .int .i64 (i : Int), .int .i64 (j : Int)] w fun e w' => ∃ z : CovZ, e = .returned (.bool (covW t down n1 p i j)) ∧ SS V (bx R (.cells #[.int .i64 t.nodes, .slice p_t n_t c_t, .slice q_t m_t d_t, .slice p_d n_d c_d, .slice p_P n_P c_P, .slice pn nn cn, .slice pc nc cc, .map (some Ra), .map (some Rb)] 82) :: rO intK 3 pn nn cn (natI (nodW t n1 p p.length)) :: rO intK 3 pc nc cc (cosW t p p.length) :: bx Ra (mapD z.M) :: bx Rb (map2 z.U) :: cF (TrkI t down z.M (z.W ++ W) z.U) :: drL t down z.W l9) w' := by
  have hI := hid (hK.get m5); have hnlen := hid ((hK.len m1).trans ((natI_len _).trans nodW_len)); have hclen := hid ((hK.len m2).trans cosW_len); have hn9 := Nat.le_of_eq hnlen.out.symm; have hc9 := Nat.le_of_eq hclen.out.symm; have hn8 := Nat.le_of_eq hnlen.out; have hc8 := Nat.le_of_eq hclen.out; have hA : ndW t n1 p i < nN t := hW.nd_lt ht2 hn1 (by omega); have hB : ndW t n1 p j < nN t := hW.nd_lt ht2 hn1 hj; have hc0 := hid (show chkD t down [((ndW t n1 p j : Nat) : Int)] = 0 from chk_of ht2 hdl.out hB); have hci := hid (csW_bd ht2 hW i); have hcj := hid (csW_bd ht2 hW j); have hci1 := hci.out.1; have hci2 := hci.out.2; have hcj1 := hcj.out.1; have hcj2 := hcj.out.2; have hnm := (topN ht2).2.2.1
  replace hK := hK.subl (sK2 (sK2 (sK2 (sK2 (sK2 (sC2 (List.Sublist.refl _)))))))
  refine Calls.hide (fun Q0 hQ0 => ?_)
  go_enter Tryz.func32, Tryz.ntmps32
  have i1 : i < nn := (by omega)
  obtain ⟨g1, rfl⟩ := hK.pt m1 i1
  have l1 : i < (natI (nodW t n1 p p.length)).length := Nat.lt_of_lt_of_eq i1 (hK.len m1)
  have i2 : j < nn := (by omega)
  have l2 : j < (natI (nodW t n1 p p.length)).length := Nat.lt_of_lt_of_eq i2 (hK.len m1)
  go_upto_region 1 with (fail)
  refine wp_region_S _ [0, 0, 0, 0, 0, 0, 0, 0, 0, 0, 0, 0, 0, 0, 0, 0] hK ?_ (List.Sublist.refl _)
  clear hK
  iterate 3 refine e0 ?_
  refine eL0 m0 ?_ (h1 := by intro w' k; have k0 := k.at 5 rfl; go_simp; (try go_bits); exact ⟨rfl, rfl⟩)
  iterate 2 refine e0 ?_
  refine eR0 (fun w k => (k.own m1).int (nod_at (i := i) (by omega))) ?_
  iterate 3 refine e0 ?_
  refine eL0 m0 ?_ (h1 := by intro w' k; have k0 := k.at 5 rfl; go_simp; (try go_bits); exact ⟨rfl, rfl⟩)
  iterate 2 refine e0 ?_
  refine eR0 (fun w k => (k.own m1).int (nod_at (i := j) (by omega))) ?_
  iterate 2 refine e0 ?_
  refine sxEnd (fun W3 hK => ?_)
  obtain ⟨⟨sp, sl, sc⟩, hs⟩ : ∃ z : Sl, RowKit.Hid (slM M (ndW t n1 p j) = z) := ⟨_, hid rfl⟩; rcases sp with _ | sa
  · --
   go_upto_region 2 with (fail)
   refine wp_region_T [0, 0, 0, 1, 0, 1, 0] hK ?_
   clear hK
   iterate 3 refine e0 ?_
   refine eL m0 ?_ (h1 := by intro w' k; have k0 := k.at 7 rfl; go_simp; (try go_bits); exact ⟨rfl, rfl⟩)
   refine e0 ?_
   refine eLk mapTS m3 ?_ (ha := by simp only [mkOf, Act.put, pA, pB, pC, pD, pE]; rw [posI_D, hs.out])
   refine eV (.bool true) (fun w' => by go_simp; (try go_bits); exact ⟨rfl, rfl⟩) ?_
   refine sxEnd (fun W4 hK => ?_)
   go_upto_region 3 with (fail)
   refine wp_region_S _ [0, 0, 0, 0, 0, 0, 0, 0, 0, 0, 0, 0, 0, 0, 2, 0, 0, 0, 4] hK ?_ (sK2 (sK2 (sK2 (sC2 (List.Sublist.refl _)))))
   clear hK
   iterate 3 refine e0 ?_
   refine eL0 m0 ?_ (h1 := by intro w' k; have k0 := k.at 7 rfl; go_simp; (try go_bits); exact ⟨rfl, rfl⟩)
   iterate 4 refine e0 ?_
   refine eL0 m0 ?_ (h1 := by intro w' k; have k0 := k.at 0 rfl; have k1 := k.at 1 rfl; have k2 := k.at 2 rfl; go_simp; (try go_bits); exact ⟨rfl, rfl⟩)
   iterate 3 refine e0 ?_
   refine eL0 m0 ?_ (h1 := by intro w' k; have k0 := k.at 3 rfl; go_simp; (try go_bits); exact ⟨rfl, rfl⟩)
   refine e0 ?_
   refine eC (fun w k => dist_ok w (ht.below k.old) (hd.below k.old) (ndW t n1 p j) hl hc0.out) (fun x5 => ?_)
   obtain ⟨p6, n6, c6⟩ := x5; dsimp only
   iterate 3 refine e0 ?_
   refine eUp (l := M.map fun e => ((e.1 : Int), .slice e.2.p e.2.l e.2.c)) (v := .slice p6 n6 c6) mapTS 5 ?_ (hs := (sC2 (sC2 (sK2 (sK2 (sK2 (sC2 (List.Sublist.refl _))))))))
   refine sxEnd (fun W7 hK => ?_)
   have hdd := hid (hK.get m1); have hsmD := hid (hdd.out.small ht2); have hsn : (slM M (ndW t n1 p j)).p = none := (by rw [hs.out])
   have i8 : ndW t n1 p i < n6 := (by rw [hK.len m0, hdd.out.1]; exact hA)
   obtain ⟨g8, rfl⟩ := hK.pt m0 i8
   have l8 : ndW t n1 p i < (dstD t down (ndW t n1 p j)).length := Nat.lt_of_lt_of_eq i8 (hK.len m0)
   obtain ⟨dn, edn⟩ : ∃ z0, RowKit.Hid ((dstD t down (ndW t n1 p j))[ndW t n1 p i]? = some z0) := ⟨_, hid (List.getElem?_eq_getElem l8)⟩
   have hup1 := hid (slM_up (s := ⟨(some ⟨g8, 0, none⟩), n6, c6⟩) hI.out.s hsn); dsimp only at hup1; rw [show bx Ra (mapI (upI (M.map fun e => ((e.1 : Int), .slice e.2.p e.2.l e.2.c)) ((ndW t n1 p j : Nat) : Int) (.slice (some ⟨g8, 0, none⟩) n6 c6))) = bx Ra (mapD (M ++ [(ndW t n1 p j, (⟨(some ⟨g8, 0, none⟩), n6, c6⟩ : Sl))])) from congrArg (fun z => bx Ra (mapI z)) hup1.out] at hK; have hsk := hid (slM_none (s := (⟨(some ⟨g8, 0, none⟩), n6, c6⟩ : Sl)) hI.out.s hsn); replace hI := hid (hI.out.addM (s := ⟨(some ⟨g8, 0, none⟩), n6, c6⟩) (fun e => by cases e) hdd.out)
   replace hK := hK.subl (sK2 (sC2 (List.Sublist.refl _)))
   have i9 : j < nc := (by omega)
   obtain ⟨g9, rfl⟩ := hK.pt m3 i9
   have l9 : j < (cosW t p p.length).length := Nat.lt_of_lt_of_eq i9 (hK.len m3)
   have i10 : i < nc := (by omega)
   have l10 : i < (cosW t p p.length).length := Nat.lt_of_lt_of_eq i10 (hK.len m3)
   have hsm1 := hsmD.out (ndW t n1 p i); rw [atD_of edn.out] at hsm1
   go_upto_region 4 with (fail)
   refine wp_region_S _ [0, 0, 0, 0, 0, 0, 0, 0, 0, 0, 0, 0, 0, 0, 0, 0, 0, 0, 0, 0, 0, 0, 0, 0, 0] hK ?_ (List.Sublist.refl _)
   clear hK
   iterate 3 refine e0 ?_
   refine eL0 m1 ?_ (h1 := by intro w' k; have k0 := k.at 7 rfl; go_simp; (try go_bits); exact ⟨rfl, rfl⟩)
   refine e0 ?_
   refine eLk0 mapTS m4 ?_ (ha := by simp only [mkOf, Act.put, pA, pB, pC, pD, pE]; rw [posI_D, hsk.out])
   iterate 2 refine e0 ?_
   refine eR0 (fun w k => (k.own m0).int edn.out) ?_
   iterate 3 refine e0 ?_
   refine eL0 m1 ?_ (h1 := by intro w' k; have k0 := k.at 6 rfl; go_simp; (try go_bits); exact ⟨rfl, rfl⟩)
   iterate 2 refine e0 ?_
   refine eR0 (fun w k => (k.own m3).int (cosW_at (i := j) (by omega))) ?_
   iterate 3 refine e0 ?_
   refine eL0 m1 ?_ (h1 := by intro w' k; have k0 := k.at 6 rfl; go_simp; (try go_bits); exact ⟨rfl, rfl⟩)
   iterate 2 refine e0 ?_
   refine eR0 (fun w k => (k.own m3).int (cosW_at (i := i) (by omega))) ?_
   refine eV (.int .i64 (csW t p j - csW t p i)) (fun w' => by go_simp; (try go_bits); first | exact ⟨rfl, rfl⟩ | go_num) ?_
   refine eB (dn != ((csW t p j - csW t p i))) (fun b1 hb1 => ?_)
   refine sxEnd (fun W11 hK => ?_)
   cases b1
   · --
    go_upto_region 6 with (fail)
    refine wp_region_T [0, 0, 0, 3, 4] hK ?_
    clear hK
    iterate 3 refine e0 ?_
    refine eA (.cells #[.int .i64 0, .int .i64 0] 57) (fun R12 => ?_)
    refine eP 0 0 [.int .i64 ((ndW t n1 p i : Nat) : Int), .int .i64 ((ndW t n1 p j : Nat) : Int)] ?_
    refine sxEnd (fun W13 hK => ?_)
    rcases hq : pos2 U (((ndW t n1 p i : Nat) : Int), ((ndW t n1 p j : Nat) : Int)) with _ | ⟨q1, q2⟩
    · --
     go_upto_region 7 with (fail)
     refine wp_region_S _ [0, 0, 0, 0, 0, 0, 0, 0, 0, 0, 0] hK ?_ (List.Sublist.refl _)
     clear hK
     iterate 3 refine e0 ?_
     refine eL0 m2 ?_ (h1 := by intro w' k; have k0 := k.at 8 rfl; go_simp; (try go_bits); exact ⟨rfl, rfl⟩)
     refine eL0 m0 ?_
     refine eLk20 mapTU false false (k := (((ndW t n1 p i : Nat) : Int), ((ndW t n1 p j : Nat) : Int))) (by rw [hq]; rfl) m6 ?_
     iterate 5 refine e0 ?_
     refine sxEnd (fun W14 hK => ?_)
     go_upto_region 9 with (fail)
     refine wp_region_S _ [0, 0, 0, 0, 0, 0, 0, 0, 0, 0, 1, 0] hK ?_ (List.Sublist.refl _)
     clear hK
     iterate 3 refine e0 ?_
     refine eL0 m2 ?_ (h1 := by intro w' k; have k0 := k.at 0 rfl; have k1 := k.at 1 rfl; have k2 := k.at 2 rfl; go_simp; (try go_bits); exact ⟨rfl, rfl⟩)
     iterate 3 refine e0 ?_
     refine eL0 m2 ?_ (h1 := by intro w' k; have k0 := k.at 3 rfl; go_simp; (try go_bits); exact ⟨rfl, rfl⟩)
     iterate 2 refine e0 ?_
     obtain ⟨b2, hb2⟩ : ∃ z9 : Bool, RowKit.Hid (unqR t down ((ndW t n1 p i : Nat) : Int) ((ndW t n1 p j : Nat) : Int) = z9) := ⟨_, hid rfl⟩
     refine eQ (v := .bool b2) (fun w k => unique_any w (ht.below k.old) (hd.below k.old) ((ndW t n1 p i : Nat) : Int) ((ndW t n1 p j : Nat) : Int) hl) ?_ (hv := by rw [hb2.out])
     refine e0 ?_
     refine sxEnd (fun W15 hK => ?_)
     go_upto_region 10 with (fail)
     refine wp_region_S _ [0, 0, 0, 0, 0, 0, 4] hK ?_ (sK2 (sK2 (sK2 (sK2 (sK2 (sK2 (sC2 (List.Sublist.refl _))))))))
     clear hK
     iterate 3 refine e0 ?_
     refine eL0 m2 ?_ (h1 := by intro w' k; have k0 := k.at 8 rfl; go_simp; (try go_bits); exact ⟨rfl, rfl⟩)
     refine eL0 m0 ?_
     refine e0 ?_
     refine eUp2 (k := (((ndW t n1 p i : Nat) : Int), ((ndW t n1 p j : Nat) : Int))) (v := b2) mapTU 6 hq ?_ (hs := (sK2 (sK2 (sK2 (sK2 (sK2 (sK2 (sC2 (List.Sublist.refl _)))))))))
     refine sxEnd (fun W16 hK => ?_)
     rw [← hb2.out] at hK; replace hI := hid (hI.out.addU (q := (((ndW t n1 p i : Nat) : Int), ((ndW t n1 p j : Nat) : Int))))
     replace hK := hK.fact (cF (TrkI t down (M ++ [(ndW t n1 p j, (⟨(some ⟨g8, 0, none⟩), n6, c6⟩ : Sl))]) ([(ndW t n1 p j, (⟨(some ⟨g8, 0, none⟩), n6, c6⟩ : Sl))] ++ W) (U ++ [((((ndW t n1 p i : Nat) : Int), ((ndW t n1 p j : Nat) : Int)), unqR t down ((ndW t n1 p i : Nat) : Int) ((ndW t n1 p j : Nat) : Int))]))) (by have q := hI.out; (try dsimp only at q); exact q)
     replace hK := hK.subl (sK2 (sC2 (List.Sublist.refl _)))
     replace hK := hK.up1
     replace hK := hK.up1
     replace hK := hK.up6
     replace hK := hK.up6
     replace hK := hK.up6
     replace hK := hK.up6
     replace hK := hK.up6
     go_wp2
     try go_ret
     show Q0 (.returned (.bool b2)) _
     exact (by obtain rfl := hQ0.out; exact ⟨⟨M ++ [(ndW t n1 p j, (⟨(some ⟨g8, 0, none⟩), n6, c6⟩ : Sl))], [(ndW t n1 p j, (⟨(some ⟨g8, 0, none⟩), n6, c6⟩ : Sl))], U ++ [((((ndW t n1 p i : Nat) : Int), ((ndW t n1 p j : Nat) : Int)), unqR t down ((ndW t n1 p i : Nat) : Int) ((ndW t n1 p j : Nat) : Int))]⟩, congrArg (fun z => Ending.returned (.bool z)) (show covW t down n1 p i j = _ from by have q := hb1.out; unfold covW; rw [decide_eq_true (by rw [atD_of edn.out]; simpa using q), Bool.true_and]; exact hb2.out).symm, hK⟩)
    · --
     go_upto_region 7 with (fail)
     refine wp_region_S _ [0, 0, 0, 0, 0, 0, 0, 0, 0, 0, 0] hK ?_ (List.Sublist.refl _)
     clear hK
     iterate 3 refine e0 ?_
     refine eL0 m2 ?_ (h1 := by intro w' k; have k0 := k.at 8 rfl; go_simp; (try go_bits); exact ⟨rfl, rfl⟩)
     refine eL0 m0 ?_
     refine eLk20 mapTU q2 true (k := (((ndW t n1 p i : Nat) : Int), ((ndW t n1 p j : Nat) : Int))) (by rw [hq]; rfl) m6 ?_
     iterate 5 refine e0 ?_
     refine sxEnd (fun W17 hK => ?_)
     replace hK := hK.fact (cF (TrkI t down (M ++ [(ndW t n1 p j, (⟨(some ⟨g8, 0, none⟩), n6, c6⟩ : Sl))]) ([(ndW t n1 p j, (⟨(some ⟨g8, 0, none⟩), n6, c6⟩ : Sl))] ++ W) U)) (by have q := hI.out; (try dsimp only at q); exact q)
     replace hK := hK.subl (sK2 (sC2 (List.Sublist.refl _)))
     replace hK := hK.up1
     replace hK := hK.up1
     replace hK := hK.up6
     replace hK := hK.up6
     replace hK := hK.up6
     replace hK := hK.up6
     replace hK := hK.up6
     go_wp2
     try go_ret
     show Q0 (.returned (.bool q2)) _
     exact (by obtain rfl := hQ0.out; exact ⟨⟨M ++ [(ndW t n1 p j, (⟨(some ⟨g8, 0, none⟩), n6, c6⟩ : Sl))], [(ndW t n1 p j, (⟨(some ⟨g8, 0, none⟩), n6, c6⟩ : Sl))], U⟩, congrArg (fun z => Ending.returned (.bool z)) (show covW t down n1 p i j = _ from by have q := hb1.out; unfold covW; rw [decide_eq_true (by rw [atD_of edn.out]; simpa using q), Bool.true_and]; exact (hI.out.pos hq).symm).symm, hK⟩)
   · --
    replace hK := hK.fact (cF (TrkI t down (M ++ [(ndW t n1 p j, (⟨(some ⟨g8, 0, none⟩), n6, c6⟩ : Sl))]) ([(ndW t n1 p j, (⟨(some ⟨g8, 0, none⟩), n6, c6⟩ : Sl))] ++ W) U)) (by have q := hI.out; (try dsimp only at q); exact q)
    replace hK := hK.up1
    replace hK := hK.up1
    replace hK := hK.up6
    replace hK := hK.up6
    replace hK := hK.up6
    replace hK := hK.up6
    replace hK := hK.up6
    go_wp2
    try go_ret
    show Q0 (.returned (.bool false)) _
    exact (by obtain rfl := hQ0.out; exact ⟨⟨M ++ [(ndW t n1 p j, (⟨(some ⟨g8, 0, none⟩), n6, c6⟩ : Sl))], [(ndW t n1 p j, (⟨(some ⟨g8, 0, none⟩), n6, c6⟩ : Sl))], U⟩, congrArg (fun z => Ending.returned (.bool z)) (show covW t down n1 p i j = _ from by have q := hb1.out; unfold covW; rw [decide_eq_false (by rw [atD_of edn.out]; intro e; simp [e] at q), Bool.false_and]).symm, hK⟩)
  · --
   obtain ⟨gD, rfl, rfl, hdd⟩ := hI.out.sm hK hs.out (List.mem_cons_of_mem _ (List.mem_cons_of_mem _ (List.mem_cons_of_mem _ (List.mem_cons_of_mem _ (List.mem_cons_of_mem _ (by have q := hI.out.rowL hl9 (k := ndW t n1 p j) (by rw [hs.out]; exact fun e => by cases e); rwa [hs.out] at q)))))) (Nat.lt_of_le_of_lt (Nat.zero_le _) hA)
   replace hdd := hid hdd
   go_upto_region 2 with (fail)
   refine wp_region_T [0, 0, 0, 1, 0, 1, 0] hK ?_
   clear hK
   iterate 3 refine e0 ?_
   refine eL m0 ?_ (h1 := by intro w' k; have k0 := k.at 7 rfl; go_simp; (try go_bits); exact ⟨rfl, rfl⟩)
   refine e0 ?_
   refine eLk mapTS m3 ?_ (ha := by simp only [mkOf, Act.put, pA, pB, pC, pD, pE]; rw [posI_D, hs.out])
   refine eV (.bool false) (fun w' => by go_simp; (try go_bits); exact ⟨rfl, rfl⟩) ?_
   refine sxEnd (fun W18 hK => ?_)
   have hsmD := hid (hdd.out.small ht2)
   obtain ⟨dn, edn⟩ : ∃ z0, RowKit.Hid ((dstD t down (ndW t n1 p j))[ndW t n1 p i]? = some z0) := ⟨_, hid (List.getElem?_eq_getElem (by rw [hdd.out.1]; exact hA))⟩
   have hmr := hid (hI.out.rowL hl9 (k := ndW t n1 p j) (by rw [hs.out]; exact fun e => by cases e))
   have i19 : j < nc := (by omega)
   obtain ⟨g19, rfl⟩ := hK.pt m2 i19
   have l19 : j < (cosW t p p.length).length := Nat.lt_of_lt_of_eq i19 (hK.len m2)
   have i20 : i < nc := (by omega)
   have l20 : i < (cosW t p p.length).length := Nat.lt_of_lt_of_eq i20 (hK.len m2)
   have hsm1 := hsmD.out (ndW t n1 p i); rw [atD_of edn.out] at hsm1
   go_upto_region 4 with (fail)
   refine wp_region_S _ [0, 0, 0, 0, 0, 0, 0, 0, 0, 0, 0, 0, 0, 0, 0, 0, 0, 0, 0, 0, 0, 0, 0, 0, 0] hK ?_ (List.Sublist.refl _)
   clear hK
   iterate 3 refine e0 ?_
   refine eL0 m0 ?_ (h1 := by intro w' k; have k0 := k.at 7 rfl; go_simp; (try go_bits); exact ⟨rfl, rfl⟩)
   refine e0 ?_
   refine eLk0 mapTS m3 ?_ (ha := by simp only [mkOf, Act.put, pA, pB, pC, pD, pE]; rw [posI_D, hs.out])
   iterate 2 refine e0 ?_
   refine eR0 (fun w k => (k.own (List.mem_cons_of_mem _ (List.mem_cons_of_mem _ (List.mem_cons_of_mem _ (List.mem_cons_of_mem _ (List.mem_cons_of_mem _ (by have q := hI.out.rowL hl9 (k := ndW t n1 p j) (by rw [hs.out]; exact fun e => by cases e); rwa [hs.out] at q))))))).int edn.out) ?_
   iterate 3 refine e0 ?_
   refine eL0 m0 ?_ (h1 := by intro w' k; have k0 := k.at 6 rfl; go_simp; (try go_bits); exact ⟨rfl, rfl⟩)
   iterate 2 refine e0 ?_
   refine eR0 (fun w k => (k.own m2).int (cosW_at (i := j) (by omega))) ?_
   iterate 3 refine e0 ?_
   refine eL0 m0 ?_ (h1 := by intro w' k; have k0 := k.at 6 rfl; go_simp; (try go_bits); exact ⟨rfl, rfl⟩)
   iterate 2 refine e0 ?_
   refine eR0 (fun w k => (k.own m2).int (cosW_at (i := i) (by omega))) ?_
   refine eV (.int .i64 (csW t p j - csW t p i)) (fun w' => by go_simp; (try go_bits); first | exact ⟨rfl, rfl⟩ | go_num) ?_
   refine eB (dn != ((csW t p j - csW t p i))) (fun b1 hb1 => ?_)
   refine sxEnd (fun W21 hK => ?_)
   cases b1
   · --
    go_upto_region 6 with (fail)
    refine wp_region_T [0, 0, 0, 3, 4] hK ?_
    clear hK
    iterate 3 refine e0 ?_
    refine eA (.cells #[.int .i64 0, .int .i64 0] 57) (fun R22 => ?_)
    refine eP 0 0 [.int .i64 ((ndW t n1 p i : Nat) : Int), .int .i64 ((ndW t n1 p j : Nat) : Int)] ?_
    refine sxEnd (fun W23 hK => ?_)
    rcases hq : pos2 U (((ndW t n1 p i : Nat) : Int), ((ndW t n1 p j : Nat) : Int)) with _ | ⟨q1, q2⟩
    · --
     go_upto_region 7 with (fail)
     refine wp_region_S _ [0, 0, 0, 0, 0, 0, 0, 0, 0, 0, 0] hK ?_ (List.Sublist.refl _)
     clear hK
     iterate 3 refine e0 ?_
     refine eL0 m1 ?_ (h1 := by intro w' k; have k0 := k.at 8 rfl; go_simp; (try go_bits); exact ⟨rfl, rfl⟩)
     refine eL0 m0 ?_
     refine eLk20 mapTU false false (k := (((ndW t n1 p i : Nat) : Int), ((ndW t n1 p j : Nat) : Int))) (by rw [hq]; rfl) m5 ?_
     iterate 5 refine e0 ?_
     refine sxEnd (fun W24 hK => ?_)
     go_upto_region 9 with (fail)
     refine wp_region_S _ [0, 0, 0, 0, 0, 0, 0, 0, 0, 0, 1, 0] hK ?_ (List.Sublist.refl _)
     clear hK
     iterate 3 refine e0 ?_
     refine eL0 m1 ?_ (h1 := by intro w' k; have k0 := k.at 0 rfl; have k1 := k.at 1 rfl; have k2 := k.at 2 rfl; go_simp; (try go_bits); exact ⟨rfl, rfl⟩)
     iterate 3 refine e0 ?_
     refine eL0 m1 ?_ (h1 := by intro w' k; have k0 := k.at 3 rfl; go_simp; (try go_bits); exact ⟨rfl, rfl⟩)
     iterate 2 refine e0 ?_
     obtain ⟨b2, hb2⟩ : ∃ z9 : Bool, RowKit.Hid (unqR t down ((ndW t n1 p i : Nat) : Int) ((ndW t n1 p j : Nat) : Int) = z9) := ⟨_, hid rfl⟩
     refine eQ (v := .bool b2) (fun w k => unique_any w (ht.below k.old) (hd.below k.old) ((ndW t n1 p i : Nat) : Int) ((ndW t n1 p j : Nat) : Int) hl) ?_ (hv := by rw [hb2.out])
     refine e0 ?_
     refine sxEnd (fun W25 hK => ?_)
     go_upto_region 10 with (fail)
     refine wp_region_S _ [0, 0, 0, 0, 0, 0, 4] hK ?_ (sK2 (sK2 (sK2 (sK2 (sK2 (sC2 (List.Sublist.refl _)))))))
     clear hK
     iterate 3 refine e0 ?_
     refine eL0 m1 ?_ (h1 := by intro w' k; have k0 := k.at 8 rfl; go_simp; (try go_bits); exact ⟨rfl, rfl⟩)
     refine eL0 m0 ?_
     refine e0 ?_
     refine eUp2 (k := (((ndW t n1 p i : Nat) : Int), ((ndW t n1 p j : Nat) : Int))) (v := b2) mapTU 5 hq ?_ (hs := (sK2 (sK2 (sK2 (sK2 (sK2 (sC2 (List.Sublist.refl _))))))))
     refine sxEnd (fun W26 hK => ?_)
     rw [← hb2.out] at hK; replace hI := hid (hI.out.addU (q := (((ndW t n1 p i : Nat) : Int), ((ndW t n1 p j : Nat) : Int))))
     replace hK := hK.fact (cF (TrkI t down M ([] ++ W) (U ++ [((((ndW t n1 p i : Nat) : Int), ((ndW t n1 p j : Nat) : Int)), unqR t down ((ndW t n1 p i : Nat) : Int) ((ndW t n1 p j : Nat) : Int))]))) (by have q := hI.out; (try dsimp only at q); exact q)
     replace hK := hK.subl (sK2 (sC2 (List.Sublist.refl _)))
     replace hK := hK.up5
     replace hK := hK.up5
     replace hK := hK.up5
     replace hK := hK.up5
     replace hK := hK.up5
     go_wp2
     try go_ret
     show Q0 (.returned (.bool b2)) _
     exact (by obtain rfl := hQ0.out; exact ⟨⟨M, [], U ++ [((((ndW t n1 p i : Nat) : Int), ((ndW t n1 p j : Nat) : Int)), unqR t down ((ndW t n1 p i : Nat) : Int) ((ndW t n1 p j : Nat) : Int))]⟩, congrArg (fun z => Ending.returned (.bool z)) (show covW t down n1 p i j = _ from by have q := hb1.out; unfold covW; rw [decide_eq_true (by rw [atD_of edn.out]; simpa using q), Bool.true_and]; exact hb2.out).symm, hK⟩)
    · --
     go_upto_region 7 with (fail)
     refine wp_region_S _ [0, 0, 0, 0, 0, 0, 0, 0, 0, 0, 0] hK ?_ (List.Sublist.refl _)
     clear hK
     iterate 3 refine e0 ?_
     refine eL0 m1 ?_ (h1 := by intro w' k; have k0 := k.at 8 rfl; go_simp; (try go_bits); exact ⟨rfl, rfl⟩)
     refine eL0 m0 ?_
     refine eLk20 mapTU q2 true (k := (((ndW t n1 p i : Nat) : Int), ((ndW t n1 p j : Nat) : Int))) (by rw [hq]; rfl) m5 ?_
     iterate 5 refine e0 ?_
     refine sxEnd (fun W27 hK => ?_)
     replace hK := hK.fact (cF (TrkI t down M ([] ++ W) U)) (by have q := hI.out; (try dsimp only at q); exact q)
     replace hK := hK.subl (sK2 (sC2 (List.Sublist.refl _)))
     replace hK := hK.up5
     replace hK := hK.up5
     replace hK := hK.up5
     replace hK := hK.up5
     replace hK := hK.up5
     go_wp2
     try go_ret
     show Q0 (.returned (.bool q2)) _
     exact (by obtain rfl := hQ0.out; exact ⟨⟨M, [], U⟩, congrArg (fun z => Ending.returned (.bool z)) (show covW t down n1 p i j = _ from by have q := hb1.out; unfold covW; rw [decide_eq_true (by rw [atD_of edn.out]; simpa using q), Bool.true_and]; exact (hI.out.pos hq).symm).symm, hK⟩)
   · --
    replace hK := hK.fact (cF (TrkI t down M ([] ++ W) U)) (by have q := hI.out; (try dsimp only at q); exact q)
    replace hK := hK.up5
    replace hK := hK.up5
    replace hK := hK.up5
    replace hK := hK.up5
    replace hK := hK.up5
    go_wp2
    try go_ret
    show Q0 (.returned (.bool false)) _
    exact (by obtain rfl := hQ0.out; exact ⟨⟨M, [], U⟩, congrArg (fun z => Ending.returned (.bool z)) (show covW t down n1 p i j = _ from by have q := hb1.out; unfold covW; rw [decide_eq_false (by rw [atD_of edn.out]; intro e; simp [e] at q), Bool.false_and]).symm, hK⟩)
section
theorem natI_getD {p : List Nat} {i : Nat} (h : i < p.length) : (natI p)[i]? = some ((p.getD i 0 : Nat) : Int) := by
  unfold natI; rw [List.getElem?_map, List.getD_eq_getElem?_getD, List.getElem?_eq_getElem h]; rfl
theorem drL_perm {t : TopD} {down : List Bool} {b c : Ft} (N W : List (Nat × Sl)) : (drL t down N (b :: c :: drL t down W [])).Perm (b :: c :: drL t down (N ++ W) []) := by
  unfold drL
  rw [List.map_append, List.append_nil, List.append_nil]
  exact List.perm_middle.trans (List.perm_middle.cons _)
set_option maxHeartbeats 400000 in
theorem cov2_any (w V : World) {t : TopD} {p_t : Option Addr} {n_t c_t : Nat} {q_t : Option Addr} {m_t d_t : Nat} {p_d : Option Addr} {n_d c_d : Nat} {down : List Bool} {p_P : Option Addr} {n_P c_P : Nat} {p : List Nat} {n1 : Nat} {pn pc : Option Addr} {nn cn nc cc Ra Rb : Nat} {M W : List (Nat × Sl)} {U : List (Duk × Bool)} (ht : TopV V (.agg #[.int .i64 t.nodes, .slice p_t n_t c_t, .slice q_t m_t d_t]) t) (hd : SlV boolK V (.slice p_d n_d c_d) down) {R : Nat} (i j : Nat) {b c : Ft}
    (hK : SS V (bx R (.cells #[.int .i64 t.nodes, .slice p_t n_t c_t, .slice q_t m_t d_t, .slice p_d n_d c_d, .slice p_P n_P c_P, .slice pn nn cn, .slice pc nc cc, .map (some Ra), .map (some Rb)] 82) :: rO intK 3 pn nn cn (natI (nodW t n1 p p.length)) :: rO intK 3 pc nc cc (cosW t p p.length) :: bx Ra (mapD M) :: bx Rb (map2 U) :: cF (TrkI t down M W U) :: b :: c :: drL t down W []) w) (hb : b.ln = []) (hc : c.ln = []) (hl : t.links.length ≤ 100000) (ht2 : topOk t = true) (hn1 : n1 < nN t) (hW : WayD t n1 p) (hP1 : p.length ≤ 100000) (hdl : RowKit.Hid (down.length = 0 ∨ down.length = arcsD t)) (hij : i < j) (hj : j ≤ p.length) :
    Calls Tryz.prog 32 #[.pointer (some ⟨R, 0, none⟩), .int .i64 (i : Int), .int .i64 (j : Int)] w fun e w' => ∃ z : CovZ, e = .returned (.bool (covW t down n1 p i j)) ∧ SS V (bx R (.cells #[.int .i64 t.nodes, .slice p_t n_t c_t, .slice q_t m_t d_t, .slice p_d n_d c_d, .slice p_P n_P c_P, .slice pn nn cn, .slice pc nc cc, .map (some Ra), .map (some Rb)] 82) :: rO intK 3 pn nn cn (natI (nodW t n1 p p.length)) :: rO intK 3 pc nc cc (cosW t p p.length) :: bx Ra (mapD z.M) :: bx Rb (map2 z.U) :: cF (TrkI t down z.M z.W z.U) :: b :: c :: drL t down z.W []) w' := by
  refine (covered_any w V ht hd i j (b :: c :: drL t down W []) hK ⟨hb, hc, drL_oz (l := []) trivial W⟩ (fun e he => List.mem_cons_of_mem _ (List.mem_cons_of_mem _ (List.mem_append_left _ (List.mem_map.2 ⟨e, he, rfl⟩)))) hl ht2 hn1 hW hP1 hdl hij hj).mono ?_
  rintro e w' ⟨⟨M', N', U'⟩, rfl, h⟩
  exact ⟨⟨M', N' ++ W, U'⟩, rfl, h.perm ((((((drL_perm N' W).cons _).cons _).cons _).cons _).cons _ |>.cons _)⟩
end
set_option maxRecDepth 100000 in
set_option maxHeartbeats 2000000 in
theorem elist_any (w : World) {t : TopD} {p_t : Option Addr} {n_t c_t : Nat} {q_t : Option Addr} {m_t d_t : Nat} (ht : TopV w (.agg #[.int .i64 t.nodes, .slice p_t n_t c_t, .slice q_t m_t d_t]) t) {p_d : Option Addr} {n_d c_d : Nat} {down : List Bool} (hd : SlV boolK w (.slice p_d n_d c_d) down) {p_P : Option Addr} {n_P c_P : Nat} {P0 : List Int} (hP : SlV intK w (.slice p_P n_P c_P) P0) (n1 : Nat) {p : List Nat} (hP0 : P0 = natI p) (hl : t.links.length ≤ 100000) (ht2 : topOk t = true) (hn1 : n1 < nN t) (hW : WayD t n1 p) (hP1 : p.length ≤ 100000) (hdl : RowKit.Hid (down.length = 0 ∨ down.length = arcsD t)) (hup : ∀ a ∈ p, upD down a = true) :
    Calls Tryz.prog 9 #[.agg #[.int .i64 t.nodes, .slice p_t n_t c_t, .slice q_t m_t d_t], .slice p_d n_d c_d, .slice p_P n_P c_P, .int .i64 (n1 : Int)] w fun e w' => ∃ x : Sl, e = .returned (.tuple #[.slice x.p x.l x.c, .int .i64 0]) ∧ SS w [rO segK 83 x.p x.l x.c (encL t down n1 p)] w' := by
  have ht_1 := ht.parts.1; have ht_2 := ht.parts.2; have b_t : m_t ≤ 100000 := (by rw [ht_2.one0]; exact hl); have a_t : arcsD t ≤ 200000 := (by unfold arcsD; omega)
  have hK := SS.start w
  obtain rfl := hP0
  have hpl := hid (hP.one0.trans (natI_len p)); have hpl1 := Nat.le_of_eq hpl.out; have hpl2 := Nat.le_of_eq hpl.out.symm; have hnt := hid (topN ht2).1; have hnd : (decide (0 ≤ ((n1 : Nat) : Int)) && decide (((n1 : Nat) : Int) < t.nodes)) = true := (by have q := hnt.out; simp; omega)
  have hfb : decide (down.length = 0 ∨ down.length = 2 * t.links.length) = true := decide_eq_true hdl.out; have hua : ∀ a ∈ p, upD down a = true ∧ (down.length = 0 ∨ a < down.length) := fun a ha => ⟨hup a ha, by { have q := hdl.out; have q2 := hW.mem_lt ha; omega }⟩
  refine Calls.hide (fun Q0 hQ0 => ?_)
  go_enter Tryz.func9, Tryz.ntmps9
  go_upto_region 0 with (fail)
  refine wp_region_T [3, 0, 0] hK ?_
  clear hK
  refine eA (.cells #[.int .i64 t.nodes, .slice p_t n_t c_t, .slice q_t m_t d_t] 25) (fun R1 => ?_)
  iterate 2 refine e0 ?_
  refine sxEnd (fun W2 hK => ?_)
  go_wp2; go_step3
  go_upto_region 1 with (fail)
  refine wp_region_T [1, 0, 0, 0, 2, 0, 0, 0, 0, 0] hK ?_
  clear hK
  refine eL m0 ?_
  iterate 3 refine e0 ?_
  refine eC (fun w k => efollow_any w (ht.below k.old) (hd.below k.old) (hP.below k.old) n1 rfl hl ht2 hn1 hW hP1 hdl hup) (fun x3 => ?_)
  obtain ⟨R4, ⟨p4, n4, c4⟩, ⟨q4, m4, d4⟩, a4, b4⟩ := x3; dsimp only
  iterate 5 refine e0 ?_
  refine sxEnd (fun W5 hK => ?_)
  go_upto_region 2 with (fail)
  refine wp_region_T [0, 0] hK ?_
  clear hK
  iterate 2 refine e0 ?_
  refine sxEnd (fun W6 hK => ?_)
  go_wp2; go_step3
  replace hK := hK.fact (rO segK 83 none 0 0 ([] : List SegD)) OwV.nil (fun _ h => by cases h)
  replace hK := hK.fact (cF (TrkI t down [] [] [])) TrkI.nil
  replace hK := hK.up1
  replace hK := hK.up7
  replace hK := hK.up2
  replace hK := hK.up7
  replace hK := hK.up7
  replace hK := hK.up7
  replace hK := hK.up7
  replace hK := hK.up7
  have hnlen := hid ((hK.len m1).trans ((natI_len _).trans nodW_len)); have hn9 := Nat.le_of_eq hnlen.out.symm; have hnt0 := hid (topN ht2).1; have hnt7 : t.nodes ≤ (nN t : Int) := Int.le_of_eq hnt0.out; have hnt8 : (nN t : Int) ≤ t.nodes := Int.le_of_eq hnt0.out.symm; have hnm9 := (topN ht2).2.2.1
  go_wp2_with fail
  go_loopg [13, 12] (p.length - 0) (fun gk0 s13 s12 wl => ∃ (i : Nat) (M : List (Nat × Sl)) (W : List (Nat × Sl)) (U : List (Duk × Bool)) (pl : Option Addr) (nl : Nat) (cl : Nat) (E : List SegD), s13 = .int .i64 (i : Int) ∧ s12 = .slice pl nl cl ∧ (i ≤ p.length) ∧ (E.length ≤ i) ∧ RowKit.Hid (E ++ encG t down n1 p i = encL t down n1 p) ∧ RowKit.Hid (gk0 = p.length - i) ∧ SS w ((bx R4 (.cells #[.int .i64 t.nodes, .slice p_t n_t c_t, .slice q_t m_t d_t, .slice p_d n_d c_d, .slice p_P n_P c_P, .slice p4 n4 c4, .slice q4 m4 d4, .map (some a4), .map (some b4)] 82)) :: (rO intK 3 p4 n4 c4 (natI (nodW t n1 p p.length))) :: (rO intK 3 q4 m4 d4 (cosW t p p.length)) :: (bx a4 (mapD M)) :: (bx b4 (map2 U)) :: (cF (TrkI t down M W U)) :: (bx R1 (.cells #[.int .i64 t.nodes, .slice p_t n_t c_t, .slice q_t m_t d_t] 25)) :: (rO segK 83 pl nl cl E) :: drL t down W []) wl)
  case atStart => exact ⟨0, [], [], [], none, 0, 0, ([] : List SegD), rfl, rfl, (by omega), (Nat.zero_le _), hid rfl, hid rfl, hK⟩
  case round =>
   clear hK
   obtain ⟨i, M, W, U, pl, nl, cl, E, rfl, rfl, hi0, hEl, h_E, hgk7, hK⟩ := hrel
   generalize wr = W8 at hK ⊢
   go_upto_region 6 with (fail)
   refine wp_region_T [0, 0, 0, 0] hK ?_
   clear hK
   iterate 3 refine e0 ?_
   refine eB (decide (((i : Int)) < ((n_P : Int)))) (fun b1 hb1 => ?_)
   refine sxEnd (fun W9 hK => ?_)
   cases b1
   · --
    have q_b1 : ((n_P : Int)) ≤ ((i : Int)) := Int.not_lt.1 (of_decide_eq_false hb1.out)
    have hEE : E = encL t down n1 p := by have q := h_E.out; rwa [encG_end (by omega), List.append_nil] at q
    rw [show E = encL t down n1 p from hEE] at hK
    replace hK := hK.up7
    replace hK := hK.subl (List.cons_sublist_cons.2 (List.nil_sublist _))
    go_wp2
    (try rw [Exit.noGoto_ret])
    try go_ret
    show Q0 (.returned (.tuple #[.slice pl nl cl, .int .i64 0])) _
    exact (by obtain rfl := hQ0.out; exact ⟨⟨pl, nl, cl⟩, rfl, hK⟩)
   · --
    have q_b1 : ((i : Int)) < ((n_P : Int)) := of_decide_eq_true hb1.out
    go_upto_region 7 with (fail)
    refine wp_region_T [0, 0, 0, 0, 1, 0, 0, 0, 0] hK ?_
    clear hK
    iterate 4 refine e0 ?_
    refine eL m6 ?_
    refine eV (.int .i64 ((i : Int) + t.nodes)) (fun w' => by go_simp; (try go_bits); first | exact ⟨rfl, rfl⟩ | go_num) ?_
    refine eV (.int .i64 ((i : Int) + t.nodes - 1)) (fun w' => by go_simp; (try go_bits); first | exact ⟨rfl, rfl⟩ | go_num) ?_
    refine eV (.int .i64 ((min p.length (i + nN t - 1) : Nat) : Int)) (fun w' => by go_simp; (try go_bits); refine ⟨congrArg (Value.int .i64) ?_, rfl⟩; (repeat' split) <;> omega) ?_
    refine e0 ?_
    refine sxEnd (fun W10 hK => ?_)
    have hnn9 := hid (topN ht2); have hnt9 := hnn9.out.1; have hj0 : 1 ≤ nN t := Nat.lt_of_le_of_lt (Nat.zero_le _) hn1
    go_wp2_with fail
    go_loopg [14, 13, 12] ((min p.length (i + nN t - 1))) (fun gk0 s14 s13 s12 wl => ∃ (j : Nat) (Mq : List (Nat × Sl)) (Wq : List (Nat × Sl)) (Uq : List (Duk × Bool)), s14 = .int .i64 (j : Int) ∧ s13 = .int .i64 (i : Int) ∧ s12 = .slice pl nl cl ∧ (i ≤ j) ∧ (j ≤ p.length) ∧ RowKit.Hid (lasW t down n1 p i j = lasW t down n1 p i (min p.length (i + nN t - 1))) ∧ RowKit.Hid (gk0 = j) ∧ SS w ((bx R4 (.cells #[.int .i64 t.nodes, .slice p_t n_t c_t, .slice q_t m_t d_t, .slice p_d n_d c_d, .slice p_P n_P c_P, .slice p4 n4 c4, .slice q4 m4 d4, .map (some a4), .map (some b4)] 82)) :: (rO intK 3 p4 n4 c4 (natI (nodW t n1 p p.length))) :: (rO intK 3 q4 m4 d4 (cosW t p p.length)) :: (bx a4 (mapD Mq)) :: (bx b4 (map2 Uq)) :: (cF (TrkI t down Mq Wq Uq)) :: (bx R1 (.cells #[.int .i64 t.nodes, .slice p_t n_t c_t, .slice q_t m_t d_t] 25)) :: (rO segK 83 pl nl cl E) :: drL t down Wq []) wl)
    case atStart => exact ⟨(min p.length (i + nN t - 1)), M, W, U, (by first | rfl | (refine congrArg (Value.int .i64) ?_; omega)), rfl, rfl, (by omega), (by omega), hid rfl, hid rfl, hK⟩
    case round =>
     clear hK
     obtain ⟨j, Mq, Wq, Uq, rfl, rfl, rfl, hij, hjp, h_L, hgk11, hK⟩ := hrel
     generalize wr = W12 at hK ⊢
     go_upto_region 8 with (fail)
     refine wp_region_T [0, 0, 0] hK ?_
     clear hK
     iterate 2 refine e0 ?_
     refine eB (decide ((i : Int) < (j : Int))) (fun b2 hb2 => ?_)
     refine sxEnd (fun W13 hK => ?_)
     cases b2
     · --
      have q_b2 : (j : Int) ≤ (i : Int) := Int.not_lt.1 (of_decide_eq_false hb2.out)
      have hz14 : OzA (drL t down Wq []) := drL_oz (l := []) trivial _
      have i15 : i < n_P := (by omega)
      obtain ⟨g15, o15, rfl⟩ := hP.pt i15
      have l15 : i < (natI p).length := Nat.lt_of_lt_of_eq i15 (hP.one0)
      go_upto_region 13 with (fail)
      refine wp_region_T [0, 0, 0, 0, 0, 0, 3, 5, 0] hK ?_
      clear hK
      iterate 4 refine e0 ?_
      refine eR0 (fun w k => (hP.below k.old).int (natI_getD (i := i) (by omega))) ?_
      refine e0 ?_
      refine eA (.cells #[.int .i64 2, .int .i64 ((p.getD i 0 : Nat) : Int)] 83) (fun R16 => ?_)
      refine eApp 8 segK_free rfl infoSeg (fun w k => k.one1 (K := segK) (x := (⟨2, ((p.getD i 0 : Nat) : Int)⟩ : SegD)) m0 rfl) (by simp; omega) (fun x17 => ?_)
      obtain ⟨p17, n17, c17⟩ := x17; dsimp only
      refine e0 ?_
      refine sxEnd (fun W18 hK => ?_)
      (try go_wp2)
      go_roundg (p.length - (i + 1))
      case measure => rw [hgk7.out]; omega
      case rel => exact ⟨i + 1, Mq, Wq, Uq, p17, n17, c17, E ++ [(⟨2, ((p.getD i 0 : Nat) : Int)⟩ : SegD)], (by first | rfl | go_num), (by first | rfl | go_num), (by omega), (by rw [List.length_append]; exact Nat.succ_le_succ hEl), hid (by rw [List.append_assoc, List.singleton_append, ← encG_arc (by omega) (h_L.out.symm.trans (lasW_no (by omega)))]; exact h_E.out), hid rfl, (hK.subl (sC2 (List.Sublist.refl _)))⟩
     · --
      have q_b2 : (i : Int) < (j : Int) := of_decide_eq_true hb2.out
      go_upto_region 10 with (fail)
      refine wp_region_T [0, 0, 0, 4] hK ?_
      clear hK
      iterate 3 refine e0 ?_
      obtain ⟨b3, hb3⟩ : ∃ z9 : Bool, RowKit.Hid (covW t down n1 p i j = z9) := ⟨_, hid rfl⟩
      refine eM (fun w k => (cov2_any w _ ht hd i j (k.up5.up5.up5.up5.up5.up5) rfl rfl hl ht2 hn1 hW hP1 hdl (by omega) (by omega)).mono (fun e w1 q => by rw [hb3.out] at q; exact q)) (fun x20 => ?_)
      obtain ⟨M19, W19, U19⟩ := x20; dsimp only
      refine sxEnd (fun W21 hK => ?_)
      cases b3
      · --
       (try go_wp2)
       go_roundg ((j - 1))
       case measure => rw [hgk11.out]; omega
       case rel => exact ⟨(j - 1), M19, W19, U19, (by first | rfl | (refine congrArg (Value.int .i64) ?_; omega) | go_num), (by first | rfl | go_num), (by first | rfl | go_num), (by omega), (by omega), hid ((lasW_step (by omega) hb3.out).symm.trans h_L.out), hid rfl, hK⟩
      · --
       have hz22 : OzA (drL t down W19 []) := drL_oz (l := []) trivial _
       have i23 : j < n4 := (by omega)
       obtain ⟨g23, rfl⟩ := hK.pt m1 i23
       have l23 : j < (natI (nodW t n1 p p.length)).length := Nat.lt_of_lt_of_eq i23 (hK.len m1)
       go_upto_region 11 with (fail)
       refine wp_region_T [0, 0, 0, 0, 1, 0, 0, 1, 0, 3, 5, 0] hK ?_
       clear hK
       iterate 4 refine e0 ?_
       refine eL m0 ?_ (h1 := by intro w' k; have k0 := k.at 5 rfl; go_simp; (try go_bits); exact ⟨rfl, rfl⟩)
       iterate 2 refine e0 ?_
       refine eR (fun w k => (k.own m1).int (nod_at (i := j) (by omega))) ?_
       refine e0 ?_
       refine eA (.cells #[.int .i64 1, .int .i64 ((ndW t n1 p j : Nat) : Int)] 83) (fun R24 => ?_)
       refine eApp 8 segK_free rfl infoSeg (fun w k => k.one1 (K := segK) (x := (⟨1, ((ndW t n1 p j : Nat) : Int)⟩ : SegD)) m0 rfl) (by simp; omega) (fun x25 => ?_)
       obtain ⟨p25, n25, c25⟩ := x25; dsimp only
       refine e0 ?_
       refine sxEnd (fun W26 hK => ?_)
       (try go_wp2)
       go_roundg (p.length - j)
       case measure => rw [hgk7.out]; omega
       case rel => exact ⟨j, M19, W19, U19, p25, n25, c25, E ++ [(⟨1, ((ndW t n1 p j : Nat) : Int)⟩ : SegD)], (by first | rfl | go_num), (by first | rfl | go_num), (by omega), (by rw [List.length_append]; simp; omega), hid (by rw [List.append_assoc, List.singleton_append, ← encG_seg (by omega) (h_L.out.symm.trans (lasW_yes (by omega) hb3.out))]; exact h_E.out), hid rfl, (hK.subl (sC2 (List.Sublist.refl _)))⟩
end Go.Proofs.YtmcfomainmppdaaGreatDoor
