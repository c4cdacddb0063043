/- The tables in the state Final are the routes of the topology without the component. -/
import Derived.Test.YtmcfomainmppdaaGreatDoorFWrB
namespace Go.Proofs.YtmcfomainmppdaaGreatDoor
open Go.RowKit
open Go.Lib (decDigits)
section
variable {t : TopD} {c : CmpD} {m down : List Bool} {num : List Nat} {zs : List TbS} {n i k a b : Nat} {T : TabD} {z : TbS} {e : EntD} {w V : World} {l : List Ft}
theorem ng_of {x y : Bool} (h : (x && y) = false) : (x && y) = false := h
theorem rt_len : (rtD t m n).t.length = nN t := by unfold rtD; simp
theorem rt_at (h : i < nN t) : (rtD t m n).t[i]? = some ⟨nxtR t m (n : Int) (i : Int), false, []⟩ := by
  show ((List.range (nN t)).map _)[i]? = _
  rw [List.getElem?_map, List.getElem?_range h]; rfl
theorem nxtR_lenW (t : TopD) (down : List Bool) (n d : Int) : (nxtR t down n d).length ≤ arcsD t := by
  unfold nxtR
  split
  · exact nxt_len ..
  · exact Nat.zero_le _
theorem nxtR_mem {x y : Int} (h : a ∈ nxtR t down x y) : a < arcsD t := by
  unfold nxtR at h
  split at h
  · exact (mem_nxt.1 h).1
  · cases h
theorem natI_of {l : List Nat} (h : l[i]? = some a) : (natI l)[i]? = some (a : Int) := by unfold natI; rw [List.getElem?_map, h]; rfl
theorem ren_of (h : num[a / 2]? = some b) : renD num a = 2 * b + a % 2 := by unfold renD; rw [List.getD_eq_getElem?_getD, h]; rfl
theorem take_map_at {f : Nat → Nat} {l : List Nat} (h : l[i]? = some a) : (l.take i).map f ++ [f a] = (l.take (i + 1)).map f := by
  obtain ⟨hk, e⟩ := List.getElem?_eq_some_iff.1 h
  rw [List.take_succ_eq_append_getElem hk, e, List.map_append]; rfl
theorem zw_len (h : zs.length = k) : (List.zipWith tabW zs (finL t c k)).length = k := by rw [List.length_zipWith, h, finL_len, Nat.min_self]
theorem zw_tab {x : Int} {p p2 : Option Addr} {u v u2 v2 : Nat} (h : (List.zipWith tabW zs (finL t c k))[i]? = some ⟨x, ⟨p, u, v⟩, ⟨p2, u2, v2⟩⟩) : ∃ ws, zs[i]? = some ⟨⟨p, u, v⟩, ⟨p2, u2, v2⟩, ws⟩ ∧ (finL t c k)[i]? = some (finT t c i) := by
  rw [List.getElem?_zipWith] at h
  split at h
  · rename_i z T h1 h2
    have h3 := Option.some.inj h
    unfold tabW at h3
    obtain ⟨z1, z2, ws⟩ := z
    simp only [TabW.mk.injEq] at h3
    obtain ⟨_, rfl, rfl⟩ := h3
    refine ⟨ws, h1, ?_⟩
    have hi : i < k := by
      have := (List.getElem?_eq_some_iff.1 h2).1
      rw [finL_len] at this; exact this
    exact finL_at hi
  · cases h
def st3 (n k : Nat) : List Int := List.replicate k 3 ++ List.replicate (n - k) 0
theorem st3_0 : st3 n 0 = List.replicate n 0 := by unfold st3; simp
theorem st3_all : st3 n n = List.replicate n 3 := by unfold st3; simp
theorem st3_len (h : k ≤ n := by omega) : (st3 n k).length = n := by unfold st3; simp; omega
theorem st3_yes (h : k < n) : (st3 n k).set k 3 = st3 n (k + 1) := by
  unfold st3
  rw [List.set_append_right _ _ (by simp), List.length_replicate, Nat.sub_self, show n - k = (n - (k + 1)) + 1 by omega, List.replicate_succ, List.set_cons_zero, List.replicate_succ', List.append_assoc]; rfl
theorem topVR {p q : Option Addr} {u v u2 v2 : Nat} (h1 : SlV boolK w (.slice p u v) t.over) (h2 : SlV lnkK w (.slice q u2 v2) (lnkL t num)) : TopV w (.agg #[.int .i64 t.nodes, .slice p u v, .slice q u2 v2]) (restD t num) := ⟨p, u, v, q, u2, v2, rfl, h1, h2⟩
theorem SS.tsT {Ts : List TabD} (h : SS V l w) (hm : tsF zs Ts ∈ l) (hz : zs[i]? = some z) (hT : Ts[i]? = some T) : (tbF z T).F w := by
  have h1 : (tsF zs Ts).F w := h.get hm
  exact h1.1 (tbF z T) (List.mem_of_getElem? (i := i) (by unfold tsL; rw [List.getElem?_zipWith, hz, hT]))
theorem tbF_n (h1 : (tbF z T).F w) : z.t.l = T.t.length ∧ z.ws.length = T.t.length := by
  have h2 : z.ws.map (·.r) = T.t.map (·.r) := h1.1 (cF _) (List.mem_append_left _ (List.mem_cons_self ..))
  have h3 : OwV entK _ 0 w (.slice z.t.p z.t.l z.t.c) z.ws := h1.1 (rO entK 66 z.t.p z.t.l z.t.c z.ws) (List.mem_append_left _ (List.mem_cons_of_mem _ (List.mem_cons_self ..)))
  have h4 : z.ws.length = T.t.length := by have := congrArg List.length h2; simpa using this
  exact ⟨h3.len.trans h4, h4⟩
theorem tbF_e (h1 : (tbF z T).F w) : SlV entK w (.slice z.t.p z.t.l z.t.c) z.ws :=
  OwV.slv (h1.1 (rO entK 66 z.t.p z.t.l z.t.c z.ws) (List.mem_append_left _ (List.mem_cons_of_mem _ (List.mem_cons_self ..))))
theorem tbF_a (h1 : (tbF z T).F w) {x : EntW} (hx : z.ws[i]? = some x) (he : T.t[i]? = some e) : SlV intK w (.slice x.a.p x.a.l x.a.c) (natI e.a) ∧ x.r = e.r := by
  have h2 : (vsF intK (z.ws.map (·.a)) (T.t.map fun e => natI e.a)).F w := h1.1 _ (List.mem_append_left _ (List.mem_cons_of_mem _ (List.mem_cons_of_mem _ (List.mem_cons_self ..))))
  have h3 : z.ws.map (·.r) = T.t.map (·.r) := h1.1 (cF _) (List.mem_append_left _ (List.mem_cons_self ..))
  refine ⟨(h2.1 (vO intK x.a.p x.a.l x.a.c (natI e.a)) (List.mem_of_getElem? (i := i) (by unfold vsL; rw [List.getElem?_zipWith, List.getElem?_map, List.getElem?_map, hx, he]; rfl))).2, ?_⟩
  have := congrArg (fun l => l[i]?) h3
  simpa [List.getElem?_map, hx, he] using this
end
set_option maxRecDepth 100000 in
set_option maxHeartbeats 8000000 in
theorem lawFinal_any (w : World) {v_t : Value} {t : TopD} (ht : TopV w v_t t) {wh : Nat} (hw8 : wh ≤ 255) :
    Calls Tryz.prog 5 #[v_t, .int .u8 (wh : Int)] w fun e w' => e = .returned (.bool true) ∧ Below w.heap.size w w' := by
  have ht_0 := ht
  obtain ⟨p_t, n_t, c_t, q_t, m_t, d_t, rfl, ht_1, ht_2⟩ := ht_0
  have hK := SS.start w
  refine Calls.hide (fun Q0 hQ0 => ?_)
  go_enter Tryz.func5, Tryz.ntmps5
  go_upto_region 0 with (fail)
  refine wp_region_T [3, 0] hK ?_
  clear hK
  refine eA (.cells #[.int .i64 t.nodes, .slice p_t n_t c_t, .slice q_t m_t d_t] 25) (fun R1 => ?_)
  refine e0 ?_
  refine sxEnd (fun W2 hK => ?_)
  go_upto_region 1 with (fail)
  refine wp_region_T [1, 0] hK ?_
  clear hK
  refine eQ (fun w k => awake31_any w) ?_
  refine e0 ?_
  refine sxEnd (fun W3 hK => ?_)
  go_upto_region 3 with (fail)
  refine wp_region_T [1, 1, 0] hK ?_
  clear hK
  refine eL m0 ?_
  obtain ⟨b1, hb1⟩ : ∃ z9 : Bool, RowKit.Hid (smlB t 7 10 = z9) := ⟨_, hid rfl⟩
  refine eQ (v := .bool b1) (fun w k => small_any w (ht.below k.old)) ?_ (hv := by rw [hb1.out])
  refine e0 ?_
  refine sxEnd (fun W4 hK => ?_)
  cases b1
  · --
   go_wp2
   try go_ret
   show Q0 (.returned (.bool true)) _
   exact (by obtain rfl := hQ0.out; exact ⟨rfl, hK.old⟩)
  · --
   have hsm := hid (sml_ok hb1.out); have ht2 := hsm.out.1; have hl10 : t.links.length ≤ 10 := (by have q := hsm.out.2.2; omega); have hl : t.links.length ≤ 100000 := (by omega); have b_t : m_t ≤ 100000 := (by rw [ht_2.one0]; exact hl); have a_t : arcsD t ≤ 200000 := (by unfold arcsD; omega); have hmt := hid ht_2.one0; have hmt1 := Nat.le_of_eq hmt.out; have hmt2 := Nat.le_of_eq hmt.out.symm; have hnt := hid (topN ht2).1; have hnt1 : t.nodes ≤ (nN t : Int) := Int.le_of_eq hnt.out; have hnt2 : (nN t : Int) ≤ t.nodes := Int.le_of_eq hnt.out.symm; have hnm := (topN ht2).2.2.1; have hnq := (topN ht2).2.1; have hn7 : nN t ≤ 7 := (by have q := hsm.out.2.1; omega); have harc : arcsD t = 2 * t.links.length := rfl
   go_upto_region 5 with (fail)
   refine wp_region_T [1, 2, 0] hK ?_
   clear hK
   refine eL m0 ?_
   refine eC (fun w k => all_any w (ht.below k.old) hl ht2) (fun x5 => ?_)
   obtain ⟨⟨px, nx, cx⟩, xs⟩ := x5; dsimp only
   refine e0 ?_
   refine sxEnd (fun W6 hK => ?_)
   have hxs := hid (hK.get m1); have hxn := hid (hK.len m0); have hxn1 := Nat.le_of_eq hxn.out; have hxn2 := Nat.le_of_eq hxn.out.symm; have hxp : 0 < nx := (by have q := hxs.out.1; omega); have hxm : nx ≤ 1000 := (by have q := hxs.out.2.1; omega); have hwx : wh % nx < nx := Nat.mod_lt _ hxp
   have i7 : wh % nx < nx := (by omega)
   obtain ⟨g7, rfl⟩ := hK.pt m0 i7
   have l7 : wh % nx < xs.length := Nat.lt_of_lt_of_eq i7 (hK.len m0)
   obtain ⟨cc, ecc⟩ : ∃ z0, RowKit.Hid (xs[wh % nx]? = some z0) := ⟨_, hid (List.getElem?_eq_getElem l7)⟩
   have hwc := hxs.out.2.2 cc (List.mem_of_getElem? ecc.out); clear hxs
   go_upto_region 6 with (fail)
   refine wp_region_T [0, 0, 0, 0, 0, 0, 0, 1, 3, 4] hK ?_
   clear hK
   iterate 2 refine e0 ?_
   refine eV (.int .i64 ((wh : Nat) : Int)) (fun w' => by go_simp; (try go_bits); first | exact ⟨rfl, rfl⟩ | (refine ⟨congrArg (Value.int .i64) ?_, rfl⟩; first | omega | (unfold wrap64; omega)) | go_num) ?_
   iterate 2 refine e0 ?_
   refine eV (.int .i64 ((wh % nx : Nat) : Int)) (fun w' => by go_simp; (try go_bits); rw [if_neg (Nat.ne_of_gt hxp)]; exact ⟨rfl, rfl⟩) ?_
   refine e0 ?_
   refine eRm (F := fun w => SlV cmpK w (.slice (some ⟨g7, 0, none⟩) nx cx) xs) (fun w k => k.slv m0) (h1 := by intro w' k; have c0 := (k).cmp0 ecc.out rfl; have c1 := (k).cmp ecc.out 1 rfl; rw [Nat.zero_add] at c0 c1; go_simp; (try go_bits); exact ⟨rfl, rfl⟩) ?_
   refine eA (.cells #[.int .i64 0, .int .i64 0] 44) (fun R8 => ?_)
   refine eP 0 0 [.int .i64 cc.k, .int .i64 cc.n] ?_
   refine sxEnd (fun W9 hK => ?_)
   replace hK := hK.subl (sK2 (sC2 (sC2 (List.Sublist.refl _))))
   go_upto_region 7 with (fail)
   refine wp_region_T [0, 1, 3, 0] hK ?_
   clear hK
   refine e0 ?_
   refine eL m1 ?_
   refine eMk (K := intK) (t := 3) (x := 0) (nN t) (fun _ => rfl) rfl infoZ (by show nN t * 1 ≤ 16777216; omega) (by decide) (fun g10 => ?_) (hv := hnt.out)
   refine e0 ?_
   refine sxEnd (fun W11 hK => ?_)
   replace hK := hK.made (K := intK) (n := (nN t)) (fun _ => rfl) (by simp [maxLen]; omega)
   rw [show List.replicate (nN t) 0 = (st3 (nN t) 0) from st3_0.symm] at hK
   go_wp2_with fail
   go_loopw [43] (fun s43 wl => ∃ (kx : Nat), s43 = .int .i64 (kx : Int) ∧ (kx ≤ nN t) ∧ SS w ([rO intK 3 (some ⟨g10, 0, none⟩) (nN t) (nN t) (st3 (nN t) kx), bx R8 (.cells #[.int .i64 cc.k, .int .i64 cc.n] 44), bx R1 (.cells #[.int .i64 t.nodes, .slice p_t n_t c_t, .slice q_t m_t d_t] 25)]) wl) (fun s43 _ => nN t - (intOf s43).toNat)
   case atStart => exact ⟨0, rfl, (by omega), hK⟩
   case round =>
    clear hK
    obtain ⟨kx, rfl, hk0, hK⟩ := hrel
    generalize wr = W12 at hK ⊢
    go_upto_region 9 with (fail)
    refine wp_region_T [0] hK ?_
    clear hK
    refine eB (decide (((kx : Int)) < (((nN t) : Int)))) (fun b2 hb2 => ?_)
    refine sxEnd (fun W13 hK => ?_)
    cases b2
    · --
     have q_b2 : (((nN t) : Int)) ≤ ((kx : Int)) := Int.not_lt.1 (of_decide_eq_false hb2.out)
     have hke : kx = nN t := (by omega); rw [hke, st3_all] at hK; clear hke
     go_upto_region 13 with (fail)
     refine wp_region_T [1, 1, 0, 2, 0, 0, 0, 0, 0] hK ?_
     clear hK
     refine eL m2 ?_
     refine eL m1 ?_
     refine e0 ?_
     refine eC (fun w k => tables_any w (ht.below k.old) (c := cc) (k.slv m0) rfl hl ht2 hwc) (fun x14 => ?_)
     obtain ⟨⟨pt, nt, ct⟩, zs⟩ := x14; dsimp only
     iterate 5 refine e0 ?_
     refine sxEnd (fun W15 hK => ?_)
     go_upto_region 14 with (fail)
     refine wp_region_T [1, 1, 2, 0, 0, 0, 0, 0] hK ?_
     clear hK
     refine eL m5 ?_
     refine eL m4 ?_
     refine eC (fun w k => rmask_any w (ht.below k.old) (c := cc) hl ht2 hwc) (fun x16 => ?_)
     obtain ⟨pm, nm, cm⟩ := x16; dsimp only
     iterate 5 refine e0 ?_
     refine sxEnd (fun W17 hK => ?_)
     have hzl := hid (hK.get m3); have htl := hid ((hK.len m1).trans (zw_len hzl.out)); have htl1 := Nat.le_of_eq htl.out; have htl2 := Nat.le_of_eq htl.out.symm; have hml := hid ((hK.len m0).trans mskD_len); have hml1 := Nat.le_of_eq hml.out; have hml2 := Nat.le_of_eq hml.out.symm
     replace hK := hK.subl (sK2 (sK2 (sK2 (sC2 (sC2 (List.Sublist.refl _))))))
     go_upto_region 15 with (fail)
     refine wp_region_T [0, 0, 0, 0, 0, 0, 1, 0, 0] hK ?_
     clear hK
     iterate 6 refine e0 ?_
     refine eL m4 ?_
     refine eV (.bool false) (fun w' => by go_simp; (try go_bits); first | exact ⟨rfl, rfl⟩ | exact ⟨congrArg Value.bool (by simp; omega), rfl⟩) ?_
     refine e0 ?_
     refine sxEnd (fun W18 hK => ?_)
     go_upto_region 17 with (fail)
     refine wp_region_T [1, 3, 4] hK ?_
     clear hK
     refine eL m4 ?_
     refine eA (.cells #[.int .i64 0, .slice none 0 0, .slice none 0 0] 25) (fun R19 => ?_)
     refine eP 0 0 [.int .i64 t.nodes, .slice p_t n_t c_t, .slice q_t m_t d_t] ?_
     refine sxEnd (fun W20 hK => ?_)
     go_upto_region 18 with (fail)
     refine wp_region_T [0, 4] hK ?_
     clear hK
     refine e0 ?_
     refine eP 0 2 [.slice none 0 0] ?_
     refine sxEnd (fun W21 hK => ?_)
     go_upto_region 20 with (fail)
     refine wp_region_T [0, 1, 0, 0] hK ?_
     clear hK
     refine e0 ?_
     refine eL m5 ?_
     iterate 2 refine e0 ?_
     refine sxEnd (fun W22 hK => ?_)
     replace hK := hK.fact (rO lnkK 59 none 0 0 (lnkL t (lftK (mskD t cc) 0))) OwV.nil (fun _ h => by cases h)
     replace hK := hK.fact (rO intK 3 none 0 0 (natI (lftK (mskD t cc) 0))) OwV.nil (fun _ h => by cases h)
     go_wp2_with fail
     go_loopw [77, 14] (fun s77 s14 wl => ∃ (kx : Nat) (pl : Option Addr) (nl : Nat) (cl : Nat) (pn : Option Addr) (nn : Nat) (cn : Nat), s77 = .int .i64 (kx : Int) ∧ s14 = .slice pn nn cn ∧ (kx ≤ m_t) ∧ SS w ([rO intK 3 pn nn cn (natI (lftK (mskD t cc) kx)), rO lnkK 59 pl nl cl (lnkL t (lftK (mskD t cc) kx)), bx R19 (.cells #[.int .i64 t.nodes, .slice p_t n_t c_t, .slice pl nl cl] 25), rO boolK 4 pm nm cm (mskD t cc), rO tabK 62 pt nt ct (List.zipWith tabW zs (finL t cc (nN t))), tsF zs (finL t cc (nN t)), bx R8 (.cells #[.int .i64 cc.k, .int .i64 cc.n] 44), bx R1 (.cells #[.int .i64 t.nodes, .slice p_t n_t c_t, .slice q_t m_t d_t] 25)]) wl) (fun s77 s14 _ => m_t - (intOf s77).toNat)
     case atStart => exact ⟨0, none, 0, 0, none, 0, 0, rfl, rfl, (by omega), hK⟩
     case round =>
      clear hK
      obtain ⟨kx, pl, nl, cl, pn, nn, cn, rfl, rfl, hk0, hK⟩ := hrel
      generalize wr = W23 at hK ⊢
      go_upto_region 21 with (fail)
      refine wp_region_T [0] hK ?_
      clear hK
      refine eB (decide (((kx : Int)) < ((m_t : Int)))) (fun b3 hb3 => ?_)
      refine sxEnd (fun W24 hK => ?_)
      cases b3
      · --
       have q_b3 : ((m_t : Int)) ≤ ((kx : Int)) := Int.not_lt.1 (of_decide_eq_false hb3.out)
       have hke : kx = t.links.length := (by omega); obtain ⟨num, hnum⟩ : ∃ l9, RowKit.Hid (lftK (mskD t cc) kx = l9) := ⟨_, hid rfl⟩; rw [hnum.out] at hK; have hLt : LeftD t (mskD t cc) num := (by rw [← hnum.out, hke]; exact left_msk); have htR := rest_ok ht2 hLt; have hnl9 := hid (show num.length ≤ 10 from by rw [← hnum.out]; exact Nat.le_trans lftK_len (by omega)); have hnn9 := hid ((hK.len m0).trans (natI_len num)); have hlR : (restD t num).links.length ≤ 100000 := (by rw [restD_eq]; show (num.map _).length ≤ _; rw [List.length_map]; have q := hnl9.out; omega); have hfin := hid (fun (n d : Nat) (h1 : n < nN t) (h2 : d < nN t) => (show (nxtR (restD t num) [] (n : Int) (d : Int)).map (renD num) = nxtR t (mskD t cc) (n : Int) (d : Int) from by rw [← hnum.out, hke]; exact final_nxt ht2 h1 h2)); clear hke
       replace hK := hK.subl (sK2 (sK2 (sK2 (sC2 (List.Sublist.refl _)))))
       go_wp2_with fail
       go_loopw [103] (fun s103 wl => ∃ (kx : Nat), s103 = .int .i64 (kx : Int) ∧ (kx ≤ nN t) ∧ SS w ([rO intK 3 pn nn cn (natI num), rO lnkK 59 pl nl cl (lnkL t num), bx R19 (.cells #[.int .i64 t.nodes, .slice p_t n_t c_t, .slice pl nl cl] 25), rO tabK 62 pt nt ct (List.zipWith tabW zs (finL t cc (nN t))), tsF zs (finL t cc (nN t)), bx R8 (.cells #[.int .i64 cc.k, .int .i64 cc.n] 44), bx R1 (.cells #[.int .i64 t.nodes, .slice p_t n_t c_t, .slice q_t m_t d_t] 25)]) wl) (fun s103 _ => nN t - (intOf s103).toNat)
       case atStart => exact ⟨0, rfl, (by omega), hK⟩
       case round =>
        clear hK
        obtain ⟨kx, rfl, hk0, hK⟩ := hrel
        generalize wr = W25 at hK ⊢
        go_upto_region 28 with (fail)
        refine wp_region_T [0] hK ?_
        clear hK
        refine eB (decide (((kx : Int)) < ((nt : Int)))) (fun b4 hb4 => ?_)
        refine sxEnd (fun W26 hK => ?_)
        cases b4
        · --
         have q_b4 : ((nt : Int)) ≤ ((kx : Int)) := Int.not_lt.1 (of_decide_eq_false hb4.out)
         go_wp2
         try go_ret
         show Q0 (.returned (.bool true)) _
         exact (by obtain rfl := hQ0.out; exact ⟨rfl, hK.old⟩)
        · --
         have q_b4 : ((kx : Int)) < ((nt : Int)) := of_decide_eq_true hb4.out
         go_upto_region 30 with (fail)
         refine wp_region_T [0, 1, 0, 0, 0, 0, 1, 0, 0] hK ?_
         clear hK
         refine e0 ?_
         refine eL m5 ?_
         refine eB (cc.k == 2) (fun b5 hb5 => ?_)
         refine e0 ?_
         cases b5
         · --
          iterate 4 refine eN ?_
          refine e0 ?_
          refine sxEnd (fun W27 hK => ?_)
          have hkn : kx < nN t := (by omega); have hng := hid (show (cc.k == 2 && cc.n == (kx : Int)) = false from ng_of (by have qb5 := hb5.out; (try simp at qb5); simp; intros; omega))
          go_upto_region 31 with (fail)
          refine wp_region_T [1, 0, 2, 0, 0, 0, 3, 4, 0] hK ?_
          clear hK
          refine eL m2 ?_
          refine e0 ?_
          refine eC (fun w k => rroutes_any w (topVR (ht_1.below k.old) (k.slv m1)) SlV.nil kx hlR htR (hid (.inl rfl)) (show kx < nN t by omega)) (fun x28 => ?_)
          obtain ⟨⟨tp1, tl1, tc1⟩, ⟨dp1, dl1, dc1⟩, ws1⟩ := x28; dsimp only [TbS.v]
          iterate 3 refine e0 ?_
          refine eA (.cells #[.int .i64 0, .slice none 0 0, .slice none 0 0] 62) (fun R29 => ?_)
          refine eP 0 0 [.int .i64 ((rtD (restD t num) [] kx).n : Int), .slice tp1 tl1 tc1, .slice dp1 dl1 dc1] ?_
          refine e0 ?_
          refine sxEnd (fun W30 hK => ?_)
          have i31 : kx < nt := (by omega)
          obtain ⟨g31, rfl⟩ := hK.pt m5 i31
          have l31 : kx < (List.zipWith tabW zs (finL t cc (nN t))).length := Nat.lt_of_lt_of_eq i31 (hK.len m5)
          obtain ⟨xt, ext⟩ : ∃ z0, RowKit.Hid ((List.zipWith tabW zs (finL t cc (nN t)))[kx]? = some z0) := ⟨_, hid (List.getElem?_eq_getElem l31)⟩
          obtain ⟨xt_n, ⟨xt_tp, xt_tl, xt_tc⟩, ⟨xt_dp, xt_dl, xt_dc⟩⟩ := xt
          obtain ⟨wz, hz0, hT0⟩ := zw_tab ext.out; rw [finT_no hng.out] at hT0; have hzT := hid (And.intro hz0 hT0); clear hz0 hT0
          have hx9 := hid (tbF_n (hK.tsT m6 hzT.out.1 hzT.out.2)); have hw9 := hid (tbF_n (hK.get m1))
          have hxl := hid (show xt_tl = nN t from hx9.out.1.trans rt_len); have hxl1 := Nat.le_of_eq hxl.out; have hxl2 := Nat.le_of_eq hxl.out.symm; have hwl := hid (show tl1 = nN t from hw9.out.1.trans rt_len); have hwl1 := Nat.le_of_eq hwl.out; have hwl2 := Nat.le_of_eq hwl.out.symm; have hwz := hid (show wz.length = nN t from hx9.out.2.trans rt_len); have hws := hid (show ws1.length = nN t from hw9.out.2.trans rt_len); clear hx9 hw9
          obtain ⟨g1, o1, rfl⟩ := (tbF_e (hK.get m1)).pt (i := 0) (show 0 < tl1 by omega)
          obtain ⟨g2, o2, hp2⟩ := (tbF_e (hK.tsT m6 hzT.out.1 hzT.out.2)).pt (i := 0) (show 0 < xt_tl by omega); obtain rfl : xt_tp = some ⟨g2, o2, none⟩ := hp2
          go_upto_region 32 with (fail)
          refine wp_region_S _ [0, 0, 0, 0, 0, 0, 0, 0, 0, 0, 0, 0, 0, 0] hK ?_ (List.Sublist.refl _)
          clear hK
          iterate 4 refine e0 ?_
          refine eL0 m0 ?_
          iterate 5 refine e0 ?_
          refine eR0 (fun w k => (k.own m5).tab ext.out 1 rfl) ?_
          refine e0 ?_
          refine eV (.bool false) (fun w' => by go_simp; (try go_bits); first | exact ⟨rfl, rfl⟩ | exact ⟨congrArg Value.bool (by simp; omega), rfl⟩) ?_
          refine e0 ?_
          refine sxEnd (fun W32 hK => ?_)
          go_upto_region 34 with (fail)
          refine wp_region_T [0, 1, 0, 0] hK ?_
          clear hK
          refine e0 ?_
          refine eL m0 ?_
          iterate 2 refine e0 ?_
          refine sxEnd (fun W33 hK => ?_)
          go_wp2_with fail
          go_loopw [138] (fun s138 wl => ∃ (dd : Nat), s138 = .int .i64 (dd : Int) ∧ (dd ≤ nN t) ∧ SS w ([bx R29 (.cells #[.int .i64 ((rtD (restD t num) [] kx).n : Int), .slice (some ⟨g1, o1, none⟩) tl1 tc1, .slice dp1 dl1 dc1] 62), tbF ⟨⟨(some ⟨g1, o1, none⟩), tl1, tc1⟩, ⟨dp1, dl1, dc1⟩, ws1⟩ (rtD (restD t num) [] kx), rO intK 3 pn nn cn (natI num), rO lnkK 59 pl nl cl (lnkL t num), bx R19 (.cells #[.int .i64 t.nodes, .slice p_t n_t c_t, .slice pl nl cl] 25), rO tabK 62 (some ⟨g31, 0, none⟩) nt ct (List.zipWith tabW zs (finL t cc (nN t))), tsF zs (finL t cc (nN t)), bx R8 (.cells #[.int .i64 cc.k, .int .i64 cc.n] 44), bx R1 (.cells #[.int .i64 t.nodes, .slice p_t n_t c_t, .slice q_t m_t d_t] 25)]) wl) (fun s138 _ => nN t - (intOf s138).toNat)
          case atStart => exact ⟨0, rfl, (by omega), hK⟩
          case round =>
           clear hK
           obtain ⟨dd, rfl, hd0, hK⟩ := hrel
           generalize wr = W34 at hK ⊢
           go_upto_region 35 with (fail)
           refine wp_region_T [0] hK ?_
           clear hK
           refine eB (decide (((dd : Int)) < ((tl1 : Int)))) (fun b6 hb6 => ?_)
           refine sxEnd (fun W35 hK => ?_)
           cases b6
           · --
            have q_b6 : ((tl1 : Int)) ≤ ((dd : Int)) := Int.not_lt.1 (of_decide_eq_false hb6.out)
            (try go_wp2)
            go_roundw
            case rel => exact ⟨kx + 1, (by first | rfl | go_num), (by omega), (hK.subl (sC2 (sC2 (List.Sublist.refl _))))⟩
            case measure => simp [intOf] <;> omega
           · --
            have q_b6 : ((dd : Int)) < ((tl1 : Int)) := of_decide_eq_true hb6.out
            have hdn : dd < nN t := (by omega); obtain ⟨⟨⟨ap, al, ac⟩, ar, ⟨yp, yl, yc⟩⟩, hy0⟩ : ∃ x : EntW, ws1[dd]? = some x := ⟨_, List.getElem?_eq_getElem (by rw [hws.out]; exact hdn)⟩; have hyy := hid hy0; have hta := tbF_a (hK.get m1) hy0 (rt_at (n := kx) (show dd < nN (restD t num) from hdn)); have hal := hid (hta.1.one0.trans (natI_len _)); have hal1 := Nat.le_of_eq hal.out; have hal2 := Nat.le_of_eq hal.out.symm; clear hy0 hta; have hal8 := nxtR_lenW (restD t num) [] (kx : Int) (dd : Int); have hal9 : arcsD (restD t num) = 2 * num.length := rest_arcs; have hnl8 := hnl9.out
            go_upto_region 38 with (fail)
            refine wp_region_T [0, 1, 0, 0, 0, 1, 0, 0] hK ?_
            clear hK
            refine e0 ?_
            refine eL m0 ?_
            iterate 3 refine e0 ?_
            refine eR (fun w k => (tbF_e (k.get m1)).ent0 hyy.out rfl) ?_
            iterate 2 refine e0 ?_
            refine sxEnd (fun W36 hK => ?_)
            replace hK := hK.fact (rO intK 3 none 0 0 (natI (((nxtR (restD t num) [] (kx : Int) (dd : Int)).take 0).map (renD num)))) OwV.nil (fun _ h => by cases h)
            go_wp2_with fail
            go_loopw [148, 20] (fun s148 s20 wl => ∃ (jx : Nat) (pa : Option Addr) (na : Nat) (ca : Nat), s148 = .int .i64 (jx : Int) ∧ s20 = .slice pa na ca ∧ (jx ≤ al) ∧ SS w ([rO intK 3 pa na ca (natI (((nxtR (restD t num) [] (kx : Int) (dd : Int)).take jx).map (renD num))), bx R29 (.cells #[.int .i64 ((rtD (restD t num) [] kx).n : Int), .slice (some ⟨g1, o1, none⟩) tl1 tc1, .slice dp1 dl1 dc1] 62), tbF ⟨⟨(some ⟨g1, o1, none⟩), tl1, tc1⟩, ⟨dp1, dl1, dc1⟩, ws1⟩ (rtD (restD t num) [] kx), rO intK 3 pn nn cn (natI num), rO lnkK 59 pl nl cl (lnkL t num), bx R19 (.cells #[.int .i64 t.nodes, .slice p_t n_t c_t, .slice pl nl cl] 25), rO tabK 62 (some ⟨g31, 0, none⟩) nt ct (List.zipWith tabW zs (finL t cc (nN t))), tsF zs (finL t cc (nN t)), bx R8 (.cells #[.int .i64 cc.k, .int .i64 cc.n] 44), bx R1 (.cells #[.int .i64 t.nodes, .slice p_t n_t c_t, .slice q_t m_t d_t] 25)]) wl) (fun s148 s20 _ => al - (intOf s148).toNat)
            case atStart => exact ⟨0, none, 0, 0, rfl, rfl, (by omega), hK⟩
            case round =>
             clear hK
             obtain ⟨jx, pa, na, ca, rfl, rfl, hj0, hK⟩ := hrel
             generalize wr = W37 at hK ⊢
             go_upto_region 39 with (fail)
             refine wp_region_T [0] hK ?_
             clear hK
             refine eB (decide (((jx : Int)) < ((al : Int)))) (fun b7 hb7 => ?_)
             refine sxEnd (fun W38 hK => ?_)
             cases b7
             · --
              have q_b7 : ((al : Int)) ≤ ((jx : Int)) := Int.not_lt.1 (of_decide_eq_false hb7.out)
              have i39 : kx < nt := (by omega)
              have l39 : kx < (List.zipWith tabW zs (finL t cc (nN t))).length := Nat.lt_of_lt_of_eq i39 (hK.len m6)
              obtain ⟨⟨⟨bp, bl, bc⟩, br, ⟨vp, vl, vc⟩⟩, hy0⟩ : ∃ x : EntW, wz[dd]? = some x := ⟨_, List.getElem?_eq_getElem (by rw [hwz.out]; exact hdn)⟩; have hvv := hid hy0; have hta := tbF_a (hK.tsT m7 hzT.out.1 hzT.out.2) hy0 (rt_at (n := kx) hdn); obtain rfl : br = false := hta.2; clear hy0 hta; have hje : jx = (nxtR (restD t num) [] (kx : Int) (dd : Int)).length := (by omega); have hsame : decide (natI (((nxtR (restD t num) [] (kx : Int) (dd : Int)).take jx).map (renD num)) = natI (nxtR t (mskD t cc) (kx : Int) (dd : Int))) = true := decide_eq_true (by rw [← hfin.out kx dd hkn hdn, List.take_of_length_le (Nat.le_of_eq hje.symm)]); have hb8 := nxtR_lenW t (mskD t cc) (kx : Int) (dd : Int)
              go_upto_region 43 with (fail)
              refine wp_region_T [0, 0, 0, 0, 1, 0, 0, 0, 1, 0, 0, 0, 0, 0, 0, 1, 0, 0, 0, 1, 1, 0, 0] hK ?_
              clear hK
              iterate 4 refine e0 ?_
              refine eR (fun w k => (k.own m6).tab ext.out 1 rfl) ?_
              iterate 3 refine e0 ?_
              refine eR (fun w k => (tbF_e (k.tsT m7 hzT.out.1 hzT.out.2)).ent hvv.out 1 rfl) ?_
              iterate 6 refine e0 ?_
              refine eR (fun w k => (k.own m6).tab ext.out 1 rfl) ?_
              iterate 3 refine e0 ?_
              refine eR (fun w k => (tbF_e (k.tsT m7 hzT.out.1 hzT.out.2)).ent0 hvv.out rfl) ?_
              refine eQ (fun w k => (same_any w (k.slv m0) (tbF_a (k.tsT m7 hzT.out.1 hzT.out.2) hvv.out (rt_at (n := kx) hdn)).1 (by rw [natI_len]; rw [List.length_map, List.length_take]; omega) (by rw [natI_len]; show (nxtR t (mskD t cc) (kx : Int) (dd : Int)).length ≤ 1000000; omega)).mono fun _ _ q => by rw [hsame] at q; exact q) ?_
              iterate 2 refine e0 ?_
              refine sxEnd (fun W40 hK => ?_)
              (try go_wp2)
              refine ⟨?_, ?measure⟩
              (repeat apply Exists.intro)
              refine ⟨?rel, rfl⟩
              case rel => exact ⟨dd + 1, (by first | rfl | go_num), (by omega), (hK.subl (sC2 (List.Sublist.refl _)))⟩
              case measure => simp [intOf] <;> omega
             · --
              have q_b7 : ((jx : Int)) < ((al : Int)) := of_decide_eq_true hb7.out
              have hj1 : jx < al := (by omega); obtain ⟨a, ha1⟩ : ∃ a, (nxtR (restD t num) [] (kx : Int) (dd : Int))[jx]? = some a := ⟨_, List.getElem?_eq_getElem (by omega)⟩; have ea := hid ha1; have haR := hid (nxtR_mem (List.mem_of_getElem? ha1)); clear ha1
              obtain ⟨g3, o3, rfl⟩ := ((tbF_a (hK.get m2) hyy.out (rt_at (n := kx) (show dd < nN (restD t num) from hdn))).1).pt (i := jx) hj1
              go_upto_region 40 with (fail)
              refine wp_region_T [0, 1, 0] hK ?_
              clear hK
              refine e0 ?_
              refine eR (fun w k => ((tbF_a (k.get m2) hyy.out (rt_at (n := kx) (show dd < nN (restD t num) from hdn))).1).int (i := jx) (x := (a : Int)) (natI_of ea.out)) ?_
              refine e0 ?_
              refine sxEnd (fun W41 hK => ?_)
              have haR2 : a / 2 < num.length := (by have q := haR.out; omega); have htk : (((nxtR (restD t num) [] (kx : Int) (dd : Int)).take jx).map (renD num)).length ≤ jx := (by rw [List.length_map, List.length_take]; omega)
              have i42 : a / 2 < nn := (by rw [hnn9.out]; exact haR2)
              obtain ⟨g42, rfl⟩ := hK.pt m3 i42
              have l42 : a / 2 < (natI num).length := Nat.lt_of_lt_of_eq i42 (hK.len m3)
              obtain ⟨xn, exn⟩ : ∃ z0, RowKit.Hid ((natI num)[a / 2]? = some z0) := ⟨_, hid (List.getElem?_eq_getElem l42)⟩
              obtain ⟨m9, hm9, rfl⟩ := natI_at exn.out; have em9 := hid hm9; have hm10 : m9 < t.links.length := ((hLt.iff m9).1 (List.mem_of_getElem? hm9)).1; have hrn := hid (ren_of em9.out : renD num a = 2 * m9 + a % 2); have hrn1 := Nat.le_of_eq hrn.out; have hrn2 := Nat.le_of_eq hrn.out.symm; clear hm9
              go_upto_region 41 with (fail)
              refine wp_region_T [0, 0, 0, 0, 0, 1, 0, 0, 0, 0, 3, 5, 0] hK ?_
              clear hK
              iterate 3 refine e0 ?_
              refine eV (.int .i64 ((a / 2 : Nat) : Int)) (fun w' => by go_simp; (try go_bits); first | exact ⟨rfl, rfl⟩ | (refine ⟨congrArg (Value.int .i64) ?_, rfl⟩; first | omega | (unfold wrap64; omega)) | go_num) ?_
              refine e0 ?_
              refine eR (fun w k => (k.own m3).int exn.out) ?_
              refine eV (.int .i64 ((2 * m9 : Nat) : Int)) (fun w' => by go_simp; (try go_bits); first | exact ⟨rfl, rfl⟩ | (refine ⟨congrArg (Value.int .i64) ?_, rfl⟩; first | omega | (unfold wrap64; omega)) | go_num) ?_
              refine e0 ?_
              refine eV (.int .i64 ((a % 2 : Nat) : Int)) (fun w' => by go_simp; (try go_bits); first | exact ⟨rfl, rfl⟩ | (refine ⟨congrArg (Value.int .i64) ?_, rfl⟩; first | omega | (unfold wrap64; omega)) | go_num) ?_
              refine eV (.int .i64 ((renD num a : Nat) : Int)) (fun w' => by go_simp; (try go_bits); first | exact ⟨rfl, rfl⟩ | (refine ⟨congrArg (Value.int .i64) ?_, rfl⟩; first | omega | (unfold wrap64; omega)) | go_num) ?_
              refine eA (.cells #[.int .i64 ((renD num a : Nat) : Int)] 3) (fun R43 => ?_)
              refine eApp 1 intK_free rfl infoZ (fun w k => k.one1 (K := intK) (x := ((renD num a : Nat) : Int)) m0 rfl) (by rw [natI_len]; simp at htk ⊢; omega) (fun x44 => ?_)
              obtain ⟨p44, n44, c44⟩ := x44; dsimp only
              refine e0 ?_
              refine sxEnd (fun W45 hK => ?_)
              rw [show (natI (((nxtR (restD t num) [] (kx : Int) (dd : Int)).take jx).map (renD num))) ++ [((renD num a : Nat) : Int)] = natI (((nxtR (restD t num) [] (kx : Int) (dd : Int)).take (jx + 1)).map (renD num)) from (by rw [natI_snoc, take_map_at ea.out])] at hK
              (try go_wp2)
              go_roundw
              case rel => exact ⟨jx + 1, p44, n44, c44, (by first | rfl | go_num), (by first | rfl | go_num), (by omega), (hK.subl (sC2 (List.Sublist.refl _)))⟩
              case measure => simp [intOf] <;> omega
         · --
          iterate 2 refine e0 ?_
          refine eL m5 ?_
          refine eB (((kx : Int)) == cc.n) (fun b6 hb6 => ?_)
          refine e0 ?_
          refine sxEnd (fun W46 hK => ?_)
          cases b6
          · --
           have hkn : kx < nN t := (by omega); have hng := hid (show (cc.k == 2 && cc.n == (kx : Int)) = false from ng_of (by have qb5 := hb5.out; (try simp at qb5); have qb6 := hb6.out; (try simp at qb6); simp; intros; omega))
           go_upto_region 31 with (fail)
           refine wp_region_T [1, 0, 2, 0, 0, 0, 3, 4, 0] hK ?_
           clear hK
           refine eL m2 ?_
           refine e0 ?_
           refine eC (fun w k => rroutes_any w (topVR (ht_1.below k.old) (k.slv m1)) SlV.nil kx hlR htR (hid (.inl rfl)) (show kx < nN t by omega)) (fun x47 => ?_)
           obtain ⟨⟨tp1, tl1, tc1⟩, ⟨dp1, dl1, dc1⟩, ws1⟩ := x47; dsimp only [TbS.v]
           iterate 3 refine e0 ?_
           refine eA (.cells #[.int .i64 0, .slice none 0 0, .slice none 0 0] 62) (fun R48 => ?_)
           refine eP 0 0 [.int .i64 ((rtD (restD t num) [] kx).n : Int), .slice tp1 tl1 tc1, .slice dp1 dl1 dc1] ?_
           refine e0 ?_
           refine sxEnd (fun W49 hK => ?_)
           have i50 : kx < nt := (by omega)
           obtain ⟨g50, rfl⟩ := hK.pt m5 i50
           have l50 : kx < (List.zipWith tabW zs (finL t cc (nN t))).length := Nat.lt_of_lt_of_eq i50 (hK.len m5)
           obtain ⟨xt, ext⟩ : ∃ z0, RowKit.Hid ((List.zipWith tabW zs (finL t cc (nN t)))[kx]? = some z0) := ⟨_, hid (List.getElem?_eq_getElem l50)⟩
           obtain ⟨xt_n, ⟨xt_tp, xt_tl, xt_tc⟩, ⟨xt_dp, xt_dl, xt_dc⟩⟩ := xt
           obtain ⟨wz, hz0, hT0⟩ := zw_tab ext.out; rw [finT_no hng.out] at hT0; have hzT := hid (And.intro hz0 hT0); clear hz0 hT0
           have hx9 := hid (tbF_n (hK.tsT m6 hzT.out.1 hzT.out.2)); have hw9 := hid (tbF_n (hK.get m1))
           have hxl := hid (show xt_tl = nN t from hx9.out.1.trans rt_len); have hxl1 := Nat.le_of_eq hxl.out; have hxl2 := Nat.le_of_eq hxl.out.symm; have hwl := hid (show tl1 = nN t from hw9.out.1.trans rt_len); have hwl1 := Nat.le_of_eq hwl.out; have hwl2 := Nat.le_of_eq hwl.out.symm; have hwz := hid (show wz.length = nN t from hx9.out.2.trans rt_len); have hws := hid (show ws1.length = nN t from hw9.out.2.trans rt_len); clear hx9 hw9
           obtain ⟨g1, o1, rfl⟩ := (tbF_e (hK.get m1)).pt (i := 0) (show 0 < tl1 by omega)
           obtain ⟨g2, o2, hp2⟩ := (tbF_e (hK.tsT m6 hzT.out.1 hzT.out.2)).pt (i := 0) (show 0 < xt_tl by omega); obtain rfl : xt_tp = some ⟨g2, o2, none⟩ := hp2
           go_upto_region 32 with (fail)
           refine wp_region_S _ [0, 0, 0, 0, 0, 0, 0, 0, 0, 0, 0, 0, 0, 0] hK ?_ (List.Sublist.refl _)
           clear hK
           iterate 4 refine e0 ?_
           refine eL0 m0 ?_
           iterate 5 refine e0 ?_
           refine eR0 (fun w k => (k.own m5).tab ext.out 1 rfl) ?_
           refine e0 ?_
           refine eV (.bool false) (fun w' => by go_simp; (try go_bits); first | exact ⟨rfl, rfl⟩ | exact ⟨congrArg Value.bool (by simp; omega), rfl⟩) ?_
           refine e0 ?_
           refine sxEnd (fun W51 hK => ?_)
           go_upto_region 34 with (fail)
           refine wp_region_T [0, 1, 0, 0] hK ?_
           clear hK
           refine e0 ?_
           refine eL m0 ?_
           iterate 2 refine e0 ?_
           refine sxEnd (fun W52 hK => ?_)
           go_wp2_with fail
           go_loopw [138] (fun s138 wl => ∃ (dd : Nat), s138 = .int .i64 (dd : Int) ∧ (dd ≤ nN t) ∧ SS w ([bx R48 (.cells #[.int .i64 ((rtD (restD t num) [] kx).n : Int), .slice (some ⟨g1, o1, none⟩) tl1 tc1, .slice dp1 dl1 dc1] 62), tbF ⟨⟨(some ⟨g1, o1, none⟩), tl1, tc1⟩, ⟨dp1, dl1, dc1⟩, ws1⟩ (rtD (restD t num) [] kx), rO intK 3 pn nn cn (natI num), rO lnkK 59 pl nl cl (lnkL t num), bx R19 (.cells #[.int .i64 t.nodes, .slice p_t n_t c_t, .slice pl nl cl] 25), rO tabK 62 (some ⟨g50, 0, none⟩) nt ct (List.zipWith tabW zs (finL t cc (nN t))), tsF zs (finL t cc (nN t)), bx R8 (.cells #[.int .i64 cc.k, .int .i64 cc.n] 44), bx R1 (.cells #[.int .i64 t.nodes, .slice p_t n_t c_t, .slice q_t m_t d_t] 25)]) wl) (fun s138 _ => nN t - (intOf s138).toNat)
           case atStart => exact ⟨0, rfl, (by omega), hK⟩
           case round =>
            clear hK
            obtain ⟨dd, rfl, hd0, hK⟩ := hrel
            generalize wr = W53 at hK ⊢
            go_upto_region 35 with (fail)
            refine wp_region_T [0] hK ?_
            clear hK
            refine eB (decide (((dd : Int)) < ((tl1 : Int)))) (fun b7 hb7 => ?_)
            refine sxEnd (fun W54 hK => ?_)
            cases b7
            · --
             have q_b7 : ((tl1 : Int)) ≤ ((dd : Int)) := Int.not_lt.1 (of_decide_eq_false hb7.out)
             (try go_wp2)
             go_roundw
             case rel => exact ⟨kx + 1, (by first | rfl | go_num), (by omega), (hK.subl (sC2 (sC2 (List.Sublist.refl _))))⟩
             case measure => simp [intOf] <;> omega
            · --
             have q_b7 : ((dd : Int)) < ((tl1 : Int)) := of_decide_eq_true hb7.out
             have hdn : dd < nN t := (by omega); obtain ⟨⟨⟨ap, al, ac⟩, ar, ⟨yp, yl, yc⟩⟩, hy0⟩ : ∃ x : EntW, ws1[dd]? = some x := ⟨_, List.getElem?_eq_getElem (by rw [hws.out]; exact hdn)⟩; have hyy := hid hy0; have hta := tbF_a (hK.get m1) hy0 (rt_at (n := kx) (show dd < nN (restD t num) from hdn)); have hal := hid (hta.1.one0.trans (natI_len _)); have hal1 := Nat.le_of_eq hal.out; have hal2 := Nat.le_of_eq hal.out.symm; clear hy0 hta; have hal8 := nxtR_lenW (restD t num) [] (kx : Int) (dd : Int); have hal9 : arcsD (restD t num) = 2 * num.length := rest_arcs; have hnl8 := hnl9.out
             go_upto_region 38 with (fail)
             refine wp_region_T [0, 1, 0, 0, 0, 1, 0, 0] hK ?_
             clear hK
             refine e0 ?_
             refine eL m0 ?_
             iterate 3 refine e0 ?_
             refine eR (fun w k => (tbF_e (k.get m1)).ent0 hyy.out rfl) ?_
             iterate 2 refine e0 ?_
             refine sxEnd (fun W55 hK => ?_)
             replace hK := hK.fact (rO intK 3 none 0 0 (natI (((nxtR (restD t num) [] (kx : Int) (dd : Int)).take 0).map (renD num)))) OwV.nil (fun _ h => by cases h)
             go_wp2_with fail
             go_loopw [148, 20] (fun s148 s20 wl => ∃ (jx : Nat) (pa : Option Addr) (na : Nat) (ca : Nat), s148 = .int .i64 (jx : Int) ∧ s20 = .slice pa na ca ∧ (jx ≤ al) ∧ SS w ([rO intK 3 pa na ca (natI (((nxtR (restD t num) [] (kx : Int) (dd : Int)).take jx).map (renD num))), bx R48 (.cells #[.int .i64 ((rtD (restD t num) [] kx).n : Int), .slice (some ⟨g1, o1, none⟩) tl1 tc1, .slice dp1 dl1 dc1] 62), tbF ⟨⟨(some ⟨g1, o1, none⟩), tl1, tc1⟩, ⟨dp1, dl1, dc1⟩, ws1⟩ (rtD (restD t num) [] kx), rO intK 3 pn nn cn (natI num), rO lnkK 59 pl nl cl (lnkL t num), bx R19 (.cells #[.int .i64 t.nodes, .slice p_t n_t c_t, .slice pl nl cl] 25), rO tabK 62 (some ⟨g50, 0, none⟩) nt ct (List.zipWith tabW zs (finL t cc (nN t))), tsF zs (finL t cc (nN t)), bx R8 (.cells #[.int .i64 cc.k, .int .i64 cc.n] 44), bx R1 (.cells #[.int .i64 t.nodes, .slice p_t n_t c_t, .slice q_t m_t d_t] 25)]) wl) (fun s148 s20 _ => al - (intOf s148).toNat)
             case atStart => exact ⟨0, none, 0, 0, rfl, rfl, (by omega), hK⟩
             case round =>
              clear hK
              obtain ⟨jx, pa, na, ca, rfl, rfl, hj0, hK⟩ := hrel
              generalize wr = W56 at hK ⊢
              go_upto_region 39 with (fail)
              refine wp_region_T [0] hK ?_
              clear hK
              refine eB (decide (((jx : Int)) < ((al : Int)))) (fun b8 hb8 => ?_)
              refine sxEnd (fun W57 hK => ?_)
              cases b8
              · --
               have q_b8 : ((al : Int)) ≤ ((jx : Int)) := Int.not_lt.1 (of_decide_eq_false hb8.out)
               have i58 : kx < nt := (by omega)
               have l58 : kx < (List.zipWith tabW zs (finL t cc (nN t))).length := Nat.lt_of_lt_of_eq i58 (hK.len m6)
               obtain ⟨⟨⟨bp, bl, bc⟩, br, ⟨vp, vl, vc⟩⟩, hy0⟩ : ∃ x : EntW, wz[dd]? = some x := ⟨_, List.getElem?_eq_getElem (by rw [hwz.out]; exact hdn)⟩; have hvv := hid hy0; have hta := tbF_a (hK.tsT m7 hzT.out.1 hzT.out.2) hy0 (rt_at (n := kx) hdn); obtain rfl : br = false := hta.2; clear hy0 hta; have hje : jx = (nxtR (restD t num) [] (kx : Int) (dd : Int)).length := (by omega); have hsame : decide (natI (((nxtR (restD t num) [] (kx : Int) (dd : Int)).take jx).map (renD num)) = natI (nxtR t (mskD t cc) (kx : Int) (dd : Int))) = true := decide_eq_true (by rw [← hfin.out kx dd hkn hdn, List.take_of_length_le (Nat.le_of_eq hje.symm)]); have hb8 := nxtR_lenW t (mskD t cc) (kx : Int) (dd : Int)
               go_upto_region 43 with (fail)
               refine wp_region_T [0, 0, 0, 0, 1, 0, 0, 0, 1, 0, 0, 0, 0, 0, 0, 1, 0, 0, 0, 1, 1, 0, 0] hK ?_
               clear hK
               iterate 4 refine e0 ?_
               refine eR (fun w k => (k.own m6).tab ext.out 1 rfl) ?_
               iterate 3 refine e0 ?_
               refine eR (fun w k => (tbF_e (k.tsT m7 hzT.out.1 hzT.out.2)).ent hvv.out 1 rfl) ?_
               iterate 6 refine e0 ?_
               refine eR (fun w k => (k.own m6).tab ext.out 1 rfl) ?_
               iterate 3 refine e0 ?_
               refine eR (fun w k => (tbF_e (k.tsT m7 hzT.out.1 hzT.out.2)).ent0 hvv.out rfl) ?_
               refine eQ (fun w k => (same_any w (k.slv m0) (tbF_a (k.tsT m7 hzT.out.1 hzT.out.2) hvv.out (rt_at (n := kx) hdn)).1 (by rw [natI_len]; rw [List.length_map, List.length_take]; omega) (by rw [natI_len]; show (nxtR t (mskD t cc) (kx : Int) (dd : Int)).length ≤ 1000000; omega)).mono fun _ _ q => by rw [hsame] at q; exact q) ?_
               iterate 2 refine e0 ?_
               refine sxEnd (fun W59 hK => ?_)
               (try go_wp2)
               refine ⟨?_, ?measure⟩
               (repeat apply Exists.intro)
               refine ⟨?rel, rfl⟩
               case rel => exact ⟨dd + 1, (by first | rfl | go_num), (by omega), (hK.subl (sC2 (List.Sublist.refl _)))⟩
               case measure => simp [intOf] <;> omega
              · --
               have q_b8 : ((jx : Int)) < ((al : Int)) := of_decide_eq_true hb8.out
               have hj1 : jx < al := (by omega); obtain ⟨a, ha1⟩ : ∃ a, (nxtR (restD t num) [] (kx : Int) (dd : Int))[jx]? = some a := ⟨_, List.getElem?_eq_getElem (by omega)⟩; have ea := hid ha1; have haR := hid (nxtR_mem (List.mem_of_getElem? ha1)); clear ha1
               obtain ⟨g3, o3, rfl⟩ := ((tbF_a (hK.get m2) hyy.out (rt_at (n := kx) (show dd < nN (restD t num) from hdn))).1).pt (i := jx) hj1
               go_upto_region 40 with (fail)
               refine wp_region_T [0, 1, 0] hK ?_
               clear hK
               refine e0 ?_
               refine eR (fun w k => ((tbF_a (k.get m2) hyy.out (rt_at (n := kx) (show dd < nN (restD t num) from hdn))).1).int (i := jx) (x := (a : Int)) (natI_of ea.out)) ?_
               refine e0 ?_
               refine sxEnd (fun W60 hK => ?_)
               have haR2 : a / 2 < num.length := (by have q := haR.out; omega); have htk : (((nxtR (restD t num) [] (kx : Int) (dd : Int)).take jx).map (renD num)).length ≤ jx := (by rw [List.length_map, List.length_take]; omega)
               have i61 : a / 2 < nn := (by rw [hnn9.out]; exact haR2)
               obtain ⟨g61, rfl⟩ := hK.pt m3 i61
               have l61 : a / 2 < (natI num).length := Nat.lt_of_lt_of_eq i61 (hK.len m3)
               obtain ⟨xn, exn⟩ : ∃ z0, RowKit.Hid ((natI num)[a / 2]? = some z0) := ⟨_, hid (List.getElem?_eq_getElem l61)⟩
               obtain ⟨m9, hm9, rfl⟩ := natI_at exn.out; have em9 := hid hm9; have hm10 : m9 < t.links.length := ((hLt.iff m9).1 (List.mem_of_getElem? hm9)).1; have hrn := hid (ren_of em9.out : renD num a = 2 * m9 + a % 2); have hrn1 := Nat.le_of_eq hrn.out; have hrn2 := Nat.le_of_eq hrn.out.symm; clear hm9
               go_upto_region 41 with (fail)
               refine wp_region_T [0, 0, 0, 0, 0, 1, 0, 0, 0, 0, 3, 5, 0] hK ?_
               clear hK
               iterate 3 refine e0 ?_
               refine eV (.int .i64 ((a / 2 : Nat) : Int)) (fun w' => by go_simp; (try go_bits); first | exact ⟨rfl, rfl⟩ | (refine ⟨congrArg (Value.int .i64) ?_, rfl⟩; first | omega | (unfold wrap64; omega)) | go_num) ?_
               refine e0 ?_
               refine eR (fun w k => (k.own m3).int exn.out) ?_
               refine eV (.int .i64 ((2 * m9 : Nat) : Int)) (fun w' => by go_simp; (try go_bits); first | exact ⟨rfl, rfl⟩ | (refine ⟨congrArg (Value.int .i64) ?_, rfl⟩; first | omega | (unfold wrap64; omega)) | go_num) ?_
               refine e0 ?_
               refine eV (.int .i64 ((a % 2 : Nat) : Int)) (fun w' => by go_simp; (try go_bits); first | exact ⟨rfl, rfl⟩ | (refine ⟨congrArg (Value.int .i64) ?_, rfl⟩; first | omega | (unfold wrap64; omega)) | go_num) ?_
               refine eV (.int .i64 ((renD num a : Nat) : Int)) (fun w' => by go_simp; (try go_bits); first | exact ⟨rfl, rfl⟩ | (refine ⟨congrArg (Value.int .i64) ?_, rfl⟩; first | omega | (unfold wrap64; omega)) | go_num) ?_
               refine eA (.cells #[.int .i64 ((renD num a : Nat) : Int)] 3) (fun R62 => ?_)
               refine eApp 1 intK_free rfl infoZ (fun w k => k.one1 (K := intK) (x := ((renD num a : Nat) : Int)) m0 rfl) (by rw [natI_len]; simp at htk ⊢; omega) (fun x63 => ?_)
               obtain ⟨p63, n63, c63⟩ := x63; dsimp only
               refine e0 ?_
               refine sxEnd (fun W64 hK => ?_)
               rw [show (natI (((nxtR (restD t num) [] (kx : Int) (dd : Int)).take jx).map (renD num))) ++ [((renD num a : Nat) : Int)] = natI (((nxtR (restD t num) [] (kx : Int) (dd : Int)).take (jx + 1)).map (renD num)) from (by rw [natI_snoc, take_map_at ea.out])] at hK
               (try go_wp2)
               go_roundw
               case rel => exact ⟨jx + 1, p63, n63, c63, (by first | rfl | go_num), (by first | rfl | go_num), (by omega), (hK.subl (sC2 (List.Sublist.refl _)))⟩
               case measure => simp [intOf] <;> omega
          · --
           (try go_wp2)
           go_roundw
           case rel => exact ⟨kx + 1, (by first | rfl | go_num), (by omega), hK⟩
           case measure => simp [intOf] <;> omega
      · --
       have q_b3 : ((kx : Int)) < ((m_t : Int)) := of_decide_eq_true hb3.out
       have i65 : 2 * kx < nm := (by omega)
       obtain ⟨g65, rfl⟩ := hK.pt m3 i65
       have l65 : 2 * kx < (mskD t cc).length := Nat.lt_of_lt_of_eq i65 (hK.len m3)
       obtain ⟨xm, exm⟩ : ∃ z0, RowKit.Hid ((mskD t cc)[2 * kx]? = some z0) := ⟨_, hid (List.getElem?_eq_getElem l65)⟩
       have hxm : RowKit.Hid (xm = xm) := hid rfl; have hlfl := lftK_len (m := mskD t cc) (k := kx)
       have i66 : kx < m_t := (by omega)
       obtain ⟨g66, o66, rfl⟩ := ht_2.pt i66
       have l66 : kx < t.links.length := Nat.lt_of_lt_of_eq i66 (ht_2.one0)
       obtain ⟨x, ex⟩ : ∃ z0, RowKit.Hid (t.links[kx]? = some z0) := ⟨_, hid (List.getElem?_eq_getElem l66)⟩
       go_upto_region 23 with (fail)
       refine wp_region_T [0, 0, 0, 0, 1, 0] hK ?_
       clear hK
       iterate 2 refine e0 ?_
       refine eV (.int .i64 ((2 * kx : Nat) : Int)) (fun w' => by go_simp; (try go_bits); first | exact ⟨rfl, rfl⟩ | (refine ⟨congrArg (Value.int .i64) ?_, rfl⟩; first | omega | (unfold wrap64; omega)) | go_num) ?_
       refine e0 ?_
       refine eR (fun w k => (k.own m3).bool exm.out) ?_
       refine e0 ?_
       refine sxEnd (fun W67 hK => ?_)
       cases xm
       · --
        go_upto_region 24 with (fail)
        refine wp_region_S _ [0, 1, 0, 0, 0, 0, 0, 3, 5, 0, 4] hK ?_ (sK2 (sC2 (sC2 (List.Sublist.refl _))))
        clear hK
        refine e0 ?_
        refine eL m2 ?_
        refine e0 ?_
        refine eL0 m5 ?_
        iterate 2 refine e0 ?_
        refine eRm0 (F := fun w => SlV lnkK w (.slice (some ⟨g66, o66, none⟩) m_t d_t) t.links) (fun w k => ht_2.below k.old) (h1 := by intro w' k; have c0 := (k).lnk0 ex.out rfl; have c1 := (k).lnk ex.out 1 rfl; have c2 := (k).lnk ex.out 2 rfl; have c3 := (k).lnk ex.out 3 rfl; have c4 := (k).lnk ex.out 4 rfl; have c5 := (k).lnk ex.out 5 rfl; have c6 := (k).lnk ex.out 6 rfl; go_simp; (try go_bits); exact ⟨rfl, rfl⟩) ?_
        refine eA (.cells #[.int .i64 x.a, .int .i64 x.b, .int .i64 x.c0, .int .i64 x.c1, .int .i64 x.cap, .int .i64 x.dly, .int .i64 x.grp] 59) (fun R68 => ?_)
        refine eApp 2 lnkK_free rfl infoL (fun w k => k.one1 (K := lnkK) (x := (⟨x.a, x.b, x.c0, x.c1, x.cap, x.dly, x.grp⟩ : LnkD)) m0 rfl) (by unfold lnkL; rw [List.length_map]; simp; omega) (fun x69 => ?_) (hs := fun _ => (sC2 (sK2 (sC2 (sC2 (List.Sublist.refl _))))))
        obtain ⟨p69, n69, c69⟩ := x69; dsimp only
        refine e0 ?_
        refine eP 3 2 [.slice p69 n69 c69] ?_ (hs := (sC2 (sK2 (sC2 (sC2 (List.Sublist.refl _))))))
        refine sxEnd (fun W70 hK => ?_)
        go_upto_region 25 with (fail)
        refine wp_region_T [0, 0, 3, 5, 0] hK ?_
        clear hK
        iterate 2 refine e0 ?_
        refine eA (.cells #[.int .i64 (kx : Int)] 3) (fun R71 => ?_)
        refine eApp 2 intK_free rfl infoZ (fun w k => k.one1 (K := intK) (x := (kx : Int)) m0 rfl) (by rw [natI_len]; simp; omega) (fun x72 => ?_)
        obtain ⟨p72, n72, c72⟩ := x72; dsimp only
        refine e0 ?_
        refine sxEnd (fun W73 hK => ?_)
        rw [show (lnkL t (lftK (mskD t cc) kx)) ++ [(⟨x.a, x.b, x.c0, x.c1, x.cap, x.dly, x.grp⟩ : LnkD)] = lnkL t (lftK (mskD t cc) (kx + 1)) from (by rw [lnkL_at ex.out, lftK_yes (getD_of (d := false) (by rw [exm.out, hxm.out]))])] at hK
        rw [show (natI (lftK (mskD t cc) kx)) ++ [(kx : Int)] = natI (lftK (mskD t cc) (kx + 1)) from (by rw [natI_snoc, lftK_yes (getD_of (d := false) (by rw [exm.out, hxm.out]))])] at hK
        (try go_wp2)
        go_roundw
        case rel => exact ⟨kx + 1, p69, n69, c69, p72, n72, c72, (by first | rfl | go_num), (by first | rfl | go_num), (by omega), (hK.subl (sC2 (sC2 (List.Sublist.refl _))))⟩
        case measure => simp [intOf] <;> omega
       · --
        rw [show lnkL t (lftK (mskD t cc) kx) = lnkL t (lftK (mskD t cc) (kx + 1)) from (by rw [lftK_no (getD_of (d := false) (by rw [exm.out, hxm.out]))])] at hK
        rw [show natI (lftK (mskD t cc) kx) = natI (lftK (mskD t cc) (kx + 1)) from (by rw [lftK_no (getD_of (d := false) (by rw [exm.out, hxm.out]))])] at hK
        (try go_wp2)
        go_roundw
        case rel => exact ⟨kx + 1, pl, nl, cl, pn, nn, cn, (by first | rfl | go_num), (by first | rfl | go_num), (by omega), hK⟩
        case measure => simp [intOf] <;> omega
    · --
     have q_b2 : ((kx : Int)) < (((nN t) : Int)) := of_decide_eq_true hb2.out
     have hkn : kx < nN t := (by omega)
     have i74 : kx < (nN t) := (by have q := hK.len m0; rw [st3_len] at q; omega)
     have l74 : kx < (st3 (nN t) kx).length := Nat.lt_of_lt_of_eq i74 (hK.len m0)
     obtain ⟨xz, exz⟩ : ∃ z0, RowKit.Hid ((st3 (nN t) kx)[kx]? = some z0) := ⟨_, hid (List.getElem?_eq_getElem l74)⟩
     go_upto_region 11 with (fail)
     refine wp_region_T [0, 0, 0, 4] hK ?_
     clear hK
     iterate 3 refine e0 ?_
     refine eWI (y := 3) 0 l74 ?_ (hi := rfl)
     refine sxEnd (fun W75 hK => ?_)
     rw [show (st3 (nN t) kx).set kx 3 = (st3 (nN t) (kx + 1)) from (st3_yes hkn)] at hK
     (try go_wp2)
     go_roundw
     case rel => exact ⟨kx + 1, (by first | rfl | go_num), (by omega), hK⟩
     case measure => simp [intOf] <;> omega
end Go.Proofs.YtmcfomainmppdaaGreatDoor
