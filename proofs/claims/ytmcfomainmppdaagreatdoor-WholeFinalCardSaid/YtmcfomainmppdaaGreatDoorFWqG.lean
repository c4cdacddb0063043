/- One table for several nodes is refused. The square: what routes, lists and repairs are there. -/
import Derived.Test.YtmcfomainmppdaaGreatDoorFWqE
namespace Go.Proofs.YtmcfomainmppdaaGreatDoor
open Go.RowKit
open Go.Lib (decDigits)
set_option maxRecDepth 100000 in
theorem wcheck_any (w : World) {v_t : Value} {t : TopD} (ht : TopV w v_t t) {p : Option Addr} {c : Nat} (n1 : Nat) (hl : t.links.length ≤ 100000) (ht2 : topOk t = true) (hn4 : RowKit.Hid (t.nodes = 4)) :
    Calls Tryz.prog 89 #[v_t, .slice p 1 c, .int .i64 (n1 : Int)] w fun e w' => e = .returned (.int .i64 1) ∧ Below w.heap.size w w' := by
  have ht_0 := ht
  obtain ⟨p_t, n_t, c_t, q_t, m_t, d_t, rfl, ht_1, ht_2⟩ := ht_0; have b_t : m_t ≤ 100000 := (by rw [ht_2.one0]; exact hl); have a_t : arcsD t ≤ 200000 := (by unfold arcsD; omega)
  have hK := SS.start w
  refine Calls.hide (fun Q0 hQ0 => ?_)
  go_enter Tryz.func89, Tryz.ntmps89
  go_upto_region 0 with (fail)
  refine wp_region_T [3, 0] hK ?_
  clear hK
  refine eA (.cells #[.int .i64 t.nodes, .slice p_t n_t c_t, .slice q_t m_t d_t] 25) (fun R1 => ?_)
  refine e0 ?_
  refine sxEnd (fun W2 hK => ?_)
  go_upto_region 1 with (fail)
  refine wp_region_T [1, 1, 0, 0, 0, 0, 0, 1, 0, 0] hK ?_
  clear hK
  refine eL m0 ?_
  refine eQ (fun w k => (valid_any w (ht.below k.old) hl).mono fun _ _ q => by rw [ht2] at q; exact q) ?_
  iterate 5 refine e0 ?_
  refine eL m0 ?_
  refine eV (.bool true) (fun w' => by go_simp; (try go_bits); rw [hn4.out]; exact ⟨rfl, rfl⟩) ?_
  refine e0 ?_
  refine sxEnd (fun W3 hK => ?_)
  go_wp2
  try go_ret
  show Q0 (.returned (.int .i64 1)) _
  exact (by obtain rfl := hQ0.out; exact ⟨rfl, hK.old⟩)
set_option maxRecDepth 100000 in
theorem wsearch_any (w : World) {v_t : Value} {t : TopD} (ht : TopV w v_t t) {p : Option Addr} {c : Nat} (n1 : Nat) (hl : t.links.length ≤ 100000) (ht2 : topOk t = true) (hn4 : RowKit.Hid (t.nodes = 4)) :
    Calls Tryz.prog 56 #[v_t, .slice p 1 c, .agg #[.int .i64 0, .int .i64 0, .int .i64 2, .int .i64 0, .slice none 0 0, .int .i64 0], .int .i64 (n1 : Int)] w fun e w' => e = .returned (.tuple #[.pointer none, .slice none 0 0, .int .i64 1]) ∧ Below w.heap.size w w' := by
  have ht_0 := ht
  obtain ⟨p_t, n_t, c_t, q_t, m_t, d_t, rfl, ht_1, ht_2⟩ := ht_0; have b_t : m_t ≤ 100000 := (by rw [ht_2.one0]; exact hl); have a_t : arcsD t ≤ 200000 := (by unfold arcsD; omega)
  have hK := SS.start w
  refine Calls.hide (fun Q0 hQ0 => ?_)
  go_enter Tryz.func56, Tryz.ntmps56
  go_upto_region 0 with (fail)
  refine wp_region_T [3, 3, 3, 0, 3, 0] hK ?_
  clear hK
  refine eA (.cells #[.int .i64 t.nodes, .slice p_t n_t c_t, .slice q_t m_t d_t] 25) (fun R1 => ?_)
  refine eA (.cells #[.slice p 1 c] 35) (fun R2 => ?_)
  refine eA (.cells #[.int .i64 0, .int .i64 0, .int .i64 2, .int .i64 0, .slice none 0 0, .int .i64 0] 56) (fun R3 => ?_)
  refine e0 ?_
  refine eA (.cells #[.slice none 0 0] 103) (fun R4 => ?_)
  refine e0 ?_
  refine sxEnd (fun W5 hK => ?_)
  go_upto_region 1 with (fail)
  refine wp_region_T [1, 1, 0, 1, 0] hK ?_
  clear hK
  refine eL m3 ?_
  refine eL m2 ?_
  refine e0 ?_
  refine eQ (fun w k => wcheck_any w (ht.below k.old) n1 hl ht2 hn4) ?_
  refine e0 ?_
  refine sxEnd (fun W6 hK => ?_)
  go_upto_region 2 with (fail)
  refine wp_region_T [0, 0] hK ?_
  clear hK
  refine e0 ?_
  refine eV (.bool true) (fun w' => by go_simp; (try go_bits); exact ⟨rfl, rfl⟩) ?_
  refine sxEnd (fun W7 hK => ?_)
  go_upto_region 3 with (fail)
  refine wp_region_T [0, 0, 4, 0] hK ?_
  clear hK
  iterate 2 refine e0 ?_
  refine eP 0 0 [.slice none 0 0] ?_
  refine e0 ?_
  refine sxEnd (fun W8 hK => ?_)
  have c90 := (hK.box m0).at 0 rfl
  go_wp2
  exact bodyPost_ret (v := .tuple #[.pointer none, .slice none 0 0, .int .i64 1]) (by simp [results, Tryz.results56, go_sem, c90]) rfl (by obtain rfl := hQ0.out; exact ⟨rfl, hK.old⟩)
set_option maxRecDepth 100000 in
theorem warrives_any (w : World) {v_t : Value} {t : TopD} (ht : TopV w v_t t) {p : Option Addr} {c : Nat} (n1 : Nat) (hl : t.links.length ≤ 100000) (ht2 : topOk t = true) (hn4 : RowKit.Hid (t.nodes = 4)) :
    Calls Tryz.prog 20 #[v_t, .slice p 1 c, .agg #[.int .i64 0, .int .i64 0, .int .i64 2, .int .i64 0, .slice none 0 0, .int .i64 0], .int .i64 (n1 : Int)] w fun e w' => e = .returned (.tuple #[.bool false, .int .i64 1]) ∧ Below w.heap.size w w' := by
  have ht_0 := ht
  obtain ⟨p_t, n_t, c_t, q_t, m_t, d_t, rfl, ht_1, ht_2⟩ := ht_0; have b_t : m_t ≤ 100000 := (by rw [ht_2.one0]; exact hl); have a_t : arcsD t ≤ 200000 := (by unfold arcsD; omega)
  have hK := SS.start w
  refine Calls.hide (fun Q0 hQ0 => ?_)
  go_enter Tryz.func20, Tryz.ntmps20
  go_upto_region 0 with (fail)
  refine wp_region_T [3, 3, 0, 0] hK ?_
  clear hK
  refine eA (.cells #[.int .i64 t.nodes, .slice p_t n_t c_t, .slice q_t m_t d_t] 25) (fun R1 => ?_)
  refine eA (.cells #[.int .i64 0, .int .i64 0, .int .i64 2, .int .i64 0, .slice none 0 0, .int .i64 0] 56) (fun R2 => ?_)
  iterate 2 refine e0 ?_
  refine sxEnd (fun W3 hK => ?_)
  go_upto_region 1 with (fail)
  refine wp_region_T [1, 0, 1, 0, 1, 0, 0, 0, 0, 0, 0, 0] hK ?_
  clear hK
  refine eL m1 ?_
  refine e0 ?_
  refine eL m0 ?_
  refine e0 ?_
  refine eQ (fun w k => wsearch_any w (ht.below k.old) n1 hl ht2 hn4) ?_
  iterate 7 refine e0 ?_
  refine sxEnd (fun W4 hK => ?_)
  go_upto_region 2 with (fail)
  refine wp_region_T [0, 0] hK ?_
  clear hK
  refine e0 ?_
  refine eV (.bool true) (fun w' => by go_simp; (try go_bits); exact ⟨rfl, rfl⟩) ?_
  refine sxEnd (fun W5 hK => ?_)
  go_wp2
  try go_ret
  show Q0 (.returned (.tuple #[.bool false, .int .i64 1])) _
  exact (by obtain rfl := hQ0.out; exact ⟨rfl, hK.old⟩)
end Go.Proofs.YtmcfomainmppdaaGreatDoor
namespace Go.Proofs.YtmcfomainmppdaaGreatDoor
open Go.RowKit
def dstB (t : TopD) (down : List Bool) (d : Nat) (l : List Int) : Bool :=
  decide (l.length = nN t) && decide (atD l d = 0) && l.all (fun v => decide (0 ≤ v)) &&
    ((List.range (arcsD t)).all fun a => match arTo t down d a with | none => true | some e => !decide (0 ≤ atD l e.y) || (decide (0 ≤ atD l e.x) && decide (atD l e.x ≤ atD l e.y + (e.c : Int)))) &&
    ((List.range (nN t)).all fun x => decide (x = d) || (List.range (arcsD t)).any fun a => match arTo t down d a with | none => false | some e => decide (e.x = x) && decide (0 ≤ atD l e.y) && decide (atD l x = atD l e.y + (e.c : Int)))
theorem dstB_ok {t : TopD} {down : List Bool} {d : Nat} {l : List Int} (h : dstB t down d l = true) : IsDst t down d l := by
  unfold dstB at h
  simp only [Bool.and_eq_true, decide_eq_true_eq, List.all_eq_true, List.mem_range] at h
  obtain ⟨⟨⟨⟨h1, h2⟩, h3⟩, h4⟩, h5⟩ := h
  refine ⟨h1, h2, fun a e ha he hy => ?_, fun x hx hxd _ => ?_, fun x hx => ?_⟩
  · have := h4 a ha
    rw [he] at this
    simp only [Bool.or_eq_true, Bool.and_eq_true, Bool.not_eq_true', decide_eq_true_eq, decide_eq_false_iff_not] at this
    exact this.elim (fun w => absurd hy w) id
  · have := h5 x hx
    rw [Bool.or_eq_true, decide_eq_true_iff] at this
    rcases this with w | w
    · exact absurd w hxd
    · obtain ⟨a, ha, w⟩ := List.any_eq_true.1 w
      cases he : arTo t down d a with
      | none => rw [he] at w; cases w
      | some e =>
        rw [he] at w
        simp only [Bool.and_eq_true, decide_eq_true_eq] at w
        exact ⟨a, e, List.mem_range.1 ha, he, w.1.1, w.1.2, w.2⟩
  · unfold atD List.getD at hx ⊢
    cases hl : l[x]? with
    | none => rfl
    | some v =>
      rw [hl] at hx
      have := h3 v (List.mem_of_getElem? hl)
      simp at hx; omega
theorem okS : topOk topS = true := by decide +kernel
theorem dst2S : dstD topS [] 2 = [2, 1, 0, 1] := (dst_eq okS (dstB_ok (by decide +kernel))).symm
theorem dst1S : dstD topS [] 1 = [1, 0, 1, 2] := (dst_eq okS (dstB_ok (by decide +kernel))).symm
theorem nxt2S : nxtR topS [] ((0 : Nat) : Int) ((2 : Nat) : Int) = [0, 7] := by
  rw [nxtR_of (by decide +kernel)]
  show nxtD topS [] (dstD topS [] 2) 0 2 = _
  rw [dst2S]; decide +kernel
theorem nxt1S : nxtR topS [] ((0 : Nat) : Int) ((1 : Nat) : Int) = [0] := by
  rw [nxtR_of (by decide +kernel)]
  show nxtD topS [] (dstD topS [] 1) 0 1 = _
  rw [dst1S]; decide +kernel
theorem unq2S : unqR topS [] ((0 : Nat) : Int) ((2 : Nat) : Int) = false := by
  unfold unqR
  rw [show cntR topS [] ((0 : Nat) : Int) ((2 : Nat) : Int) 2 = 2 from ?_]
  · rfl
  · unfold cntR; rw [if_pos ⟨by decide +kernel, by decide⟩]
    show ((min (nSP topS [] (dstD topS [] 2) 2 0) 2 : Nat) : Int) = 2
    rw [dst2S]; decide +kernel
theorem wayS : WayD topS 0 [0, 2] := by
  refine ⟨by decide +kernel, by decide +kernel, fun _ => by decide +kernel, by decide +kernel, by decide +kernel, fun h => absurd rfl h, trivial⟩
theorem cov2S : covW topS [] 0 [0, 2] 0 2 = false := by
  unfold covW
  rw [show ndW topS 0 [0, 2] 0 = 0 from rfl, show ndW topS 0 [0, 2] 2 = 2 by decide +kernel, unq2S, Bool.and_false]
theorem encS : (encL topS [] 0 [0, 2]).length = 2 := by
  have last : ∀ i, i = 1 → (encG topS [] 0 [0, 2] i).length = 1 := fun i hi => by
    subst hi
    cases hl : lasW topS [] 0 [0, 2] 1 (min ([0, 2] : List Nat).length (1 + nN topS - 1)) with
    | none => rw [encG_arc (by decide) hl, encG_end (by decide)]; rfl
    | some j =>
      have h := lasW_le hl
      have hj : j = 2 := by
        have h2 : j ≤ 2 := Nat.le_trans h.2.1 (Nat.min_le_left ..)
        have h1 := h.1
        omega
      subst hj
      rw [encG_seg (by decide) hl, encG_end (by decide)]; rfl
  unfold encL
  cases hl : lasW topS [] 0 [0, 2] 0 (min ([0, 2] : List Nat).length (0 + nN topS - 1)) with
  | none => rw [encG_arc (by decide) hl, List.length_cons, last 1 rfl]
  | some j =>
    have h := lasW_le hl
    have hj : j = 1 := by
      have h2 : j ≤ 2 := Nat.le_trans h.2.1 (Nat.min_le_left ..)
      have h1 := h.1
      rcases Nat.lt_or_ge j 2 with h3 | h3
      · omega
      · obtain rfl : j = 2 := by omega
        rw [cov2S] at h; exact absurd h.2.2 (by decide)
    subst hj
    rw [encG_seg (by decide) hl, List.length_cons, last 1 rfl]
theorem mskS : mskD topS ⟨1, 0⟩ = [true, true, false, false, false, false, false, false] := by decide +kernel
theorem detS : detD topS (mskD topS ⟨1, 0⟩) 0 = [true, false, false, false, false, false, false, false] := by rw [mskS]; decide +kernel
theorem asmS : asmD topS 0 1 = ⟨1, 0⟩ := by
  unfold asmD
  rw [if_neg (fun h => h.1 (by decide +kernel))]; rfl
theorem dn1S : dn1 topS [true, false, false, false, false, false, false, false] 0 1 = [true, true, false, false, false, false, false, false] := by
  unfold dn1; rw [asmS, mskS]; decide +kernel
def dwnS : List Bool := [true, true, false, false, false, false, false, false]
theorem dstRS : dstD topS dwnS 1 = [3, 0, 1, 2] := (dst_eq okS (dstB_ok (by decide +kernel))).symm
theorem chkRS : chkT topS dwnS 0 1 = 0 := by unfold chkT; rw [dstRS]; decide +kernel
theorem pthRS : pthT topS dwnS 0 1 = [7, 5, 3] := by
  refine (pth_eqT chkRS ?_).symm
  rw [dstRS]
  exact ⟨⟨[], by decide +kernel⟩, ⟨[], by decide +kernel⟩, ⟨[], by decide +kernel⟩, (by decide +kernel : hN topS 3 = 1)⟩
theorem drop_len (l : List SegD) : (dropA l).length ≤ l.length := by
  cases l with
  | nil => exact Nat.le_refl _
  | cons s l =>
    show (if s.k = 2 then l else s :: l).length ≤ _
    split
    · exact Nat.le_succ _
    · exact Nat.le_refl _
theorem entRS : entR topS [true, false, false, false, false, false, false, false] 0 1 = ⟨[7], true, lstD topS dwnS 0 1⟩ := by
  have hf : fsD [true, false, false, false, false, false, false, false] (nxtR topS [] ((0 : Nat) : Int) ((1 : Nat) : Int)) = some 0 := by rw [nxt1S]; rfl
  rw [← entR_some (dn := dwnS) hf ?_]
  · rw [eD_yes (by rw [pthRS]; exact List.cons_ne_nil _ _) ?_, pthRS]
    · rfl
    · unfold lstD
      have h1 := drop_len (encL topS [] 0 (pthT topS dwnS 0 1))
      have h2 : (encL topS [] 0 (pthT topS dwnS 0 1)).length ≤ (pthT topS dwnS 0 1).length := encG_len
      rw [pthRS] at h1 h2 ⊢
      have h3 : ([7, 5, 3] : List Nat).length = 3 := rfl
      omega
  · unfold dn2
    rw [dn1S]
    exact if_pos chkRS
theorem repS : (repD topS ⟨1, 0⟩ 0).t[1]? = some ⟨[7], true, lstD topS dwnS 0 1⟩ := by
  show ((List.range (nN topS)).map fun (d : Nat) => entR topS (detD topS (mskD topS ⟨1, 0⟩) 0) 0 d)[1]? = _
  rw [detS, List.getElem?_map, show (List.range (nN topS))[1]? = some 1 from rfl, ← entRS]; rfl
theorem rtS : (rtD topS [] 0).t[2]? = some ⟨[0, 7], false, []⟩ := by
  show ((List.range (nN topS)).map fun (d : Nat) => (⟨nxtR topS [] ((0 : Nat) : Int) (d : Int), false, []⟩ : EntD))[2]? = _
  rw [List.getElem?_map, show (List.range (nN topS))[2]? = some 2 from rfl, ← nxt2S]; rfl
theorem grpS : ∀ x ∈ topS.links, x.grp = 0 := fun x hx => by
  obtain ⟨i, _, rfl⟩ := List.mem_map.1 hx; rfl
theorem topVS {w : World} {p : Option Addr} {n c : Nat} (h : SlV lnkK w (.slice p n c) ((List.range 4).map lnS)) : TopV w (.agg #[.int .i64 4, .slice none 0 0, .slice p n c]) topS := ⟨none, 0, 0, p, n, c, rfl, SlV.nil, h⟩
section
variable {V w : World} {l : List Ft} {z : TbS} {T : TabD} {i : Nat} {e : EntD}
theorem SS.tbn (h : SS V l w) (hm : tbF z T ∈ l) : z.t.l = T.t.length ∧ z.ws.length = T.t.length := by
  have h1 : (tbF z T).F w := h.get hm
  have h2 : z.ws.map (·.r) = T.t.map (·.r) := h1.1 (cF _) (List.mem_append_left _ (List.mem_cons_self ..))
  have h3 : OwV entK _ 0 w (.slice z.t.p z.t.l z.t.c) z.ws := h1.1 (rO entK 66 z.t.p z.t.l z.t.c z.ws) (List.mem_append_left _ (List.mem_cons_of_mem _ (List.mem_cons_self ..)))
  have h4 : z.ws.length = T.t.length := by have := congrArg List.length h2; simpa using this
  exact ⟨h3.len.trans h4, h4⟩
theorem SS.tbe (h : SS V l w) (hm : tbF z T ∈ l) : SlV entK w (.slice z.t.p z.t.l z.t.c) z.ws := by
  have h1 : (tbF z T).F w := h.get hm
  exact OwV.slv (h1.1 (rO entK 66 z.t.p z.t.l z.t.c z.ws) (List.mem_append_left _ (List.mem_cons_of_mem _ (List.mem_cons_self ..))))
theorem SS.tba (h : SS V l w) (hm : tbF z T ∈ l) {x : EntW} (hx : z.ws[i]? = some x) (he : T.t[i]? = some e) : SlV intK w (.slice x.a.p x.a.l x.a.c) (natI e.a) ∧ x.r = e.r := by
  have h1 : (tbF z T).F w := h.get hm
  have h2 : (vsF intK (z.ws.map (·.a)) (T.t.map fun e => natI e.a)).F w := h1.1 _ (List.mem_append_left _ (List.mem_cons_of_mem _ (List.mem_cons_of_mem _ (List.mem_cons_self ..))))
  have h3 : z.ws.map (·.r) = T.t.map (·.r) := h1.1 (cF _) (List.mem_append_left _ (List.mem_cons_self ..))
  refine ⟨(h2.1 (vO intK x.a.p x.a.l x.a.c (natI e.a)) (List.mem_of_getElem? (i := i) (by unfold vsL; rw [List.getElem?_zipWith, List.getElem?_map, List.getElem?_map, hx, he]; rfl))).2, ?_⟩
  have := congrArg (fun l => l[i]?) h3
  simpa [List.getElem?_map, hx, he] using this
end
end Go.Proofs.YtmcfomainmppdaaGreatDoor
