/- What a node assumes; entries in the state Repair. -/
import Derived.Test.YtmcfomainmppdaaGreatDoorFWqC
namespace Go.Proofs.YtmcfomainmppdaaGreatDoor
open Go.RowKit
open Go.Lib (decDigits)
theorem SS.up8 {V w : World} {l : List Ft} {x0 x1 x2 x3 x4 x5 x6 x7 x8 : Ft} (h0 : SS V (x0 :: x1 :: x2 :: x3 :: x4 :: x5 :: x6 :: x7 :: x8 :: l) w) : SS V (x8 :: x0 :: x1 :: x2 :: x3 :: x4 :: x5 :: x6 :: x7 :: l) w := h0.perm (up_cons (up_cons (up_cons (up_cons (up_cons (up_cons (up_cons (up_cons (.refl _)))))))))
structure AsZ where
  r13 : Nat
  rr : Nat
  r9 : Nat
  r7 : Nat
  r11 : Nat
  r8 : Nat
  r6 : Nat
  r12 : Nat
  s : Sl
instance : Nonempty AsZ := ⟨⟨0, 0, 0, 0, 0, 0, 0, 0, ⟨none, 0, 0⟩⟩⟩
section
variable {t : TopD} {a d n1 d1 k : Nat} {det : List Bool} {A : List Nat}
theorem getD_of {α : Type _} {l : List α} {i : Nat} {x d : α} (h : l[i]? = some x) : l.getD i d = x := by simp [List.getD, h]
theorem arcT (ht : topOk t = true) (ha : a < arcsD t) : tN t a < nN t := (arc_ok ht ha).2.2.2.1
theorem winH (hn : t.nodes = (nN t : Int)) (h : d < nN t) : winB t ⟨2, (d : Int)⟩ = true := by
  show (decide (0 ≤ (d : Int)) && decide ((d : Int) < t.nodes)) = true
  rw [hn]; simp; exact h
theorem asm_win (ht : topOk t = true) (ha : a < arcsD t) : winB t (asmD t a d) = true := by
  unfold asmD
  split
  · exact winH (topN ht).1 (arc_ok ht ha).2.2.2.2.1
  · show (decide (0 ≤ ((a / 2 : Nat) : Int)) && decide (((a / 2 : Nat) : Int) < t.links.length)) = true
    unfold arcsD at ha
    simp; omega
theorem asm_eq : asmV (a / 2) (hN t a) (frmD t (mskD t ⟨2, (hN t a : Int)⟩) (tN t a)) d = asmD t a d := rfl
def ixD (det : List Bool) : List Nat → Int
  | [] => -1
  | a :: l => if det.getD a false = true then 0 else if ixD det l < 0 then -1 else ixD det l + 1
theorem ixD_none (h : ∀ b ∈ A, det.getD b false = false) : ixD det A = -1 := by
  induction A with
  | nil => rfl
  | cons b A ih =>
    unfold ixD
    rw [if_neg (by rw [h b (List.mem_cons_self ..)]; decide), ih fun c hc => h c (List.mem_cons_of_mem _ hc), if_pos (by decide)]
theorem ixD_hit (hno : ∀ i, i < k → ∀ b, A[i]? = some b → det.getD b false = false) (hk : A[k]? = some a) (ha : det.getD a false = true) : ixD det A = (k : Int) := by
  induction A generalizing k with
  | nil => cases hk
  | cons b A ih =>
    cases k with
    | zero =>
      injection hk with hk; subst hk
      unfold ixD; rw [if_pos ha]; rfl
    | succ k =>
      have h1 := ih (fun i hi c hc => hno (i + 1) (Nat.succ_lt_succ hi) c (by simpa using hc)) (by simpa using hk)
      unfold ixD
      rw [if_neg (by rw [hno 0 (Nat.succ_pos _) b rfl]; decide), h1, if_neg (by omega)]
      rfl
theorem ixD_some (h : 0 ≤ ixD det A) : ∃ (k a : Nat), ixD det A = (k : Int) ∧ A[k]? = some a ∧ A.find? (fun a => det.getD a false) = some a := by
  induction A with
  | nil => exact absurd h (show ¬ (0 : Int) ≤ -1 by decide)
  | cons b A ih =>
    by_cases hb : det.getD b false = true
    · exact ⟨0, b, by unfold ixD; rw [if_pos hb]; rfl, rfl, by rw [List.find?_cons, hb]⟩
    · have e : ixD det (b :: A) = if ixD det A < 0 then -1 else ixD det A + 1 := by rw [ixD, if_neg hb]
      by_cases hl : ixD det A < 0
      · rw [e, if_pos hl] at h; exact absurd h (by decide)
      · obtain ⟨k, a, h1, h2, h3⟩ := ih (Int.not_lt.1 hl)
        refine ⟨k + 1, a, by rw [e, if_neg hl, h1]; rfl, by simpa using h2, ?_⟩
        rw [List.find?_cons, Bool.eq_false_iff.2 hb]; exact h3
theorem fsD_ix (_ : ixD det A = (k : Int)) (_ : A[k]? = some a) (h : A.find? (fun a => det.getD a false) = some a) : fsD det A = some a := h
theorem fsD_no (h : ixD det A < 0) : fsD det A = none := by
  unfold fsD
  induction A with
  | nil => rfl
  | cons b A ih =>
    by_cases hb : det.getD b false = true
    · rw [ixD, if_pos hb] at h; exact absurd h (by decide)
    · rw [ixD, if_neg hb] at h
      by_cases hl : ixD det A < 0
      · rw [List.find?_cons, Bool.eq_false_iff.2 hb]; exact ih hl
      · rw [if_neg hl] at h; omega
def orP (a b : List Bool) (k : Nat) : List Bool := (List.range a.length).map fun i => a.getD i false || (decide (i < k) && b.getD i false)
theorem orP_len {a b : List Bool} : (orP a b k).length = a.length := by unfold orP; simp
theorem orP_0 {a b : List Bool} : orP a b 0 = a := by
  apply List.ext_getElem (by rw [orP_len])
  intro i h1 h2
  unfold orP
  simp [List.getD, h2]
theorem orP_all {a b : List Bool} : orP a b a.length = orD a b := by
  unfold orP orD
  refine List.map_congr_left fun i hi => ?_
  rw [decide_eq_true (List.mem_range.1 hi), Bool.true_and]
theorem orP_at {a b : List Bool} {x : Bool} (hk : k < a.length) (h : (orP a b k)[k]? = some x) : a.getD k false = x := by
  obtain ⟨h1, h2⟩ := List.getElem?_eq_some_iff.1 h
  unfold orP at h2
  simp at h2
  simpa using h2
theorem orP_set {a b : List Bool} {y : Bool} (hk : k < a.length) (h : y = (a.getD k false || b.getD k false)) : (orP a b k).set k y = orP a b (k + 1) := by
  apply List.ext_getElem (by simp [orP_len])
  intro i h1 h2
  rw [List.getElem_set]
  have hi : i < a.length := by rw [orP_len] at h2; exact h2
  have e : ∀ m, (orP a b m)[i]'(by rw [orP_len]; exact hi) = (a.getD i false || (decide (i < m) && b.getD i false)) := fun m => by unfold orP; simp
  rw [e, e]
  by_cases e1 : k = i
  · subst e1
    rw [if_pos rfl, h, decide_eq_true (Nat.lt_succ_self k), Bool.true_and]
  · rw [if_neg e1]
    congr 2
    exact decide_eq_decide.2 (by omega)
theorem orD_len {a b : List Bool} : (orD a b).length = a.length := by unfold orD; simp
theorem entR_none {t : TopD} (h : fsD det (nxtR t [] (n1 : Int) (d1 : Int)) = none) : entR t det n1 d1 = ⟨nxtR t [] (n1 : Int) (d1 : Int), false, []⟩ := by unfold entR; rw [h]
theorem entR_some {t : TopD} {dn : List Bool} (h : fsD det (nxtR t [] (n1 : Int) (d1 : Int)) = some a) (hd : dn2 t det n1 a d1 = dn) : eD t dn n1 d1 = entR t det n1 d1 := by unfold entR; rw [h, ← hd]
theorem dn2_y {t : TopD} (h : (chkT t (dn1 t det a d1) n1 d1 == 0) = true) : dn2 t det n1 a d1 = dn1 t det a d1 := if_pos (by simpa using h)
theorem dn2_n {t : TopD} (h : (chkT t (dn1 t det a d1) n1 d1 == 0) = false) : dn2 t det n1 a d1 = det := if_neg (by simpa using h)
theorem natI_some {l : List Nat} (h : l[k]? = some a) : (natI l)[k]? = some ((a : Nat) : Int) := by unfold natI; rw [List.getElem?_map, h]; rfl
theorem chkN_okW (ht : topOk t = true) (hn : n1 < nN t) (hd : d1 < nN t) : chkN t [] (n1 : Int) (d1 : Int) = 0 := by
  have hc := chk_of (down := []) ht (.inl rfl) hd
  have h1 := (topN ht).1
  unfold chkN
  rw [if_pos hc, if_pos (by omega)]
theorem nxtR_of {m : Nat} {down : List Bool} {d : Int} (h : chkN t down (m : Int) d = 0) : nxtR t down (m : Int) d = nxtD t down (dstD t down d.toNat) m d.toNat := by unfold nxtR; rw [if_pos h]; rfl
theorem nxtR_len (t : TopD) (down : List Bool) (n d : Int) : (nxtR t down n d).length ≤ arcsD t := by
  unfold nxtR
  split
  · exact nxt_len ..
  · exact Nat.zero_le _
theorem nxtR_arc (hc : chkN t [] (n1 : Int) (d1 : Int) = 0) (h : a ∈ nxtR t [] (n1 : Int) (d1 : Int)) : a < arcsD t := by
  rw [nxtR_of hc] at h; exact (mem_nxt.1 h).1
theorem nxtR_tail (hc : chkN t [] (n1 : Int) (d1 : Int) = 0) (h : a ∈ nxtR t [] (n1 : Int) (d1 : Int)) : tN t a = n1 := by
  rw [nxtR_of hc] at h; exact (mem_nxt.1 h).2.1
theorem nxtR_lt (ht : topOk t = true) (hn : n1 < nN t) (hd : d1 < nN t) (hdl : det.length = arcsD t) : ∀ a ∈ nxtR t [] (n1 : Int) (d1 : Int), a < det.length := fun a ha => by
  rw [hdl]; exact nxtR_arc (chkN_okW ht hn hd) ha
end
set_option maxRecDepth 100000 in
set_option maxHeartbeats 1000000 in
theorem assume_any (w : World) {t : TopD} {p_t : Option Addr} {n_t c_t : Nat} {q_t : Option Addr} {m_t d_t : Nat} (ht : TopV w (.agg #[.int .i64 t.nodes, .slice p_t n_t c_t, .slice q_t m_t d_t]) t) (a : Nat) (hl : t.links.length ≤ 100000) (ht2 : topOk t = true) (hg0 : ∀ x ∈ t.links, x.grp = 0) (haA : a < arcsD t) :
    Calls Tryz.prog 99 #[.agg #[.int .i64 t.nodes, .slice p_t n_t c_t, .slice q_t m_t d_t], .int .i64 (a : Int)] w fun e w' => ∃ z : AsZ, e = .returned (.func (.func 132) #[] #[.pointer (some ⟨z.r13, 0, none⟩), .pointer (some ⟨z.r9, 0, none⟩)]) ∧ SS w [bx z.r13 (.cells #[.slice (some ⟨z.rr, 0, none⟩) 2 2] 176), bx z.rr (.cells #[.func (.func 130) #[] #[.pointer (some ⟨z.r7, 0, none⟩), .pointer (some ⟨z.r11, 0, none⟩)], .func (.func 131) #[] #[.pointer (some ⟨z.r8, 0, none⟩), .pointer (some ⟨z.r6, 0, none⟩), .pointer (some ⟨z.r12, 0, none⟩)]] 175), bx z.r9 (.cells #[.int .i64 1, .int .i64 ((a / 2 : Nat) : Int)] 44), bx z.r7 (.cells #[.int .i64 3, .int .i64 0] 44), bx z.r8 (.cells #[.int .i64 2, .int .i64 (hN t a : Int)] 44), bx z.r6 (.cells #[.int .i64 (hN t a : Int)] 3), bx z.r12 (.cells #[.slice z.s.p z.s.l z.s.c] 29), rO intK 3 z.s.p z.s.l z.s.c (frmD t (mskD t (⟨2, (hN t a : Int)⟩ : CmpD)) (tN t a)), cF (IsFrm t (mskD t (⟨2, (hN t a : Int)⟩ : CmpD)) (tN t a) (frmD t (mskD t (⟨2, (hN t a : Int)⟩ : CmpD)) (tN t a)))] w' := by
  have ht_1 := ht.parts.1; have ht_2 := ht.parts.2; have b_t : m_t ≤ 100000 := (by rw [ht_2.one0]; exact hl); have a_t : arcsD t ≤ 200000 := (by unfold arcsD; omega)
  have hK := SS.start w
  have haN := arc_ok ht2 haA; have hhl : hN t a < nN t := haN.2.2.2.2.1; have htl : tN t a < nN t := (arcT ht2 haA); have hal : a / 2 < t.links.length := (by unfold arcsD at haA; omega); have hml := hid ht_2.one0; have hml1 := Nat.le_of_eq hml.out; have hml2 := Nat.le_of_eq hml.out.symm; have hnt := hid (topN ht2).1; have hwc : winB t (⟨2, (hN t a : Int)⟩ : CmpD) = true := winH hnt.out hhl; clear haN
  refine Calls.hide (fun Q0 hQ0 => ?_)
  go_enter Tryz.func99, Tryz.ntmps99
  go_upto_region 0 with (fail)
  refine wp_region_T [3, 0] hK ?_
  clear hK
  refine eA (.cells #[.int .i64 t.nodes, .slice p_t n_t c_t, .slice q_t m_t d_t] 25) (fun R1 => ?_)
  refine e0 ?_
  refine sxEnd (fun W2 hK => ?_)
  go_upto_region 1 with (fail)
  refine wp_region_S _ [0, 0, 1, 0, 0, 1, 3, 3, 4, 4] hK ?_ (List.Sublist.refl _)
  clear hK
  refine eL0 m0 ?_
  refine e0 ?_
  refine eQ (fun w k => tailN_any w (ht.below k.old) a hl ht2 haA) ?_
  refine eL0 m0 ?_
  refine e0 ?_
  refine eQ (fun w k => headN_any w (ht.below k.old) a hl ht2 haA) ?_
  refine eA (.cells #[.int .i64 0] 3) (fun R3 => ?_)
  refine eA (.cells #[.int .i64 0] 3) (fun R4 => ?_)
  refine eP 1 0 [.int .i64 ((tN t a : Nat) : Int)] ?_ (hs := (sC2 (sC2 (List.Sublist.refl _))))
  refine eP 0 0 [.int .i64 ((hN t a : Nat) : Int)] ?_ (hs := (sC2 (sC2 (List.Sublist.refl _))))
  refine sxEnd (fun W5 hK => ?_)
  have i6 : a / 2 < m_t := (by omega)
  obtain ⟨g6, o6, rfl⟩ := ht_2.pt i6
  have l6 : a / 2 < t.links.length := Nat.lt_of_lt_of_eq i6 (ht_2.one0)
  obtain ⟨x, ex⟩ : ∃ z0, RowKit.Hid (t.links[a / 2]? = some z0) := ⟨_, hid (List.getElem?_eq_getElem l6)⟩
  have hx0 := hid (hg0 x (List.mem_of_getElem? ex.out))
  go_upto_region 2 with (fail)
  refine wp_region_T [0, 1, 0, 0, 0, 0, 0, 0, 3, 4] hK ?_
  clear hK
  refine e0 ?_
  refine eL m2 ?_
  refine e0 ?_
  refine eV (.int .i64 ((a / 2 : Nat) : Int)) (fun w' => by go_simp; (try go_bits); first | exact ⟨rfl, rfl⟩ | (refine ⟨congrArg (Value.int .i64) ?_, rfl⟩; omega) | go_num) ?_
  iterate 2 refine e0 ?_
  refine eR0 (fun w k => (ht_2.below k.old).lnk ex.out 6 rfl) ?_
  refine e0 ?_
  refine eA (.cells #[.int .i64 0, .int .i64 0] 44) (fun R7 => ?_)
  refine eP 0 0 [.int .i64 3, .int .i64 x.grp] ?_
  refine sxEnd (fun W8 hK => ?_)
  rw [hx0.out] at hK ⊢
  go_upto_region 3 with (fail)
  refine wp_region_T [1, 0, 3, 4] hK ?_
  clear hK
  refine eL m1 ?_
  refine e0 ?_
  refine eA (.cells #[.int .i64 0, .int .i64 0] 44) (fun R9 => ?_)
  refine eP 0 0 [.int .i64 2, .int .i64 ((hN t a : Nat) : Int)] ?_
  refine sxEnd (fun W10 hK => ?_)
  go_upto_region 4 with (fail)
  refine wp_region_T [0, 0, 0, 3, 4] hK ?_
  clear hK
  refine e0 ?_
  refine eV (.int .i64 ((a / 2 : Nat) : Int)) (fun w' => by go_simp; (try go_bits); first | exact ⟨rfl, rfl⟩ | (refine ⟨congrArg (Value.int .i64) ?_, rfl⟩; omega) | go_num) ?_
  refine e0 ?_
  refine eA (.cells #[.int .i64 0, .int .i64 0] 44) (fun R11 => ?_)
  refine eP 0 0 [.int .i64 1, .int .i64 ((a / 2 : Nat) : Int)] ?_
  refine sxEnd (fun W12 hK => ?_)
  go_upto_region 6 with (fail)
  refine wp_region_T [3] hK ?_
  clear hK
  refine eA (.cells #[.slice none 0 0] 29) (fun R13 => ?_)
  refine sxEnd (fun W14 hK => ?_)
  go_upto_region 7 with (fail)
  refine wp_region_T [0, 1, 0] hK ?_
  clear hK
  refine e0 ?_
  refine eL m3 ?_
  refine eV (.bool false) (fun w' => by go_simp; (try go_bits); exact ⟨rfl, rfl⟩) ?_
  refine sxEnd (fun W15 hK => ?_)
  go_upto_region 9 with (fail)
  refine wp_region_T [0, 1, 2, 3, 4] hK ?_
  clear hK
  refine e0 ?_
  refine eL m2 ?_
  refine eC (fun w k => reach1_any w (ht.below k.old) (c := (⟨2, (hN t a : Int)⟩ : CmpD)) (k.box m6) (k.box m5) hl ht2 hwc htl) (fun x16 => ?_)
  obtain ⟨p17, n17, c17⟩ := x16; dsimp only
  refine eA (.cells #[.slice none 0 0] 29) (fun R18 => ?_)
  refine eP 0 0 [.slice p17 n17 c17] ?_
  refine sxEnd (fun W19 hK => ?_)
  go_upto_region 10 with (fail)
  refine wp_region_T [0, 0, 3, 3, 4] hK ?_
  clear hK
  iterate 2 refine e0 ?_
  refine eA (.cells #[.func (.func 130) #[] #[.pointer (some ⟨R7, 0, none⟩), .pointer (some ⟨R13, 0, none⟩)], .func (.func 131) #[] #[.pointer (some ⟨R9, 0, none⟩), .pointer (some ⟨R4, 0, none⟩), .pointer (some ⟨R18, 0, none⟩)]] 175) (fun R20 => ?_)
  refine eA (.cells #[.slice none 0 0] 176) (fun R21 => ?_)
  refine eP 0 0 [.slice (some ⟨R20, 0, none⟩) 2 2] ?_
  refine sxEnd (fun W22 hK => ?_)
  replace hK := hK.subl (sK2 (sK2 (sK2 (sK2 (sK2 (sC2 (sK2 (sK2 (sK2 (sK2 (sC2 (sC2 sZ2))))))))))))
  replace hK := hK.up4
  replace hK := hK.up4
  replace hK := hK.up4
  replace hK := hK.up8
  replace hK := hK.up7
  replace hK := hK.up8
  replace hK := hK.up8
  replace hK := hK.up8
  replace hK := hK.up8
  go_wp2
  try go_ret
  show Q0 (.returned (.func (.func 132) #[] #[.pointer (some ⟨R21, 0, none⟩), .pointer (some ⟨R11, 0, none⟩)])) _
  exact (by obtain rfl := hQ0.out; exact ⟨⟨R21, R20, R11, R7, R13, R9, R4, R18, ⟨p17, n17, c17⟩⟩, rfl, hK⟩)
set_option maxRecDepth 100000 in
theorem entry1_any (w : World) {p_D : Option Addr} {n_D c_D : Nat} {det : List Bool} (hD : SlV boolK w (.slice p_D n_D c_D) det) (a : Nat) {R5 : Nat} (h5 : Has 0 R5 (.cells #[.slice p_D n_D c_D] 22) w)(hab : a < det.length) :
    Calls Tryz.prog 98 #[.int .i64 (a : Int), .pointer (some ⟨R5, 0, none⟩)] w fun e w' => e = .returned (.bool (det.getD a false)) ∧ Below w.heap.size w w' := by
  have hK := SS.start w
  refine Calls.hide (fun Q0 hQ0 => ?_)
  go_enter Tryz.func98, Tryz.ntmps98
  have i1 : a < n_D := (by have q := hD.one0; omega)
  obtain ⟨g1, o1, rfl⟩ := hD.pt i1
  have l1 : a < det.length := Nat.lt_of_lt_of_eq i1 (hD.one0)
  obtain ⟨D, eD⟩ : ∃ z0, RowKit.Hid (det[a]? = some z0) := ⟨_, hid (List.getElem?_eq_getElem l1)⟩
  go_upto_region 1 with (fail)
  refine wp_region_T [0, 0, 0, 0, 0] hK ?_
  clear hK
  refine eX0 (fun w k => h5.below k.old) ?_
  iterate 2 refine e0 ?_
  refine eR0 (fun w k => (hD.below k.old).bool eD.out) ?_
  refine e0 ?_
  refine sxEnd (fun W2 hK => ?_)
  go_wp2
  try go_ret
  show Q0 (.returned (.bool D)) _
  exact (by obtain rfl := hQ0.out; exact ⟨(by rw [getD_of eD.out]), hK.old⟩)
set_option maxRecDepth 100000 in
theorem indexf_any (w : World) {R5 : Nat} {p_A : Option Addr} {n_A c_A : Nat} {A0 : List Int} (hA : SlV intK w (.slice p_A n_A c_A) A0) {A : List Nat} (hA0 : A0 = natI A) {p_D : Option Addr} {n_D c_D : Nat} {det : List Bool} (hD : SlV boolK w (.slice p_D n_D c_D) det) (h5 : Has 0 R5 (.cells #[.slice p_D n_D c_D] 22) w)(hAb : ∀ a ∈ A, a < det.length) (hAl : A.length ≤ 1000000) :
    Calls Tryz.prog 97 #[.slice p_A n_A c_A, .func (.func 98) #[] #[.pointer (some ⟨R5, 0, none⟩)]] w fun e w' => e = .returned (.int .i64 (ixD det A)) ∧ Below w.heap.size w w' := by
  have hK := SS.start w
  obtain rfl := hA0; have hal := hid (hA.one0.trans (natI_len A)); have hal1 := Nat.le_of_eq hal.out; have hal2 := Nat.le_of_eq hal.out.symm
  refine Calls.hide (fun Q0 hQ0 => ?_)
  go_enter Tryz.func97, Tryz.ntmps97
  go_wp2_with fail
  go_loopw [8] (fun s8 wl => ∃ (kx : Nat), s8 = .int .i64 (kx : Int) ∧ (kx ≤ n_A) ∧ RowKit.Hid (∀ i, i < kx → ∀ b, A[i]? = some b → det.getD b false = false) ∧ SS w ([]) wl) (fun s8 _ => n_A - (intOf s8).toNat)
  case atStart => exact ⟨0, rfl, (by omega), hid (fun i hi => absurd hi (Nat.not_lt_zero _)), hK⟩
  case round =>
   clear hK
   obtain ⟨kx, rfl, hk0, h_no, hK⟩ := hrel
   generalize wr = W1 at hK ⊢
   go_upto_region 2 with (fail)
   refine wp_region_T [0] hK ?_
   clear hK
   refine eB (decide (((kx : Int)) < ((n_A : Int)))) (fun b1 hb1 => ?_)
   refine sxEnd (fun W2 hK => ?_)
   cases b1
   · --
    have q_b1 : ((n_A : Int)) ≤ ((kx : Int)) := Int.not_lt.1 (of_decide_eq_false hb1.out)
    go_wp2
    try go_ret
    show Q0 (.returned (.int .i64 (-1))) _
    exact (by obtain rfl := hQ0.out; exact ⟨(by rw [ixD_none (fun b hb => by { obtain ⟨i, hi⟩ := List.mem_iff_getElem?.1 hb; exact h_no.out i (by have q := (List.getElem?_eq_some_iff.1 hi).1; omega) b hi })]), hK.old⟩)
   · --
    have q_b1 : ((kx : Int)) < ((n_A : Int)) := of_decide_eq_true hb1.out
    have i3 : kx < n_A := (by omega)
    obtain ⟨g3, o3, rfl⟩ := hA.pt i3
    have l3 : kx < (natI A).length := Nat.lt_of_lt_of_eq i3 (hA.one0)
    obtain ⟨xa, exa⟩ : ∃ z0, RowKit.Hid ((natI A)[kx]? = some z0) := ⟨_, hid (List.getElem?_eq_getElem l3)⟩
    obtain ⟨a, ha1, rfl⟩ := natI_at exa.out; have ea1 := hid ha1; have hab := hAb a (List.mem_of_getElem? ha1); clear ha1
    go_upto_region 4 with (fail)
    refine wp_region_T [0, 0, 0, 0, 0, 1] hK ?_
    clear hK
    iterate 4 refine e0 ?_
    refine eR0 (fun w k => (hA.below k.old).int exa.out) ?_
    obtain ⟨b2, hb2⟩ : ∃ z9 : Bool, RowKit.Hid (det.getD a false = z9) := ⟨_, hid rfl⟩
    refine eQ (v := .bool b2) (fun w k => entry1_any w (hD.below k.old) a (h5.below k.old) hab) ?_ (hv := by rw [hb2.out])
    refine sxEnd (fun W4 hK => ?_)
    cases b2
    · --
     (try go_wp2)
     go_roundw
     case rel => exact ⟨kx + 1, (by first | rfl | go_num), (by omega), hid (fun i hi b hb => by { rcases Nat.lt_succ_iff_lt_or_eq.1 hi with hi | rfl; exact h_no.out i hi b hb; obtain rfl : b = a := Option.some.inj (hb.symm.trans ea1.out); exact hb2.out }), hK⟩
     case measure => simp [intOf] <;> omega
    · --
     go_wp2
     try go_ret
     show Q0 (.returned (.int .i64 (kx : Int))) _
     exact (by obtain rfl := hQ0.out; exact ⟨(by rw [ixD_hit h_no.out ea1.out hb2.out]), hK.old⟩)
set_option maxRecDepth 100000 in
set_option maxHeartbeats 4000000 in
theorem entryR_any (w : World) {t : TopD} {p_t : Option Addr} {n_t c_t : Nat} {q_t : Option Addr} {m_t d_t : Nat} (ht : TopV w (.agg #[.int .i64 t.nodes, .slice p_t n_t c_t, .slice q_t m_t d_t]) t) {p_D : Option Addr} {n_D c_D : Nat} {det : List Bool} (hD : SlV boolK w (.slice p_D n_D c_D) det) (n1 : Nat) (d1 : Nat) (hl : t.links.length ≤ 100000) (ht2 : topOk t = true) (hg0 : ∀ x ∈ t.links, x.grp = 0) (hdl0 : det.length = arcsD t) (hn1 : n1 < nN t) (hd1 : d1 < nN t) :
    Calls Tryz.prog 65 #[.agg #[.int .i64 t.nodes, .slice p_t n_t c_t, .slice q_t m_t d_t], .slice p_D n_D c_D, .int .i64 (n1 : Int), .int .i64 (d1 : Int)] w fun e w' => ∃ x : Duo Sl Sl, e = .returned (.agg #[.slice x.a.p x.a.l x.a.c, .bool (entR t det n1 d1).r, .slice x.b.p x.b.l x.b.c]) ∧ SS w [vO intK x.a.p x.a.l x.a.c (natI (entR t det n1 d1).a), rO segK 83 x.b.p x.b.l x.b.c (entR t det n1 d1).p] w' := by
  have ht_1 := ht.parts.1; have ht_2 := ht.parts.2; have b_t : m_t ≤ 100000 := (by rw [ht_2.one0]; exact hl); have a_t : arcsD t ≤ 200000 := (by unfold arcsD; omega)
  have hK := SS.start w
  have hdn := hid (hD.one0.trans hdl0); have hdn1 := Nat.le_of_eq hdn.out; have hdn2 := Nat.le_of_eq hdn.out.symm; have hnm := (topN ht2).2.2.1; have hcn := hid (chkN_okW ht2 hn1 hd1)
  refine Calls.hide (fun Q0 hQ0 => ?_)
  go_enter Tryz.func65, Tryz.ntmps65
  go_upto_region 0 with (fail)
  refine wp_region_T [3, 3, 3] hK ?_
  clear hK
  refine eA (.cells #[.int .i64 t.nodes, .slice p_t n_t c_t, .slice q_t m_t d_t] 25) (fun R1 => ?_)
  refine eA (.cells #[.slice p_D n_D c_D] 22) (fun R2 => ?_)
  refine eA (.cells #[.slice none 0 0, .bool false, .slice none 0 0] 66) (fun R3 => ?_)
  refine sxEnd (fun W4 hK => ?_)
  go_upto_region 1 with (fail)
  refine wp_region_T [1, 0, 0, 2, 0, 0, 0, 0, 0] hK ?_
  clear hK
  refine eL m2 ?_
  iterate 2 refine e0 ?_
  refine eC (fun w k => nextR_any w (ht.below k.old) (SlV.nil (K := boolK)) (n1 : Int) (d1 : Int) hl) (fun x5 => ?_)
  obtain ⟨p6, n6, c6⟩ := x5; dsimp only
  iterate 5 refine e0 ?_
  refine sxEnd (fun W7 hK => ?_)
  go_upto_region 2 with (fail)
  refine wp_region_T [0, 0, 1, 0] hK ?_
  clear hK
  iterate 2 refine e0 ?_
  refine eQ (fun w k => indexf_any w (k.slv m0) rfl (hD.below k.old) (k.box m2) (nxtR_lt ht2 hn1 hd1 hdl0) (Nat.le_trans (nxtR_len _ _ _ _) (by omega))) ?_
  refine e0 ?_
  refine sxEnd (fun W8 hK => ?_)
  go_upto_region 3 with (fail)
  refine wp_region_T [0, 0] hK ?_
  clear hK
  refine e0 ?_
  refine eB (decide (((ixD det (nxtR t [] (n1 : Int) (d1 : Int)))) < 0)) (fun b1 hb1 => ?_)
  refine sxEnd (fun W9 hK => ?_)
  cases b1
  · --
   have q_b1 : 0 ≤ ((ixD det (nxtR t [] (n1 : Int) (d1 : Int)))) := Int.not_lt.1 (of_decide_eq_false hb1.out)
   obtain ⟨kx, a, hkx, hka, had⟩ := ixD_some (Int.not_lt.1 (of_decide_eq_false hb1.out)); rw [hkx]; have hka2 := hid hka; have hfs := hid (fsD_ix hkx hka had); have hmemA := List.mem_of_getElem? hka; have haA : a < arcsD t := nxtR_arc hcn.out hmemA; have htn : tN t a = n1 := nxtR_tail hcn.out hmemA; clear hka hmemA; have hrl := hid ((hK.len m0).trans (natI_len _)); have hkl : kx < n6 := (by rw [hrl.out]; exact (List.getElem?_eq_some_iff.1 hka2.out).1)
   replace hkx := hid hkx
   have i10 : kx < n6 := hkl
   obtain ⟨g10, rfl⟩ := hK.pt m0 i10
   have l10 : kx < (natI (nxtR t ([]) (n1 : Int) (d1 : Int))).length := Nat.lt_of_lt_of_eq i10 (hK.len m0)
   go_upto_region 5 with (fail)
   refine wp_region_S _ [0, 0, 0, 0, 0, 0, 2, 0, 1, 2, 0, 0, 0, 0, 0] hK ?_ (List.Sublist.refl _)
   clear hK
   iterate 2 refine eL0 m3 ?_
   iterate 3 refine e0 ?_
   refine eR0 (fun w k => (k.own m0).int (natI_some hka2.out)) ?_
   refine eC (fun w k => assume_any w (ht.below k.old) a hl ht2 hg0 haA) (fun x11 => ?_)
   obtain ⟨r1312, rr12, r912, r712, r1112, r812, r612, r1212, ⟨sp12, sl12, sc12⟩⟩ := x11; dsimp only
   refine e0 ?_
   refine eQ (fun w k => (assume4_any w d1 (k.box m0) (k.box m1) (k.box m2) (k.box m3) (k.box m4) (k.box m5) (k.box m6) (k.slv m7) (by rw [(k.get m8 : IsFrm t (mskD t (⟨2, (hN t a : Int)⟩ : CmpD)) (tN t a) (frmD t (mskD t (⟨2, (hN t a : Int)⟩ : CmpD)) (tN t a))).1]; exact hd1)).mono fun _ _ q => by rw [asm_eq] at q; exact q) ?_
   refine eC (fun w k => mask_any w (ht.below k.old) (c := asmD t a d1) hl ht2 (asm_win ht2 haA)) (fun x13 => ?_)
   obtain ⟨p14, n14, c14⟩ := x13; dsimp only
   iterate 5 refine e0 ?_
   refine sxEnd (fun W15 hK => ?_)
   have hmn := hid ((hK.len m0).trans mskD_len); have hmn1 := Nat.le_of_eq hmn.out; have hmn2 := Nat.le_of_eq hmn.out.symm
   replace hK := hK.subl (sK2 (sC2 (sC2 (sC2 (sC2 (sC2 (sC2 (sC2 (sC2 (sC2 (sC2 (List.Sublist.refl _))))))))))))
   rw [show mskD t (asmD t a d1) = orP (mskD t (asmD t a d1)) det 0 from orP_0.symm] at hK
   go_wp2_with fail
   go_loopw [46] (fun s46 wl => ∃ (kx : Nat), s46 = .int .i64 (kx : Int) ∧ (kx ≤ n14) ∧ SS w ([rO boolK 4 p14 n14 c14 (orP (mskD t (asmD t a d1)) det kx), bx R3 (.cells #[.slice none 0 0, .bool false, .slice none 0 0] 66), bx R2 (.cells #[.slice p_D n_D c_D] 22), bx R1 (.cells #[.int .i64 t.nodes, .slice p_t n_t c_t, .slice q_t m_t d_t] 25)]) wl) (fun s46 _ => n14 - (intOf s46).toNat)
   case atStart => exact ⟨0, rfl, (by omega), hK⟩
   case round =>
    clear hK
    obtain ⟨kx, rfl, hk0, hK⟩ := hrel
    generalize wr = W16 at hK ⊢
    go_upto_region 7 with (fail)
    refine wp_region_T [0] hK ?_
    clear hK
    refine eB (decide (((kx : Int)) < ((n14 : Int)))) (fun b2 hb2 => ?_)
    refine sxEnd (fun W17 hK => ?_)
    cases b2
    · --
     have q_b2 : ((n14 : Int)) ≤ ((kx : Int)) := Int.not_lt.1 (of_decide_eq_false hb2.out)
     rw [show orP (mskD t (asmD t a d1)) det kx = dn1 t det a d1 from (by rw [show kx = (mskD t (asmD t a d1)).length by rw [mskD_len]; omega]; exact orP_all)] at hK
     have hdl1 : (dn1 t det a d1).length = arcsD t := orD_len.trans mskD_len
     go_upto_region 11 with (fail)
     refine wp_region_T [1, 0, 0, 0, 1, 0] hK ?_
     clear hK
     refine eL m3 ?_
     iterate 3 refine e0 ?_
     obtain ⟨b3, hb3⟩ : ∃ z9 : Bool, RowKit.Hid ((chkT t (dn1 t det a d1) n1 d1 == 0) = z9) := ⟨_, hid rfl⟩
     refine eQ (v := .bool b3) (fun w k => reach_any w (ht.below k.old) (k.slv m0) n1 d1 hl ht2 (hid (.inr hdl1)) hn1 hd1) ?_ (hv := by rw [hb3.out])
     refine e0 ?_
     refine sxEnd (fun W18 hK => ?_)
     cases b3
     · --
      go_upto_region 12 with (fail)
      refine wp_region_T [1, 0] hK ?_
      clear hK
      refine eL m2 ?_
      refine e0 ?_
      refine sxEnd (fun W19 hK => ?_)
      go_upto_region 13 with (fail)
      refine wp_region_T [1, 0, 0, 0, 2, 0, 0, 0, 3, 4, 0] hK ?_
      clear hK
      refine eL m3 ?_
      iterate 3 refine e0 ?_
      have hER : eD t (det) n1 d1 = entR t det n1 d1 := entR_some hfs.out (dn2_n hb3.out)
      refine eC (fun w k => (rentry_any w (ht.below k.old) (hD.below k.old) n1 d1 hl ht2 (hid (.inr hdl0)) hn1 hd1).mono (fun _ _ q => by rw [hER] at q; exact q)) (fun x20 => ?_)
      obtain ⟨⟨ap21, al21, ac21⟩, ⟨bp21, bl21, bc21⟩⟩ := x20; dsimp only
      iterate 3 refine e0 ?_
      refine eA (.cells #[.slice none 0 0, .bool false, .slice none 0 0] 66) (fun R22 => ?_)
      refine eP 0 0 [.slice ap21 al21 ac21, .bool (entR t det n1 d1).r, .slice bp21 bl21 bc21] ?_
      refine e0 ?_
      refine sxEnd (fun W23 hK => ?_)
      go_upto_region 14 with (fail)
      refine wp_region_T [1, 4] hK ?_
      clear hK
      refine eL m0 ?_
      refine eP 4 0 [.slice ap21 al21 ac21, .bool (entR t det n1 d1).r, .slice bp21 bl21 bc21] ?_
      refine sxEnd (fun W24 hK => ?_)
      have ⟨c90, c91, c92⟩ := (hK.box m4).c3
      replace hK := hK.subl (sC2 (sK2 (sK2 (sC2 (sC2 (sC2 (sC2 sZ2)))))))
      go_wp2
      exact bodyPost_ret (v := .agg #[.slice ap21 al21 ac21, .bool (entR t det n1 d1).r, .slice bp21 bl21 bc21]) (by simp [results, Tryz.results65, go_sem, c90, c91, c92]) rfl (by obtain rfl := hQ0.out; exact ⟨⟨⟨ap21, al21, ac21⟩, ⟨bp21, bl21, bc21⟩⟩, rfl, hK⟩)
     · --
      go_upto_region 13 with (fail)
      refine wp_region_T [1, 0, 0, 0, 2, 0, 0, 0, 3, 4, 0] hK ?_
      clear hK
      refine eL m3 ?_
      iterate 3 refine e0 ?_
      have hER : eD t (dn1 t det a d1) n1 d1 = entR t det n1 d1 := entR_some hfs.out (dn2_y hb3.out)
      refine eC (fun w k => (rentry_any w (ht.below k.old) (k.slv m0) n1 d1 hl ht2 (hid (.inr hdl1)) hn1 hd1).mono (fun _ _ q => by rw [hER] at q; exact q)) (fun x25 => ?_)
      obtain ⟨⟨ap26, al26, ac26⟩, ⟨bp26, bl26, bc26⟩⟩ := x25; dsimp only
      iterate 3 refine e0 ?_
      refine eA (.cells #[.slice none 0 0, .bool false, .slice none 0 0] 66) (fun R27 => ?_)
      refine eP 0 0 [.slice ap26 al26 ac26, .bool (entR t det n1 d1).r, .slice bp26 bl26 bc26] ?_
      refine e0 ?_
      refine sxEnd (fun W28 hK => ?_)
      go_upto_region 14 with (fail)
      refine wp_region_T [1, 4] hK ?_
      clear hK
      refine eL m0 ?_
      refine eP 4 0 [.slice ap26 al26 ac26, .bool (entR t det n1 d1).r, .slice bp26 bl26 bc26] ?_
      refine sxEnd (fun W29 hK => ?_)
      have ⟨c90, c91, c92⟩ := (hK.box m4).c3
      replace hK := hK.subl (sC2 (sK2 (sK2 (sC2 (sC2 (sC2 (sC2 sZ2)))))))
      go_wp2
      exact bodyPost_ret (v := .agg #[.slice ap26 al26 ac26, .bool (entR t det n1 d1).r, .slice bp26 bl26 bc26]) (by simp [results, Tryz.results65, go_sem, c90, c91, c92]) rfl (by obtain rfl := hQ0.out; exact ⟨⟨⟨ap26, al26, ac26⟩, ⟨bp26, bl26, bc26⟩⟩, rfl, hK⟩)
    · --
     have q_b2 : ((kx : Int)) < ((n14 : Int)) := of_decide_eq_true hb2.out
     have hol : (orP (mskD t (asmD t a d1)) det kx).length = arcsD t := orP_len.trans mskD_len
     have i30 : kx < n14 := (by omega)
     obtain ⟨g30, rfl⟩ := hK.pt m0 i30
     have l30 : kx < (orP (mskD t (asmD t a d1)) det kx).length := Nat.lt_of_lt_of_eq i30 (hK.len m0)
     obtain ⟨xm, exm⟩ : ∃ z0, RowKit.Hid ((orP (mskD t (asmD t a d1)) det kx)[kx]? = some z0) := ⟨_, hid (List.getElem?_eq_getElem l30)⟩
     have i31 : kx < n_D := (by omega)
     obtain ⟨g31, o31, rfl⟩ := hD.pt i31
     have l31 : kx < det.length := Nat.lt_of_lt_of_eq i31 (hD.one0)
     obtain ⟨xd, exd⟩ : ∃ z0, RowKit.Hid (det[kx]? = some z0) := ⟨_, hid (List.getElem?_eq_getElem l31)⟩
     have hxm := hid (orP_at (show kx < (mskD t (asmD t a d1)).length by rw [mskD_len]; omega) exm.out); have hxd := hid (getD_of (d := false) exd.out)
     go_upto_region 9 with (fail)
     refine wp_region_T [0, 0, 0, 0, 0, 1, 0, 1, 0, 0, 0, 0, 0, 4] hK ?_
     clear hK
     iterate 5 refine e0 ?_
     refine eR (fun w k => (k.own m0).bool exm.out) ?_
     refine e0 ?_
     cases xm
     · --
      refine eL m2 ?_
      iterate 2 refine e0 ?_
      refine eR0 (fun w k => (hD.below k.old).bool exd.out) ?_
      iterate 2 refine e0 ?_
      refine eWB (y := xd) 0 l30 ?_ (hi := rfl)
      refine sxEnd (fun W32 hK => ?_)
      rw [orP_set (b := det) (show kx < (mskD t (asmD t a d1)).length by rw [mskD_len]; omega) (show (xd : Bool) = _ from by rw [hxm.out, hxd.out]; rfl)] at hK
      (try go_wp2)
      go_roundw
      case rel => exact ⟨kx + 1, (by first | rfl | go_num), (by omega), hK⟩
      case measure => simp [intOf] <;> omega
     · --
      iterate 4 refine eN ?_
      iterate 2 refine e0 ?_
      refine eWB (y := true) 0 l30 ?_ (hi := rfl)
      refine sxEnd (fun W33 hK => ?_)
      rw [orP_set (b := det) (show kx < (mskD t (asmD t a d1)).length by rw [mskD_len]; omega) (show (true : Bool) = _ from by rw [hxm.out]; rfl)] at hK
      (try go_wp2)
      go_roundw
      case rel => exact ⟨kx + 1, (by first | rfl | go_num), (by omega), hK⟩
      case measure => simp [intOf] <;> omega
  · --
   have q_b1 : ((ixD det (nxtR t [] (n1 : Int) (d1 : Int)))) < 0 := of_decide_eq_true hb1.out
   go_upto_region 4 with (fail)
   refine wp_region_T [0, 0, 4] hK ?_
   clear hK
   iterate 2 refine e0 ?_
   refine eP 1 0 [.slice p6 n6 c6, .bool false, .slice none 0 0] ?_
   refine sxEnd (fun W34 hK => ?_)
   have ⟨c90, c91, c92⟩ := (hK.box m1).c3
   have hE : entR t det n1 d1 = ⟨nxtR t [] (n1 : Int) (d1 : Int), false, []⟩ := entR_none (fsD_no (of_decide_eq_true hb1.out))
   replace hK := hK.vo; replace hK := (hK.fact (rO segK 83 none 0 0 ([] : List SegD)) OwV.nil (fun _ h => by cases h)).up1; replace hK := hK.subl (sK2 (sK2 (List.nil_sublist _)))
   go_wp2
   exact bodyPost_ret (v := .agg #[.slice p6 n6 c6, .bool false, .slice none 0 0]) (by simp [results, Tryz.results65, go_sem, c90, c91, c92]) rfl (by obtain rfl := hQ0.out; rw [hE]; exact ⟨⟨⟨p6, n6, c6⟩, ⟨none, 0, 0⟩⟩, rfl, hK⟩)
end Go.Proofs.YtmcfomainmppdaaGreatDoor
